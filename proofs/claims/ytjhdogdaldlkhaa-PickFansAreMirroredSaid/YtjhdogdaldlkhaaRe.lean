/- Codecs: what it means that cells hold a number, a string, a struct, a slice; and that an argument that can be read has such cells. -/
import Derived.Test.YtjhdogdaldlkhaaBs
import Derived.Deep.Slices
namespace Go.Proofs.Ytjhdogdaldlkhaa
open Go.RowKit Go.Deep
set_option linter.unusedVariables false
set_option linter.unusedSimpArgs false

theorem Gr.cells {w w' : World} (g : Gr w w') {a : Addr} {n : Nat} {cs : List Value} (h : ∀ i, i < n → w.cell? (a.add i) = cs[i]?) (hl : cs.length = n) : ∀ i, i < n → w'.cell? (a.add i) = cs[i]? := by
  intro i hi
  have h1 := h i hi
  rw [List.getElem?_eq_getElem (by omega)] at h1 ⊢
  exact g.cell h1

/-- How values of a Lean type lie in cells. -/
structure Cod (α : Type) where
  size : Nat
  is : World → List Value → α → Prop
  len : ∀ {w cs a}, is w cs a → cs.length = size
  mono : ∀ {w w' cs a}, is w cs a → Gr w w' → is w' cs a
  bulk : α → Nat

def intC : Cod Int where
  size := 1
  is := fun _ cs n => cs = [.int .i64 n] ∧ -9223372036854775808 ≤ n ∧ n ≤ 9223372036854775807
  len := fun h => by rw [h.1]; rfl
  mono := fun h _ => h
  bulk := fun _ => 1
def boolC : Cod Bool where
  size := 1
  is := fun _ cs b => cs = [.bool b]
  len := fun h => by rw [h]; rfl
  mono := fun h _ => h
  bulk := fun _ => 1
def strC : Cod ByteArray where
  size := 1
  is := fun _ cs s => cs = [.string s] ∧ s.size ≤ maxLen
  len := fun h => by rw [h.1]; rfl
  mono := fun h _ => h
  bulk := fun s => s.size + 1
def Cod.pair {α β : Type} (c : Cod α) (d : Cod β) : Cod (α × β) where
  size := c.size + d.size
  is := fun w cs x => c.is w (cs.take c.size) x.1 ∧ d.is w (cs.drop c.size) x.2
  len := fun {w cs a} h => by
    have h1 := c.len h.1
    have h2 := d.len h.2
    simp at h1 h2
    omega
  mono := fun h g => ⟨c.mono h.1 g, d.mono h.2 g⟩
  bulk := fun x => c.bulk x.1 + d.bulk x.2
/-- A slice's elements, one behind the other. -/
def sliceC {α : Type} (c : Cod α) : Cod (List α) where
  size := 1
  is := fun w cs l => (cs = [.slice none 0 0] ∧ l = []) ∨ ∃ (b off : Nat) (sp : Option Nat) (cap : Nat), cs = [.slice (some ⟨b, off, sp⟩) l.length cap] ∧ l.length ≤ cap ∧ cap ≤ maxLen ∧
    ∀ i (h : i < l.length), sp = none ∧ ∃ cs', (∀ j, j < c.size → w.cell? ⟨b, off + (i * c.size + j), none⟩ = cs'[j]?) ∧ c.is w cs' l[i]
  len := fun h => by
    rcases h with ⟨rfl, _⟩ | ⟨b, off, sp, cap, rfl, _⟩ <;> rfl
  mono := fun {w w' cs l} h g => by
    rcases h with h | ⟨b, off, sp, cap, h1, h2, h3, h4⟩
    · exact .inl h
    · refine .inr ⟨b, off, sp, cap, h1, h2, h3, fun i hi => ?_⟩
      obtain ⟨e, cs', h5, h6⟩ := h4 i hi
      refine ⟨e, cs', fun j hj => ?_, c.mono h6 g⟩
      have h7 := h5 j hj
      have hl := c.len h6
      rw [List.getElem?_eq_getElem (by omega)] at h7 ⊢
      exact g.cell h7
  bulk := fun l => (l.map c.bulk).sum + 1

/-- Whatever can be read as a value of type t has cells of this codec. -/
def ReadsF {α : Type} (F : Nat → Prop) (P : Program) (c : Cod α) (t : TypeId) : Prop :=
  ∀ ⦃H : Type⦄ ⦃enc : TypeId × Value → H⦄ ⦃w : World⦄ ⦃base : Nat⦄ ⦃spare : Nat → Bool⦄ ⦃held : Bool⦄ ⦃fuel : Nat⦄ ⦃cs : List Value⦄ ⦃x : DataW H × List MemPlace⦄, F fuel →
    DataW.trod enc P w base spare held fuel t cs = some x → ∃ a, c.is w cs a ∧ c.bulk a ≤ Rows.uptoBulk x.1
abbrev Reads {α : Type} (P : Program) (c : Cod α) (t : TypeId) : Prop := ReadsF (fun _ => True) P c t
theorem bulkAll_sum {H : Type} (l : List (DataW H)) : Rows.uptoBulkAll l = (l.map Rows.uptoBulk).sum := by
  induction l with
  | nil => rfl
  | cons x r ih => simp only [Rows.uptoBulkAll, List.map_cons, List.sum_cons, ih]
theorem sum_le_range {α : Type} (f : α → Nat) (D : Nat → Nat) : ∀ (l : List α) (o : Nat), (∀ i (h : i < l.length), f l[i] ≤ D (o + i)) → (l.map f).sum ≤ ((List.range' o l.length).map D).sum
  | [], _, _ => by simp
  | x :: r, o, h => by
    simp only [List.length_cons, List.range'_succ, List.map_cons, List.sum_cons]
    have h0 := h 0 (by simp)
    have := sum_le_range f D r (o + 1) (fun i hi => by have := h (i + 1) (by simp; omega); simp only [List.getElem_cons_succ] at this; rw [show o + 1 + i = o + (i + 1) by omega]; exact this)
    simp at h0
    omega

theorem wf_i64 {n : Int} (h : (Lit.int .i64 n).wf = true) : -9223372036854775808 ≤ n ∧ n ≤ 9223372036854775807 := by
  simpa [Lit.wf, IntKind.min, IntKind.max, IntKind.signed, IntKind.bits] using h
theorem bulk_pos {H : Type} (d : DataW H) : 1 ≤ Rows.uptoBulk d := by
  cases d with
  | lit l => cases l <;> simp [Rows.uptoBulk]
  | _ => simp [Rows.uptoBulk]
theorem reads_int {F : Nat → Prop} {P : Program} {t : TypeId} (ht : P.underlying t = some (.int .i64)) : ReadsF F P intC t := by
  intro H enc w base spare held fuel cs x _ h
  obtain ⟨n, rfl, _, hw⟩ := DataW.trod_int ht h
  exact ⟨n, ⟨rfl, wf_i64 hw⟩, bulk_pos _⟩
theorem reads_bool {F : Nat → Prop} {P : Program} {t : TypeId} (ht : P.underlying t = some .bool) : ReadsF F P boolC t := by
  intro H enc w base spare held fuel cs x _ h
  obtain ⟨n, rfl, _⟩ := DataW.trod_bool ht h
  exact ⟨n, rfl, bulk_pos _⟩
theorem reads_str {F : Nat → Prop} {P : Program} {t : TypeId} (ht : P.underlying t = some .string) : ReadsF F P strC t := by
  intro H enc w base spare held fuel cs x _ h
  obtain ⟨n, rfl, hx, hw⟩ := DataW.trod_string ht h
  refine ⟨n, ⟨rfl, hw⟩, ?_⟩
  subst hx
  simp only [Rows.uptoBulk, strC]
  first | (simp; done) | omega
theorem reads_slice {F : Nat → Prop} {P : Program} {α : Type} {c : Cod α} {t e : TypeId} (ht : P.underlying t = some (.slice e)) (hz : P.cellsOf e = c.size) (hp : 0 < c.size) (hr : ReadsF (fun m => F (m + 1)) P c e) : ReadsF F P (sliceC c) t := by
  intro H enc w base spare held fuel cs x hF h
  rcases DataW.trod_slice ht h with ⟨rfl, rfl⟩ | ⟨a, len, cap, elems, rest, n, hfu, rfl, hxe, hb, hl, hm, hlen, hel, h8, h9⟩
  · exact ⟨[], .inl ⟨rfl, rfl⟩, by simp [sliceC, Rows.uptoBulk]⟩
  · obtain ⟨D, hD⟩ : ∃ D : Nat → DataW H, D = fun i => (elems.getD i (.nil, [])).1 := ⟨_, rfl⟩
    have key : ∀ i, i < len → ∃ (y : α) (cs' : List Value), (∀ j, j < c.size → w.cell? (a.add (i * c.size + j)) = cs'[j]?) ∧ c.is w cs' y ∧ c.bulk y ≤ Rows.uptoBulk (D i) := by
      intro i hi
      have hk := hel i hi
      rw [List.getElem?_eq_getElem (by omega)] at hk
      obtain ⟨cs', h1, h2⟩ := Option.bind_eq_some_iff.1 hk
      obtain ⟨y, hy, hyb⟩ := hr (by subst hfu; exact hF) h2
      have hyb : c.bulk y ≤ Rows.uptoBulk (D i) := by
        rw [hD]
        simpa [List.getD, List.getElem?_eq_getElem (show i < elems.length by omega)] using hyb
      obtain ⟨_, h3, h4⟩ := World.cells?_some h1
      refine ⟨y, cs', fun j hj => ?_, hy, hyb⟩
      have := h4 j (by rw [hz]; exact hj)
      rw [hz] at this
      rw [← this, add_add]
    obtain ⟨ys, hys⟩ : ∃ ys : List α, ys.length = len ∧ ∀ i (h : i < ys.length), c.bulk ys[i] ≤ Rows.uptoBulk (D i) ∧ ∃ cs', (∀ j, j < c.size → w.cell? (a.add (i * c.size + j)) = cs'[j]?) ∧ c.is w cs' ys[i] := by
      clear hel hlen h hl hxe h8 h9
      induction len with
      | zero => exact ⟨[], rfl, fun i h => by simp at h⟩
      | succ k ih =>
        obtain ⟨ys, h1, h2⟩ := ih (fun i hi => key i (by omega))
        obtain ⟨y, cs', h3, h4, h4b⟩ := key k (by omega)
        refine ⟨ys ++ [y], by simp [h1], fun i hi => ?_⟩
        by_cases hk : i < ys.length
        · rw [List.getElem_append_left hk]; exact h2 i hk
        · have : i = k := by simp at hi; omega
          subst this
          rw [List.getElem_append_right (by omega)]
          simp only [h1, Nat.sub_self, List.getElem_cons_zero]
          exact ⟨h4b, cs', h3, h4⟩
    obtain ⟨h1, h2⟩ := hys
    obtain ⟨b, off, sp⟩ := a
    refine ⟨ys, .inr ⟨b, off, sp, cap, by rw [h1], by omega, hm, fun i hi => ?_⟩, ?_⟩
    · have hs : sp = none := by
        cases sp with
        | none => rfl
        | some q =>
          exfalso
          obtain ⟨_, cs', h3, h4⟩ := h2 0 (by omega)
          have h5 := h3 0 hp
          have hl := c.len h4
          rw [List.getElem?_eq_getElem (by omega)] at h5
          simp only [Nat.zero_mul, Nat.zero_add, World.cell?, Addr.add] at h5
          split at h5 <;> simp at h5
      obtain ⟨_, cs', h3, h4⟩ := h2 i hi
      subst hs
      refine ⟨rfl, cs', fun j hj => ?_, h4⟩
      have h6 := h3 j hj
      rw [← h6]
      congr 1
      simp only [Addr.add]
      split
      · rename_i h7; simp only [h7, Nat.add_zero]
      · rfl
    · subst hxe
      simp only [sliceC, Rows.uptoBulk, bulkAll_sum, List.map_map]
      have := sum_le_range c.bulk (fun i => Rows.uptoBulk (D i)) ys 0 (fun i hi => by simpa using (h2 i hi).1)
      rw [h1, ← List.range_eq_range'] at this
      have e : List.map (Rows.uptoBulk ∘ fun x => x.1) elems = List.map (fun i => Rows.uptoBulk (D i)) (List.range len) := by
        rw [← hlen, hD]
        apply List.ext_getElem (by simp)
        intro i h3 h4
        simp at h3
        simp [List.getD, List.getElem?_eq_getElem h3]
      rw [e]
      omega
theorem take_drop_all {α : Type} (l : List α) (o n : Nat) (h : l.length = o + n) : (l.drop o).take n = l.drop o := List.take_of_length_le (by simp; omega)

theorem list_of_len1 {α : Type} (l : List α) (h : l.length = 1) : ∃ x0, l = [x0] := by
  match l, h with
  | [x0], _ => exact ⟨x0, rfl⟩
theorem reads_struct1 {F : Nat → Prop} {P : Program} {α0 : Type} {t : TypeId} {f0 : Field} {c0 : Cod α0} (ht : P.underlying t = some (.struct #[f0])) (hz : P.cellsOf t = c0.size) (o0 : f0.offset = 0) (z0 : P.cellsOf f0.type = c0.size) (r0 : ReadsF (fun m => F (m + 1)) P c0 f0.type) : ReadsF F P c0 t := by
  intro H enc w base spare held fuel cs x hF h
  obtain ⟨xs, m, hfu, hxx, hlen, hxl, hf⟩ := DataW.trod_struct ht h
  rw [hz] at hlen
  have hxl : xs.length = 1 := hxl
  have h0 := hf 0 f0 rfl
  rw [o0, z0, List.getElem?_eq_getElem (show 0 < xs.length by omega)] at h0
  obtain ⟨a0, k0, b0⟩ := r0 (by subst hfu; exact hF) h0
  rw [take_drop_all cs (0) c0.size (by omega)] at k0
  refine ⟨a0, ?_, ?_⟩
  · simpa using k0
  · subst hxx
    simp only [Rows.uptoBulk, bulkAll_sum, Cod.pair]
    have hs : (List.map Rows.uptoBulk (xs.map (·.1))).sum = Rows.uptoBulk xs[0].1 := by
      obtain ⟨x0, rfl⟩ := list_of_len1 xs hxl
      simp
    rw [hs]
    exact Nat.le_succ_of_le b0
theorem list_of_len2 {α : Type} (l : List α) (h : l.length = 2) : ∃ x0 x1, l = [x0, x1] := by
  match l, h with
  | [x0, x1], _ => exact ⟨x0, x1, rfl⟩
theorem reads_struct2 {F : Nat → Prop} {P : Program} {α0 α1 : Type} {t : TypeId} {f0 f1 : Field} {c0 : Cod α0} {c1 : Cod α1} (ht : P.underlying t = some (.struct #[f0, f1])) (hz : P.cellsOf t = c0.size + c1.size) (o0 : f0.offset = 0) (o1 : f1.offset = c0.size) (z0 : P.cellsOf f0.type = c0.size) (z1 : P.cellsOf f1.type = c1.size) (r0 : ReadsF (fun m => F (m + 1)) P c0 f0.type) (r1 : ReadsF (fun m => F (m + 1)) P c1 f1.type) : ReadsF F P (c0.pair c1) t := by
  intro H enc w base spare held fuel cs x hF h
  obtain ⟨xs, m, hfu, hxx, hlen, hxl, hf⟩ := DataW.trod_struct ht h
  rw [hz] at hlen
  have hxl : xs.length = 2 := hxl
  have h0 := hf 0 f0 rfl
  rw [o0, z0, List.getElem?_eq_getElem (show 0 < xs.length by omega)] at h0
  obtain ⟨a0, k0, b0⟩ := r0 (by subst hfu; exact hF) h0
  have h1 := hf 1 f1 rfl
  rw [o1, z1, List.getElem?_eq_getElem (show 1 < xs.length by omega)] at h1
  obtain ⟨a1, k1, b1⟩ := r1 (by subst hfu; exact hF) h1
  rw [take_drop_all cs (c0.size) c1.size (by omega)] at k1
  refine ⟨(a0, a1), ?_, ?_⟩
  · exact ⟨by simpa using k0, (by simpa [List.drop_drop, Nat.add_assoc] using k1)⟩
  · subst hxx
    simp only [Rows.uptoBulk, bulkAll_sum, Cod.pair]
    have hs : (List.map Rows.uptoBulk (xs.map (·.1))).sum = Rows.uptoBulk xs[0].1 + (Rows.uptoBulk xs[1].1) := by
      obtain ⟨x0, x1, rfl⟩ := list_of_len2 xs hxl
      simp
    rw [hs]
    exact Nat.le_succ_of_le (Nat.add_le_add b0 b1)
theorem list_of_len3 {α : Type} (l : List α) (h : l.length = 3) : ∃ x0 x1 x2, l = [x0, x1, x2] := by
  match l, h with
  | [x0, x1, x2], _ => exact ⟨x0, x1, x2, rfl⟩
theorem reads_struct3 {F : Nat → Prop} {P : Program} {α0 α1 α2 : Type} {t : TypeId} {f0 f1 f2 : Field} {c0 : Cod α0} {c1 : Cod α1} {c2 : Cod α2} (ht : P.underlying t = some (.struct #[f0, f1, f2])) (hz : P.cellsOf t = c0.size + c1.size + c2.size) (o0 : f0.offset = 0) (o1 : f1.offset = c0.size) (o2 : f2.offset = c0.size + c1.size) (z0 : P.cellsOf f0.type = c0.size) (z1 : P.cellsOf f1.type = c1.size) (z2 : P.cellsOf f2.type = c2.size) (r0 : ReadsF (fun m => F (m + 1)) P c0 f0.type) (r1 : ReadsF (fun m => F (m + 1)) P c1 f1.type) (r2 : ReadsF (fun m => F (m + 1)) P c2 f2.type) : ReadsF F P (c0.pair (c1.pair c2)) t := by
  intro H enc w base spare held fuel cs x hF h
  obtain ⟨xs, m, hfu, hxx, hlen, hxl, hf⟩ := DataW.trod_struct ht h
  rw [hz] at hlen
  have hxl : xs.length = 3 := hxl
  have h0 := hf 0 f0 rfl
  rw [o0, z0, List.getElem?_eq_getElem (show 0 < xs.length by omega)] at h0
  obtain ⟨a0, k0, b0⟩ := r0 (by subst hfu; exact hF) h0
  have h1 := hf 1 f1 rfl
  rw [o1, z1, List.getElem?_eq_getElem (show 1 < xs.length by omega)] at h1
  obtain ⟨a1, k1, b1⟩ := r1 (by subst hfu; exact hF) h1
  have h2 := hf 2 f2 rfl
  rw [o2, z2, List.getElem?_eq_getElem (show 2 < xs.length by omega)] at h2
  obtain ⟨a2, k2, b2⟩ := r2 (by subst hfu; exact hF) h2
  rw [take_drop_all cs (c0.size + c1.size) c2.size (by omega)] at k2
  refine ⟨(a0, (a1, a2)), ?_, ?_⟩
  · exact ⟨by simpa using k0, ⟨by simpa [List.drop_drop, Nat.add_assoc] using k1, (by simpa [List.drop_drop, Nat.add_assoc] using k2)⟩⟩
  · subst hxx
    simp only [Rows.uptoBulk, bulkAll_sum, Cod.pair]
    have hs : (List.map Rows.uptoBulk (xs.map (·.1))).sum = Rows.uptoBulk xs[0].1 + (Rows.uptoBulk xs[1].1 + (Rows.uptoBulk xs[2].1)) := by
      obtain ⟨x0, x1, x2, rfl⟩ := list_of_len3 xs hxl
      simp
    rw [hs]
    exact Nat.le_succ_of_le (Nat.add_le_add b0 (Nat.add_le_add b1 b2))
theorem list_of_len4 {α : Type} (l : List α) (h : l.length = 4) : ∃ x0 x1 x2 x3, l = [x0, x1, x2, x3] := by
  match l, h with
  | [x0, x1, x2, x3], _ => exact ⟨x0, x1, x2, x3, rfl⟩
theorem reads_struct4 {F : Nat → Prop} {P : Program} {α0 α1 α2 α3 : Type} {t : TypeId} {f0 f1 f2 f3 : Field} {c0 : Cod α0} {c1 : Cod α1} {c2 : Cod α2} {c3 : Cod α3} (ht : P.underlying t = some (.struct #[f0, f1, f2, f3])) (hz : P.cellsOf t = c0.size + c1.size + c2.size + c3.size) (o0 : f0.offset = 0) (o1 : f1.offset = c0.size) (o2 : f2.offset = c0.size + c1.size) (o3 : f3.offset = c0.size + c1.size + c2.size) (z0 : P.cellsOf f0.type = c0.size) (z1 : P.cellsOf f1.type = c1.size) (z2 : P.cellsOf f2.type = c2.size) (z3 : P.cellsOf f3.type = c3.size) (r0 : ReadsF (fun m => F (m + 1)) P c0 f0.type) (r1 : ReadsF (fun m => F (m + 1)) P c1 f1.type) (r2 : ReadsF (fun m => F (m + 1)) P c2 f2.type) (r3 : ReadsF (fun m => F (m + 1)) P c3 f3.type) : ReadsF F P (c0.pair (c1.pair (c2.pair c3))) t := by
  intro H enc w base spare held fuel cs x hF h
  obtain ⟨xs, m, hfu, hxx, hlen, hxl, hf⟩ := DataW.trod_struct ht h
  rw [hz] at hlen
  have hxl : xs.length = 4 := hxl
  have h0 := hf 0 f0 rfl
  rw [o0, z0, List.getElem?_eq_getElem (show 0 < xs.length by omega)] at h0
  obtain ⟨a0, k0, b0⟩ := r0 (by subst hfu; exact hF) h0
  have h1 := hf 1 f1 rfl
  rw [o1, z1, List.getElem?_eq_getElem (show 1 < xs.length by omega)] at h1
  obtain ⟨a1, k1, b1⟩ := r1 (by subst hfu; exact hF) h1
  have h2 := hf 2 f2 rfl
  rw [o2, z2, List.getElem?_eq_getElem (show 2 < xs.length by omega)] at h2
  obtain ⟨a2, k2, b2⟩ := r2 (by subst hfu; exact hF) h2
  have h3 := hf 3 f3 rfl
  rw [o3, z3, List.getElem?_eq_getElem (show 3 < xs.length by omega)] at h3
  obtain ⟨a3, k3, b3⟩ := r3 (by subst hfu; exact hF) h3
  rw [take_drop_all cs (c0.size + c1.size + c2.size) c3.size (by omega)] at k3
  refine ⟨(a0, (a1, (a2, a3))), ?_, ?_⟩
  · exact ⟨by simpa using k0, ⟨by simpa [List.drop_drop, Nat.add_assoc] using k1, ⟨by simpa [List.drop_drop, Nat.add_assoc] using k2, (by simpa [List.drop_drop, Nat.add_assoc] using k3)⟩⟩⟩
  · subst hxx
    simp only [Rows.uptoBulk, bulkAll_sum, Cod.pair]
    have hs : (List.map Rows.uptoBulk (xs.map (·.1))).sum = Rows.uptoBulk xs[0].1 + (Rows.uptoBulk xs[1].1 + (Rows.uptoBulk xs[2].1 + (Rows.uptoBulk xs[3].1))) := by
      obtain ⟨x0, x1, x2, x3, rfl⟩ := list_of_len4 xs hxl
      simp
    rw [hs]
    exact Nat.le_succ_of_le (Nat.add_le_add b0 (Nat.add_le_add b1 (Nat.add_le_add b2 b3)))
theorem list_of_len5 {α : Type} (l : List α) (h : l.length = 5) : ∃ x0 x1 x2 x3 x4, l = [x0, x1, x2, x3, x4] := by
  match l, h with
  | [x0, x1, x2, x3, x4], _ => exact ⟨x0, x1, x2, x3, x4, rfl⟩
theorem reads_struct5 {F : Nat → Prop} {P : Program} {α0 α1 α2 α3 α4 : Type} {t : TypeId} {f0 f1 f2 f3 f4 : Field} {c0 : Cod α0} {c1 : Cod α1} {c2 : Cod α2} {c3 : Cod α3} {c4 : Cod α4} (ht : P.underlying t = some (.struct #[f0, f1, f2, f3, f4])) (hz : P.cellsOf t = c0.size + c1.size + c2.size + c3.size + c4.size) (o0 : f0.offset = 0) (o1 : f1.offset = c0.size) (o2 : f2.offset = c0.size + c1.size) (o3 : f3.offset = c0.size + c1.size + c2.size) (o4 : f4.offset = c0.size + c1.size + c2.size + c3.size) (z0 : P.cellsOf f0.type = c0.size) (z1 : P.cellsOf f1.type = c1.size) (z2 : P.cellsOf f2.type = c2.size) (z3 : P.cellsOf f3.type = c3.size) (z4 : P.cellsOf f4.type = c4.size) (r0 : ReadsF (fun m => F (m + 1)) P c0 f0.type) (r1 : ReadsF (fun m => F (m + 1)) P c1 f1.type) (r2 : ReadsF (fun m => F (m + 1)) P c2 f2.type) (r3 : ReadsF (fun m => F (m + 1)) P c3 f3.type) (r4 : ReadsF (fun m => F (m + 1)) P c4 f4.type) : ReadsF F P (c0.pair (c1.pair (c2.pair (c3.pair c4)))) t := by
  intro H enc w base spare held fuel cs x hF h
  obtain ⟨xs, m, hfu, hxx, hlen, hxl, hf⟩ := DataW.trod_struct ht h
  rw [hz] at hlen
  have hxl : xs.length = 5 := hxl
  have h0 := hf 0 f0 rfl
  rw [o0, z0, List.getElem?_eq_getElem (show 0 < xs.length by omega)] at h0
  obtain ⟨a0, k0, b0⟩ := r0 (by subst hfu; exact hF) h0
  have h1 := hf 1 f1 rfl
  rw [o1, z1, List.getElem?_eq_getElem (show 1 < xs.length by omega)] at h1
  obtain ⟨a1, k1, b1⟩ := r1 (by subst hfu; exact hF) h1
  have h2 := hf 2 f2 rfl
  rw [o2, z2, List.getElem?_eq_getElem (show 2 < xs.length by omega)] at h2
  obtain ⟨a2, k2, b2⟩ := r2 (by subst hfu; exact hF) h2
  have h3 := hf 3 f3 rfl
  rw [o3, z3, List.getElem?_eq_getElem (show 3 < xs.length by omega)] at h3
  obtain ⟨a3, k3, b3⟩ := r3 (by subst hfu; exact hF) h3
  have h4 := hf 4 f4 rfl
  rw [o4, z4, List.getElem?_eq_getElem (show 4 < xs.length by omega)] at h4
  obtain ⟨a4, k4, b4⟩ := r4 (by subst hfu; exact hF) h4
  rw [take_drop_all cs (c0.size + c1.size + c2.size + c3.size) c4.size (by omega)] at k4
  refine ⟨(a0, (a1, (a2, (a3, a4)))), ?_, ?_⟩
  · exact ⟨by simpa using k0, ⟨by simpa [List.drop_drop, Nat.add_assoc] using k1, ⟨by simpa [List.drop_drop, Nat.add_assoc] using k2, ⟨by simpa [List.drop_drop, Nat.add_assoc] using k3, (by simpa [List.drop_drop, Nat.add_assoc] using k4)⟩⟩⟩⟩
  · subst hxx
    simp only [Rows.uptoBulk, bulkAll_sum, Cod.pair]
    have hs : (List.map Rows.uptoBulk (xs.map (·.1))).sum = Rows.uptoBulk xs[0].1 + (Rows.uptoBulk xs[1].1 + (Rows.uptoBulk xs[2].1 + (Rows.uptoBulk xs[3].1 + (Rows.uptoBulk xs[4].1)))) := by
      obtain ⟨x0, x1, x2, x3, x4, rfl⟩ := list_of_len5 xs hxl
      simp
    rw [hs]
    exact Nat.le_succ_of_le (Nat.add_le_add b0 (Nat.add_le_add b1 (Nat.add_le_add b2 (Nat.add_le_add b3 b4))))
theorem list_of_len6 {α : Type} (l : List α) (h : l.length = 6) : ∃ x0 x1 x2 x3 x4 x5, l = [x0, x1, x2, x3, x4, x5] := by
  match l, h with
  | [x0, x1, x2, x3, x4, x5], _ => exact ⟨x0, x1, x2, x3, x4, x5, rfl⟩
theorem reads_struct6 {F : Nat → Prop} {P : Program} {α0 α1 α2 α3 α4 α5 : Type} {t : TypeId} {f0 f1 f2 f3 f4 f5 : Field} {c0 : Cod α0} {c1 : Cod α1} {c2 : Cod α2} {c3 : Cod α3} {c4 : Cod α4} {c5 : Cod α5} (ht : P.underlying t = some (.struct #[f0, f1, f2, f3, f4, f5])) (hz : P.cellsOf t = c0.size + c1.size + c2.size + c3.size + c4.size + c5.size) (o0 : f0.offset = 0) (o1 : f1.offset = c0.size) (o2 : f2.offset = c0.size + c1.size) (o3 : f3.offset = c0.size + c1.size + c2.size) (o4 : f4.offset = c0.size + c1.size + c2.size + c3.size) (o5 : f5.offset = c0.size + c1.size + c2.size + c3.size + c4.size) (z0 : P.cellsOf f0.type = c0.size) (z1 : P.cellsOf f1.type = c1.size) (z2 : P.cellsOf f2.type = c2.size) (z3 : P.cellsOf f3.type = c3.size) (z4 : P.cellsOf f4.type = c4.size) (z5 : P.cellsOf f5.type = c5.size) (r0 : ReadsF (fun m => F (m + 1)) P c0 f0.type) (r1 : ReadsF (fun m => F (m + 1)) P c1 f1.type) (r2 : ReadsF (fun m => F (m + 1)) P c2 f2.type) (r3 : ReadsF (fun m => F (m + 1)) P c3 f3.type) (r4 : ReadsF (fun m => F (m + 1)) P c4 f4.type) (r5 : ReadsF (fun m => F (m + 1)) P c5 f5.type) : ReadsF F P (c0.pair (c1.pair (c2.pair (c3.pair (c4.pair c5))))) t := by
  intro H enc w base spare held fuel cs x hF h
  obtain ⟨xs, m, hfu, hxx, hlen, hxl, hf⟩ := DataW.trod_struct ht h
  rw [hz] at hlen
  have hxl : xs.length = 6 := hxl
  have h0 := hf 0 f0 rfl
  rw [o0, z0, List.getElem?_eq_getElem (show 0 < xs.length by omega)] at h0
  obtain ⟨a0, k0, b0⟩ := r0 (by subst hfu; exact hF) h0
  have h1 := hf 1 f1 rfl
  rw [o1, z1, List.getElem?_eq_getElem (show 1 < xs.length by omega)] at h1
  obtain ⟨a1, k1, b1⟩ := r1 (by subst hfu; exact hF) h1
  have h2 := hf 2 f2 rfl
  rw [o2, z2, List.getElem?_eq_getElem (show 2 < xs.length by omega)] at h2
  obtain ⟨a2, k2, b2⟩ := r2 (by subst hfu; exact hF) h2
  have h3 := hf 3 f3 rfl
  rw [o3, z3, List.getElem?_eq_getElem (show 3 < xs.length by omega)] at h3
  obtain ⟨a3, k3, b3⟩ := r3 (by subst hfu; exact hF) h3
  have h4 := hf 4 f4 rfl
  rw [o4, z4, List.getElem?_eq_getElem (show 4 < xs.length by omega)] at h4
  obtain ⟨a4, k4, b4⟩ := r4 (by subst hfu; exact hF) h4
  have h5 := hf 5 f5 rfl
  rw [o5, z5, List.getElem?_eq_getElem (show 5 < xs.length by omega)] at h5
  obtain ⟨a5, k5, b5⟩ := r5 (by subst hfu; exact hF) h5
  rw [take_drop_all cs (c0.size + c1.size + c2.size + c3.size + c4.size) c5.size (by omega)] at k5
  refine ⟨(a0, (a1, (a2, (a3, (a4, a5))))), ?_, ?_⟩
  · exact ⟨by simpa using k0, ⟨by simpa [List.drop_drop, Nat.add_assoc] using k1, ⟨by simpa [List.drop_drop, Nat.add_assoc] using k2, ⟨by simpa [List.drop_drop, Nat.add_assoc] using k3, ⟨by simpa [List.drop_drop, Nat.add_assoc] using k4, (by simpa [List.drop_drop, Nat.add_assoc] using k5)⟩⟩⟩⟩⟩
  · subst hxx
    simp only [Rows.uptoBulk, bulkAll_sum, Cod.pair]
    have hs : (List.map Rows.uptoBulk (xs.map (·.1))).sum = Rows.uptoBulk xs[0].1 + (Rows.uptoBulk xs[1].1 + (Rows.uptoBulk xs[2].1 + (Rows.uptoBulk xs[3].1 + (Rows.uptoBulk xs[4].1 + (Rows.uptoBulk xs[5].1))))) := by
      obtain ⟨x0, x1, x2, x3, x4, x5, rfl⟩ := list_of_len6 xs hxl
      simp
    rw [hs]
    exact Nat.le_succ_of_le (Nat.add_le_add b0 (Nat.add_le_add b1 (Nat.add_le_add b2 (Nat.add_le_add b3 (Nat.add_le_add b4 b5)))))
theorem list_of_len7 {α : Type} (l : List α) (h : l.length = 7) : ∃ x0 x1 x2 x3 x4 x5 x6, l = [x0, x1, x2, x3, x4, x5, x6] := by
  match l, h with
  | [x0, x1, x2, x3, x4, x5, x6], _ => exact ⟨x0, x1, x2, x3, x4, x5, x6, rfl⟩
theorem reads_struct7 {F : Nat → Prop} {P : Program} {α0 α1 α2 α3 α4 α5 α6 : Type} {t : TypeId} {f0 f1 f2 f3 f4 f5 f6 : Field} {c0 : Cod α0} {c1 : Cod α1} {c2 : Cod α2} {c3 : Cod α3} {c4 : Cod α4} {c5 : Cod α5} {c6 : Cod α6} (ht : P.underlying t = some (.struct #[f0, f1, f2, f3, f4, f5, f6])) (hz : P.cellsOf t = c0.size + c1.size + c2.size + c3.size + c4.size + c5.size + c6.size) (o0 : f0.offset = 0) (o1 : f1.offset = c0.size) (o2 : f2.offset = c0.size + c1.size) (o3 : f3.offset = c0.size + c1.size + c2.size) (o4 : f4.offset = c0.size + c1.size + c2.size + c3.size) (o5 : f5.offset = c0.size + c1.size + c2.size + c3.size + c4.size) (o6 : f6.offset = c0.size + c1.size + c2.size + c3.size + c4.size + c5.size) (z0 : P.cellsOf f0.type = c0.size) (z1 : P.cellsOf f1.type = c1.size) (z2 : P.cellsOf f2.type = c2.size) (z3 : P.cellsOf f3.type = c3.size) (z4 : P.cellsOf f4.type = c4.size) (z5 : P.cellsOf f5.type = c5.size) (z6 : P.cellsOf f6.type = c6.size) (r0 : ReadsF (fun m => F (m + 1)) P c0 f0.type) (r1 : ReadsF (fun m => F (m + 1)) P c1 f1.type) (r2 : ReadsF (fun m => F (m + 1)) P c2 f2.type) (r3 : ReadsF (fun m => F (m + 1)) P c3 f3.type) (r4 : ReadsF (fun m => F (m + 1)) P c4 f4.type) (r5 : ReadsF (fun m => F (m + 1)) P c5 f5.type) (r6 : ReadsF (fun m => F (m + 1)) P c6 f6.type) : ReadsF F P (c0.pair (c1.pair (c2.pair (c3.pair (c4.pair (c5.pair c6)))))) t := by
  intro H enc w base spare held fuel cs x hF h
  obtain ⟨xs, m, hfu, hxx, hlen, hxl, hf⟩ := DataW.trod_struct ht h
  rw [hz] at hlen
  have hxl : xs.length = 7 := hxl
  have h0 := hf 0 f0 rfl
  rw [o0, z0, List.getElem?_eq_getElem (show 0 < xs.length by omega)] at h0
  obtain ⟨a0, k0, b0⟩ := r0 (by subst hfu; exact hF) h0
  have h1 := hf 1 f1 rfl
  rw [o1, z1, List.getElem?_eq_getElem (show 1 < xs.length by omega)] at h1
  obtain ⟨a1, k1, b1⟩ := r1 (by subst hfu; exact hF) h1
  have h2 := hf 2 f2 rfl
  rw [o2, z2, List.getElem?_eq_getElem (show 2 < xs.length by omega)] at h2
  obtain ⟨a2, k2, b2⟩ := r2 (by subst hfu; exact hF) h2
  have h3 := hf 3 f3 rfl
  rw [o3, z3, List.getElem?_eq_getElem (show 3 < xs.length by omega)] at h3
  obtain ⟨a3, k3, b3⟩ := r3 (by subst hfu; exact hF) h3
  have h4 := hf 4 f4 rfl
  rw [o4, z4, List.getElem?_eq_getElem (show 4 < xs.length by omega)] at h4
  obtain ⟨a4, k4, b4⟩ := r4 (by subst hfu; exact hF) h4
  have h5 := hf 5 f5 rfl
  rw [o5, z5, List.getElem?_eq_getElem (show 5 < xs.length by omega)] at h5
  obtain ⟨a5, k5, b5⟩ := r5 (by subst hfu; exact hF) h5
  have h6 := hf 6 f6 rfl
  rw [o6, z6, List.getElem?_eq_getElem (show 6 < xs.length by omega)] at h6
  obtain ⟨a6, k6, b6⟩ := r6 (by subst hfu; exact hF) h6
  rw [take_drop_all cs (c0.size + c1.size + c2.size + c3.size + c4.size + c5.size) c6.size (by omega)] at k6
  refine ⟨(a0, (a1, (a2, (a3, (a4, (a5, a6)))))), ?_, ?_⟩
  · exact ⟨by simpa using k0, ⟨by simpa [List.drop_drop, Nat.add_assoc] using k1, ⟨by simpa [List.drop_drop, Nat.add_assoc] using k2, ⟨by simpa [List.drop_drop, Nat.add_assoc] using k3, ⟨by simpa [List.drop_drop, Nat.add_assoc] using k4, ⟨by simpa [List.drop_drop, Nat.add_assoc] using k5, (by simpa [List.drop_drop, Nat.add_assoc] using k6)⟩⟩⟩⟩⟩⟩
  · subst hxx
    simp only [Rows.uptoBulk, bulkAll_sum, Cod.pair]
    have hs : (List.map Rows.uptoBulk (xs.map (·.1))).sum = Rows.uptoBulk xs[0].1 + (Rows.uptoBulk xs[1].1 + (Rows.uptoBulk xs[2].1 + (Rows.uptoBulk xs[3].1 + (Rows.uptoBulk xs[4].1 + (Rows.uptoBulk xs[5].1 + (Rows.uptoBulk xs[6].1)))))) := by
      obtain ⟨x0, x1, x2, x3, x4, x5, x6, rfl⟩ := list_of_len7 xs hxl
      simp
    rw [hs]
    exact Nat.le_succ_of_le (Nat.add_le_add b0 (Nat.add_le_add b1 (Nat.add_le_add b2 (Nat.add_le_add b3 (Nat.add_le_add b4 (Nat.add_le_add b5 b6))))))
theorem list_of_len8 {α : Type} (l : List α) (h : l.length = 8) : ∃ x0 x1 x2 x3 x4 x5 x6 x7, l = [x0, x1, x2, x3, x4, x5, x6, x7] := by
  match l, h with
  | [x0, x1, x2, x3, x4, x5, x6, x7], _ => exact ⟨x0, x1, x2, x3, x4, x5, x6, x7, rfl⟩
theorem reads_struct8 {F : Nat → Prop} {P : Program} {α0 α1 α2 α3 α4 α5 α6 α7 : Type} {t : TypeId} {f0 f1 f2 f3 f4 f5 f6 f7 : Field} {c0 : Cod α0} {c1 : Cod α1} {c2 : Cod α2} {c3 : Cod α3} {c4 : Cod α4} {c5 : Cod α5} {c6 : Cod α6} {c7 : Cod α7} (ht : P.underlying t = some (.struct #[f0, f1, f2, f3, f4, f5, f6, f7])) (hz : P.cellsOf t = c0.size + c1.size + c2.size + c3.size + c4.size + c5.size + c6.size + c7.size) (o0 : f0.offset = 0) (o1 : f1.offset = c0.size) (o2 : f2.offset = c0.size + c1.size) (o3 : f3.offset = c0.size + c1.size + c2.size) (o4 : f4.offset = c0.size + c1.size + c2.size + c3.size) (o5 : f5.offset = c0.size + c1.size + c2.size + c3.size + c4.size) (o6 : f6.offset = c0.size + c1.size + c2.size + c3.size + c4.size + c5.size) (o7 : f7.offset = c0.size + c1.size + c2.size + c3.size + c4.size + c5.size + c6.size) (z0 : P.cellsOf f0.type = c0.size) (z1 : P.cellsOf f1.type = c1.size) (z2 : P.cellsOf f2.type = c2.size) (z3 : P.cellsOf f3.type = c3.size) (z4 : P.cellsOf f4.type = c4.size) (z5 : P.cellsOf f5.type = c5.size) (z6 : P.cellsOf f6.type = c6.size) (z7 : P.cellsOf f7.type = c7.size) (r0 : ReadsF (fun m => F (m + 1)) P c0 f0.type) (r1 : ReadsF (fun m => F (m + 1)) P c1 f1.type) (r2 : ReadsF (fun m => F (m + 1)) P c2 f2.type) (r3 : ReadsF (fun m => F (m + 1)) P c3 f3.type) (r4 : ReadsF (fun m => F (m + 1)) P c4 f4.type) (r5 : ReadsF (fun m => F (m + 1)) P c5 f5.type) (r6 : ReadsF (fun m => F (m + 1)) P c6 f6.type) (r7 : ReadsF (fun m => F (m + 1)) P c7 f7.type) : ReadsF F P (c0.pair (c1.pair (c2.pair (c3.pair (c4.pair (c5.pair (c6.pair c7))))))) t := by
  intro H enc w base spare held fuel cs x hF h
  obtain ⟨xs, m, hfu, hxx, hlen, hxl, hf⟩ := DataW.trod_struct ht h
  rw [hz] at hlen
  have hxl : xs.length = 8 := hxl
  have h0 := hf 0 f0 rfl
  rw [o0, z0, List.getElem?_eq_getElem (show 0 < xs.length by omega)] at h0
  obtain ⟨a0, k0, b0⟩ := r0 (by subst hfu; exact hF) h0
  have h1 := hf 1 f1 rfl
  rw [o1, z1, List.getElem?_eq_getElem (show 1 < xs.length by omega)] at h1
  obtain ⟨a1, k1, b1⟩ := r1 (by subst hfu; exact hF) h1
  have h2 := hf 2 f2 rfl
  rw [o2, z2, List.getElem?_eq_getElem (show 2 < xs.length by omega)] at h2
  obtain ⟨a2, k2, b2⟩ := r2 (by subst hfu; exact hF) h2
  have h3 := hf 3 f3 rfl
  rw [o3, z3, List.getElem?_eq_getElem (show 3 < xs.length by omega)] at h3
  obtain ⟨a3, k3, b3⟩ := r3 (by subst hfu; exact hF) h3
  have h4 := hf 4 f4 rfl
  rw [o4, z4, List.getElem?_eq_getElem (show 4 < xs.length by omega)] at h4
  obtain ⟨a4, k4, b4⟩ := r4 (by subst hfu; exact hF) h4
  have h5 := hf 5 f5 rfl
  rw [o5, z5, List.getElem?_eq_getElem (show 5 < xs.length by omega)] at h5
  obtain ⟨a5, k5, b5⟩ := r5 (by subst hfu; exact hF) h5
  have h6 := hf 6 f6 rfl
  rw [o6, z6, List.getElem?_eq_getElem (show 6 < xs.length by omega)] at h6
  obtain ⟨a6, k6, b6⟩ := r6 (by subst hfu; exact hF) h6
  have h7 := hf 7 f7 rfl
  rw [o7, z7, List.getElem?_eq_getElem (show 7 < xs.length by omega)] at h7
  obtain ⟨a7, k7, b7⟩ := r7 (by subst hfu; exact hF) h7
  rw [take_drop_all cs (c0.size + c1.size + c2.size + c3.size + c4.size + c5.size + c6.size) c7.size (by omega)] at k7
  refine ⟨(a0, (a1, (a2, (a3, (a4, (a5, (a6, a7))))))), ?_, ?_⟩
  · exact ⟨by simpa using k0, ⟨by simpa [List.drop_drop, Nat.add_assoc] using k1, ⟨by simpa [List.drop_drop, Nat.add_assoc] using k2, ⟨by simpa [List.drop_drop, Nat.add_assoc] using k3, ⟨by simpa [List.drop_drop, Nat.add_assoc] using k4, ⟨by simpa [List.drop_drop, Nat.add_assoc] using k5, ⟨by simpa [List.drop_drop, Nat.add_assoc] using k6, (by simpa [List.drop_drop, Nat.add_assoc] using k7)⟩⟩⟩⟩⟩⟩⟩
  · subst hxx
    simp only [Rows.uptoBulk, bulkAll_sum, Cod.pair]
    have hs : (List.map Rows.uptoBulk (xs.map (·.1))).sum = Rows.uptoBulk xs[0].1 + (Rows.uptoBulk xs[1].1 + (Rows.uptoBulk xs[2].1 + (Rows.uptoBulk xs[3].1 + (Rows.uptoBulk xs[4].1 + (Rows.uptoBulk xs[5].1 + (Rows.uptoBulk xs[6].1 + (Rows.uptoBulk xs[7].1))))))) := by
      obtain ⟨x0, x1, x2, x3, x4, x5, x6, x7, rfl⟩ := list_of_len8 xs hxl
      simp
    rw [hs]
    exact Nat.le_succ_of_le (Nat.add_le_add b0 (Nat.add_le_add b1 (Nat.add_le_add b2 (Nat.add_le_add b3 (Nat.add_le_add b4 (Nat.add_le_add b5 (Nat.add_le_add b6 b7)))))))
theorem list_of_len9 {α : Type} (l : List α) (h : l.length = 9) : ∃ x0 x1 x2 x3 x4 x5 x6 x7 x8, l = [x0, x1, x2, x3, x4, x5, x6, x7, x8] := by
  match l, h with
  | [x0, x1, x2, x3, x4, x5, x6, x7, x8], _ => exact ⟨x0, x1, x2, x3, x4, x5, x6, x7, x8, rfl⟩
theorem reads_struct9 {F : Nat → Prop} {P : Program} {α0 α1 α2 α3 α4 α5 α6 α7 α8 : Type} {t : TypeId} {f0 f1 f2 f3 f4 f5 f6 f7 f8 : Field} {c0 : Cod α0} {c1 : Cod α1} {c2 : Cod α2} {c3 : Cod α3} {c4 : Cod α4} {c5 : Cod α5} {c6 : Cod α6} {c7 : Cod α7} {c8 : Cod α8} (ht : P.underlying t = some (.struct #[f0, f1, f2, f3, f4, f5, f6, f7, f8])) (hz : P.cellsOf t = c0.size + c1.size + c2.size + c3.size + c4.size + c5.size + c6.size + c7.size + c8.size) (o0 : f0.offset = 0) (o1 : f1.offset = c0.size) (o2 : f2.offset = c0.size + c1.size) (o3 : f3.offset = c0.size + c1.size + c2.size) (o4 : f4.offset = c0.size + c1.size + c2.size + c3.size) (o5 : f5.offset = c0.size + c1.size + c2.size + c3.size + c4.size) (o6 : f6.offset = c0.size + c1.size + c2.size + c3.size + c4.size + c5.size) (o7 : f7.offset = c0.size + c1.size + c2.size + c3.size + c4.size + c5.size + c6.size) (o8 : f8.offset = c0.size + c1.size + c2.size + c3.size + c4.size + c5.size + c6.size + c7.size) (z0 : P.cellsOf f0.type = c0.size) (z1 : P.cellsOf f1.type = c1.size) (z2 : P.cellsOf f2.type = c2.size) (z3 : P.cellsOf f3.type = c3.size) (z4 : P.cellsOf f4.type = c4.size) (z5 : P.cellsOf f5.type = c5.size) (z6 : P.cellsOf f6.type = c6.size) (z7 : P.cellsOf f7.type = c7.size) (z8 : P.cellsOf f8.type = c8.size) (r0 : ReadsF (fun m => F (m + 1)) P c0 f0.type) (r1 : ReadsF (fun m => F (m + 1)) P c1 f1.type) (r2 : ReadsF (fun m => F (m + 1)) P c2 f2.type) (r3 : ReadsF (fun m => F (m + 1)) P c3 f3.type) (r4 : ReadsF (fun m => F (m + 1)) P c4 f4.type) (r5 : ReadsF (fun m => F (m + 1)) P c5 f5.type) (r6 : ReadsF (fun m => F (m + 1)) P c6 f6.type) (r7 : ReadsF (fun m => F (m + 1)) P c7 f7.type) (r8 : ReadsF (fun m => F (m + 1)) P c8 f8.type) : ReadsF F P (c0.pair (c1.pair (c2.pair (c3.pair (c4.pair (c5.pair (c6.pair (c7.pair c8)))))))) t := by
  intro H enc w base spare held fuel cs x hF h
  obtain ⟨xs, m, hfu, hxx, hlen, hxl, hf⟩ := DataW.trod_struct ht h
  rw [hz] at hlen
  have hxl : xs.length = 9 := hxl
  have h0 := hf 0 f0 rfl
  rw [o0, z0, List.getElem?_eq_getElem (show 0 < xs.length by omega)] at h0
  obtain ⟨a0, k0, b0⟩ := r0 (by subst hfu; exact hF) h0
  have h1 := hf 1 f1 rfl
  rw [o1, z1, List.getElem?_eq_getElem (show 1 < xs.length by omega)] at h1
  obtain ⟨a1, k1, b1⟩ := r1 (by subst hfu; exact hF) h1
  have h2 := hf 2 f2 rfl
  rw [o2, z2, List.getElem?_eq_getElem (show 2 < xs.length by omega)] at h2
  obtain ⟨a2, k2, b2⟩ := r2 (by subst hfu; exact hF) h2
  have h3 := hf 3 f3 rfl
  rw [o3, z3, List.getElem?_eq_getElem (show 3 < xs.length by omega)] at h3
  obtain ⟨a3, k3, b3⟩ := r3 (by subst hfu; exact hF) h3
  have h4 := hf 4 f4 rfl
  rw [o4, z4, List.getElem?_eq_getElem (show 4 < xs.length by omega)] at h4
  obtain ⟨a4, k4, b4⟩ := r4 (by subst hfu; exact hF) h4
  have h5 := hf 5 f5 rfl
  rw [o5, z5, List.getElem?_eq_getElem (show 5 < xs.length by omega)] at h5
  obtain ⟨a5, k5, b5⟩ := r5 (by subst hfu; exact hF) h5
  have h6 := hf 6 f6 rfl
  rw [o6, z6, List.getElem?_eq_getElem (show 6 < xs.length by omega)] at h6
  obtain ⟨a6, k6, b6⟩ := r6 (by subst hfu; exact hF) h6
  have h7 := hf 7 f7 rfl
  rw [o7, z7, List.getElem?_eq_getElem (show 7 < xs.length by omega)] at h7
  obtain ⟨a7, k7, b7⟩ := r7 (by subst hfu; exact hF) h7
  have h8 := hf 8 f8 rfl
  rw [o8, z8, List.getElem?_eq_getElem (show 8 < xs.length by omega)] at h8
  obtain ⟨a8, k8, b8⟩ := r8 (by subst hfu; exact hF) h8
  rw [take_drop_all cs (c0.size + c1.size + c2.size + c3.size + c4.size + c5.size + c6.size + c7.size) c8.size (by omega)] at k8
  refine ⟨(a0, (a1, (a2, (a3, (a4, (a5, (a6, (a7, a8)))))))), ?_, ?_⟩
  · exact ⟨by simpa using k0, ⟨by simpa [List.drop_drop, Nat.add_assoc] using k1, ⟨by simpa [List.drop_drop, Nat.add_assoc] using k2, ⟨by simpa [List.drop_drop, Nat.add_assoc] using k3, ⟨by simpa [List.drop_drop, Nat.add_assoc] using k4, ⟨by simpa [List.drop_drop, Nat.add_assoc] using k5, ⟨by simpa [List.drop_drop, Nat.add_assoc] using k6, ⟨by simpa [List.drop_drop, Nat.add_assoc] using k7, (by simpa [List.drop_drop, Nat.add_assoc] using k8)⟩⟩⟩⟩⟩⟩⟩⟩
  · subst hxx
    simp only [Rows.uptoBulk, bulkAll_sum, Cod.pair]
    have hs : (List.map Rows.uptoBulk (xs.map (·.1))).sum = Rows.uptoBulk xs[0].1 + (Rows.uptoBulk xs[1].1 + (Rows.uptoBulk xs[2].1 + (Rows.uptoBulk xs[3].1 + (Rows.uptoBulk xs[4].1 + (Rows.uptoBulk xs[5].1 + (Rows.uptoBulk xs[6].1 + (Rows.uptoBulk xs[7].1 + (Rows.uptoBulk xs[8].1)))))))) := by
      obtain ⟨x0, x1, x2, x3, x4, x5, x6, x7, x8, rfl⟩ := list_of_len9 xs hxl
      simp
    rw [hs]
    exact Nat.le_succ_of_le (Nat.add_le_add b0 (Nat.add_le_add b1 (Nat.add_le_add b2 (Nat.add_le_add b3 (Nat.add_le_add b4 (Nat.add_le_add b5 (Nat.add_le_add b6 (Nat.add_le_add b7 b8))))))))
theorem list_of_len10 {α : Type} (l : List α) (h : l.length = 10) : ∃ x0 x1 x2 x3 x4 x5 x6 x7 x8 x9, l = [x0, x1, x2, x3, x4, x5, x6, x7, x8, x9] := by
  match l, h with
  | [x0, x1, x2, x3, x4, x5, x6, x7, x8, x9], _ => exact ⟨x0, x1, x2, x3, x4, x5, x6, x7, x8, x9, rfl⟩
theorem reads_struct10 {F : Nat → Prop} {P : Program} {α0 α1 α2 α3 α4 α5 α6 α7 α8 α9 : Type} {t : TypeId} {f0 f1 f2 f3 f4 f5 f6 f7 f8 f9 : Field} {c0 : Cod α0} {c1 : Cod α1} {c2 : Cod α2} {c3 : Cod α3} {c4 : Cod α4} {c5 : Cod α5} {c6 : Cod α6} {c7 : Cod α7} {c8 : Cod α8} {c9 : Cod α9} (ht : P.underlying t = some (.struct #[f0, f1, f2, f3, f4, f5, f6, f7, f8, f9])) (hz : P.cellsOf t = c0.size + c1.size + c2.size + c3.size + c4.size + c5.size + c6.size + c7.size + c8.size + c9.size) (o0 : f0.offset = 0) (o1 : f1.offset = c0.size) (o2 : f2.offset = c0.size + c1.size) (o3 : f3.offset = c0.size + c1.size + c2.size) (o4 : f4.offset = c0.size + c1.size + c2.size + c3.size) (o5 : f5.offset = c0.size + c1.size + c2.size + c3.size + c4.size) (o6 : f6.offset = c0.size + c1.size + c2.size + c3.size + c4.size + c5.size) (o7 : f7.offset = c0.size + c1.size + c2.size + c3.size + c4.size + c5.size + c6.size) (o8 : f8.offset = c0.size + c1.size + c2.size + c3.size + c4.size + c5.size + c6.size + c7.size) (o9 : f9.offset = c0.size + c1.size + c2.size + c3.size + c4.size + c5.size + c6.size + c7.size + c8.size) (z0 : P.cellsOf f0.type = c0.size) (z1 : P.cellsOf f1.type = c1.size) (z2 : P.cellsOf f2.type = c2.size) (z3 : P.cellsOf f3.type = c3.size) (z4 : P.cellsOf f4.type = c4.size) (z5 : P.cellsOf f5.type = c5.size) (z6 : P.cellsOf f6.type = c6.size) (z7 : P.cellsOf f7.type = c7.size) (z8 : P.cellsOf f8.type = c8.size) (z9 : P.cellsOf f9.type = c9.size) (r0 : ReadsF (fun m => F (m + 1)) P c0 f0.type) (r1 : ReadsF (fun m => F (m + 1)) P c1 f1.type) (r2 : ReadsF (fun m => F (m + 1)) P c2 f2.type) (r3 : ReadsF (fun m => F (m + 1)) P c3 f3.type) (r4 : ReadsF (fun m => F (m + 1)) P c4 f4.type) (r5 : ReadsF (fun m => F (m + 1)) P c5 f5.type) (r6 : ReadsF (fun m => F (m + 1)) P c6 f6.type) (r7 : ReadsF (fun m => F (m + 1)) P c7 f7.type) (r8 : ReadsF (fun m => F (m + 1)) P c8 f8.type) (r9 : ReadsF (fun m => F (m + 1)) P c9 f9.type) : ReadsF F P (c0.pair (c1.pair (c2.pair (c3.pair (c4.pair (c5.pair (c6.pair (c7.pair (c8.pair c9))))))))) t := by
  intro H enc w base spare held fuel cs x hF h
  obtain ⟨xs, m, hfu, hxx, hlen, hxl, hf⟩ := DataW.trod_struct ht h
  rw [hz] at hlen
  have hxl : xs.length = 10 := hxl
  have h0 := hf 0 f0 rfl
  rw [o0, z0, List.getElem?_eq_getElem (show 0 < xs.length by omega)] at h0
  obtain ⟨a0, k0, b0⟩ := r0 (by subst hfu; exact hF) h0
  have h1 := hf 1 f1 rfl
  rw [o1, z1, List.getElem?_eq_getElem (show 1 < xs.length by omega)] at h1
  obtain ⟨a1, k1, b1⟩ := r1 (by subst hfu; exact hF) h1
  have h2 := hf 2 f2 rfl
  rw [o2, z2, List.getElem?_eq_getElem (show 2 < xs.length by omega)] at h2
  obtain ⟨a2, k2, b2⟩ := r2 (by subst hfu; exact hF) h2
  have h3 := hf 3 f3 rfl
  rw [o3, z3, List.getElem?_eq_getElem (show 3 < xs.length by omega)] at h3
  obtain ⟨a3, k3, b3⟩ := r3 (by subst hfu; exact hF) h3
  have h4 := hf 4 f4 rfl
  rw [o4, z4, List.getElem?_eq_getElem (show 4 < xs.length by omega)] at h4
  obtain ⟨a4, k4, b4⟩ := r4 (by subst hfu; exact hF) h4
  have h5 := hf 5 f5 rfl
  rw [o5, z5, List.getElem?_eq_getElem (show 5 < xs.length by omega)] at h5
  obtain ⟨a5, k5, b5⟩ := r5 (by subst hfu; exact hF) h5
  have h6 := hf 6 f6 rfl
  rw [o6, z6, List.getElem?_eq_getElem (show 6 < xs.length by omega)] at h6
  obtain ⟨a6, k6, b6⟩ := r6 (by subst hfu; exact hF) h6
  have h7 := hf 7 f7 rfl
  rw [o7, z7, List.getElem?_eq_getElem (show 7 < xs.length by omega)] at h7
  obtain ⟨a7, k7, b7⟩ := r7 (by subst hfu; exact hF) h7
  have h8 := hf 8 f8 rfl
  rw [o8, z8, List.getElem?_eq_getElem (show 8 < xs.length by omega)] at h8
  obtain ⟨a8, k8, b8⟩ := r8 (by subst hfu; exact hF) h8
  have h9 := hf 9 f9 rfl
  rw [o9, z9, List.getElem?_eq_getElem (show 9 < xs.length by omega)] at h9
  obtain ⟨a9, k9, b9⟩ := r9 (by subst hfu; exact hF) h9
  rw [take_drop_all cs (c0.size + c1.size + c2.size + c3.size + c4.size + c5.size + c6.size + c7.size + c8.size) c9.size (by omega)] at k9
  refine ⟨(a0, (a1, (a2, (a3, (a4, (a5, (a6, (a7, (a8, a9))))))))), ?_, ?_⟩
  · exact ⟨by simpa using k0, ⟨by simpa [List.drop_drop, Nat.add_assoc] using k1, ⟨by simpa [List.drop_drop, Nat.add_assoc] using k2, ⟨by simpa [List.drop_drop, Nat.add_assoc] using k3, ⟨by simpa [List.drop_drop, Nat.add_assoc] using k4, ⟨by simpa [List.drop_drop, Nat.add_assoc] using k5, ⟨by simpa [List.drop_drop, Nat.add_assoc] using k6, ⟨by simpa [List.drop_drop, Nat.add_assoc] using k7, ⟨by simpa [List.drop_drop, Nat.add_assoc] using k8, (by simpa [List.drop_drop, Nat.add_assoc] using k9)⟩⟩⟩⟩⟩⟩⟩⟩⟩
  · subst hxx
    simp only [Rows.uptoBulk, bulkAll_sum, Cod.pair]
    have hs : (List.map Rows.uptoBulk (xs.map (·.1))).sum = Rows.uptoBulk xs[0].1 + (Rows.uptoBulk xs[1].1 + (Rows.uptoBulk xs[2].1 + (Rows.uptoBulk xs[3].1 + (Rows.uptoBulk xs[4].1 + (Rows.uptoBulk xs[5].1 + (Rows.uptoBulk xs[6].1 + (Rows.uptoBulk xs[7].1 + (Rows.uptoBulk xs[8].1 + (Rows.uptoBulk xs[9].1))))))))) := by
      obtain ⟨x0, x1, x2, x3, x4, x5, x6, x7, x8, x9, rfl⟩ := list_of_len10 xs hxl
      simp
    rw [hs]
    exact Nat.le_succ_of_le (Nat.add_le_add b0 (Nat.add_le_add b1 (Nat.add_le_add b2 (Nat.add_le_add b3 (Nat.add_le_add b4 (Nat.add_le_add b5 (Nat.add_le_add b6 (Nat.add_le_add b7 (Nat.add_le_add b8 b9)))))))))
theorem list_of_len11 {α : Type} (l : List α) (h : l.length = 11) : ∃ x0 x1 x2 x3 x4 x5 x6 x7 x8 x9 x10, l = [x0, x1, x2, x3, x4, x5, x6, x7, x8, x9, x10] := by
  match l, h with
  | [x0, x1, x2, x3, x4, x5, x6, x7, x8, x9, x10], _ => exact ⟨x0, x1, x2, x3, x4, x5, x6, x7, x8, x9, x10, rfl⟩
theorem reads_struct11 {F : Nat → Prop} {P : Program} {α0 α1 α2 α3 α4 α5 α6 α7 α8 α9 α10 : Type} {t : TypeId} {f0 f1 f2 f3 f4 f5 f6 f7 f8 f9 f10 : Field} {c0 : Cod α0} {c1 : Cod α1} {c2 : Cod α2} {c3 : Cod α3} {c4 : Cod α4} {c5 : Cod α5} {c6 : Cod α6} {c7 : Cod α7} {c8 : Cod α8} {c9 : Cod α9} {c10 : Cod α10} (ht : P.underlying t = some (.struct #[f0, f1, f2, f3, f4, f5, f6, f7, f8, f9, f10])) (hz : P.cellsOf t = c0.size + c1.size + c2.size + c3.size + c4.size + c5.size + c6.size + c7.size + c8.size + c9.size + c10.size) (o0 : f0.offset = 0) (o1 : f1.offset = c0.size) (o2 : f2.offset = c0.size + c1.size) (o3 : f3.offset = c0.size + c1.size + c2.size) (o4 : f4.offset = c0.size + c1.size + c2.size + c3.size) (o5 : f5.offset = c0.size + c1.size + c2.size + c3.size + c4.size) (o6 : f6.offset = c0.size + c1.size + c2.size + c3.size + c4.size + c5.size) (o7 : f7.offset = c0.size + c1.size + c2.size + c3.size + c4.size + c5.size + c6.size) (o8 : f8.offset = c0.size + c1.size + c2.size + c3.size + c4.size + c5.size + c6.size + c7.size) (o9 : f9.offset = c0.size + c1.size + c2.size + c3.size + c4.size + c5.size + c6.size + c7.size + c8.size) (o10 : f10.offset = c0.size + c1.size + c2.size + c3.size + c4.size + c5.size + c6.size + c7.size + c8.size + c9.size) (z0 : P.cellsOf f0.type = c0.size) (z1 : P.cellsOf f1.type = c1.size) (z2 : P.cellsOf f2.type = c2.size) (z3 : P.cellsOf f3.type = c3.size) (z4 : P.cellsOf f4.type = c4.size) (z5 : P.cellsOf f5.type = c5.size) (z6 : P.cellsOf f6.type = c6.size) (z7 : P.cellsOf f7.type = c7.size) (z8 : P.cellsOf f8.type = c8.size) (z9 : P.cellsOf f9.type = c9.size) (z10 : P.cellsOf f10.type = c10.size) (r0 : ReadsF (fun m => F (m + 1)) P c0 f0.type) (r1 : ReadsF (fun m => F (m + 1)) P c1 f1.type) (r2 : ReadsF (fun m => F (m + 1)) P c2 f2.type) (r3 : ReadsF (fun m => F (m + 1)) P c3 f3.type) (r4 : ReadsF (fun m => F (m + 1)) P c4 f4.type) (r5 : ReadsF (fun m => F (m + 1)) P c5 f5.type) (r6 : ReadsF (fun m => F (m + 1)) P c6 f6.type) (r7 : ReadsF (fun m => F (m + 1)) P c7 f7.type) (r8 : ReadsF (fun m => F (m + 1)) P c8 f8.type) (r9 : ReadsF (fun m => F (m + 1)) P c9 f9.type) (r10 : ReadsF (fun m => F (m + 1)) P c10 f10.type) : ReadsF F P (c0.pair (c1.pair (c2.pair (c3.pair (c4.pair (c5.pair (c6.pair (c7.pair (c8.pair (c9.pair c10)))))))))) t := by
  intro H enc w base spare held fuel cs x hF h
  obtain ⟨xs, m, hfu, hxx, hlen, hxl, hf⟩ := DataW.trod_struct ht h
  rw [hz] at hlen
  have hxl : xs.length = 11 := hxl
  have h0 := hf 0 f0 rfl
  rw [o0, z0, List.getElem?_eq_getElem (show 0 < xs.length by omega)] at h0
  obtain ⟨a0, k0, b0⟩ := r0 (by subst hfu; exact hF) h0
  have h1 := hf 1 f1 rfl
  rw [o1, z1, List.getElem?_eq_getElem (show 1 < xs.length by omega)] at h1
  obtain ⟨a1, k1, b1⟩ := r1 (by subst hfu; exact hF) h1
  have h2 := hf 2 f2 rfl
  rw [o2, z2, List.getElem?_eq_getElem (show 2 < xs.length by omega)] at h2
  obtain ⟨a2, k2, b2⟩ := r2 (by subst hfu; exact hF) h2
  have h3 := hf 3 f3 rfl
  rw [o3, z3, List.getElem?_eq_getElem (show 3 < xs.length by omega)] at h3
  obtain ⟨a3, k3, b3⟩ := r3 (by subst hfu; exact hF) h3
  have h4 := hf 4 f4 rfl
  rw [o4, z4, List.getElem?_eq_getElem (show 4 < xs.length by omega)] at h4
  obtain ⟨a4, k4, b4⟩ := r4 (by subst hfu; exact hF) h4
  have h5 := hf 5 f5 rfl
  rw [o5, z5, List.getElem?_eq_getElem (show 5 < xs.length by omega)] at h5
  obtain ⟨a5, k5, b5⟩ := r5 (by subst hfu; exact hF) h5
  have h6 := hf 6 f6 rfl
  rw [o6, z6, List.getElem?_eq_getElem (show 6 < xs.length by omega)] at h6
  obtain ⟨a6, k6, b6⟩ := r6 (by subst hfu; exact hF) h6
  have h7 := hf 7 f7 rfl
  rw [o7, z7, List.getElem?_eq_getElem (show 7 < xs.length by omega)] at h7
  obtain ⟨a7, k7, b7⟩ := r7 (by subst hfu; exact hF) h7
  have h8 := hf 8 f8 rfl
  rw [o8, z8, List.getElem?_eq_getElem (show 8 < xs.length by omega)] at h8
  obtain ⟨a8, k8, b8⟩ := r8 (by subst hfu; exact hF) h8
  have h9 := hf 9 f9 rfl
  rw [o9, z9, List.getElem?_eq_getElem (show 9 < xs.length by omega)] at h9
  obtain ⟨a9, k9, b9⟩ := r9 (by subst hfu; exact hF) h9
  have h10 := hf 10 f10 rfl
  rw [o10, z10, List.getElem?_eq_getElem (show 10 < xs.length by omega)] at h10
  obtain ⟨a10, k10, b10⟩ := r10 (by subst hfu; exact hF) h10
  rw [take_drop_all cs (c0.size + c1.size + c2.size + c3.size + c4.size + c5.size + c6.size + c7.size + c8.size + c9.size) c10.size (by omega)] at k10
  refine ⟨(a0, (a1, (a2, (a3, (a4, (a5, (a6, (a7, (a8, (a9, a10)))))))))), ?_, ?_⟩
  · exact ⟨by simpa using k0, ⟨by simpa [List.drop_drop, Nat.add_assoc] using k1, ⟨by simpa [List.drop_drop, Nat.add_assoc] using k2, ⟨by simpa [List.drop_drop, Nat.add_assoc] using k3, ⟨by simpa [List.drop_drop, Nat.add_assoc] using k4, ⟨by simpa [List.drop_drop, Nat.add_assoc] using k5, ⟨by simpa [List.drop_drop, Nat.add_assoc] using k6, ⟨by simpa [List.drop_drop, Nat.add_assoc] using k7, ⟨by simpa [List.drop_drop, Nat.add_assoc] using k8, ⟨by simpa [List.drop_drop, Nat.add_assoc] using k9, (by simpa [List.drop_drop, Nat.add_assoc] using k10)⟩⟩⟩⟩⟩⟩⟩⟩⟩⟩
  · subst hxx
    simp only [Rows.uptoBulk, bulkAll_sum, Cod.pair]
    have hs : (List.map Rows.uptoBulk (xs.map (·.1))).sum = Rows.uptoBulk xs[0].1 + (Rows.uptoBulk xs[1].1 + (Rows.uptoBulk xs[2].1 + (Rows.uptoBulk xs[3].1 + (Rows.uptoBulk xs[4].1 + (Rows.uptoBulk xs[5].1 + (Rows.uptoBulk xs[6].1 + (Rows.uptoBulk xs[7].1 + (Rows.uptoBulk xs[8].1 + (Rows.uptoBulk xs[9].1 + (Rows.uptoBulk xs[10].1)))))))))) := by
      obtain ⟨x0, x1, x2, x3, x4, x5, x6, x7, x8, x9, x10, rfl⟩ := list_of_len11 xs hxl
      simp
    rw [hs]
    exact Nat.le_succ_of_le (Nat.add_le_add b0 (Nat.add_le_add b1 (Nat.add_le_add b2 (Nat.add_le_add b3 (Nat.add_le_add b4 (Nat.add_le_add b5 (Nat.add_le_add b6 (Nat.add_le_add b7 (Nat.add_le_add b8 (Nat.add_le_add b9 b10))))))))))
end Go.Proofs.Ytjhdogdaldlkhaa
