/- Slices of the call's own that grow by append; elements without memory of their own ('flat'). -/
import Derived.Test.YtjhdogdaldlkhaaWd
import Derived.OwnWalk
import Derived.Laws.OwnMore
import Derived.Laws.AppendOwn
import Derived.Deep.RegionHeld3
namespace Go.Proofs.Ytjhdogdaldlkhaa
open Go.RowKit
set_option linter.unusedVariables false
set_option linter.unusedSimpArgs false

/-- A codec whose values lie in their cells alone. -/
def Cod.Flat {α : Type} (c : Cod α) : Prop := ∀ w w' cs a, c.is w cs a → c.is w' cs a
theorem intC_flat : intC.Flat := fun _ _ _ _ h => h
theorem boolC_flat : boolC.Flat := fun _ _ _ _ h => h
theorem strC_flat : strC.Flat := fun _ _ _ _ h => h

/-- v is a slice of the call's own (in a block from base on), with these elements. -/
def Own {α : Type} (w : World) (base : Nat) (e : TypeId) (c : Cod α) (v : Value) (l : List α) : Prop :=
  ∃ xs : List Value, w.ownsRow base e c.size v l.length xs ∧ ∀ i (h : i < l.length), c.is w ((xs.drop (i * c.size)).take c.size) l[i]
theorem Own.nil {α : Type} (w : World) (base : Nat) (e : TypeId) (c : Cod α) : Own w base e c (.slice none 0 0) [] :=
  ⟨[], World.ownsRow_nil w base e c.size, fun i h => by simp at h⟩
theorem Own.mono {α : Type} {w w' : World} {base : Nat} {e : TypeId} {c : Cod α} {v : Value} {l : List α} (h : Own w base e c v l) (g : Gr w w') : Own w' base e c v l := by
  obtain ⟨xs, h1, h2⟩ := h
  refine ⟨xs, ⟨h1.1, ?_⟩, fun i hi => c.mono (h2 i hi) g⟩
  rcases h1.2 with h | ⟨b, cap, cur, rfl, hb, hh, r⟩
  · exact .inl h
  · exact .inr ⟨b, cap, cur, rfl, hb, by rw [g.below.block b (Array.getElem?_eq_some_iff.1 hh).1]; exact hh, r⟩
theorem Own.alloc {α : Type} {w : World} {base : Nat} {e : TypeId} {c : Cod α} {v : Value} {l : List α} (h : Own w base e c v l) (o : Obj) : Own (w.alloc o) base e c v l := h.mono ((Gr.refl _).alloc o)
theorem Own.gr {α : Type} {W w w' : World} {base : Nat} {e : TypeId} {c : Cod α} {v : Value} {l : List α} (h : Own w base e c v l) (hG : Gr W w) (hb : W.heap.size ≤ base) (hg : w.grownBy w' v.ownBlock) : Gr W w' := by
  obtain ⟨xs, h1, _⟩ := h
  exact Below.grown hG hg hG.size (fun k hk => Nat.le_trans hb (h1.lt k hk).1)
theorem Own.is {α : Type} {w : World} {base : Nat} {e : TypeId} {c : Cod α} {v : Value} {l : List α} (h : Own w base e c v l) : (sliceC c).is w [v] l := by
  obtain ⟨xs, h1, h2⟩ := h
  rcases h1.2 with ⟨rfl, h3⟩ | ⟨b, cap, cur, rfl, hb, hh, hnc, hcm, hsz, htake⟩
  · exact .inl ⟨rfl, List.eq_nil_of_length_eq_zero h3⟩
  · refine .inr ⟨b, 0, none, cap, rfl, hnc, hcm, fun i hi => ⟨rfl, _, fun j hj => ?_, h2 i hi⟩⟩
    have hlt : i * c.size + j < l.length * c.size := by
      have : (i + 1) * c.size ≤ l.length * c.size := Nat.mul_le_mul_right _ hi
      rw [Nat.add_mul] at this; omega
    rw [Nat.zero_add, h1.cellAt (i * c.size + j) hlt, List.getElem?_take_of_lt hj, List.getElem?_drop]
theorem Own.shape {α : Type} {w : World} {base : Nat} {e : TypeId} {c : Cod α} {v : Value} {l : List α} (h : Own w base e c v l) : ∃ (a : Option Addr) (n cap : Nat), v = .slice a n cap ∧ Hid (n = l.length) ∧ n ≤ cap ∧ cap ≤ 9223372036854775807 := sliceC_open h.is
theorem wp_app {P : Program} {α : Type} {c : Cod α} {o : Oper} {a : Act} {K : Act → World → Prop} {Q : Exit → Act → World → Prop} (w : World) (s x : Operand) (t : TypeId)
    (ho : o.op = .call { callee := .builtin .append, args := #[s, x], argTypes := #[t, t] })
    (e : TypeId) (z : Value) (bytes : Nat) (ht : P.underlying t = some (.slice e)) (hinfo : (P.info? e).map (fun i => (i.zero, i.size, i.bytes)) = some (some z, c.size, bytes)) (hzs : z.cells.size = c.size) (hsz : 0 < c.size) (hf : c.Flat)
    (base : Nat) (v : Value) (l : List α) (hs : a.eval s = v) (hown : Own w base e c v l)
    (g : Nat) (hx : a.eval x = .slice (some ⟨g, 0, none⟩) 1 1) (y : α) (cs : Array Value) (tt : TypeId) (hg : w.heap[g]? = some (.cells cs tt (0, 0))) (hy : c.is w cs.toList y) (h1 : ∀ u ∈ cs.toList, u.oneCell' = true)
    (hlen : (l.length + 1) * bytes ≤ 140737488355328) (hm : l.length + 1 ≤ maxLen) (hbase : base ≤ w.heap.size)
    (h : ∀ v' w', Own w' base e c v' (l ++ [y]) → w.grownBy w' v.ownBlock → K (a.put o.dst v') w') : o.wp P a w K Q := by
  obtain ⟨i0, hi, hz0, hz1, hz2⟩ := info_parts hinfo
  obtain ⟨xs, ho1, ho2⟩ := hown
  have hcl := c.len hy
  refine wp_append_own w s x t ho base e i0 z c.size bytes ht hi hz0 hz1 hz2 hzs hsz v l.length xs hs ho1 ⟨g, 0, none⟩ 1 1 cs.toList hx (by simpa using hcl) ?_ h1 hm hlen hbase ?_
  · intro j u hu
    have hadd : (⟨g, 0, none⟩ : Addr).add j = ⟨g, j, none⟩ := by unfold Addr.add; split <;> simp_all
    rw [hadd, cell_of_row w g j cs tt (0, 0) hg]
    simpa using hu
  · intro v' w' h3 h4 _
    refine h v' w' ⟨xs ++ cs.toList, by simpa using h3, fun i hi' => ?_⟩ h4
    have hxl := ho1.1
    by_cases hil : i < l.length
    · have hle : (i + 1) * c.size ≤ l.length * c.size := Nat.mul_le_mul_right _ hil
      rw [Nat.add_mul, Nat.one_mul] at hle
      rw [List.getElem_append_left hil]
      have e1 : ((xs ++ cs.toList).drop (i * c.size)).take c.size = (xs.drop (i * c.size)).take c.size := by
        rw [List.drop_append_of_le_length (by omega), List.take_append_of_le_length (by simp; omega)]
      rw [e1]
      exact hf _ _ _ _ (ho2 i hil)
    · have hil' : i = l.length := by simp at hi'; omega
      subst hil'
      rw [List.getElem_append_right (Nat.le_refl _)]
      have e1 : ((xs ++ cs.toList).drop (l.length * c.size)).take c.size = cs.toList := by
        rw [← hxl, List.drop_left]
        exact List.take_of_length_le (by omega)
      rw [e1]
      simpa using hf _ _ _ _ hy
theorem wpList_app {P : Program} {α : Type} {c : Cod α} {ops : Array Oper} {rest : List Oper} {o : Oper} {a : Act} {Q : Exit → Act → World → Prop} (w : World) (hgd : o.guard = none) (s x : Operand) (t : TypeId)
    (ho : o.op = .call { callee := .builtin .append, args := #[s, x], argTypes := #[t, t] })
    (e : TypeId) (z : Value) (bytes : Nat) (ht : P.underlying t = some (.slice e)) (hinfo : (P.info? e).map (fun i => (i.zero, i.size, i.bytes)) = some (some z, c.size, bytes)) (hzs : z.cells.size = c.size) (hsz : 0 < c.size) (hf : c.Flat)
    (base : Nat) (v : Value) (l : List α) (hs : a.eval s = v) (hown : Own w base e c v l)
    (g : Nat) (hx : a.eval x = .slice (some ⟨g, 0, none⟩) 1 1) (y : α) (cs : Array Value) (tt : TypeId) (hg : w.heap[g]? = some (.cells cs tt (0, 0))) (hy : c.is w cs.toList y) (h1 : ∀ u ∈ cs.toList, u.oneCell' = true)
    (hlen : (l.length + 1) * bytes ≤ 140737488355328) (hm : l.length + 1 ≤ maxLen) (hbase : base ≤ w.heap.size)
    (h : ∀ v' w', Own w' base e c v' (l ++ [y]) → w.grownBy w' v.ownBlock → wpList P ops Q rest (a.put o.dst v') w') : wpList P ops Q (o :: rest) a w :=
  wpList_plain hgd fun _ hK => wp_app w s x t ho e z bytes ht hinfo hzs hsz hf base v l hs hown g hx y cs tt hg hy h1 hlen hm hbase fun v' w' h2 h3 => hK _ _ (h v' w' h2 h3)
theorem step_app {P : Program} {α : Type} {c : Cod α} {ops : Array Oper} {o : Oper} {a : Act} {K : Act → World → Prop} {Q : Exit → Act → World → Prop} {E : Prop} (w : World) (hgd : o.guard = none) (s x : Operand) (t : TypeId)
    (ho : o.op = .call { callee := .builtin .append, args := #[s, x], argTypes := #[t, t] })
    (e : TypeId) (z : Value) (bytes : Nat) (ht : P.underlying t = some (.slice e)) (hinfo : (P.info? e).map (fun i => (i.zero, i.size, i.bytes)) = some (some z, c.size, bytes)) (hzs : z.cells.size = c.size) (hsz : 0 < c.size) (hf : c.Flat)
    (base : Nat) (v : Value) (l : List α) (hs : a.eval s = v) (hown : Own w base e c v l)
    (g : Nat) (hx : a.eval x = .slice (some ⟨g, 0, none⟩) 1 1) (y : α) (cs : Array Value) (tt : TypeId) (hg : w.heap[g]? = some (.cells cs tt (0, 0))) (hy : c.is w cs.toList y) (h1 : ∀ u ∈ cs.toList, u.oneCell' = true)
    (hlen : (l.length + 1) * bytes ≤ 140737488355328) (hm : l.length + 1 ≤ maxLen) (hbase : base ≤ w.heap.size)
    (h : ∀ v' w', Own w' base e c v' (l ++ [y]) → w.grownBy w' v.ownBlock → K (a.put o.dst v') w') : if Region.wanted o (yielded ops a.tmps) = true then Oper.wp P o a w K Q else E := by
  have hw : Region.wanted o (yielded ops a.tmps) = true := by simp [Region.wanted, hgd]
  rw [if_pos hw]
  exact wp_app w s x t ho e z bytes ht hinfo hzs hsz hf base v l hs hown g hx y cs tt hg hy h1 hlen hm hbase h
theorem app_int {ops : Array Oper} {rest : List Oper} {o : Oper} {a : Act} {Q : Exit → Act → World → Prop} (w : World) (hgd : o.guard = none) (s x : Operand) (t : TypeId)
    (ho : o.op = .call { callee := .builtin .append, args := #[s, x], argTypes := #[t, t] }) (ht : Try.prog.underlying t = some (.slice 3))
    (base : Nat) (v : Value) (l : List Int) (hs : a.eval s = v) (hown : Own w base 3 intC v l)
    (g : Nat) (hx : a.eval x = .slice (some ⟨g, 0, none⟩) 1 1) (y : Int) (tt : TypeId) (hg : w.heap[g]? = some (.cells #[.int .i64 y] tt (0, 0))) (hy : inI y)
    (hlen : l.length ≤ 1000000000000) (hbase : base ≤ w.heap.size)
    (h : ∀ v' w', Own w' base 3 intC v' (l ++ [y]) → w.grownBy w' v.ownBlock → wpList Try.prog ops Q rest (a.put o.dst v') w') : wpList Try.prog ops Q (o :: rest) a w :=
  wpList_app (c := intC) w hgd s x t ho 3 (.int .i64 0) 8 ht (by kernel_rfl) rfl (by decide) intC_flat base v l hs hown g hx y _ tt hg ⟨rfl, hy⟩ (by simp [Value.oneCell']) (by omega) (by unfold maxLen; omega) hbase h
theorem sapp_int {ops : Array Oper} {o : Oper} {a : Act} {K : Act → World → Prop} {Q : Exit → Act → World → Prop} {E : Prop} (w : World) (hgd : o.guard = none) (s x : Operand) (t : TypeId)
    (ho : o.op = .call { callee := .builtin .append, args := #[s, x], argTypes := #[t, t] }) (ht : Try.prog.underlying t = some (.slice 3))
    (base : Nat) (v : Value) (l : List Int) (hs : a.eval s = v) (hown : Own w base 3 intC v l)
    (g : Nat) (hx : a.eval x = .slice (some ⟨g, 0, none⟩) 1 1) (y : Int) (tt : TypeId) (hg : w.heap[g]? = some (.cells #[.int .i64 y] tt (0, 0))) (hy : inI y)
    (hlen : l.length ≤ 1000000000000) (hbase : base ≤ w.heap.size)
    (h : ∀ v' w', Own w' base 3 intC v' (l ++ [y]) → w.grownBy w' v.ownBlock → K (a.put o.dst v') w') : if Region.wanted o (yielded ops a.tmps) = true then Oper.wp Try.prog o a w K Q else E :=
  step_app (c := intC) w hgd s x t ho 3 (.int .i64 0) 8 ht (by kernel_rfl) rfl (by decide) intC_flat base v l hs hown g hx y _ tt hg ⟨rfl, hy⟩ (by simp [Value.oneCell']) (by omega) (by unfold maxLen; omega) hbase h
end Go.Proofs.Ytjhdogdaldlkhaa
