/- Parts of the proof of PickParsesMatchSpec, in order. -/
import Derived.Orders
import Derived.Below
import Derived.WalkKit
import Derived.Test.YtfalbgflabajbaaDoorRows
import Derived.Lib.LaidTab
import Derived.Lib.ItoaNum
import Derived.KernelRfl
import Derived.Laws.StructEq
import Derived.Laws.Append
import Derived.Laws.AppendOwn
import Derived.Test.YtfalbgflabajbaaDoorKPickParsesMatchSpec1
namespace Go.Proofs.YtfalbgflabajbaaDoor
set_option linter.unusedSectionVars false
open Go.RowKit
set_option linter.unusedVariables false
set_option linter.unusedSimpArgs false
section
variable {X : Fx} {z : Z} {s : AS} {a : Act} {w w' : World} {E : List Pl} {pb : Nat → Option Nat}
theorem St.move (h : St X z s a w E pb) {id : Nat} {p p' : Pl} {blk : Blk} (hi : E[id]? = some p) (hg : 0 < p.g ∧ p.g < p'.g) (hos : w'.os = w.os) (htp : w'.tape = w.tape) (hout : w'.output = w.output) (hsz : w.heap.size ≤ w'.heap.size)
  (hstay : ∀ b, b ≠ p.b → b < w.heap.size → w'.heap[b]? = w.heap[b]?) (hb : p'.b = p.b ∨ (w.heap.size ≤ p'.b ∧ p'.b < w'.heap.size))
  (hk : Ext (ctx z w E pb) (ctx z w' (E.set id p') pb) → BlkAt (ctx z w' (E.set id p') pb) p' blk) :
  St X z (s.heap (s.σ.set id blk)) a w' (E.set id p') pb ∧ Ext (ctx z w E pb) (ctx z w' (E.set id p') pb) := by
 have hm : p ∈ E := List.mem_of_getElem? hi
 have hid : id < E.length := (List.getElem?_eq_some_iff.1 hi).1
 have hX : (ctx z w E pb).X p.b := .inr (.inl ⟨p, hm, rfl⟩)
 have hmem : ∀ q ∈ E.set id p', q = p' ∨ (q ∈ E) := fun q hq => by
  rcases List.mem_or_eq_of_mem_set hq with e | e
  ·exact .inr e
  ·exact .inl e
 have hget : ∀ (j : Nat) (q : Pl), (E.set id p')[j]? = some q → (j = id ∧ q = p') ∨ (j ≠ id ∧ E[j]? = some q) := fun j q hq => by
  rw [List.getElem?_set] at hq
  by_cases e : id = j
  ·subst e; rw [if_pos rfl, if_pos hid] at hq; injection hq with hq; exact .inl ⟨rfl, hq.symm⟩
  ·rw [if_neg e] at hq; exact .inr ⟨fun e' => e e'.symm, hq⟩
 have hx : Ext (ctx z w E pb) (ctx z w' (E.set id p') pb) := by
  refine ⟨hsz, fun b hbs hn => ⟨hstay b (fun e => hn (e ▸ hX)) hbs, ?_⟩, fun j q hq => ?_, rfl⟩
  ·rintro (k | ⟨q, hq, k⟩ | k)
   ·exact hn (.inl k)
   ·rcases hmem q hq with rfl | hq
    ·rcases hb with e | ⟨e, _⟩
     ·exact hn (by rw [← k, e]; exact hX)
     ·simp only [ctx] at hbs; omega
    ·exact hn (.inr (.inl ⟨q, hq, k⟩))
   ·exact hn (.inr (.inr k))
  ·by_cases e : id = j
   ·subst e
    simp only [ctx] at hq
    rw [hi] at hq; injection hq with hq; subst hq
    exact ⟨p', by simp [ctx, hid], .inr hg⟩
   ·exact ⟨q, by simp only [ctx] at hq ⊢; rw [List.getElem?_set, if_neg e]; exact hq, .inl rfl⟩
 refine ⟨h.ext hx (fun i b hpb => ⟨hpb, hstay b (fun e => (h.priv i b hpb).2.2 p hm e.symm) (h.priv i b hpb).2.1⟩) (fun i b hpb => ⟨(h.priv i b hpb).1, Nat.lt_of_lt_of_le (h.priv i b hpb).2.1 hsz, fun q hq => ?_⟩) h.inj
  ⟨by have := h.heap.len; simpa [ctx] using this, fun i j q r hq hr he => ?_, fun j q x hq hxx => ?_⟩ ?_, hx⟩
 ·rcases hmem q hq with rfl | hq
  ·rcases hb with e | ⟨e, _⟩
   ·rw [e]; exact (h.priv i b hpb).2.2 p hm
   ·have := (h.priv i b hpb).2.1; omega
  ·exact (h.priv i b hpb).2.2 q hq
 ·have lt : ∀ (j : Nat) (q : Pl), E[j]? = some q → q.b < w.heap.size := fun j q hq => h.heap.lt (p := q) (List.mem_of_getElem? hq)
  rcases hget i q hq with ⟨e1, e2⟩ | ⟨e1, e2⟩ <;> rcases hget j r hr with ⟨e3, e4⟩ | ⟨e3, e4⟩
  ·rw [e1, e3]
  ·exfalso
   rw [e2] at he
   rcases hb with e | ⟨e, _⟩
   ·exact e3 (h.heap.inj j id r p e4 hi (by rw [← he, e]))
   ·have := lt j r e4; omega
  ·exfalso
   rw [e4] at he
   rcases hb with e | ⟨e, _⟩
   ·exact e1 (h.heap.inj i id q p e2 hi (by rw [he, e]))
   ·have := lt i q e2; omega
  ·exact h.heap.inj i j q r e2 e4 he
 ·rcases hget j q hq with ⟨e1, e2⟩ | ⟨e1, e2⟩
  ·subst e1; subst e2
   rw [List.getElem?_set, if_pos rfl] at hxx
   split at hxx
   ·injection hxx with hxx; subst hxx; exact hk hx
   ·cases hxx
  ·rw [List.getElem?_set, if_neg (fun e => e1 e.symm)] at hxx
   exact (h.heap.blk j q x e2 hxx).mono hx (hstay q.b (fun e => e1 (h.heap.inj j id q p e2 hi e)) (h.heap.lt (p := q) (List.mem_of_getElem? e2)))
 ·have o := h.out
  refine ⟨hos.trans o.os, htp.trans o.tape, hout.trans o.output, Nat.le_trans o.size hsz, fun b hbs hp => ?_, fun j q hq => ?_, fun j q hq => ?_, o.lt, o.mine⟩
  ·rw [hstay b (fun e => ?_) (Nat.lt_of_lt_of_le hbs o.size)]
   ·exact o.stay b hbs hp
   ·rcases o.fresh p hm with k | ⟨r, hr, k⟩
    ·omega
    ·exact hp r hr (k.trans e.symm)
  ·rcases hget j q hq with ⟨e1, e2⟩ | ⟨e1, e2⟩
   ·subst e1; subst e2
    rcases hb with e | ⟨e, _⟩
    ·rcases o.fresh' j p hi with k | ⟨r, hr, k⟩
     ·exact .inl (by rw [e]; exact k)
     ·exact .inr ⟨r, hr, by rw [e]; exact k⟩
    ·exact .inl (Nat.le_trans o.size e)
   ·exact o.fresh' j q e2
  ·obtain ⟨q', h1, h2⟩ := o.env j q hq
   by_cases e : id = j
   ·subst e
    rw [hi] at h1; injection h1 with h1; subst h1
    refine ⟨p', by simp [hid], ?_⟩
    rcases h2 with rfl | ⟨h2, h3⟩
    ·exact .inr hg
    ·exact .inr ⟨h2, by omega⟩
   ·exact ⟨q', by rw [List.getElem?_set, if_neg e]; exact h1, h2⟩
theorem RepEs.cells {c : RC} {sz b : Nat} : ∀ {es : List (List AV)} {off : Nat}, RepEs c sz b off es → RepCs c b off es.flatten ∧ es.flatten.length = es.length * sz
 | [], off, h => by simp [RepCs]
 | e :: es, off, h => by
  simp only [RepEs] at h
  obtain ⟨h1, h2, h3⟩ := h
  obtain ⟨k1, k2⟩ := RepEs.cells h3
  refine ⟨RepCs.of fun i av hi => ?_, by simp [k2, h1, Nat.add_mul]; omega⟩
  simp only [List.flatten_cons] at hi
  by_cases hl : i < e.length
  ·rw [List.getElem?_append_left hl] at hi; exact RepCs.nth h2 hi
  ·rw [List.getElem?_append_right (by omega)] at hi
   have := RepCs.nth k1 hi
   rwa [show off + sz + (i - e.length) = off + i by omega] at this
theorem elems_run2 {P : Program} {c : RC} {σ : Heap} (hh : HeapRel c σ) {sz : Nat} {y : AV} {v : Value} {ys : List (List AV)} (h : A.elems sz y σ = some ys) (r : Rep c y v) :
  ∃ (q : Option Addr) (cap : Nat) (cs : List Value), v = .slice q ys.length cap ∧ (∀ w2 : World, w2.heap = c.w.heap → (Builtin.firstCells sz ys.length v).run P w2 = .ok cs.toArray w2) ∧ RepL c ys.flatten cs ∧ (∀ x ∈ cs, one1 x = true) ∧ cs.length = ys.length * sz ∧ (∀ e ∈ ys, e.length = sz) ∧ (∀ n, n ≤ ys.length → ∀ w2 : World, w2.heap = c.w.heap → (Builtin.firstCells sz n v).run P w2 = .ok (cs.take (n * sz)).toArray w2) := by
 have main : ∀ (q : Option Addr) (cap : Nat) (ys : List (List AV)), (ys = [] ∨ ∃ b off, q = some ⟨b, off, none⟩ ∧ RepEs c sz b off ys) →
   ∃ cs : List Value, (∀ w2 : World, w2.heap = c.w.heap → (Builtin.firstCells sz ys.length (.slice q ys.length cap)).run P w2 = .ok cs.toArray w2) ∧ RepL c ys.flatten cs ∧ (∀ x ∈ cs, one1 x = true) ∧ cs.length = ys.length * sz ∧ (∀ e ∈ ys, e.length = sz) ∧ (∀ n, n ≤ ys.length → ∀ w2 : World, w2.heap = c.w.heap → (Builtin.firstCells sz n (.slice q ys.length cap)).run P w2 = .ok (cs.take (n * sz)).toArray w2) := by
  intro q cap ys hq
  rcases hq with rfl | ⟨b, off, rfl, r⟩
  ·refine ⟨[], fun w2 _ => ?_, by simp [RepL], by simp, by simp, by simp, fun n hn w2 _ => by
    simp at hn; subst hn
    cases q <;> simp [Builtin.firstCells, loadCells, loadCellsFrom]⟩
   cases q with
   | none => simp [Builtin.firstCells]
   | some q => simp [Builtin.firstCells, loadCells, loadCellsFrom]
  ·obtain ⟨k1, k2⟩ := r.cells
   obtain ⟨vs, j1, j2, j3⟩ := k1.toL
   have hl : vs.length = ys.length * sz := by rw [← j1.length, k2]
   refine ⟨vs, fun w2 hw => ?_, j1, j2, hl, fun e he => ?_, fun n hn w2 hw => ?_⟩
   ·have := run_loadCells_list (P := P) w2 ⟨b, off, none⟩ vs (fun j v hj => by rw [addr_add]; have := j3 j v hj; simpa [World.cell?, hw] using this)
    rw [hl] at this
    simp [Builtin.firstCells, this]
   ·obtain ⟨i, hi, rfl⟩ := List.mem_iff_getElem.1 he
    exact (RepEs.nth r (i := i) (by simp [hi])).1
   ·have hnl : n * sz ≤ vs.length := by rw [hl]; exact Nat.mul_le_mul_right _ hn
    have := run_loadCells_list (P := P) w2 ⟨b, off, none⟩ (vs.take (n * sz)) (fun j v hj => by
     rw [addr_add]
     have := j3 j v (by rw [List.getElem?_take] at hj; split at hj; exact hj; cases hj)
     simpa [World.cell?, hw] using this)
    rw [List.length_take, Nat.min_eq_left hnl] at this
    simp [Builtin.firstCells, this]
 cases y <;> simp only [A.elems] at h <;> first | (cases h; done) | skip
 case nsl =>
  injection h with h; subst h
  simp only [Rep] at r; subst r
  obtain ⟨cs, k⟩ := main none 0 [] (.inl rfl)
  exact ⟨none, 0, cs, rfl, k⟩
 case ez =>
  injection h with h; subst h
  simp only [Rep] at r; obtain ⟨q, rfl⟩ := r
  obtain ⟨cs, k⟩ := main q 0 [] (.inl rfl)
  exact ⟨q, 0, cs, rfl, k⟩
 case sl sz' es =>
  split at h
  ·rename_i hs
   subst hs
   injection h with h; subst h
   simp only [Rep] at r
   obtain ⟨q, cap, rfl, hcap, _, r⟩ := r
   obtain ⟨cs, k⟩ := main q cap es (by
    rcases r with r | ⟨b, off, e, _, _, r⟩
    ·exact .inl r
    ·exact .inr ⟨b, off, e, r⟩)
   exact ⟨q, cap, cs, rfl, k⟩
  ·cases h
 case os id g sz0 off len =>
  simp only [Rep] at r
  obtain ⟨hg, p, e1, e2, q, cap, rfl, hcap, r⟩ := r
  split at h
  ·rename_i g' sz' es hs
   split at h
   ·rename_i hc
    obtain ⟨rfl, rfl, rfl, hle⟩ := hc
    injection h with h; subst h
    obtain ⟨j1, j2, j3, j4, j5, j6, j7, _⟩ := hh.blk id p _ e1 hs
    obtain ⟨k1, k2, k3⟩ := r j1.symm
    have hlen : ((es.drop off).take len).length = len := by simp; omega
    obtain ⟨cs, k⟩ := main (some q) cap ((es.drop off).take len) (by
     by_cases hz : len = 0
     ·left; subst hz; simp
     ·right
      rcases k2 with k2 | k2
      ·omega
      ·exact ⟨_, _, by rw [k2], by rw [j3]; exact (j7.drop off).take len⟩)
    rw [hlen] at k ⊢
    exact ⟨some q, cap, cs, rfl, k⟩
   ·cases h
  ·rename_i g' sz' es hs
   split at h
   ·rename_i hc
    obtain ⟨rfl, rfl, rfl, hle⟩ := hc
    injection h with h; subst h
    obtain ⟨j1, j2, j3, j4, j5, j6, j7, _⟩ := hh.blk id p _ e1 hs
    obtain ⟨k1, k2, k3⟩ := r j1.symm
    have hlen : ((es.drop off).take len).length = len := by simp; omega
    obtain ⟨cs, k⟩ := main (some q) cap ((es.drop off).take len) (by
     by_cases hz : len = 0
     ·left; subst hz; simp
     ·right
      rcases k2 with k2 | k2
      ·omega
      ·exact ⟨_, _, by rw [k2], by rw [j3]; exact (j7.drop off).take len⟩)
    rw [hlen] at k ⊢
    exact ⟨some q, cap, cs, rfl, k⟩
   ·cases h
  ·cases h
theorem elems_run {P : Program} {c : RC} {σ : Heap} (hh : HeapRel c σ) {sz : Nat} {y : AV} {v : Value} {ys : List (List AV)} (h : A.elems sz y σ = some ys) (r : Rep c y v) :
  ∃ (q : Option Addr) (cap : Nat) (cs : List Value), v = .slice q ys.length cap ∧ (∀ w2 : World, w2.heap = c.w.heap → (Builtin.firstCells sz ys.length v).run P w2 = .ok cs.toArray w2) ∧ RepL c ys.flatten cs ∧ (∀ x ∈ cs, one1 x = true) ∧ cs.length = ys.length * sz ∧ (∀ e ∈ ys, e.length = sz) := by
 obtain ⟨q, cap, cs, h1, h2, h3, h4, h5, h6, _⟩ := elems_run2 (P := P) hh h r
 exact ⟨q, cap, cs, h1, h2, h3, h4, h5, h6⟩
theorem flatten_take {sz : Nat} : ∀ {ys : List (List AV)} {n : Nat}, (∀ y ∈ ys, y.length = sz) → n ≤ ys.length → (ys.take n).flatten = ys.flatten.take (n * sz)
 | [], n, _, hn => by simp
 | y :: ys, 0, _, _ => by simp
 | y :: ys, n + 1, h, hn => by
  simp at hn
  rw [List.take_succ_cons, List.flatten_cons, List.flatten_cons, flatten_take (fun x hx => h x (by simp [hx])) hn, List.take_append, h y (by simp), Nat.add_mul, Nat.one_mul]
  congr 1
  ·rw [List.take_of_length_le (by rw [h y (by simp)]; omega)]
  ·congr 1; omega
theorem zero_cells (P : Program) {e : TypeId} {i : TypeInfo} {zv : Value} (hi : P.info? e = some i) (hz : i.zero = some zv) (w : World) : (zeroValue e).run P w = .ok zv w := by simp [zeroValue, run_typeInfo' w hi, hz]
theorem run_append_new {P : Program} {t u e e' ty : TypeId} {i : TypeInfo} {zv : Value} (ht : P.underlying t = some (.slice e)) (hu : P.underlying u = some (.slice e')) (hi : P.info? e = some i) (hz : i.zero = some zv) (hb0 : i.bytes ≠ 0)
  {base q : Option Addr} {sLen sCap n cap : Nat} {olds news : List Value} (hold : (Builtin.firstCells i.size sLen (.slice base sLen sCap)).run P w.drew = .ok olds.toArray w.drew) (hnew : (Builtin.firstCells i.size n (.slice q n cap)).run P w.drew = .ok news.toArray w.drew)
  (hg : sCap < sLen + n) (hm : sLen + n ≤ 140737488355328 / i.bytes) :
  (Builtin.append_ #[t, u] ty #[.slice base sLen sCap, .slice q n cap]).run P w =
   .ok (.slice (some ⟨w.heap.size, 0, none⟩) (sLen + n) (grownCap w (sLen + n) sCap e)) (w.drew.alloc (.cells (olds.toArray ++ news.toArray ++ Builtin.zeroCells zv.cells (grownCap w (sLen + n) sCap e - (sLen + n))) e)) := by
 have hfits : (sLen + n) * i.bytes ≤ 140737488355328 := by
  have := Nat.mul_le_mul_right i.bytes hm
  have := Nat.div_mul_le_self 140737488355328 i.bytes
  omega
 have h48 := growslice_fits hg hfits
 have hn : ¬ (sLen + n ≤ sCap) := by omega
 have h48' : ¬ (281474976710656 < Builtin.nextslicecap (sLen + n) sCap * i.bytes) := by omega
 simp [Builtin.append_, run_underlying ht, run_underlying hu, sizeOf, typeInfo, zeroValue, hi, hz, Builtin.lenOf, hn, h48', hb0, Question.forced, hold, hnew, newRow, grownCap]
 congr 2
 apply Array.ext'
 simp [List.append_assoc]
theorem RepCs.sub {c : RC} {b : Nat} {arr : Array Value} {t : TypeId} {fz : Nat × Nat} (h : c.w.heap[b]? = some (.cells arr t fz)) {cs : List AV} {vs pre suf : List Value} (ha : arr.toList = pre ++ vs ++ suf) (hr : RepL c cs vs) (ho : ∀ x ∈ vs, one1 x = true) : RepCs c b pre.length cs := by
 refine RepCs.ofL h hr ho fun i hi => ?_
 rw [← Array.getElem?_toList, ha, List.append_assoc, List.getElem?_append_right (by omega), List.getElem?_append_left (by omega)]
 congr 1; omega
theorem RepCs.toEs {c : RC} {sz b : Nat} : ∀ {es : List (List AV)} {off : Nat}, (∀ e ∈ es, e.length = sz) → RepCs c b off es.flatten → RepEs c sz b off es
 | [], off, _, _ => by simp [RepEs]
 | e :: es, off, hl, h => by
  simp only [List.flatten_cons] at h
  have he := hl e (by simp)
  simp only [RepEs]
  refine ⟨he, ?_, RepCs.toEs (fun x hx => hl x (by simp [hx])) ?_⟩
  ·have := h.take e.length; simpa using this
  ·have := h.drop e.length; rw [he] at this; simpa [← he] using this
theorem RepEs.append {c : RC} {sz b : Nat} : ∀ {l m : List (List AV)} {off : Nat}, RepEs c sz b off l → RepEs c sz b (off + l.length * sz) m → RepEs c sz b off (l ++ m)
 | [], m, off, h, k => by simpa using k
 | e :: l, m, off, h, k => by
  simp only [RepEs, List.cons_append] at h ⊢
  refine ⟨h.1, h.2.1, RepEs.append h.2.2 ?_⟩
  rw [show off + sz + l.length * sz = off + (e :: l).length * sz by simp [Nat.add_mul]; omega]
  exact k
theorem RepEs.keep {c c' : RC} (hx : Ext c c') {sz b : Nat} {es : List (List AV)} {off : Nat} (h : RepEs c sz b off es) (hc : ∀ j, off ≤ j → j < off + es.length * sz → c'.w.cell? ⟨b, j, none⟩ = c.w.cell? ⟨b, j, none⟩) : RepEs c' sz b off es := by
 refine RepEs.of fun i e hi => ?_
 obtain ⟨h1, h2⟩ := RepEs.nth h hi
 refine ⟨h1, RepCs.of fun k av hk => ?_⟩
 obtain ⟨u, k1, k2, k3⟩ := RepCs.nth h2 hk
 refine ⟨u, ?_, k2, Rep.mono hx _ _ k3⟩
 have hil : i < es.length := (List.getElem?_eq_some_iff.1 hi).1
 have hkl : k < sz := by rw [← h1]; exact (List.getElem?_eq_some_iff.1 hk).1
 have : (i + 1) * sz ≤ es.length * sz := Nat.mul_le_mul_right _ hil
 rw [Nat.add_mul] at this
 rw [← k1]
 exact hc _ (by omega) (by omega)
theorem bulk_own (h : St X z s a w E pb) {id : Nat} {p : Pl} {g sz i : Nat} {es ys : List (List AV)} {arr : Array Value} {bt : TypeId} {news : List Value} (e1 : E[id]? = some p) (hs : s.σ[id]? = some (.arr g sz es)) (hb : w.heap[p.b]? = some (.cells arr bt (0, 0)))
  (hfit : i + ys.length ≤ es.length) (hr : RepL (ctx z w E pb) ys.flatten news) (ho : ∀ x ∈ news, one1 x = true) (hy : ∀ y ∈ ys, y.length = sz) (hn : news.length = ys.length * sz) :
  p.base + i * sz + news.length ≤ arr.size ∧ St X z (s.heap (s.σ.set id (.arr g sz (es.take i ++ ys ++ es.drop (i + ys.length))))) a (w.setB p.b (.cells (spl arr (p.base + i * sz) news) bt (0, 0))) E pb := by
 obtain ⟨j1, j2, j3, j4, ⟨arr', bt', j5, j6⟩, j7, j8, j9⟩ := h.heap.blk id p _ e1 hs
 have j5c : w.heap[p.b]? = some (.cells arr' bt' (0, 0)) := j5
 rw [hb] at j5c
 injection j5c with j5d
 injection j5d with j5e j5f
 subst j5e j5f
 have hm : (i + ys.length) * sz ≤ es.length * sz := Nat.mul_le_mul_right _ hfit
 rw [Nat.add_mul] at hm
 have hfit' : p.base + i * sz + news.length ≤ arr.size := by rw [hn, j6]; omega
 refine ⟨hfit', h.setOwn e1 _ _ fun hx => ?_⟩
 have hlt : p.b < w.heap.size := h.heap.lt (p := p) (List.mem_of_getElem? e1)
 have hh := heap_setB_same (w := w) (.cells (spl arr (p.base + i * sz) news) bt (0, 0)) hlt
 have hcell : ∀ j, (w.setB p.b (.cells (spl arr (p.base + i * sz) news) bt (0, 0))).cell? ⟨p.b, j, none⟩ = (spl arr (p.base + i * sz) news)[j]? := fun j => cells_of_list hh
 have hold : ∀ j, w.cell? ⟨p.b, j, none⟩ = arr[j]? := fun j => cells_of_list hb
 have out : ∀ j, (j < p.base + i * sz ∨ p.base + i * sz + news.length ≤ j) → (w.setB p.b (.cells (spl arr (p.base + i * sz) news) bt (0, 0))).cell? ⟨p.b, j, none⟩ = w.cell? ⟨p.b, j, none⟩ := by
  intro j hj
  rw [hcell, hold, spl_get _ _ _ hfit', if_neg (by omega)]
 have hti : (es.take i).length = i := by simp; omega
 refine ⟨j1, j2, j3, j4, ⟨_, _, hh, by rw [spl_size _ _ _ hfit']; exact j6⟩, ?_, ?_, oneB_of hh (one_spl (j9 _ _ _ hb) ho)⟩
 ·have : (es.take i ++ ys ++ es.drop (i + ys.length)).length = es.length := by simp; omega
  rw [this]; exact j7
 ·refine RepEs.append (RepEs.append (RepEs.keep hx (j8.take i) fun j hj1 hj2 => ?_) ?_) (RepEs.keep hx ?_ fun j hj1 hj2 => ?_)
  ·rw [hti] at hj2
   exact out j (.inl hj2)
  ·rw [hti]
   refine RepCs.toEs hy ?_
   refine RepCs.ofL hh (RepL.mono hx _ _ hr) ho fun j hj => ?_
   show (spl arr (p.base + i * sz) news)[p.base + i * sz + j]? = _
   rw [spl_get _ _ _ hfit', if_pos (by omega)]
   congr 1; omega
  ·have := j8.drop (i + ys.length)
   have e : (es.take i ++ ys).length = i + ys.length := by simp; omega
   rw [e]; exact this
  ·have e : (es.take i ++ ys).length = i + ys.length := by simp; omega
   rw [e, Nat.add_mul] at hj1
   refine out j (.inr ?_)
   rw [hn]; omega
theorem zeroCells_list {zv : Value} {sz : Nat} (h : zv.cells.size = sz) (h0 : sz ≠ 0) (n : Nat) : (Builtin.zeroCells zv.cells n).toList = (List.replicate n zv.cells.toList).flatten := by
 have := range_zero zv.cells.toList (by simp; omega) n
 rw [← this]
 simp [Builtin.zeroCells]
theorem clear_wp (h : St X z s a w E pb) {t e ty : TypeId} {i : TypeInfo} {zv : Value} {zs : List AV} (ht : X.P.underlying t = some (.slice e)) (hzv : ∀ w, (zeroValue e).run X.P w = .ok zv w) (hzs : zv.cells.size = i.size) (h0 : i.size ≠ 0)
  (hzr : ∀ c, RepL c zs zv.cells.toList) (hone : ∀ x ∈ zv.cells.toList, one1 x = true) {x : AV} {v : Value} {σ' : Heap} (hcl : A.clearS i.size zs x s.σ = some σ') (rx : Rep (ctx z w E pb) x v) :
  ∃ w', (Builtin.clear_ #[t] ty #[v]).run X.P w = .ok (.tuple #[]) w' ∧ St X z (s.heap σ') a w' E pb := by
 unfold A.clearS at hcl
 have hs : s.heap s.σ = s := rfl
 split at hcl
 ·injection hcl with hcl; subst hcl
  simp only [Rep] at rx; subst rx
  exact ⟨w, by simp [Builtin.clear_, run_underlying ht], by rw [hs]; exact h⟩
 ·injection hcl with hcl; subst hcl
  simp only [Rep] at rx; obtain ⟨q, rfl⟩ := rx
  exact ⟨w, by cases q <;> simp [Builtin.clear_, run_underlying ht], by rw [hs]; exact h⟩
 ·injection hcl with hcl; subst hcl
  simp only [Rep] at rx; obtain ⟨q, cap, rfl, _⟩ := rx
  exact ⟨w, by cases q <;> simp [Builtin.clear_, run_underlying ht], by rw [hs]; exact h⟩
 ·rename_i id g sz0 off len
  simp only [Rep] at rx
  obtain ⟨hg, p, e1, e2, qa, cp, rfl, hcap, rx⟩ := rx
  split at hcl
  ·rename_i g' sz' es hs'
   split at hcl
   ·rename_i hc
    obtain ⟨hc1, hc2, hc3, hc4⟩ := hc
    subst hc1; subst hc2; subst hc3
    obtain ⟨j1, j2, j3, j4, ⟨arr, bt, j5, j6⟩, j7, j8, j9⟩ := h.heap.blk id p _ e1 hs'
    obtain ⟨k1, k2, k3⟩ := rx j1.symm
    split at hcl
    ·rename_i hl
     subst hl
     injection hcl with hcl; subst hcl
     exact ⟨w, by simp [Builtin.clear_, run_underlying ht], by rw [hs]; exact h⟩
    ·rename_i hl
     injection hcl with hcl; subst hcl
     have hqa : qa = ⟨p.b, p.base + off * p.sz, none⟩ := by
      rcases k2 with k2 | k2
      ·omega
      ·exact k2
     have hsz : p.sz = i.size := j3
     have hzl : zs.length = i.size := by rw [(hzr (ctx z w E pb)).length]; simpa using hzs
     have hrep : RepL (ctx z w E pb) (List.replicate len zs).flatten (Builtin.zeroCells zv.cells len).toList := by
      rw [zeroCells_list hzs h0]; exact (hzr _).flatten len
     have hones : ∀ x ∈ (Builtin.zeroCells zv.cells len).toList, one1 x = true := by
      rw [zeroCells_list hzs h0]
      intro x hx
      obtain ⟨l, hl1, hl2⟩ := List.mem_flatten.1 hx
      rw [List.mem_replicate] at hl1
      exact hone x (hl1.2 ▸ hl2)
     have hlen : (Builtin.zeroCells zv.cells len).toList.length = len * i.size := by rw [Array.length_toList, size_zeroCells, hzs]
     obtain ⟨q1, q2⟩ := bulk_own h (i := off) (ys := List.replicate len zs) e1 hs' j5 (by simpa using hc4) hrep hones (fun y hy => by rw [(List.mem_replicate.1 hy).2]; exact hzl) (by simpa using hlen)
     have hst := run_storeCells (P := X.P) (b := p.b) (off := p.base + off * i.size) (t := bt) (Builtin.zeroCells zv.cells len).toList 0 w arr j5 (by omega) hones
     rw [List.length_replicate] at q2
     refine ⟨_, ?_, q2⟩
     obtain ⟨m, rfl⟩ : ∃ m, len = m + 1 := ⟨len - 1, by omega⟩
     rw [hqa, hsz]
     simp [Builtin.clear_, run_underlying ht, hzv, hst]
   ·cases hcl
  ·cases hcl
 ·cases hcl
structure AppIs (P : Program) (t u : TypeId) (vy : Value) (e : TypeId) (i : TypeInfo) (zv : Value) (n : Nat) (news : List Value) (w : World) : Prop where
 inn : ∀ (w2 : World) (ty : TypeId) (base : Option Addr) (sLen sCap : Nat), w2.heap = w.heap → sLen + n ≤ sCap →
  (Builtin.append_ #[t, u] ty #[.slice base sLen sCap, vy]).run P w2 = ((match base with | some a => storeCells (a.add (sLen * i.size)) news 0 | none => pure ()) >>= fun _ => pure (Value.slice base (sLen + n) sCap) : Sem Value).run P w2
 new : ∀ (ty : TypeId) (base : Option Addr) (sLen sCap : Nat) (olds : List Value), (Builtin.firstCells i.size sLen (.slice base sLen sCap)).run P w.drew = .ok olds.toArray w.drew → sCap < sLen + n → sLen + n ≤ 140737488355328 / i.bytes →
  (Builtin.append_ #[t, u] ty #[.slice base sLen sCap, vy]).run P w =
   .ok (.slice (some ⟨w.heap.size, 0, none⟩) (sLen + n) (grownCap w (sLen + n) sCap e)) (w.drew.alloc (.cells (olds.toArray ++ news.toArray ++ Builtin.zeroCells zv.cells (grownCap w (sLen + n) sCap e - (sLen + n))) e))
theorem one_zeros {zv : Value} {sz : Nat} (hzs : zv.cells.size = sz) (h0 : sz ≠ 0) (hone : ∀ x ∈ zv.cells.toList, one1 x = true) (n : Nat) : ∀ x ∈ (Builtin.zeroCells zv.cells n).toList, one1 x = true := by
 rw [zeroCells_list hzs h0]
 intro x hx
 obtain ⟨l, hl1, hl2⟩ := List.mem_flatten.1 hx
 rw [List.mem_replicate] at hl1
 exact hone x (hl1.2 ▸ hl2)
theorem one_row {zv : Value} {sz : Nat} (hzs : zv.cells.size = sz) (h0 : sz ≠ 0) (hone : ∀ x ∈ zv.cells.toList, one1 x = true) {olds news : List Value} (h1 : ∀ x ∈ olds, one1 x = true) (h2 : ∀ x ∈ news, one1 x = true) (n : Nat) :
  ∀ x ∈ (olds.toArray ++ news.toArray ++ Builtin.zeroCells zv.cells n).toList, one1 x = true := by
 intro x hx
 simp only [Array.toList_append, List.toList_toArray, List.mem_append] at hx
 rcases hx with (hx | hx) | hx
 ·exact h1 x hx
 ·exact h2 x hx
 ·exact one_zeros hzs h0 hone n x hx
theorem appendL_wp (h : St X z s a w E pb) {t u e ty : TypeId} {i : TypeInfo} {zv : Value} (hzs : zv.cells.size = i.size) (h0 : i.size ≠ 0) (hone : ∀ x ∈ zv.cells.toList, one1 x = true)
  {x : AV} {v vy : Value} {r : AV} {σ' : Heap} {ys : List (List AV)} {news : List Value} (hs2 : AppIs X.P t u vy e i zv ys.length news w) (hn2 : RepL (ctx z w E pb) ys.flatten news) (hn3 : ∀ x ∈ news, one1 x = true) (hn4 : news.length = ys.length * i.size) (hn5 : ∀ y ∈ ys, y.length = i.size)
  (hap : A.appendL i.size (140737488355328 / i.bytes) x ys s.σ = some (r, σ')) (rx : Rep (ctx z w E pb) x v) :
  ∃ k w' E', (Builtin.append_ #[t, u] ty #[v, vy]).run X.P w = .ok k w' ∧ St X z (s.heap σ') a w' E' pb ∧ Rep (ctx z w' E' pb) r k := by
 unfold A.appendL at hap
 have hne : ys ≠ [] → 0 < ys.length := fun k => by cases ys with | nil => exact absurd rfl k | cons y ys => simp
 have hzsz : ∀ k, (Builtin.zeroCells zv.cells k).size = k * i.size := fun k => by rw [size_zeroCells, hzs]
 cases x <;> simp only at hap <;> first | (cases hap; done) | skip
 case nsl =>
  simp only [Rep] at rx; subst rx
  split at hap
  ·rename_i hys
   subst hys
   simp only [Option.some.injEq, Prod.mk.injEq] at hap
   obtain ⟨rfl, rfl⟩ := hap
   exact ⟨.slice none 0 0, w, E, by have := hs2.inn w ty none 0 0 rfl (by simp); simpa using this, h, by simp [Rep]⟩
  ·rename_i hys
   have hpos := hne hys
   split at hap
   ·rename_i hmost
    simp only [Option.some.injEq, Prod.mk.injEq] at hap
    obtain ⟨rfl, rfl⟩ := hap
    have hrun := hs2.new ty none 0 0 [] (by simp [Builtin.firstCells]) (by omega) (by omega)
    simp only [Nat.zero_add] at hrun
    refine ⟨_, _, E ++ [⟨w.heap.size, 0, ys.length, i.size, (news.toArray ++ Builtin.zeroCells zv.cells (grownCap w ys.length 0 e - ys.length)).size⟩], hrun, ?_, ?_⟩
    ·have hst := (h.grow (w' := w.drew) ((Below.refl _ _).drew)).newOwn (.cells (#[] ++ news.toArray ++ Builtin.zeroCells zv.cells (grownCap w ys.length 0 e - ys.length)) e) (.arr ys.length i.size ys)
      ⟨w.heap.size, 0, ys.length, i.size, (news.toArray ++ Builtin.zeroCells zv.cells (grownCap w ys.length 0 e - ys.length)).size⟩ rfl (fun hx => ?_)
     ·exact hst
     ·have hb : (w.drew.alloc (.cells (#[] ++ news.toArray ++ Builtin.zeroCells zv.cells (grownCap w ys.length 0 e - ys.length)) e)).heap[w.heap.size]? = some (.cells (#[] ++ news.toArray ++ Builtin.zeroCells zv.cells (grownCap w ys.length 0 e - ys.length)) e (0, 0)) := (MapKept.heap_alloc w.drew _).1
      refine ⟨rfl, hpos, rfl, by omega, ⟨_, _, hb, by simp⟩, by simp [hn4], RepCs.toEs hn5 ?_, oneB_of hb (one_row hzs h0 hone (olds := []) (by simp) hn3 _)⟩
      exact RepCs.sub (pre := []) (suf := (Builtin.zeroCells zv.cells (grownCap w ys.length 0 e - ys.length)).toList) hb (by simp) (RepL.mono (Ext.trans (grow_ext ((Below.refl _ _).drew)) hx) _ _ hn2) hn3
    ·simp only [Rep]
     have hlen := h.heap.len
     simp only [ctx] at hlen
     refine ⟨hpos, ⟨w.heap.size, 0, ys.length, i.size, _⟩, by show (E ++ [_])[s.σ.length]? = _; rw [← hlen]; exact List.getElem?_concat_length, Nat.le_refl _, _, _, rfl, grownCap_ge _ _ _ _, fun _ => ⟨rfl, .inr (by simp), ?_⟩⟩
     have := grownCap_ge w ys.length 0 e
     simp only [Array.size_append, hzsz, List.size_toArray, hn4, Nat.zero_add]
     rw [← Nat.add_mul]
     congr 1; omega
   ·cases hap
 case ez =>
  simp only [Rep] at rx; obtain ⟨qb, rfl⟩ := rx
  split at hap
  ·rename_i hys
   subst hys
   simp only [Option.some.injEq, Prod.mk.injEq] at hap
   obtain ⟨rfl, rfl⟩ := hap
   have hnews : news = [] := by simpa using hn4
   subst hnews
   exact ⟨.slice qb 0 0, w, E, by have := hs2.inn w ty qb 0 0 rfl (by simp); cases qb <;> simpa [storeCells] using this, h, by simp [Rep]⟩
  ·rename_i hys
   have hpos := hne hys
   split at hap
   ·rename_i hmost
    simp only [Option.some.injEq, Prod.mk.injEq] at hap
    obtain ⟨rfl, rfl⟩ := hap
    have hrun := hs2.new ty qb 0 0 [] (by cases qb <;> simp [Builtin.firstCells, loadCells, loadCellsFrom]) (by omega) (by omega)
    simp only [Nat.zero_add] at hrun
    refine ⟨_, _, E ++ [⟨w.heap.size, 0, ys.length, i.size, (news.toArray ++ Builtin.zeroCells zv.cells (grownCap w ys.length 0 e - ys.length)).size⟩], hrun, ?_, ?_⟩
    ·have hst := (h.grow (w' := w.drew) ((Below.refl _ _).drew)).newOwn (.cells (#[] ++ news.toArray ++ Builtin.zeroCells zv.cells (grownCap w ys.length 0 e - ys.length)) e) (.arr ys.length i.size ys)
      ⟨w.heap.size, 0, ys.length, i.size, (news.toArray ++ Builtin.zeroCells zv.cells (grownCap w ys.length 0 e - ys.length)).size⟩ rfl (fun hx => ?_)
     ·exact hst
     ·have hb : (w.drew.alloc (.cells (#[] ++ news.toArray ++ Builtin.zeroCells zv.cells (grownCap w ys.length 0 e - ys.length)) e)).heap[w.heap.size]? = some (.cells (#[] ++ news.toArray ++ Builtin.zeroCells zv.cells (grownCap w ys.length 0 e - ys.length)) e (0, 0)) := (MapKept.heap_alloc w.drew _).1
      refine ⟨rfl, hpos, rfl, by omega, ⟨_, _, hb, by simp⟩, by simp [hn4], RepCs.toEs hn5 ?_, oneB_of hb (one_row hzs h0 hone (olds := []) (by simp) hn3 _)⟩
      exact RepCs.sub (pre := []) (suf := (Builtin.zeroCells zv.cells (grownCap w ys.length 0 e - ys.length)).toList) hb (by simp) (RepL.mono (Ext.trans (grow_ext ((Below.refl _ _).drew)) hx) _ _ hn2) hn3
    ·simp only [Rep]
     have hlen := h.heap.len
     simp only [ctx] at hlen
     refine ⟨hpos, ⟨w.heap.size, 0, ys.length, i.size, _⟩, by show (E ++ [_])[s.σ.length]? = _; rw [← hlen]; exact List.getElem?_concat_length, Nat.le_refl _, _, _, rfl, grownCap_ge _ _ _ _, fun _ => ⟨rfl, .inr (by simp), ?_⟩⟩
     have := grownCap_ge w ys.length 0 e
     simp only [Array.size_append, hzsz, List.size_toArray, hn4, Nat.zero_add]
     rw [← Nat.add_mul]
     congr 1; omega
   ·cases hap
 case os oid og sz0 off len =>
  have rx0 := rx
  simp only [Rep] at rx
  obtain ⟨hg, p, e1, e2, qa, cp, rfl, hcap, rx⟩ := rx
  split at hap
  ·rename_i g' sz' es hs
   split at hap
   ·rename_i hc
    obtain ⟨hc1, hc2, hc3, hc4, hc5⟩ := hc
    subst hc1; subst hc2; subst hc3
    obtain ⟨j1, j2, j3, j4, ⟨arr, bt, j5, j6⟩, j7, j8, j9⟩ := h.heap.blk oid p _ e1 hs
    obtain ⟨k1, k2, k3⟩ := rx j1.symm
    split at hap
    ·rename_i hys
     subst hys
     simp only [Option.some.injEq, Prod.mk.injEq] at hap
     obtain ⟨rfl, rfl⟩ := hap
     have hnews : news = [] := by simpa using hn4
     subst hnews
     exact ⟨.slice (some qa) len cp, w, E, by have := hs2.inn w ty (some qa) len cp rfl (by simpa using hcap); simpa [storeCells] using this, h, rx0⟩
    ·rename_i hys
     have hpos := hne hys
     have hco0 : (off + cp) * i.size = p.csz - p.base := by rw [← j3]; omega
     split at hap
     ·rename_i hin
      simp only [Option.some.injEq, Prod.mk.injEq] at hap
      obtain ⟨rfl, rfl⟩ := hap
      obtain ⟨q1, q2⟩ := bulk_own h (i := off + len) (ys := ys) e1 hs j5 (by omega) hn2 hn3 hn5 hn4
      have hcl : es.length ≤ off + cp := by
       have h1 : es.length * i.size ≤ (off + cp) * i.size := by rw [hco0]; omega
       exact Nat.le_of_mul_le_mul_right h1 (by omega)
      have hroom : len + ys.length ≤ cp := by omega
      have hqa : qa = ⟨p.b, p.base + off * p.sz, none⟩ := by
       rcases k2 with k2 | k2
       ·omega
       ·exact k2
      have hsz : p.sz = i.size := j3
      have hst := run_storeCells (P := X.P) (b := p.b) (off := p.base + (off + len) * i.size) (t := bt) news 0 w arr j5 (by omega) hn3
      have hrun : (Builtin.append_ #[t, u] ty #[.slice (some qa) len cp, vy]).run X.P w = .ok (.slice (some qa) (len + ys.length) cp) (w.setB p.b (.cells (spl arr (p.base + (off + len) * i.size) news) bt (0, 0))) := by
       have hq2 : qa.add (len * i.size) = ⟨p.b, p.base + (off + len) * i.size, none⟩ := by rw [hqa, addr_add, hsz]; congr 1; rw [Nat.add_mul]; omega
       rw [hs2.inn w ty (some qa) len cp rfl hroom]; simp [hq2, hst]
      refine ⟨_, _, E, hrun, q2, ?_⟩
      simp only [Rep]
      exact ⟨hg, p, e1, e2, qa, cp, rfl, hroom, fun _ => ⟨hsz, .inr hqa, k3⟩⟩
     simp only [Option.some.injEq, Prod.mk.injEq] at hap
     obtain ⟨rfl, rfl⟩ := hap
     have hdl : ((es.drop off).take len).length = len := by simp; omega
     by_cases hroom : len + ys.length ≤ cp
     ·-- room
      have hqa : qa = ⟨p.b, p.base + off * p.sz, none⟩ := by
       rcases k2 with k2 | k2
       ·omega
       ·exact k2
      have hsz : p.sz = i.size := j3
      have hcc : (off + (len + ys.length)) * i.size ≤ (off + cp) * i.size := Nat.mul_le_mul_right _ (by omega)
      rw [hsz] at k3
      have hadd : (off + len) * i.size = off * i.size + len * i.size := Nat.add_mul _ _ _
      have hadd2 : (off + (len + ys.length)) * i.size = (off + len) * i.size + ys.length * i.size := by rw [← Nat.add_assoc, Nat.add_mul]
      have hfit : p.base + (off + len) * i.size + 0 + news.length ≤ arr.size := by rw [hn4, j6]; omega
      have hst := run_storeCells (P := X.P) (b := p.b) (off := p.base + (off + len) * i.size) (t := bt) news 0 w arr j5 hfit hn3
      have hrun : (Builtin.append_ #[t, u] ty #[.slice (some qa) len cp, vy]).run X.P w = .ok (.slice (some qa) (len + ys.length) cp) (w.setB p.b (.cells (spl arr (p.base + (off + len) * i.size) news) bt (0, 0))) := by
       have hq2 : qa.add (len * i.size) = ⟨p.b, p.base + (off + len) * i.size, none⟩ := by rw [hqa, addr_add, hsz]; congr 1; omega
       rw [hs2.inn w ty (some qa) len cp rfl hroom]; simp [hq2, hst]
      have hlt : p.b < w.heap.size := h.heap.lt (p := p) (List.mem_of_getElem? e1)
      have hh := heap_setB_same (w := w) (.cells (spl arr (p.base + (off + len) * i.size) news) bt (0, 0)) hlt
      have hfit' : p.base + (off + len) * i.size + news.length ≤ arr.size := by omega
      have hmv := h.move (id := oid) (p := p) (p' := ⟨p.b, p.base + off * i.size, og + ys.length, i.size, p.csz⟩) (w' := w.setB p.b (.cells (spl arr (p.base + (off + len) * i.size) news) bt (0, 0))) (blk := .arr (og + ys.length) i.size ((es.drop off).take len ++ ys)) e1
       ⟨by omega, by show p.g < og + ys.length; omega⟩ rfl rfl rfl (by rw [size_setB]; exact Nat.le_refl _) (fun b hb _ => heap_setB_other _ (fun e => hb e.symm)) (.inl rfl) (fun hx => by
        have hcell : ∀ j, (w.setB p.b (.cells (spl arr (p.base + (off + len) * i.size) news) bt (0, 0))).cell? ⟨p.b, j, none⟩ = (spl arr (p.base + (off + len) * i.size) news)[j]? := fun j => cells_of_list hh
        have hold : ∀ j, w.cell? ⟨p.b, j, none⟩ = arr[j]? := fun j => cells_of_list j5
        refine ⟨rfl, by show 0 < og + ys.length; omega, rfl, by omega, ⟨_, _, hh, by rw [spl_size _ _ _ hfit']; exact j6⟩, ?_, ?_, oneB_of hh (one_spl (j9 _ _ _ j5) hn3)⟩
        ·simp only [List.length_append, hdl, Nat.add_mul]; omega
        ·refine RepEs.append (RepEs.keep hx ((j8.drop off).take len) fun j hj1 hj2 => ?_) ?_
         ·rw [hdl] at hj2
          replace hj1 : p.base + off * i.size ≤ j := hj1
          replace hj2 : j < p.base + off * i.size + len * i.size := hj2
          show (w.setB p.b _).cell? _ = w.cell? _
          rw [hcell, hold, spl_get _ _ _ hfit', if_neg (by omega)]
         ·rw [hdl]
          refine RepCs.toEs hn5 ?_
          refine RepCs.ofL hh (RepL.mono hx _ _ hn2) hn3 fun j hj => ?_
          show (spl arr (p.base + (off + len) * i.size) news)[p.base + off * i.size + len * i.size + j]? = _
          rw [spl_get _ _ _ hfit', if_pos (by omega)]
          congr 1; omega)
      refine ⟨_, _, _, hrun, hmv.1, ?_⟩
      simp only [Rep]
      have hid : oid < E.length := (List.getElem?_eq_some_iff.1 e1).1
      refine ⟨by omega, ⟨p.b, p.base + off * i.size, og + ys.length, i.size, p.csz⟩, by simp [ctx, hid], Nat.le_refl _, qa, cp, rfl, hroom, fun _ => ⟨rfl, .inr (by rw [hqa, hsz]; simp), ?_⟩⟩
      simp only [Nat.zero_add]
      rw [Nat.add_mul] at k3; omega
     ·have hel : A.elems i.size (.os oid og i.size off len) s.σ = some ((es.drop off).take len) := by
       simp only [A.elems, hs]
       rw [if_pos (by simp; omega)]
      obtain ⟨q2, cap2, olds, e2', ho1, ho2, ho3, ho4, ho5⟩ := elems_run (P := X.P) h.heap hel rx0
      rw [hdl] at ho1 ho4
      injection e2' with e2a e2b e2c
      have hrun := hs2.new ty _ _ _ _ (ho1 w.drew rfl) (by omega) hc5
      obtain ⟨nc, hnc⟩ : ∃ nc, nc = grownCap w (len + ys.length) cp e := ⟨_, rfl⟩
      have hncge : len + ys.length ≤ nc := by rw [hnc]; exact grownCap_ge _ _ _ _
      rw [← hnc] at hrun
      obtain ⟨row, hrow⟩ : ∃ row, row = olds.toArray ++ news.toArray ++ Builtin.zeroCells zv.cells (nc - (len + ys.length)) := ⟨_, rfl⟩
      have hrsz : row.size = nc * i.size := by
       rw [hrow]; simp only [Array.size_append, hzsz, List.size_toArray, hn4, ho4]
       rw [← Nat.add_mul, ← Nat.add_mul]; congr 1; omega
      have hrl : row.toList = olds ++ news ++ (Builtin.zeroCells zv.cells (nc - (len + ys.length))).toList := by rw [hrow]; simp
      rw [← hrow] at hrun
      have hb : (w.drew.alloc (.cells row e)).heap[w.heap.size]? = some (.cells row e (0, 0)) := (MapKept.heap_alloc w.drew _).1
      have hmv := h.move (id := oid) (p := p) (p' := ⟨w.heap.size, 0, og + ys.length, i.size, row.size⟩) (w' := w.drew.alloc (.cells row e)) (blk := .arr (og + ys.length) i.size ((es.drop off).take len ++ ys)) e1
       ⟨by omega, by show p.g < og + ys.length; omega⟩ rfl rfl rfl (by simp) (fun b hb' hlt => by rw [Below.heap_alloc w.drew _ b (by simpa using hlt)]; rfl) (.inr ⟨Nat.le_refl _, by simp⟩) (fun hx => by
        refine ⟨rfl, by show 0 < og + ys.length; omega, rfl, by omega, ⟨_, _, hb, rfl⟩, ?_, RepCs.toEs (fun x hx' => ?_) ?_, oneB_of hb (by rw [hrow]; exact one_row hzs h0 hone ho3 hn3 _)⟩
        ·simp only [List.length_append, hdl, Nat.zero_add, hrsz]
         exact Nat.mul_le_mul_right _ hncge
        ·rcases List.mem_append.1 hx' with hx' | hx'
         ·exact ho5 x hx'
         ·exact hn5 x hx'
        ·rw [List.flatten_append]
         exact RepCs.sub (pre := []) (vs := olds ++ news) (suf := (Builtin.zeroCells zv.cells (nc - (len + ys.length))).toList) hb (by rw [hrl]; simp) (RepL.mono hx _ _ (ho2.append hn2)) (fun x hx' => by
          rcases List.mem_append.1 hx' with hx' | hx'
          ·exact ho3 x hx'
          ·exact hn3 x hx'))
      refine ⟨_, _, _, hrun, hmv.1, ?_⟩
      simp only [Rep]
      have hid : oid < E.length := (List.getElem?_eq_some_iff.1 e1).1
      refine ⟨by omega, ⟨w.heap.size, 0, og + ys.length, i.size, row.size⟩, by simp [ctx, hid], Nat.le_refl _, _, _, rfl, hncge, fun _ => ⟨rfl, .inr (by simp), ?_⟩⟩
      simp only [Nat.zero_add, hrsz]
   ·cases hap
  ·rename_i g' sz' es hs
   split at hap
   ·rename_i hc
    obtain ⟨hc1, hc2, hc3, hc4, hc5, hc6⟩ := hc
    subst hc1; subst hc2; subst hc3
    obtain ⟨j1, j2, j3, j4, ⟨arr, bt, j5, j6⟩, j7, j8, j9⟩ := h.heap.blk oid p _ e1 hs
    obtain ⟨k1, k2, k3⟩ := rx j1.symm
    simp only [Option.some.injEq, Prod.mk.injEq] at hap
    obtain ⟨rfl, rfl⟩ := hap
    have hdl : ((es.drop off).take len).length = len := by simp; omega
    have hco0 : (off + cp) * i.size = es.length * i.size := by rw [← j3] at j7 ⊢; omega
    have hco : off + cp = es.length := Nat.eq_of_mul_eq_mul_right j4 hco0
    have hel : A.elems i.size (.os oid og i.size off len) s.σ = some ((es.drop off).take len) := by
     simp only [A.elems, hs]
     rw [if_pos (by simp; omega)]
    obtain ⟨q2, cap2, olds, e2', ho1, ho2, ho3, ho4, ho5⟩ := elems_run (P := X.P) h.heap hel rx0
    rw [hdl] at ho1 ho4
    injection e2' with e2a e2b e2c
    have hrun := hs2.new ty _ _ _ _ (ho1 w.drew rfl) (by omega) hc5
    obtain ⟨nc, hnc⟩ : ∃ nc, nc = grownCap w (len + ys.length) cp e := ⟨_, rfl⟩
    have hncge : len + ys.length ≤ nc := by rw [hnc]; exact grownCap_ge _ _ _ _
    rw [← hnc] at hrun
    obtain ⟨row, hrow⟩ : ∃ row, row = olds.toArray ++ news.toArray ++ Builtin.zeroCells zv.cells (nc - (len + ys.length)) := ⟨_, rfl⟩
    have hrsz : row.size = nc * i.size := by
     rw [hrow]; simp only [Array.size_append, hzsz, List.size_toArray, hn4, ho4]
     rw [← Nat.add_mul, ← Nat.add_mul]; congr 1; omega
    have hrl : row.toList = olds ++ news ++ (Builtin.zeroCells zv.cells (nc - (len + ys.length))).toList := by rw [hrow]; simp
    rw [← hrow] at hrun
    have hb : (w.drew.alloc (.cells row e)).heap[w.heap.size]? = some (.cells row e (0, 0)) := (MapKept.heap_alloc w.drew _).1
    have hst := (h.grow (w' := w.drew) ((Below.refl _ _).drew)).newOwn (.cells row e) (.arr (len + ys.length) i.size ((es.drop off).take len ++ ys))
      ⟨w.heap.size, 0, len + ys.length, i.size, row.size⟩ rfl (fun hx => by
      refine ⟨rfl, by show 0 < len + ys.length; omega, rfl, by omega, ⟨_, _, hb, rfl⟩, ?_, RepCs.toEs (fun x hx' => ?_) ?_, oneB_of hb (by rw [hrow]; exact one_row hzs h0 hone ho3 hn3 _)⟩
      ·simp only [List.length_append, hdl, Nat.zero_add, hrsz]
       exact Nat.mul_le_mul_right _ hncge
      ·rcases List.mem_append.1 hx' with hx' | hx'
       ·exact ho5 x hx'
       ·exact hn5 x hx'
      ·rw [List.flatten_append]
       exact RepCs.sub (pre := []) (vs := olds ++ news) (suf := (Builtin.zeroCells zv.cells (nc - (len + ys.length))).toList) hb (by rw [hrl]; simp) (RepL.mono (Ext.trans (grow_ext ((Below.refl _ _).drew)) hx) _ _ (ho2.append hn2)) (fun x hx' => by
        rcases List.mem_append.1 hx' with hx' | hx'
        ·exact ho3 x hx'
        ·exact hn3 x hx'))
    refine ⟨_, _, _, hrun, hst, ?_⟩
    simp only [Rep]
    have hlen := h.heap.len
    simp only [ctx] at hlen
    refine ⟨by omega, ⟨w.heap.size, 0, len + ys.length, i.size, row.size⟩, by show (E ++ [_])[s.σ.length]? = _; rw [← hlen]; exact List.getElem?_concat_length, Nat.le_refl _, _, _, rfl, hncge, fun _ => ⟨rfl, .inr (by simp), ?_⟩⟩
    simp only [Nat.zero_add, hrsz]
   ·cases hap
  ·cases hap
theorem append_wp (h : St X z s a w E pb) {t u e e' ty : TypeId} {i : TypeInfo} {zv : Value} (ht : X.P.underlying t = some (.slice e)) (hu : X.P.underlying u = some (.slice e')) (hi : X.P.info? e = some i) (hz : i.zero = some zv) (hzs : zv.cells.size = i.size) (h0 : i.size ≠ 0) (hb0 : i.bytes ≠ 0) (hone : ∀ x ∈ zv.cells.toList, one1 x = true)
  {x y : AV} {v vy : Value} {r : AV} {σ' : Heap} (hap : A.append i.size (140737488355328 / i.bytes) x y s.σ = some (r, σ')) (rx : Rep (ctx z w E pb) x v) (ry : Rep (ctx z w E pb) y vy) :
  ∃ k w' E', (Builtin.append_ #[t, u] ty #[v, vy]).run X.P w = .ok k w' ∧ St X z (s.heap σ') a w' E' pb ∧ Rep (ctx z w' E' pb) r k := by
 unfold A.append at hap
 obtain ⟨ys, hy, hap⟩ := Option.bind_eq_some_iff.1 hap
 obtain ⟨q, cap, news, rfl, hn1, hn2, hn3, hn4, hn5⟩ := elems_run (P := X.P) h.heap hy ry
 refine appendL_wp h hzs h0 hone ⟨fun w2 ty base sLen sCap hw hr => ?_, fun ty base sLen sCap olds ho hg hm => run_append_new ht hu hi hz hb0 ho (hn1 w.drew rfl) hg hm⟩ hn2 hn3 hn4 hn5 hap rx
 cases base <;> simp [Builtin.append_, run_underlying ht, run_underlying hu, sizeOf, typeInfo, hi, Builtin.lenOf, hn1 w2 hw, hr]
theorem zeroCells_zero (zs : Array Value) : Builtin.zeroCells zs 0 = #[] := by
 apply Array.toList_inj.1
 apply List.eq_nil_of_length_eq_zero
 rw [Array.length_toList, size_zeroCells]; simp
theorem run_appendZ_in {P : Program} {t u e ty : TypeId} {k k' : IntKind} {i : TypeInfo} {zv : Value} (ht : P.underlying t = some (.slice e)) (hu : P.underlying u = some (.int k)) (hi : P.info? e = some i) (hz : i.zero = some zv) (hb0 : i.bytes ≠ 0) (h0 : i.size ≠ 0)
  {base : Option Addr} {sLen sCap n : Nat} {w2 : World} (hm : n ≤ 140737488355328 / i.bytes) (hr : sLen + n ≤ sCap) :
  (Builtin.append_ #[t, u] ty #[.slice base sLen sCap, .int k' n]).run P w2 = ((match base with | some a => storeCells (a.add (sLen * i.size)) (Builtin.zeroCells zv.cells n).toList 0 | none => pure ()) >>= fun _ => pure (Value.slice base (sLen + n) sCap) : Sem Value).run P w2 := by
 have hfits : n * i.bytes ≤ 140737488355328 := by
  have := Nat.mul_le_mul_right i.bytes hm
  have := Nat.div_mul_le_self 140737488355328 i.bytes
  omega
 have hle : n ≤ n * i.bytes := Nat.le_mul_of_pos_right _ (by omega)
 have hw : IntKind.i64.wrap (n : Int) = (n : Int) := by rw [IntKind.wrap_i64]; omega
 have hl : ¬ ((281474976710656 : Int) < (n : Int) * (i.bytes : Int)) := by
  have : (n : Int) * (i.bytes : Int) = ((n * i.bytes : Nat) : Int) := by simp
  omega
 have hlf : ¬ ((n : Int) < 0) := by omega
 by_cases hn0 : n = 0
 ·subst hn0
  have hw0 : IntKind.i64.wrap 0 = 0 := by decide
  have hr' : sLen ≤ sCap := by omega
  cases base <;> simp [Builtin.append_, run_underlying ht, run_underlying hu, sizeOf, typeInfo, hi, asInt, asIntOf, hw0, hr', zeroCells_zero]
 ·have hns : n * i.size ≠ 0 := Nat.mul_ne_zero hn0 h0
  cases base <;> simp [Builtin.append_, run_underlying ht, run_underlying hu, sizeOf, typeInfo, zeroValue, hi, hz, asInt, asIntOf, hw, hl, hlf, hr, hns]
theorem run_appendZ_new {P : Program} {t u e ty : TypeId} {k k' : IntKind} {i : TypeInfo} {zv : Value} (ht : P.underlying t = some (.slice e)) (hu : P.underlying u = some (.int k)) (hi : P.info? e = some i) (hz : i.zero = some zv) (hb0 : i.bytes ≠ 0) (h0 : i.size ≠ 0)
  {base : Option Addr} {sLen sCap n : Nat} {olds : List Value} (hold : (Builtin.firstCells i.size sLen (.slice base sLen sCap)).run P w.drew = .ok olds.toArray w.drew)
  (hg : sCap < sLen + n) (hm : sLen + n ≤ 140737488355328 / i.bytes) :
  (Builtin.append_ #[t, u] ty #[.slice base sLen sCap, .int k' n]).run P w =
   .ok (.slice (some ⟨w.heap.size, 0, none⟩) (sLen + n) (grownCap w (sLen + n) sCap e)) (w.drew.alloc (.cells (olds.toArray ++ (Builtin.zeroCells zv.cells n).toList.toArray ++ Builtin.zeroCells zv.cells (grownCap w (sLen + n) sCap e - (sLen + n))) e)) := by
 have hfits : (sLen + n) * i.bytes ≤ 140737488355328 := by
  have := Nat.mul_le_mul_right i.bytes hm
  have := Nat.div_mul_le_self 140737488355328 i.bytes
  omega
 have hle : sLen + n ≤ (sLen + n) * i.bytes := Nat.le_mul_of_pos_right _ (by omega)
 have h48 := growslice_fits hg hfits
 have hn : ¬ (sLen + n ≤ sCap) := by omega
 have h48' : ¬ (281474976710656 < Builtin.nextslicecap (sLen + n) sCap * i.bytes) := by omega
 have hw : IntKind.i64.wrap (n : Int) = (n : Int) := by rw [IntKind.wrap_i64]; omega
 have hnb : n * i.bytes ≤ (sLen + n) * i.bytes := Nat.mul_le_mul_right _ (by omega)
 have hl : ¬ ((281474976710656 : Int) < (n : Int) * (i.bytes : Int)) := by
  have : (n : Int) * (i.bytes : Int) = ((n * i.bytes : Nat) : Int) := by simp
  omega
 have hlf : ¬ ((n : Int) < 0) := by omega
 have hmx : ¬ ((9223372036854775807 : Int) < (sLen : Int) + (n : Int)) := by omega
 by_cases hn0 : n = 0
 ·subst hn0
  have hw0 : IntKind.i64.wrap 0 = 0 := by decide
  have hmx' : ¬ ((9223372036854775807 : Int) < (sLen : Int)) := by omega
  simp only [Nat.add_zero] at hn h48' ⊢
  simp [Builtin.append_, run_underlying ht, run_underlying hu, sizeOf, typeInfo, zeroValue, hi, hz, asInt, asIntOf, hw0, hn, h48', hb0, Question.forced, hold, newRow, grownCap, zeroCells_zero, hmx']
 ·have hns : n * i.size ≠ 0 := Nat.mul_ne_zero hn0 h0
  simp [Builtin.append_, run_underlying ht, run_underlying hu, sizeOf, typeInfo, zeroValue, hi, hz, asInt, asIntOf, hw, hl, hlf, hn, hns, h48', hb0, Question.forced, hold, newRow, grownCap, hmx]
theorem appendZ_wp (h : St X z s a w E pb) {t u e ty : TypeId} {kk : IntKind} {i : TypeInfo} {zv : Value} {zs : List AV} (ht : X.P.underlying t = some (.slice e)) (hu : X.P.underlying u = some (.int kk)) (hi : X.P.info? e = some i) (hz : i.zero = some zv) (hzs : zv.cells.size = i.size) (h0 : i.size ≠ 0) (hb0 : i.bytes ≠ 0)
  (hzr : ∀ c, RepL c zs zv.cells.toList) (hone : ∀ x ∈ zv.cells.toList, one1 x = true)
  {x y : AV} {v vy : Value} {r : AV} {σ' : Heap} (hap : A.appendZ i.size (140737488355328 / i.bytes) zs x y s.σ = some (r, σ')) (rx : Rep (ctx z w E pb) x v) (ry : Rep (ctx z w E pb) y vy) :
  ∃ k w' E', (Builtin.append_ #[t, u] ty #[v, vy]).run X.P w = .ok k w' ∧ St X z (s.heap σ') a w' E' pb ∧ Rep (ctx z w' E' pb) r k := by
 unfold A.appendZ at hap
 split at hap
 ·rename_i k n
  simp only [Rep] at ry; subst ry
  split at hap
  ·rename_i hn
   obtain ⟨hn1, hn2⟩ := hn
   obtain ⟨m, rfl⟩ : ∃ m : Nat, n = m := ⟨n.toNat, by omega⟩
   simp only [Int.toNat_natCast] at hap
   have hzl : zs.length = i.size := by rw [(hzr (ctx z w E pb)).length]; simpa using hzs
   have hm : m ≤ 140737488355328 / i.bytes := by omega
   refine appendL_wp (e := e) h hzs h0 hone (ys := List.replicate m zs) (news := (Builtin.zeroCells zv.cells m).toList) ⟨fun w2 ty base sLen sCap hw hr => ?_, fun ty base sLen sCap olds ho hg hmm => ?_⟩ ?_ (one_zeros hzs h0 hone m) ?_ (fun y hy => by rw [(List.mem_replicate.1 hy).2]; exact hzl) hap rx
   ·rw [List.length_replicate] at hr ⊢
    exact run_appendZ_in ht hu hi hz hb0 h0 hm hr
   ·rw [List.length_replicate] at hg hmm ⊢
    exact run_appendZ_new ht hu hi hz hb0 h0 ho hg hmm
   ·rw [zeroCells_list hzs h0]; exact (hzr _).flatten m
   ·rw [Array.length_toList, size_zeroCells, hzs, List.length_replicate]
  ·cases hap
 ·cases hap
theorem copy_wp (h : St X z s a w E pb) {t u e e' ty : TypeId} {i : TypeInfo} (ht : X.P.underlying t = some (.slice e)) (hu : X.P.underlying u = some (.slice e')) (hi : X.P.info? e = some i) (h0 : i.size ≠ 0)
  {x y : AV} {v vy : Value} {r : AV} {σ' : Heap} (hcp : A.copyS i.size x y s.σ = some (r, σ')) (rx : Rep (ctx z w E pb) x v) (ry : Rep (ctx z w E pb) y vy) :
  ∃ k w', (Builtin.copy_ #[t, u] ty #[v, vy]).run X.P w = .ok k w' ∧ St X z (s.heap σ') a w' E pb ∧ Rep (ctx z w' E pb) r k := by
 unfold A.copyS at hcp
 obtain ⟨ys, hy, hcp⟩ := Option.bind_eq_some_iff.1 hcp
 obtain ⟨q, cap, news, rfl, hn1, hn2, hn3, hn4, hn5, hn6⟩ := elems_run2 (P := X.P) h.heap hy ry
 have hs0 : s.heap s.σ = s := rfl
 have hf0 : (Builtin.firstCells i.size 0 (.slice q ys.length cap)).run X.P w = .ok #[] w := by
  have := hn6 0 (Nat.zero_le _) w rfl
  simpa using this
 cases x <;> simp only at hcp <;> first | (cases hcp; done) | skip
 case nsl =>
  simp only [Option.some.injEq, Prod.mk.injEq] at hcp
  obtain ⟨rfl, rfl⟩ := hcp
  simp only [Rep] at rx; subst rx
  exact ⟨goInt 0, w, by simp [Builtin.copy_, run_underlying ht, sizeOf, typeInfo, hi, Builtin.lenOf, hf0, Nat.min], by rw [hs0]; exact h, by simp [Rep, goInt]⟩
 case ez =>
  simp only [Option.some.injEq, Prod.mk.injEq] at hcp
  obtain ⟨rfl, rfl⟩ := hcp
  simp only [Rep] at rx; obtain ⟨qb, rfl⟩ := rx
  exact ⟨goInt 0, w, by cases qb <;> simp [Builtin.copy_, run_underlying ht, sizeOf, typeInfo, hi, Builtin.lenOf, hf0, storeCells], by rw [hs0]; exact h, by simp [Rep, goInt]⟩
 case os =>
  rename_i oid og sz0 off len hcp0
  simp only [Rep] at rx
  obtain ⟨hg, p, e1, e2, qa, cp, rfl, hcap, rx⟩ := rx
  split at hcp
  ·rename_i g' sz' es hs
   split at hcp
   ·rename_i hc
    obtain ⟨hc1, hc2, hc3, hc4⟩ := hc
    subst hc1; subst hc2; subst hc3
    obtain ⟨j1, j2, j3, j4, ⟨arr, bt, j5, j6⟩, j7, j8, j9⟩ := h.heap.blk oid p _ e1 hs
    obtain ⟨k1, k2, k3⟩ := rx j1.symm
    have hmin : Nat.min ys.length len = (ys.take len).length := by rw [List.length_take]; exact Nat.min_comm _ _
    split at hcp
    ·rename_i hz
     simp only [Option.some.injEq, Prod.mk.injEq] at hcp
     obtain ⟨rfl, rfl⟩ := hcp
     have hm0 : Nat.min ys.length len = 0 := by rcases hz with k | k <;> rw [k] <;> simp [Nat.min_def]
     refine ⟨goInt 0, w, ?_, by rw [hs0]; exact h, by simp [Rep, goInt]⟩
     simp [Builtin.copy_, run_underlying ht, sizeOf, typeInfo, hi, Builtin.lenOf, hm0, hf0, storeCells]
    ·rename_i hz
     simp only [Option.some.injEq, Prod.mk.injEq] at hcp
     obtain ⟨rfl, rfl⟩ := hcp
     have hqa : qa = ⟨p.b, p.base + off * p.sz, none⟩ := by
      rcases k2 with k2 | k2
      ·omega
      ·exact k2
     have hsz : p.sz = i.size := j3
     obtain ⟨n, hn⟩ : ∃ n, n = (ys.take len).length := ⟨_, rfl⟩
     have hnl : n ≤ ys.length ∧ n ≤ len := by rw [hn, List.length_take]; omega
     have hfc := hn6 n hnl.1 w rfl
     have hyt : ys.take len = ys.take n := by rw [hn, List.length_take]; rw [List.take_eq_take_iff]; omega
     have hlenN : (news.take (n * i.size)).length = n * i.size := by
      rw [List.length_take, hn4]
      exact Nat.min_eq_left (Nat.mul_le_mul_right _ hnl.1)
     have hrep : RepL (ctx z w E pb) (ys.take n).flatten (news.take (n * i.size)) := by
      have : (ys.take n).flatten = ys.flatten.take (n * i.size) := flatten_take hn5 hnl.1
      rw [this]; exact hn2.take _
     obtain ⟨q1, q2⟩ := bulk_own h (i := off) (ys := ys.take n) e1 hs j5 (by rw [List.length_take]; omega) hrep (fun x hx => hn3 x (List.mem_of_mem_take hx)) (fun y hy => hn5 y (List.mem_of_mem_take hy)) (by rw [hlenN, List.length_take]; congr 1; omega)
     have hst := run_storeCells (P := X.P) (b := p.b) (off := p.base + off * i.size) (t := bt) (news.take (n * i.size)) 0 w arr j5 (by omega) (fun x hx => hn3 x (List.mem_of_mem_take hx))
     rw [hyt]
     have hln : (ys.take n).length = n := by rw [List.length_take]; omega
     refine ⟨goInt n, _, ?_, q2, ?_⟩
     ·rw [hqa, hsz]
      simp [Builtin.copy_, run_underlying ht, sizeOf, typeInfo, hi, Builtin.lenOf, hmin, ← hn, hfc, hst]
     ·rw [hln]; simp [Rep, goInt]
   ·cases hcp
  ·cases hcp
theorem all_some {R : Type} {p : Nat → Prop} {k : Nat → Option R} {r : R} (h : A.all p k = some r) {n : Nat} (hn : p n) : k n = some r := by
 unfold A.all at h
 split at h
 ·rename_i hx
  injection h with h
  rw [← h]
  exact Classical.choose_spec hx n hn
 ·cases h
theorem capU_wp (h : St X z s a w E pb) {R : Type} {k : Nat → Heap → Option R} {r : R} {t e ty : TypeId} (ht : X.P.underlying t = some (.slice e)) {x : AV} {v : Value} (hk : A.capU x s.σ k = some r) (rx : Rep (ctx z w E pb) x v) :
  ∃ c σ', k c σ' = some r ∧ (Builtin.cap_ #[t] ty #[v]).run X.P w = .ok (.int .i64 (c : Int)) w ∧ St X z (s.heap σ') a w E pb := by
 unfold A.capU at hk
 cases x <;> simp only at hk <;> first | (cases hk; done) | skip
 rename_i id g sz off len
 simp only [Rep] at rx
 obtain ⟨hg, p, e1, e2, qa, cp, rfl, hcap, rx⟩ := rx
 split at hk
 ·rename_i g' sz' es hs
  split at hk
  ·rename_i hc
   obtain ⟨hc1, hc2, hc4⟩ := hc
   subst hc1; subst hc2
   obtain ⟨j1, j2, j3, j4, ⟨arr, bt, j5, j6⟩, j7, j8, j9⟩ := h.heap.blk id p _ e1 hs
   obtain ⟨k1, k2, k3⟩ := rx j1.symm
   rw [k1] at k3
   have hle : es.length ≤ off + cp := Nat.le_of_mul_le_mul_right (show es.length * sz ≤ (off + cp) * sz by omega) j4
   have hk2 := all_some hk (n := cp) ⟨hcap, hle⟩
   by_cases htt : cp = len
   ·rw [if_pos htt] at hk2
    refine ⟨cp, _, hk2, by simp [Builtin.cap_, run_underlying ht, goInt], ?_⟩
    have j5' : w.heap[p.b]? = some (.cells arr bt (0, 0)) := j5
    have hel : es.length = off + cp := by omega
    have hst := h.setOwn e1 (.cells arr bt (0, 0)) (.arrF g sz es) (fun hx => by
     have hsame : w.setB p.b (.cells arr bt (0, 0)) = w := setB_same j5'
     rw [hsame]
     exact ⟨j1, j2, j3, j4, ⟨arr, bt, j5, j6⟩, by rw [hel]; omega, j8, j9⟩)
    rw [setB_same j5'] at hst
    exact hst
   rw [if_neg htt] at hk2
   refine ⟨cp, _, hk2, by simp [Builtin.cap_, run_underlying ht, goInt], ?_⟩
   have j5' : w.heap[p.b]? = some (.cells arr bt (0, 0)) := j5
   have hst := h.setOwn e1 (.cells arr bt (0, 0)) (.arr g sz (es ++ List.replicate (off + cp - es.length) (List.replicate sz .undef))) (fun hx => by
    have hsame : w.setB p.b (.cells arr bt (0, 0)) = w := setB_same j5'
    rw [hsame]
    refine ⟨j1, j2, j3, j4, ⟨arr, bt, j5, j6⟩, ?_, RepEs.append j8 (RepEs.of fun j x hj => ?_), j9⟩
    ·rw [List.length_append, List.length_replicate, show es.length + (off + cp - es.length) = off + cp by omega]; omega
    ·have hjl := (List.getElem?_eq_some_iff.1 hj).1
     rw [List.length_replicate] at hjl
     have hx' := List.mem_of_getElem? hj
     rw [List.mem_replicate] at hx'
     rw [hx'.2]
     refine ⟨List.length_replicate, RepCs.of fun m av hm => ?_⟩
     have hml := (List.getElem?_eq_some_iff.1 hm).1
     rw [List.length_replicate] at hml
     have hav := List.mem_of_getElem? hm
     rw [List.mem_replicate] at hav
     have hmul : (es.length + (j + 1)) * sz ≤ (off + cp) * sz := Nat.mul_le_mul_right _ (by omega)
     rw [Nat.add_mul, Nat.add_mul] at hmul
     have hin : p.base + es.length * sz + j * sz + m < arr.size := by rw [j6]; omega
     refine ⟨arr[p.base + es.length * sz + j * sz + m], ?_, j9 _ _ _ j5 _ (by simp), by rw [hav.2]; simp [Rep]⟩
     show w.cell? _ = _
     rw [cells_of_list j5', Array.getElem?_eq_getElem hin])
   rw [setB_same j5'] at hst
   exact hst
  ·cases hk
 ·cases hk
end
end Go.Proofs.YtfalbgflabajbaaDoor

namespace Go.Proofs.YtfalbgflabajbaaDoor
set_option linter.unusedSectionVars false
open Go.RowKit
set_option linter.unusedVariables false
set_option linter.unusedSimpArgs false
section
variable {c : RC}
theorem eqC_same {k : Nat} {x y : AV} {v u : Value} (n : Nat) (h : A.eqC k x y = some true) (r : Rep c x v) (q : Rep c y u) : Instr.sameBits n u v = true := by
 unfold A.eqC at h
 split at h
 ·unfold A.eqI at h; split at h
  ·simp only [Rep] at r q; split at h
   ·injection h with h; subst_vars; simp at h; subst h; simp [Instr.sameBits]
   ·cases h
  ·cases h
 ·unfold A.eqB at h; split at h
  ·simp only [Rep] at r q; injection h with h; subst_vars; simp at h; subst h; simp [Instr.sameBits]
  ·cases h
 ·unfold A.eqZ at h; split at h
  ·simp only [Rep] at r q; injection h with h; subst_vars; simp only [Instr.sameBits]; rename_i a b
   rw [strEq] at h ⊢
   rw [beq_iff_eq] at h ⊢
   exact h.symm
  ·cases h
 ·cases h
theorem eqAll_same (n : Nat) : ∀ {ks : List Nat} {xs ys : List AV} {vs us : List Value}, A.eqAll ks xs ys = some true → RepL c xs vs → RepL c ys us → us.length = vs.length ∧ ((us.zip vs).all fun (p : Value × Value) => Instr.sameBits n p.1 p.2) = true
 | [], [], [], vs, us, _, r, q => by simp only [RepL] at r q; subst r; subst q; simp
 | [], [], _ :: _, _, _, h, _, _ => by simp [A.eqAll] at h
 | [], _ :: _, _, _, _, h, _, _ => by simp [A.eqAll] at h
 | _ :: _, [], _, _, _, h, _, _ => by simp [A.eqAll] at h
 | _ :: _, _ :: _, [], _, _, h, _, _ => by simp [A.eqAll] at h
 | k :: ks, x :: xs, y :: ys, vs, us, h, r, q => by
  simp only [A.eqAll] at h
  obtain ⟨p, h1, h2⟩ := Option.bind_eq_some_iff.1 h
  obtain ⟨p', h3, h4⟩ := Option.map_eq_some_iff.1 h2
  simp only [Bool.and_eq_true] at h4
  obtain ⟨rfl, rfl⟩ := h4
  simp only [RepL] at r q
  obtain ⟨v, vs', rfl, r1, r2⟩ := r
  obtain ⟨u, us', rfl, q1, q2⟩ := q
  obtain ⟨i1, i2⟩ := eqAll_same n h3 r2 q2
  exact ⟨by simp [i1], by simp [eqC_same n h1 r1 q1]; simpa using i2⟩
theorem eqK_same {e : A.EK} {x y : AV} {v u : Value} (hk : A.keyOk e x = true) (h : A.eqK e x y = some true) (r : Rep c x v) (q : Rep c y u) : Instr.sameBits 10000 u v = true := by
 cases e <;> simp only [A.eqK] at h
 case i => exact eqC_same (k := 0) _ h r q
 case b => exact eqC_same (k := 1) _ h r q
 case z => exact eqC_same (k := 2) _ h r q
 case p => cases x <;> simp [A.keyOk] at hk
 case s ks =>
  split at h
  ·simp only [Rep] at r q
   obtain ⟨vs, rfl, r1, _⟩ := r
   obtain ⟨us, rfl, q1, _⟩ := q
   obtain ⟨i1, i2⟩ := eqAll_same 9999 h r1 q1
   show Instr.sameBits (9999 + 1) _ _ = true
   simp only [Instr.sameBits, Bool.and_eq_true]
   exact ⟨by simpa using i1, i2⟩
  ·cases h
theorem upd_ix {e : A.EK} {k v : AV} : ∀ {ents ents' : List (AV × AV)} {i : Nat} {ix : Option Nat}, A.upd e k v ents = some ents' → A.ixFrom e k ents i = some ix →
  (ix = none ∧ ents' = ents ++ [(k, v)]) ∨ ∃ j p, ix = some (i + j) ∧ ents[j]? = some p ∧ A.eqK e k p.1 = some true ∧ ents' = ents.set j (k, v)
 | [], ents', i, ix, h, g => by simp only [A.upd, A.ixFrom] at h g; injection h with h; injection g with g; exact .inl ⟨g.symm, by simpa using h.symm⟩
 | (k', v') :: ents, ents', i, ix, h, g => by
  simp only [A.upd, A.ixFrom] at h g
  obtain ⟨b, h1, h2⟩ := Option.bind_eq_some_iff.1 h
  rw [h1, Option.bind_some] at g
  cases b
  ·simp only [cond_false] at h2 g
   obtain ⟨e2, h3, h4⟩ := Option.map_eq_some_iff.1 h2
   rcases upd_ix h3 g with ⟨rfl, rfl⟩ | ⟨j, p, rfl, k1, k2, rfl⟩
   ·exact .inl ⟨rfl, by simpa using h4.symm⟩
   ·exact .inr ⟨j + 1, p, by congr 1; omega, by simpa using k1, k2, by simpa using h4.symm⟩
  ·simp only [cond_true] at h2 g
   injection h2 with h2; injection g with g
   exact .inr ⟨0, (k', v'), g.symm, rfl, h1, by simpa using h2.symm⟩
theorem del_ix {e : A.EK} {k : AV} : ∀ {ents ents' : List (AV × AV)} {i : Nat} {ix : Option Nat}, A.del e k ents = some ents' → A.ixFrom e k ents i = some ix →
  (ix = none ∧ ents' = ents) ∨ ∃ j, ix = some (i + j) ∧ j < ents.length ∧ ents' = ents.eraseIdx j
 | [], ents', i, ix, h, g => by simp only [A.del, A.ixFrom] at h g; injection h with h; injection g with g; exact .inl ⟨g.symm, h.symm⟩
 | (k', v') :: ents, ents', i, ix, h, g => by
  simp only [A.del, A.ixFrom] at h g
  obtain ⟨b, h1, h2⟩ := Option.bind_eq_some_iff.1 h
  rw [h1, Option.bind_some] at g
  cases b
  ·simp only [cond_false] at h2 g
   obtain ⟨e2, h3, h4⟩ := Option.map_eq_some_iff.1 h2
   rcases del_ix h3 g with ⟨rfl, rfl⟩ | ⟨j, rfl, k1, rfl⟩
   ·exact .inl ⟨rfl, by simpa using h4.symm⟩
   ·exact .inr ⟨j + 1, by congr 1; omega, by simpa using k1, by simpa using h4.symm⟩
  ·simp only [cond_true] at h2 g
   injection h2 with h2; injection g with g
   exact .inr ⟨0, g.symm, by simp, by simpa using h2.symm⟩
theorem ix_of_upd {e : A.EK} {k v : AV} : ∀ {ents ents' : List (AV × AV)}, A.upd e k v ents = some ents' → ∃ r, A.find e k ents = some r
 | [], ents', _ => ⟨none, rfl⟩
 | (k', v') :: ents, ents', g => by
  simp only [A.upd] at g
  obtain ⟨b, h1, h2⟩ := Option.bind_eq_some_iff.1 g
  cases b
  ·obtain ⟨e2, h3, _⟩ := Option.map_eq_some_iff.1 (by simpa using h2)
   obtain ⟨r, hr⟩ := ix_of_upd h3
   exact ⟨r, by simp [A.find, h1, hr]⟩
  ·exact ⟨some v', by simp [A.find, h1]⟩
theorem ix_of_del {e : A.EK} {k : AV} : ∀ {ents ents' : List (AV × AV)}, A.del e k ents = some ents' → ∃ r, A.find e k ents = some r
 | [], ents', _ => ⟨none, rfl⟩
 | (k', v') :: ents, ents', g => by
  simp only [A.del] at g
  obtain ⟨b, h1, h2⟩ := Option.bind_eq_some_iff.1 g
  cases b
  ·obtain ⟨e2, h3, _⟩ := Option.map_eq_some_iff.1 (by simpa using h2)
   obtain ⟨r, hr⟩ := ix_of_del h3
   exact ⟨r, by simp [A.find, h1, hr]⟩
  ·exact ⟨some v', by simp [A.find, h1]⟩
theorem RepM.nth : ∀ {l : List (AV × AV)} {es : List MapEntry} {i : Nat} {p : AV × AV}, RepM c l es → l[i]? = some p → ∃ e, es[i]? = some e ∧ Rep c p.1 e.key ∧ Rep c p.2 e.val
 | [], es, i, p, h, k => by simp at k
 | (a, b) :: l, es, 0, p, h, k => by
  obtain ⟨e, es', rfl, h1, h2, _⟩ := h
  simp at k; subst k
  exact ⟨e, rfl, h1, h2⟩
 | (a, b) :: l, es, i + 1, p, h, k => by
  obtain ⟨e, es', rfl, _, _, h3⟩ := h
  simp at k
  obtain ⟨e', k1, k2⟩ := RepM.nth h3 k
  exact ⟨e', by simpa using k1, k2⟩
theorem RepM.set {k v : AV} {key val : Value} (rk : Rep c k key) (rv : Rep c v val) : ∀ {l : List (AV × AV)} {es : List MapEntry} (j : Nat), RepM c l es → RepM c (l.set j (k, v)) (es.modify j fun e => { e with key, val })
 | [], es, j, h => by simp only [RepM] at h; subst h; simp [RepM]
 | (a, b) :: l, es, 0, h => by
  obtain ⟨e, es', rfl, h1, h2, h3⟩ := h
  exact ⟨_, _, rfl, rk, rv, h3⟩
 | (a, b) :: l, es, j + 1, h => by
  obtain ⟨e, es', rfl, h1, h2, h3⟩ := h
  exact ⟨e, _, rfl, h1, h2, RepM.set rk rv j h3⟩
theorem RepM.push {k v : AV} {key val : Value} {n : Nat} (rk : Rep c k key) (rv : Rep c v val) : ∀ {l : List (AV × AV)} {es : List MapEntry}, RepM c l es → RepM c (l ++ [(k, v)]) (es ++ [⟨key, val, n⟩])
 | [], es, h => by simp only [RepM] at h; subst h; exact ⟨_, _, rfl, rk, rv, rfl⟩
 | (a, b) :: l, es, h => by
  obtain ⟨e, es', rfl, h1, h2, h3⟩ := h
  exact ⟨e, _, rfl, h1, h2, RepM.push rk rv h3⟩
theorem RepM.erase : ∀ {l : List (AV × AV)} {es : List MapEntry} (j : Nat), RepM c l es → RepM c (l.eraseIdx j) (es.eraseIdx j)
 | [], es, j, h => by simp only [RepM] at h; subst h; simp [RepM]
 | (a, b) :: l, es, 0, h => by obtain ⟨e, es', rfl, h1, h2, h3⟩ := h; exact h3
 | (a, b) :: l, es, j + 1, h => by
  obtain ⟨e, es', rfl, h1, h2, h3⟩ := h
  exact ⟨e, _, rfl, h1, h2, RepM.erase j h3⟩
end
theorem MapWf.push {es : Array MapEntry} {clock : Nat} {key val : Value} (h : MapWf es clock) : MapWf (es.push ⟨key, val, clock⟩) (clock + 1) := by
 refine ⟨fun e he => ?_, ?_⟩
 ·simp only [Array.toList_push, List.mem_append, List.mem_singleton] at he
  rcases he with he | rfl
  ·have := h.1 e he; omega
  ·exact Nat.lt_succ_self _
 ·simp only [Array.toList_push, List.map_append, List.map_cons, List.map_nil]
  rw [List.nodup_append]
  refine ⟨h.2, by simp, fun a ha b hb => ?_⟩
  obtain ⟨e, he, rfl⟩ := List.mem_map.1 ha
  have := h.1 e he
  simp at hb; omega
theorem modify_born (key val : Value) : ∀ (l : List MapEntry) (i : Nat), (l.modify i fun e => { e with key, val }).map (·.born) = l.map (·.born)
 | [], i => by simp
 | e :: l, 0 => by simp
 | e :: l, i + 1 => by simp [modify_born key val l i]
theorem MapWf.modify {es : Array MapEntry} {clock i : Nat} {key val : Value} (h : MapWf es clock) : MapWf (es.modify i fun e => { e with key, val }) clock := by
 have hb : (es.modify i fun e => { e with key, val }).toList.map (·.born) = es.toList.map (·.born) := by
  rw [Array.toList_modify, modify_born]
 refine ⟨fun e he => ?_, by rw [hb]; exact h.2⟩
 have : e.born ∈ es.toList.map (·.born) := by rw [← hb]; exact List.mem_map.2 ⟨e, he, rfl⟩
 obtain ⟨e', he', e1⟩ := List.mem_map.1 this
 rw [← e1]; exact h.1 e' he'
theorem MapWf.erase {es : Array MapEntry} {clock i : Nat} (h : MapWf es clock) : MapWf (es.eraseIdxIfInBounds i) clock := by
 by_cases hi : i < es.size
 ·have hee : (es.eraseIdxIfInBounds i).toList = es.toList.eraseIdx i := by simp [Array.eraseIdxIfInBounds, hi]
  refine ⟨fun e he => h.1 e (by rw [hee] at he; exact List.mem_of_mem_eraseIdx he), ?_⟩
  rw [hee]
  exact h.2.sublist ((List.eraseIdx_sublist _ _).map _)
 ·have : es.eraseIdxIfInBounds i = es := by simp [Array.eraseIdxIfInBounds, hi]
  rw [this]; exact h
theorem MapWf.empty : MapWf #[] 0 := ⟨by simp, by simp⟩
section
variable {X : Fx} {z : Z} {s : AS} {a : Act} {w w' : World} {E : List Pl} {pb : Nat → Option Nat}
theorem run_setObj {P : Program} {b : Nat} {es : Array MapEntry} {clock : Nat} (o : Obj) (h : w.heap[b]? = some (.map es clock)) : (setObj b o).run P w = .ok () (w.setB b o) := by
 simp [setObj, Sem.run, h, World.setB]
theorem mupd_wp (h : St X z s a w E pb) {t kt et : TypeId} {ek : A.EK} {m k v : AV} {mv key val : Value} {σ' : Heap} (ht : X.P.underlying t = some (.map kt et)) (he : ekT X kt = some ek) (hu : A.mupd ek m k v s.σ = some σ')
  (rm : Rep (ctx z w E pb) m mv) (rk : Rep (ctx z w E pb) k key) (rv : Rep (ctx z w E pb) v val) : ∃ w', (Instr.mapUpdate t mv key val).run X.P w = .ok () w' ∧ St X z (s.heap σ') a w' E pb := by
 unfold A.mupd at hu
 cases hk : A.keyOk ek k
 ·rw [hk] at hu; cases hu
 ·rw [hk] at hu
  simp only [cond_true] at hu
  cases m <;> simp only at hu <;> first | (cases hu; done) | skip
  rename_i id
  simp only [Rep] at rm
  obtain ⟨p, e1, e2, rfl⟩ := rm
  split at hu
  ·rename_i ents hs
   obtain ⟨ents', h1, h2⟩ := Option.map_eq_some_iff.1 hu
   subst h2
   obtain ⟨hg, es, clock, k1, kw, k2⟩ := h.heap.blk id p _ e1 hs
   obtain ⟨r, hr⟩ := ix_of_upd h1
   obtain ⟨res, f1, f2, f3⟩ := find_run (c := ctx z w E pb) w X he hk rk hr k2
   have hck := key_checked (c := ctx z w E pb) w X he hk rk false
   have hget : (getObj p.b).run X.P w = .ok (.map es clock) w := by simp [getObj, Sem.run, show w.heap[p.b]? = _ from k1]
   have hlt : p.b < w.heap.size := h.heap.lt (p := p) (List.mem_of_getElem? e1)
   rcases upd_ix h1 f3 with ⟨e3, rfl⟩ | ⟨j, q, e3, q1, q2, rfl⟩
   ·have hres : res = none := by cases res with | none => rfl | some x => simp at e3
    subst hres
    refine ⟨w.setB p.b (.map (es.push ⟨key, val, clock⟩) (clock + 1)), ?_, h.setOwn e1 _ _ fun hx => ⟨hg, _, _, heap_setB_same _ hlt, kw.push, ?_⟩⟩
    ·simp [Instr.mapUpdate, run_underlying ht, hget, hck, f1, run_setObj _ (show w.heap[p.b]? = _ from k1)]
    ·have := RepM.push (n := clock) (Rep.mono hx _ _ rk) (Rep.mono hx _ _ rv) (k2.mono hx)
     simpa using this
   ·obtain ⟨i, u, hres, hi⟩ : ∃ i u, res = some (i, u) ∧ i = j := by
     cases res with
     | none => simp at e3
     | some x => exact ⟨x.1, x.2, rfl, by simpa using e3⟩
    subst hi; subst hres
    obtain ⟨e, n1, n2, _⟩ := k2.nth q1
    have hsame := eqK_same (c := ctx z w E pb) hk q2 rk n2
    have hes : es[i]? = some e := by rw [← Array.getElem?_toList]; exact n1
    refine ⟨w.setB p.b (.map (es.modify i fun e => { e with key, val }) clock), ?_, h.setOwn e1 _ _ fun hx => ⟨hg, _, _, heap_setB_same _ hlt, kw.modify, ?_⟩⟩
    ·simp [Instr.mapUpdate, run_underlying ht, hget, hck, f1, hes, Instr.keyThatStays, hsame, run_setObj _ (show w.heap[p.b]? = _ from k1)]
    ·have := RepM.set (Rep.mono hx _ _ rk) (Rep.mono hx _ _ rv) i (k2.mono hx)
     simpa using this
  ·cases hu
theorem mdel_wp (h : St X z s a w E pb) {t kt et u ty : TypeId} {ek : A.EK} {m k : AV} {mv key : Value} {σ' : Heap} (ht : X.P.underlying t = some (.map kt et)) (he : ekT X kt = some ek) (hu : A.mdel ek m k s.σ = some σ')
  (rm : Rep (ctx z w E pb) m mv) (rk : Rep (ctx z w E pb) k key) : ∃ w', (Builtin.delete_ #[t, u] ty #[mv, key]).run X.P w = .ok (.tuple #[]) w' ∧ St X z (s.heap σ') a w' E pb := by
 unfold A.mdel at hu
 cases hk : A.keyOk ek k
 ·rw [hk] at hu; cases hu
 ·rw [hk] at hu
  simp only [cond_true] at hu
  cases m <;> simp only at hu <;> first | (cases hu; done) | skip
  case nm =>
   injection hu with hu; subst hu
   simp only [Rep] at rm; subst rm
   exact ⟨w, by simp [Builtin.delete_, run_underlying ht, key_checked (c := ctx z w E pb) w X he hk rk true], h⟩
  case om id =>
   simp only [Rep] at rm
   obtain ⟨p, e1, e2, rfl⟩ := rm
   split at hu
   ·rename_i ents hs
    obtain ⟨ents', h1, h2⟩ := Option.map_eq_some_iff.1 hu
    subst h2
    obtain ⟨hg, es, clock, k1, kw, k2⟩ := h.heap.blk id p _ e1 hs
    obtain ⟨r, hr⟩ := ix_of_del h1
    obtain ⟨res, f1, f2, f3⟩ := find_run (c := ctx z w E pb) w X he hk rk hr k2
    have hck := key_checked (c := ctx z w E pb) w X he hk rk es.isEmpty
    have hget : (getObj p.b).run X.P w = .ok (.map es clock) w := by simp [getObj, Sem.run, show w.heap[p.b]? = _ from k1]
    have hlt : p.b < w.heap.size := h.heap.lt (p := p) (List.mem_of_getElem? e1)
    rcases del_ix h1 f3 with ⟨e3, rfl⟩ | ⟨j, e3, q1, rfl⟩
    ·have hres : res = none := by cases res with | none => rfl | some x => simp at e3
     subst hres
     refine ⟨w.setB p.b (.map es clock), ?_, h.setOwn e1 _ _ fun hx => ⟨hg, _, _, heap_setB_same _ hlt, kw, k2.mono hx⟩⟩
     simp [Builtin.delete_, run_underlying ht, hget, hck, f1, run_setObj _ (show w.heap[p.b]? = _ from k1)]
    ·obtain ⟨i, u', hres, hi⟩ : ∃ i u, res = some (i, u) ∧ i = j := by
      cases res with
      | none => simp at e3
      | some x => exact ⟨x.1, x.2, rfl, by simpa using e3⟩
     subst hi; subst hres
     refine ⟨w.setB p.b (.map (es.eraseIdxIfInBounds i) clock), ?_, h.setOwn e1 _ _ fun hx => ⟨hg, _, _, heap_setB_same _ hlt, kw.erase, ?_⟩⟩
     ·simp [Builtin.delete_, run_underlying ht, hget, hck, f1, run_setObj _ (show w.heap[p.b]? = _ from k1)]
     ·have hl := k2.length
      have : i < es.size := by simp at hl; omega
      have hee : (es.eraseIdxIfInBounds i).toList = es.toList.eraseIdx i := by simp [Array.eraseIdxIfInBounds, this]
      rw [hee]
      exact RepM.erase i (k2.mono hx)
   ·cases hu
theorem filter_erase {f : MapEntry → Nat} : ∀ {l : List MapEntry} {j : Nat} {e : MapEntry}, (l.map f).Nodup → l[j]? = some e → (l.filter fun x => !(f x == f e)) = l.eraseIdx j
 | [], j, e, _, h => by simp at h
 | x :: l, 0, e, hn, h => by
  simp at h; subst h
  simp only [List.map_cons, List.nodup_cons] at hn
  simp only [List.filter_cons, beq_self_eq_true, Bool.not_true, List.eraseIdx_cons_zero]
  rw [List.filter_eq_self.2]
  ·simp
  ·intro y hy
   have : f y ≠ f x := fun e => hn.1 (List.mem_map.2 ⟨y, hy, e⟩)
   simp [this]
 | x :: l, j + 1, e, hn, h => by
  simp only [List.map_cons, List.nodup_cons] at hn
  simp at h
  have hne : f x ≠ f e := fun k => hn.1 (List.mem_map.2 ⟨e, List.mem_of_getElem? h, k.symm⟩)
  simp only [List.filter_cons, List.eraseIdx_cons_succ]
  have : (f x == f e) = false := by simpa using hne
  rw [this]
  simp only [Bool.not_false, if_true]
  rw [filter_erase hn.2 h]
theorem choose_lt {P : Program} (w : World) {n : Nat} (hn : 0 < n) : ∃ j w', j < n ∧ (choose (.mapNext n)).run P w = .ok j w' ∧ Below w.heap.size w w' ∧ w'.heap = w.heap := by
 by_cases h1 : n ≤ 1
 ·exact ⟨0, w, hn, by simp [choose, Sem.run, Question.forced, h1], Below.refl _ _, rfl⟩
 ·refine ⟨_, w.drew, ?_, by simp [choose, Sem.run, Question.forced, h1]; rfl, (Below.refl _ _).drew, rfl⟩
  simp only [Question.cut]
  exact Nat.mod_lt _ hn
theorem MapWf.stale {es : Array MapEntry} {clock : Nat} (h : MapWf es clock) (b : Bool) : (!b && !es.isEmpty && es.all fun e => decide (e.born ≥ clock)) = false := by
 cases b
 ·by_cases he : es.isEmpty = true
  ·simp [he]
  ·have hs : 0 < es.size := by
    rw [Array.isEmpty_iff] at he
    exact Nat.pos_of_ne_zero fun k => he (Array.eq_empty_of_size_eq_zero k)
   have := h.1 es[0] (by simp)
   have : ¬ (es.all fun e => decide (e.born ≥ clock)) = true := by
    intro k
    rw [Array.all_eq_true] at k
    have := k 0 hs
    simp at this; omega
   simp only [Bool.not_eq_true] at this
   rw [this]; simp
 ·simp
theorem filter_all {l : Array MapEntry} {clock : Nat} (h : ∀ e ∈ l.toList, e.born < clock) : l.filter (fun e => decide (e.born < clock)) = l ∧ l.filter (fun e => decide (e.born ≥ clock)) = #[] := by
 constructor
 ·apply Array.toList_inj.1
  rw [Array.toList_filter, List.filter_eq_self.2]
  intro e he; simpa using h e he
 ·apply Array.toList_inj.1
  rw [Array.toList_filter]
  show _ = []
  rw [List.filter_eq_nil_iff]
  intro e he; have := h e he; simp; omega
theorem perm_ix {α : Type} {l : List α} {j : Nat} (hj : j < l.length) : (l[j] :: l.eraseIdx j).Perm l := by
 have e : l = l.take j ++ l[j] :: l.drop (j + 1) := by rw [List.getElem_cons_drop, List.take_append_drop]
 rw [List.eraseIdx_eq_take_drop_succ]
 conv => rhs; rw [e]
 exact List.perm_middle.symm
theorem next_wp (h : St X z s a w E pb) {R : Type} {k : AV → Heap → Option R} {r : R} {i : AV} {v : Value} {ty : TypeId} (hk : A.nextA i s.σ k = some r) (ri : Rep (ctx z w E pb) i v) :
  ∃ av σ' v' w', k av σ' = some r ∧ (Instr.next v false ty).run X.P w = .ok v' w' ∧ St X z (s.heap σ') a w' E pb ∧ Rep (ctx z w' E pb) av v' := by
 unfold A.nextA at hk
 split at hk
 ·rename_i id
  simp only [Rep] at ri
  obtain ⟨p, e1, e2, rfl⟩ := ri
  have hlt : p.b < w.heap.size := h.heap.lt (p := p) (List.mem_of_getElem? e1)
  have hover : Rep (ctx z w E pb) (.tup [.bool false]) (.tuple #[.bool false]) := by simp [Rep, RepL]
  have hs0 : s.heap s.σ = s := rfl
  split at hk
  ·rename_i cur hs
   obtain ⟨hg, hit⟩ := h.heap.blk id p _ e1 hs
   rcases hit with ⟨_, _, since, seen, last, h3⟩ | ⟨m, seen, ents, clock, h3, h4, h5, h6, h7, h8, h9⟩
   ·have hget : (getObj p.b).run X.P w = .ok (.mapIter none since seen last) w := by simp [getObj, Sem.run, show w.heap[p.b]? = _ from h3]
    exact ⟨_, _, _, w, hk, by simp [Instr.next, hget], by rw [hs0]; exact h, hover⟩
   ·have hget : (getObj p.b).run X.P w = .ok (.mapIter (some m) clock seen clock) w := by simp [getObj, Sem.run, show w.heap[p.b]? = _ from h3]
    have hgetm : (getObj m).run X.P w = .ok (.map ents clock) w := by simp [getObj, Sem.run, show w.heap[m]? = _ from h6]
    obtain ⟨l, h8, hp8⟩ := h8
    simp only [RepM] at h8
    subst h8
    have hl : ents.filter (fun e => !seen.contains e.born) = #[] := by apply Array.toList_inj.1; rw [Array.toList_filter]; exact hp8.nil_eq.symm
    obtain ⟨j, w', hj, hch, hb, hw⟩ := choose_lt (P := X.P) w (n := 1) (by omega)
    have hj0 : j = 0 := by omega
    subst hj0
    have hst := h7.stale seen.isEmpty
    refine ⟨_, _, .tuple #[.bool false], w', hk, ?_, by rw [hs0]; exact h.grow hb, by simp [Rep, RepL]⟩
    simp only [Instr.next, Sem.run_bind, hget, Result.andThen_ok, hgetm, hst, hl]
    simp [-Go.run_choose, -Go.run_choose_drew, hch]
  ·rename_i cur x left hs
   obtain ⟨hg, hit⟩ := h.heap.blk id p _ e1 hs
   rcases hit with ⟨_, hn, _⟩ | ⟨m, seen, ents, clock, h3, h4, h5, h6, h7, h8, h9⟩
   ·cases hn
   ·have hget : (getObj p.b).run X.P w = .ok (.mapIter (some m) clock seen clock) w := by simp [getObj, Sem.run, show w.heap[p.b]? = _ from h3]
    have hgetm : (getObj m).run X.P w = .ok (.map ents clock) w := by simp [getObj, Sem.run, show w.heap[m]? = _ from h6]
    obtain ⟨L, hL⟩ : ∃ L, L = ents.filter (fun e => !seen.contains e.born) := ⟨_, rfl⟩
    have hLl : L.toList = ents.toList.filter (fun e => !seen.contains e.born) := by rw [hL, Array.toList_filter]
    rw [← hLl] at h8
    obtain ⟨l, h8, hp8⟩ := h8
    have hlen := h8.length
    rw [hp8.length_eq] at hlen
    simp only [Array.length_toList] at hlen
    have hlt' : ∀ e ∈ L.toList, e.born < clock := fun e he => h7.1 e (by rw [hLl] at he; exact (List.mem_filter.1 he).1)
    obtain ⟨f1, f2⟩ := filter_all hlt'
    have hne : L.isEmpty = false := by
     rw [Array.isEmpty_eq_false_iff]; intro k; rw [k] at hlen; simp at hlen
    obtain ⟨j, w', hj, hch, hb, hw⟩ := choose_lt (P := X.P) w (n := L.size) (by rw [← hlen]; simp)
    have hst := h7.stale seen.isEmpty
    obtain ⟨e, hLj⟩ : ∃ e, L[j]? = some e := ⟨_, Array.getElem?_eq_getElem hj⟩
    have n1 : L.toList[j]? = some e := by rw [Array.getElem?_toList]; exact hLj
    obtain ⟨i, hil, hie⟩ := List.mem_iff_getElem.1 (hp8.mem_iff.2 (List.mem_of_getElem? n1))
    have hil2 : i < (x :: left).length := by rw [h8.length]; exact hil
    have hk2 := all_some hk hil2
    rw [List.getElem?_eq_getElem hil2] at hk2
    simp only at hk2
    obtain ⟨e', n1', n2, n3⟩ := RepM.nth h8 (List.getElem?_eq_getElem hil2)
    have hee : e = e' := by rw [List.getElem?_eq_getElem hil] at n1'; injection n1' with n1'; rw [← n1', hie]
    subst hee
    have hpE : (l.eraseIdx i).Perm (L.toList.eraseIdx j) := by
     have p1 : (e :: l.eraseIdx i).Perm l := by have := perm_ix hil; rwa [hie] at this
     obtain ⟨hjj, hje⟩ := List.getElem?_eq_some_iff.1 n1
     have p2 : (e :: L.toList.eraseIdx j).Perm L.toList := by have := perm_ix hjj; rwa [hje] at this
     exact List.Perm.cons_inv ((p1.trans hp8).trans p2.symm)
    have hg2 := h.grow hb
    have hmp : p.b ≠ m := fun k => h5 (.inr (.inl ⟨p, List.mem_of_getElem? e1, k⟩))
    have h3' : w'.heap[p.b]? = some (.mapIter (some m) clock seen clock) := by rw [hw]; exact h3
    have hset : (setObj p.b (.mapIter (some m) clock (seen.push e.born) clock)).run X.P w' = .ok () (w'.setB p.b (.mapIter (some m) clock (seen.push e.born) clock)) := by
     simp [setObj, Sem.run, h3', World.setB]
    refine ⟨_, _, .tuple #[.bool true, e.key, e.val], w'.setB p.b (.mapIter (some m) clock (seen.push e.born) clock), hk2, ?_, hg2.setOwn e1 _ _ fun hx => ⟨hg, .inr ⟨m, seen.push e.born, ents, clock, ?_, ?_, ?_, ?_, h7, ?_, ?_⟩⟩, ?_⟩
    ·simp only [Instr.next, Sem.run_bind, hget, Result.andThen_ok, hgetm, hst, ← hL, f1, f2, hne]
     simp [-Go.run_choose, -Go.run_choose_drew, hch, hLj, hset]
    ·exact heap_setB_same _ (by rw [hw]; exact hlt)
    ·show m < (w'.setB p.b _).heap.size
     rw [size_setB, hw]; exact h4
    ·exact h5
    ·show (w'.setB p.b _).heap[m]? = _
     rw [heap_setB_other _ hmp, hw]; exact h6
    ·have hx2 : Ext (ctx z w E pb) (ctx z (w'.setB p.b (.mapIter (some m) clock (seen.push e.born) clock)) E pb) := (grow_ext hb).trans hx
     have hfe : (ents.toList.filter fun e' => !(seen.push e.born).contains e'.born) = L.toList.eraseIdx j := by
      rw [hLl]
      have hnd : ((ents.toList.filter fun e => !seen.contains e.born).map (·.born)).Nodup := h7.2.sublist ((List.filter_sublist).map _)
      rw [← filter_erase (f := (·.born)) (e := e) hnd (by rw [← hLl]; exact n1), List.filter_filter]
      congr 1; funext y
      simp only [Array.contains_push, Bool.not_or]
      rw [Bool.and_comm]
     rw [hfe]
     exact ⟨_, (RepM.erase i h8).mono hx2, hpE⟩
    ·refine .inr ⟨_, _, e, rfl, by simp, ?_, ?_, ?_⟩
     ·have := List.mem_of_getElem? n1
      rw [hLl] at this
      exact (List.mem_filter.1 this).1
     ·exact Rep.mono ((grow_ext hb).trans hx) _ _ n2
     ·exact Rep.mono ((grow_ext hb).trans hx) _ _ n3
    ·have hx : Ext (ctx z w' E pb) (ctx z (w'.setB p.b (.mapIter (some m) clock (seen.push e.born) clock)) E pb) := setB_ext (.inr (.inl ⟨p, List.mem_of_getElem? e1, rfl⟩))
     have hx2 := (grow_ext hb).trans hx
     simp only [Rep]
     exact ⟨_, rfl, by simp only [RepL]; exact ⟨_, _, rfl, rfl, _, _, rfl, Rep.mono hx2 _ _ n2, _, _, rfl, Rep.mono hx2 _ _ n3, rfl⟩⟩
  ·cases hk
 ·cases hk
theorem range_wp (h : St X z s a w E pb) {t kt et : TypeId} {x : AV} {v : Value} {es : List (AV × AV)} (ht : X.P.underlying t = some (.map kt et)) (hr : A.rangeA x = some es) (rx : Rep (ctx z w E pb) x v) :
  ∃ o, (Instr.range t v).run X.P w = .ok (.pointer (some ⟨w.heap.size, 0, none⟩)) (w.alloc o) ∧ St X z (s.heap (s.σ ++ [.it [] es])) a (w.alloc o) (E ++ [⟨w.heap.size, 0, 0, 0, 0⟩]) pb := by
 unfold A.rangeA at hr
 split at hr
 ·injection hr with hr
  subst hr
  simp only [Rep] at rx
  subst rx
  refine ⟨.mapIter none 0 #[] 0, by simp [Instr.range, run_underlying ht, newObj, Sem.run], h.newOwn _ _ ⟨w.heap.size, 0, 0, 0, 0⟩ rfl fun hx => ⟨rfl, .inl ⟨rfl, rfl, _, _, _, (MapKept.heap_alloc w _).1⟩⟩⟩
 ·injection hr with hr
  subst hr
  simp only [Rep] at rx
  obtain ⟨b, rfl, hb, hX, ents, clock, k1, kw, l, k2, k3⟩ := rx
  have hgetm : (getObj b).run X.P w = .ok (.map ents clock) w := by simp [getObj, Sem.run, show w.heap[b]? = _ from k1]
  refine ⟨.mapIter (some b) clock #[] clock, by simp [Instr.range, run_underlying ht, hgetm, newObj, Sem.run], h.newOwn _ _ ⟨w.heap.size, 0, 0, 0, 0⟩ rfl fun hx => ⟨rfl, .inr ⟨b, #[], ents, clock, (MapKept.heap_alloc w _).1, ?_, (hx.stay b hb hX).2, ?_, kw, ?_, .inl rfl⟩⟩⟩
  ·exact Nat.lt_of_lt_of_le hb hx.size
  ·exact (hx.stay b hb hX).1.trans k1
  ·have : (ents.toList.filter fun e => !(#[] : Array Nat).contains e.born) = ents.toList := by
    rw [List.filter_eq_self]; intro e _; simp
   rw [this]
   exact ⟨l, k2.mono hx, by rcases k3 with rfl | ⟨k3, _⟩ <;> first | exact List.Perm.refl _ | exact k3⟩
 ·cases hr
end
end Go.Proofs.YtfalbgflabajbaaDoor

namespace Go.Proofs.YtfalbgflabajbaaDoor
set_option linter.unusedSectionVars false
open Go.RowKit
set_option linter.unusedVariables false
set_option linter.unusedSimpArgs false
section
variable {X : Fx} {z : Z} {s : AS} {a : Act} {w w' : World} {E : List Pl} {pb : Nat → Option Nat} {R : Type}
theorem wp_value {o : Oper} {v : Value} {w' : World} {K : Act → World → Prop} {Q : Exit → Act → World → Prop} (h : (execOp a.eval o).run X.P w = .ok (.value v) w') (k : K (a.put o.dst v) w') : o.wp X.P a w K Q := by
 unfold Oper.wp; rw [h, Oper.upon_value]; exact k
theorem wp_skip' {o : Oper} {w' : World} {K : Act → World → Prop} {Q : Exit → Act → World → Prop} (h : (execOp a.eval o).run X.P w = .ok .skip w') (k : K (a.put o.dst undef) w') : o.wp X.P a w K Q := by
 unfold Oper.wp; rw [h, Oper.upon_skip]; exact k
theorem St.undef (h : St X z s a w E pb) (d : Option Nat) : St X z (s.put X d (.tup [])) (a.put d undef) w E pb :=
 h.put d (by simp only [Rep]; exact ⟨#[], rfl, by simp [RepL]⟩)
theorem default_wp (hs : Snd X) (h : St X z s a w E pb) {o : Oper} {k : AS → Option R} {r : R} (hk : ((opV X o s none).bind fun v => k (s.put X o.dst v)) = some r) {K : Act → World → Prop} {Q : Exit → Act → World → Prop}
  (hK : ∀ s' a' w' E' pb', St X z s' a' w' E' pb' → k s' = some r → K a' w') : o.wp X.P a w K Q := by
 obtain ⟨av, h1, h2⟩ := Option.bind_eq_some_iff.1 hk
 exact opV_wp hs h (tag := none) trivial h1 fun v w' E' h3 h4 => hK _ _ _ _ _ (h3.put o.dst h4) h2
theorem next_op (h : St X z s a w E pb) {q str : Bool} {i : Operand} {dst : Option Nat} {ty : TypeId} {pos : String} {af : Array Edge} {g : Option (Nat × Bool)} {k : AS → Option R} {r : R}
  (hk : (bif q || str then none else A.nextA (ev X s i) s.σ fun v σ => k ((s.heap σ).put X dst v)) = some r) {K : Act → World → Prop} {Q : Exit → Act → World → Prop}
  (hK : ∀ s' a' w' E' pb', St X z s' a' w' E' pb' → k s' = some r → K a' w') : Oper.wp X.P ⟨dst, .next i str, ty, pos, af, g⟩ a w K Q := by
 cases hq : (q || str)
 ·rw [hq] at hk
  simp only [cond_false] at hk
  simp only [Bool.or_eq_false_iff] at hq
  obtain ⟨rfl, rfl⟩ := hq
  obtain ⟨av, σ', v', w', k1, k2, k3, k4⟩ := next_wp (ty := ty) h hk (ev_rep h i)
  exact wp_value (w' := w') (by simp [execOp, k2]) (hK _ _ _ _ _ (k3.put dst k4) k1)
 ·rw [hq] at hk; cases hk
theorem buildOwn_wp (hs : Snd X) (h : St X z s a w E pb) {d t n : Nat} {ps : Array (Nat × Operand)} {ty : TypeId} {pos : String} {af : Array Edge} {g : Option (Nat × Bool)} {k : AS → Option R} {r : R}
  (hk : ((opV X ⟨some d, .buildSlice t n ps, ty, pos, af, g⟩ s none).bind fun v => A.litK v fun sz es => k ((s.heap (s.σ ++ [.arr es.length sz es])).put X (some d) (.os s.σ.length es.length sz 0 es.length))) = some r) {K : Act → World → Prop} {Q : Exit → Act → World → Prop}
  (hK : ∀ s' a' w' E' pb', St X z s' a' w' E' pb' → k s' = some r → K a' w') : Oper.wp X.P ⟨some d, .buildSlice t n ps, ty, pos, af, g⟩ a w K Q := by
 obtain ⟨v, h1, h2⟩ := Option.bind_eq_some_iff.1 hk
 unfold A.litK at h2
 split at h2
 ·rename_i sz es
  cases hl : (es.length == 0)
  ·rw [hl] at h2
   simp only [cond_false] at h2
   have hne : 0 < es.length := by simp at hl; exact List.length_pos_iff.2 hl
   obtain ⟨arr, et, e1, e2, e3, e4, e5⟩ := buildSlice_own h h1
   have hlen := h.heap.len
   simp only [ctx] at hlen
   refine wp_value e1 (hK _ _ _ _ _ ((h.newOwn (.cells arr et) (.arr es.length sz es) ⟨w.heap.size, 0, es.length, sz, arr.size⟩ rfl fun hx => ?_).put (some d) (av := .os s.σ.length es.length sz 0 es.length) ?_) h2)
   ·have hb := (MapKept.heap_alloc w (.cells arr et)).1
    exact ⟨rfl, hne, rfl, e3, ⟨arr, et, hb, rfl⟩, by rw [e2]; simp, e4 _ hb hx, oneB_of hb e5⟩
   ·simp only [Rep]
    refine ⟨hne, ⟨w.heap.size, 0, es.length, sz, arr.size⟩, by show (E ++ [_])[s.σ.length]? = _; rw [← hlen]; exact List.getElem?_concat_length, Nat.le_refl _, ⟨w.heap.size, 0, none⟩, es.length, rfl, Nat.le_refl _, fun _ => ⟨rfl, .inr (by simp), by rw [e2]; simp⟩⟩
  ·rw [hl] at h2; cases h2
 ·cases h2
theorem opA_wp (hs : Snd X) (h : St X z s a w E pb) {q : Bool} {o : Oper} {k : AS → Option R} {r : R} (hk : opA X q o s k = some r) {K : Act → World → Prop} {Q : Exit → Act → World → Prop}
  (hK : ∀ s' a' w' E' pb', St X z s' a' w' E' pb' → k s' = some r → K a' w') : o.wp X.P a w K Q := by
 unfold opA at hk
 cases hp : opP X o s none with
 | some p =>
  obtain ⟨b, rr⟩ := p
  rw [hp] at hk
  simp only at hk
  obtain ⟨off, h1, h2⟩ := Option.bind_eq_some_iff.1 hk
  subst h1
  obtain ⟨n, k1, k2⟩ := opP_wp h (tag := none) trivial hp
  exact wp_value k2 (hK _ _ _ _ _ (h.adr' o.dst (fun _ => ⟨n, k1, rfl⟩)) h2)
 | none =>
  rw [hp] at hk
  simp only at hk
  obtain ⟨dst, op, ty, pos, af, g⟩ := o
  cases op <;> simp only at hk <;> first | exact next_op h hk hK | exact default_wp hs h hk hK | skip
  case alloc t =>
   cases dst with
   | none => cases hk
   | some d =>
    simp only at hk
    cases hL : X.L.contains d
    ·rw [hL] at hk
     simp only [cond_false] at hk
     cases hO : X.O.contains d
     ·rw [hO] at hk; exact default_wp hs h hk hK
     ·rw [hO] at hk
      simp only [cond_true] at hk
      split at hk
      ·rename_i cs hz
       obtain ⟨i, v, h1, h2, h3, h4, h5, h6⟩ := zeroT_run (w := w) hz (ctx z w E pb)
       have hrun : (execOp a.eval ⟨some d, .alloc t, ty, pos, af, g⟩).run X.P w = .ok (.value (.pointer (some ⟨w.heap.size, 0, none⟩))) (w.alloc (.cells v.cells t)) := by
        simp [execOp, Instr.alloc, h3, newVar, run_newRow]
       have hst := h.newOwn (.cells v.cells t) (.box cs) ⟨w.heap.size, 0, 0, 0, 0⟩ rfl (fun hx => by
        have hb : (w.alloc (.cells v.cells t)).heap[w.heap.size]? = some (.cells v.cells t (0, 0)) := (MapKept.heap_alloc w _).1
        exact ⟨rfl, ⟨_, _, hb, by have := h5.length; simpa using this.symm⟩, RepCs.ofL hb (RepL.mono hx _ _ h5) h6 (fun i hi => by simp)⟩)
       have hlen := h.heap.len
       simp only [ctx] at hlen
       refine wp_value hrun (hK _ _ _ _ _ (hst.put (some d) (av := .op s.σ.length 0) ?_) hk)
       simp only [Rep]
       exact ⟨⟨w.heap.size, 0, 0, 0, 0⟩, by show (E ++ [_])[s.σ.length]? = _; rw [← hlen]; exact List.getElem?_concat_length, rfl, rfl⟩
      ·cases hk
    ·rw [hL] at hk
     simp only [cond_true] at hk
     split at hk
     ·rename_i cs hz
      obtain ⟨i, v, h1, h2, h3, h4, h5, h6⟩ := zeroT_run (w := w) hz (ctx z w E pb)
      have hrun : (execOp a.eval ⟨some d, .alloc t, ty, pos, af, g⟩).run X.P w = .ok (.value (.pointer (some ⟨w.heap.size, 0, none⟩))) (w.alloc (.cells v.cells t)) := by
       simp [execOp, Instr.alloc, h3, newVar, run_newRow]
      obtain ⟨pb', hst⟩ := h.newBox d hL (vs := v.cells.toList) t h5 h6
      exact wp_value hrun (hK _ _ _ _ _ (by simpa using hst) hk)
     ·cases hk
  case box t x =>
   cases dst with
   | none => cases hk
   | some d =>
    simp only at hk
    cases hL : X.L.contains d
    ·rw [hL] at hk
     simp only [cond_false] at hk
     cases hO : X.O.contains d
     ·rw [hO] at hk; exact default_wp hs h hk hK
     ·rw [hO] at hk
      simp only [cond_true] at hk
      obtain ⟨cs, h1, h2⟩ := Option.bind_eq_some_iff.1 hk
      obtain ⟨h5, h6, _, _⟩ := cellsT_rep X h1 (ev_rep h x)
      have hrun : (execOp a.eval ⟨some d, .box t x, ty, pos, af, g⟩).run X.P w = .ok (.value (.pointer (some ⟨w.heap.size, 0, none⟩))) (w.alloc (.cells (a.eval x).cells t)) := by
       simp [execOp, Instr.box, newVar, run_newRow]
      have hst := h.newOwn (.cells (a.eval x).cells t) (.box cs) ⟨w.heap.size, 0, 0, 0, 0⟩ rfl (fun hx => by
       have hb : (w.alloc (.cells (a.eval x).cells t)).heap[w.heap.size]? = some (.cells (a.eval x).cells t (0, 0)) := (MapKept.heap_alloc w _).1
       exact ⟨rfl, ⟨_, _, hb, by have := h5.length; simpa using this.symm⟩, RepCs.ofL hb (RepL.mono hx _ _ h5) h6 (fun i hi => by simp)⟩)
      have hlen := h.heap.len
      simp only [ctx] at hlen
      refine wp_value hrun (hK _ _ _ _ _ (hst.put (some d) (av := .op s.σ.length 0) ?_) h2)
      simp only [Rep]
      exact ⟨⟨w.heap.size, 0, 0, 0, 0⟩, by show (E ++ [_])[s.σ.length]? = _; rw [← hlen]; exact List.getElem?_concat_length, rfl, rfl⟩
    ·rw [hL] at hk
     simp only [cond_true] at hk
     obtain ⟨cs, h1, h2⟩ := Option.bind_eq_some_iff.1 hk
     obtain ⟨h5, h6, _, _⟩ := cellsT_rep X h1 (ev_rep h x)
     have hrun : (execOp a.eval ⟨some d, .box t x, ty, pos, af, g⟩).run X.P w = .ok (.value (.pointer (some ⟨w.heap.size, 0, none⟩))) (w.alloc (.cells (a.eval x).cells t)) := by
      simp [execOp, Instr.box, newVar, run_newRow]
     obtain ⟨pb', hst⟩ := h.newBox d hL (vs := (a.eval x).cells.toList) t h5 h6
     exact wp_value hrun (hK _ _ _ _ _ (by simpa using hst) h2)
  case store t x v =>
   split at hk
   ·rename_i b off hp
    obtain ⟨cs, h1, h2⟩ := Option.bind_eq_some_iff.1 hk
    obtain ⟨new, h3, h4⟩ := Option.bind_eq_some_iff.1 h2
    obtain ⟨cs', h5, h6⟩ := Option.bind_eq_some_iff.1 h4
    obtain ⟨n, k1, k2, k3, k4⟩ := place_rep h (tag := none) trivial hp h1
    obtain ⟨r1, r2, r3, d, hd⟩ := cellsT_rep X h3 (ev_rep h v)
    obtain ⟨arr, bt, j1, j2, j3⟩ := cell_box k3
    obtain ⟨j4, j5⟩ := j2.spl h5 r1
    have hrun := run_storeAt (P := X.P) (t := t) j1 r3 (isSome_of_und hd) r2 j5
    have hst := h.setBox k1 ⟨cs, k4⟩ (t := bt) j4 (one_spl j3 r2)
    refine wp_skip' (w' := _) ?_ (hK _ _ _ _ _ (hst.undef dst) h6)
    simp only [execOp, k2, Sem.run_bind]
    rw [show (Instr.storeAt t (.pointer (some ⟨n, off, none⟩)) (a.eval v)).run X.P w = _ from hrun]
    rfl
   ·obtain ⟨new, h3, h4⟩ := Option.bind_eq_some_iff.1 hk
    obtain ⟨σ', h5, h6⟩ := Option.bind_eq_some_iff.1 h4
    obtain ⟨w', k1, k2⟩ := storeAt_wp h h3 (ev_rep h v) h5 (ev_rep h x)
    refine wp_skip' (w' := w') ?_ (hK _ _ _ _ _ (k2.undef dst) h6)
    simp only [execOp, Sem.run_bind, k1]
    rfl
  case makeMap t rr =>
   cases rr with
   | some x => cases hk
   | none =>
    simp only at hk
    have hrun : (execOp a.eval ⟨dst, .makeMap t none, ty, pos, af, g⟩).run X.P w = .ok (.value (.map (some w.heap.size))) (w.alloc (.map #[] 0)) := by
     simp [execOp, Instr.makeMap, newObj, Sem.run]
    have hst := h.newOwn (.map #[] 0) (.map []) ⟨w.heap.size, 0, 0, 0, 0⟩ rfl (fun hx => by
     have hb : (w.alloc (.map #[] 0)).heap[w.heap.size]? = some (.map #[] 0) := (MapKept.heap_alloc w _).1
     exact ⟨rfl, _, _, hb, MapWf.empty, rfl⟩)
    have hlen := h.heap.len
    simp only [ctx] at hlen
    refine wp_value hrun (hK _ _ _ _ _ (hst.put dst (av := .om s.σ.length) ?_) hk)
    simp only [Rep]
    exact ⟨⟨w.heap.size, 0, 0, 0, 0⟩, by show (E ++ [_])[s.σ.length]? = _; rw [← hlen]; exact List.getElem?_concat_length, rfl, rfl⟩
  case range t x =>
   split at hk
   ·rename_i kt et hd
    obtain ⟨es, h1, h2⟩ := Option.bind_eq_some_iff.1 hk
    obtain ⟨o, k1, k2⟩ := range_wp h hd h1 (ev_rep h x)
    have hlen := h.heap.len
    simp only [ctx] at hlen
    refine wp_value (v := .pointer (some ⟨w.heap.size, 0, none⟩)) (w' := w.alloc o) (by simp [execOp, k1]) (hK _ _ _ _ _ (k2.put dst (av := .op s.σ.length 0) ?_) h2)
    simp only [Rep]
    exact ⟨⟨w.heap.size, 0, 0, 0, 0⟩, by show (E ++ [_])[s.σ.length]? = _; rw [← hlen]; exact List.getElem?_concat_length, rfl, rfl⟩
   ·cases hk
  case buildSlice t n ps =>
   cases dst with
   | none => exact default_wp hs h hk hK
   | some d =>
    simp only at hk
    cases hO : X.O.contains d
    ·rw [hO] at hk; exact default_wp hs h hk hK
    ·rw [hO] at hk
     simp only [cond_true] at hk
     exact buildOwn_wp hs h hk hK
  case mapUpdate t m i v =>
   split at hk
   ·rename_i kt et hd
    split at hk
    ·rename_i ek he
     obtain ⟨σ', h1, h2⟩ := Option.bind_eq_some_iff.1 hk
     obtain ⟨w', k1, k2⟩ := mupd_wp h hd he h1 (ev_rep h m) (ev_rep h i) (ev_rep h v)
     refine wp_skip' (w' := w') ?_ (hK _ _ _ _ _ (k2.undef dst) h2)
     simp only [execOp, Sem.run_bind, k1]
     rfl
    ·cases hk
   ·cases hk
  case call c =>
   have hargs : (c.args.map a.eval).toList = c.args.toList.map a.eval := by simp
   have re := evs_rep h c.args.toList
   split at hk
   ·rename_i hc
    split at hk
    ·rename_i t u x y h1 h2
     split at hk
     ·rename_i e e' hd hu
      split at hk
      ·rename_i i hi
       cases hz0 : zeroBad i
       ·rw [hz0] at hk
        simp only [cond_false] at hk
        simp only [zeroBad, Bool.or_eq_false_iff, beq_eq_false_iff_ne] at hz0
        obtain ⟨⟨z1, z2⟩, z3⟩ := hz0
        cases hzz : i.zero with
        | none => rw [hzz] at z3; cases z3
        | some zv =>
         rw [hzz] at z3
         simp only [Bool.or_eq_false_iff, bne_eq_false_iff_eq, Bool.not_eq_false'] at z3
         obtain ⟨z3, z4⟩ := z3
         obtain ⟨⟨rr, σ'⟩, h3, h4⟩ := Option.bind_eq_some_iff.1 hk
         rw [h2] at re
         have hl : ∃ v vy, c.args.toList.map a.eval = [v, vy] ∧ Rep (ctx z w E pb) x v ∧ Rep (ctx z w E pb) y vy := by
          generalize c.args.toList.map a.eval = vs at *
          simp only [RepL] at re
          obtain ⟨v, _, rfl, r1, u', _, rfl, r2, rfl⟩ := re
          exact ⟨v, u', rfl, r1, r2⟩
         obtain ⟨v, vy, hvs, r1, r2⟩ := hl
         have hone : ∀ x ∈ zv.cells.toList, one1 x = true := List.all_eq_true.1 z4
         obtain ⟨n, w', E', k1, k2, k3⟩ := append_wp (ty := ty) h hd hu hi hzz z3 z1 z2 hone h3 r1 r2
         have h1' : c.argTypes = #[t, u] := by apply Array.toList_inj.1; simpa using h1
         have hva : c.args.map a.eval = #[v, vy] := by apply Array.toList_inj.1; rw [hargs, hvs]
         have hrun : (execOp a.eval ⟨dst, .call c, ty, pos, af, g⟩).run X.P w = .ok (.value n) w' := by
          simp only [execOp, resolve, hc, Sem.run_bind, Sem.run_pure, Result.andThen_ok, invoke, builtin, hva, h1', k1]
         exact wp_value hrun (hK _ _ _ _ _ (k2.put dst k3) h4)
       ·rw [hz0] at hk; cases hk
      ·cases hk
     ·rename_i e kk hd hu
      split at hk
      ·rename_i i zs hi hz
       cases hz0 : zeroBad i
       ·rw [hz0] at hk
        simp only [cond_false] at hk
        simp only [zeroBad, Bool.or_eq_false_iff, beq_eq_false_iff_ne] at hz0
        obtain ⟨⟨z1, z2⟩, z3⟩ := hz0
        obtain ⟨i', zv, g1, g2, g3, g4, g5, g6⟩ := zeroT_run (w := w) hz (ctx z w E pb)
        rw [hi] at g1; injection g1 with g1; subst g1
        rw [g2] at z3
        simp only [Bool.or_eq_false_iff, bne_eq_false_iff_eq, Bool.not_eq_false'] at z3
        obtain ⟨z3, z4⟩ := z3
        have hzr : ∀ c, RepL c zs zv.cells.toList := fun c => by
         obtain ⟨i2, v2, f1, f2, f3, f4, f5, f6⟩ := zeroT_run (w := w) hz c
         rw [hi] at f1; injection f1 with f1; subst f1
         rw [g2] at f2; injection f2 with f2; subst f2
         exact f5
        obtain ⟨⟨rr, σ'⟩, h3, h4⟩ := Option.bind_eq_some_iff.1 hk
        rw [h2] at re
        have hl : ∃ v vy, c.args.toList.map a.eval = [v, vy] ∧ Rep (ctx z w E pb) x v ∧ Rep (ctx z w E pb) y vy := by
         generalize c.args.toList.map a.eval = vs at *
         simp only [RepL] at re
         obtain ⟨v, _, rfl, r1, u', _, rfl, r2, rfl⟩ := re
         exact ⟨v, u', rfl, r1, r2⟩
        obtain ⟨v, vy, hvs, r1, r2⟩ := hl
        obtain ⟨n, w', E', k1, k2, k3⟩ := appendZ_wp (ty := ty) h hd hu hi g2 z3 z1 z2 hzr g6 h3 r1 r2
        have h1' : c.argTypes = #[t, u] := by apply Array.toList_inj.1; simpa using h1
        have hva : c.args.map a.eval = #[v, vy] := by apply Array.toList_inj.1; rw [hargs, hvs]
        have hrun : (execOp a.eval ⟨dst, .call c, ty, pos, af, g⟩).run X.P w = .ok (.value n) w' := by
         simp only [execOp, resolve, hc, Sem.run_bind, Sem.run_pure, Result.andThen_ok, invoke, builtin, hva, h1', k1]
        exact wp_value hrun (hK _ _ _ _ _ (k2.put dst k3) h4)
       ·rw [hz0] at hk; cases hk
      ·cases hk
     ·cases hk
    ·cases hk
   ·rename_i hc
    split at hk
    ·rename_i t u x y h1 h2
     split at hk
     ·rename_i e e' hd hu
      split at hk
      ·rename_i i hi
       cases hz0 : zeroBad i
       ·rw [hz0] at hk
        simp only [cond_false] at hk
        simp only [zeroBad, Bool.or_eq_false_iff, beq_eq_false_iff_ne] at hz0
        obtain ⟨⟨z1, z2⟩, z3⟩ := hz0
        obtain ⟨⟨rr, σ'⟩, h3, h4⟩ := Option.bind_eq_some_iff.1 hk
        rw [h2] at re
        have hl : ∃ v vy, c.args.toList.map a.eval = [v, vy] ∧ Rep (ctx z w E pb) x v ∧ Rep (ctx z w E pb) y vy := by
         generalize c.args.toList.map a.eval = vs at *
         simp only [RepL] at re
         obtain ⟨v, _, rfl, r1, u', _, rfl, r2, rfl⟩ := re
         exact ⟨v, u', rfl, r1, r2⟩
        obtain ⟨v, vy, hvs, r1, r2⟩ := hl
        obtain ⟨n, w', k1, k2, k3⟩ := copy_wp (ty := ty) h hd hu hi z1 h3 r1 r2
        have h1' : c.argTypes = #[t, u] := by apply Array.toList_inj.1; simpa using h1
        have hva : c.args.map a.eval = #[v, vy] := by apply Array.toList_inj.1; rw [hargs, hvs]
        have hrun : (execOp a.eval ⟨dst, .call c, ty, pos, af, g⟩).run X.P w = .ok (.value n) w' := by
         simp only [execOp, resolve, hc, Sem.run_bind, Sem.run_pure, Result.andThen_ok, invoke, builtin, hva, h1', k1]
        exact wp_value hrun (hK _ _ _ _ _ (k2.put dst k3) h4)
       ·rw [hz0] at hk; cases hk
      ·cases hk
     ·cases hk
    ·cases hk
   ·rename_i hc
    cases hv : opV X ⟨dst, .call c, ty, pos, af, g⟩ s none with
    | some v =>
     rw [hv] at hk
     exact default_wp hs h (by rw [hv]; exact hk) hK
    | none =>
     rw [hv] at hk
     simp only [A.capM] at hk
     cases q
     ·simp only [cond_false] at hk
      split at hk
      ·rename_i t x h1 h2
       split at hk
       ·rename_i e hd
        rw [h2] at re
        have hl : ∃ v, c.args.toList.map a.eval = [v] ∧ Rep (ctx z w E pb) x v := by
         generalize c.args.toList.map a.eval = vs at *
         simp only [RepL] at re
         obtain ⟨v, _, rfl, r1, rfl⟩ := re
         exact ⟨v, rfl, r1⟩
        obtain ⟨v, hvs, r1⟩ := hl
        obtain ⟨n, σ', k1, k2, k3⟩ := capU_wp (ty := ty) h hd hk r1
        have h1' : c.argTypes = #[t] := by apply Array.toList_inj.1; simpa using h1
        have hva : c.args.map a.eval = #[v] := by apply Array.toList_inj.1; rw [hargs, hvs]
        have hrun : (execOp a.eval ⟨dst, .call c, ty, pos, af, g⟩).run X.P w = .ok (.value (.int .i64 (n : Int))) w := by
         simp only [execOp, resolve, hc, Sem.run_bind, Sem.run_pure, Result.andThen_ok, invoke, builtin, hva, h1', k2]
        exact wp_value hrun (hK _ _ _ _ _ (k3.put dst (by simp [Rep])) k1)
       ·cases hk
      ·cases hk
     ·cases hk
   ·rename_i hc
    split at hk
    ·rename_i t x h1 h2
     split at hk
     ·rename_i e hd
      split at hk
      ·rename_i i zs hi hz
       cases hz0 : zeroBad i
       ·rw [hz0] at hk
        simp only [cond_false] at hk
        simp only [zeroBad, Bool.or_eq_false_iff, beq_eq_false_iff_ne] at hz0
        obtain ⟨⟨z1, z2⟩, z3⟩ := hz0
        obtain ⟨i', zv, g1, g2, g3, g4, g5, g6⟩ := zeroT_run (w := w) hz (ctx z w E pb)
        rw [hi] at g1; injection g1 with g1; subst g1
        rw [g2] at z3
        simp only [Bool.or_eq_false_iff, bne_eq_false_iff_eq, Bool.not_eq_false'] at z3
        obtain ⟨z3, z4⟩ := z3
        have hzr : ∀ c, RepL c zs zv.cells.toList := fun c => by
         obtain ⟨i2, v2, f1, f2, f3, f4, f5, f6⟩ := zeroT_run (w := w) hz c
         rw [hi] at f1; injection f1 with f1; subst f1
         rw [g2] at f2; injection f2 with f2; subst f2
         exact f5
        obtain ⟨σ', h3, h4⟩ := Option.bind_eq_some_iff.1 hk
        rw [h2] at re
        have hl : ∃ v, c.args.toList.map a.eval = [v] ∧ Rep (ctx z w E pb) x v := by
         generalize c.args.toList.map a.eval = vs at *
         simp only [RepL] at re
         obtain ⟨v, _, rfl, r1, rfl⟩ := re
         exact ⟨v, rfl, r1⟩
        obtain ⟨v, hvs, r1⟩ := hl
        obtain ⟨w', k1, k2⟩ := clear_wp (ty := ty) h hd (zero_cells X.P hi g2) z3 z1 hzr g6 h3 r1
        have h1' : c.argTypes = #[t] := by apply Array.toList_inj.1; simpa using h1
        have hva : c.args.map a.eval = #[v] := by apply Array.toList_inj.1; rw [hargs, hvs]
        have hrun : (execOp a.eval ⟨dst, .call c, ty, pos, af, g⟩).run X.P w = .ok (.value undef) w' := by
         simp only [execOp, resolve, hc, Sem.run_bind, Sem.run_pure, Result.andThen_ok, invoke, builtin, hva, h1', k1]
         rfl
        exact wp_value hrun (hK _ _ _ _ _ (k2.undef dst) h4)
       ·rw [hz0] at hk; cases hk
      ·cases hk
     ·cases hk
    ·cases hk
   ·rename_i hc
    split at hk
    ·rename_i t u m key h1 h2
     split at hk
     ·rename_i kt et hd
      split at hk
      ·rename_i ek he
       obtain ⟨σ', h3, h4⟩ := Option.bind_eq_some_iff.1 hk
       rw [h2] at re
       have hl : ∃ v vy, c.args.toList.map a.eval = [v, vy] ∧ Rep (ctx z w E pb) m v ∧ Rep (ctx z w E pb) key vy := by
        generalize c.args.toList.map a.eval = vs at *
        simp only [RepL] at re
        obtain ⟨v, _, rfl, r1, u', _, rfl, r2, rfl⟩ := re
        exact ⟨v, u', rfl, r1, r2⟩
       obtain ⟨v, vy, hvs, r1, r2⟩ := hl
       obtain ⟨w', k1, k2⟩ := mdel_wp (u := u) (ty := ty) h hd he h3 r1 r2
       have h1' : c.argTypes = #[t, u] := by apply Array.toList_inj.1; simpa using h1
       have hva : c.args.map a.eval = #[v, vy] := by apply Array.toList_inj.1; rw [hargs, hvs]
       have hrun : (execOp a.eval ⟨dst, .call c, ty, pos, af, g⟩).run X.P w = .ok (.value undef) w' := by
        simp only [execOp, resolve, hc, Sem.run_bind, Sem.run_pure, Result.andThen_ok, invoke, builtin, hva, h1', k1]
        rfl
       exact wp_value hrun (hK _ _ _ _ _ (k2.undef dst) h4)
      ·cases hk
     ·cases hk
    ·cases hk
   ·exact default_wp hs h hk hK
   ·rename_i f hc
    cases hq : (q && !X.W.contains f)
    ·rw [hq] at hk
     simp only [cond_false] at hk
     obtain ⟨⟨rr, σ'⟩, h3, h4⟩ := Option.bind_eq_some_iff.1 hk
     exact call_wp h (hs.call _ _ _ _ _ h3) (by rw [hargs]; exact re) (run_call_static hc) (fun v w' E' h1 h2 => hK _ _ _ _ _ (h1.put dst h2) h4)
    ·rw [hq] at hk
     simp only [cond_true] at hk
     exact default_wp hs h hk hK
   ·rename_i x hnf hc
    cases q
    ·simp only [cond_false] at hk
     obtain ⟨⟨rr, σ'⟩, h3, h4⟩ := Option.bind_eq_some_iff.1 hk
     have rx := ev_rep h x
     generalize ev X s x = vx at *
     cases vx <;> simp only [A.callv] at h3 <;> first | (cases h3; done) | skip
     rename_i fn0 caps0
     simp only [Rep] at rx
     obtain ⟨f, cs, e1, e2, e3⟩ := rx
     rw [← e2] at h3
     have hq' : X.dyn (X.nm.getD f 0) (c.args.toList.map (ev X s) ++ caps0) s.σ = some (rr, σ') := by rw [h.nm]; exact h3
     exact call_wp h (hs.dyn _ _ _ _ _ hq') (vs := c.args.map a.eval ++ cs) (by rw [Array.toList_append, hargs]; exact re.append e3) (run_call_value hc e1) (fun v w' E' h1 h2 => hK _ _ _ _ _ (h1.put dst h2) h4)
    ·simp only [cond_true] at hk
     exact default_wp hs h hk hK
   ·cases hk
end
end Go.Proofs.YtfalbgflabajbaaDoor

namespace Go.Proofs.YtfalbgflabajbaaDoor
set_option linter.unusedSectionVars false
set_option linter.unusedVariables false
set_option linter.unusedSimpArgs false
structure Up where
 d : Option Nat
 v : AV
 bx : Option (Nat × AV)
 new : Option Pl0
 isBox : Bool
 σ : Option Heap
def filt (isBox : Bool) (d : Nat) (a : Option Pl0) : Option Pl0 := match keepTag d a with | some p => bif isBox && p.slot == d then none else some p | none => none
def Up.sl (u : Up) (l : List AV) : List AV := match u.d with
 | some d => (match u.bx with | some (b, x) => l.set b x | none => l).set d u.v
 | none => (match u.bx with | some (b, x) => l.set b x | none => l)
def Up.A (u : Up) (A : Nat → Option Pl0) (t : Nat) : Option Pl0 := match u.d with | none => A t | some d => bif t == d then u.new else filt u.isBox d (A t)
def Up.ap (u : Up) (s : AS) : AS := ⟨u.sl s.sl, u.A s.A, u.σ.getD s.σ⟩
theorem filt_false (d : Nat) (a : Option Pl0) : filt false d a = keepTag d a := by unfold filt; cases keepTag d a <;> rfl
theorem filt_cases (i : Bool) (d : Nat) (a : Option Pl0) : filt i d a = a ∨ filt i d a = none := by
 cases a with
 | none => left; rfl
 | some p =>
  unfold filt
  cases hk : keepTag d (some p) with
  | none => right; rfl
  | some q =>
   simp only
   have : q = p := by
    simp only [keepTag] at hk
    cases ht : p.tag with
    | none => rw [ht] at hk; simpa using hk.symm
    | some g =>
     obtain ⟨g, w⟩ := g
     rw [ht] at hk
     simp only at hk
     cases hg : (g == d)
     ·rw [hg] at hk; simpa using hk.symm
     ·rw [hg] at hk; cases hk
   subst this
   cases hb : (i && q.slot == d)
   ·left; rfl
   ·right; rfl
theorem filt_none (i : Bool) (d : Nat) : filt i d none = none := rfl
theorem filt_comm (i j : Bool) (d e : Nat) (a : Option Pl0) : filt i d (filt j e a) = filt j e (filt i d a) := by
 rcases filt_cases i d a with h1 | h1 <;> rcases filt_cases j e a with h2 | h2
 ·rw [h2, h1, h2]
 ·rw [h2, filt_none, h1, h2]
 ·rw [h2, h1, filt_none]
 ·rw [h2, filt_none, h1, filt_none]
structure Up.Apart (x y : Up) : Prop where
 d : ∀ d, x.d = some d → y.d ≠ some d
 bx : ∀ b v, x.bx = some (b, v) → (∀ c w, y.bx = some (c, w) → c ≠ b) ∧ y.d ≠ some b
 by' : ∀ b v, y.bx = some (b, v) → (∀ c w, x.bx = some (c, w) → c ≠ b) ∧ x.d ≠ some b
 nx : ∀ d, y.d = some d → filt y.isBox d x.new = x.new
 ny : ∀ d, x.d = some d → filt x.isBox d y.new = y.new
 σ : x.σ = none ∨ y.σ = none
theorem Up.comm {x y : Up} (h : x.Apart y) (s : AS) : x.ap (y.ap s) = y.ap (x.ap s) := by
 obtain ⟨hd, hbx, hby, hnx, hny, hσ⟩ := h
 unfold Up.ap
 congr 1
 ·show x.sl (y.sl s.sl) = y.sl (x.sl s.sl)
  generalize s.sl = l
  obtain ⟨xd, xv, xb, xn, xi, xs⟩ := x
  obtain ⟨yd, yv, yb, yn, yi, ys⟩ := y
  simp only at hd hbx hby
  cases xb with
  | none =>
   cases yb with
   | none =>
    cases xd with
    | none => cases yd <;> simp [Up.sl]
    | some dx => cases yd with
     | none => simp [Up.sl]
     | some dy => simp only [Up.sl]; rw [List.set_comm]; intro e; exact hd dx rfl (by rw [e])
   | some bv =>
    obtain ⟨b, v⟩ := bv
    obtain ⟨_, hb⟩ := hby b v rfl
    cases xd with
    | none => cases yd <;> simp [Up.sl]
    | some dx =>
     have hne : dx ≠ b := fun e => hb (by rw [e])
     cases yd with
     | none => simp only [Up.sl]; rw [List.set_comm _ _ (fun e => hne e.symm)]
     | some dy =>
      have hdd : dx ≠ dy := fun e => hd dx rfl (by rw [e])
      simp only [Up.sl]
      rw [List.set_comm _ _ (fun e => hdd e.symm), List.set_comm _ _ (fun e => hne e.symm)]
  | some bv =>
   obtain ⟨b, v⟩ := bv
   obtain ⟨hyb, hb⟩ := hbx b v rfl
   cases yb with
   | none =>
    cases yd with
    | none => cases xd <;> simp [Up.sl]
    | some dy =>
     have hne : dy ≠ b := fun e => hb (by rw [e])
     cases xd with
     | none => simp only [Up.sl]; rw [List.set_comm _ _ hne]
     | some dx =>
      have hdd : dx ≠ dy := fun e => hd dx rfl (by rw [e])
      simp only [Up.sl]
      rw [List.set_comm _ _ hne, List.set_comm _ _ (fun e => hdd e.symm)]
   | some cw =>
    obtain ⟨c, u⟩ := cw
    have hcb : c ≠ b := hyb c u rfl
    obtain ⟨_, hc⟩ := hby c u rfl
    cases xd with
    | none =>
     cases yd with
     | none => simp only [Up.sl]; rw [List.set_comm _ _ hcb]
     | some dy =>
      have hne : dy ≠ b := fun e => hb (by rw [e])
      simp only [Up.sl]
      rw [List.set_comm _ _ hne, List.set_comm _ _ hcb]
    | some dx =>
     have hnc : dx ≠ c := fun e => hc (by rw [e])
     cases yd with
     | none =>
      simp only [Up.sl]
      rw [List.set_comm _ _ hcb, List.set_comm _ _ (fun e => hnc e.symm)]
     | some dy =>
      have hne : dy ≠ b := fun e => hb (by rw [e])
      have hdd : dx ≠ dy := fun e => hd dx rfl (by rw [e])
      simp only [Up.sl]
      rw [List.set_comm _ _ hne, List.set_comm _ _ (fun e => hdd e.symm), List.set_comm _ _ hcb, List.set_comm _ _ (fun e => hnc e.symm)]
 ·funext t
  show x.A (y.A s.A) t = y.A (x.A s.A) t
  generalize s.A t = a0 
  unfold Up.A
  cases hxd : x.d with
  | none => cases y.d <;> rfl
  | some dx =>
   cases hyd : y.d with
   | none => rfl
   | some dy =>
    have hdd : dx ≠ dy := fun e => hd dx hxd (by rw [hyd, e])
    simp only
    by_cases h1 : t = dx
    ·subst h1
     have : (t == dy) = false := by simpa using hdd
     simp only [beq_self_eq_true, cond_true, this, cond_false]
     exact (hnx dy hyd).symm
    ·have h1' : (t == dx) = false := by simpa using h1
     by_cases h2 : t = dy
     ·subst h2
      simp only [beq_self_eq_true, cond_true, h1', cond_false]
      exact hny dx hxd
     ·have h2' : (t == dy) = false := by simpa using h2
      simp only [h1', h2', cond_false]
      exact filt_comm ..
 ·rcases hσ with e | e <;> simp [e]

structure RI (X : Fx) (Rt : List (Nat × Nat)) (Bt : List Nat) (s : AS) : Prop where
 l : ∀ t b, Rt.lookup t = some b → X.L.contains b = true
 a : ∀ t p, s.A t = some p → Rt.lookup t = some p.slot
 v : ∀ t b, Rt.lookup t = some b → X.L.contains t = false → noAd (s.sl.getD t .undef) = true
 b : ∀ t, Bt.contains t = true → notOe (s.sl.getD t .undef) = true
def BoxEq (σ σ' : Heap) : Prop := ∀ (id : Nat) (cs : List AV), σ[id]? = some (Blk.box cs) ↔ σ'[id]? = some (Blk.box cs)
section
variable {R : Type} {X : Fx} {Rt : List (Nat × Nat)} {Bt : List Nat} {s s' : AS}
theorem place_rt (h : RI X Rt Bt s) {tag : Option (Nat × Bool)} {x : Operand} {b off : Nat} (hp : place X s tag x = some (b, off)) : rtX X Rt x = some b := by
 cases x with
 | tmp t =>
  simp only [place] at hp
  simp only [rtX]
  cases hL : X.L.contains t
  ·rw [hL] at hp
   simp only [cond_false] at hp ⊢
   split at hp
   ·rename_i p hA
    cases hc : X.L.contains p.slot
    ·rw [hc] at hp; cases hp
    ·rw [hc] at hp
     simp only [cond_true] at hp
     have ha := h.a t p hA
     split at hp
     ·simp only [Option.some.injEq, Prod.mk.injEq] at hp; rw [ha, hp.1]
     ·rename_i g hg
      cases ht : (tag == some g)
      ·rw [ht] at hp; cases hp
      ·rw [ht] at hp; simp only [cond_true, Option.some.injEq, Prod.mk.injEq] at hp; rw [ha, hp.1]
   ·cases hp
  ·rw [hL] at hp
   simp only [cond_true, Option.some.injEq, Prod.mk.injEq] at hp ⊢
   exact hp.1
 | _ => simp [place] at hp
theorem place_no (h : RI X Rt Bt s) {tag : Option (Nat × Bool)} {x : Operand} {b : Nat} (hr : rtX X Rt x = some b) (hp : place X s tag x = none) : noAd (ev X s x) = true := by
 cases x with
 | tmp t =>
  simp only [rtX] at hr
  cases hL : X.L.contains t
  ·rw [hL] at hr
   simp only [cond_false] at hr
   simp only [ev, hL, cond_false]
   exact h.v t b hr hL
  ·simp only [place, hL, cond_true] at hp; cases hp
 | _ => simp [rtX] at hr
theorem deref_no {v : AV} {σ : Heap} (h : noAd v = true) : A.deref v σ = none := by
 unfold noAd at h; split at h <;> first | rfl | cases h
theorem deref_box {v : AV} {σ σ' : Heap} (h : BoxEq σ σ') (hv : notOe v = true) : A.deref v σ = A.deref v σ' := by
 cases v <;> first | rfl | skip
 case op id off =>
  simp only [A.deref]
  cases h1 : σ[id]? with
  | none =>
   cases h2 : σ'[id]? with
   | none => rfl
   | some b => cases b <;> first | rfl | (have := (h id _).2 h2; rw [h1] at this; cases this)
  | some b =>
   cases b with
   | box cs => rw [(h id cs).1 h1]
   | _ =>
    cases h2 : σ'[id]? with
    | none => rfl
    | some b => cases b <;> first | rfl | (have := (h id _).2 h2; rw [h1] at this; cases this)
 case oe id g i off => cases hv
theorem storeAt_no {v : AV} {new : List AV} {σ : Heap} (h : noAd v = true) : A.storeAt v new σ = none := by
 unfold noAd at h; split at h <;> first | rfl | cases h
theorem fillA_congr {pl : Nat → Option (Nat × TypeId)} : ∀ (ps : List (Nat × Operand)) (cs : List AV), (∀ p ∈ ps, ev X s p.2 = ev X s' p.2) → fillA X s pl ps cs = fillA X s' pl ps cs
 | [], cs, _ => rfl
 | (i, x) :: ps, cs, h => by
  have hx := h (i, x) (by simp)
  simp only at hx
  simp only [fillA, hx]
  cases pl i with
  | none => rfl
  | some ot =>
   simp only
   congr 1; funext new; congr 1; funext cs'
   exact fillA_congr ps cs' (fun p hp => h p (by simp [hp]))
theorem opP_congr {o : Oper} {tag : Option (Nat × Bool)} (hev : ∀ x ∈ o.op.operands.toList, ev X s x = ev X s' x) (hpl : ∀ x, adO o = some x → place X s tag x = place X s' tag x) (hb : ∀ b, rt X Rt o = some b → s.sl.getD b .undef = s'.sl.getD b .undef)
  (hpL : ∀ x b off, adO o = some x → place X s' tag x = some (b, off) → rt X Rt o = some b) : opP X o s tag = opP X o s' tag := by
 obtain ⟨dst, op, ty, pos, af, g⟩ := o
 cases op <;> simp only [opP]
 case nilCheck x =>
  rw [hpl x rfl]
  split
  ·rename_i b off hp; rw [hb b (hpL x b off rfl hp)]
  ·rfl
 case fieldAddr t x f =>
  rw [hpl x rfl]
  split
  ·rename_i b off hp; rw [hb b (hpL x b off rfl hp)]
  ·rfl
 case indexAddr t x i =>
  rw [hpl x rfl, hev i (by simp [Op.operands])]
  split
  ·rename_i b off hp; rw [hb b (hpL x b off rfl hp)]
  ·rfl
theorem opV_congr {o : Oper} {tag : Option (Nat × Bool)} (hev : ∀ x ∈ o.op.operands.toList, ev X s x = ev X s' x) (hpl : ∀ x, adO o = some x → place X s tag x = place X s' tag x) (hb : ∀ b, rt X Rt o = some b → s.sl.getD b .undef = s'.sl.getD b .undef)
  (hpL : ∀ x b off, adO o = some x → place X s' tag x = some (b, off) → rt X Rt o = some b) (hno : ∀ x b, adO o = some x → rt X Rt o = some b → place X s' tag x = none → noAd (ev X s' x) = true) (hσ : rH' X Rt o = true → soft Bt o = false → s.σ = s'.σ) (hσb : rH' X Rt o = true → soft Bt o = true → BoxEq s.σ s'.σ) (hB : ∀ t, Bt.contains t = true → notOe (ev X s' (.tmp t)) = true) : opV X o s tag = opV X o s' tag := by
 obtain ⟨dst, op, ty, pos, af, g⟩ := o
 cases op <;> simp only [opV]
 case move x => rw [hev x (by simp [Op.operands])]
 case assign x => rw [hev x (by simp [Op.operands])]
 case pick x y u => rw [hev x (by simp [Op.operands]), hev y (by simp [Op.operands]), hev u (by simp [Op.operands])]
 case box t x => rw [hev x (by simp [Op.operands])]
 case build t ps =>
  have hps : ∀ p ∈ ps.toList, ev X s p.2 = ev X s' p.2 := fun p hp => hev p.2 (by simp only [Op.operands]; simp; exact ⟨p.1, by simpa using hp⟩)
  split
  ·rw [fillA_congr ps.toList _ hps]
  ·rfl
 case buildSlice t n ps =>
  have hps : ∀ p ∈ ps.toList, ev X s p.2 = ev X s' p.2 := fun p hp => hev p.2 (by simp only [Op.operands]; simp; exact ⟨p.1, by simpa using hp⟩)
  split
  ·split
   ·rw [fillA_congr ps.toList _ hps]
   ·rfl
  ·rfl
 case load t x =>
  rw [hpl x rfl, hev x (by simp [Op.operands])]
  split
  ·rename_i b off hp; rw [hb b (hpL x b off rfl hp)]
  ·rename_i hp
   cases hr : rt X Rt ⟨dst, .load t x, ty, pos, af, g⟩ with
   | none =>
    cases hsf : soft Bt ⟨dst, .load t x, ty, pos, af, g⟩
    ·rw [hσ (by simp only [rH', hr, Option.isNone_none]) hsf]
    ·rw [deref_box (hσb (by simp only [rH', hr, Option.isNone_none]) hsf) (by
      cases x with
      | tmp u => exact hB u hsf
      | _ => simp [soft] at hsf)]
   | some b => rw [deref_no (hno x b rfl hr hp), deref_no (hno x b rfl hr hp)]
 case nilCheck x => rw [hev x (by simp [Op.operands])]
 case binOp op t x y u => rw [hev x (by simp [Op.operands]), hev y (by simp [Op.operands])]
 case unOp op t x => rw [hev x (by simp [Op.operands])]
 case convert a b x => rw [hev x (by simp [Op.operands])]
 case makeFunc fn first caps =>
  have : caps.toList.map (ev X s) = caps.toList.map (ev X s') := List.map_congr_left fun x hx => hev x (by simp [Op.operands]; exact .inr (by simpa using hx))
  rw [this]
 case slice t x lo hi mx =>
  have h1 : lo.map (ev X s) = lo.map (ev X s') := by cases lo with | none => rfl | some y => simp only [Option.map_some]; rw [hev y (by simp [Op.operands])]
  have h2 : hi.map (ev X s) = hi.map (ev X s') := by cases hi with | none => rfl | some y => simp only [Option.map_some]; rw [hev y (by simp [Op.operands])]
  rw [hev x (by simp [Op.operands]), h1, h2, hσ rfl rfl]
  split
  ·rfl
  ·split
   ·rw [hev _ (by simp [Op.operands]), hev _ (by simp [Op.operands])]
   ·rfl
 case fieldAddr t x f => rw [hev x (by simp [Op.operands])]
 case field t x f => rw [hev x (by simp [Op.operands])]
 case indexAddr t x i => rw [hev x (by simp [Op.operands]), hev i (by simp [Op.operands])]
 case index t x i => rw [hev x (by simp [Op.operands]), hev i (by simp [Op.operands])]
 case lookup t x i ok => rw [hev x (by simp [Op.operands]), hev i (by simp [Op.operands]), hσ rfl rfl]
 case extract x i => rw [hev x (by simp [Op.operands])]
 case entry i => rw [hev i (by simp [Op.operands]), hσ rfl rfl]
 case call c =>
  have ha : c.args.toList.map (ev X s) = c.args.toList.map (ev X s') := List.map_congr_left fun x hx => hev x (by simp [Op.operands, Call.operands]; exact .inr (by simpa using hx))
  rw [ha, hσ rfl rfl]
  cases hc : c.callee with
  | value f =>
   have hf := hev f (by simp [Op.operands, Call.operands, hc])
   cases f <;> simp only [hf]
  | _ => rfl
theorem box_push {σ : Heap} {b : Blk} (hb : ∀ cs, b ≠ .box cs) : BoxEq σ (σ ++ [b]) := by
 intro id cs
 by_cases h : id < σ.length
 ·rw [List.getElem?_append_left h]
 ·rw [List.getElem?_eq_none (by omega), List.getElem?_append_right (by omega)]
  constructor
  ·intro e; cases e
  ·intro e
   have := List.mem_of_getElem? e
   simp at this
   exact absurd this.symm (hb cs)
theorem box_set {σ : Heap} {id : Nat} {b b' : Blk} (hb : ∀ cs, b ≠ .box cs) (hb' : ∀ cs, b' ≠ .box cs) (h : σ[id]? = some b) : BoxEq σ (σ.set id b') := by
 intro i cs
 rw [List.getElem?_set]
 by_cases e : id = i
 ·subst e
  rw [h]
  have hlt := (List.getElem?_eq_some_iff.1 h).1
  simp only [if_true, hlt]
  constructor
  ·intro e; injection e with e; exact absurd e (hb cs)
  ·intro e; injection e with e; exact absurd e (hb' cs)
 ·simp [e]
theorem box_refl (σ : Heap) : BoxEq σ σ := fun _ _ => Iff.rfl
theorem box_mupd {ek : A.EK} {m k v : AV} {σ σ' : Heap} (h : A.mupd ek m k v σ = some σ') : BoxEq σ σ' := by
 unfold A.mupd at h
 cases hk : A.keyOk ek k
 ·rw [hk] at h; cases h
 rw [hk] at h
 simp only [cond_true] at h
 split at h
 ·split at h
  ·rename_i es hg
   obtain ⟨es', _, e⟩ := Option.map_eq_some_iff.1 h
   subst e
   exact box_set (fun cs e => by cases e) (fun cs e => by cases e) hg
  ·cases h
 ·cases h
theorem box_appendL {sz most : Nat} {x r : AV} {ys : List (List AV)} {σ σ' : Heap} (h : A.appendL sz most x ys σ = some (r, σ')) : BoxEq σ σ' := by
 unfold A.appendL at h
 split at h
 ·split at h
  ·injection h with h; injection h with _ h; subst h; exact box_refl _
  ·split at h
   ·injection h with h; injection h with _ h; subst h; exact box_push fun cs e => by cases e
   ·cases h
 ·split at h
  ·injection h with h; injection h with _ h; subst h; exact box_refl _
  ·split at h
   ·injection h with h; injection h with _ h; subst h; exact box_push fun cs e => by cases e
   ·cases h
 ·split at h
  ·rename_i hg
   split at h
   ·split at h
    ·injection h with h; injection h with _ h; subst h; exact box_refl _
    ·split at h
     ·injection h with h; injection h with _ h; subst h; exact box_set (fun cs e => by cases e) (fun cs e => by cases e) hg
     ·injection h with h; injection h with _ h; subst h; exact box_set (fun cs e => by cases e) (fun cs e => by cases e) hg
   ·cases h
  ·split at h
   ·injection h with h; injection h with _ h; subst h; exact box_push fun cs e => by cases e
   ·cases h
  ·cases h
 ·cases h
theorem box_append {sz most : Nat} {x y r : AV} {σ σ' : Heap} (h : A.append sz most x y σ = some (r, σ')) : BoxEq σ σ' := by
 unfold A.append at h
 obtain ⟨ys, _, h2⟩ := Option.bind_eq_some_iff.1 h
 exact box_appendL h2
theorem box_appendZ {sz most : Nat} {zs : List AV} {x n r : AV} {σ σ' : Heap} (h : A.appendZ sz most zs x n σ = some (r, σ')) : BoxEq σ σ' := by
 unfold A.appendZ at h
 split at h
 ·split at h
  ·exact box_appendL h
  ·cases h
 ·cases h
structure Ag (X : Fx) (Rt : List (Nat × Nat)) (Bt : List Nat) (o : Oper) (ls : List Nat) (tag : Option (Nat × Bool)) (s s' : AS) : Prop where
 r1 : RI X Rt Bt s
 r2 : RI X Rt Bt s'
 hev : ∀ t ∈ ls, X.L.contains t = false → s.sl.getD t .undef = s'.sl.getD t .undef
 pl : ∀ t, adO o = some (.tmp t) → place X s tag (.tmp t) = place X s' tag (.tmp t)
 bx : ∀ b, rt X Rt o = some b → s.sl.getD b .undef = s'.sl.getD b .undef
 σ : rH' X Rt o = true → soft Bt o = false → s.σ = s'.σ
 σb : rH' X Rt o = true → soft Bt o = true → BoxEq s.σ s'.σ
theorem place_L' {tag : Option (Nat × Bool)} {x : Operand} {b off : Nat} (h : place X s tag x = some (b, off)) : X.L.contains b = true := by
 cases x with
 | tmp t =>
  simp only [place] at h
  cases hL : X.L.contains t
  ·rw [hL] at h
   simp only [cond_false] at h
   split at h
   ·rename_i p hA
    cases hp : X.L.contains p.slot
    ·rw [hp] at h; cases h
    ·rw [hp] at h
     simp only [cond_true] at h
     split at h
     ·simp only [Option.some.injEq, Prod.mk.injEq] at h; rw [← h.1]; exact hp
     ·rename_i g hg
      cases ht : (tag == some g)
      ·rw [ht] at h; cases h
      ·rw [ht] at h; simp only [cond_true, Option.some.injEq, Prod.mk.injEq] at h; rw [← h.1]; exact hp
   ·cases h
  ·rw [hL] at h
   simp only [cond_true, Option.some.injEq, Prod.mk.injEq] at h
   rw [← h.1]; exact hL
 | _ => simp [place] at h
theorem Ag.evs {o : Oper} {ls : List Nat} {tag : Option (Nat × Bool)} (h : Ag X Rt Bt o ls tag s s') (hls : ∀ t, Operand.tmp t ∈ o.op.operands.toList → t ∈ ls) : ∀ x ∈ o.op.operands.toList, ev X s x = ev X s' x := by
 intro x hx
 cases x with
 | tmp t =>
  simp only [ev]
  cases hL : X.L.contains t
  ·simp only [cond_false]; exact h.hev t (hls t hx) hL
  ·rfl
 | _ => rfl
theorem RI.evB (h : RI X Rt Bt s) : ∀ t, Bt.contains t = true → notOe (ev X s (.tmp t)) = true := by
 intro t ht
 simp only [ev]
 cases X.L.contains t
 ·exact h.b t ht
 ·rfl
theorem Ag.pls {o : Oper} {ls : List Nat} {tag : Option (Nat × Bool)} (h : Ag X Rt Bt o ls tag s s') : ∀ x, adO o = some x → place X s tag x = place X s' tag x := by
 intro x hx
 cases x with
 | tmp t => exact h.pl t hx
 | _ => rfl
def upV (X : Fx) (d : Option Nat) (v : AV) : Up := ⟨d, match d with | some d => bif X.L.contains d then .undef else v | none => .undef, none, none, false, none⟩
def upH (X : Fx) (d : Option Nat) (σ : Heap) (v : AV) : Up := ⟨d, match d with | some d => bif X.L.contains d then .undef else v | none => .undef, none, none, false, some σ⟩
def upS (X : Fx) (d : Option Nat) (b : Nat) (cs : List AV) : Up := ⟨d, match d with | some d => bif X.L.contains d then .undef else .tup [] | none => .undef, some (b, .lbx cs), none, false, none⟩
def upB (d : Nat) (cs : List AV) : Up := ⟨some d, .lbx cs, none, none, true, none⟩
def upA (X : Fx) (d : Option Nat) (b off : Nat) (tag : Option (Nat × Bool)) : Up :=
 ⟨d, .undef, none, match d with | some d => (bif X.L.contains d || !Nat.blt d X.n then none else match tag with | some (g, w) => (bif g == d then none else some ⟨b, off, some (g, w)⟩) | none => some ⟨b, off, none⟩) | none => none, false, none⟩
theorem put_up (d : Option Nat) (v : AV) (s : AS) : s.put X d v = (upV X d v).ap s := by
 cases d with
 | none => rfl
 | some d =>
  simp only [AS.put, Up.ap, upV, Up.sl, Option.getD_none]
  congr 1; funext t; simp only [Up.A, filt_false]
theorem heapPut_up (d : Option Nat) (v : AV) (σ : Heap) (s : AS) : (s.heap σ).put X d v = (upH X d σ v).ap s := by
 cases d with
 | none => rfl
 | some d =>
  simp only [AS.put, AS.heap, Up.ap, upH, Up.sl, Option.getD_some]
  congr 1; funext t; simp only [Up.A, filt_false]
theorem boxPut_up (d : Option Nat) (b : Nat) (cs : List AV) (s : AS) : (⟨s.sl.set b (.lbx cs), s.A, s.σ⟩ : AS).put X d (.tup []) = (upS X d b cs).ap s := by
 cases d with
 | none => rfl
 | some d =>
  simp only [AS.put, Up.ap, upS, Up.sl, Option.getD_none]
  congr 1; funext t; simp only [Up.A, filt_false]
theorem newBox_up (d : Nat) (cs : List AV) (s : AS) : s.newBox d cs = (upB d cs).ap s := by
 simp only [AS.newBox, Up.ap, upB, Up.sl, Option.getD_none]
 congr 1
theorem adr_up (d : Option Nat) (b off : Nat) (tag : Option (Nat × Bool)) (s : AS) : s.adr X d b off tag = (upA X d b off tag).ap s := by
 cases d with
 | none => rfl
 | some d =>
  simp only [AS.adr, Up.ap, upA, Up.sl, Option.getD_none]
  congr 1; funext t; simp only [Up.A, filt_false]; rfl
structure UpOk (X : Fx) (Rt : List (Nat × Nat)) (Bt : List Nat) (o : Oper) (ls : List Nat) (τ : Heap) (u : Up) : Prop where
 d : u.d = o.dst
 bx : ∀ b v, u.bx = some (b, v) → X.L.contains b = true ∧ wb X Rt o = some b
 new : ∀ p, u.new = some p → rL o = true ∧ (∀ g w, p.tag = some (g, w) → g ∈ ls) ∧ rt X Rt o = some p.slot ∧ ∀ d, u.d = some d → Rt.lookup d = some p.slot
 box : u.isBox = true → ∃ d, o.dst = some d ∧ X.L.contains d = true
 σ : u.σ ≠ none → wH' X Rt o = true
 v : ∀ d b, u.d = some d → Rt.lookup d = some b → X.L.contains d = false → noAd u.v = true
 vb : ∀ d, u.d = some d → Bt.contains d = true → notOe u.v = true
 bxv : ∀ b v, u.bx = some (b, v) → notOe v = true
 fr : frW o = true → ∀ σ, u.σ = some σ → BoxEq τ σ
def Rok (X : Fx) (Rt : List (Nat × Nat)) (Bt : List Nat) (o : Oper) : Prop := (∀ d, o.dst = some d → X.L.contains d = false → Rt.lookup d = (bif isAdr o then rt X Rt o else none)) ∧ ∀ d, o.dst = some d → Bt.contains d = true → chainB Bt o = true
theorem Rok.of {o : Oper} (h : Rok1 X Rt o = true) (hb : Bok1 Bt o = true) : Rok X Rt Bt o := by
 refine ⟨fun d hd hL => ?_, fun d hd hc => ?_⟩
 ·unfold Rok1 at h
  rw [hd] at h
  simp only [hL, Bool.false_or, beq_iff_eq] at h
  exact h
 ·unfold Bok1 at hb
  rw [hd] at hb
  simp only [hc, Bool.not_true, Bool.false_or] at hb
  exact hb
theorem upV_ok {o : Oper} {ls : List Nat} (v : AV) (hR : Rok X Rt Bt o) (hv : isAdr o = true → ∀ b, rt X Rt o = some b → noAd v = true) (hv2 : chainB Bt o = true → notOe v = true) {τ : Heap} : UpOk X Rt Bt o ls τ (upV X o.dst v) := by
 refine ⟨rfl, (fun b v h => by cases h), (fun p h => by cases h), (fun h => by cases h), (fun h => absurd rfl h), fun d b hd hl hL => ?_, fun d hd hc => ?_, (fun b v h => by cases h), (fun _ σ h => by cases h)⟩
 ·simp only [upV] at hd ⊢
  rw [hd]
  simp only [hL, cond_false]
  rw [hR.1 d hd hL] at hl
  cases ha : isAdr o
  ·rw [ha] at hl; cases hl
  ·rw [ha] at hl; exact hv ha b hl
 ·have := hv2 (hR.2 d hd hc)
  simp only [upV] at hd ⊢
  rw [hd]
  simp only
  cases X.L.contains d
  ·exact this
  ·rfl
theorem upH_ok {o : Oper} {ls : List Nat} (σ : Heap) (v : AV) (hR : Rok X Rt Bt o) (h : wH' X Rt o = true) (hn : isAdr o = false) (hcb : chainB Bt o = false) {τ : Heap} (hf : frW o = true → BoxEq τ σ) : UpOk X Rt Bt o ls τ (upH X o.dst σ v) := by
 refine ⟨rfl, (fun b v h => by cases h), (fun p h => by cases h), (fun h => by cases h), (fun _ => h), fun d b hd hl hL => ?_, fun d hd hc => ?_, (fun b v h => by cases h), (fun hw σ' h => ?_)⟩
 ·simp only [upH] at hd
  rw [hR.1 d hd hL, hn] at hl
  cases hl
 ·have := hR.2 d hd hc
  rw [hcb] at this; cases this
 ·simp only [upH, Option.some.injEq] at h
  subst h; exact hf hw
theorem upA_ok {τ : Heap} {o : Oper} {ls : List Nat} {b off : Nat} {tag : Option (Nat × Bool)} (hR : Rok X Rt Bt o) (ha : isAdr o = true) (hr : rt X Rt o = some b) (h : rL o = true) (ht : ∀ g w, tag = some (g, w) → g ∈ ls) : UpOk X Rt Bt o ls τ (upA X o.dst b off tag) := by
 refine ⟨rfl, (fun b v h => by cases h), (fun p hp => ?_), (fun h => by cases h), (fun h => absurd rfl h), (fun d b hd hl hL => rfl), (fun _ _ _ => rfl), (fun b v h => by cases h), (fun _ σ h => by cases h)⟩
 have key : p.slot = b ∧ (∀ g w, p.tag = some (g, w) → g ∈ ls) ∧ ∀ d, o.dst = some d → X.L.contains d = false := by
  unfold upA at hp
  simp only at hp
  cases hd : o.dst with
  | none => rw [hd] at hp; cases hp
  | some d =>
   rw [hd] at hp
   simp only at hp
   cases hc : (X.L.contains d || !Nat.blt d X.n)
   ·rw [hc] at hp
    simp only [cond_false] at hp
    have hL : X.L.contains d = false := by simp only [Bool.or_eq_false_iff] at hc; exact hc.1
    cases tag with
    | none => simp only [Option.some.injEq] at hp; subst hp; exact ⟨rfl, (fun g w e => by cases e), fun d' e => by injection e with e; rw [← e]; exact hL⟩
    | some gw =>
     obtain ⟨g', w'⟩ := gw
     simp only at hp
     cases hg : (g' == d)
     ·rw [hg] at hp; simp only [cond_false, Option.some.injEq] at hp; subst hp
      refine ⟨rfl, fun g w e => ?_, fun d' e => by injection e with e; rw [← e]; exact hL⟩
      simp only [Option.some.injEq, Prod.mk.injEq] at e
      rw [← e.1]; exact ht g' w' rfl
     ·rw [hg] at hp; cases hp
   ·rw [hc] at hp; cases hp
 refine ⟨h, key.2.1, by rw [hr, key.1], fun d hd => ?_⟩
 have hd' : o.dst = some d := hd
 rw [hR.1 d hd' (key.2.2 d hd'), ha, cond_true, hr, key.1]
theorem getD_set' (l : List AV) (d t : Nat) (v : AV) (h : t ≠ d) : (l.set d v).getD t .undef = l.getD t .undef := by
 have h' : ¬ d = t := fun e => h (Eq.symm e)
 simp only [List.getD, List.getElem?_set, if_neg h']
theorem up_sl {u : Up} {l : List AV} {t : Nat} (h1 : u.d ≠ some t) (h2 : ∀ b v, u.bx = some (b, v) → t ≠ b) : (u.sl l).getD t .undef = l.getD t .undef := by
 unfold Up.sl
 cases hd : u.d with
 | none =>
  cases hb : u.bx with
  | none => rfl
  | some bv => obtain ⟨b, v⟩ := bv; exact getD_set' _ _ _ _ (h2 b v hb)
 | some d =>
  have hne : t ≠ d := fun e => h1 (by rw [hd, e])
  cases hb : u.bx with
  | none => exact getD_set' _ _ _ _ hne
  | some bv => obtain ⟨b, v⟩ := bv; simp only; rw [getD_set' _ _ _ _ hne, getD_set' _ _ _ _ (h2 b v hb)]
theorem UpOk.ri {τ : Heap} {o : Oper} {ls : List Nat} {u : Up} (h : UpOk X Rt Bt o ls τ u) (hs : RI X Rt Bt s) : RI X Rt Bt (u.ap s) := by
 refine ⟨hs.l, fun t p hp => ?_, fun t b ht hL => ?_, fun t ht => ?_⟩
 ·have hp' : u.A s.A t = some p := hp
  unfold Up.A at hp'
  cases hd : u.d with
  | none => rw [hd] at hp'; exact hs.a t p hp'
  | some d =>
   rw [hd] at hp'
   simp only at hp'
   cases hc : (t == d)
   ·rw [hc] at hp'
    simp only [cond_false] at hp'
    rcases filt_cases u.isBox d (s.A t) with e | e
    ·rw [e] at hp'; exact hs.a t p hp'
    ·rw [e] at hp'; cases hp'
   ·rw [hc] at hp'
    simp only [cond_true] at hp'
    have : t = d := by simpa using hc
    subst this
    exact (h.new p hp').2.2.2 t hd
 ·show noAd ((u.sl s.sl).getD t .undef) = true
  by_cases hd : u.d = some t
  ·have hv := h.v t b hd ht hL
   have : (u.sl s.sl).getD t .undef = u.v ∨ (u.sl s.sl).getD t .undef = .undef := by
    unfold Up.sl
    rw [hd]
    simp only [List.getD]
    rw [List.getElem?_set]
    simp only [if_true]
    generalize (match u.bx with | some (b, x) => s.sl.set b x | none => s.sl) = q
    by_cases hq : t < q.length
    ·left; simp [hq]
    ·right; simp [hq]
   rcases this with e | e
   ·rw [e]; exact hv
   ·rw [e]; rfl
  ·rw [up_sl hd (fun b' v hb e => by have := (h.bx b' v hb).1; rw [← e, hL] at this; cases this)]
   exact hs.v t b ht hL
 ·show notOe ((u.sl s.sl).getD t .undef) = true
  have hset : ∀ (l : List AV) (d : Nat) (v : AV), (l.set d v).getD t .undef = v ∧ t = d ∨ (l.set d v).getD t .undef = l.getD t .undef ∨ (l.set d v).getD t .undef = .undef := by
   intro l d v
   simp only [List.getD, List.getElem?_set]
   by_cases e : d = t
   ·subst e
    by_cases hq : d < l.length
    ·left; simp [hq]
    ·right; right; simp [hq]
   ·right; left; simp [e]
  have hbx : notOe ((match u.bx with | some (b, x) => s.sl.set b x | none => s.sl).getD t .undef) = true := by
   cases hb : u.bx with
   | none => exact hs.b t ht
   | some bv =>
    obtain ⟨b, v⟩ := bv
    rcases hset s.sl b v with ⟨e, _⟩ | e | e
    ·simp only; rw [e]; exact h.bxv b v hb
    ·simp only; rw [e]; exact hs.b t ht
    ·simp only; rw [e]; rfl
  unfold Up.sl
  generalize (match u.bx with | some (b, x) => s.sl.set b x | none => s.sl) = q at hbx
  cases hd : u.d with
  | none => exact hbx
  | some d =>
   simp only
   rcases hset q d u.v with ⟨e, e2⟩ | e | e
   ·rw [e]; exact h.vb d hd (e2 ▸ ht)
   ·rw [e]; exact hbx
   ·rw [e]; rfl
theorem opP_rL {o : Oper} {tag : Option (Nat × Bool)} {p : Nat × Option Nat} (h : opP X o s tag = some p) : rL o = true := by
 obtain ⟨dst, op, ty, pos, af, g⟩ := o
 cases op <;> simp only [opP] at h <;> first | (cases h; done) | rfl
theorem opP_adr {o : Oper} {tag : Option (Nat × Bool)} {p : Nat × Option Nat} (h : opP X o s tag = some p) : isAdr o = true := by
 obtain ⟨dst, op, ty, pos, af, g⟩ := o
 cases op <;> simp only [opP] at h <;> first | (cases h; done) | rfl
theorem opP_rt (hI : RI X Rt Bt s) {o : Oper} {tag : Option (Nat × Bool)} {b : Nat} {rr : Option Nat} (h : opP X o s tag = some (b, rr)) : rt X Rt o = some b := by
 obtain ⟨dst, op, ty, pos, af, g⟩ := o
 cases op <;> simp only [opP] at h <;> first | (cases h; done) | skip
 all_goals
  split at h
  ·rename_i b' off hp
   simp only [Option.some.injEq, Prod.mk.injEq] at h
   simp only [rt, adO]
   rw [← h.1]
   exact place_rt hI hp
  ·cases h
theorem opV_adr (hI : RI X Rt Bt s) {o : Oper} {tag : Option (Nat × Bool)} {v : AV} (ha : isAdr o = true) {b : Nat} (hr : rt X Rt o = some b) (hp : opP X o s tag = none) (h : opV X o s tag = some v) : False := by
 obtain ⟨dst, op, ty, pos, af, g⟩ := o
 have nf : ∀ (x : AV) (n : Nat), noAd x = true → A.faddr n x = none := fun x n h => by unfold noAd at h; split at h <;> first | rfl | cases h
 have nn : ∀ (x : AV), noAd x = true → A.nilck x = none := fun x h => by unfold noAd at h; split at h <;> first | rfl | cases h
 have ni : ∀ (x i : AV) (n : Nat), noAd x = true → A.iaddr n x i = none := fun x i n h => by unfold noAd at h; split at h <;> first | rfl | cases h
 have na : ∀ (x i : AV) (m n : Nat), noAd x = true → A.aaddr m n x i = none := fun x i m n h => by
  unfold noAd at h
  unfold A.aaddr
  split at h <;> first | (cases h; done) | skip
  all_goals cases A.idx m i <;> rfl
 cases op <;> simp only [isAdr] at ha <;> first | (cases ha; done) | skip
 case nilCheck x =>
  simp only [opP] at hp
  simp only [rt, adO] at hr
  split at hp
  ·cases hp
  ·rename_i hpl
   simp only [opV, nn _ (place_no hI hr hpl)] at h
   cases h
 case fieldAddr t x f =>
  simp only [opP] at hp
  simp only [rt, adO] at hr
  split at hp
  ·cases hp
  ·rename_i hpl
   simp only [opV] at h
   split at h
   ·split at h
    ·rename_i i _
     cases hz : (i.size == 0)
     ·rw [hz] at h; simp only [cond_false, nf _ _ (place_no hI hr hpl)] at h; cases h
     ·rw [hz] at h; cases h
    ·cases h
   ·cases h
 case indexAddr t x i =>
  simp only [opP] at hp
  simp only [rt, adO] at hr
  split at hp
  ·cases hp
  ·rename_i hpl
   simp only [opV] at h
   split at h
   ·split at h
    ·simp only [ni _ _ _ (place_no hI hr hpl)] at h; cases h
    ·cases h
   ·split at h
    ·simp only [na _ _ _ _ (place_no hI hr hpl)] at h; cases h
    ·cases h
   ·cases h
theorem bind_some' {α β : Type} {x : Option α} {f : α → Option β} {b : β} (h : x.bind f = some b) : ∃ a, x = some a ∧ f a = some b := Option.bind_eq_some_iff.1 h
theorem opV_chain (hB : ∀ t, Bt.contains t = true → notOe (ev X s (.tmp t)) = true) {o : Oper} {tag : Option (Nat × Bool)} {v : AV} (hc : chainB Bt o = true) (h : opV X o s tag = some v) : notOe v = true := by
 obtain ⟨dst, op, ty, pos, af, g⟩ := o
 have nk : ∀ x, notOe x = true → ∀ y, A.nilck x = some y → notOe y = true := fun x hx y e => by
  cases x <;> simp only [A.nilck] at e <;> first | (cases e; done) | (injection e with e; subst e; exact hx)
 have nf : ∀ x, notOe x = true → ∀ n y, A.faddr n x = some y → notOe y = true := fun x hx n y e => by
  cases x <;> simp only [A.faddr] at e <;> first | (cases e; done) | (cases hx; done) | (injection e with e; subst e; rfl)
 cases op <;> simp only [chainB] at hc <;> first | (cases hc; done) | skip
 case move x =>
  cases x <;> first | (cases hc; done) | skip
  simp only [opV, Option.some.injEq] at h
  subst h; exact hB _ hc
 case assign x =>
  cases x <;> first | (cases hc; done) | skip
  simp only [opV, Option.some.injEq] at h
  subst h; exact hB _ hc
 case nilCheck x =>
  cases x <;> first | (cases hc; done) | skip
  simp only [opV] at h
  exact nk _ (hB _ hc) _ h
 case fieldAddr t x f =>
  cases x <;> first | (cases hc; done) | skip
  simp only [opV] at h
  split at h
  ·split at h
   ·rename_i i _
    cases hz : (i.size == 0)
    ·rw [hz] at h; simp only [cond_false] at h; exact nf _ (hB _ hc) _ _ h
    ·rw [hz] at h; cases h
   ·cases h
  ·cases h
theorem opA_up {o : Oper} {ls : List Nat} (hR : Rok X Rt Bt o) (hI : RI X Rt Bt s) (hls : ∀ t, Operand.tmp t ∈ o.op.operands.toList → t ∈ ls) {k : AS → Option R} {r : R} (h : opA X true o s k = some r) :
  ∃ u, UpOk X Rt Bt o ls s.σ u ∧ k (u.ap s) = some r ∧ ∀ (R' : Type) (k' : AS → Option R') (s' : AS), Ag X Rt Bt o ls none s s' → opA X true o s' k' = k' (u.ap s') := by
 have hpLL : ∀ (s' : AS), RI X Rt Bt s' → ∀ x b off, adO o = some x → place X s' none x = some (b, off) → rt X Rt o = some b := fun s' hi x b off hx hp => by simp only [rt, hx]; exact place_rt hi hp
 have hnoo : ∀ (s' : AS), RI X Rt Bt s' → ∀ x b, adO o = some x → rt X Rt o = some b → place X s' none x = none → noAd (ev X s' x) = true := fun s' hi x b hx hr hp => by simp only [rt, hx] at hr; exact place_no hi hr hp
 unfold opA at h
 cases hp : opP X o s none with
 | some p =>
  obtain ⟨b, rr⟩ := p
  rw [hp] at h
  simp only at h
  obtain ⟨off, e1, e2⟩ := bind_some' h
  subst e1
  refine ⟨upA X o.dst b off none, upA_ok hR (opP_adr hp) (opP_rt hI hp) (opP_rL hp) (fun g w e => by cases e), by rw [← adr_up]; exact e2, fun R' k' s' ha => ?_⟩
  have : opP X o s' none = some (b, some off) := by rw [← hp]; exact (opP_congr (ha.evs hls) ha.pls ha.bx (hpLL s' ha.r2)).symm
  unfold opA
  rw [this]
  simp only [Option.bind_some]
  rw [adr_up]
 | none =>
  rw [hp] at h
  simp only at h
  have hP : ∀ s', Ag X Rt Bt o ls none s s' → opP X o s' none = none := fun s' ha => by rw [← hp]; exact (opP_congr (ha.evs hls) ha.pls ha.bx (hpLL s' ha.r2)).symm
  have dflt : ((opV X o s none).bind fun v => k (s.put X o.dst v)) = some r → (∀ (R' : Type) (k' : AS → Option R') (s' : AS), Ag X Rt Bt o ls none s s' → opA X true o s' k' = (opV X o s' none).bind fun v => k' (s'.put X o.dst v)) →
    ∃ u, UpOk X Rt Bt o ls s.σ u ∧ k (u.ap s) = some r ∧ ∀ (R' : Type) (k' : AS → Option R') (s' : AS), Ag X Rt Bt o ls none s s' → opA X true o s' k' = k' (u.ap s') := by
   intro hd hsame
   obtain ⟨v, e1, e2⟩ := bind_some' hd
   refine ⟨upV X o.dst v, upV_ok v hR (fun ha b hr => (opV_adr hI ha hr hp e1).elim) (fun hc => opV_chain hI.evB hc e1), by rw [← put_up]; exact e2, fun R' k' s' ha => ?_⟩
   have : opV X o s' none = some v := by rw [← e1]; exact (opV_congr (ha.evs hls) ha.pls ha.bx (hpLL s' ha.r2) (hnoo s' ha.r2) ha.σ ha.σb ha.r2.evB).symm
   rw [hsame R' k' s' ha, this, Option.bind_some, put_up]
  obtain ⟨dst, op, ty, pos, af, g⟩ := o
  have hevs : ∀ s', Ag X Rt Bt ⟨dst, op, ty, pos, af, g⟩ ls none s s' → ∀ x ∈ op.operands.toList, ev X s x = ev X s' x := fun s' ha => ha.evs hls
  have unf : ∀ {R' : Type} (k' : AS → Option R') (s' : AS), Ag X Rt Bt ⟨dst, op, ty, pos, af, g⟩ ls none s s' → opP X ⟨dst, op, ty, pos, af, g⟩ s' none = none := fun k' s' ha => hP s' ha
  cases op <;> simp only at h <;> first
   | (exact absurd (show (none : Option R) = some r from h) (by simp))
   | exact dflt h (fun R' k' s' ha => by unfold opA; rw [hP s' ha])
   | skip
  case alloc t =>
   cases dst with
   | none => cases h
   | some d =>
    simp only at h
    cases hL : X.L.contains d
    ·rw [hL] at h
     simp only [cond_false] at h
     cases hO : X.O.contains d
     ·rw [hO] at h
      exact dflt h (fun R' k' s' ha => by unfold opA; rw [hP s' ha]; simp only [hL, hO, cond_false])
     ·rw [hO] at h
      simp only [cond_true] at h
      split at h
      ·rename_i cs hz
       rw [heapPut_up] at h
       refine ⟨_, upH_ok _ _ hR (by simp [wH', wH]; simpa using hO) rfl rfl (fun h => by cases h), h, fun R' k' s' ha => ?_⟩
       have hσ := ha.σ (by simpa [rH'] using hO) rfl
       unfold opA
       rw [hP s' ha]
       simp only [hL, hO, cond_false, cond_true, hz, hσ]
       rw [heapPut_up]
      ·cases h
    ·rw [hL] at h
     simp only [cond_true] at h
     split at h
     ·rename_i cs hz
      rw [newBox_up] at h
      refine ⟨_, ⟨rfl, (fun b v h => by cases h), (fun p h => by cases h), (fun _ => ⟨d, rfl, hL⟩), (fun h => absurd rfl h), (fun d' b e _ hL' => by simp only [upB, Option.some.injEq] at e; rw [← e, hL] at hL'; cases hL'), (fun _ _ _ => rfl), (fun b v h => by cases h), (fun _ σ h => by cases h)⟩, h, fun R' k' s' ha => ?_⟩
      unfold opA
      rw [hP s' ha]
      simp only [hL, cond_true, hz]
      rw [newBox_up]
     ·cases h
  case box t x =>
   cases dst with
   | none => cases h
   | some d =>
    simp only at h
    cases hL : X.L.contains d
    ·rw [hL] at h
     simp only [cond_false] at h
     cases hO : X.O.contains d
     ·rw [hO] at h
      exact dflt h (fun R' k' s' ha => by unfold opA; rw [hP s' ha]; simp only [hL, hO, cond_false])
     ·rw [hO] at h
      simp only [cond_true] at h
      obtain ⟨cs, e1, e2⟩ := bind_some' h
      rw [heapPut_up] at e2
      refine ⟨_, upH_ok _ _ hR (by simp [wH', wH]; simpa using hO) rfl rfl (fun h => by cases h), e2, fun R' k' s' ha => ?_⟩
      have hσ := ha.σ (by simpa [rH'] using hO) rfl
      have hx := hevs s' ha x (by simp [Op.operands])
      unfold opA
      rw [hP s' ha]
      simp only [hL, hO, cond_false, cond_true, ← hx, e1, Option.bind_some, hσ]
      rw [heapPut_up]
    ·rw [hL] at h
     simp only [cond_true] at h
     obtain ⟨cs, e1, e2⟩ := bind_some' h
     rw [newBox_up] at e2
     refine ⟨_, ⟨rfl, (fun b v h => by cases h), (fun p h => by cases h), (fun _ => ⟨d, rfl, hL⟩), (fun h => absurd rfl h), (fun d' b e _ hL' => by simp only [upB, Option.some.injEq] at e; rw [← e, hL] at hL'; cases hL'), (fun _ _ _ => rfl), (fun b v h => by cases h), (fun _ σ h => by cases h)⟩, e2, fun R' k' s' ha => ?_⟩
     have hx := hevs s' ha x (by simp [Op.operands])
     unfold opA
     rw [hP s' ha]
     simp only [hL, cond_true, ← hx, e1, Option.bind_some]
     rw [newBox_up]
  case store t x v =>
   split at h
   ·rename_i b off hpl
    obtain ⟨cs, e1, e2⟩ := bind_some' h
    obtain ⟨new, e3, e4⟩ := bind_some' e2
    obtain ⟨cs', e5, e6⟩ := bind_some' e4
    rw [boxPut_up] at e6
    have hrt : rt X Rt ⟨dst, .store t x v, ty, pos, af, g⟩ = some b := by simp only [rt, adO]; exact place_rt hI hpl
    refine ⟨_, ⟨rfl, (fun b' v' hb => by simp only [upS, Option.some.injEq, Prod.mk.injEq] at hb; rw [← hb.1]; exact ⟨place_L' hpl, hrt⟩), (fun p h => by cases h), (fun h => by cases h), (fun h => absurd rfl h), (fun d1 b1 e hl hL => by rw [hR.1 d1 e hL] at hl; cases hl), (fun d1 e hc => by have := hR.2 d1 e hc; cases this), (fun b1 v1 hb => by simp only [upS, Option.some.injEq, Prod.mk.injEq] at hb; rw [← hb.2]; rfl), (fun _ σ h => by cases h)⟩, e6, fun R' k' s' ha => ?_⟩
    have hv := hevs s' ha v (by simp [Op.operands])
    have hpx : place X s' none x = some (b, off) := by rw [← hpl]; exact (ha.pls x rfl).symm
    have hbx := ha.bx b hrt
    unfold opA
    rw [hP s' ha]
    simp only [hpx, ← hbx, e1, Option.bind_some, ← hv, e3, e5]
    rw [boxPut_up]
   ·rename_i hpl
    obtain ⟨new, e3, e4⟩ := bind_some' h
    obtain ⟨σ', e5, e6⟩ := bind_some' e4
    rw [heapPut_up] at e6
    have hrt : rt X Rt ⟨dst, .store t x v, ty, pos, af, g⟩ = none := by
     cases hr : rt X Rt ⟨dst, .store t x v, ty, pos, af, g⟩ with
     | none => rfl
     | some b => rw [storeAt_no (hnoo s hI x b rfl hr hpl)] at e5; cases e5
    have hw : wH' X Rt ⟨dst, .store t x v, ty, pos, af, g⟩ = true := by simp only [wH', hrt, Option.isNone_none]
    refine ⟨_, upH_ok _ _ hR hw rfl rfl (fun h => by cases h), e6, fun R' k' s' ha => ?_⟩
    have hv := hevs s' ha v (by simp [Op.operands])
    have hx := hevs s' ha x (by simp [Op.operands])
    have hσ := ha.σ (by simp only [rH', hrt, Option.isNone_none]) rfl
    have hpx : place X s' none x = none := by rw [← hpl]; exact (ha.pls x rfl).symm
    unfold opA
    rw [hP s' ha]
    simp only [hpx, ← hv, ← hx, e3, Option.bind_some, ← hσ, e5]
    rw [heapPut_up]
  case makeMap t rr =>
   cases rr with
   | some x => cases h
   | none =>
    simp only at h
    rw [heapPut_up] at h
    refine ⟨_, upH_ok _ _ hR rfl rfl rfl (fun _ => box_push (fun cs e => by cases e)), h, fun R' k' s' ha => ?_⟩
    have hσ := ha.σ rfl rfl
    unfold opA
    rw [hP s' ha]
    simp only [← hσ]
    rw [heapPut_up]
  case range t x =>
   split at h
   ·rename_i kt et hd
    obtain ⟨es, e1, e2⟩ := bind_some' h
    rw [heapPut_up] at e2
    refine ⟨_, upH_ok _ _ hR rfl rfl rfl (fun h => by cases h), e2, fun R' k' s' ha => ?_⟩
    have hx := hevs s' ha x (by simp [Op.operands])
    have hσ := ha.σ rfl rfl
    unfold opA
    rw [hP s' ha]
    simp only [hd, ← hx, ← hσ, e1, Option.bind_some]
    rw [heapPut_up]
   ·cases h
  case buildSlice t n ps =>
   cases dst with
   | none => exact dflt h (fun R' k' s' ha => by unfold opA; rw [hP s' ha])
   | some d =>
    simp only at h
    cases hO : X.O.contains d
    ·rw [hO] at h
     exact dflt h (fun R' k' s' ha => by unfold opA; rw [hP s' ha]; simp only [hO, cond_false])
    ·rw [hO] at h
     simp only [cond_true] at h
     obtain ⟨v, e1, e2⟩ := bind_some' h
     have hv : ∀ s', Ag X Rt Bt ⟨some d, .buildSlice t n ps, ty, pos, af, g⟩ ls none s s' → opV X ⟨some d, .buildSlice t n ps, ty, pos, af, g⟩ s' none = some v := fun s' ha => by
      rw [← e1]; exact (opV_congr (ha.evs hls) ha.pls ha.bx (hpLL s' ha.r2) (hnoo s' ha.r2) ha.σ ha.σb ha.r2.evB).symm
     unfold A.litK at e2
     split at e2
     ·rename_i sz es
      cases hl : (es.length == 0)
      ·rw [hl] at e2
       simp only [cond_false] at e2
       rw [heapPut_up] at e2
       refine ⟨_, upH_ok _ _ hR (by simp [wH', wH]; simpa using hO) rfl rfl (fun h => by cases h), e2, fun R' k' s' ha => ?_⟩
       have hσ := ha.σ (by simpa [rH'] using hO) rfl
       unfold opA
       rw [hP s' ha]
       simp only [hO, cond_true, hv s' ha, Option.bind_some, A.litK, hl, cond_false, ← hσ]
       rw [heapPut_up]
      ·rw [hl] at e2; cases e2
     ·cases e2
  case mapUpdate t m i v =>
   split at h
   ·rename_i kt et hd
    split at h
    ·rename_i ek he
     obtain ⟨σ', e1, e2⟩ := bind_some' h
     rw [heapPut_up] at e2
     refine ⟨_, upH_ok _ _ hR rfl rfl rfl (fun _ => box_mupd e1), e2, fun R' k' s' ha => ?_⟩
     have hm := hevs s' ha m (by simp [Op.operands])
     have hi := hevs s' ha i (by simp [Op.operands])
     have hv := hevs s' ha v (by simp [Op.operands])
     have hσ := ha.σ rfl rfl
     unfold opA
     rw [hP s' ha]
     simp only [hd, he, ← hm, ← hi, ← hv, ← hσ, e1, Option.bind_some]
     rw [heapPut_up]
    ·cases h
   ·cases h
  case call c =>
   have hargs : ∀ s', Ag X Rt Bt ⟨dst, .call c, ty, pos, af, g⟩ ls none s s' → c.args.toList.map (ev X s) = c.args.toList.map (ev X s') := fun s' ha =>
    List.map_congr_left fun x hx => hevs s' ha x (by simp [Op.operands, Call.operands]; exact .inr (by simpa using hx))
   split at h
   ·rename_i hc
    split at h
    ·rename_i t u x y h1 h2
     split at h
     ·rename_i e e' hd hu
      split at h
      ·rename_i i hi
       cases hz0 : zeroBad i
       ·rw [hz0] at h
        simp only [cond_false] at h
        obtain ⟨⟨rr, σ'⟩, e1, e2⟩ := bind_some' h
        simp only at e2
        rw [heapPut_up] at e2
        refine ⟨_, upH_ok _ _ hR (by simp [wH', wH, hc]) rfl rfl (fun _ => box_append e1), e2, fun R' k' s' ha => ?_⟩
        have hσ := ha.σ rfl rfl
        unfold opA
        rw [hP s' ha]
        simp only [hc, ← hargs s' ha, h1, h2, hd, hu, hi, hz0, cond_false, ← hσ, e1, Option.bind_some]
        rw [heapPut_up]
       ·rw [hz0] at h; cases h
      ·cases h
     ·rename_i e kk hd hu
      split at h
      ·rename_i i zs hi hz
       cases hz0 : zeroBad i
       ·rw [hz0] at h
        simp only [cond_false] at h
        obtain ⟨⟨rr, σ'⟩, e1, e2⟩ := bind_some' h
        simp only at e2
        rw [heapPut_up] at e2
        refine ⟨_, upH_ok _ _ hR (by simp [wH', wH, hc]) rfl rfl (fun _ => box_appendZ e1), e2, fun R' k' s' ha => ?_⟩
        have hσ := ha.σ rfl rfl
        unfold opA
        rw [hP s' ha]
        simp only [hc, ← hargs s' ha, h1, h2, hd, hu, hi, hz, hz0, cond_false, ← hσ, e1, Option.bind_some]
        rw [heapPut_up]
       ·rw [hz0] at h; cases h
      ·cases h
     ·cases h
    ·cases h
   ·rename_i hc
    split at h
    ·rename_i t u x y h1 h2
     split at h
     ·rename_i e e' hd hu
      split at h
      ·rename_i i hi
       cases hz0 : zeroBad i
       ·rw [hz0] at h
        simp only [cond_false] at h
        obtain ⟨⟨rr, σ'⟩, e1, e2⟩ := bind_some' h
        simp only at e2
        rw [heapPut_up] at e2
        refine ⟨_, upH_ok _ _ hR (by simp [wH', wH, hc]) rfl rfl (fun h => by simp [frW, hc] at h), e2, fun R' k' s' ha => ?_⟩
        have hσ := ha.σ rfl rfl
        unfold opA
        rw [hP s' ha]
        simp only [hc, ← hargs s' ha, h1, h2, hd, hu, hi, hz0, cond_false, ← hσ, e1, Option.bind_some]
        rw [heapPut_up]
       ·rw [hz0] at h; cases h
      ·cases h
     ·cases h
    ·cases h
   ·rename_i hc
    cases hv : opV X ⟨dst, .call c, ty, pos, af, g⟩ s none with
    | none => rw [hv] at h; simp [A.capM] at h
    | some v =>
     rw [hv] at h
     exact dflt (by rw [hv]; exact h) (fun R' k' s' ha => by
      have hv' : opV X ⟨dst, .call c, ty, pos, af, g⟩ s' none = some v := by rw [← hv]; exact (opV_congr (ha.evs hls) ha.pls ha.bx (hpLL s' ha.r2) (hnoo s' ha.r2) ha.σ ha.σb ha.r2.evB).symm
      unfold opA; rw [hP s' ha]; simp only [hc, hv', Option.bind_some, A.capM])
   ·rename_i hc
    split at h
    ·rename_i t x h1 h2
     split at h
     ·rename_i e hd
      split at h
      ·rename_i i zs hi hz
       cases hz0 : zeroBad i
       ·rw [hz0] at h
        simp only [cond_false] at h
        obtain ⟨σ', e1, e2⟩ := bind_some' h
        rw [heapPut_up] at e2
        refine ⟨_, upH_ok _ _ hR (by simp [wH', wH, hc]) rfl rfl (fun h => by simp [frW, hc] at h), e2, fun R' k' s' ha => ?_⟩
        have hσ := ha.σ rfl rfl
        unfold opA
        rw [hP s' ha]
        simp only [hc, ← hargs s' ha, h1, h2, hd, hi, hz, hz0, cond_false, ← hσ, e1, Option.bind_some]
        rw [heapPut_up]
       ·rw [hz0] at h; cases h
      ·cases h
     ·cases h
    ·cases h
   ·rename_i hc
    split at h
    ·rename_i t u m key h1 h2
     split at h
     ·rename_i kt et hd
      split at h
      ·rename_i ek he
       obtain ⟨σ', e1, e2⟩ := bind_some' h
       rw [heapPut_up] at e2
       refine ⟨_, upH_ok _ _ hR (by simp [wH', wH, hc]) rfl rfl (fun h => by simp [frW, hc] at h), e2, fun R' k' s' ha => ?_⟩
       have hσ := ha.σ rfl rfl
       unfold opA
       rw [hP s' ha]
       simp only [hc, ← hargs s' ha, h1, h2, hd, he, ← hσ, e1, Option.bind_some]
       rw [heapPut_up]
      ·cases h
     ·cases h
    ·cases h
   ·rename_i b hn1 hn2 hn3 hn4 hn5 hc
    exact dflt h (fun R' k' s' ha => by
     unfold opA; rw [hP s' ha]; simp only [hc]
     all_goals (first | rfl | (cases b <;> first | rfl | exact absurd rfl hn1 | exact absurd rfl hn2 | exact absurd rfl hn3 | exact absurd rfl hn4 | exact absurd rfl hn5)))
   ·rename_i f hc
    cases hw : X.W.contains f
    ·simp only [hw, Bool.not_false, Bool.and_true, cond_true] at h
     exact dflt h (fun R' k' s' ha => by unfold opA; rw [hP s' ha]; simp only [hc, hw, Bool.not_false, Bool.and_true, cond_true])
    ·simp only [hw, Bool.not_true, Bool.and_false, cond_false] at h
     obtain ⟨⟨rr, σ'⟩, e1, e2⟩ := bind_some' h
     simp only at e2
     rw [heapPut_up] at e2
     refine ⟨_, upH_ok _ _ hR (by simp only [wH', wH, hc]; exact hw) rfl rfl (fun h => by simp [frW, hc] at h), e2, fun R' k' s' ha => ?_⟩
     have hσ := ha.σ rfl rfl
     unfold opA
     rw [hP s' ha]
     simp only [hc, ← hargs s' ha, hw, Bool.not_true, Bool.and_false, cond_false, ← hσ, e1, Option.bind_some]
     rw [heapPut_up]
   ·rename_i x hnf hc
    simp only [cond_true] at h
    exact dflt h (fun R' k' s' ha => by
     unfold opA; rw [hP s' ha]; simp only [hc]
     cases x <;> first | exact absurd rfl (hnf _) | simp only [cond_true])
   ·cases h
end
end Go.Proofs.YtfalbgflabajbaaDoor

namespace Go.Proofs.YtfalbgflabajbaaDoor
set_option linter.unusedSectionVars false
set_option linter.unusedVariables false
set_option linter.unusedSimpArgs false
section
variable {R : Type} {X : Fx} {Rt : List (Nat × Nat)} {Bt : List Nat} {s s' : AS} {ops : Array Oper}
theorem looks_op {o : Oper} {t : Nat} (h : Operand.tmp t ∈ o.op.operands.toList) : t ∈ o.looksAt ops := by
 unfold Oper.looksAt
 refine List.mem_append.2 (.inl (List.mem_filterMap.2 ⟨.tmp t, h, rfl⟩))
theorem looks_guard {o : Oper} {j d : Nat} {want : Bool} (hg : o.guard = some (j, want)) (hd : (ops[j]?).bind (·.dst) = some d) : d ∈ o.looksAt ops := by
 unfold Oper.looksAt
 refine List.mem_append.2 (.inr ?_)
 rw [hg]
 simp only [hd]
 simp
def AgT (X : Fx) (Rt : List (Nat × Nat)) (Bt : List Nat) (ops : Array Oper) (o : Oper) (s s' : AS) : Prop := ∀ tag : Option (Nat × Bool), (∀ g w, tag = some (g, w) → g ∈ o.looksAt ops) → Ag X Rt Bt o (o.looksAt ops) tag s s'
theorem Ag.symm {o : Oper} {ls : List Nat} {tag : Option (Nat × Bool)} (h : Ag X Rt Bt o ls tag s s') : Ag X Rt Bt o ls tag s' s :=
 ⟨h.r2, h.r1, fun t ht hL => (h.hev t ht hL).symm, fun t ht => (h.pl t ht).symm, fun b hb => (h.bx b hb).symm, (fun hr hs => (h.σ hr hs).symm), fun hr hs id cs => (h.σb hr hs id cs).symm⟩
theorem AgT.symm {o : Oper} (h : AgT X Rt Bt ops o s s') : AgT X Rt Bt ops o s' s := fun tag ht => (h tag ht).symm
theorem wCall_opA {q : Bool} {o : Oper} {f : FuncId} {l : List Operand} (h : wCall X o = some (f, l)) (s : AS) (k : AS → Option R) : opA X q o s k = (X.call f (l.map (ev X s)) s.σ).bind fun r => k ((s.heap r.2).put X o.dst r.1) := by
 unfold wCall at h
 split at h
 ·rename_i c ho
  split at h
  ·rename_i f' hc
   cases hw : X.W.contains f'
   ·rw [hw] at h; cases h
   ·rw [hw] at h
    simp only [cond_true, Option.some.injEq, Prod.mk.injEq] at h
    obtain ⟨rfl, rfl⟩ := h
    unfold opA opP
    simp only [ho, hc, hw, Bool.not_true, Bool.and_false, cond_false]
  ·cases h
 ·cases h
theorem opG_up {o : Oper} {k : AS → Option R} {r : R} (hR : Rok X Rt Bt o) (hI : RI X Rt Bt s) (h : opG X true ops o s k = some r) :
  ∃ u, UpOk X Rt Bt o (o.looksAt ops) s.σ u ∧ k (u.ap s) = some r ∧ ∀ (R' : Type) (k' : AS → Option R') (s' : AS), AgT X Rt Bt ops o s s' → opG X true ops o s' k' = k' (u.ap s') := by
 unfold opG at h
 cases hg : o.guard with
 | none =>
  rw [hg] at h
  obtain ⟨u, h1, h2, h3⟩ := opA_up (ls := o.looksAt ops) hR hI (fun t ht => looks_op ht) h
  refine ⟨u, h1, h2, fun R' k' s' ha => ?_⟩
  unfold opG; rw [hg]
  exact h3 R' k' s' (ha none (fun g w e => by cases e))
 | some jw =>
  obtain ⟨j, want⟩ := jw
  rw [hg] at h
  simp only at h
  cases hd : (ops[j]?).bind (·.dst) with
  | none => rw [hd] at h; cases h
  | some d =>
   rw [hd] at h
   simp only at h
   cases hb : guardBad X o d
   ·rw [hb] at h
    simp only [cond_false] at h
    have hdl := looks_guard (ops := ops) hg hd
    have htag : ∀ g w, (some (d, want) : Option (Nat × Bool)) = some (g, w) → g ∈ o.looksAt ops := fun g w e => by injection e with e; injection e with e _; rw [← e]; exact hdl
    have hdL : X.L.contains d = false := by simp only [guardBad, Bool.or_eq_false_iff] at hb; exact hb.1
    cases hwc : wCall X o with
    | some fa =>
     obtain ⟨f, as'⟩ := fa
     rw [hwc] at h
     simp only at h
     obtain ⟨rv, e1, e2⟩ := bind_some' h
     have key : ∀ (x : AV), s.sl.getD d .undef = x → (x = .tup [] ∨ ∃ c, x = .bool c ∧ (c == want) = false) ∨ ∃ c, x = .bool c ∧ (c == want) = true := by
      intro x hx
      rw [hx] at e1
      unfold A.guard at e1
      split at e1
      ·rename_i c
       cases hc : (c == want)
       ·exact .inl (.inr ⟨c, rfl, hc⟩)
       ·exact .inr ⟨c, rfl, hc⟩
      ·exact .inl (.inl rfl)
      ·cases e1
     rcases key _ rfl with hno | ⟨c, hc, hcw⟩
     ·have hG : ∀ (R' : Type) (x : Option R') (y : Option R'), A.guard (s.sl.getD d .undef) want x y = y := by
       intro R' x y
       rcases hno with hh | ⟨c, hh, hcw⟩
       ·rw [hh]; rfl
       ·rw [hh]; simp only [A.guard, hcw, cond_false]
      rw [hG] at e1
      injection e1 with e1
      subst e1
      have hcall : isAdr o = false ∧ chainB Bt o = false := by
       unfold wCall at hwc
       split at hwc
       ·rename_i c ho
        exact ⟨by simp only [isAdr, ho], by simp only [chainB, ho]⟩
       ·cases hwc
      refine ⟨upV X o.dst (.tup []), upV_ok _ hR (fun ha => by rw [hcall.1] at ha; cases ha) (fun ha => by rw [hcall.2] at ha; cases ha), by rw [← put_up]; exact e2, fun R' k' s' ha => ?_⟩
      have a := ha _ htag
      have hsl := a.hev d hdl hdL
      unfold opG
      rw [hg]
      simp only [hd, hb, cond_false, hwc]
      rw [← hsl, hG, Option.bind_some, ← put_up]
      rfl
     ·have hG : ∀ (R' : Type) (x : Option R') (y : Option R'), A.guard (s.sl.getD d .undef) want x y = x := by
       intro R' x y
       rw [hc]; simp only [A.guard, hcw, cond_true]
      have hA : opA X true o s k = some r := by
       rw [wCall_opA hwc]
       rw [hG] at h
       exact h
      obtain ⟨u, h1, h2, h3⟩ := opA_up (ls := o.looksAt ops) hR hI (fun t ht => looks_op ht) hA
      refine ⟨u, h1, h2, fun R' k' s' ha => ?_⟩
      have a := ha _ htag
      have hsl := a.hev d hdl hdL
      rw [← h3 R' k' s' (ha none (fun g w e => by cases e)), wCall_opA hwc]
      unfold opG
      rw [hg]
      simp only [hd, hb, cond_false, hwc]
      rw [← hsl, hG]
    | none =>
    rw [hwc] at h
    simp only at h
    have hpLL : ∀ (s' : AS), RI X Rt Bt s' → ∀ x b off, adO o = some x → place X s' (some (d, want)) x = some (b, off) → rt X Rt o = some b := fun s' hi x b off hx hp => by simp only [rt, hx]; exact place_rt hi hp
    have hnoo : ∀ (s' : AS), RI X Rt Bt s' → ∀ x b, adO o = some x → rt X Rt o = some b → place X s' (some (d, want)) x = none → noAd (ev X s' x) = true := fun s' hi x b hx hr hp => by simp only [rt, hx] at hr; exact place_no hi hr hp
    have hP : ∀ s', AgT X Rt Bt ops o s s' → opP X o s' (some (d, want)) = opP X o s (some (d, want)) := fun s' ha => by
     have a := ha _ htag
     exact (opP_congr (a.evs fun t ht => looks_op ht) a.pls a.bx (hpLL s' a.r2)).symm
    cases hp : opP X o s (some (d, want)) with
    | some p =>
     obtain ⟨b, rr⟩ := p
     rw [hp] at h
     simp only at h
     obtain ⟨off, e1, e2⟩ := bind_some' h
     subst e1
     refine ⟨upA X o.dst b off (some (d, want)), upA_ok hR (opP_adr hp) (opP_rt hI hp) (opP_rL hp) htag, by rw [← adr_up]; exact e2, fun R' k' s' ha => ?_⟩
     unfold opG
     rw [hg]
     simp only [hd, hb, cond_false, hwc, hP s' ha, hp, Option.bind_some]
     rw [adr_up]
    | none =>
     rw [hp] at h
     simp only at h
     obtain ⟨v, e1, e2⟩ := bind_some' h
     have hv : isAdr o = true → ∀ b, rt X Rt o = some b → noAd v = true := by
      intro ha b hr
      unfold A.guard at e1
      split at e1
      ·rename_i c _
       cases hc : (c == want)
       ·rw [hc] at e1; simp only [cond_false, Option.some.injEq] at e1; subst e1; rfl
       ·rw [hc] at e1; exact (opV_adr hI ha hr hp e1).elim
      ·simp only [Option.some.injEq] at e1; subst e1; rfl
      ·cases e1
     have hv2 : chainB Bt o = true → notOe v = true := by
      intro hc
      unfold A.guard at e1
      split at e1
      ·rename_i c _
       cases hc2 : (c == want)
       ·rw [hc2] at e1; simp only [cond_false, Option.some.injEq] at e1; subst e1; rfl
       ·rw [hc2] at e1; exact opV_chain hI.evB hc e1
      ·simp only [Option.some.injEq] at e1; subst e1; rfl
      ·cases e1
     refine ⟨upV X o.dst v, upV_ok v hR hv hv2, by rw [← put_up]; exact e2, fun R' k' s' ha => ?_⟩
     have a := ha _ htag
     have hV : opV X o s' (some (d, want)) = opV X o s (some (d, want)) := (opV_congr (a.evs fun t ht => looks_op ht) a.pls a.bx (hpLL s' a.r2) (hnoo s' a.r2) a.σ a.σb a.r2.evB).symm
     have hsl := a.hev d hdl hdL
     unfold opG
     rw [hg]
     simp only [hd, hb, cond_false, hwc, hP s' ha, hp, hV, ← hsl, e1, Option.bind_some]
     rw [put_up]
   ·rw [hb] at h; cases h
structure Ind (X : Fx) (Rt : List (Nat × Nat)) (Bt : List Nat) (ops : Array Oper) (x y : Oper) : Prop where
 dx : ∀ d, x.dst = some d → d ∉ y.looksAt ops
 dd : ∀ d, x.dst = some d → y.dst ≠ some d
 dy : ∀ d, y.dst = some d → d ∉ x.looksAt ops
 c1 : confl X Rt Bt x y = false
 c2 : confl X Rt Bt y x = false
theorem Ind.symm {x y : Oper} (h : Ind X Rt Bt ops x y) : Ind X Rt Bt ops y x := ⟨h.dy, fun d hd e => h.dd d e hd, h.dx, h.c2, h.c1⟩
theorem indep_ind {x y : Oper} (h : indep X Rt Bt ops x y = true) : Ind X Rt Bt ops x y := by
 simp only [indep, Bool.and_eq_true, Bool.not_eq_true'] at h
 obtain ⟨⟨h1, h2⟩, h3⟩ := h
 obtain ⟨a1, a2, a3⟩ := Oper.apart_spec h1
 exact ⟨a1, a2, a3, h2, h3⟩
theorem confl_b {x y : Oper} (h : confl X Rt Bt x y = false) {b : Nat} (hb : wb X Rt x = some b) : rt X Rt y ≠ some b := by
 unfold confl at h
 simp only [Bool.or_eq_false_iff] at h
 have := h.1.1
 rw [hb] at this
 simpa using this
theorem confl_d {x y : Oper} (h : confl X Rt Bt x y = false) {d : Nat} (hd : x.dst = some d) (hL : X.L.contains d = true) : rt X Rt y ≠ some d := by
 unfold confl at h
 simp only [Bool.or_eq_false_iff] at h
 have := h.1.2
 rw [hd] at this
 simp only [hL, Bool.true_and] at this
 simpa using this
theorem confl_h {x y : Oper} (h : confl X Rt Bt x y = false) (hw : wH' X Rt x = true) : (rH' X Rt y = false ∨ (soft Bt y = true ∧ frW x = true)) ∧ wH' X Rt y = false := by
 unfold confl at h
 simp only [Bool.or_eq_false_iff] at h
 have := h.2
 rw [hw] at this
 simp only [Bool.true_and, Bool.or_eq_false_iff] at this
 refine ⟨?_, this.2⟩
 cases hr : rH' X Rt y
 ·exact .inl rfl
 ·have h2 := this.1
  rw [hr, Bool.true_and, Bool.not_eq_false'] at h2
  exact .inr (by simpa using h2)
theorem adO_op {x : Oper} {a : Operand} (h : adO x = some a) : a ∈ x.op.operands.toList := by
 obtain ⟨dst, op, ty, pos, af, g⟩ := x
 cases op <;> simp only [adO] at h <;> first | (cases h; done) | (injection h with h; subst h; simp [Op.operands])
theorem rt_L (h : RI X Rt Bt s) {x : Oper} {b : Nat} (hr : rt X Rt x = some b) (hL : X.L.contains b = false) : False := by
 unfold rt at hr
 split at hr
 ·rename_i a _
  cases a with
  | tmp t =>
   simp only [rtX] at hr
   cases hc : X.L.contains t
   ·rw [hc] at hr; have := h.l t b hr; rw [hL] at this; cases this
   ·rw [hc] at hr; simp only [cond_true, Option.some.injEq] at hr; subst hr; rw [hL] at hc; cases hc
  | _ => simp [rtX] at hr
 ·cases hr
theorem wb_rt {x : Oper} {b : Nat} (h : wb X Rt x = some b) : rt X Rt x = some b := by
 unfold wb at h; split at h
 ·exact h
 ·cases h
theorem ag_ap {τ : Heap} {x y : Oper} (h : Ind X Rt Bt ops x y) {u : Up} (hu : UpOk X Rt Bt y (y.looksAt ops) τ u) (s : AS) (hs : RI X Rt Bt s) (hτ : u.σ ≠ none → BoxEq s.σ τ) : AgT X Rt Bt ops x s (u.ap s) := by
 intro tag ht
 have hnd : ∀ t, t ∈ x.looksAt ops → u.d ≠ some t := fun t ht e => by rw [hu.d] at e; exact h.dy t e ht
 refine ⟨hs, hu.ri hs, fun t htl hL => ?_, fun t hax => ?_, fun b hb => ?_, fun hr hsf => ?_, fun hr hsf => ?_⟩
 ·exact (up_sl (hnd t htl) (fun b v hb e => by have := (hu.bx b v hb).1; rw [← e, hL] at this; cases this)).symm
 ·have htl : t ∈ x.looksAt ops := looks_op (adO_op hax)
  simp only [place]
  cases hL : X.L.contains t
  ·simp only [cond_false]
   show _ = match u.A s.A t with | some p => _ | none => none
   unfold Up.A
   cases hd : u.d with
   | none => rfl
   | some d =>
    have htd : (t == d) = false := by simp only [beq_eq_false_iff_ne]; intro e; exact hnd t htl (by rw [hd, e])
    simp only [htd, cond_false]
    cases hA : s.A t with
    | none => rfl
    | some p =>
     have hrt : rtX X Rt (.tmp t) = some p.slot := by simp only [rtX, hL, cond_false]; exact hs.a t p hA
     have hf : filt u.isBox d (some p) = keepTag d (some p) := by
      cases hi : u.isBox with
      | false => exact filt_false d _
      | true =>
       obtain ⟨d', hd', hL'⟩ := hu.box hi
       have hdd : d' = d := by rw [hu.d] at hd; rw [hd] at hd'; injection hd' with e; exact e.symm
       subst hdd
       unfold filt
       cases hk : keepTag d' (some p) with
       | none => rfl
       | some q =>
        have hqs : q = p := by
         simp only [keepTag] at hk
         cases htg : p.tag with
         | none => rw [htg] at hk; simpa using hk.symm
         | some g =>
          obtain ⟨g, w⟩ := g
          rw [htg] at hk
          simp only at hk
          cases hg : (g == d')
          ·rw [hg] at hk; simpa using hk.symm
          ·rw [hg] at hk; cases hk
        subst hqs
        have hne : (q.slot == d') = false := by
         rw [beq_eq_false_iff_ne]
         intro e
         have : rt X Rt x = some q.slot := by simp only [rt, hax]; exact hrt
         exact confl_d h.c2 hd' hL' (by rw [this, e])
        simp only [hne, Bool.and_false, cond_false]
     rw [hf]
     simp only [keepTag]
     cases htg : p.tag with
     | none => simp only [htg]
     | some gw =>
      obtain ⟨g, w⟩ := gw
      simp only
      cases hgd : (g == d)
      ·simp only [cond_false, htg]
      ·simp only [cond_true]
       have hgd' : g = d := by simpa using hgd
       have : (tag == some (g, w)) = false := by
        rw [beq_eq_false_iff_ne]
        intro e
        exact hnd g (ht g w e) (by rw [hd, hgd'])
       rw [this]
       cases X.L.contains p.slot <;> rfl
  ·rfl
 ·refine (up_sl (fun e => ?_) (fun b' v hb' e => ?_)).symm
  ·rw [hu.d] at e
   have hLb : X.L.contains b = true := by
    cases hc : X.L.contains b with
    | true => rfl
    | false =>
     exfalso
     exact rt_L hs hb hc
   exact confl_d h.c2 e hLb hb
  ·exact confl_b h.c2 (hu.bx b' v hb').2 (by rw [← e]; exact hb)
 ·show s.σ = u.σ.getD s.σ
  cases hs' : u.σ with
  | none => rfl
  | some σ =>
   rcases (confl_h h.c2 (hu.σ (by rw [hs']; intro e; cases e))).1 with this | ⟨this, _⟩
   ·rw [hr] at this; cases this
   ·rw [hsf] at this; cases this
 ·show BoxEq s.σ (u.σ.getD s.σ)
  cases hs' : u.σ with
  | none => exact box_refl _
  | some σ =>
   rcases (confl_h h.c2 (hu.σ (by rw [hs']; intro e; cases e))).1 with this | ⟨_, hf⟩
   ·rw [hr] at this; cases this
   ·exact fun id cs => (hτ (by rw [hs']; intro e; cases e) id cs).trans (hu.fr hf σ hs' id cs)
theorem up_apart {τ τ' : Heap} {x y : Oper} (h : Ind X Rt Bt ops x y) {u v : Up} (hu : UpOk X Rt Bt x (x.looksAt ops) τ u) (hv : UpOk X Rt Bt y (y.looksAt ops) τ' v) : u.Apart v := by
 have half : ∀ {τ τ' : Heap} {x y : Oper} {u v : Up}, Ind X Rt Bt ops x y → UpOk X Rt Bt x (x.looksAt ops) τ u → UpOk X Rt Bt y (y.looksAt ops) τ' v → (∀ b a, u.bx = some (b, a) → (∀ c a', v.bx = some (c, a') → c ≠ b) ∧ v.d ≠ some b) ∧ (∀ d, v.d = some d → filt v.isBox d u.new = u.new) := by
  intro τ τ' x y u v h hu hv
  refine ⟨fun b a hb => ?_, fun d hd => ?_⟩
  ·obtain ⟨k1, k2⟩ := hu.bx b a hb
   refine ⟨fun c a' hc e => ?_, fun e => ?_⟩
   ·have := (hv.bx c a' hc).2
    subst e
    exact confl_b h.c1 k2 (wb_rt this)
   ·rw [hv.d] at e
    exact confl_d h.c2 e k1 (wb_rt k2)
  ·cases hn : u.new with
   | none => rfl
   | some p =>
    obtain ⟨k1, k2, k3, k4⟩ := hu.new p hn
    have hkt : keepTag d (some p) = some p := by
     simp only [keepTag]
     cases htg : p.tag with
     | none => rfl
     | some gw =>
      obtain ⟨g, w⟩ := gw
      simp only
      have : (g == d) = false := by
       rw [beq_eq_false_iff_ne]; intro e
       rw [hv.d] at hd
       exact h.dy d hd (e ▸ k2 g w htg)
      rw [this]; rfl
    unfold filt
    rw [hkt]
    simp only
    cases hi : v.isBox with
    | false => rfl
    | true =>
     obtain ⟨d', hd', hL'⟩ := hv.box hi
     have hdd : d' = d := by rw [hv.d] at hd; rw [hd] at hd'; injection hd' with e; exact e.symm
     subst hdd
     have : (p.slot == d') = false := by
      rw [beq_eq_false_iff_ne]; intro e
      exact confl_d h.c2 hd' hL' (by rw [k3, e])
     simp only [this, Bool.and_false, cond_false]
 obtain ⟨a1, a2⟩ := half h hu hv
 obtain ⟨b1, b2⟩ := half h.symm hv hu
 refine ⟨fun d hd e => ?_, a1, b1, a2, b2, ?_⟩
 ·rw [hu.d] at hd; rw [hv.d] at e; exact h.dd d hd e
 ·cases hs : u.σ with
  | none => exact .inl rfl
  | some σ =>
   right
   have hw := hu.σ (by rw [hs]; intro e; cases e)
   have hnw := (confl_h h.c1 hw).2
   cases hs2 : v.σ with
   | none => rfl
   | some σ2 => rw [hv.σ (by rw [hs2]; intro e; cases e)] at hnw; cases hnw
theorem ops_first {o : Oper} {k : AS → Option R} {r : R} (ho : Rok X Rt Bt o) : ∀ (l1 l2 : List Oper) (s : AS), RI X Rt Bt s → (∀ y ∈ l1, Rok X Rt Bt y) → (∀ y ∈ l1, Ind X Rt Bt ops y o) → opsA X true ops (l1 ++ o :: l2) s k = some r → opG X true ops o s (fun s1 => opsA X true ops (l1 ++ l2) s1 k) = some r
 | [], l2, s, _, _, _, h => h
 | y :: l1, l2, s, hs, hr, hi, h => by
  simp only [List.cons_append, opsA] at h
  obtain ⟨u, u1, u2, u3⟩ := opG_up (hr y (by simp)) hs h
  have ih := ops_first ho l1 l2 (u.ap s) (u1.ri hs) (fun z hz => hr z (by simp [hz])) (fun z hz => hi z (by simp [hz])) u2
  obtain ⟨v, v1, v2, v3⟩ := opG_up ho (u1.ri hs) ih
  have hy := hi y (by simp)
  have hbe : v.σ ≠ none → BoxEq s.σ (u.ap s).σ := fun hv => by
   have hnu : u.σ = none := by
    cases hu : u.σ with
    | none => rfl
    | some σ =>
     have hw := (confl_h hy.c1 (u1.σ (by rw [hu]; intro e; cases e))).2
     rw [v1.σ hv] at hw; cases hw
   show BoxEq s.σ (u.σ.getD s.σ)
   rw [hnu]; exact box_refl _
  rw [v3 R _ s (ag_ap hy.symm u1 s hs (fun _ => box_refl _)).symm]
  simp only [List.cons_append, opsA]
  rw [u3 R _ (v.ap s) (ag_ap hy v1 s hs hbe), Up.comm (up_apart hy u1 v1)]
  exact v2
def Down (ops : Array Oper) (S : Nat → Prop) : Prop := ∀ i o e, S i → ops[i]? = some o → e ∈ o.after → Region.binds .any e = true → S e.on
def Deps (ops : Array Oper) (i : Nat) (S : Nat → Prop) : Prop := ∀ o e, ops[i]? = some o → e ∈ o.after → Region.binds .any e = true → S e.on
theorem fold_bit (acc : List Nat) : ∀ (es : List Edge) (m j : Nat), (es.foldl (fun s e => bif Region.binds .any e then s ||| 2 ^ e.on ||| acc.getD e.on 0 else s) m).testBit j = true →
  m.testBit j = true ∨ ∃ e ∈ es, Region.binds .any e = true ∧ (e.on = j ∨ (acc.getD e.on 0).testBit j = true)
 | [], m, j, h => .inl h
 | e :: es, m, j, h => by
  simp only [List.foldl_cons] at h
  rcases fold_bit acc es _ j h with h | ⟨e', he', hb, hx⟩
  ·cases hb : Region.binds .any e
   ·rw [hb] at h; exact .inl h
   ·rw [hb] at h
    simp only [cond_true, Nat.testBit_or, Bool.or_eq_true] at h
    rcases h with (h | h) | h
    ·exact .inl h
    ·refine .inr ⟨e, by simp, hb, .inl ?_⟩
     rw [Nat.testBit_two_pow] at h
     simpa using h
    ·exact .inr ⟨e, by simp, hb, .inr h⟩
  ·exact .inr ⟨e', by simp [he'], hb, hx⟩
theorem anc_spec : ∀ (l : List Oper) (acc : List Nat), (∀ i, l[i]? = ops[acc.length + i]?) →
  (∀ (m j : Nat), (acc.getD m 0).testBit j = true → ∀ S, Down ops S → Deps ops m S → S j) →
  ∀ (m j : Nat), ((ancGo l acc).getD m 0).testBit j = true → ∀ S, Down ops S → Deps ops m S → S j
 | [], acc, hl, hacc => hacc
 | o :: l, acc, hl, hacc => by
  simp only [ancGo]
  refine anc_spec l _ (fun i => by have := hl (i + 1); simp at this; rw [this]; simp; congr 1; omega) ?_
  intro m j h S hS hD
  have h0 := hl 0
  simp at h0
  by_cases hm : m < acc.length
  ·rw [List.getD, List.getElem?_append_left hm] at h
   exact hacc m j h S hS hD
  ·by_cases hm2 : m = acc.length
   ·subst hm2
    rw [List.getD, List.getElem?_append_right (Nat.le_refl _)] at h
    simp only [Nat.sub_self, List.getElem?_cons_zero, Option.getD_some] at h
    rcases fold_bit acc _ _ j h with h | ⟨e, he, hb, hx⟩
    ·simp at h
    ·have hon : S e.on := hD o e h0.symm (by simpa using he) hb
     rcases hx with hx | hx
     ·exact hx ▸ hon
     ·exact hacc e.on j hx S hS (fun o' e' ho' he' hb' => hS e.on o' e' hon ho' he' hb')
   ·rw [List.getD, List.getElem?_append_right (by omega), List.getElem?_eq_none (by simp; omega)] at h
    simp at h
theorem pairs_spec {anc : List Nat} : ∀ (l : List Oper) (i : Nat), (∀ j, l[j]? = ops[i + j]?) → pairsOk X Rt Bt ops anc l i = true → ∀ n o, i ≤ n → ops[n]? = some o → ∀ m y, m < n → ops[m]? = some y → (anc.getD n 0).testBit m = true ∨ indep X Rt Bt ops y o = true
 | [], i, hl, _, n, o, hn, ho, m, y, hm, hy => by
  have := hl (n - i)
  rw [show i + (n - i) = n by omega, ho] at this
  simp at this
 | x :: l, i, hl, h, n, o, hn, ho, m, y, hm, hy => by
  simp only [pairsOk, Bool.and_eq_true] at h
  by_cases hni : n = i
  ·subst hni
   have h0 := hl 0
   simp at h0
   rw [ho] at h0; injection h0 with h0; subst h0
   have := List.all_eq_true.1 h.1 (y, m) (by
    rw [List.mem_zipIdx_iff_getElem?]
    simp only
    rw [List.getElem?_take_of_lt hm, Array.getElem?_toList]
    exact hy)
   simpa using this
  ·exact pairs_spec l (i + 1) (fun j => by have := hl (j + 1); simp at this; rw [this]; congr 1; omega) h.2 n o (by omega) ho m y hm hy
theorem back_spec : ∀ (l : List Oper) (i : Nat), (∀ j, l[j]? = ops[i + j]?) → backOk l i = true → ∀ n o e, i ≤ n → ops[n]? = some o → e ∈ o.after → Region.binds .any e = true → e.on < n
 | [], i, hl, _, n, o, e, hn, ho, he, hb => by
  have := hl (n - i)
  rw [show i + (n - i) = n by omega, ho] at this
  simp at this
 | x :: l, i, hl, h, n, o, e, hn, ho, he, hb => by
  simp only [backOk, Bool.and_eq_true] at h
  by_cases hni : n = i
  ·subst hni
   have h0 := hl 0
   simp at h0
   rw [ho] at h0; injection h0 with h0; subst h0
   have := List.all_eq_true.1 h.1 e (by simpa using he)
   rw [hb] at this
   simpa [Nat.blt_eq] using this
  ·exact back_spec l (i + 1) (fun j => by have := hl (j + 1); simp at this; rw [this]; congr 1; omega) h.2 n o e (by omega) ho he hb
def remI (listed : Array Bool) (n : Nat) : List Nat := (List.range n).filter fun i => !listed.getD i true
def remO (ops : Array Oper) (listed : Array Bool) : List Oper := (remI listed ops.size).filterMap (ops[·]?)
theorem remI_split {listed : Array Bool} {n i : Nat} (hi : i < n) (hl : listed.getD i true = false) (hs : listed.size = n) :
  ∃ l1 l2, remI listed n = l1 ++ i :: l2 ∧ remI (listed.setIfInBounds i true) n = l1 ++ l2 ∧ ∀ j ∈ l1, j < i ∧ listed.getD j true = false := by
 refine ⟨(List.range i).filter fun j => !listed.getD j true, ((List.range' (i + 1) (n - i - 1))).filter fun j => !listed.getD j true, ?_, ?_, fun j hj => ?_⟩
 ·unfold remI
  rw [show List.range n = List.range i ++ i :: List.range' (i + 1) (n - i - 1) by
   rw [List.range_eq_range', List.range_eq_range', ← List.range'_succ, show n - i - 1 + 1 = n - i by omega]
   have := List.range'_append_1 (s := 0) (m := i) (n := n - i)
   rw [show 0 + i = i by omega, show i + (n - i) = n by omega] at this
   exact this.symm]
  rw [List.filter_append, List.filter_cons, hl]
  simp
 ·unfold remI
  rw [show List.range n = List.range i ++ i :: List.range' (i + 1) (n - i - 1) by
   rw [List.range_eq_range', List.range_eq_range', ← List.range'_succ, show n - i - 1 + 1 = n - i by omega]
   have := List.range'_append_1 (s := 0) (m := i) (n := n - i)
   rw [show 0 + i = i by omega, show i + (n - i) = n by omega] at this
   exact this.symm]
  rw [List.filter_append, List.filter_cons]
  have hset : (listed.setIfInBounds i true).getD i true = true := by simp [Array.getD, hs, hi]
  rw [hset]
  simp only [Bool.not_true, Bool.false_eq_true, if_false]
  congr 1
  ·apply List.filter_congr
   intro j hj
   have : j < i := by simpa using hj
   rw [Array.getD_eq_getD_getElem?, Array.getD_eq_getD_getElem?, Array.getElem?_setIfInBounds_ne (by omega)]
  ·apply List.filter_congr
   intro j hj
   have : i < j := by simp at hj; omega
   rw [Array.getD_eq_getD_getElem?, Array.getD_eq_getD_getElem?, Array.getElem?_setIfInBounds_ne (by omega)]
 ·rw [List.mem_filter] at hj
  exact ⟨by simpa using hj.1, by simpa using hj.2⟩
end
end Go.Proofs.YtfalbgflabajbaaDoor

namespace Go.Proofs.YtfalbgflabajbaaDoor
set_option linter.unusedSectionVars false
open Go.RowKit
set_option linter.unusedVariables false
set_option linter.unusedSimpArgs false
section
variable {X : Fx} {z : Z} {s : AS} {a : Act} {w w' : World} {E : List Pl} {pb : Nat → Option Nat} {R : Type}
theorem slot_tmp (h : St X z s a w E pb) {d : Nat} {av : AV} (hav : s.sl.getD d .undef = av) (h1 : av ≠ .undef) (h2 : ∀ cs, av ≠ .lbx cs) : ∃ v, a.tmps[d]? = some v ∧ a.tmps.getD d undef = v ∧ Rep (ctx z w E pb) av v := by
 by_cases hd : d < s.sl.length
 ·have e : s.sl[d]? = some av := by rw [List.getElem?_eq_getElem hd]; rw [← hav]; simp [List.getD, hd]
  have r := (h.slot d av e).rep h2
  have hd' : d < a.tmps.size := by rw [h.len]; exact hd
  exact ⟨a.tmps.getD d undef, by simp [Array.getD, hd'], rfl, r⟩
 ·exact absurd (by rw [← hav]; simp [List.getD, Nat.le_of_not_lt hd]) h1
theorem opG_wp (hs : Snd X) (h : St X z s a w E pb) {q : Bool} {ops : Array Oper} {i : Nat} {o : Oper} (hi : ops[i]? = some o) {k : AS → Option R} {r : R} (hk : opG X q ops o s k = some r) {K : Act → World → Prop} {Q : Exit → Act → World → Prop}
  (hK : ∀ s' a' w' E' pb', St X z s' a' w' E' pb' → k s' = some r → K a' w') : wpOp X.P ops Q i K a w := by
 unfold wpOp
 rw [hi]
 simp only
 unfold opG at hk
 cases hg : o.guard with
 | none =>
  rw [hg] at hk
  rw [if_pos (by simp [Region.wanted, hg])]
  exact .inl (opA_wp hs h hk hK)
 | some jw =>
  obtain ⟨j, want⟩ := jw
  rw [hg] at hk
  simp only at hk
  cases hd : (ops[j]?).bind (·.dst) with
  | none => rw [hd] at hk; cases hk
  | some d =>
   rw [hd] at hk
   simp only at hk
   cases hL : guardBad X o d
   ·rw [hL] at hk
    simp only [cond_false] at hk
    have hwant : Region.wanted o (yielded ops a.tmps) = (yielded ops a.tmps j == some want) := by simp [Region.wanted, hg]
    have hy : yielded ops a.tmps j = match a.tmps[d]? with | some (.bool b) => some b | _ => none := by
     simp only [yielded, hd, Option.bind_some]
     rfl
    cases hwc : wCall X o with
    | some fa =>
     obtain ⟨f, as'⟩ := fa
     rw [hwc] at hk
     simp only at hk
     obtain ⟨rv, e1, e2⟩ := Option.bind_eq_some_iff.1 hk
     generalize hsl : s.sl.getD d .undef = gv at e1
     cases gv <;> simp only [A.guard] at e1 <;> first | (cases e1; done) | skip
     case bool b =>
      obtain ⟨v, v1, v2, v3⟩ := slot_tmp h hsl (by intro e; cases e) (by intro cs e; cases e)
      simp only [Rep] at v3
      subst v3
      cases hbw : (b == want)
      ·rw [hbw] at e1
       simp only [cond_false] at e1
       injection e1 with e1; subst e1
       have hw : ¬ Region.wanted o (yielded ops a.tmps) = true := by
        rw [hwant, hy, v1]
        simp at hbw ⊢
        exact hbw
       rw [if_neg hw]
       exact hK _ _ _ _ _ (h.undef o.dst) e2
      ·rw [hbw] at e1
       simp only [cond_true] at e1
       have hbw' : b = want := by simpa using hbw
       have hw : Region.wanted o (yielded ops a.tmps) = true := by rw [hwant, hy, v1]; simp [hbw']
       rw [if_pos hw]
       exact .inl (opA_wp (q := q) hs h (by rw [wCall_opA hwc, e1]; exact e2) hK)
     case tup vs =>
      cases vs with
      | cons x xs => cases e1
      | nil =>
       injection e1 with e1; subst e1
       obtain ⟨v, v1, v2, v3⟩ := slot_tmp h hsl (by intro e; cases e) (by intro cs e; cases e)
       simp only [Rep] at v3
       obtain ⟨us, rfl, _⟩ := v3
       have hw : ¬ Region.wanted o (yielded ops a.tmps) = true := by rw [hwant, hy, v1]; simp
       rw [if_neg hw]
       exact hK _ _ _ _ _ (h.undef o.dst) e2
    | none =>
    rw [hwc] at hk
    simp only at hk
    cases hp : opP X o s (some (d, want)) with
    | some p =>
     obtain ⟨b, rr⟩ := p
     rw [hp] at hk
     simp only at hk
     obtain ⟨off, e1, e2⟩ := Option.bind_eq_some_iff.1 hk
     subst e1
     by_cases hw : Region.wanted o (yielded ops a.tmps) = true
     ·rw [if_pos hw]
      have ht : tagOk a (some (d, want)) := by
       rw [hwant, hy] at hw
       simp only [tagOk]
       split at hw
       ·rename_i b' hb'
        simp at hw; subst hw
        rw [Array.getD_eq_getD_getElem?, hb']; rfl
       ·simp at hw
      obtain ⟨n, k1, k2⟩ := opP_wp h ht hp
      exact .inl (wp_value k2 (hK _ _ _ _ _ (h.adr' o.dst (fun _ => ⟨n, k1, rfl⟩)) e2))
     ·rw [if_neg hw]
      refine hK _ _ _ _ _ (h.adr' o.dst (fun ht => absurd ?_ hw)) e2
      rw [hwant, hy]
      simp only [tagOk] at ht
      rw [Array.getD_eq_getD_getElem?] at ht
      cases hc : a.tmps[d]? with
      | none => rw [hc] at ht; simp [undef] at ht
      | some v => rw [hc] at ht; simp at ht; subst ht; simp
    | none =>
     rw [hp] at hk
     simp only at hk
     obtain ⟨av, e1, e2⟩ := Option.bind_eq_some_iff.1 hk
     generalize hsl : s.sl.getD d .undef = gv at e1
     cases gv <;> simp only [A.guard] at e1 <;> first | (cases e1; done) | skip
     case bool b =>
      obtain ⟨v, v1, v2, v3⟩ := slot_tmp h hsl (by intro e; cases e) (by intro cs e; cases e)
      simp only [Rep] at v3
      subst v3
      cases hbw : (b == want)
      ·rw [hbw] at e1
       simp only [cond_false] at e1
       injection e1 with e1; subst e1
       have hw : ¬ Region.wanted o (yielded ops a.tmps) = true := by
        rw [hwant, hy, v1]
        simp at hbw ⊢
        exact hbw
       rw [if_neg hw]
       exact hK _ _ _ _ _ (h.undef o.dst) e2
      ·rw [hbw] at e1
       simp only [cond_true] at e1
       have hbw' : b = want := by simpa using hbw
       have hw : Region.wanted o (yielded ops a.tmps) = true := by rw [hwant, hy, v1]; simp [hbw']
       rw [if_pos hw]
       have ht : tagOk a (some (d, want)) := by simp only [tagOk]; rw [v2, hbw']
       exact .inl (opV_wp hs h ht e1 fun v w' E' h3 h4 => hK _ _ _ _ _ (h3.put o.dst h4) e2)
     case tup vs =>
      cases vs with
      | cons x xs => cases e1
      | nil =>
       injection e1 with e1; subst e1
       obtain ⟨v, v1, v2, v3⟩ := slot_tmp h hsl (by intro e; cases e) (by intro cs e; cases e)
       simp only [Rep] at v3
       obtain ⟨us, rfl, _⟩ := v3
       have hw : ¬ Region.wanted o (yielded ops a.tmps) = true := by rw [hwant, hy, v1]; simp
       rw [if_neg hw]
       exact hK _ _ _ _ _ (h.undef o.dst) e2
   ·rw [hL] at hk; cases hk
def Fr (X : Fx) (ds : List Nat) (s s' : AS) : Prop := ∀ i, i ∉ ds → X.L.contains i = false → s'.sl[i]? = s.sl[i]?
theorem Fr.refl (ds : List Nat) (s : AS) : Fr X ds s s := fun _ _ _ => rfl
theorem Fr.trans {d1 d2 : List Nat} {s s' s'' : AS} (h : Fr X d1 s s') (k : Fr X d2 s' s'') : Fr X (d1 ++ d2) s s'' := fun i hi hL => by
 rw [List.mem_append] at hi
 exact (k i (fun e => hi (.inr e)) hL).trans (h i (fun e => hi (.inl e)) hL)
theorem Fr.mono {d1 d2 : List Nat} {s s' : AS} (h : Fr X d1 s s') (k : ∀ i ∈ d1, i ∈ d2) : Fr X d2 s s' := fun i hi hL => h i (fun e => hi (k i e)) hL
theorem Fr.put (d : Option Nat) (v : AV) (s : AS) : Fr X d.toList s (s.put X d v) := fun i hi hL => by
 cases d with
 | none => rfl
 | some d => simp only [AS.put]; rw [List.getElem?_set, if_neg]; intro e; subst e; simp at hi
theorem Fr.adr (d : Option Nat) (b off : Nat) (tag : Option (Nat × Bool)) (s : AS) : Fr X d.toList s (s.adr X d b off tag) := fun i hi hL => by
 cases d with
 | none => rfl
 | some d => simp only [AS.adr]; rw [List.getElem?_set, if_neg]; intro e; subst e; simp at hi
theorem Fr.newBox (d : Nat) (cs : List AV) (s : AS) : Fr X [d] s (s.newBox d cs) := fun i hi hL => by
 simp only [AS.newBox]; rw [List.getElem?_set, if_neg]; intro e; subst e; simp at hi
theorem Fr.heapPut (d : Option Nat) (v : AV) (σ : Heap) (s : AS) : Fr X d.toList s ((s.heap σ).put X d v) := fun i hi hL => by
 cases d with
 | none => rfl
 | some d => simp only [AS.put, AS.heap]; rw [List.getElem?_set, if_neg]; intro e; subst e; simp at hi
theorem Fr.boxPut (d : Option Nat) (v : AV) (b : Nat) (cs : List AV) (hb : X.L.contains b = true) (s : AS) : Fr X d.toList s ((⟨s.sl.set b (.lbx cs), s.A, s.σ⟩ : AS).put X d v) := fun i hi hL => by
 have hbi : b ≠ i := fun e => by rw [e, hL] at hb; cases hb
 cases d with
 | none => simp only [AS.put]; rw [List.getElem?_set, if_neg hbi]
 | some d => simp only [AS.put]; rw [List.getElem?_set, if_neg, List.getElem?_set, if_neg hbi]; intro e; subst e; simp at hi
theorem place_L {tag : Option (Nat × Bool)} {x : Operand} {b off : Nat} (h : place X s tag x = some (b, off)) : X.L.contains b = true := by
 cases x with
 | tmp t =>
  simp only [place] at h
  cases hL : X.L.contains t
  ·rw [hL] at h
   simp only [cond_false] at h
   split at h
   ·rename_i p hA
    cases hp : X.L.contains p.slot
    ·rw [hp] at h; cases h
    ·rw [hp] at h
     simp only [cond_true] at h
     split at h
     ·simp only [Option.some.injEq, Prod.mk.injEq] at h; rw [← h.1]; exact hp
     ·rename_i g hg
      cases ht : (tag == some g)
      ·rw [ht] at h; cases h
      ·rw [ht] at h; simp only [cond_true, Option.some.injEq, Prod.mk.injEq] at h; rw [← h.1]; exact hp
   ·cases h
  ·rw [hL] at h
   simp only [cond_true, Option.some.injEq, Prod.mk.injEq] at h
   rw [← h.1]; exact hL
 | _ => simp [place] at h
theorem bind_congr {α β : Type} {x : Option α} {f g : α → Option β} (h : ∀ a, x = some a → f a = g a) : x.bind f = x.bind g := by cases x with | none => rfl | some a => exact h a rfl
theorem capU_congr {x : AV} {σ : Heap} {f g : Nat → Heap → Option R} (h : ∀ n σ, f n σ = g n σ) : A.capU x σ f = A.capU x σ g := by
 have : f = g := funext fun n => funext fun σ => h n σ
 rw [this]
theorem nextA_congr {x : AV} {σ : Heap} {f g : AV → Heap → Option R} (h : ∀ v σ, f v σ = g v σ) : A.nextA x σ f = A.nextA x σ g := by
 have : f = g := funext fun n => funext fun σ => h n σ
 rw [this]
theorem next_congr {q str : Bool} {i : Operand} {dst : Option Nat} {k k2 : AS → Option R} (h : ∀ s', Fr X dst.toList s s' → k s' = k2 s') :
  (bif q || str then none else A.nextA (ev X s i) s.σ fun v σ => k ((s.heap σ).put X dst v)) = (bif q || str then none else A.nextA (ev X s i) s.σ fun v σ => k2 ((s.heap σ).put X dst v)) := by
 cases (q || str)
 ·simp only [cond_false]
  exact nextA_congr fun _ _ => h _ (Fr.heapPut _ _ _ _)
 ·rfl
theorem opA_congr {q : Bool} {o : Oper} {k k2 : AS → Option R} (h : ∀ s', Fr X o.dst.toList s s' → k s' = k2 s') : opA X q o s k = opA X q o s k2 := by
 unfold opA
 cases hp : opP X o s none with
 | some p => obtain ⟨b, rr⟩ := p; exact bind_congr fun p _ => h _ (Fr.adr _ _ _ _ _)
 | none =>
  simp only
  have dflt : ((opV X o s none).bind fun v => k (s.put X o.dst v)) = (opV X o s none).bind fun v => k2 (s.put X o.dst v) := bind_congr fun v _ => h _ (Fr.put _ _ _)
  obtain ⟨dst, op, ty, pos, af, g⟩ := o
  cases op <;> simp only <;> first | exact next_congr h | exact dflt | skip
  case alloc t =>
   cases dst with
   | none => rfl
   | some d =>
    simp only
    cases X.L.contains d
    ·simp only [cond_false]
     cases X.O.contains d
     ·exact dflt
     ·simp only [cond_true]; split
      ·exact h _ (Fr.heapPut _ _ _ _)
      ·rfl
    ·simp only [cond_true]; split
     ·exact h _ (Fr.newBox _ _ _)
     ·rfl
  case box t x =>
   cases dst with
   | none => rfl
   | some d =>
    simp only
    cases X.L.contains d
    ·simp only [cond_false]
     cases X.O.contains d
     ·exact dflt
     ·exact bind_congr fun cs _ => h _ (Fr.heapPut _ _ _ _)
    ·exact bind_congr fun cs _ => h _ (Fr.newBox _ _ _)
  case store t x v =>
   split
   ·rename_i b off hpl
    exact bind_congr fun _ _ => bind_congr fun _ _ => bind_congr fun _ _ => h _ (Fr.boxPut _ _ _ _ (place_L hpl) _)
   ·exact bind_congr fun _ _ => bind_congr fun _ _ => h _ (Fr.heapPut _ _ _ _)
  case makeMap t rr =>
   cases rr with
   | none => exact h _ (Fr.heapPut _ _ _ _)
   | some x => rfl
  case range t x =>
   split
   ·exact bind_congr fun _ _ => h _ (Fr.heapPut _ _ _ _)
   ·rfl
  case buildSlice t n ps =>
   cases dst with
   | none => exact dflt
   | some d =>
    simp only
    cases X.O.contains d
    ·exact dflt
    ·simp only [cond_true]
     refine bind_congr fun v _ => ?_
     unfold A.litK
     split
     ·cases (List.length _ == 0)
      ·exact h _ (Fr.heapPut _ _ _ _)
      ·rfl
     ·rfl
  case mapUpdate t m i v =>
   split
   ·split
    ·exact bind_congr fun _ _ => h _ (Fr.heapPut _ _ _ _)
    ·rfl
   ·rfl
  case call c =>
   split
   ·split
    ·split
     ·split
      ·cases zeroBad _
       ·exact bind_congr fun _ _ => h _ (Fr.heapPut _ _ _ _)
       ·rfl
      ·rfl
     ·split
      ·cases zeroBad _
       ·exact bind_congr fun _ _ => h _ (Fr.heapPut _ _ _ _)
       ·rfl
      ·rfl
     ·rfl
    ·rfl
   ·split
    ·split
     ·split
      ·cases zeroBad _
       ·exact bind_congr fun _ _ => h _ (Fr.heapPut _ _ _ _)
       ·rfl
      ·rfl
     ·rfl
    ·rfl
   ·cases hv : opV X _ s none
    ·simp only [A.capM]
     cases q
     ·simp only [cond_false]
      split
      ·split
       ·exact capU_congr fun _ _ => h _ (Fr.heapPut _ _ _ _)
       ·rfl
      ·rfl
     ·rfl
    ·exact h _ (Fr.put _ _ _)
   ·split
    ·split
     ·split
      ·cases zeroBad _
       ·exact bind_congr fun _ _ => h _ (Fr.heapPut _ _ _ _)
       ·rfl
      ·rfl
     ·rfl
    ·rfl
   ·split
    ·split
     ·split
      ·exact bind_congr fun _ _ => h _ (Fr.heapPut _ _ _ _)
      ·rfl
     ·rfl
    ·rfl
   ·exact dflt
   ·cases (q && !X.W.contains _)
    ·exact bind_congr fun _ _ => h _ (Fr.heapPut _ _ _ _)
    ·exact dflt
   ·cases q
    ·exact bind_congr fun _ _ => h _ (Fr.heapPut _ _ _ _)
    ·exact dflt
   ·rfl
theorem opG_congr {q : Bool} {ops : Array Oper} {o : Oper} {k k2 : AS → Option R} (h : ∀ s', Fr X o.dst.toList s s' → k s' = k2 s') : opG X q ops o s k = opG X q ops o s k2 := by
 unfold opG
 split
 ·exact opA_congr h
 ·split
  ·cases guardBad X o _
   ·simp only [cond_false]
    split
    ·exact bind_congr fun _ _ => h _ (Fr.heapPut _ _ _ _)
    ·split
     ·exact bind_congr fun _ _ => h _ (Fr.adr _ _ _ _ _)
     ·exact bind_congr fun _ _ => h _ (Fr.put _ _ _)
   ·rfl
  ·rfl
theorem opG_wp' (hs : Snd X) (h : St X z s a w E pb) {q : Bool} {ops : Array Oper} {i : Nat} {o : Oper} (hi : ops[i]? = some o) {k : AS → Option R} {r : R} (hk : opG X q ops o s k = some r) {K : Act → World → Prop} {Q : Exit → Act → World → Prop}
  (hK : ∀ s' a' w' E' pb', St X z s' a' w' E' pb' → Fr X o.dst.toList s s' → k s' = some r → K a' w') : wpOp X.P ops Q i K a w := by
 classical
 have e : opG X q ops o s k = opG X q ops o s (fun s' => if Fr X o.dst.toList s s' then k s' else none) := opG_congr fun s' hf => by rw [if_pos hf]
 rw [e] at hk
 refine opG_wp hs h hi hk fun s' a' w' E' pb' h' hk' => ?_
 split at hk'
 ·exact hK s' a' w' E' pb' h' (by assumption) hk'
 ·cases hk'
theorem opsA_wp (hs : Snd X) {q : Bool} {ops : Array Oper} {Q : Exit → Act → World → Prop} {r : R} {k : AS → Option R} {s0 : AS} :
  ∀ (l : List Oper) (i : Nat) (s : AS) (a : Act) (w : World) (E : List Pl) (pb : Nat → Option Nat), (∀ j, l[j]? = ops[i + j]?) → St X z s a w E pb → opsA X q ops l s k = some r →
   (∀ s' a' w' E' pb', St X z s' a' w' E' pb' → Fr X (l.filterMap (·.dst)) s s' → k s' = some r → Q .normal a' w') → wpOps X.P ops Q (List.range' i l.length) a w
 | [], i, s, a, w, E, pb, _, h, hk, hQ => by simpa [wpOps] using hQ _ _ _ _ _ h (Fr.refl _ _) hk
 | o :: l, i, s, a, w, E, pb, hl, h, hk, hQ => by
  have h0 := hl 0
  simp at h0
  simp only [List.length_cons, List.range'_succ]
  rw [wpOps_cons]
  refine opG_wp' hs h h0.symm hk fun s' a' w' E' pb' h' hf hk' => ?_
  refine opsA_wp hs (s0 := s0) l (i + 1) s' a' w' E' pb' (fun j => by have := hl (j + 1); simp at this; rw [this]; congr 1; omega) h' hk' fun s2 a2 w2 E2 pb2 h2 hf2 hk2 => hQ s2 a2 w2 E2 pb2 h2 ((hf.trans hf2).mono ?_) hk2
  intro j hj
  rw [List.filterMap_cons]
  cases hd : o.dst with
  | none => rw [hd] at hj; simpa using hj
  | some d => rw [hd] at hj; simpa using hj
theorem opG_wpR (hs : Snd X) {Rt : List (Nat × Nat)} {Bt : List Nat} (h : St X z s a w E pb) (hI : RI X Rt Bt s) {ops : Array Oper} {i : Nat} {o : Oper} (hR : Rok X Rt Bt o) (hi : ops[i]? = some o) {k : AS → Option R} {r : R} (hk : opG X true ops o s k = some r) {K : Act → World → Prop} {Q : Exit → Act → World → Prop}
  (hK : ∀ s' a' w' E' pb', St X z s' a' w' E' pb' → Fr X o.dst.toList s s' → RI X Rt Bt s' → k s' = some r → K a' w') : wpOp X.P ops Q i K a w := by
 classical
 have e : opG X true ops o s (fun s' => if RI X Rt Bt s' then k s' else none) = some r := by
  obtain ⟨u, h1, h2, h3⟩ := opG_up hR hI hk
  rw [h3 R _ s (fun tag _ => ⟨hI, hI, fun _ _ _ => rfl, fun _ _ => rfl, fun _ _ => rfl, fun _ _ => rfl, fun _ _ => box_refl _⟩), if_pos (h1.ri hI)]
  exact h2
 refine opG_wp' hs h hi e fun s' a' w' E' pb' h' hf hk' => ?_
 split at hk'
 ·exact hK s' a' w' E' pb' h' hf (by assumption) hk'
 ·cases hk'
theorem draw_any (hs : Snd X) {Rt : List (Nat × Nat)} {Bt : List Nat} {ops : Array Oper} {Q : Exit → Act → World → Prop} {r : R} {k : AS → Option R} {s0 : AS} (hback : ∀ n o e, ops[n]? = some o → e ∈ o.after → Region.binds .any e = true → e.on < n)
  (hpair : ∀ n o m y, ops[n]? = some o → m < n → ops[m]? = some y → (∀ S, Down ops S → Deps ops n S → S m) ∨ Ind X Rt Bt ops y o) (hRok : ∀ (n : Nat) (o : Oper), ops[n]? = some o → Rok X Rt Bt o)
  (hQ : ∀ s' a' w' E' pb', St X z s' a' w' E' pb' → Fr X (ops.toList.filterMap (·.dst)) s0 s' → k s' = some r → Q .normal a' w') :
  ∀ (fuel : Nat) (listed : Array Bool) (s : AS) (a : Act) (w : World) (E : List Pl) (pb : Nat → Option Nat), listed.size = ops.size → (remI listed ops.size).length ≤ fuel → Down ops (fun i => listed.getD i true = true) → St X z s a w E pb → RI X Rt Bt s → opsA X true ops (remO ops listed) s k = some r → Fr X (ops.toList.filterMap (·.dst)) s0 s →
   wpAny X.P .any ops Q fuel listed a w := by
 have hnone : ∀ (listed : Array Bool), remI listed ops.size = [] → Region.ready .any ops listed = [] := by
  intro listed h
  unfold Region.ready
  rw [List.filter_eq_nil_iff]
  intro i hi hr
  simp only [Bool.and_eq_true] at hr
  have : i ∈ remI listed ops.size := List.mem_filter.2 ⟨hi, hr.1⟩
  rw [h] at this; simp at this
 have hsome : ∀ (listed : Array Bool), listed.size = ops.size → Region.ready .any ops listed = [] → remI listed ops.size = [] := by
  intro listed hsz hr
  cases hrem : remI listed ops.size with
  | nil => rfl
  | cons i0 tl =>
   exfalso
   have hm : i0 ∈ remI listed ops.size := by rw [hrem]; simp
   obtain ⟨h1, h2⟩ := List.mem_filter.1 hm
   have hlt : i0 < ops.size := by simpa using h1
   have hpw : (remI listed ops.size).Pairwise (· < ·) := List.Pairwise.filter _ List.pairwise_lt_range
   rw [hrem, List.pairwise_cons] at hpw
   have hall : ∀ j, j < i0 → listed.getD j true = true := by
    intro j hj
    cases hc : listed.getD j true with
    | true => rfl
    | false =>
     have : j ∈ remI listed ops.size := List.mem_filter.2 ⟨by simp; omega, by simp [hc]⟩
     rw [hrem] at this
     rcases List.mem_cons.1 this with e | e
     ·omega
     ·have := hpw.1 j e; omega
   have : i0 ∈ Region.ready .any ops listed := by
    unfold Region.ready
    refine List.mem_filter.2 ⟨h1, ?_⟩
    rw [Bool.and_eq_true]
    refine ⟨h2, ?_⟩
    rw [Array.getElem?_eq_getElem hlt]
    simp only [Option.map_some, Option.getD_some]
    rw [Array.all_eq_true_iff_forall_mem]
    intro e he
    cases hb : Region.binds .any e with
    | false => rfl
    | true =>
     have hon := hback i0 _ e (Array.getElem?_eq_getElem hlt) he hb
     have := hall e.on hon
     rw [Array.getD_eq_getD_getElem?, Array.getElem?_eq_getElem (by omega)] at this
     simp only [Option.getD_some] at this
     rw [Array.getD_eq_getD_getElem?, Array.getElem?_eq_getElem (by omega)]
     simp [this]
   rw [hr] at this; simp at this
 intro fuel
 induction fuel with
 | zero =>
  intro listed s a w E pb hsz hle hdn h hI hk hf
  have hrem : remI listed ops.size = [] := List.eq_nil_of_length_eq_zero (by omega)
  refine ⟨hnone listed hrem, hQ s a w E pb h hf ?_⟩
  simpa [remO, hrem, opsA] using hk
 | succ fuel ih =>
  intro listed s a w E pb hsz hle hdn h hI hk hf
  refine ⟨fun hr => hQ s a w E pb h hf (by simpa [remO, hsome listed hsz hr, opsA] using hk), fun i hi => ?_⟩
  unfold Region.ready at hi
  obtain ⟨h1, h2⟩ := List.mem_filter.1 hi
  rw [Bool.and_eq_true] at h2
  obtain ⟨h2, h3⟩ := h2
  have hlt : i < ops.size := by simpa using h1
  have hun : listed.getD i true = false := by simpa using h2
  have ho : ops[i]? = some ops[i] := Array.getElem?_eq_getElem hlt
  have hdeps : Deps ops i (fun j => listed.getD j true = true) := by
   intro o e hoo he hb
   rw [hoo] at h3
   simp only [Option.map_some, Option.getD_some] at h3
   rw [Array.all_eq_true_iff_forall_mem] at h3
   have h4 := h3 e he
   rw [hb] at h4
   simp only [Bool.not_true, Bool.false_or] at h4
   have hon := hback i o e hoo he hb
   rw [Array.getD_eq_getD_getElem?, Array.getElem?_eq_getElem (by omega)] at h4
   simp only [Option.getD_some] at h4
   show listed.getD e.on true = true
   rw [Array.getD_eq_getD_getElem?, Array.getElem?_eq_getElem (by omega)]
   simpa using h4
  obtain ⟨l1, l2, e1, e2, e3⟩ := remI_split hlt hun hsz
  have hrem : remO ops listed = l1.filterMap (ops[·]?) ++ ops[i] :: l2.filterMap (ops[·]?) := by
   unfold remO; rw [e1, List.filterMap_append, List.filterMap_cons, ho]
  have hrem2 : remO ops (listed.setIfInBounds i true) = l1.filterMap (ops[·]?) ++ l2.filterMap (ops[·]?) := by
   unfold remO; rw [e2, List.filterMap_append]
  rw [hrem] at hk
  have hrok : ∀ y ∈ l1.filterMap (ops[·]?), Rok X Rt Bt y := by
   intro y hy
   obtain ⟨j, hj, hjy⟩ := List.mem_filterMap.1 hy
   exact hRok j y hjy
  have hind : ∀ y ∈ l1.filterMap (ops[·]?), Ind X Rt Bt ops y ops[i] := by
   intro y hy
   obtain ⟨j, hj, hjy⟩ := List.mem_filterMap.1 hy
   obtain ⟨j1, j2⟩ := e3 j hj
   rcases hpair i ops[i] j y ho j1 hjy with k1 | k1
   ·have := k1 _ hdn hdeps
    rw [j2] at this; cases this
   ·exact k1
  have hfirst := ops_first (hRok i _ ho) _ _ s hI hrok hind hk
  refine opG_wpR hs h hI (hRok i _ ho) ho hfirst fun s' a' w' E' pb' h' hf' hI' hk' => ?_
  rw [← hrem2] at hk'
  refine ih _ s' a' w' E' pb' (by simpa using hsz) ?_ ?_ h' hI' hk' ((hf.trans hf').mono ?_)
  ·rw [e2]; rw [e1] at hle; simp at hle ⊢; omega
  ·intro j o e hj hoj he hb
   by_cases hji : j = i
   ·subst hji
    have := hdeps o e hoj he hb
    show (listed.setIfInBounds j true).getD e.on true = true
    have hon := hback j o e hoj he hb
    rw [Array.getD_eq_getD_getElem?, Array.getElem?_setIfInBounds_ne (by omega), ← Array.getD_eq_getD_getElem?]; exact this
   ·have hj' : listed.getD j true = true := by
     replace hj : (listed.setIfInBounds i true).getD j true = true := hj
     rw [Array.getD_eq_getD_getElem?, Array.getElem?_setIfInBounds_ne (fun e => hji e.symm), ← Array.getD_eq_getD_getElem?] at hj; exact hj
    have := hdn j o e hj' hoj he hb
    show (listed.setIfInBounds i true).getD e.on true = true
    by_cases hei : e.on = i
    ·rw [hei]; simp [Array.getD, hsz, hlt]
    ·rw [Array.getD_eq_getD_getElem?, Array.getElem?_setIfInBounds_ne (fun e' => hei e'.symm), ← Array.getD_eq_getD_getElem?]; exact this
  ·intro d hd
   rcases List.mem_append.1 hd with hd | hd
   ·exact hd
   ·refine List.mem_filterMap.2 ⟨ops[i], by simp, ?_⟩
    cases hdd : ops[i].dst with
    | none => rw [hdd] at hd; simp at hd
    | some d' => rw [hdd] at hd; simp at hd; rw [hd]
theorem lookup_mem {t b : Nat} : ∀ {l : List (Nat × Nat)}, l.lookup t = some b → (t, b) ∈ l
 | [], h => by cases h
 | (t', b') :: l, h => by
  simp only [List.lookup] at h
  cases hc : (t == t')
  ·rw [hc] at h; exact List.mem_cons_of_mem _ (lookup_mem h)
  ·rw [hc] at h
   simp only [Option.some.injEq] at h
   have : t = t' := by simpa using hc
   subst this; subst h
   exact List.mem_cons_self
theorem draw_wp (hs : Snd X) {ops : Array Oper} {Q : Exit → Act → World → Prop} {r : R} {k : AS → Option R} (hok : regionOk X ops s.sl = true) (hA : ∀ t, s.A t = none) (hQ : ∀ s' a' w' E' pb', St X z s' a' w' E' pb' → Fr X (ops.toList.filterMap (·.dst)) s s' → k s' = some r → Q .normal a' w') {id : Nat}
  (h : St X z s a w E pb) (hk : opsA X true ops ops.toList s k = some r) : (Code.region id ops true).wp X.P Q a w := by
 obtain ⟨Rt, Bt, hok⟩ : ∃ Rt Bt, regionOk' X Rt Bt ops s.sl = true := by
  unfold regionOk at hok
  rcases Bool.or_eq_true_iff.1 hok with h | h
  ·exact ⟨_, _, h⟩
  ·exact ⟨_, _, h⟩
 unfold regionOk' at hok
 simp only [Bool.and_eq_true] at hok
 obtain ⟨⟨⟨⟨⟨⟨⟨h1, h2⟩, h3⟩, h4⟩, h5⟩, h6⟩, h7⟩, h8⟩ := hok
 have hI : RI X Rt Bt s := by
  refine ⟨fun t b hl => ?_, fun t p hp => (by rw [hA t] at hp; cases hp), fun t b hl _ => ?_, fun t ht => List.all_eq_true.1 h8 t (by simpa using ht)⟩
  ·have := List.all_eq_true.1 h6 (t, b) (lookup_mem hl)
   exact this
  ·have := List.all_eq_true.1 h5 (t, b) (lookup_mem hl)
   exact this
 have hlist : ∀ j, ops.toList[j]? = ops[0 + j]? := fun j => by simp
 have hrem : remI (Array.replicate ops.size false) ops.size = List.range ops.size := by
  unfold remI
  rw [List.filter_eq_self]
  intro i hi
  have : i < ops.size := by simpa using hi
  simp [Array.getD, this]
 have hremO : remO ops (Array.replicate ops.size false) = ops.toList := by
  unfold remO
  rw [hrem]
  have gen : ∀ (l pre : List Oper), (List.range' pre.length l.length).filterMap (fun i => (pre ++ l)[i]?) = l := by
   intro l
   induction l with
   | nil => intro pre; rfl
   | cons x l ih =>
    intro pre
    simp only [List.length_cons, List.range'_succ, List.filterMap_cons]
    rw [List.getElem?_append_right (Nat.le_refl _)]
    simp only [Nat.sub_self, List.getElem?_cons_zero]
    have := ih (pre ++ [x])
    simp only [List.length_append, List.length_cons, List.length_nil, Nat.zero_add, List.append_assoc, List.cons_append, List.nil_append] at this
    rw [this]
  have := gen ops.toList []
  rw [List.range_eq_range']
  simpa using this
 refine wp_region_any h1 (draw_any (s0 := s) hs (fun n o e ho he hb => back_spec ops.toList 0 hlist h2 n o e (Nat.zero_le _) ho he hb) (fun n o m y ho hm hy => ?_) (fun n o ho => Rok.of (List.all_eq_true.1 h4 o (by have := Array.mem_of_getElem? ho; simpa using this)) (List.all_eq_true.1 h7 o (by have := Array.mem_of_getElem? ho; simpa using this))) hQ ops.size _ s a _ E pb (by simp) (by rw [hrem]; simp) ?_ (h.grow (w' := w.drew) ((Below.refl _ _).drew)) hI (by rw [hremO]; exact hk) (Fr.refl _ _))
 ·rcases pairs_spec ops.toList 0 hlist h3 n o (Nat.zero_le _) ho m y hm hy with k1 | k1
  ·left
   exact fun S hS hD => anc_spec ops.toList [] (fun i => by simp) (fun m j h => by simp at h) n m k1 S hS hD
  ·exact .inr (indep_ind k1)
 ·intro i o e hi ho he hb
  have hlt : i < ops.size := (Array.getElem?_eq_some_iff.1 ho).1
  exfalso
  simp [Array.getD, hlt] at hi
theorem St.noA (h : St X z s a w E pb) : St X z ⟨s.sl, fun _ => none, s.σ⟩ a w E pb :=
 ⟨h.len, h.lenN, h.slot, h.box, (fun t p hp => by cases hp), h.priv, h.inj, h.heap, h.defers, h.out, h.nm⟩
def AX.to : AX → Exit
 | .normal => .normal
 | .exit i => .exit i
 | .ret => .ret
theorem clearAll_get : ∀ (ds : List Nat) (sl : List AV) (i : Nat), (clearAll sl ds).length = sl.length ∧ ((clearAll sl ds)[i]? = sl[i]? ∨ (clearAll sl ds)[i]? = some .undef) ∧ (i ∉ ds → (clearAll sl ds)[i]? = sl[i]?) ∧ (i ∈ ds → i < sl.length → (clearAll sl ds)[i]? = some .undef)
 | [], sl, i => ⟨rfl, .inl rfl, fun _ => rfl, fun h => by simp at h⟩
 | d :: ds, sl, i => by
  obtain ⟨h1, h2, h3, h4⟩ := clearAll_get ds (sl.set d .undef) i
  simp only [clearAll]
  have hset : (sl.set d .undef)[i]? = if d = i then (if i < sl.length then some .undef else none) else sl[i]? := by
   rw [List.getElem?_set]; by_cases e : d = i
   ·subst e; simp
   ·simp [e]
  have hnone : ¬ i < sl.length → sl[i]? = none := fun k => List.getElem?_eq_none (by omega)
  refine ⟨by rw [h1]; simp, ?_, fun hi => ?_, fun hi hl => ?_⟩
  ·rcases h2 with h2 | h2
   ·rw [h2, hset]
    by_cases e : d = i
    ·rw [if_pos e]; split
     ·exact .inr rfl
     ·rename_i k; rw [hnone k]; exact .inl rfl
    ·rw [if_neg e]; exact .inl rfl
   ·exact .inr h2
  ·simp only [List.mem_cons, not_or] at hi
   rw [h3 hi.2, hset, if_neg (fun e => hi.1 e.symm)]
  ·by_cases hm : i ∈ ds
   ·exact h4 hm (by simpa using hl)
   ·simp only [List.mem_cons] at hi
    have : i = d := hi.resolve_right hm
    rw [h3 hm, hset, if_pos this.symm, if_pos hl]
theorem setAll_get (vs : List AV) : ∀ (live : List Nat) (j : Nat) (sl : List AV) (i : Nat), (setAll vs sl live j).length = sl.length ∧ (i ∉ live → (setAll vs sl live j)[i]? = sl[i]?) ∧ (i ∈ live → i < sl.length → ∃ n, n < live.length ∧ live[n]? = some i ∧ (setAll vs sl live j)[i]? = some (vs.getD (j + n) .undef))
 | [], j, sl, i => ⟨rfl, fun _ => rfl, fun h => by simp at h⟩
 | d :: live, j, sl, i => by
  obtain ⟨h1, h2, h3⟩ := setAll_get vs live (j + 1) (sl.set d (vs.getD j .undef)) i
  simp only [setAll]
  refine ⟨by rw [h1]; simp, fun hi => ?_, fun hi hl => ?_⟩
  ·simp only [List.mem_cons, not_or] at hi
   rw [h2 hi.2, List.getElem?_set, if_neg (fun e => hi.1 e.symm)]
  ·by_cases hm : i ∈ live
   ·obtain ⟨n, k1, k2, k3⟩ := h3 hm (by simpa using hl)
    exact ⟨n + 1, by simp; omega, by simpa using k2, by rw [k3]; congr 2; omega⟩
   ·simp only [List.mem_cons] at hi
    have : i = d := hi.resolve_right hm
    subst this
    exact ⟨0, by simp, rfl, by rw [h2 hm, List.getElem?_set]; simp [hl]⟩
theorem St.meet {s s' : AS} (h : St X z s' a w E pb) {mods live : List Nat} (hl : s.sl.length = s'.sl.length) (hf : ∀ i, i ∉ mods → s'.sl[i]? = s.sl[i]?) : St X z (s.meet mods live (vals s'.sl live) s'.σ) a w E pb := by
 have hget : ∀ i : Nat, (s.meet mods live (vals s'.sl live) s'.σ).sl[i]? = s'.sl[i]? ∨ (s.meet mods live (vals s'.sl live) s'.σ).sl[i]? = some AV.undef := by
  intro i
  simp only [AS.meet]
  obtain ⟨c1, c2, c3, c4⟩ := clearAll_get mods s.sl i
  obtain ⟨m1, m2, m3⟩ := setAll_get (vals s'.sl live) live 0 (clearAll s.sl mods) i
  by_cases hm : i ∈ live
  ·by_cases hlt : i < s.sl.length
   ·obtain ⟨n, k1, k2, k3⟩ := m3 hm (by rw [c1]; exact hlt)
    left
    rw [k3, Nat.zero_add]
    have : (vals s'.sl live).getD n .undef = s'.sl.getD i .undef := by
     simp only [vals, List.getD, List.getElem?_map, k2]; rfl
    rw [this, List.getElem?_eq_getElem (by omega)]
    simp [List.getD, show i < s'.sl.length by omega]
   ·left
    rw [List.getElem?_eq_none (by rw [m1, c1]; omega), List.getElem?_eq_none (by omega)]
  ·rw [m2 hm]
   by_cases hd : i ∈ mods
   ·by_cases hlt : i < s.sl.length
    ·exact .inr (c4 hd hlt)
    ·left; rw [List.getElem?_eq_none (by rw [c1]; omega), List.getElem?_eq_none (by omega)]
   ·left; rw [c3 hd, hf i hd]
 have hlen : (s.meet mods live (vals s'.sl live) s'.σ).sl.length = s'.sl.length := by
  simp only [AS.meet]
  rw [(setAll_get (vals s'.sl live) live 0 (clearAll s.sl mods) 0).1, (clearAll_get mods s.sl 0).1]; exact hl
 refine ⟨by rw [h.len, hlen], by rw [hlen, h.lenN], fun i av hi => ?_, fun i cs hi => ?_, (fun t p hp => by cases hp), h.priv, h.inj, h.heap, h.defers, h.out, h.nm⟩
 ·rcases hget i with e | e
  ·rw [e] at hi; exact h.slot i av hi
  ·rw [e] at hi; injection hi with hi; subst hi; trivial
 ·rcases hget i with e | e
  ·rw [e] at hi; exact h.box i cs hi
  ·rw [e] at hi; cases hi
end
end Go.Proofs.YtfalbgflabajbaaDoor

namespace Go.Proofs.YtfalbgflabajbaaDoor
set_option linter.unusedSectionVars false
open Go.RowKit
set_option linter.unusedVariables false
set_option linter.unusedSimpArgs false
section
variable {X : Fx} {z : Z}
theorem force_eq {R : Type} : ∀ (l : List AV) (k : List AV → Option R), force l k = k l
 | [], k => rfl
 | x :: l, k => by simp only [force]; rw [force_eq l]
theorem opsF_eq {R : Type} {q : Bool} {ops : Array Oper} : ∀ (l : List Oper) (s : AS) (k : AS → Option R), opsF X q ops l s k = opsA X q ops l s k
 | [], s, k => rfl
 | o :: l, s, k => by
  simp only [opsF, opsA]
  congr 1; funext s
  rw [force_eq]; exact opsF_eq l _ k
theorem cond_some {α : Type} {c : AV} {t e : Option α} {r : α} (h : A.cond c t e = some r) : (c = .bool true ∧ t = some r) ∨ (c = .bool false ∧ e = some r) := by
 cases c <;> simp only [A.cond] at h <;> first | (cases h; done) | skip
 rename_i b
 cases b
 ·exact .inr ⟨rfl, h⟩
 ·exact .inl ⟨rfl, h⟩
theorem loop_iter {f : List AV → Heap → Option (AX × List AV × Heap)} {v : List AV} {σ : Heap} {r : AX × List AV × Heap} (h : A.loop f v σ = some r) : ∃ n, A.iter f n v σ = some r := by
 unfold A.loop at h
 split at h
 ·rename_i hx
  injection h with h
  exact ⟨_, h ▸ Classical.choose_spec (Classical.choose_spec hx)⟩
 ·cases h
theorem loopC_iter {R : Type} {f : List AV → Heap → (AX × List AV × Heap → Option R) → Option R} {v : List AV} {σ : Heap} {K : AX × List AV × Heap → Option R} {r : R} (h : A.loopC f v σ K = some r) : ∃ n, A.iterC f n v σ K = some r := by
 unfold A.loopC at h
 split at h
 ·rename_i hx
  injection h with h
  obtain ⟨n, hn⟩ := Classical.choose_spec hx
  exact ⟨n, h ▸ hn n (Nat.le_refl _)⟩
 ·cases h
theorem sel_some {R : Type} {e : AX} {k : AX → Option R} {r : R} : ∀ {xs : List AX}, A.sel e k xs = some r → k e = some r
 | [], h => by cases h
 | x :: xs, h => by
  simp only [A.sel] at h
  cases he : (e == x)
  ·rw [he] at h; exact sel_some h
  ·rw [he] at h
   have : e = x := by simpa using he
   subst this; exact h
theorem fr_mods {X : Fx} {c : Code} {ds : List Nat} {s s' : AS} (h : Fr X ds s s') : ∀ i, i ∉ ds ++ X.L → s'.sl[i]? = s.sl[i]? := fun i hi => by
 rw [List.mem_append] at hi
 exact h i (fun e => hi (.inl e)) (by
  cases hc : X.L.contains i
  ·rfl
  ·exact absurd (List.contains_iff_mem.1 hc) (fun e => hi (.inr e)))
theorem meet_fr {X : Fx} {s : AS} {ds live : List Nat} {vs : List AV} {σ : Heap} (hl : (live.all fun d => (ds ++ X.L).contains d) = true) : Fr X ds s (s.meet (ds ++ X.L) live vs σ) := fun i hi hL => by
 have hni : i ∉ ds ++ X.L := by
  rw [List.mem_append]; rintro (e | e)
  ·exact hi e
  ·rw [List.contains_iff_mem.2 e] at hL; cases hL
 simp only [AS.meet]
 rw [(setAll_get vs live 0 (clearAll s.sl (ds ++ X.L)) i).2.1 (fun e => hni ?_), (clearAll_get (ds ++ X.L) s.sl i).2.2.1 hni]
 exact List.contains_iff_mem.1 (List.all_eq_true.1 hl i e)
theorem leaveN_some {live : List Nat} {e : AX} {s : AS} {r : List AV × Heap} (h : leaveN live e s = some r) : e = .normal ∧ r = (vals s.sl live, s.σ) := by
 cases e <;> simp only [leaveN] at h <;> first | (cases h; done) | (injection h with h; exact ⟨rfl, h.symm⟩)
theorem loop_wp {P : Program} {c : Code} {Q : Exit → Act → World → Prop} (I : Nat → Act → World → Prop) (round : ∀ n a w, I n a w → c.wp P (Exit.then (fun a' w' => ∃ m, m < n ∧ I m a' w') Q) a w) {n : Nat} {a : Act} {w : World} (h : I n a w) : (Code.loop c).wp P Q a w := by
 intro b k cs
 have key : ∀ n a w, I n a w → ∃ e a' w', Q e a' w' ∧ Arrives P (lone (b.at a (.code c :: .inLoop c :: k)) cs w) b k cs e a' w' := by
  intro n
  induction n using Nat.strongRecOn with
  | _ n ih =>
   intro a w hI
   obtain ⟨e, a1, w1, hq, harr⟩ := round n a w hI b (.inLoop c :: k) cs
   cases e with
   | normal =>
    obtain ⟨m, hlt, hm⟩ := hq
    obtain ⟨e2, a2, w2, hq2, harr2⟩ := ih m hlt a1 w1 hm
    exact ⟨e2, a2, w2, hq2, .of_steps (Steps.trans harr (.one step_inLoop)) harr2⟩
   | exit id => exact ⟨_, a1, w1, hq, .pass (x := .inLoop c) rfl (fun _ _ => .inl (by simp)) harr⟩
   | goto l => exact ⟨_, a1, w1, hq, .pass (x := .inLoop c) rfl (fun _ _ => .inl (by simp)) harr⟩
   | ret => exact ⟨_, a1, w1, hq, .pass (x := .inLoop c) rfl (fun _ _ => .inl (by simp)) harr⟩
   | panic ch => exact ⟨_, a1, w1, hq, .pass (x := .inLoop c) rfl (fun _ _ => .inl (by simp)) harr⟩
   | outgrown => exact ⟨_, a1, w1, hq, .pass (x := .inLoop c) rfl (fun _ _ => .inl (by simp)) harr⟩
 obtain ⟨e, a', w', hq, harr⟩ := key n a w h
 exact ⟨e, a', w', hq, .of_steps (.one step_loop) harr⟩
theorem exec_wp (hs : Snd X) : ∀ (c : Code) {R : Type} (ann : Ann) (s : AS) (a : Act) (w : World) (E : List Pl) (pb : Nat → Option Nat) (k : AX → AS → Option R) (r : R) (Q : Exit → Act → World → Prop), exec X ann c s k = some r → St X z s a w E pb →
  (∀ e s' a' w' E' pb', St X z s' a' w' E' pb' → Fr X (dsts c) s s' → k e s' = some r → Q e.to a' w') → c.wp X.P Q a w
 | .skip, R, ann, s, a, w, E, pb, k, r, Q, hk, h, hQ => by
  have hk' : k .normal s = some r := by cases ann <;> simpa [exec] using hk
  exact wp_skip (hQ .normal s a w E pb h (Fr.refl _ _) hk')
 | .label l, R, ann, s, a, w, E, pb, k, r, Q, hk, h, hQ => by
  have hk' : k .normal s = some r := by cases ann <;> simpa [exec] using hk
  exact wp_label (hQ .normal s a w E pb h (Fr.refl _ _) hk')
 | .exit id, R, ann, s, a, w, E, pb, k, r, Q, hk, h, hQ => by
  have hk' : k (.exit id) s = some r := by cases ann <;> simpa [exec] using hk
  exact wp_exit (hQ (.exit id) s a w E pb h (Fr.refl _ _) hk')
 | .ret, R, ann, s, a, w, E, pb, k, r, Q, hk, h, hQ => by
  have hk' : k .ret s = some r := by cases ann <;> simpa [exec] using hk
  exact wp_ret (hQ .ret s a w E pb h (Fr.refl _ _) hk')
 | .region id ops draw, R, ann, s, a, w, E, pb, k, r, Q, hk, h, hQ => by
  have hk' : (bif draw then (bif regionOk X ops s.sl then opsA X true ops ops.toList ⟨s.sl, fun _ => none, s.σ⟩ fun s => k .normal ⟨s.sl, fun _ => none, s.σ⟩ else none) else opsA X false ops ops.toList s fun s => k .normal ⟨s.sl, fun _ => none, s.σ⟩) = some r := by
   cases ann <;> simpa [exec, force_eq, opsF_eq] using hk
  cases draw
  ·simp only [cond_false] at hk'
   refine wp_region ?_
   have := opsA_wp (z := z) (Q := Q) (s0 := s) hs ops.toList 0 s a w E pb (fun j => by simp) h hk' (fun s' a' w' E' pb' h' hf hk2 => hQ .normal _ a' w' E' pb' h'.noA (fun i hi hL => hf i (by simpa [dsts] using hi) hL) hk2)
   rw [List.range_eq_range']
   simpa using this
  ·simp only [cond_true] at hk'
   cases hok : regionOk X ops s.sl
   ·rw [hok] at hk'; cases hk'
   ·rw [hok] at hk'
    simp only [cond_true] at hk'
    exact draw_wp (s := ⟨s.sl, fun _ => none, s.σ⟩) hs hok (fun _ => rfl) (fun s' a' w' E' pb' h' hf hk2 => hQ .normal _ a' w' E' pb' h'.noA (fun i hi hL => hf i (by simpa [dsts] using hi) hL) hk2) h.noA hk'
 | .seq x y, R, ann, s, a, w, E, pb, k, r, Q, hk, h, hQ => by
  cases ann <;> simp only [exec] at hk <;> first | (cases hk; done) | skip
  rename_i aa bb
  refine wp_seq (exec_wp hs x aa s a w E pb _ r _ hk h fun e s' a' w' E' pb' h' hf hk' => ?_)
  cases e with
  | normal => exact exec_wp hs y bb s' a' w' E' pb' k r Q hk' h' fun e2 s2 a2 w2 E2 pb2 h2 hf2 hk2 => hQ e2 s2 a2 w2 E2 pb2 h2 (by simpa [dsts] using hf.trans hf2) hk2
  | exit i => exact hQ (.exit i) s' a' w' E' pb' h' (hf.mono fun i hi => by simp [dsts, hi]) hk'
  | ret => exact hQ .ret s' a' w' E' pb' h' (hf.mono fun i hi => by simp [dsts, hi]) hk'
 | .cond c x y, R, ann, s, a, w, E, pb, k, r, Q, hk, h, hQ => by
  have rc := ev_rep h c
  cases ann <;> simp only [exec, force_eq] at hk <;> first | (cases hk; done) | skip
  case c live aa bb =>
   cases hl : (live.all fun d => (dsts x ++ dsts y ++ X.L).contains d)
   ·rw [hl] at hk; cases hk
   ·rw [hl] at hk
    simp only [Bool.not_true, cond_false] at hk
    obtain ⟨⟨vs, σ'⟩, h1, h2⟩ := Option.bind_eq_some_iff.1 hk
    rcases cond_some h1 with ⟨ec, hb⟩ | ⟨ec, hb⟩
    ·rw [ec] at rc; simp only [Rep] at rc
     refine wp_cond_true rc (exec_wp hs x aa s a w E pb _ _ Q hb h fun e s' a' w' E' pb' h' hf hk' => ?_)
     obtain ⟨rfl, hv⟩ := leaveN_some hk'
     simp only [Prod.mk.injEq] at hv
     obtain ⟨rfl, rfl⟩ := hv
     have hf2 : Fr X (dsts x ++ dsts y) s s' := hf.mono fun i hi => by simp [hi]
     exact hQ .normal _ a' w' E' pb' (h'.meet (by rw [h.lenN, h'.lenN]) (fr_mods (c := x) hf2)) (by simpa [dsts] using meet_fr (X := X) hl) h2
    ·rw [ec] at rc; simp only [Rep] at rc
     refine wp_cond_false rc (exec_wp hs y bb s a w E pb _ _ Q hb h fun e s' a' w' E' pb' h' hf hk' => ?_)
     obtain ⟨rfl, hv⟩ := leaveN_some hk'
     simp only [Prod.mk.injEq] at hv
     obtain ⟨rfl, rfl⟩ := hv
     have hf2 : Fr X (dsts x ++ dsts y) s s' := hf.mono fun i hi => by simp [hi]
     exact hQ .normal _ a' w' E' pb' (h'.meet (by rw [h.lenN, h'.lenN]) (fr_mods (c := x) hf2)) (by simpa [dsts] using meet_fr (X := X) hl) h2
  case j aa bb =>
   rcases cond_some hk with ⟨ec, hb⟩ | ⟨ec, hb⟩
   ·rw [ec] at rc; simp only [Rep] at rc
    exact wp_cond_true rc (exec_wp hs x aa s a w E pb k r Q hb h fun e s' a' w' E' pb' h' hf hk' => hQ e s' a' w' E' pb' h' (hf.mono fun i hi => by simp [dsts, hi]) hk')
   ·rw [ec] at rc; simp only [Rep] at rc
    exact wp_cond_false rc (exec_wp hs y bb s a w E pb k r Q hb h fun e s' a' w' E' pb' h' hf hk' => hQ e s' a' w' E' pb' h' (hf.mono fun i hi => by simp [dsts, hi]) hk')
 | .block id c, R, ann, s, a, w, E, pb, k, r, Q, hk, h, hQ => by
  cases ann <;> simp only [exec] at hk <;> first | (cases hk; done) | skip
  rename_i aa
  refine wp_block (exec_wp hs c aa s a w E pb _ r _ hk h fun e s' a' w' E' pb' h' hf hk' => ?_)
  cases e with
  | normal => exact hQ .normal s' a' w' E' pb' h' (by simpa [dsts] using hf) hk'
  | ret => exact hQ .ret s' a' w' E' pb' h' (by simpa [dsts] using hf) hk'
  | exit i =>
   simp only [AX.to, Exit.inBlock]
   simp only at hk'
   by_cases e : i = id
   ·have : (i == id) = true := by simpa using e
    rw [this] at hk'
    rw [if_pos e]
    exact hQ .normal s' a' w' E' pb' h' (by simpa [dsts] using hf) hk'
   ·have : (i == id) = false := by simpa using e
    rw [this] at hk'
    rw [if_neg e]
    exact hQ (.exit i) s' a' w' E' pb' h' (by simpa [dsts] using hf) hk'
 | .loop c, R, ann, s, a, w, E, pb, k, r, Q, hk, h, hQ => by
  cases ann <;> simp only [exec, force_eq] at hk <;> first | (cases hk; done) | skip
  case lc live xs aa =>
   cases hl : (live.all fun d => (dsts c ++ X.L).contains d)
   ·rw [hl] at hk; cases hk
   ·rw [hl] at hk
    simp only [Bool.not_true, cond_false] at hk
    obtain ⟨n, hn⟩ := loopC_iter hk
    refine loop_wp (fun n a w => ∃ vs σ E pb, A.iterC (fun vs σ K => exec X aa c (s.meet (dsts c ++ X.L) live vs σ) fun e s' => K (e, vals s'.sl live, s'.σ)) n vs σ (fun r => A.sel r.1 (fun e => k e (s.meet (dsts c ++ X.L) live r.2.1 r.2.2)) xs) = some r ∧ St X z (s.meet (dsts c ++ X.L) live vs σ) a w E pb) ?_ (n := n) ⟨_, _, E, pb, hn, h.meet rfl (fun i _ => rfl)⟩
    rintro n a w ⟨vs, σ, E, pb, hit, hst⟩
    cases n with
    | zero => cases hit
    | succ n =>
     simp only [A.iterC] at hit
     refine exec_wp hs c aa _ a w E pb _ _ _ hit hst fun e s' a' w' E' pb' h' hf hk' => ?_
     have hfr : ∀ i, i ∉ dsts c ++ X.L → s'.sl[i]? = s.sl[i]? := fun i hi => by
      rw [fr_mods (c := c) hf i hi]
      exact fr_mods (c := c) (meet_fr (X := X) (s := s) (vs := vs) (σ := σ) hl) i hi
     have hst2 := h'.meet (s := s) (mods := dsts c ++ X.L) (live := live) (by rw [h.lenN, h'.lenN]) hfr
     cases e with
     | normal => exact ⟨n, Nat.lt_succ_self n, _, _, E', pb', hk', hst2⟩
     | exit i => exact hQ (.exit i) _ a' w' E' pb' hst2 (by simpa [dsts] using meet_fr (X := X) hl) (sel_some hk')
     | ret => exact hQ .ret _ a' w' E' pb' hst2 (by simpa [dsts] using meet_fr (X := X) hl) (sel_some hk')
  rename_i live xs aa
  cases hl : (live.all fun d => (dsts c ++ X.L).contains d)
  ·rw [hl] at hk; cases hk
  ·rw [hl] at hk
   simp only [Bool.not_true, cond_false] at hk
   obtain ⟨⟨e0, vs0, σ0⟩, h1, h2⟩ := Option.bind_eq_some_iff.1 hk
   have hsel := sel_some h2
   obtain ⟨n, hn⟩ := loop_iter h1
   refine loop_wp (fun n a w => ∃ vs σ E pb, A.iter (fun vs σ => exec X aa c (s.meet (dsts c ++ X.L) live vs σ) (leave live)) n vs σ = some (e0, vs0, σ0) ∧ St X z (s.meet (dsts c ++ X.L) live vs σ) a w E pb) ?_ (n := n) ⟨_, _, E, pb, hn, h.meet rfl (fun i _ => rfl)⟩
   rintro n a w ⟨vs, σ, E, pb, hit, hst⟩
   cases n with
   | zero => cases hit
   | succ n =>
    simp only [A.iter] at hit
    obtain ⟨⟨e1, vs1, σ1⟩, g1, g2⟩ := Option.bind_eq_some_iff.1 hit
    refine exec_wp hs c aa _ a w E pb _ _ _ g1 hst fun e s' a' w' E' pb' h' hf hk' => ?_
    simp only [leave, Option.some.injEq, Prod.mk.injEq] at hk'
    obtain ⟨rfl, rfl, rfl⟩ := hk'
    have hfr : ∀ i, i ∉ dsts c ++ X.L → s'.sl[i]? = s.sl[i]? := fun i hi => by
     rw [fr_mods (c := c) hf i hi]
     exact fr_mods (c := c) (meet_fr (X := X) (s := s) (vs := vs) (σ := σ) hl) i hi
    have hst2 := h'.meet (s := s) (mods := dsts c ++ X.L) (live := live) (by rw [h.lenN, h'.lenN]) hfr
    cases e with
    | normal => exact ⟨n, Nat.lt_succ_self n, _, _, E', pb', g2, hst2⟩
    | exit i =>
     simp only [Option.some.injEq, Prod.mk.injEq] at g2
     obtain ⟨rfl, rfl, rfl⟩ := g2
     exact hQ (.exit i) _ a' w' E' pb' hst2 (by simpa [dsts] using meet_fr (X := X) hl) hsel
    | ret =>
     simp only [Option.some.injEq, Prod.mk.injEq] at g2
     obtain ⟨rfl, rfl, rfl⟩ := g2
     exact hQ .ret _ a' w' E' pb' hst2 (by simpa [dsts] using meet_fr (X := X) hl) hsel
 | .rangeFunc .., R, ann, s, a, w, E, pb, k, r, Q, hk, h, hQ => by cases ann <;> simp [exec] at hk
 | .scope _, R, ann, s, a, w, E, pb, k, r, Q, hk, h, hQ => by cases ann <;> simp [exec] at hk
 | .goto _, R, ann, s, a, w, E, pb, k, r, Q, hk, h, hQ => by cases ann <;> simp [exec] at hk
 | .refuse _, R, ann, s, a, w, E, pb, k, r, Q, hk, h, hQ => by cases ann <;> simp [exec] at hk
end
end Go.Proofs.YtfalbgflabajbaaDoor

