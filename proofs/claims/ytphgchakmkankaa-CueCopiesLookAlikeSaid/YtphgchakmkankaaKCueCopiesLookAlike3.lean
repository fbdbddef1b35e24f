/- Parts of the proof of CueCopiesLookAlike, in order. -/
import Derived.Orders
import Derived.Below
import Derived.WalkKit
import Derived.Laws.StructEq
import Derived.Laws.Append
import Derived.Laws.AppendOwn
import Derived.Test.YtphgchakmkankaaRows
import Derived.KernelRfl
import Derived.Lib.Bytealg
import Derived.Sort.Defs
import Derived.Lib.BitFns
import Derived.Test.YtphgchakmkankaaShelf
import Derived.Lib.Overlaps
import Derived.IntWalk
import Derived.Sort.Statements
import Derived.Shelf.SlSortCmp.WholeK
import Derived.Shelf.SlSortCmp.NoneTotal
import Derived.Sort.AssemblyPlain
import Derived.Test.YtphgchakmkankaaKCueCopiesLookAlike2
namespace Go.Proofs.Ytphgchakmkankaa
set_option linter.unusedSectionVars false
open Go.RowKit
set_option linter.unusedVariables false
set_option linter.unusedSimpArgs false

inductive Sh where
 | k
 | s (sz : Nat)
 | e (sz : Nat) (l : List Sh)
 | a (l : List Sh)
 | t (l : List Sh)
namespace A
set_option linter.unusedSectionVars false
mutual
def nn : Sh → AV → AV
 | .k, v => v
 | .s sz, v => match v with | .nsl => .sl sz [] | .ez => .sl sz [] | v => v
 | .e sz l, v => match v with | .nsl => .sl sz [] | .ez => .sl sz [] | .sl sz' es => .sl sz' (es.map (nnL l)) | v => v
 | .a l, v => match v with | .agg cs => .agg (nnL l cs) | v => v
 | .t l, v => match v with | .tup vs => .tup (nnL l vs) | v => v
def nnL : List Sh → List AV → List AV
 | [], vs => vs
 | s :: ss, vs => match vs with | [] => [] | v :: vs => nn s v :: nnL ss vs
end
def own1 : AV → Bool
 | .os .. => true
 | .op .. => true
 | .oe .. => true
 | .om .. => true
 | _ => false
def own : AV → Bool
 | .agg cs => cs.any own1
 | v => own1 v
def scal1 : AV → Bool
 | .int .. => true
 | .bool .. => true
 | .str .. => true
 | .np => true
 | .nsl => true
 | .ez => true
 | .nm => true
 | .nfn => true
 | .sl _ [] => true
 | _ => false
def scal2 : AV → Bool
 | .agg cs => cs.all scal1
 | v => scal1 v
def scal : AV → Bool
 | .tup vs => vs.all scal2
 | v => scal2 v
def fresh (v : AV) : Bool := match v with
 | .os .. => true
 | .om _ => true
 | v => scal2 v
def freshT : AV → Bool
 | .tup vs => vs.all fresh
 | v => fresh v
def freshB : Blk → Bool
 | .box cs => cs.all scal1
 | .arr _ _ es => es.all fun e => e.all scal1
 | .map es => es.all fun p => scal2 p.1 && scal2 p.2
 | _ => false
def shift (n : Nat) (v : AV) : AV := match v with
 | .os id g sz off len => .os (id + n) g sz off len
 | .om id => .om (id + n)
 | v => v
def shiftT (n : Nat) : AV → AV
 | .tup vs => .tup (vs.map (shift n))
 | v => shift n v
noncomputable def wrap (ro : Bool) (ain : List Sh) (rout : Sh) (r : List AV → Heap → Option (AV × Heap)) (args : List AV) (σ : Heap) : Option (AV × Heap) :=
 bif ro && args.any own then
  (frzL σ 0 8 args).bind fun args => (r (nnL ain args) []).bind fun q => bif freshT (nn rout q.1) && q.2.all freshB then some (shiftT σ.length (nn rout q.1), σ ++ q.2) else none
 else (r (nnL ain args) σ).map fun q => (nn rout q.1, q.2)
noncomputable def finC (sh : Sh) (m : List AV → Heap → Option (AV × Heap)) (args : List AV) (σ : Heap) : Option (AV × Heap) := (m args σ).bind fun p => (fin σ p.1 p.2).map fun q => (nn sh q.1, q.2)
noncomputable def cloneZ (m : List AV → Heap → Option (AV × Heap)) (args : List AV) (σ : Heap) : Option (AV × Heap) := match args with
 | [.sl _ []] => some (.ez, σ)
 | [.nsl] => some (.ez, σ)
 | [.ez] => some (.ez, σ)
 | [.os _ _ _ _ 0] => some (.ez, σ)
 | _ => m args σ
end A

def Sound (P : Program) (nm : List Nat) (f : FuncId) (m : List AV → Heap → Option (AV × Heap)) : Prop := ∀ args σ r σ', m args σ = some (r, σ') → ACalls P nm f args σ r σ'
section
variable {P : Program} {nm : List Nat} {f : FuncId} {c c' : RC}
theorem nsl_sl {v : Value} (sz : Nat) (hsz : 0 < sz) (h : Rep c .nsl v) : Rep c (.sl sz []) v := by
 simp only [Rep] at h ⊢
 subst h
 exact ⟨none, 0, rfl, Nat.le_refl _, hsz, .inl trivial⟩
theorem ez_sl {v : Value} (sz : Nat) (hsz : 0 < sz) (h : Rep c .ez v) : Rep c (.sl sz []) v := by
 simp only [Rep] at h ⊢
 obtain ⟨a, rfl⟩ := h
 exact ⟨a, 0, rfl, Nat.le_refl _, hsz, .inl trivial⟩
mutual
def Sh.ok : Sh → Bool
 | .k => true
 | .s sz => Nat.blt 0 sz
 | .e sz l => Nat.blt 0 sz && Sh.okL l
 | .a l => Sh.okL l
 | .t l => Sh.okL l
def Sh.okL : List Sh → Bool
 | [] => true
 | x :: l => x.ok && Sh.okL l
end
theorem nnL_len : ∀ (l : List Sh) (cs : List AV), (A.nnL l cs).length = cs.length
 | [], cs => by simp [A.nnL]
 | _ :: _, [] => by simp [A.nnL]
 | o :: l, v :: cs => by simp [A.nnL, nnL_len l cs]
mutual
theorem nn_rep : ∀ (s : Sh) (a : AV) (v : Value), s.ok = true → Rep c a v → Rep c (A.nn s a) v
 | .k, a, v, _, h => by simpa [A.nn] using h
 | .s sz, a, v, ho, h => by
  cases a <;> simp only [A.nn] <;> first | exact h | exact nsl_sl sz (by simpa [Sh.ok] using ho) h | exact ez_sl sz (by simpa [Sh.ok] using ho) h
 | .e sz l, a, v, ho, h => by
  simp only [Sh.ok, Bool.and_eq_true] at ho
  cases a <;> simp only [A.nn] <;> first | exact h | exact nsl_sl sz (by simpa using ho.1) h | exact ez_sl sz (by simpa using ho.1) h | skip
  simp only [Rep] at h ⊢
  obtain ⟨a, cap, e, h1, h2, h3⟩ := h
  refine ⟨a, cap, by rw [List.length_map]; exact e, by rw [List.length_map]; exact h1, h2, ?_⟩
  rcases h3 with h3 | ⟨b, off, e1, e2, e3, e4⟩
  ·left; rw [h3]; rfl
  ·right; exact ⟨b, off, e1, e2, e3, nnL_es l ho.2 _ _ e4⟩
 | .a l, a, v, ho, h => by
  simp only [Sh.ok] at ho
  cases a <;> simp only [A.nn] <;> first | exact h | skip
  simp only [Rep] at h ⊢
  obtain ⟨vs, e, h1, h2⟩ := h
  exact ⟨vs, e, nnL_rep l _ _ ho h1, h2⟩
 | .t ss, a, v, ho, h => by
  simp only [Sh.ok] at ho
  cases a <;> simp only [A.nn] <;> first | exact h | skip
  simp only [Rep] at h ⊢
  obtain ⟨vs, e, h1⟩ := h
  exact ⟨vs, e, nnL_rep ss _ _ ho h1⟩
theorem nnL_rep : ∀ (ss : List Sh) (l : List AV) (vs : List Value), Sh.okL ss = true → RepL c l vs → RepL c (A.nnL ss l) vs
 | [], l, vs, _, h => by simpa [A.nnL] using h
 | _ :: _, [], vs, _, h => by simpa [A.nnL] using h
 | s :: ss, a :: l, vs, ho, h => by
  simp only [Sh.okL, Bool.and_eq_true] at ho
  simp only [A.nnL, RepL] at h ⊢
  obtain ⟨v, vs', e, h1, h2⟩ := h
  exact ⟨v, vs', e, nn_rep s a v ho.1 h1, nnL_rep ss l vs' ho.2 h2⟩
theorem nnL_cs {b : Nat} : ∀ (l : List Sh) (cs : List AV) (off : Nat), Sh.okL l = true → RepCs c b off cs → RepCs c b off (A.nnL l cs)
 | [], cs, off, _, h => by simpa [A.nnL] using h
 | _ :: _, [], off, _, h => by simpa [A.nnL] using h
 | o :: l, a :: cs, off, ho, h => by
  simp only [Sh.okL, Bool.and_eq_true] at ho
  simp only [A.nnL, RepCs] at h ⊢
  obtain ⟨⟨v, h1, h2, h3⟩, h4⟩ := h
  exact ⟨⟨v, h1, h2, nn_rep o a v ho.1 h3⟩, nnL_cs l cs (off + 1) ho.2 h4⟩
theorem nnL_es {sz b : Nat} (l : List Sh) (hl : Sh.okL l = true) : ∀ (es : List (List AV)) (off : Nat), RepEs c sz b off es → RepEs c sz b off (es.map (A.nnL l))
 | [], off, h => by simp [RepEs]
 | e :: es, off, h => by
  simp only [List.map_cons, RepEs] at h ⊢
  exact ⟨by rw [nnL_len]; exact h.1, nnL_cs l e off hl h.2.1, nnL_es l hl es _ h.2.2⟩
end
theorem scal1_rep : ∀ {a : AV} {v : Value}, A.scal1 a = true → Rep c a v → Rep c' a v := by
 intro a v h r
 cases a <;> simp only [A.scal1] at h <;> first | (cases h; done) | skip
 case sl sz es =>
  cases es with
  | nil =>
   simp only [Rep] at r ⊢
   obtain ⟨q, cap, e, h1, h2, _⟩ := r
   exact ⟨q, cap, e, h1, h2, .inl trivial⟩
  | cons _ _ => simp at h
 all_goals simpa [Rep] using r
theorem scal1L_rep : ∀ {l : List AV} {vs : List Value}, l.all A.scal1 = true → RepL c l vs → RepL c' l vs
 | [], vs, _, r => by simpa [RepL] using r
 | a :: l, vs, h, r => by
  simp only [List.all_cons, Bool.and_eq_true] at h
  simp only [RepL] at r ⊢
  obtain ⟨v, vs', e, h1, h2⟩ := r
  exact ⟨v, vs', e, scal1_rep h.1 h1, scal1L_rep h.2 h2⟩
theorem scal2_rep {a : AV} {v : Value} (h : A.scal2 a = true) (r : Rep c a v) : Rep c' a v := by
 unfold A.scal2 at h
 split at h
 ·simp only [Rep] at r ⊢
  obtain ⟨vs, e, h1, h2⟩ := r
  exact ⟨vs, e, scal1L_rep h h1, h2⟩
 ·exact scal1_rep h r
theorem ACalls.conv {args args' : List AV} {σ σ' : Heap} {r r' : AV} (h : ACalls P nm f args' σ r σ') (ha : ∀ c vs, RepL c args vs → RepL c args' vs) (hr : ∀ c v, Rep c r v → Rep c r' v) : ACalls P nm f args σ r' σ' := by
 rcases h with ⟨g, h1, h2⟩ | h
 ·refine .inl ⟨g, h1, fun z vs e1 e2 e3 e4 => (h2 z vs e1 e2 e3 (ha _ _ e4)).mono ?_⟩
  rintro e w' ⟨v, E', k1, k2, k3, k4⟩
  exact ⟨v, E', k1, k2, k3, hr _ _ k4⟩
 ·refine .inr fun z vs e1 e2 e3 e4 => ?_
  obtain ⟨v, w', E', k1, k2, k3, k4⟩ := h z vs e1 e2 e3 (ha _ _ e4)
  exact ⟨v, w', E', k1, k2, k3, hr _ _ k4⟩
theorem shift_rep {z0 z : Z} {w' : World} {E' : List Pl} {n : Nat} (hn : n = z.E.length) {a : AV} {v : Value} (h : A.fresh a = true) (r : Rep (ctx z0 w' E' nopb) a v) : Rep (ctx z w' (z.E ++ E') nopb) (A.shift n a) v := by
 have key : ∀ (id : Nat) (p : Pl), E'[id]? = some p → (z.E ++ E')[id + n]? = some p := fun id p hp => by
  rw [List.getElem?_append_right (by omega), hn, Nat.add_sub_cancel]; exact hp
 unfold A.fresh at h
 unfold A.shift
 split at h
 ·simp only [Rep] at r ⊢
  obtain ⟨hg, p, h1, h2, r⟩ := r
  exact ⟨hg, p, key _ _ h1, h2, r⟩
 ·simp only [Rep] at r ⊢
  obtain ⟨p, h1, h2, r⟩ := r
  exact ⟨p, key _ _ h1, h2, r⟩
 ·exact scal2_rep h r
theorem shiftT_rep' {z0 z : Z} {w' : World} {E' : List Pl} {n : Nat} (hn : n = z.E.length) {vs : List AV} {v : Value} (h : vs.all A.fresh = true) (r : Rep (ctx z0 w' E' nopb) (.tup vs) v) : Rep (ctx z w' (z.E ++ E') nopb) (A.shiftT n (.tup vs)) v := by
 simp only [Rep, A.shiftT] at r ⊢
 obtain ⟨us, rfl, r⟩ := r
 refine ⟨us, rfl, ?_⟩
 generalize us.toList = us' at r ⊢
 induction vs generalizing us' with
 | nil => simpa [RepL] using r
 | cons x l ih =>
  simp only [List.all_cons, Bool.and_eq_true] at h
  simp only [RepL, List.map_cons] at r ⊢
  obtain ⟨v, vs', e, h1, h2⟩ := r
  exact ⟨v, vs', e, shift_rep hn h.1 h1, ih h.2 _ h2⟩
theorem shiftT_rep {z0 z : Z} {w' : World} {E' : List Pl} {n : Nat} (hn : n = z.E.length) {a : AV} {v : Value} (h : A.freshT a = true) (r : Rep (ctx z0 w' E' nopb) a v) : Rep (ctx z w' (z.E ++ E') nopb) (A.shiftT n a) v := by
 by_cases ht : ∃ vs, a = .tup vs
 ·obtain ⟨vs, rfl⟩ := ht
  exact shiftT_rep' hn h r
 ·have e1 : A.freshT a = A.fresh a := by cases a <;> first | rfl | exact absurd ⟨_, rfl⟩ ht
  have e2 : A.shiftT n a = A.shift n a := by cases a <;> first | rfl | exact absurd ⟨_, rfl⟩ ht
  rw [e1] at h
  rw [e2]
  exact shift_rep hn h r
theorem scal1Cs_rep {b : Nat} : ∀ {l : List AV} {off : Nat}, l.all A.scal1 = true → c'.w = c.w → RepCs c b off l → RepCs c' b off l
 | [], off, _, _, _ => by simp [RepCs]
 | a :: l, off, h, hw, r => by
  simp only [List.all_cons, Bool.and_eq_true] at h
  simp only [RepCs] at r ⊢
  obtain ⟨⟨v, h1, h2, h3⟩, h4⟩ := r
  exact ⟨⟨v, by rw [hw]; exact h1, h2, scal1_rep h.1 h3⟩, scal1Cs_rep h.2 hw h4⟩
theorem scal1Es_rep {sz b : Nat} : ∀ {l : List (List AV)} {off : Nat}, (l.all fun e => e.all A.scal1) = true → c'.w = c.w → RepEs c sz b off l → RepEs c' sz b off l
 | [], off, _, _, _ => by simp [RepEs]
 | a :: l, off, h, hw, r => by
  simp only [List.all_cons, Bool.and_eq_true] at h
  simp only [RepEs] at r ⊢
  obtain ⟨h1, h2, h3⟩ := r
  exact ⟨h1, scal1Cs_rep h.1 hw h2, scal1Es_rep h.2 hw h3⟩
theorem scal2M_rep : ∀ {l : List (AV × AV)} {es : List MapEntry}, (l.all fun p => A.scal2 p.1 && A.scal2 p.2) = true → RepM c l es → RepM c' l es
 | [], es, _, r => by simpa [RepM] using r
 | (k, v) :: l, es, h, r => by
  simp only [List.all_cons, Bool.and_eq_true] at h
  simp only [RepM] at r ⊢
  obtain ⟨e, es', h1, h2, h3, h4⟩ := r
  exact ⟨e, es', h1, scal2_rep h.1.1 h2, scal2_rep h.1.2 h3, scal2M_rep h.2 h4⟩
theorem freshB_rep {p : Pl} {x : Blk} (h : A.freshB x = true) (hw : c'.w = c.w) (r : BlkAt c p x) : BlkAt c' p x := by
 cases x with
 | box cs =>
  obtain ⟨h1, ⟨⟨arr, t, h2, h3⟩, h4⟩⟩ := r
  exact ⟨h1, ⟨arr, t, by rw [hw]; exact h2, h3⟩, scal1Cs_rep h hw h4⟩
 | arr g sz es =>
  obtain ⟨h1, h2, h3, h4, ⟨arr, t, h5, h6⟩, h7, h8, h9⟩ := r
  exact ⟨h1, h2, h3, h4, ⟨arr, t, by rw [hw]; exact h5, h6⟩, h7, scal1Es_rep h hw h8, fun arr t fz e => h9 arr t fz (by rw [← hw]; exact e)⟩
 | map es =>
  obtain ⟨h1, ents, clock, h2, hwf, h3⟩ := r
  exact ⟨h1, ents, clock, by rw [hw]; exact h2, hwf, scal2M_rep h h3⟩
 | arrF g sz es => cases h
 | it cur left => cases h
theorem lent_out {z : Z} {σ σ' : Heap} {r : AV} {v : Value} {w' : World} {E' : List Pl} (e2 : ∀ b, z.X b → b < z.w.heap.size) (hh : HeapRel (ctx z z.w z.E nopb) σ) (hv : A.freshT r = true) (hb : σ'.all A.freshB = true)
  (k2 : Out ⟨z.w, [], fun _ => False, z.nm⟩ w' E') (k3 : HeapRel (ctx ⟨z.w, [], fun _ => False, z.nm⟩ w' E' nopb) σ') (k4 : Rep (ctx ⟨z.w, [], fun _ => False, z.nm⟩ w' E' nopb) r v) :
  ∃ E'', Out z w' E'' ∧ HeapRel (ctx z w' E'' nopb) (σ ++ σ') ∧ Rep (ctx z w' E'' nopb) (A.shiftT σ.length r) v := by
 have hlen : z.E.length = σ.length := hh.len
 have hlen' : E'.length = σ'.length := k3.len
 have hst : ∀ b, b < z.w.heap.size → w'.heap[b]? = z.w.heap[b]? := fun b hb => k2.stay b hb (fun p hp => by cases hp)
 have hlt : ∀ p ∈ z.E, p.b < z.w.heap.size := fun p hp => hh.lt hp
 have hfr : ∀ p ∈ E', z.w.heap.size ≤ p.b := fun p hp => by
  rcases k2.fresh p hp with k | ⟨q, hq, _⟩
  ·exact k
  ·cases hq
 have hx : Ext (ctx z z.w z.E nopb) (ctx z w' (z.E ++ E') nopb) := by
  refine ⟨k2.size, fun b hb hn => ⟨hst b hb, ?_⟩, fun i p hp => ⟨p, ?_, .inl rfl⟩, rfl⟩
  ·rintro (k | ⟨p, hp, k⟩ | ⟨i, k⟩)
   ·exact hn (.inl k)
   ·rcases List.mem_append.1 hp with hp | hp
    ·exact hn (.inr (.inl ⟨p, hp, k⟩))
    ·have := hfr p hp; simp only [ctx] at hb; omega
   ·cases k
  ·simp only [ctx] at hp ⊢
   rw [List.getElem?_append_left (List.getElem?_eq_some_iff.1 hp).1]; exact hp
 have key : ∀ (i : Nat) (p : Pl), (z.E ++ E')[i]? = some p → (i < z.E.length ∧ z.E[i]? = some p) ∨ (z.E.length ≤ i ∧ E'[i - z.E.length]? = some p) := fun i p hp => by
  by_cases hi : i < z.E.length
  ·rw [List.getElem?_append_left hi] at hp; exact .inl ⟨hi, hp⟩
  ·rw [List.getElem?_append_right (by omega)] at hp; exact .inr ⟨by omega, hp⟩
 refine ⟨z.E ++ E', ⟨k2.os, k2.tape, k2.output, k2.size, fun b hb _ => hst b hb, fun i p hp => ?_, fun i p hp => ⟨p, ?_, .inl rfl⟩, e2, hlt⟩, ⟨by simp [ctx, hlen, hlen'], fun i j p q hp hq e => ?_, fun i p x hp hxx => ?_⟩, shiftT_rep hlen.symm hv k4⟩
 ·rcases key i p hp with ⟨_, k⟩ | ⟨_, k⟩
  ·exact .inr ⟨p, k, rfl⟩
  ·exact .inl (hfr p (List.mem_of_getElem? k))
 ·rw [List.getElem?_append_left (List.getElem?_eq_some_iff.1 hp).1]; exact hp
 ·simp only [ctx] at hp hq
  rcases key i p hp with ⟨i1, k⟩ | ⟨i1, k⟩ <;> rcases key j q hq with ⟨j1, m⟩ | ⟨j1, m⟩
  ·exact hh.inj i j p q k m e
  ·have := hlt p (List.mem_of_getElem? k); have := hfr q (List.mem_of_getElem? m); omega
  ·have := hlt q (List.mem_of_getElem? m); have := hfr p (List.mem_of_getElem? k); omega
  ·have := k3.inj _ _ p q k m e; omega
 ·simp only [ctx] at hp
  rcases key i p hp with ⟨i1, k⟩ | ⟨i1, k⟩
  ·rw [List.getElem?_append_left (by omega)] at hxx
   exact (hh.blk i p x k hxx).mono hx (hst _ (hlt p (List.mem_of_getElem? k)))
  ·rw [List.getElem?_append_right (by omega), ← hlen] at hxx
   exact freshB_rep (c := ctx ⟨z.w, [], fun _ => False, z.nm⟩ w' E' nopb) (List.all_eq_true.1 hb x (List.mem_of_getElem? hxx)) rfl (k3.blk _ p x k hxx)
theorem ACalls.lent {args args' : List AV} {σ σ' : Heap} {r : AV} (h : ACalls P nm f args' [] r σ') (ha : A.frzL σ 0 8 args = some args') (hv : A.freshT r = true) (hb : σ'.all A.freshB = true) : ACalls P nm f args σ (A.shiftT σ.length r) (σ ++ σ') := by
 have hX : ∀ (z : Z) b, ¬ (ctx ⟨z.w, [], fun _ => False, z.nm⟩ z.w [] nopb).X b := by
  rintro z b (k | ⟨p, hp, _⟩ | ⟨i, k⟩)
  ·exact k.elim
  ·cases hp
  ·cases k
 have hcold : ∀ (z : Z), HeapRel (ctx z z.w z.E nopb) σ → Cold (ctx z z.w z.E nopb) (ctx ⟨z.w, [], fun _ => False, z.nm⟩ z.w [] nopb) σ 0 := fun z hh =>
  ⟨rfl, rfl, fun b k => (hX z b k).elim, fun id p k => absurd k (Nat.not_lt_zero _), hh, fun id p _ _ => hX z _⟩
 have h0 : ∀ (z : Z), HeapRel (ctx ⟨z.w, [], fun _ => False, z.nm⟩ z.w [] nopb) [] := fun z => by
  refine ⟨rfl, fun i j p q hp => ?_, fun i p x hp => ?_⟩
  ·simp [ctx] at hp
  ·simp [ctx] at hp
 rcases h with ⟨g, h1, h2⟩ | h2
 ·refine .inl ⟨g, h1, fun z vs e1 e2 hh e4 => ?_⟩
  have ha' : RepL (ctx ⟨z.w, [], fun _ => False, z.nm⟩ z.w [] nopb) args' vs.toList := frzL_rep (hcold z hh) 8 (fun av av' v _ e r => frz_all (hcold z hh) 8 _ _ _ e r) _ _ _ ha e4
  refine (h2 ⟨z.w, [], fun _ => False, z.nm⟩ vs e1 (fun b k => k.elim) (h0 z) ha').mono ?_
  rintro e w' ⟨v, E', k1, k2, k3, k4⟩
  obtain ⟨E'', q1, q2, q3⟩ := lent_out e2 hh hv hb k2 k3 k4
  exact ⟨v, E'', k1, q1, q2, q3⟩
 ·refine .inr fun z vs e1 e2 hh e4 => ?_
  have ha' : RepL (ctx ⟨z.w, [], fun _ => False, z.nm⟩ z.w [] nopb) args' vs.toList := frzL_rep (hcold z hh) 8 (fun av av' v _ e r => frz_all (hcold z hh) 8 _ _ _ e r) _ _ _ ha e4
  obtain ⟨v, w', E', k1, k2, k3, k4⟩ := h2 ⟨z.w, [], fun _ => False, z.nm⟩ vs e1 (fun b k => k.elim) (h0 z) ha'
  obtain ⟨E'', q1, q2, q3⟩ := lent_out e2 hh hv hb k2 k3 k4
  exact ⟨v, w', E'', k1, q1, q2, q3⟩
theorem fin_out {z : Z} {w' : World} {E' : List Pl} {σ σ1 σ' : Heap} {x r : AV} {v : Value} (hh : HeapRel (ctx z z.w z.E nopb) σ) (hlt : ∀ b, z.X b → b < z.w.heap.size) (ho : Out z w' E') (hr : HeapRel (ctx z w' E' nopb) σ1) (rv : Rep (ctx z w' E' nopb) x v) (k3 : A.fin σ x σ1 = some (r, σ')) :
  ∃ E'', Out z w' E'' ∧ HeapRel (ctx z w' E'' nopb) σ' ∧ Rep (ctx z w' E'' nopb) r v := by
 unfold A.fin at k3
 split at k3
 ·rename_i he
  simp only [Option.some.injEq, Prod.mk.injEq] at k3
  obtain ⟨rfl, rfl⟩ := k3
  exact ⟨E', ho, by rw [← he]; exact hr, rv⟩
 ·split at k3
  ·rename_i he
   obtain ⟨r', k6, k7⟩ := Option.map_eq_some_iff.1 k3
   simp only [Prod.mk.injEq] at k7
   obtain ⟨rfl, rfl⟩ := k7
   have hlen := hr.len
   simp only [ctx] at hlen
   have hzl : z.E.length = σ.length := hh.len
   have hle2 : σ.length ≤ σ1.length := by
    have := congrArg List.length he
    simp at this; omega
   have htk : ∀ (id : Nat) (p : Pl), id < σ.length → E'[id]? = some p → (E'.take σ.length)[id]? = some p := fun id p hlt' hp => by rw [List.getElem?_take_of_lt hlt']; exact hp
   have htk2 : ∀ (id : Nat) (p : Pl), (E'.take σ.length)[id]? = some p → id < σ.length ∧ E'[id]? = some p := fun id p hp => by
    rw [List.getElem?_take] at hp
    split at hp
    ·exact ⟨by assumption, hp⟩
    ·cases hp
   have hcold : Cold (ctx z w' E' nopb) (ctx z w' (E'.take σ.length) nopb) σ1 σ.length := by
    refine ⟨rfl, rfl, fun b k => ?_, htk, hr, fun id p hge hp k => ?_⟩
    ·rcases k with k | ⟨p, hp, k⟩ | ⟨i, k⟩
     ·exact .inl k
     ·exact .inr (.inl ⟨p, List.mem_of_mem_take hp, k⟩)
     ·cases k
    ·rcases k with k | ⟨q, hq, k⟩ | ⟨i, k⟩
     ·have hb := hlt _ k
      rcases ho.fresh' id p hp with e | ⟨q, hq, _⟩
      ·omega
      ·rw [List.getElem?_eq_none (by omega)] at hq; cases hq
     ·obtain ⟨j, hj, rfl⟩ := List.mem_iff_getElem.1 hq
      obtain ⟨h1, h2⟩ := htk2 j _ (List.getElem?_eq_getElem hj)
      have := hr.inj j id _ p h2 hp k
      omega
     ·cases k
   have heq : ∀ (id : Nat), id < σ.length → σ[id]? = σ1[id]? := fun id hlt' => by
    have h1 : (List.take σ.length σ1)[id]? = σ1[id]? := List.getElem?_take_of_lt hlt'
    rw [he] at h1; exact h1
   have held : Eld (ctx z z.w z.E nopb) (ctx z w' E' nopb) (ctx z w' (E'.take σ.length) nopb) :=
    ⟨rfl, rfl, hcold.X, fun id p0 p e0 e1 => htk id p (by have := (List.getElem?_eq_some_iff.1 e0).1; simp only [ctx] at this; omega) e1⟩
   refine ⟨E'.take σ.length, ?_, ?_, frz_all hcold 8 _ _ _ k6 rv⟩
   ·have o := ho
    exact ⟨o.os, o.tape, o.output, o.size, o.stay, fun i p hp => o.fresh' i p (htk2 i p hp).2, fun i p hp => by
     obtain ⟨p', m1, m2⟩ := o.env i p hp
     exact ⟨p', htk i p' (by have := (List.getElem?_eq_some_iff.1 hp).1; omega) m1, m2⟩, o.lt, o.mine⟩
   ·refine ⟨by simp only [ctx, List.length_take]; omega, fun i j p q hp hq e => hr.inj i j p q (htk2 i p hp).2 (htk2 j q hq).2 e, fun i p x hp hx => ?_⟩
    obtain ⟨hi, hp2⟩ := htk2 i p hp
    have hz0 : z.E[i]? = some z.E[i] := List.getElem?_eq_getElem (by omega)
    exact eldB_rep held (hh.blk i _ x hz0 hx) (hr.blk i p x hp2 (by rw [← heq i hi]; exact hx))
  ·cases k3
theorem Sound.finC {m : List AV → Heap → Option (AV × Heap)} (h : Sound P nm f m) (sh : Sh) (hs : sh.ok = true) : Sound P nm f (A.finC sh m) := by
 intro args σ r σ' e
 unfold A.finC at e
 obtain ⟨⟨x, σ1⟩, e1, e2⟩ := Option.bind_eq_some_iff.1 e
 obtain ⟨⟨y, σ2⟩, e3, e4⟩ := Option.map_eq_some_iff.1 e2
 simp only [Prod.mk.injEq] at e4
 obtain ⟨rfl, rfl⟩ := e4
 rcases h _ _ _ _ e1 with ⟨g, h1, h2⟩ | h2
 ·refine .inl ⟨g, h1, fun z vs k1 k2 hh k4 => ?_⟩
  refine (h2 z vs k1 k2 hh k4).mono ?_
  rintro e w' ⟨v, E', q1, q2, q3, q4⟩
  obtain ⟨E'', p1, p2, p3⟩ := fin_out hh k2 q2 q3 q4 e3
  exact ⟨v, E'', q1, p1, p2, nn_rep _ _ _ hs p3⟩
 ·refine .inr fun z vs k1 k2 hh k4 => ?_
  obtain ⟨v, w', E', q1, q2, q3, q4⟩ := h2 z vs k1 k2 hh k4
  obtain ⟨E'', p1, p2, p3⟩ := fin_out hh k2 q2 q3 q4 e3
  exact ⟨v, w', E'', q1, p1, p2, nn_rep _ _ _ hs p3⟩
theorem Sound.wrap {r : List AV → Heap → Option (AV × Heap)} (h : Sound P nm f r) (ro : Bool) (ain : List Sh) (rout : Sh) (hi : Sh.okL ain = true) (ho : rout.ok = true) : Sound P nm f (A.wrap ro ain rout r) := by
 intro args σ v σ' e
 unfold A.wrap at e
 cases hc : (ro && args.any A.own)
 ·rw [hc] at e
  simp only [cond_false] at e
  obtain ⟨q, e1, e2⟩ := Option.map_eq_some_iff.1 e
  injection e2 with e2 e3
  subst e2 e3
  exact (h _ _ _ _ e1).conv (fun c vs k => nnL_rep _ _ _ hi k) (fun c v k => nn_rep _ _ _ ho k)
 ·rw [hc] at e
  simp only [cond_true] at e
  obtain ⟨args', e1, e2⟩ := Option.bind_eq_some_iff.1 e
  obtain ⟨q, e3, e4⟩ := Option.bind_eq_some_iff.1 e2
  obtain ⟨q1, q2⟩ := q
  simp only at e4
  cases hs : (A.freshT (A.nn rout q1) && q2.all A.freshB)
  ·rw [hs] at e4; cases e4
  ·rw [hs] at e4
   simp only [cond_true, Option.some.injEq, Prod.mk.injEq] at e4
   obtain ⟨rfl, rfl⟩ := e4
   simp only [Bool.and_eq_true] at hs
   exact ((h _ _ _ _ e3).conv (args := args') (fun c vs k => nnL_rep _ _ _ hi k) (fun c v k => nn_rep _ _ _ ho k)).lent e1 hs.1 hs.2
end
theorem Snd.of {X : Fx} {t : List (FuncId × (List AV → Heap → Option (AV × Heap)))} (hc : X.call = A.tab (fun _ _ => none) t) (ht : ∀ p ∈ t, Sound X.P X.nm p.1 p.2) (hd : ∀ f, Sound X.P X.nm f (X.dyn (X.nm.getD f 0))) : Snd X := by
 refine ⟨fun f args σ r σ' h => ?_, fun f => hd f⟩
 rw [hc] at h
 clear hc
 induction t with
 | nil => cases h
 | cons p t ih =>
  obtain ⟨m, x⟩ := p
  simp only [A.tab] at h
  cases hm : (f == m)
  ·rw [hm] at h; exact ih (fun p hp => ht p (List.mem_cons_of_mem _ hp)) h
  ·rw [hm] at h
   have : f = m := by simpa using hm
   subst this
   exact ht (f, x) (List.mem_cons_self) _ _ _ _ h
theorem Sound.none {P : Program} {nm : List Nat} {f : FuncId} : Sound P nm f (fun _ _ => Option.none) := fun _ _ _ _ h => by cases h
theorem All.nil {P : Program} {nm : List Nat} : ∀ p ∈ ([] : List (FuncId × (List AV → Heap → Option (AV × Heap)))), Sound P nm p.1 p.2 := fun _ h => by cases h
theorem All.cons {P : Program} {nm : List Nat} {f : FuncId} {m : List AV → Heap → Option (AV × Heap)} {l : List (FuncId × (List AV → Heap → Option (AV × Heap)))} (h : Sound P nm f m) (t : ∀ p ∈ l, Sound P nm p.1 p.2) : ∀ p ∈ (f, m) :: l, Sound P nm p.1 p.2 :=
 fun p hp => by rcases List.mem_cons.1 hp with rfl | hp; exact h; exact t p hp
theorem DAll.nil {P : Program} {nm : List Nat} : ∀ p ∈ ([] : List (Nat × (List AV → Heap → Option (AV × Heap)))), ∀ f, nm.getD f 0 = p.1 → Sound P nm f p.2 := fun _ h => by cases h
theorem DAll.cons {P : Program} {nm : List Nat} {k : Nat} {m : List AV → Heap → Option (AV × Heap)} {l : List (Nat × (List AV → Heap → Option (AV × Heap)))} (h : ∀ f, nm.getD f 0 = k → Sound P nm f m) (t : ∀ p ∈ l, ∀ f, nm.getD f 0 = p.1 → Sound P nm f p.2) : ∀ p ∈ (k, m) :: l, ∀ f, nm.getD f 0 = p.1 → Sound P nm f p.2 :=
 fun p hp => by rcases List.mem_cons.1 hp with rfl | hp; exact h; exact t p hp
theorem dyn_of {P : Program} {nm : List Nat} {t : List (Nat × (List AV → Heap → Option (AV × Heap)))} (ht : ∀ p ∈ t, ∀ f, nm.getD f 0 = p.1 → Sound P nm f p.2) (f : FuncId) : Sound P nm f (A.tab (fun _ _ => Option.none) t (nm.getD f 0)) := by
 induction t with
 | nil => exact Sound.none
 | cons p t ih =>
  obtain ⟨k, x⟩ := p
  simp only [A.tab]
  cases hm : (nm.getD f 0 == k)
  ·exact ih (fun p hp => ht p (List.mem_cons_of_mem _ hp))
  ·exact ht (k, x) List.mem_cons_self f (by simpa using hm)
theorem nm_one {nm : List Nat} {k g : Nat} (h : (nm.zipIdx.filter fun p => p.1 == k) = [(k, g)]) (hk : (0 == k) = false) {f : Nat} (hf : nm.getD f 0 = k) : f = g := by
 have hlt : f < nm.length := by
  rcases Nat.lt_or_ge f nm.length with e | e
  ·exact e
  ·simp only [List.getD, List.getElem?_eq_none e, Option.getD_none] at hf; subst hf; simp at hk
 have : (k, f) ∈ nm.zipIdx.filter fun p => p.1 == k := by
  refine List.mem_filter.2 ⟨List.mem_iff_getElem?.2 ⟨f, ?_⟩, by simp⟩
  simp only [List.getD] at hf
  rw [List.getElem?_eq_getElem hlt] at hf
  simp [List.getElem?_eq_getElem hlt, ← hf]
 rw [h] at this
 simpa using this
theorem nm_sound {P : Program} {nm : List Nat} {k g : Nat} {m : List AV → Heap → Option (AV × Heap)} (hs : Sound P nm g m) (h : (nm.zipIdx.filter fun p => p.1 == k) = [(k, g)]) (hk : (0 == k) = false) : ∀ f, nm.getD f 0 = k → Sound P nm f m :=
 fun f hf => by have e := nm_one h hk hf; subst e; exact hs
def fuel (F : (Nat → List AV → Heap → Option (AV × Heap)) → List (Nat × (List AV → Heap → Option (AV × Heap)))) : Nat → Nat → List AV → Heap → Option (AV × Heap)
 | 0, _ => fun _ _ => none
 | n + 1, k => A.tab (fun _ _ => none) (F (fuel F n)) k
namespace A
set_option linter.unusedSectionVars false
def ar1 (f : AV → Heap → Option (AV × Heap)) : List AV → Heap → Option (AV × Heap)
 | [x0], σ => f x0 σ
 | _, _ => none
def ar2 (f : AV → AV → Heap → Option (AV × Heap)) : List AV → Heap → Option (AV × Heap)
 | [x0, x1], σ => f x0 x1 σ
 | _, _ => none
def ar3 (f : AV → AV → AV → Heap → Option (AV × Heap)) : List AV → Heap → Option (AV × Heap)
 | [x0, x1, x2], σ => f x0 x1 x2 σ
 | _, _ => none
def ar4 (f : AV → AV → AV → AV → Heap → Option (AV × Heap)) : List AV → Heap → Option (AV × Heap)
 | [x0, x1, x2, x3], σ => f x0 x1 x2 x3 σ
 | _, _ => none
end A
section
variable {X : Fx} {f : FuncId} {fn : Func} {ann : Ann}
theorem Sound.run1 {m : AV → Heap → Option (AV × Heap)} (keep : Back) (hkeep : keep.Ok) (hs : Snd X) (hf : X.P.funcs[f]? = some fn) (hc : ∀ aas w, (callFunc f aas).run X.P w = .ok (.enter f aas) w) (he : ∀ (x0 : AV) (σ : Heap), runA X keep ann fn [x0] σ = m x0 σ) : Sound X.P X.nm f (A.ar1 m) := by
 intro args σ r σ' h
 unfold A.ar1 at h
 split at h
 ·exact runA_sound hs hkeep hf hc ((he _ _).trans h)
 ·cases h
theorem Sound.run2 {m : AV → AV → Heap → Option (AV × Heap)} (keep : Back) (hkeep : keep.Ok) (hs : Snd X) (hf : X.P.funcs[f]? = some fn) (hc : ∀ aas w, (callFunc f aas).run X.P w = .ok (.enter f aas) w) (he : ∀ (x0 x1 : AV) (σ : Heap), runA X keep ann fn [x0, x1] σ = m x0 x1 σ) : Sound X.P X.nm f (A.ar2 m) := by
 intro args σ r σ' h
 unfold A.ar2 at h
 split at h
 ·exact runA_sound hs hkeep hf hc ((he _ _ _).trans h)
 ·cases h
theorem Sound.run3 {m : AV → AV → AV → Heap → Option (AV × Heap)} (keep : Back) (hkeep : keep.Ok) (hs : Snd X) (hf : X.P.funcs[f]? = some fn) (hc : ∀ aas w, (callFunc f aas).run X.P w = .ok (.enter f aas) w) (he : ∀ (x0 x1 x2 : AV) (σ : Heap), runA X keep ann fn [x0, x1, x2] σ = m x0 x1 x2 σ) : Sound X.P X.nm f (A.ar3 m) := by
 intro args σ r σ' h
 unfold A.ar3 at h
 split at h
 ·exact runA_sound hs hkeep hf hc ((he _ _ _ _).trans h)
 ·cases h
theorem Sound.run4 {m : AV → AV → AV → AV → Heap → Option (AV × Heap)} (keep : Back) (hkeep : keep.Ok) (hs : Snd X) (hf : X.P.funcs[f]? = some fn) (hc : ∀ aas w, (callFunc f aas).run X.P w = .ok (.enter f aas) w) (he : ∀ (x0 x1 x2 x3 : AV) (σ : Heap), runA X keep ann fn [x0, x1, x2, x3] σ = m x0 x1 x2 x3 σ) : Sound X.P X.nm f (A.ar4 m) := by
 intro args σ r σ' h
 unfold A.ar4 at h
 split at h
 ·exact runA_sound hs hkeep hf hc ((he _ _ _ _ _).trans h)
 ·cases h
end
end Go.Proofs.Ytphgchakmkankaa

namespace Go.Proofs.Ytphgchakmkankaa
set_option linter.unusedSectionVars false
set_option linter.unusedSimpArgs false
set_option linter.unusedVariables false
noncomputable def nmT : List Nat := [0, 0, 0, 302, 307, 310, 312, 322, 323, 324, 325, 326, 283, 284, 202, 222, 303, 304, 305, 224, 306, 308, 309, 252, 300, 92, 311, 321, 320, 313, 299, 159, 314, 315, 316, 142, 178, 14, 13, 179, 192, 282, 134, 169, 4, 194, 196, 195, 253, 197, 219, 198, 201, 182, 221, 203, 212, 240, 186, 251, 213, 298, 277, 214, 141, 272, 183, 218, 188, 273, 133, 275, 239, 143, 228, 236, 233, 249, 227, 90, 86, 91, 318, 206, 158, 180, 0, 271, 140, 1, 72, 125, 126, 176, 177, 89, 130, 131, 193, 181, 93, 250, 199, 200, 220, 204, 211, 184, 185, 59, 0, 217, 187, 132, 207, 223, 238, 139, 70, 3, 65, 225, 232, 235, 234, 226, 0, 297, 0, 258, 0, 0, 191, 205, 58, 216, 81, 5, 0, 210, 69, 71, 73, 2, 138, 66, 231, 229, 0, 259, 261, 0, 266, 267, 268, 269, 270, 256, 257, 0, 190, 215, 80, 209, 63, 67, 68, 64, 230, 286, 288, 0, 292, 293, 294, 295, 296, 260, 262, 0, 265, 264, 0, 189, 208, 62, 287, 291, 290, 263, 60, 61, 289, 0, 0, 0, 0, 0, 0, 0, 0, 0, 0, 0, 0, 0, 0, 0, 0]
end Go.Proofs.Ytphgchakmkankaa

namespace Go.Proofs.Ytphgchakmkankaa
set_option linter.unusedSectionVars false
set_option linter.unusedVariables false
set_option linter.unusedSimpArgs false
abbrev inI (n : Int) : Prop := -9223372036854775808 ≤ n ∧ n ≤ 9223372036854775807
abbrev mxl : Nat := 9223372036854775807
def memB {κ : Type} [DecidableEq κ] (k : κ) (S : List κ) : Bool := S.any fun x => decide (x = k)
theorem memB_iff {κ : Type} [DecidableEq κ] {k : κ} {S : List κ} : memB k S = true ↔ k ∈ S := by
 simp only [memB, List.any_eq_true, decide_eq_true_eq]
 exact ⟨fun ⟨x, h, e⟩ => e ▸ h, fun h => ⟨k, h, rfl⟩⟩
theorem memB_false {κ : Type} [DecidableEq κ] {k : κ} {S : List κ} : memB k S = false ↔ k ∉ S := by
 rw [← memB_iff]; simp
def cInt (n : Int) : List AV := [.int .i64 n]
def cStr (s : ByteArray) : List AV := [.str s]
def sl {α : Type} (sz : Nat) (c : α → List AV) (l : List α) : AV := .sl sz (l.map c)
def okL {α : Type} (p : α → Prop) (l : List α) : Prop := l.length ≤ mxl ∧ ∀ x ∈ l, p x
def okS (s : ByteArray) : Prop := s.size ≤ mxl
theorem p1_cInt (n : Int) : A.part1 0 (cInt n) = some (.int .i64 n) := rfl
theorem p1_cStr (s : ByteArray) : A.part1 0 (cStr s) = some (.str s) := rfl

structure PointD where
 time : Int
 way : Int
deriving DecidableEq
def cPoint (x : PointD) : List AV := [.int .i64 x.time, .int .i64 x.way]
theorem cPoint_len (x : PointD) : (cPoint x).length = 2 := rfl
def okPoint (x : PointD) : Prop := inI x.time ∧ inI x.way
theorem p1_cPoint_0 (x : PointD) : A.part1 0 (cPoint x) = some (.int .i64 x.time) := rfl
theorem p1_cPoint_1 (x : PointD) : A.part1 1 (cPoint x) = some (.int .i64 x.way) := rfl
theorem pA_cPoint (x : PointD) : A.partA 0 2 (cPoint x) = some (.agg (cPoint x)) := rfl
theorem ce_cPoint (x : PointD) : A.cells 2 (.agg (cPoint x)) = some (cPoint x) := rfl
theorem sp_cPoint (x : PointD) (l : List AV) (h : l.length = 2) : A.splice 0 (cPoint x) l = some (cPoint x) := by
 simp [A.splice, cPoint_len, h]
structure CurveD where
 kind : Int
 points : (List PointD)
def cCurve (x : CurveD) : List AV := [.int .i64 x.kind, sl 2 cPoint x.points]
theorem cCurve_len (x : CurveD) : (cCurve x).length = 2 := rfl
def okCurve (x : CurveD) : Prop := inI x.kind ∧ (okL okPoint) x.points
theorem p1_cCurve_0 (x : CurveD) : A.part1 0 (cCurve x) = some (.int .i64 x.kind) := rfl
theorem p1_cCurve_1 (x : CurveD) : A.part1 1 (cCurve x) = some (sl 2 cPoint x.points) := rfl
theorem pA_cCurve (x : CurveD) : A.partA 0 2 (cCurve x) = some (.agg (cCurve x)) := rfl
theorem ce_cCurve (x : CurveD) : A.cells 2 (.agg (cCurve x)) = some (cCurve x) := rfl
theorem sp_cCurve (x : CurveD) (l : List AV) (h : l.length = 2) : A.splice 0 (cCurve x) l = some (cCurve x) := by
 simp [A.splice, cCurve_len, h]
structure FadeD where
 frm : Int
 to : Int
 start : Int
 delay : Int
 time : Int
 curve : CurveD
structure ChangeD where
 time : Int
 level : Int
deriving DecidableEq
structure RangeD where
 low : Int
 high : Int
 name : ByteArray
deriving DecidableEq
structure ParamD where
 name : ByteArray
 group : Int
 att : Int
 fine : Int
 default : Int
 snap : Bool
 ranges : (List RangeD)
structure ProfileD where
 name : ByteArray
 size : Int
 params : (List ParamD)
structure UnitD where
 number : Int
 profile : ByteArray
 univ : Int
 address : Int
deriving DecidableEq
structure RigD where
 library : (List ProfileD)
 units : (List UnitD)
structure KeyD where
 unit : Int
 param : ByteArray
deriving DecidableEq
def cKey (x : KeyD) : List AV := [.int .i64 x.unit, .str x.param]
def okKey (x : KeyD) : Prop := inI x.unit ∧ okS x.param
structure SettingD where
 key : KeyD
 level : Int
deriving DecidableEq
structure PresetD where
 number : Int
 title : ByteArray
 settings : (List SettingD)
structure FanD where
 corners : (List Int)
 block : Int
 wings : Int
structure ValueD where
 level : Int
 preset : Int
deriving DecidableEq
def cValue (x : ValueD) : List AV := [.int .i64 x.level, .int .i64 x.preset]
def okValue (x : ValueD) : Prop := inI x.level ∧ inI x.preset
structure MoveD where
 key : KeyD
 value : ValueD
 release : Bool
 timed : Bool
 delay : Int
 time : Int
deriving DecidableEq
def cMove (x : MoveD) : List AV := [.int .i64 x.key.unit, .str x.key.param, .int .i64 x.value.level, .int .i64 x.value.preset, .bool x.release, .bool x.timed, .int .i64 x.delay, .int .i64 x.time]
theorem cMove_len (x : MoveD) : (cMove x).length = 8 := rfl
def okMove (x : MoveD) : Prop := okKey x.key ∧ okValue x.value ∧ inI x.delay ∧ inI x.time
theorem pA_cMove_key (x : MoveD) : A.partA 0 2 (cMove x) = some (.agg (cKey x.key)) := rfl
theorem pA_cMove (x : MoveD) : A.partA 0 8 (cMove x) = some (.agg (cMove x)) := rfl
theorem ce_cMove (x : MoveD) : A.cells 8 (.agg (cMove x)) = some (cMove x) := rfl
theorem sp_cMove (x : MoveD) (l : List AV) (h : l.length = 8) : A.splice 0 (cMove x) l = some (cMove x) := by
 simp [A.splice, cMove_len, h]
structure CueD where
 number : Int
 title : ByteArray
 delay : Int
 up : Int
 down : Int
 other : Int
 curve : CurveD
 block : Bool
 follow : Int
 moves : (List MoveD)
def cCue (x : CueD) : List AV := [.int .i64 x.number, .str x.title, .int .i64 x.delay, .int .i64 x.up, .int .i64 x.down, .int .i64 x.other, .int .i64 x.curve.kind, sl 2 cPoint x.curve.points, .bool x.block, .int .i64 x.follow, sl 8 cMove x.moves]
theorem cCue_len (x : CueD) : (cCue x).length = 11 := rfl
def okCue (x : CueD) : Prop := inI x.number ∧ okS x.title ∧ inI x.delay ∧ inI x.up ∧ inI x.down ∧ inI x.other ∧ okCurve x.curve ∧ inI x.follow ∧ (okL okMove) x.moves
theorem p1_cCue_0 (x : CueD) : A.part1 0 (cCue x) = some (.int .i64 x.number) := rfl
theorem p1_cCue_1 (x : CueD) : A.part1 1 (cCue x) = some (.str x.title) := rfl
theorem p1_cCue_2 (x : CueD) : A.part1 2 (cCue x) = some (.int .i64 x.delay) := rfl
theorem p1_cCue_3 (x : CueD) : A.part1 3 (cCue x) = some (.int .i64 x.up) := rfl
theorem p1_cCue_4 (x : CueD) : A.part1 4 (cCue x) = some (.int .i64 x.down) := rfl
theorem p1_cCue_5 (x : CueD) : A.part1 5 (cCue x) = some (.int .i64 x.other) := rfl
theorem p1_cCue_6 (x : CueD) : A.part1 6 (cCue x) = some (.int .i64 x.curve.kind) := rfl
theorem p1_cCue_7 (x : CueD) : A.part1 7 (cCue x) = some (sl 2 cPoint x.curve.points) := rfl
theorem p1_cCue_8 (x : CueD) : A.part1 8 (cCue x) = some (.bool x.block) := rfl
theorem p1_cCue_9 (x : CueD) : A.part1 9 (cCue x) = some (.int .i64 x.follow) := rfl
theorem p1_cCue_10 (x : CueD) : A.part1 10 (cCue x) = some (sl 8 cMove x.moves) := rfl
theorem pA_cCue_curve (x : CueD) : A.partA 6 2 (cCue x) = some (.agg (cCurve x.curve)) := rfl
theorem pA_cCue (x : CueD) : A.partA 0 11 (cCue x) = some (.agg (cCue x)) := rfl
theorem ce_cCue (x : CueD) : A.cells 11 (.agg (cCue x)) = some (cCue x) := rfl
theorem sp_cCue (x : CueD) (l : List AV) (h : l.length = 11) : A.splice 0 (cCue x) l = some (cCue x) := by
 simp [A.splice, cCue_len, h]
structure EntryD where
 key : KeyD
 value : ValueD
 cue : Int
deriving DecidableEq
def cEntry (x : EntryD) : List AV := [.int .i64 x.key.unit, .str x.key.param, .int .i64 x.value.level, .int .i64 x.value.preset, .int .i64 x.cue]
theorem cEntry_len (x : EntryD) : (cEntry x).length = 5 := rfl
theorem sp_cEntry (x : EntryD) (l : List AV) (h : l.length = 5) : A.splice 0 (cEntry x) l = some (cEntry x) := by
 simp [A.splice, cEntry_len, h]
structure MarkD where
 unit : Int
 frm : Int
 to : Int
deriving DecidableEq
structure ListD where
 number : Int
 cues : (List CueD)
structure PlaybackD where
 number : Int
 list : Int
 priority : Int
deriving DecidableEq
structure SetupD where
 rig : RigD
 presets : (List PresetD)
 lists : (List ListD)
 playbacks : (List PlaybackD)
structure ActionD where
 time : Int
 kind : Int
 playback : Int
 cue : Int
 level : Int
deriving DecidableEq
structure EventD where
 att : Int
 action : ActionD
deriving DecidableEq
structure StampD where
 hours : Int
 minutes : Int
 seconds : Int
 frames : Int
deriving DecidableEq
structure RunD where
 key : KeyD
 fade : FadeD
 claim : Int
 ending : Bool
structure StandingD where
 playback : Int
 cue : Int
 fader : Int
 paused : Bool
 follow : Int
 runs : (List RunD)
structure EffectStepD where
 level : Int
 hold : Int
 fade : Int
deriving DecidableEq
structure EffectD where
 form : Int
 low : Int
 high : Int
 cycle : Int
 width : Int
 spread : Int
 back : Bool
 relative : Bool
 steps : (List EffectStepD)
structure RateD where
 time : Int
 percent : Int
deriving DecidableEq
structure RunningD where
 effect : EffectD
 keys : (List KeyD)
 start : Int
 rates : (List RateD)
 inn : Int
 fin : Int
 out : Int
end Go.Proofs.Ytphgchakmkankaa

namespace Go.Proofs.Ytphgchakmkankaa
set_option linter.unusedSectionVars false
set_option linter.unusedSimpArgs false
set_option linter.unusedVariables false
def m_strings_Compare : List AV → Heap → Option (AV × Heap) := A.ar2 fun a b σ => match a, b with
 | .str a, .str b => some (.int .i64 (Lib.compareBytes a.data.toList b.data.toList), σ)
 | _, _ => none
def m_slices_overlaps : List AV → Heap → Option (AV × Heap) := A.ar2 fun a b σ => match a, b with
 | .sl sz es, .os id g sz' off len => match σ[id]? with
  | some (.arr h s es') => if es ≠ [] ∧ g = h ∧ es' ≠ [] ∧ 0 < len then some (.bool false, σ) else none
  | _ => none
 | _, _ => none
def cmpKey (a b : KeyD) : Int := if ¬ (a.unit = b.unit) then (if a.unit < b.unit then -1 else 1) else Lib.compareBytes a.param.data.toList b.param.data.toList
def pdqL {α : Type} [Inhabited α] (cf : α → α → Int) (l : List α) : List α := (Sort.pdq (fun x y => decide (cf x y < 0)) l.toArray 0 l.length (Lib.bitLen l.length) true true).toList
noncomputable def A.sortG {α : Type} [Inhabited α] (sz : Nat) (c : α → List AV) (cf : α → α → Int) (x : AV) (σ : Heap) : Option (AV × Heap) := match x with
 | .nsl => some (.tup [], σ)
 | .os id g sz0 off len => match σ[id]? with
  | some (.arr g' sz' es) => open Classical in if h : (g = g' ∧ sz = sz' ∧ sz0 = sz ∧ off + len ≤ es.length ∧ 0 < len ∧ len < 4611686018427387904) ∧ ∃ l : List α, (es.drop off).take len = l.map c then
    some (.tup [], σ.set id (.arr g sz (es.take off ++ (pdqL cf (Classical.choose h.2)).map c ++ es.drop (off + len)))) else none
  | _ => none
 | _ => none
noncomputable def m_slices_SortFunc_Entry : List AV → Heap → Option (AV × Heap) := A.ar2 fun x f σ => match f with
 | .fn 297 [] => @A.sortG EntryD ⟨⟨⟨0, ⟨#[]⟩⟩, ⟨0, 0⟩, 0⟩⟩ 5 cEntry (fun a b => cmpKey a.key b.key) x σ
 | _ => none
noncomputable def m_slices_SortFunc_Move : List AV → Heap → Option (AV × Heap) := A.ar2 fun x f σ => match f with
 | .fn 271 [] => @A.sortG MoveD ⟨⟨⟨0, ⟨#[]⟩⟩, ⟨0, 0⟩, false, false, 0, 0⟩⟩ 8 cMove (fun a b => cmpKey a.key b.key) x σ
 | _ => none
end Go.Proofs.Ytphgchakmkankaa

namespace Go.Proofs.Ytphgchakmkankaa
set_option linter.unusedSectionVars false
set_option linter.unusedSimpArgs false
set_option linter.unusedVariables false
set_option maxRecDepth 100000
noncomputable def r_slices_Clone_api_Entry (a0 : AV) (σ : Heap) : Option (AV × Heap) :=
 (A.eqN a0 AV.nsl).bind fun x1 =>
 A.cond x1 (
  some (AV.nsl, σ)) (
  (A.append 5 (140737488355328 / 48) AV.ez a0 σ).bind fun r2 =>
  some (r2.1, r2.2))
noncomputable def m_slices_Clone_api_Entry : List AV → Heap → Option (AV × Heap) := A.cloneZ (A.wrap true [(.s 5)] .k (A.ar1 r_slices_Clone_api_Entry))
noncomputable def r_slices_Clone_api_Point (a0 : AV) (σ : Heap) : Option (AV × Heap) :=
 (A.eqN a0 AV.nsl).bind fun x1 =>
 A.cond x1 (
  some (AV.nsl, σ)) (
  (A.append 2 (140737488355328 / 16) AV.ez a0 σ).bind fun r2 =>
  some (r2.1, r2.2))
noncomputable def m_slices_Clone_api_Point : List AV → Heap → Option (AV × Heap) := A.cloneZ (A.wrap true [(.s 2)] .k (A.ar1 r_slices_Clone_api_Point))
noncomputable def r_slices_Clone_api_Move (a0 : AV) (σ : Heap) : Option (AV × Heap) :=
 (A.eqN a0 AV.nsl).bind fun x1 =>
 A.cond x1 (
  some (AV.nsl, σ)) (
  (A.append 8 (140737488355328 / 64) AV.ez a0 σ).bind fun r2 =>
  some (r2.1, r2.2))
noncomputable def m_slices_Clone_api_Move : List AV → Heap → Option (AV × Heap) := A.cloneZ (A.wrap true [(.s 8)] .k (A.ar1 r_slices_Clone_api_Move))
noncomputable def r_slices_BinarySearchFunc_api_Cue_int (dyn : Nat → List AV → Heap → Option (AV × Heap)) (a0 a1 a2 : AV) (σ : Heap) : Option (AV × Heap) :=
 (A.lenS a0).bind fun x1 =>
 (A.loop (fun v2 s3 =>
   (A.lss (v2.getD 0 AV.undef) (v2.getD 1 AV.undef)).bind fun x5 =>
   A.cond x5 (
    (A.add (v2.getD 0 AV.undef) (v2.getD 1 AV.undef)).bind fun x6 =>
    (A.conv .u64 x6).bind fun x7 =>
    (A.shr x7 (AV.int .u64 1)).bind fun x8 =>
    (A.conv .i64 x8).bind fun x9 =>
    (A.iaddr 11 a0 x9).bind fun x10 =>
    ((A.deref x10 s3).bind fun c11 => A.partA 0 11 c11).bind fun x12 =>
    (A.callv dyn a2 [x12, a1] s3).bind fun r13 =>
    (A.lss r13.1 (AV.int .i64 0)).bind fun x14 =>
    (A.cond x14 (
     (A.add x9 (AV.int .i64 1)).bind fun x16 =>
     some ([x16, (v2.getD 1 AV.undef)], r13.2)) (
     some ([(v2.getD 0 AV.undef), x9], r13.2))).bind fun r15 =>
    some (AX.normal, [(r15.1.getD 0 AV.undef), (r15.1.getD 1 AV.undef)], r15.2)) (
    some (AX.exit 0, [(v2.getD 0 AV.undef), (v2.getD 1 AV.undef)], s3))) [(AV.int .i64 0), x1] σ).bind fun r17 =>
 bif r17.1 == AX.exit 0 then (
  (A.lss (r17.2.1.getD 0 AV.undef) x1).bind fun x18 =>
  (A.guard x18 true (some a2) (some (AV.tup []))).bind fun x19 =>
  (A.guard x18 true (some a0) (some (AV.tup []))).bind fun x20 =>
  (A.guard x18 true (some (r17.2.1.getD 0 AV.undef)) (some (AV.tup []))).bind fun x21 =>
  (A.guard x18 true (A.iaddr 11 x20 x21) (some (AV.tup []))).bind fun x22 =>
  (A.guard x18 true ((A.deref x22 r17.2.2).bind fun c23 => A.partA 0 11 c23) (some (AV.tup []))).bind fun x24 =>
  (A.guard x18 true (some a1) (some (AV.tup []))).bind fun x25 =>
  (A.guard x18 true (A.quiet (A.callv dyn x19 [x24, x25] r17.2.2) r17.2.2) (some (AV.tup []))).bind fun x26 =>
  (A.guard x18 true (A.eql .i x26 (AV.int .i64 0)) (some (AV.tup []))).bind fun x27 =>
  (A.pick x18 x27 (AV.bool false)).bind fun x28 =>
  A.fin σ (AV.tup [(r17.2.1.getD 0 AV.undef), x28]) r17.2.2) else
 none
noncomputable def m_slices_BinarySearchFunc_api_Cue_int (dyn : Nat → List AV → Heap → Option (AV × Heap)) : List AV → Heap → Option (AV × Heap) := A.wrap true [(.s 11)] .k (A.ar3 (r_slices_BinarySearchFunc_api_Cue_int dyn))
noncomputable def r_slices_BinarySearchFunc_api_Move_api_Key (dyn : Nat → List AV → Heap → Option (AV × Heap)) (a0 a1 a2 : AV) (σ : Heap) : Option (AV × Heap) :=
 (A.cells 2 a1).bind fun c1 =>
 (A.lenS a0).bind fun x2 =>
 (A.loop (fun v3 s4 =>
   (A.lss (v3.getD 1 AV.undef) (v3.getD 2 AV.undef)).bind fun x6 =>
   A.cond x6 (
    (A.add (v3.getD 1 AV.undef) (v3.getD 2 AV.undef)).bind fun x7 =>
    (A.conv .u64 x7).bind fun x8 =>
    (A.shr x8 (AV.int .u64 1)).bind fun x9 =>
    (A.conv .i64 x9).bind fun x10 =>
    (A.iaddr 8 a0 x10).bind fun x11 =>
    ((A.deref x11 s4).bind fun c12 => A.partA 0 8 c12).bind fun x13 =>
    ((A.lb (v3.getD 0 AV.undef)).bind fun c14 => A.partA 0 2 c14).bind fun x15 =>
    (A.quiet (A.callv dyn a2 [x13, x15] s4) s4).bind fun x16 =>
    (A.lss x16 (AV.int .i64 0)).bind fun x17 =>
    (A.cond x17 (
     (A.add x10 (AV.int .i64 1)).bind fun x19 =>
     some ([(v3.getD 0 AV.undef), x19, (v3.getD 2 AV.undef)], s4)) (
     some ([(v3.getD 0 AV.undef), (v3.getD 1 AV.undef), x10], s4))).bind fun r18 =>
    some (AX.normal, [(r18.1.getD 0 AV.undef), (r18.1.getD 1 AV.undef), (r18.1.getD 2 AV.undef)], r18.2)) (
    some (AX.exit 0, [(v3.getD 0 AV.undef), (v3.getD 1 AV.undef), (v3.getD 2 AV.undef)], s4))) [(AV.lbx c1), (AV.int .i64 0), x2] σ).bind fun r20 =>
 bif r20.1 == AX.exit 0 then (
  (A.lss (r20.2.1.getD 1 AV.undef) x2).bind fun x21 =>
  (A.guard x21 true (some a2) (some (AV.tup []))).bind fun x22 =>
  (A.guard x21 true (some a0) (some (AV.tup []))).bind fun x23 =>
  (A.guard x21 true (some (r20.2.1.getD 1 AV.undef)) (some (AV.tup []))).bind fun x24 =>
  (A.guard x21 true (A.iaddr 8 x23 x24) (some (AV.tup []))).bind fun x25 =>
  (A.guard x21 true ((A.deref x25 r20.2.2).bind fun c26 => A.partA 0 8 c26) (some (AV.tup []))).bind fun x27 =>
  (A.guard x21 true ((A.lb (r20.2.1.getD 0 AV.undef)).bind fun c28 => A.partA 0 2 c28) (some (AV.tup []))).bind fun x29 =>
  (A.guard x21 true (A.quiet (A.callv dyn x22 [x27, x29] r20.2.2) r20.2.2) (some (AV.tup []))).bind fun x30 =>
  (A.guard x21 true (A.eql .i x30 (AV.int .i64 0)) (some (AV.tup []))).bind fun x31 =>
  (A.pick x21 x31 (AV.bool false)).bind fun x32 =>
  A.fin σ (AV.tup [(r20.2.1.getD 1 AV.undef), x32]) r20.2.2) else
 none
noncomputable def m_slices_BinarySearchFunc_api_Move_api_Key (dyn : Nat → List AV → Heap → Option (AV × Heap)) : List AV → Heap → Option (AV × Heap) := A.wrap true [(.s 8)] .k (A.ar3 (r_slices_BinarySearchFunc_api_Move_api_Key dyn))
noncomputable def r_slices_Reverse_api_Move (a0 : AV) (σ : Heap) : Option (AV × Heap) :=
 (A.lenS a0).bind fun x1 =>
 (A.sub x1 (AV.int .i64 1)).bind fun x2 =>
 (A.loop (fun v3 s4 =>
   (A.lss (v3.getD 0 AV.undef) (v3.getD 1 AV.undef)).bind fun x6 =>
   A.cond x6 (
    (A.iaddr 8 a0 (v3.getD 1 AV.undef)).bind fun x7 =>
    ((A.deref x7 s4).bind fun c8 => A.partA 0 8 c8).bind fun x9 =>
    (A.iaddr 8 a0 (v3.getD 0 AV.undef)).bind fun x10 =>
    ((A.deref x10 s4).bind fun c11 => A.partA 0 8 c11).bind fun x12 =>
    (A.iaddr 8 a0 (v3.getD 0 AV.undef)).bind fun x13 =>
    (A.cells 8 x9).bind fun c14 =>
    (A.storeAt x13 c14 s4).bind fun c15 =>
    (A.iaddr 8 a0 (v3.getD 1 AV.undef)).bind fun x16 =>
    (A.cells 8 x12).bind fun c17 =>
    (A.storeAt x16 c17 c15).bind fun c18 =>
    (A.add (v3.getD 0 AV.undef) (AV.int .i64 1)).bind fun x19 =>
    (A.sub (v3.getD 1 AV.undef) (AV.int .i64 1)).bind fun x20 =>
    some (AX.normal, [x19, x20], c18)) (
    some (AX.exit 0, [(v3.getD 0 AV.undef), (v3.getD 1 AV.undef)], s4))) [(AV.int .i64 0), x2] σ).bind fun r21 =>
 bif r21.1 == AX.exit 0 then (
  some ((AV.tup []), r21.2.2)) else
 none
noncomputable def m_slices_Reverse_api_Move : List AV → Heap → Option (AV × Heap) := A.wrap false [] .k (A.ar1 r_slices_Reverse_api_Move)
noncomputable def r_slices_rotateLeft_api_Move (a0 a1 : AV) (σ : Heap) : Option (AV × Heap) :=
 (A.sliceS 8 a0 none (some a1) σ).bind fun x1 =>
 (m_slices_Reverse_api_Move [x1] σ).bind fun r2 =>
 (A.sliceS 8 a0 (some a1) none r2.2).bind fun x3 =>
 (m_slices_Reverse_api_Move [x3] r2.2).bind fun r4 =>
 (m_slices_Reverse_api_Move [a0] r4.2).bind fun r5 =>
 some ((AV.tup []), r5.2)
noncomputable def m_slices_rotateLeft_api_Move : List AV → Heap → Option (AV × Heap) := A.wrap false [] .k (A.ar2 r_slices_rotateLeft_api_Move)
noncomputable def r_slices_rotateRight_api_Move (a0 a1 : AV) (σ : Heap) : Option (AV × Heap) :=
 (A.lenS a0).bind fun x1 =>
 (A.sub x1 a1).bind fun x2 =>
 (m_slices_rotateLeft_api_Move [a0, x2] σ).bind fun r3 =>
 some ((AV.tup []), r3.2)
noncomputable def m_slices_rotateRight_api_Move : List AV → Heap → Option (AV × Heap) := A.wrap false [] .k (A.ar2 r_slices_rotateRight_api_Move)
noncomputable def r_slices_Insert_api_Move (a0 a1 a2 : AV) (σ : Heap) : Option (AV × Heap) :=
 (A.sliceS 8 a0 (some a1) none σ).bind fun x1 =>
 (A.lenS a2).bind fun x2 =>
 (A.eql .i x2 (AV.int .i64 0)).bind fun x3 =>
 A.cond x3 (
  A.renew [a0, a1, a2] σ a0 σ) (
  (A.lenS a0).bind fun x4 =>
  (A.eql .i a1 x4).bind fun x5 =>
  A.cond x5 (
   (A.append 8 (140737488355328 / 64) a0 a2 σ).bind fun r6 =>
   A.renew [a0, a1, a2] σ r6.1 r6.2) (
   (A.add x4 x2).bind fun x7 =>
   A.capM (A.capN a0) (fun x8 =>
    (A.gtr x7 x8).bind fun x9 =>
    A.cond x9 (
     (A.sliceS 8 a0 none (some a1) σ).bind fun x10 =>
     (A.add x4 x2).bind fun x11 =>
     (A.sub x11 a1).bind fun x12 =>
     (A.appendZ 8 (140737488355328 / 64) [(AV.int .i64 0), (AV.str ⟨#[]⟩), (AV.int .i64 0), (AV.int .i64 0), (AV.bool false), (AV.bool false), (AV.int .i64 0), (AV.int .i64 0)] x10 x12 σ).bind fun r13 =>
     (A.sliceS 8 r13.1 (some a1) none r13.2).bind fun x14 =>
     (A.copyS 8 x14 a2 r13.2).bind fun r15 =>
     (A.add a1 x2).bind fun x16 =>
     (A.sliceS 8 r13.1 (some x16) none r15.2).bind fun x17 =>
     (A.sliceS 8 a0 (some a1) none r15.2).bind fun x18 =>
     (A.copyS 8 x17 x18 r15.2).bind fun r19 =>
     A.renew [a0, a1, a2] σ r13.1 r19.2) (
     (A.add x4 x2).bind fun x20 =>
     (A.sliceS 8 a0 none (some x20) σ).bind fun x21 =>
     (A.add a1 x2).bind fun x22 =>
     (A.sliceS 8 x21 (some x22) none σ).bind fun x23 =>
     (m_slices_overlaps [a2, x23] σ).bind fun r24 =>
     (A.not r24.1).bind fun x25 =>
     A.cond x25 (
      (A.add a1 x2).bind fun x26 =>
      (A.sliceS 8 x21 (some x26) none r24.2).bind fun x27 =>
      (A.sliceS 8 x21 (some a1) none r24.2).bind fun x28 =>
      (A.copyS 8 x27 x28 r24.2).bind fun r29 =>
      (A.sliceS 8 x21 (some a1) none r29.2).bind fun x30 =>
      (A.copyS 8 x30 a2 r29.2).bind fun r31 =>
      A.renew [a0, a1, a2] σ x21 r31.2) (
      (A.sliceS 8 x21 (some x4) none r24.2).bind fun x32 =>
      (A.copyS 8 x32 a2 r24.2).bind fun r33 =>
      (A.sliceS 8 x21 (some a1) none r33.2).bind fun x34 =>
      (m_slices_rotateRight_api_Move [x34, x2] r33.2).bind fun r35 =>
      A.renew [a0, a1, a2] σ x21 r35.2))) (A.capU a0 σ fun n36 s37 =>
    (A.gtr x7 (AV.int .i64 n36)).bind fun x38 =>
    A.cond x38 (
     (A.sliceS 8 a0 none (some a1) s37).bind fun x39 =>
     (A.add x4 x2).bind fun x40 =>
     (A.sub x40 a1).bind fun x41 =>
     (A.appendZ 8 (140737488355328 / 64) [(AV.int .i64 0), (AV.str ⟨#[]⟩), (AV.int .i64 0), (AV.int .i64 0), (AV.bool false), (AV.bool false), (AV.int .i64 0), (AV.int .i64 0)] x39 x41 s37).bind fun r42 =>
     (A.sliceS 8 r42.1 (some a1) none r42.2).bind fun x43 =>
     (A.copyS 8 x43 a2 r42.2).bind fun r44 =>
     (A.add a1 x2).bind fun x45 =>
     (A.sliceS 8 r42.1 (some x45) none r44.2).bind fun x46 =>
     (A.sliceS 8 a0 (some a1) none r44.2).bind fun x47 =>
     (A.copyS 8 x46 x47 r44.2).bind fun r48 =>
     A.renew [a0, a1, a2] σ r42.1 r48.2) (
     (A.add x4 x2).bind fun x49 =>
     (A.sliceS 8 a0 none (some x49) s37).bind fun x50 =>
     (A.add a1 x2).bind fun x51 =>
     (A.sliceS 8 x50 (some x51) none s37).bind fun x52 =>
     (m_slices_overlaps [a2, x52] s37).bind fun r53 =>
     (A.not r53.1).bind fun x54 =>
     A.cond x54 (
      (A.add a1 x2).bind fun x55 =>
      (A.sliceS 8 x50 (some x55) none r53.2).bind fun x56 =>
      (A.sliceS 8 x50 (some a1) none r53.2).bind fun x57 =>
      (A.copyS 8 x56 x57 r53.2).bind fun r58 =>
      (A.sliceS 8 x50 (some a1) none r58.2).bind fun x59 =>
      (A.copyS 8 x59 a2 r58.2).bind fun r60 =>
      A.renew [a0, a1, a2] σ x50 r60.2) (
      (A.sliceS 8 x50 (some x4) none r53.2).bind fun x61 =>
      (A.copyS 8 x61 a2 r53.2).bind fun r62 =>
      (A.sliceS 8 x50 (some a1) none r62.2).bind fun x63 =>
      (m_slices_rotateRight_api_Move [x63, x2] r62.2).bind fun r64 =>
      A.renew [a0, a1, a2] σ x50 r64.2)))))
noncomputable def m_slices_Insert_api_Move : List AV → Heap → Option (AV × Heap) := A.wrap false [] .k (A.ar3 r_slices_Insert_api_Move)
noncomputable def r_slices_Reverse_api_Cue (a0 : AV) (σ : Heap) : Option (AV × Heap) :=
 (A.lenS a0).bind fun x1 =>
 (A.sub x1 (AV.int .i64 1)).bind fun x2 =>
 (A.loop (fun v3 s4 =>
   (A.lss (v3.getD 0 AV.undef) (v3.getD 1 AV.undef)).bind fun x6 =>
   A.cond x6 (
    (A.iaddr 11 a0 (v3.getD 1 AV.undef)).bind fun x7 =>
    ((A.deref x7 s4).bind fun c8 => A.partA 0 11 c8).bind fun x9 =>
    (A.iaddr 11 a0 (v3.getD 0 AV.undef)).bind fun x10 =>
    ((A.deref x10 s4).bind fun c11 => A.partA 0 11 c11).bind fun x12 =>
    (A.iaddr 11 a0 (v3.getD 0 AV.undef)).bind fun x13 =>
    (A.cells 11 x9).bind fun c14 =>
    (A.storeAt x13 c14 s4).bind fun c15 =>
    (A.iaddr 11 a0 (v3.getD 1 AV.undef)).bind fun x16 =>
    (A.cells 11 x12).bind fun c17 =>
    (A.storeAt x16 c17 c15).bind fun c18 =>
    (A.add (v3.getD 0 AV.undef) (AV.int .i64 1)).bind fun x19 =>
    (A.sub (v3.getD 1 AV.undef) (AV.int .i64 1)).bind fun x20 =>
    some (AX.normal, [x19, x20], c18)) (
    some (AX.exit 0, [(v3.getD 0 AV.undef), (v3.getD 1 AV.undef)], s4))) [(AV.int .i64 0), x2] σ).bind fun r21 =>
 bif r21.1 == AX.exit 0 then (
  some ((AV.tup []), r21.2.2)) else
 none
noncomputable def m_slices_Reverse_api_Cue : List AV → Heap → Option (AV × Heap) := A.wrap false [] .k (A.ar1 r_slices_Reverse_api_Cue)
noncomputable def r_slices_rotateLeft_api_Cue (a0 a1 : AV) (σ : Heap) : Option (AV × Heap) :=
 (A.sliceS 11 a0 none (some a1) σ).bind fun x1 =>
 (m_slices_Reverse_api_Cue [x1] σ).bind fun r2 =>
 (A.sliceS 11 a0 (some a1) none r2.2).bind fun x3 =>
 (m_slices_Reverse_api_Cue [x3] r2.2).bind fun r4 =>
 (m_slices_Reverse_api_Cue [a0] r4.2).bind fun r5 =>
 some ((AV.tup []), r5.2)
noncomputable def m_slices_rotateLeft_api_Cue : List AV → Heap → Option (AV × Heap) := A.wrap false [] .k (A.ar2 r_slices_rotateLeft_api_Cue)
noncomputable def r_slices_rotateRight_api_Cue (a0 a1 : AV) (σ : Heap) : Option (AV × Heap) :=
 (A.lenS a0).bind fun x1 =>
 (A.sub x1 a1).bind fun x2 =>
 (m_slices_rotateLeft_api_Cue [a0, x2] σ).bind fun r3 =>
 some ((AV.tup []), r3.2)
noncomputable def m_slices_rotateRight_api_Cue : List AV → Heap → Option (AV × Heap) := A.wrap false [] .k (A.ar2 r_slices_rotateRight_api_Cue)
noncomputable def r_slices_Insert_api_Cue (a0 a1 a2 : AV) (σ : Heap) : Option (AV × Heap) :=
 (A.sliceS 11 a0 (some a1) none σ).bind fun x1 =>
 (A.lenS a2).bind fun x2 =>
 (A.eql .i x2 (AV.int .i64 0)).bind fun x3 =>
 A.cond x3 (
  A.renew [a0, a1, a2] σ a0 σ) (
  (A.lenS a0).bind fun x4 =>
  (A.eql .i a1 x4).bind fun x5 =>
  A.cond x5 (
   (A.append 11 (140737488355328 / 128) a0 a2 σ).bind fun r6 =>
   A.renew [a0, a1, a2] σ r6.1 r6.2) (
   (A.add x4 x2).bind fun x7 =>
   A.capM (A.capN a0) (fun x8 =>
    (A.gtr x7 x8).bind fun x9 =>
    A.cond x9 (
     (A.sliceS 11 a0 none (some a1) σ).bind fun x10 =>
     (A.add x4 x2).bind fun x11 =>
     (A.sub x11 a1).bind fun x12 =>
     (A.appendZ 11 (140737488355328 / 128) [(AV.int .i64 0), (AV.str ⟨#[]⟩), (AV.int .i64 0), (AV.int .i64 0), (AV.int .i64 0), (AV.int .i64 0), (AV.int .i64 0), AV.nsl, (AV.bool false), (AV.int .i64 0), AV.nsl] x10 x12 σ).bind fun r13 =>
     (A.sliceS 11 r13.1 (some a1) none r13.2).bind fun x14 =>
     (A.copyS 11 x14 a2 r13.2).bind fun r15 =>
     (A.add a1 x2).bind fun x16 =>
     (A.sliceS 11 r13.1 (some x16) none r15.2).bind fun x17 =>
     (A.sliceS 11 a0 (some a1) none r15.2).bind fun x18 =>
     (A.copyS 11 x17 x18 r15.2).bind fun r19 =>
     A.renew [a0, a1, a2] σ r13.1 r19.2) (
     (A.add x4 x2).bind fun x20 =>
     (A.sliceS 11 a0 none (some x20) σ).bind fun x21 =>
     (A.add a1 x2).bind fun x22 =>
     (A.sliceS 11 x21 (some x22) none σ).bind fun x23 =>
     (m_slices_overlaps [a2, x23] σ).bind fun r24 =>
     (A.not r24.1).bind fun x25 =>
     A.cond x25 (
      (A.add a1 x2).bind fun x26 =>
      (A.sliceS 11 x21 (some x26) none r24.2).bind fun x27 =>
      (A.sliceS 11 x21 (some a1) none r24.2).bind fun x28 =>
      (A.copyS 11 x27 x28 r24.2).bind fun r29 =>
      (A.sliceS 11 x21 (some a1) none r29.2).bind fun x30 =>
      (A.copyS 11 x30 a2 r29.2).bind fun r31 =>
      A.renew [a0, a1, a2] σ x21 r31.2) (
      (A.sliceS 11 x21 (some x4) none r24.2).bind fun x32 =>
      (A.copyS 11 x32 a2 r24.2).bind fun r33 =>
      (A.sliceS 11 x21 (some a1) none r33.2).bind fun x34 =>
      (m_slices_rotateRight_api_Cue [x34, x2] r33.2).bind fun r35 =>
      A.renew [a0, a1, a2] σ x21 r35.2))) (A.capU a0 σ fun n36 s37 =>
    (A.gtr x7 (AV.int .i64 n36)).bind fun x38 =>
    A.cond x38 (
     (A.sliceS 11 a0 none (some a1) s37).bind fun x39 =>
     (A.add x4 x2).bind fun x40 =>
     (A.sub x40 a1).bind fun x41 =>
     (A.appendZ 11 (140737488355328 / 128) [(AV.int .i64 0), (AV.str ⟨#[]⟩), (AV.int .i64 0), (AV.int .i64 0), (AV.int .i64 0), (AV.int .i64 0), (AV.int .i64 0), AV.nsl, (AV.bool false), (AV.int .i64 0), AV.nsl] x39 x41 s37).bind fun r42 =>
     (A.sliceS 11 r42.1 (some a1) none r42.2).bind fun x43 =>
     (A.copyS 11 x43 a2 r42.2).bind fun r44 =>
     (A.add a1 x2).bind fun x45 =>
     (A.sliceS 11 r42.1 (some x45) none r44.2).bind fun x46 =>
     (A.sliceS 11 a0 (some a1) none r44.2).bind fun x47 =>
     (A.copyS 11 x46 x47 r44.2).bind fun r48 =>
     A.renew [a0, a1, a2] σ r42.1 r48.2) (
     (A.add x4 x2).bind fun x49 =>
     (A.sliceS 11 a0 none (some x49) s37).bind fun x50 =>
     (A.add a1 x2).bind fun x51 =>
     (A.sliceS 11 x50 (some x51) none s37).bind fun x52 =>
     (m_slices_overlaps [a2, x52] s37).bind fun r53 =>
     (A.not r53.1).bind fun x54 =>
     A.cond x54 (
      (A.add a1 x2).bind fun x55 =>
      (A.sliceS 11 x50 (some x55) none r53.2).bind fun x56 =>
      (A.sliceS 11 x50 (some a1) none r53.2).bind fun x57 =>
      (A.copyS 11 x56 x57 r53.2).bind fun r58 =>
      (A.sliceS 11 x50 (some a1) none r58.2).bind fun x59 =>
      (A.copyS 11 x59 a2 r58.2).bind fun r60 =>
      A.renew [a0, a1, a2] σ x50 r60.2) (
      (A.sliceS 11 x50 (some x4) none r53.2).bind fun x61 =>
      (A.copyS 11 x61 a2 r53.2).bind fun r62 =>
      (A.sliceS 11 x50 (some a1) none r62.2).bind fun x63 =>
      (m_slices_rotateRight_api_Cue [x63, x2] r62.2).bind fun r64 =>
      A.renew [a0, a1, a2] σ x50 r64.2)))))
noncomputable def m_slices_Insert_api_Cue : List AV → Heap → Option (AV × Heap) := A.wrap false [] .k (A.ar3 r_slices_Insert_api_Cue)
noncomputable def r_slices_Delete_api_Cue (a0 a1 a2 : AV) (σ : Heap) : Option (AV × Heap) :=
 (A.lenS a0).bind fun x1 =>
 (A.slice3 a0 (some a1) a2 x1).bind fun x2 =>
 (A.eql .i a1 a2).bind fun x3 =>
 A.cond x3 (
  A.renew [a0, a1, a2] σ a0 σ) (
  (A.lenS a0).bind fun x4 =>
  (A.sliceS 11 a0 none (some a1) σ).bind fun x5 =>
  (A.sliceS 11 a0 (some a2) none σ).bind fun x6 =>
  (A.append 11 (140737488355328 / 128) x5 x6 σ).bind fun r7 =>
  (A.lenS r7.1).bind fun x8 =>
  (A.sliceS 11 r7.1 (some x8) (some x4) r7.2).bind fun x9 =>
  (A.clearS 11 [(AV.int .i64 0), (AV.str ⟨#[]⟩), (AV.int .i64 0), (AV.int .i64 0), (AV.int .i64 0), (AV.int .i64 0), (AV.int .i64 0), AV.nsl, (AV.bool false), (AV.int .i64 0), AV.nsl] x9 r7.2).bind fun h10 =>
  A.renew [a0, a1, a2] σ r7.1 h10)
noncomputable def m_slices_Delete_api_Cue : List AV → Heap → Option (AV × Heap) := A.wrap false [] .k (A.ar3 r_slices_Delete_api_Cue)
noncomputable def r_slices_IndexFunc_api_Cue (dyn : Nat → List AV → Heap → Option (AV × Heap)) (a0 a1 : AV) (σ : Heap) : Option (AV × Heap) :=
 (A.lenS a0).bind fun x1 =>
 (A.loop (fun v2 s3 =>
   (A.lss (v2.getD 1 AV.undef) x1).bind fun x5 =>
   A.cond x5 (
    (A.iaddr 11 a0 (v2.getD 1 AV.undef)).bind fun x6 =>
    ((A.deref x6 s3).bind fun c7 => A.partA 0 11 c7).bind fun x8 =>
    (A.callv dyn a1 [x8] s3).bind fun r9 =>
    A.cond r9.1 (
     some (AX.ret, [(v2.getD 1 AV.undef), (v2.getD 1 AV.undef)], r9.2)) (
     (A.add (v2.getD 1 AV.undef) (AV.int .i64 1)).bind fun x10 =>
     some (AX.normal, [(v2.getD 0 AV.undef), x10], r9.2))) (
    some (AX.exit 0, [(v2.getD 0 AV.undef), (v2.getD 1 AV.undef)], s3))) [(AV.int .i64 0), (AV.int .i64 0)] σ).bind fun r11 =>
 bif r11.1 == AX.exit 0 then (
  A.fin σ (AV.int .i64 (-1)) r11.2.2) else
 bif r11.1 == AX.ret then (
  A.fin σ (r11.2.1.getD 0 AV.undef) r11.2.2) else
 none
noncomputable def m_slices_IndexFunc_api_Cue (dyn : Nat → List AV → Heap → Option (AV × Heap)) : List AV → Heap → Option (AV × Heap) := A.wrap true [(.s 11)] .k (A.ar2 (r_slices_IndexFunc_api_Cue dyn))
noncomputable def r_slices_ContainsFunc_api_Cue (dyn : Nat → List AV → Heap → Option (AV × Heap)) (a0 a1 : AV) (σ : Heap) : Option (AV × Heap) :=
 (m_slices_IndexFunc_api_Cue dyn [a0, a1] σ).bind fun r1 =>
 (A.geq r1.1 (AV.int .i64 0)).bind fun x2 =>
 A.fin σ x2 r1.2
noncomputable def m_slices_ContainsFunc_api_Cue (dyn : Nat → List AV → Heap → Option (AV × Heap)) : List AV → Heap → Option (AV × Heap) := A.wrap true [(.s 11)] .k (A.ar2 (r_slices_ContainsFunc_api_Cue dyn))
noncomputable def r_slices_Equal_api_Entry (a0 a1 : AV) (σ : Heap) : Option (AV × Heap) :=
 (A.lenS a0).bind fun x1 =>
 (A.lenS a1).bind fun x2 =>
 (A.neq .i x1 x2).bind fun x3 =>
 A.cond x3 (
  A.fin σ (AV.bool false) σ) (
  (A.lenS a0).bind fun x4 =>
  (A.loop (fun v5 s6 =>
    (A.lss (v5.getD 1 AV.undef) x4).bind fun x8 =>
    A.cond x8 (
     (A.iaddr 5 a0 (v5.getD 1 AV.undef)).bind fun x9 =>
     ((A.deref x9 s6).bind fun c10 => A.partA 0 5 c10).bind fun x11 =>
     (A.iaddr 5 a1 (v5.getD 1 AV.undef)).bind fun x12 =>
     ((A.deref x12 s6).bind fun c13 => A.partA 0 5 c13).bind fun x14 =>
     (A.neq (.s [0, 2, 0, 0, 0]) x11 x14).bind fun x15 =>
     A.cond x15 (
      some (AX.ret, [(AV.bool false), (v5.getD 1 AV.undef)], s6)) (
      (A.add (v5.getD 1 AV.undef) (AV.int .i64 1)).bind fun x16 =>
      some (AX.normal, [(v5.getD 0 AV.undef), x16], s6))) (
     some (AX.exit 0, [(v5.getD 0 AV.undef), (v5.getD 1 AV.undef)], s6))) [(AV.bool false), (AV.int .i64 0)] σ).bind fun r17 =>
  bif r17.1 == AX.exit 0 then (
   A.fin σ (AV.bool true) r17.2.2) else
  bif r17.1 == AX.ret then (
   A.fin σ (r17.2.1.getD 0 AV.undef) r17.2.2) else
  none)
noncomputable def m_slices_Equal_api_Entry : List AV → Heap → Option (AV × Heap) := A.wrap true [(.s 5), (.s 5)] .k (A.ar2 r_slices_Equal_api_Entry)
end Go.Proofs.Ytphgchakmkankaa

namespace Go.Proofs.Ytphgchakmkankaa
set_option linter.unusedSectionVars false
set_option linter.unusedSimpArgs false
set_option linter.unusedVariables false
set_option maxRecDepth 100000
noncomputable def r_word_Row (a0 : AV) (σ : Heap) : Option (AV × Heap) :=
 (A.lenZ a0).bind fun x1 =>
 (A.loop (fun v2 s3 =>
   (A.lss (v2.getD 1 AV.undef) x1).bind fun x5 =>
   A.cond x5 (
    (A.sidx a0 (v2.getD 1 AV.undef)).bind fun x6 =>
    (A.geq x6 (AV.int .u8 97)).bind fun x7 =>
    (A.guard x7 true (some x6) (some (AV.tup []))).bind fun x8 =>
    (A.guard x7 true (A.leq x8 (AV.int .u8 122)) (some (AV.tup []))).bind fun x9 =>
    (A.pick x7 x9 (AV.bool false)).bind fun x10 =>
    (A.guard x10 false (some x6) (some (AV.tup []))).bind fun x11 =>
    (A.guard x10 false (A.geq x11 (AV.int .u8 48)) (some (AV.tup []))).bind fun x12 =>
    (A.guard x10 false (some x12) (some (AV.tup []))).bind fun x13 =>
    (A.guard x13 true (some x6) (some (AV.tup []))).bind fun x14 =>
    (A.guard x13 true (A.leq x14 (AV.int .u8 57)) (some (AV.tup []))).bind fun x15 =>
    (A.guard x10 false (A.pick x13 x15 (AV.bool false)) (some (AV.tup []))).bind fun x16 =>
    (A.pick x10 (AV.bool true) x16).bind fun x17 =>
    (A.guard x17 false (some x6) (some (AV.tup []))).bind fun x18 =>
    (A.guard x17 false (A.eql .i x18 (AV.int .u8 45)) (some (AV.tup []))).bind fun x19 =>
    (A.pick x17 (AV.bool true) x19).bind fun x20 =>
    (A.not x20).bind fun x21 =>
    A.cond x21 (
     some (AX.ret, [(AV.bool false), (v2.getD 1 AV.undef)], s3)) (
     (A.add (v2.getD 1 AV.undef) (AV.int .i64 1)).bind fun x22 =>
     some (AX.normal, [(v2.getD 0 AV.undef), x22], s3))) (
    some (AX.exit 0, [(v2.getD 0 AV.undef), (v2.getD 1 AV.undef)], s3))) [(AV.bool false), (AV.int .i64 0)] σ).bind fun r23 =>
 bif r23.1 == AX.exit 0 then (
  (A.neq .z a0 (AV.str ⟨#[]⟩)).bind fun x24 =>
  A.fin σ x24 r23.2.2) else
 bif r23.1 == AX.ret then (
  A.fin σ (r23.2.1.getD 0 AV.undef) r23.2.2) else
 none
noncomputable def m_word_Row : List AV → Heap → Option (AV × Heap) := A.wrap true [] .k (A.ar1 r_word_Row)
noncomputable def r_word_Name (a0 : AV) (σ : Heap) : Option (AV × Heap) :=
 (m_word_Row [a0] σ).bind fun r1 =>
 (A.guard r1.1 true (some a0) (some (AV.tup []))).bind fun x2 =>
 (A.guard r1.1 true (A.lenZ x2) (some (AV.tup []))).bind fun x3 =>
 (A.guard r1.1 true (A.leq x3 (AV.int .i64 20)) (some (AV.tup []))).bind fun x4 =>
 (A.pick r1.1 x4 (AV.bool false)).bind fun x5 =>
 (A.guard x5 true (some a0) (some (AV.tup []))).bind fun x6 =>
 (A.guard x5 true (A.sidx x6 (AV.int .i64 0)) (some (AV.tup []))).bind fun x7 =>
 (A.guard x5 true (A.geq x7 (AV.int .u8 97)) (some (AV.tup []))).bind fun x8 =>
 (A.pick x5 x8 (AV.bool false)).bind fun x9 =>
 (A.guard x9 true (some a0) (some (AV.tup []))).bind fun x10 =>
 (A.guard x9 true (A.sidx x10 (AV.int .i64 0)) (some (AV.tup []))).bind fun x11 =>
 (A.guard x9 true (A.leq x11 (AV.int .u8 122)) (some (AV.tup []))).bind fun x12 =>
 (A.pick x9 x12 (AV.bool false)).bind fun x13 =>
 A.fin σ x13 r1.2
noncomputable def m_word_Name : List AV → Heap → Option (AV × Heap) := A.wrap true [] .k (A.ar1 r_word_Name)
noncomputable def r_word_Within (a0 a1 a2 : AV) (σ : Heap) : Option (AV × Heap) :=
 (A.geq a0 a1).bind fun x1 =>
 (A.guard x1 true (some a0) (some (AV.tup []))).bind fun x2 =>
 (A.guard x1 true (some a2) (some (AV.tup []))).bind fun x3 =>
 (A.guard x1 true (A.leq x2 x3) (some (AV.tup []))).bind fun x4 =>
 (A.pick x1 x4 (AV.bool false)).bind fun x5 =>
 A.fin σ x5 σ
noncomputable def m_word_Within : List AV → Heap → Option (AV × Heap) := A.wrap true [] .k (A.ar3 r_word_Within)
noncomputable def r_word_When (a0 a1 : AV) (σ : Heap) : Option (AV × Heap) :=
 A.cond a0 (
  A.fin σ a1 σ) (
  A.fin σ (AV.int .i64 0) σ)
noncomputable def m_word_When : List AV → Heap → Option (AV × Heap) := A.wrap true [] .k (A.ar2 r_word_When)
noncomputable def r_word_First (a0 : AV) (σ : Heap) : Option (AV × Heap) :=
 (A.lenS a0).bind fun x1 =>
 (A.loop (fun v2 s3 =>
   (A.lss (v2.getD 1 AV.undef) x1).bind fun x5 =>
   A.cond x5 (
    (A.iaddr 1 a0 (v2.getD 1 AV.undef)).bind fun x6 =>
    ((A.deref x6 s3).bind fun c7 => A.part1 0 c7).bind fun x8 =>
    (A.neq .i x8 (AV.int .i64 0)).bind fun x9 =>
    A.cond x9 (
     some (AX.ret, [x8, (v2.getD 1 AV.undef)], s3)) (
     (A.add (v2.getD 1 AV.undef) (AV.int .i64 1)).bind fun x10 =>
     some (AX.normal, [(v2.getD 0 AV.undef), x10], s3))) (
    some (AX.exit 0, [(v2.getD 0 AV.undef), (v2.getD 1 AV.undef)], s3))) [(AV.int .i64 0), (AV.int .i64 0)] σ).bind fun r11 =>
 bif r11.1 == AX.exit 0 then (
  A.fin σ (AV.int .i64 0) r11.2.2) else
 bif r11.1 == AX.ret then (
  A.fin σ (r11.2.1.getD 0 AV.undef) r11.2.2) else
 none
noncomputable def m_word_First : List AV → Heap → Option (AV × Heap) := A.wrap true [(.s 1)] .k (A.ar1 r_word_First)
noncomputable def r_word_Title (a0 : AV) (σ : Heap) : Option (AV × Heap) :=
 (A.lenZ a0).bind fun x1 =>
 (A.loop (fun v2 s3 =>
   (A.lss (v2.getD 1 AV.undef) x1).bind fun x5 =>
   A.cond x5 (
    (A.sidx a0 (v2.getD 1 AV.undef)).bind fun x6 =>
    (A.lss x6 (AV.int .u8 32)).bind fun x7 =>
    (A.guard x7 false (some a0) (some (AV.tup []))).bind fun x8 =>
    (A.guard x7 false (some (v2.getD 1 AV.undef)) (some (AV.tup []))).bind fun x9 =>
    (A.guard x7 false (A.sidx x8 x9) (some (AV.tup []))).bind fun x10 =>
    (A.guard x7 false (A.gtr x10 (AV.int .u8 126)) (some (AV.tup []))).bind fun x11 =>
    (A.pick x7 (AV.bool true) x11).bind fun x12 =>
    A.cond x12 (
     some (AX.ret, [(AV.bool false), (v2.getD 1 AV.undef)], s3)) (
     (A.add (v2.getD 1 AV.undef) (AV.int .i64 1)).bind fun x13 =>
     some (AX.normal, [(v2.getD 0 AV.undef), x13], s3))) (
    some (AX.exit 0, [(v2.getD 0 AV.undef), (v2.getD 1 AV.undef)], s3))) [(AV.bool false), (AV.int .i64 0)] σ).bind fun r14 =>
 bif r14.1 == AX.exit 0 then (
  (A.neq .z a0 (AV.str ⟨#[]⟩)).bind fun x15 =>
  (A.guard x15 true (some a0) (some (AV.tup []))).bind fun x16 =>
  (A.guard x15 true (A.lenZ x16) (some (AV.tup []))).bind fun x17 =>
  (A.guard x15 true (A.leq x17 (AV.int .i64 60)) (some (AV.tup []))).bind fun x18 =>
  (A.pick x15 x18 (AV.bool false)).bind fun x19 =>
  (A.guard x19 true (some a0) (some (AV.tup []))).bind fun x20 =>
  (A.guard x19 true (A.sidx x20 (AV.int .i64 0)) (some (AV.tup []))).bind fun x21 =>
  (A.guard x19 true (A.neq .i x21 (AV.int .u8 32)) (some (AV.tup []))).bind fun x22 =>
  (A.pick x19 x22 (AV.bool false)).bind fun x23 =>
  (A.guard x23 true (some a0) (some (AV.tup []))).bind fun x24 =>
  (A.guard x23 true (some a0) (some (AV.tup []))).bind fun x25 =>
  (A.guard x23 true (A.lenZ x25) (some (AV.tup []))).bind fun x26 =>
  (A.guard x23 true (A.sub x26 (AV.int .i64 1)) (some (AV.tup []))).bind fun x27 =>
  (A.guard x23 true (A.sidx x24 x27) (some (AV.tup []))).bind fun x28 =>
  (A.guard x23 true (A.neq .i x28 (AV.int .u8 32)) (some (AV.tup []))).bind fun x29 =>
  (A.pick x23 x29 (AV.bool false)).bind fun x30 =>
  A.fin σ x30 r14.2.2) else
 bif r14.1 == AX.ret then (
  A.fin σ (r14.2.1.getD 0 AV.undef) r14.2.2) else
 none
noncomputable def m_word_Title : List AV → Heap → Option (AV × Heap) := A.wrap true [] .k (A.ar1 r_word_Title)
end Go.Proofs.Ytphgchakmkankaa

namespace Go.Proofs.Ytphgchakmkankaa
set_option linter.unusedSectionVars false
set_option linter.unusedSimpArgs false
set_option linter.unusedVariables false
set_option maxRecDepth 100000
noncomputable def r_level_CheckCurve (a0 : AV) (σ : Heap) : Option (AV × Heap) :=
 (A.cells 2 a0).bind fun c1 =>
 (A.part1 0 c1).bind fun x2 =>
 (m_word_Within [x2, (AV.int .i64 1), (AV.int .i64 6)] σ).bind fun r3 =>
 (A.not r3.1).bind fun x4 =>
 A.cond x4 (
  A.fin σ (AV.int .i64 4) r3.2) (
  (A.part1 1 c1).bind fun x5 =>
  (A.part1 0 c1).bind fun x6 =>
  (A.neq .i x6 (AV.int .i64 6)).bind fun x7 =>
  A.cond x7 (
   (A.lenS x5).bind fun x8 =>
   (A.gtr x8 (AV.int .i64 0)).bind fun x9 =>
   (m_word_When [x9, (AV.int .i64 3)] r3.2).bind fun r10 =>
   A.fin σ r10.1 r10.2) (
   (A.lenS x5).bind fun x11 =>
   (A.lss x11 (AV.int .i64 2)).bind fun x12 =>
   A.cond x12 (
    A.fin σ (AV.int .i64 8) r3.2) (
    (A.lenS x5).bind fun x13 =>
    (A.gtr x13 (AV.int .i64 20)).bind fun x14 =>
    A.cond x14 (
     A.fin σ (AV.int .i64 2) r3.2) (
     (A.lenS x5).bind fun x15 =>
     (A.loop (fun v16 s17 =>
       (A.lss (v16.getD 1 AV.undef) x15).bind fun x19 =>
       A.cond x19 (
        (A.iaddr 2 x5 (v16.getD 1 AV.undef)).bind fun x20 =>
        ((A.deref x20 s17).bind fun c21 => A.partA 0 2 c21).bind fun x22 =>
        (A.cells 2 x22).bind fun c23 =>
        (A.splice 0 c23 [(AV.int .i64 0), (AV.int .i64 0)]).bind fun c24 =>
        (A.part1 0 c24).bind fun x25 =>
        (m_word_Within [x25, (AV.int .i64 0), (AV.int .i64 1000)] s17).bind fun r26 =>
        (A.not r26.1).bind fun x27 =>
        (A.guard x27 false (A.part1 1 c24) (some (AV.tup []))).bind fun x28 =>
        (A.guard x27 false (A.quiet (m_word_Within [x28, (AV.int .i64 0), (AV.int .i64 1000)] r26.2) r26.2) (some (AV.tup []))).bind fun x29 =>
        (A.guard x27 false (A.not x29) (some (AV.tup []))).bind fun x30 =>
        (A.pick x27 (AV.bool true) x30).bind fun x31 =>
        A.cond x31 (
         some (AX.ret, [(AV.int .i64 1), (v16.getD 1 AV.undef)], r26.2)) (
         (A.add (v16.getD 1 AV.undef) (AV.int .i64 1)).bind fun x32 =>
         some (AX.normal, [(v16.getD 0 AV.undef), x32], r26.2))) (
        some (AX.exit 0, [(v16.getD 0 AV.undef), (v16.getD 1 AV.undef)], s17))) [(AV.int .i64 0), (AV.int .i64 0)] r3.2).bind fun r33 =>
     bif r33.1 == AX.exit 0 then (
      (A.iaddr 2 x5 (AV.int .i64 0)).bind fun x34 =>
      ((A.deref x34 r33.2.2).bind fun c35 => A.partA 0 2 c35).bind fun x36 =>
      (A.neq (.s [0, 0]) x36 (AV.agg [(AV.int .i64 0), (AV.int .i64 0)])).bind fun x37 =>
      (A.guard x37 false (some x5) (some (AV.tup []))).bind fun x38 =>
      (A.guard x37 false (some x5) (some (AV.tup []))).bind fun x39 =>
      (A.guard x37 false (A.lenS x39) (some (AV.tup []))).bind fun x40 =>
      (A.guard x37 false (A.sub x40 (AV.int .i64 1)) (some (AV.tup []))).bind fun x41 =>
      (A.guard x37 false (A.iaddr 2 x38 x41) (some (AV.tup []))).bind fun x42 =>
      (A.guard x37 false ((A.deref x42 r33.2.2).bind fun c43 => A.partA 0 2 c43) (some (AV.tup []))).bind fun x44 =>
      (A.guard x37 false ((((A.cell (AV.int .i64 1000)).bind fun v => some [v]).bind fun c45 => (A.splice 0 c45 [(AV.int .i64 0), (AV.int .i64 0)]).bind fun c46 => ((A.cell (AV.int .i64 1000)).bind fun v => some [v]).bind fun c47 => (A.splice 1 c47 c46).bind fun c48 => some c48).bind fun cs => some (AV.agg cs)) (some (AV.tup []))).bind fun x49 =>
      (A.guard x37 false (A.neq (.s [0, 0]) x44 x49) (some (AV.tup []))).bind fun x50 =>
      (A.pick x37 (AV.bool true) x50).bind fun x51 =>
      A.cond x51 (
       A.fin σ (AV.int .i64 3) r33.2.2) (
       (A.loop (fun v52 s53 =>
         (A.lenS x5).bind fun x55 =>
         (A.lss (v52.getD 1 AV.undef) x55).bind fun x56 =>
         A.cond x56 (
          (A.iaddr 2 x5 (v52.getD 1 AV.undef)).bind fun x57 =>
          (A.faddr 0 x57).bind fun x58 =>
          ((A.deref x58 s53).bind fun c59 => A.part1 0 c59).bind fun x60 =>
          (A.sub (v52.getD 1 AV.undef) (AV.int .i64 1)).bind fun x61 =>
          (A.iaddr 2 x5 x61).bind fun x62 =>
          (A.faddr 0 x62).bind fun x63 =>
          ((A.deref x63 s53).bind fun c64 => A.part1 0 c64).bind fun x65 =>
          (A.leq x60 x65).bind fun x66 =>
          (A.guard x66 false (some x5) (some (AV.tup []))).bind fun x67 =>
          (A.guard x66 false (some (v52.getD 1 AV.undef)) (some (AV.tup []))).bind fun x68 =>
          (A.guard x66 false (A.iaddr 2 x67 x68) (some (AV.tup []))).bind fun x69 =>
          (A.guard x66 false (A.faddr 1 x69) (some (AV.tup []))).bind fun x70 =>
          (A.guard x66 false ((A.deref x70 s53).bind fun c71 => A.part1 0 c71) (some (AV.tup []))).bind fun x72 =>
          (A.guard x66 false (some x5) (some (AV.tup []))).bind fun x73 =>
          (A.guard x66 false (some (v52.getD 1 AV.undef)) (some (AV.tup []))).bind fun x74 =>
          (A.guard x66 false (A.sub x74 (AV.int .i64 1)) (some (AV.tup []))).bind fun x75 =>
          (A.guard x66 false (A.iaddr 2 x73 x75) (some (AV.tup []))).bind fun x76 =>
          (A.guard x66 false (A.faddr 1 x76) (some (AV.tup []))).bind fun x77 =>
          (A.guard x66 false ((A.deref x77 s53).bind fun c78 => A.part1 0 c78) (some (AV.tup []))).bind fun x79 =>
          (A.guard x66 false (A.lss x72 x79) (some (AV.tup []))).bind fun x80 =>
          (A.pick x66 (AV.bool true) x80).bind fun x81 =>
          A.cond x81 (
           some (AX.ret, [(AV.int .i64 7), (v52.getD 1 AV.undef)], s53)) (
           (A.add (v52.getD 1 AV.undef) (AV.int .i64 1)).bind fun x82 =>
           some (AX.normal, [(v52.getD 0 AV.undef), x82], s53))) (
          some (AX.exit 2, [(v52.getD 0 AV.undef), (v52.getD 1 AV.undef)], s53))) [(r33.2.1.getD 0 AV.undef), (AV.int .i64 1)] r33.2.2).bind fun r83 =>
       bif r83.1 == AX.exit 2 then (
        A.fin σ (AV.int .i64 0) r83.2.2) else
       bif r83.1 == AX.ret then (
        A.fin σ (r83.2.1.getD 0 AV.undef) r83.2.2) else
       none)) else
     bif r33.1 == AX.ret then (
      A.fin σ (r33.2.1.getD 0 AV.undef) r33.2.2) else
     none))))
noncomputable def m_level_CheckCurve : List AV → Heap → Option (AV × Heap) := A.wrap true [(.a [.k, (.s 2)])] .k (A.ar1 r_level_CheckCurve)
end Go.Proofs.Ytphgchakmkankaa

namespace Go.Proofs.Ytphgchakmkankaa
set_option linter.unusedSectionVars false
set_option linter.unusedSimpArgs false
set_option linter.unusedVariables false
set_option maxRecDepth 100000
noncomputable def r_cue_isTime (a0 : AV) (σ : Heap) : Option (AV × Heap) :=
 (m_word_Within [a0, (AV.int .i64 0), (AV.int .i64 36000000)] σ).bind fun r1 =>
 A.fin σ r1.1 r1.2
noncomputable def m_cue_isTime : List AV → Heap → Option (AV × Heap) := A.wrap true [] .k (A.ar1 r_cue_isTime)
noncomputable def r_cue_compare (a0 a1 : AV) (σ : Heap) : Option (AV × Heap) :=
 (A.cells 2 a0).bind fun c1 =>
 (A.cells 2 a1).bind fun c2 =>
 (A.part1 0 c1).bind fun x3 =>
 (A.part1 0 c2).bind fun x4 =>
 (A.neq .i x3 x4).bind fun x5 =>
 A.cond x5 (
  (A.part1 0 c1).bind fun x6 =>
  (A.part1 0 c2).bind fun x7 =>
  (A.lss x6 x7).bind fun x8 =>
  A.cond x8 (
   A.fin σ (AV.int .i64 (-1)) σ) (
   A.fin σ (AV.int .i64 1) σ)) (
  (A.part1 1 c1).bind fun x9 =>
  (A.part1 1 c2).bind fun x10 =>
  (m_strings_Compare [x9, x10] σ).bind fun r11 =>
  A.fin σ r11.1 r11.2)
noncomputable def m_cue_compare : List AV → Heap → Option (AV × Heap) := A.wrap true [] .k (A.ar2 r_cue_compare)
noncomputable def r_cue_checkMoves (a0 : AV) (σ : Heap) : Option (AV × Heap) :=
 (A.lenS a0).bind fun x1 =>
 (A.loop (fun v2 s3 =>
   (A.lss (v2.getD 1 AV.undef) x1).bind fun x5 =>
   A.cond x5 (
    (A.iaddr 8 a0 (v2.getD 1 AV.undef)).bind fun x6 =>
    ((A.deref x6 s3).bind fun c7 => A.partA 0 8 c7).bind fun x8 =>
    (A.cells 8 x8).bind fun c9 =>
    (A.splice 0 c9 [(AV.int .i64 0), (AV.str ⟨#[]⟩), (AV.int .i64 0), (AV.int .i64 0), (AV.bool false), (AV.bool false), (AV.int .i64 0), (AV.int .i64 0)]).bind fun c10 =>
    (A.part1 0 c10).bind fun x11 =>
    (m_word_Within [x11, (AV.int .i64 1), (AV.int .i64 9999)] s3).bind fun r12 =>
    (A.not r12.1).bind fun x13 =>
    A.cond x13 (
     some (AX.ret, [(AV.int .i64 1), (v2.getD 1 AV.undef)], r12.2)) (
     (A.part1 1 c10).bind fun x14 =>
     (m_word_Name [x14] r12.2).bind fun r15 =>
     (A.not r15.1).bind fun x16 =>
     A.cond x16 (
      some (AX.ret, [(AV.int .i64 5), (v2.getD 1 AV.undef)], r15.2)) (
      (A.part1 4 c10).bind fun x17 =>
      (A.guard x17 true (A.partA 2 2 c10) (some (AV.tup []))).bind fun x18 =>
      (A.guard x17 true (some (AV.agg [(AV.int .i64 0), (AV.int .i64 0)])) (some (AV.tup []))).bind fun x19 =>
      (A.guard x17 true (A.neq (.s [0, 0]) x18 x19) (some (AV.tup []))).bind fun x20 =>
      (A.pick x17 x20 (AV.bool false)).bind fun x21 =>
      (A.guard x21 false (A.part1 2 c10) (some (AV.tup []))).bind fun x22 =>
      (A.guard x21 false (A.neq .i x22 (AV.int .i64 0)) (some (AV.tup []))).bind fun x23 =>
      (A.guard x21 false (some x23) (some (AV.tup []))).bind fun x24 =>
      (A.guard x24 true (A.part1 3 c10) (some (AV.tup []))).bind fun x25 =>
      (A.guard x24 true (A.neq .i x25 (AV.int .i64 0)) (some (AV.tup []))).bind fun x26 =>
      (A.guard x21 false (A.pick x24 x26 (AV.bool false)) (some (AV.tup []))).bind fun x27 =>
      (A.pick x21 (AV.bool true) x27).bind fun x28 =>
      A.cond x28 (
       some (AX.ret, [(AV.int .i64 3), (v2.getD 1 AV.undef)], r15.2)) (
       (A.part1 2 c10).bind fun x29 =>
       (m_word_Within [x29, (AV.int .i64 0), (AV.int .i64 65535)] r15.2).bind fun r30 =>
       (A.not r30.1).bind fun x31 =>
       (A.guard x31 false (A.part1 3 c10) (some (AV.tup []))).bind fun x32 =>
       (A.guard x31 false (A.quiet (m_word_Within [x32, (AV.int .i64 0), (AV.int .i64 999)] r30.2) r30.2) (some (AV.tup []))).bind fun x33 =>
       (A.guard x31 false (A.not x33) (some (AV.tup []))).bind fun x34 =>
       (A.pick x31 (AV.bool true) x34).bind fun x35 =>
       A.cond x35 (
        some (AX.ret, [(AV.int .i64 1), (v2.getD 1 AV.undef)], r30.2)) (
        (A.part1 5 c10).bind fun x36 =>
        (A.not x36).bind fun x37 =>
        (A.guard x37 true (A.part1 6 c10) (some (AV.tup []))).bind fun x38 =>
        (A.guard x37 true (A.neq .i x38 (AV.int .i64 0)) (some (AV.tup []))).bind fun x39 =>
        (A.guard x37 true (some x39) (some (AV.tup []))).bind fun x40 =>
        (A.guard x40 false (A.part1 7 c10) (some (AV.tup []))).bind fun x41 =>
        (A.guard x40 false (A.neq .i x41 (AV.int .i64 0)) (some (AV.tup []))).bind fun x42 =>
        (A.guard x37 true (A.pick x40 (AV.bool true) x42) (some (AV.tup []))).bind fun x43 =>
        (A.pick x37 x43 (AV.bool false)).bind fun x44 =>
        A.cond x44 (
         some (AX.ret, [(AV.int .i64 3), (v2.getD 1 AV.undef)], r30.2)) (
         (A.part1 6 c10).bind fun x45 =>
         (m_cue_isTime [x45] r30.2).bind fun r46 =>
         (A.not r46.1).bind fun x47 =>
         (A.guard x47 false (A.part1 7 c10) (some (AV.tup []))).bind fun x48 =>
         (A.guard x47 false (A.quiet (m_cue_isTime [x48] r46.2) r46.2) (some (AV.tup []))).bind fun x49 =>
         (A.guard x47 false (A.not x49) (some (AV.tup []))).bind fun x50 =>
         (A.pick x47 (AV.bool true) x50).bind fun x51 =>
         A.cond x51 (
          some (AX.ret, [(AV.int .i64 1), (v2.getD 1 AV.undef)], r46.2)) (
          (A.gtr (v2.getD 1 AV.undef) (AV.int .i64 0)).bind fun x52 =>
          (A.guard x52 true (some a0) (some (AV.tup []))).bind fun x53 =>
          (A.guard x52 true (some (v2.getD 1 AV.undef)) (some (AV.tup []))).bind fun x54 =>
          (A.guard x52 true (A.sub x54 (AV.int .i64 1)) (some (AV.tup []))).bind fun x55 =>
          (A.guard x52 true (A.iaddr 8 x53 x55) (some (AV.tup []))).bind fun x56 =>
          (A.guard x52 true (A.faddr 0 x56) (some (AV.tup []))).bind fun x57 =>
          (A.guard x52 true ((A.deref x57 r46.2).bind fun c58 => A.partA 0 2 c58) (some (AV.tup []))).bind fun x59 =>
          (A.guard x52 true (A.partA 0 2 c10) (some (AV.tup []))).bind fun x60 =>
          (A.guard x52 true (A.quiet (m_cue_compare [x59, x60] r46.2) r46.2) (some (AV.tup []))).bind fun x61 =>
          (A.guard x52 true (A.geq x61 (AV.int .i64 0)) (some (AV.tup []))).bind fun x62 =>
          (A.pick x52 x62 (AV.bool false)).bind fun x63 =>
          A.cond x63 (
           some (AX.ret, [(AV.int .i64 7), (v2.getD 1 AV.undef)], r46.2)) (
           (A.add (v2.getD 1 AV.undef) (AV.int .i64 1)).bind fun x64 =>
           some (AX.normal, [(v2.getD 0 AV.undef), x64], r46.2))))))))) (
    some (AX.exit 0, [(v2.getD 0 AV.undef), (v2.getD 1 AV.undef)], s3))) [(AV.int .i64 0), (AV.int .i64 0)] σ).bind fun r65 =>
 bif r65.1 == AX.exit 0 then (
  A.fin σ (AV.int .i64 0) r65.2.2) else
 bif r65.1 == AX.ret then (
  A.fin σ (r65.2.1.getD 0 AV.undef) r65.2.2) else
 none
noncomputable def m_cue_checkMoves : List AV → Heap → Option (AV × Heap) := A.wrap true [(.s 8)] .k (A.ar1 r_cue_checkMoves)
noncomputable def r_cue_form (a0 : AV) (σ : Heap) : Option (AV × Heap) :=
 (A.lenS a0).bind fun x1 =>
 (A.gtr x1 (AV.int .i64 300)).bind fun x2 =>
 A.cond x2 (
  A.fin σ (AV.int .i64 2) σ) (
  (A.lenS a0).bind fun x3 =>
  (A.loop (fun v4 s5 =>
    (A.lss (v4.getD 2 AV.undef) x3).bind fun x7 =>
    A.cond x7 (
     (A.iaddr 11 a0 (v4.getD 2 AV.undef)).bind fun x8 =>
     ((A.deref x8 s5).bind fun c9 => A.partA 0 11 c9).bind fun x10 =>
     (A.cells 11 x10).bind fun c11 =>
     (A.splice 0 c11 [(AV.int .i64 0), (AV.str ⟨#[]⟩), (AV.int .i64 0), (AV.int .i64 0), (AV.int .i64 0), (AV.int .i64 0), (AV.int .i64 0), AV.nsl, (AV.bool false), (AV.int .i64 0), AV.nsl]).bind fun c12 =>
     (A.part1 0 c12).bind fun x13 =>
     (m_word_Within [x13, (AV.int .i64 1), (AV.int .i64 9999999)] s5).bind fun r14 =>
     (A.not r14.1).bind fun x15 =>
     A.cond x15 (
      some (AX.ret, [(AV.int .i64 1), (v4.getD 1 AV.undef), (v4.getD 2 AV.undef)], r14.2)) (
      (A.gtr (v4.getD 2 AV.undef) (AV.int .i64 0)).bind fun x16 =>
      (A.guard x16 true (A.part1 0 c12) (some (AV.tup []))).bind fun x17 =>
      (A.guard x16 true (some a0) (some (AV.tup []))).bind fun x18 =>
      (A.guard x16 true (some (v4.getD 2 AV.undef)) (some (AV.tup []))).bind fun x19 =>
      (A.guard x16 true (A.sub x19 (AV.int .i64 1)) (some (AV.tup []))).bind fun x20 =>
      (A.guard x16 true (A.iaddr 11 x18 x20) (some (AV.tup []))).bind fun x21 =>
      (A.guard x16 true (A.faddr 0 x21) (some (AV.tup []))).bind fun x22 =>
      (A.guard x16 true ((A.deref x22 r14.2).bind fun c23 => A.part1 0 c23) (some (AV.tup []))).bind fun x24 =>
      (A.guard x16 true (A.leq x17 x24) (some (AV.tup []))).bind fun x25 =>
      (A.pick x16 x25 (AV.bool false)).bind fun x26 =>
      A.cond x26 (
       some (AX.ret, [(AV.int .i64 7), (v4.getD 1 AV.undef), (v4.getD 2 AV.undef)], r14.2)) (
       (A.part1 1 c12).bind fun x27 =>
       (A.neq .z x27 (AV.str ⟨#[]⟩)).bind fun x28 =>
       (A.guard x28 true (A.part1 1 c12) (some (AV.tup []))).bind fun x29 =>
       (A.guard x28 true (A.quiet (m_word_Title [x29] r14.2) r14.2) (some (AV.tup []))).bind fun x30 =>
       (A.guard x28 true (A.not x30) (some (AV.tup []))).bind fun x31 =>
       (A.pick x28 x31 (AV.bool false)).bind fun x32 =>
       A.cond x32 (
        some (AX.ret, [(AV.int .i64 3), (v4.getD 1 AV.undef), (v4.getD 2 AV.undef)], r14.2)) (
        (A.part1 2 c12).bind fun x33 =>
        (m_cue_isTime [x33] r14.2).bind fun r34 =>
        (A.not r34.1).bind fun x35 =>
        (A.guard x35 false (A.part1 3 c12) (some (AV.tup []))).bind fun x36 =>
        (A.guard x35 false (A.quiet (m_cue_isTime [x36] r34.2) r34.2) (some (AV.tup []))).bind fun x37 =>
        (A.guard x35 false (A.not x37) (some (AV.tup []))).bind fun x38 =>
        (A.pick x35 (AV.bool true) x38).bind fun x39 =>
        (A.guard x39 false (A.part1 4 c12) (some (AV.tup []))).bind fun x40 =>
        (A.guard x39 false (A.quiet (m_cue_isTime [x40] r34.2) r34.2) (some (AV.tup []))).bind fun x41 =>
        (A.guard x39 false (A.not x41) (some (AV.tup []))).bind fun x42 =>
        (A.pick x39 (AV.bool true) x42).bind fun x43 =>
        (A.guard x43 false (A.part1 5 c12) (some (AV.tup []))).bind fun x44 =>
        (A.guard x43 false (A.quiet (m_cue_isTime [x44] r34.2) r34.2) (some (AV.tup []))).bind fun x45 =>
        (A.guard x43 false (A.not x45) (some (AV.tup []))).bind fun x46 =>
        (A.pick x43 (AV.bool true) x46).bind fun x47 =>
        (A.guard x47 false (A.part1 9 c12) (some (AV.tup []))).bind fun x48 =>
        (A.guard x47 false (A.quiet (m_word_Within [x48, (AV.int .i64 (-1)), (AV.int .i64 36000000)] r34.2) r34.2) (some (AV.tup []))).bind fun x49 =>
        (A.guard x47 false (A.not x49) (some (AV.tup []))).bind fun x50 =>
        (A.pick x47 (AV.bool true) x50).bind fun x51 =>
        A.cond x51 (
         some (AX.ret, [(AV.int .i64 1), (v4.getD 1 AV.undef), (v4.getD 2 AV.undef)], r34.2)) (
         (A.partA 6 2 c12).bind fun x52 =>
         (m_level_CheckCurve [x52] r34.2).bind fun r53 =>
         (A.neq .i r53.1 (AV.int .i64 0)).bind fun x54 =>
         A.cond x54 (
          some (AX.ret, [r53.1, (v4.getD 1 AV.undef), (v4.getD 2 AV.undef)], r53.2)) (
          (A.part1 10 c12).bind fun x55 =>
          (A.lenS x55).bind fun x56 =>
          (A.gtr x56 (AV.int .i64 2000)).bind fun x57 =>
          A.cond x57 (
           some (AX.ret, [(AV.int .i64 2), (v4.getD 1 AV.undef), (v4.getD 2 AV.undef)], r53.2)) (
           (A.part1 10 c12).bind fun x58 =>
           (m_cue_checkMoves [x58] r53.2).bind fun r59 =>
           (A.neq .i r59.1 (AV.int .i64 0)).bind fun x60 =>
           A.cond x60 (
            some (AX.ret, [r59.1, (v4.getD 1 AV.undef), (v4.getD 2 AV.undef)], r59.2)) (
            (A.part1 10 c12).bind fun x61 =>
            (A.lenS x61).bind fun x62 =>
            (A.add (v4.getD 1 AV.undef) x62).bind fun x63 =>
            (A.add (v4.getD 2 AV.undef) (AV.int .i64 1)).bind fun x64 =>
            some (AX.normal, [(v4.getD 0 AV.undef), x63, x64], r59.2))))))))) (
     some (AX.exit 0, [(v4.getD 0 AV.undef), (v4.getD 1 AV.undef), (v4.getD 2 AV.undef)], s5))) [(AV.int .i64 0), (AV.int .i64 0), (AV.int .i64 0)] σ).bind fun r65 =>
  bif r65.1 == AX.exit 0 then (
   (A.gtr (r65.2.1.getD 1 AV.undef) (AV.int .i64 10000)).bind fun x66 =>
   (m_word_When [x66, (AV.int .i64 2)] r65.2.2).bind fun r67 =>
   A.fin σ r67.1 r67.2) else
  bif r65.1 == AX.ret then (
   A.fin σ (r65.2.1.getD 0 AV.undef) r65.2.2) else
  none)
noncomputable def m_cue_form : List AV → Heap → Option (AV × Heap) := A.wrap true [(.e 11 [.k, .k, .k, .k, .k, .k, .k, (.s 2), .k, .k, (.s 8)])] .k (A.ar1 r_cue_form)
noncomputable def r_cue_state (a0 : AV) (σ : Heap) : Option (AV × Heap) :=
 (A.lenS a0).bind fun x1 =>
 (A.loop (fun v2 s3 =>
   (A.lss (v2.getD 0 AV.undef) x1).bind fun x5 =>
   A.cond x5 (
    (A.iaddr 11 a0 (v2.getD 0 AV.undef)).bind fun x6 =>
    ((A.deref x6 s3).bind fun c7 => A.partA 0 11 c7).bind fun x8 =>
    (A.cells 11 x8).bind fun c9 =>
    (A.splice 0 c9 [(AV.int .i64 0), (AV.str ⟨#[]⟩), (AV.int .i64 0), (AV.int .i64 0), (AV.int .i64 0), (AV.int .i64 0), (AV.int .i64 0), AV.nsl, (AV.bool false), (AV.int .i64 0), AV.nsl]).bind fun c10 =>
    (A.part1 10 c10).bind fun x11 =>
    (A.lenS x11).bind fun x12 =>
    (A.loop (fun v13 s14 =>
      (A.lss (v13.getD 1 AV.undef) x12).bind fun x16 =>
      A.cond x16 (
       (A.iaddr 8 x11 (v13.getD 1 AV.undef)).bind fun x17 =>
       ((A.deref x17 s14).bind fun c18 => A.partA 0 8 c18).bind fun x19 =>
       (A.cells 8 x19).bind fun c20 =>
       (A.splice 0 c20 [(AV.int .i64 0), (AV.str ⟨#[]⟩), (AV.int .i64 0), (AV.int .i64 0), (AV.bool false), (AV.bool false), (AV.int .i64 0), (AV.int .i64 0)]).bind fun c21 =>
       (A.part1 4 c21).bind fun x22 =>
       (A.cond x22 (
        (A.partA 0 2 c21).bind fun x24 =>
        (A.mdel (.s [0, 2]) (AV.om σ.length) x24 s14).bind fun h25 =>
        some ([(v13.getD 0 AV.undef)], h25)) (
        (A.partA 0 2 c21).bind fun x26 =>
        (A.partA 0 2 c21).bind fun x27 =>
        (A.partA 2 2 c21).bind fun x28 =>
        ((A.lb (v13.getD 0 AV.undef)).bind fun _ => some (0)).bind fun p29 =>
        ((A.lb (v13.getD 0 AV.undef)).bind fun c30 => A.part1 p29 c30).bind fun x31 =>
        (((A.cells 2 x27).bind fun c32 => (A.splice 0 c32 [(AV.int .i64 0), (AV.str ⟨#[]⟩), (AV.int .i64 0), (AV.int .i64 0), (AV.int .i64 0)]).bind fun c33 => (A.cells 2 x28).bind fun c34 => (A.splice 2 c34 c33).bind fun c35 => ((A.cell x31).bind fun v => some [v]).bind fun c36 => (A.splice 4 c36 c35).bind fun c37 => some c37).bind fun cs => some (AV.agg cs)).bind fun x38 =>
        (A.mupd (.s [0, 2]) (AV.om σ.length) x26 x38 s14).bind fun h39 =>
        some ([(v13.getD 0 AV.undef)], h39))).bind fun r23 =>
       (A.add (v13.getD 1 AV.undef) (AV.int .i64 1)).bind fun x40 =>
       some (AX.normal, [(r23.1.getD 0 AV.undef), x40], r23.2)) (
       some (AX.exit 2, [(v13.getD 0 AV.undef), (v13.getD 1 AV.undef)], s14))) [(AV.lbx c10), (AV.int .i64 0)] s3).bind fun r41 =>
    bif r41.1 == AX.exit 2 then (
     (A.add (v2.getD 0 AV.undef) (AV.int .i64 1)).bind fun x42 =>
     some (AX.normal, [x42], r41.2.2)) else
    none) (
    some (AX.exit 0, [(v2.getD 0 AV.undef)], s3))) [(AV.int .i64 0)] (σ ++ [Blk.map []])).bind fun r43 =>
 bif r43.1 == AX.exit 0 then (
  A.fin σ (AV.om σ.length) r43.2.2) else
 none
noncomputable def m_cue_state : List AV → Heap → Option (AV × Heap) := A.wrap true [(.e 11 [.k, .k, .k, .k, .k, .k, .k, (.s 2), .k, .k, (.s 8)])] .k (A.ar1 r_cue_state)
noncomputable def r_cue_copied (a0 : AV) (σ : Heap) : Option (AV × Heap) :=
 (A.lenS a0).bind fun x1 =>
 (A.loop (fun v2 s3 =>
   (A.lss (v2.getD 1 AV.undef) x1).bind fun x5 =>
   A.cond x5 (
    (A.iaddr 11 a0 (v2.getD 1 AV.undef)).bind fun x6 =>
    ((A.deref x6 s3).bind fun c7 => A.partA 0 11 c7).bind fun x8 =>
    (A.cells 11 x8).bind fun c9 =>
    (A.splice 0 c9 [(AV.int .i64 0), (AV.str ⟨#[]⟩), (AV.int .i64 0), (AV.int .i64 0), (AV.int .i64 0), (AV.int .i64 0), (AV.int .i64 0), AV.nsl, (AV.bool false), (AV.int .i64 0), AV.nsl]).bind fun c10 =>
    (A.part1 7 c10).bind fun x11 =>
    (m_slices_Clone_api_Point [x11] s3).bind fun r12 =>
    ((A.cell r12.1).bind fun v => some [v]).bind fun c13 =>
    (A.splice 7 c13 c10).bind fun c14 =>
    (A.part1 10 c14).bind fun x15 =>
    (m_slices_Clone_api_Move [x15] r12.2).bind fun r16 =>
    ((A.cell r16.1).bind fun v => some [v]).bind fun c17 =>
    (A.splice 10 c17 c14).bind fun c18 =>
    (A.partA 0 11 c18).bind fun x19 =>
    (((A.cells 11 x19).bind fun c20 => (A.splice 0 c20 [(AV.int .i64 0), (AV.str ⟨#[]⟩), (AV.int .i64 0), (AV.int .i64 0), (AV.int .i64 0), (AV.int .i64 0), (AV.int .i64 0), AV.nsl, (AV.bool false), (AV.int .i64 0), AV.nsl]).bind fun c21 => some c21).bind fun cs => some (AV.sl 11 (chunks 11 1 cs))).bind fun x22 =>
    (A.append 11 (140737488355328 / 128) (v2.getD 0 AV.undef) x22 r16.2).bind fun r23 =>
    (A.add (v2.getD 1 AV.undef) (AV.int .i64 1)).bind fun x24 =>
    some (AX.normal, [r23.1, x24], r23.2)) (
    some (AX.exit 0, [(v2.getD 0 AV.undef), (v2.getD 1 AV.undef)], s3))) [AV.nsl, (AV.int .i64 0)] σ).bind fun r25 =>
 bif r25.1 == AX.exit 0 then (
  some ((r25.2.1.getD 0 AV.undef), r25.2.2)) else
 none
noncomputable def m_cue_copied : List AV → Heap → Option (AV × Heap) := A.wrap true [(.e 11 [.k, .k, .k, .k, .k, .k, .k, (.s 2), .k, .k, (.s 8)])] .k (A.ar1 r_cue_copied)
noncomputable def r_cue_place_fn1 (a0 a1 : AV) (σ : Heap) : Option (AV × Heap) :=
 (A.cells 11 a0).bind fun c1 =>
 (A.part1 0 c1).bind fun x2 =>
 (A.sub x2 a1).bind fun x3 =>
 A.fin σ x3 σ
noncomputable def m_cue_place_fn1 : List AV → Heap → Option (AV × Heap) := A.wrap true [(.a [.k, .k, .k, .k, .k, .k, .k, (.s 2), .k, .k, (.s 8)])] .k (A.ar2 r_cue_place_fn1)
noncomputable def r_cue_place (a0 a1 : AV) (σ : Heap) : Option (AV × Heap) :=
 (m_slices_BinarySearchFunc_api_Cue_int (A.tab (fun _ _ => none) [(177, m_cue_place_fn1)]) [a0, a1, (AV.fn 177 [])] σ).bind fun r1 =>
 (A.ext 0 r1.1).bind fun x2 =>
 (A.ext 1 r1.1).bind fun x3 =>
 A.fin σ (AV.tup [x2, x3]) r1.2
noncomputable def m_cue_place : List AV → Heap → Option (AV × Heap) := A.wrap true [(.e 11 [.k, .k, .k, .k, .k, .k, .k, (.s 2), .k, .k, (.s 8)])] .k (A.ar2 r_cue_place)
noncomputable def r_cue_moveAt_fn1 (a0 a1 : AV) (σ : Heap) : Option (AV × Heap) :=
 (A.cells 8 a0).bind fun c1 =>
 (A.cells 2 a1).bind fun c2 =>
 (A.partA 0 2 c1).bind fun x3 =>
 (A.partA 0 2 c2).bind fun x4 =>
 (m_cue_compare [x3, x4] σ).bind fun r5 =>
 A.fin σ r5.1 r5.2
noncomputable def m_cue_moveAt_fn1 : List AV → Heap → Option (AV × Heap) := A.wrap true [] .k (A.ar2 r_cue_moveAt_fn1)
noncomputable def r_cue_moveAt (a0 a1 : AV) (σ : Heap) : Option (AV × Heap) :=
 (A.cells 11 a0).bind fun c1 =>
 (A.cells 2 a1).bind fun c2 =>
 (A.part1 10 c1).bind fun x3 =>
 (A.partA 0 2 c2).bind fun x4 =>
 (m_slices_BinarySearchFunc_api_Move_api_Key (A.tab (fun _ _ => none) [(185, m_cue_moveAt_fn1)]) [x3, x4, (AV.fn 185 [])] σ).bind fun r5 =>
 (A.ext 0 r5.1).bind fun x6 =>
 (A.ext 1 r5.1).bind fun x7 =>
 A.fin σ (AV.tup [x6, x7]) r5.2
noncomputable def m_cue_moveAt : List AV → Heap → Option (AV × Heap) := A.wrap true [(.a [.k, .k, .k, .k, .k, .k, .k, (.s 2), .k, .k, (.s 8)])] .k (A.ar2 r_cue_moveAt)
noncomputable def r_cue_put (a0 a1 : AV) (σ : Heap) : Option (AV × Heap) :=
 (A.cells 8 a1).bind fun c1 =>
 (A.nilck a0).bind fun x2 =>
 ((A.deref x2 σ).bind fun c3 => A.partA 0 11 c3).bind fun x4 =>
 (A.partA 0 2 c1).bind fun x5 =>
 (A.quiet (m_cue_moveAt [x4, x5] σ) σ).bind fun x6 =>
 (A.ext 0 x6).bind fun x7 =>
 (A.ext 1 x6).bind fun x8 =>
 A.cond x8 (
  (A.nilck a0).bind fun x9 =>
  (A.faddr 10 x9).bind fun x10 =>
  ((A.deref x10 σ).bind fun c11 => A.part1 0 c11).bind fun x12 =>
  (A.partA 0 8 c1).bind fun x13 =>
  (A.iaddr 8 x12 x7).bind fun x14 =>
  (A.cells 8 x13).bind fun c15 =>
  (A.storeAt x14 c15 σ).bind fun c16 =>
  some ((AV.tup []), c16)) (
  (A.nilck a0).bind fun x17 =>
  (A.faddr 10 x17).bind fun x18 =>
  ((A.deref x18 σ).bind fun c19 => A.part1 0 c19).bind fun x20 =>
  (A.partA 0 8 c1).bind fun x21 =>
  (((A.cells 8 x21).bind fun c22 => (A.splice 0 c22 [(AV.int .i64 0), (AV.str ⟨#[]⟩), (AV.int .i64 0), (AV.int .i64 0), (AV.bool false), (AV.bool false), (AV.int .i64 0), (AV.int .i64 0)]).bind fun c23 => some c23).bind fun cs => some (AV.sl 8 (chunks 8 1 cs))).bind fun x24 =>
  (m_slices_Insert_api_Move [x20, x7, x24] σ).bind fun r25 =>
  (A.nilck a0).bind fun x26 =>
  (A.faddr 10 x26).bind fun x27 =>
  ((A.cell r25.1).bind fun v => some [v]).bind fun c28 =>
  (A.storeAt x27 c28 r25.2).bind fun c29 =>
  some ((AV.tup []), c29))
noncomputable def m_cue_put : List AV → Heap → Option (AV × Heap) := A.wrap false [] .k (A.ar2 r_cue_put)
noncomputable def r_cue_done (a0 : AV) (σ : Heap) : Option (AV × Heap) :=
 (m_cue_form [a0] σ).bind fun r1 =>
 (A.neq .i r1.1 (AV.int .i64 0)).bind fun x2 =>
 A.cond x2 (
  some ((AV.tup [AV.nsl, r1.1]), r1.2)) (
  some ((AV.tup [a0, (AV.int .i64 0)]), r1.2))
noncomputable def m_cue_done : List AV → Heap → Option (AV × Heap) := A.wrap false [] .k (A.ar1 r_cue_done)
noncomputable def r_cue_numberFault (a0 : AV) (σ : Heap) : Option (AV × Heap) :=
 (m_word_Within [a0, (AV.int .i64 1), (AV.int .i64 9999999)] σ).bind fun r1 =>
 (A.not r1.1).bind fun x2 =>
 (m_word_When [x2, (AV.int .i64 1)] r1.2).bind fun r3 =>
 A.fin σ r3.1 r3.2
noncomputable def m_cue_numberFault : List AV → Heap → Option (AV × Heap) := A.wrap true [] .k (A.ar1 r_cue_numberFault)
noncomputable def r_cue_move (a0 a1 : AV) (σ : Heap) : Option (AV × Heap) :=
 (A.cells 2 a1).bind fun c1 =>
 (A.partA 0 2 c1).bind fun x2 =>
 (A.lookOk (.s [0, 2]) a0 x2 (AV.agg [(AV.int .i64 0), (AV.str ⟨#[]⟩), (AV.int .i64 0), (AV.int .i64 0), (AV.int .i64 0)]) σ).bind fun x3 =>
 (A.ext 0 x3).bind fun x4 =>
 (A.ext 1 x3).bind fun x5 =>
 (A.cells 5 x4).bind fun c6 =>
 (A.splice 0 c6 [(AV.int .i64 0), (AV.str ⟨#[]⟩), (AV.int .i64 0), (AV.int .i64 0), (AV.int .i64 0)]).bind fun c7 =>
 (A.partA 0 2 c1).bind fun x8 =>
 (A.partA 2 2 c7).bind fun x9 =>
 (A.not x5).bind fun x10 =>
 (((A.cells 2 x8).bind fun c11 => (A.splice 0 c11 [(AV.int .i64 0), (AV.str ⟨#[]⟩), (AV.int .i64 0), (AV.int .i64 0), (AV.bool false), (AV.bool false), (AV.int .i64 0), (AV.int .i64 0)]).bind fun c12 => (A.cells 2 x9).bind fun c13 => (A.splice 2 c13 c12).bind fun c14 => ((A.cell x10).bind fun v => some [v]).bind fun c15 => (A.splice 4 c15 c14).bind fun c16 => some c16).bind fun cs => some (AV.agg cs)).bind fun x17 =>
 (A.cells 8 x17).bind fun c18 =>
 (A.splice 0 c18 [(AV.int .i64 0), (AV.str ⟨#[]⟩), (AV.int .i64 0), (AV.int .i64 0), (AV.bool false), (AV.bool false), (AV.int .i64 0), (AV.int .i64 0)]).bind fun c19 =>
 (A.partA 0 8 c19).bind fun x20 =>
 A.fin σ x20 σ
noncomputable def m_cue_move : List AV → Heap → Option (AV × Heap) := A.wrap true [] .k (A.ar2 r_cue_move)
noncomputable def r_cue_Copy_fn1 (a0 a1 : AV) (σ : Heap) : Option (AV × Heap) :=
 (A.cells 8 a0).bind fun c1 =>
 (A.cells 8 a1).bind fun c2 =>
 (A.partA 0 2 c1).bind fun x3 =>
 (A.partA 0 2 c2).bind fun x4 =>
 (m_cue_compare [x3, x4] σ).bind fun r5 =>
 A.fin σ r5.1 r5.2
noncomputable def m_cue_Copy_fn1 : List AV → Heap → Option (AV × Heap) := A.wrap true [] .k (A.ar2 r_cue_Copy_fn1)
noncomputable def r_cue_keysOf (a0 : AV) (σ : Heap) : Option (AV × Heap) :=
 (A.lenS a0).bind fun x1 =>
 (A.loop (fun v2 s3 =>
   (A.lss (v2.getD 1 AV.undef) x1).bind fun x5 =>
   A.cond x5 (
    (A.iaddr 8 a0 (v2.getD 1 AV.undef)).bind fun x6 =>
    ((A.deref x6 s3).bind fun c7 => A.partA 0 8 c7).bind fun x8 =>
    (A.cells 8 x8).bind fun c9 =>
    (A.splice 0 c9 [(AV.int .i64 0), (AV.str ⟨#[]⟩), (AV.int .i64 0), (AV.int .i64 0), (AV.bool false), (AV.bool false), (AV.int .i64 0), (AV.int .i64 0)]).bind fun c10 =>
    (A.partA 0 2 c10).bind fun x11 =>
    (((A.cells 2 x11).bind fun c12 => (A.splice 0 c12 [(AV.int .i64 0), (AV.str ⟨#[]⟩)]).bind fun c13 => some c13).bind fun cs => some (AV.sl 2 (chunks 2 1 cs))).bind fun x14 =>
    (A.append 2 (140737488355328 / 24) (v2.getD 0 AV.undef) x14 s3).bind fun r15 =>
    (A.add (v2.getD 1 AV.undef) (AV.int .i64 1)).bind fun x16 =>
    some (AX.normal, [r15.1, x16], r15.2)) (
    some (AX.exit 0, [(v2.getD 0 AV.undef), (v2.getD 1 AV.undef)], s3))) [AV.nsl, (AV.int .i64 0)] σ).bind fun r17 =>
 bif r17.1 == AX.exit 0 then (
  some ((r17.2.1.getD 0 AV.undef), r17.2.2)) else
 none
noncomputable def m_cue_keysOf : List AV → Heap → Option (AV × Heap) := A.wrap true [(.s 8)] .k (A.ar1 r_cue_keysOf)
noncomputable def r_cue_restore (a0 a1 a2 : AV) (σ : Heap) : Option (AV × Heap) :=
 (A.lenS a2).bind fun x1 =>
 (A.loop (fun v2 s3 =>
   (A.lss (v2.getD 0 AV.undef) x1).bind fun x5 =>
   A.cond x5 (
    (A.iaddr 2 a2 (v2.getD 0 AV.undef)).bind fun x6 =>
    ((A.deref x6 s3).bind fun c7 => A.partA 0 2 c7).bind fun x8 =>
    (A.cells 2 x8).bind fun c9 =>
    (A.splice 0 c9 [(AV.int .i64 0), (AV.str ⟨#[]⟩)]).bind fun c10 =>
    (A.nilck a0).bind fun x11 =>
    ((A.deref x11 s3).bind fun c12 => A.partA 0 11 c12).bind fun x13 =>
    (A.partA 0 2 c10).bind fun x14 =>
    (A.quiet (m_cue_moveAt [x13, x14] s3) s3).bind fun x15 =>
    (A.ext 0 x15).bind fun x16 =>
    (A.ext 1 x15).bind fun x17 =>
    (A.not x17).bind fun x18 =>
    (A.cond x18 (
     (A.partA 0 2 c10).bind fun x20 =>
     (m_cue_move [a1, x20] s3).bind fun r21 =>
     (m_cue_put [a0, r21.1] r21.2).bind fun r22 =>
     some (([] : List AV), r22.2)) (
     some (([] : List AV), s3))).bind fun r19 =>
    (A.add (v2.getD 0 AV.undef) (AV.int .i64 1)).bind fun x23 =>
    some (AX.normal, [x23], r19.2)) (
    some (AX.exit 0, [(v2.getD 0 AV.undef)], s3))) [(AV.int .i64 0)] σ).bind fun r24 =>
 bif r24.1 == AX.exit 0 then (
  some ((AV.tup []), r24.2.2)) else
 none
noncomputable def m_cue_restore : List AV → Heap → Option (AV × Heap) := A.wrap false [] .k (A.ar3 r_cue_restore)
noncomputable def r_cue_Copy (a0 a1 a2 : AV) (σ : Heap) : Option (AV × Heap) :=
 (m_cue_form [a0] σ).bind fun r1 =>
 (A.neq .i r1.1 (AV.int .i64 0)).bind fun x2 =>
 A.cond x2 (
  (A.fin σ (AV.tup [AV.nsl, r1.1]) r1.2).map fun p => (A.nn (.t [(.e 11 [.k, .k, .k, .k, .k, .k, .k, (.s 2), .k, .k, (.s 8)]), .k]) p.1, p.2)) (
  (m_cue_place [a0, a1] r1.2).bind fun r3 =>
  (A.ext 0 r3.1).bind fun x4 =>
  (A.ext 1 r3.1).bind fun x5 =>
  (m_cue_place [a0, a2] r3.2).bind fun r6 =>
  (A.ext 0 r6.1).bind fun x7 =>
  (A.ext 1 r6.1).bind fun x8 =>
  (A.not x5).bind fun x9 =>
  (m_word_When [x9, (AV.int .i64 8)] r6.2).bind fun r10 =>
  (m_cue_numberFault [a2] r10.2).bind fun r11 =>
  (m_word_When [x8, (AV.int .i64 6)] r11.2).bind fun r12 =>
  ((((A.cell r10.1).bind fun v => some [v]).bind fun c13 => (A.splice 0 c13 [(AV.int .i64 0), (AV.int .i64 0), (AV.int .i64 0)]).bind fun c14 => ((A.cell r11.1).bind fun v => some [v]).bind fun c15 => (A.splice 1 c15 c14).bind fun c16 => ((A.cell r12.1).bind fun v => some [v]).bind fun c17 => (A.splice 2 c17 c16).bind fun c18 => some c18).bind fun cs => some (AV.sl 1 (chunks 1 3 cs))).bind fun x19 =>
  (m_word_First [x19] r12.2).bind fun r20 =>
  (A.neq .i r20.1 (AV.int .i64 0)).bind fun x21 =>
  A.cond x21 (
   (A.fin σ (AV.tup [AV.nsl, r20.1]) r20.2).map fun p => (A.nn (.t [(.e 11 [.k, .k, .k, .k, .k, .k, .k, (.s 2), .k, .k, (.s 8)]), .k]) p.1, p.2)) (
   (A.sliceS 11 a0 none (some x7) r20.2).bind fun x22 =>
   (A.quiet (m_cue_state [x22] r20.2) r20.2).bind fun x23 =>
   (A.add x4 (AV.int .i64 1)).bind fun x24 =>
   (A.sliceS 11 a0 none (some x24) r20.2).bind fun x25 =>
   (A.quiet (m_cue_state [x25] r20.2) r20.2).bind fun x26 =>
   (A.iaddr 11 a0 x4).bind fun x27 =>
   ((A.deref x27 r20.2).bind fun c28 => A.partA 0 11 c28).bind fun x29 =>
   (A.cells 11 x29).bind fun c30 =>
   (A.splice 0 c30 [(AV.int .i64 0), (AV.str ⟨#[]⟩), (AV.int .i64 0), (AV.int .i64 0), (AV.int .i64 0), (AV.int .i64 0), (AV.int .i64 0), AV.nsl, (AV.bool false), (AV.int .i64 0), AV.nsl]).bind fun c31 =>
   (A.part1 7 c31).bind fun x32 =>
   (m_slices_Clone_api_Point [x32] r20.2).bind fun r33 =>
   ((A.cell r33.1).bind fun v => some [v]).bind fun c34 =>
   (A.splice 7 c34 c31).bind fun c35 =>
   ((A.cell a2).bind fun v => some [v]).bind fun c36 =>
   (A.splice 0 c36 c35).bind fun c37 =>
   ((A.cell AV.nsl).bind fun v => some [v]).bind fun c38 =>
   (A.splice 10 c38 c37).bind fun c39 =>
   (A.rangeA x26).bind fun es40 =>
   A.loopC (fun v41 s42 k43 =>
     A.nextA (AV.op r33.2.length 0) s42 fun x44 s45 =>
     (A.ext 0 x44).bind fun x46 =>
     A.cond x46 (
      (A.entryA (AV.op r33.2.length 0) s45).bind fun x47 =>
      (A.ext 0 x47).bind fun x48 =>
      (A.ext 1 x47).bind fun x49 =>
      (A.cells 2 x48).bind fun c50 =>
      (A.splice 0 c50 [(AV.int .i64 0), (AV.str ⟨#[]⟩)]).bind fun c51 =>
      (A.cells 5 x49).bind fun c52 =>
      (A.splice 0 c52 [(AV.int .i64 0), (AV.str ⟨#[]⟩), (AV.int .i64 0), (AV.int .i64 0), (AV.int .i64 0)]).bind fun c53 =>
      (A.partA 0 2 c51).bind fun x54 =>
      (A.lookOk (.s [0, 2]) x23 x54 (AV.agg [(AV.int .i64 0), (AV.str ⟨#[]⟩), (AV.int .i64 0), (AV.int .i64 0), (AV.int .i64 0)]) s45).bind fun x55 =>
      (A.ext 0 x55).bind fun x56 =>
      (A.ext 1 x55).bind fun x57 =>
      (A.cells 5 x56).bind fun c58 =>
      (A.splice 0 c58 [(AV.int .i64 0), (AV.str ⟨#[]⟩), (AV.int .i64 0), (AV.int .i64 0), (AV.int .i64 0)]).bind fun c59 =>
      (A.not x57).bind fun x60 =>
      (A.guard x60 false (A.partA 2 2 c53) (some (AV.tup []))).bind fun x61 =>
      (A.guard x60 false (A.partA 2 2 c59) (some (AV.tup []))).bind fun x62 =>
      (A.guard x60 false (A.neq (.s [0, 0]) x61 x62) (some (AV.tup []))).bind fun x63 =>
      (A.pick x60 (AV.bool true) x63).bind fun x64 =>
      (A.cond x64 (
       ((A.lb (v41.getD 0 AV.undef)).bind fun _ => some (10)).bind fun p66 =>
       ((A.lb (v41.getD 0 AV.undef)).bind fun c67 => A.part1 p66 c67).bind fun x68 =>
       (A.partA 0 2 c51).bind fun x69 =>
       (A.quiet (m_cue_move [x26, x69] s45) s45).bind fun x70 =>
       (((A.cells 8 x70).bind fun c71 => (A.splice 0 c71 [(AV.int .i64 0), (AV.str ⟨#[]⟩), (AV.int .i64 0), (AV.int .i64 0), (AV.bool false), (AV.bool false), (AV.int .i64 0), (AV.int .i64 0)]).bind fun c72 => some c72).bind fun cs => some (AV.sl 8 (chunks 8 1 cs))).bind fun x73 =>
       (A.append 8 (140737488355328 / 64) x68 x73 s45).bind fun r74 =>
       ((A.lb (v41.getD 0 AV.undef)).bind fun _ => some (10)).bind fun p75 =>
       (A.lb (v41.getD 0 AV.undef)).bind fun c78 =>
       ((A.cell r74.1).bind fun v => some [v]).bind fun c76 =>
       (A.splice p75 c76 c78).bind fun c77 =>
       some ([(AV.lbx c77)], r74.2)) (
       some ([(v41.getD 0 AV.undef)], s45))).bind fun r65 =>
      k43 (AX.normal, [(r65.1.getD 0 AV.undef)], r65.2)) (
      k43 (AX.exit 0, [(v41.getD 0 AV.undef)], s45))) [(AV.lbx c39)] (r33.2 ++ [Blk.it [] es40]) fun r79 =>
   bif r79.1 == AX.exit 0 then (
    (A.rangeA x23).bind fun es80 =>
    A.loopC (fun v81 s82 k83 =>
      A.nextA (AV.op r79.2.2.length 0) s82 fun x84 s85 =>
      (A.ext 0 x84).bind fun x86 =>
      A.cond x86 (
       (A.entryA (AV.op r79.2.2.length 0) s85).bind fun x87 =>
       (A.ext 0 x87).bind fun x88 =>
       (A.cells 2 x88).bind fun c89 =>
       (A.splice 0 c89 [(AV.int .i64 0), (AV.str ⟨#[]⟩)]).bind fun c90 =>
       (A.partA 0 2 c90).bind fun x91 =>
       (A.lookOk (.s [0, 2]) x26 x91 (AV.agg [(AV.int .i64 0), (AV.str ⟨#[]⟩), (AV.int .i64 0), (AV.int .i64 0), (AV.int .i64 0)]) s85).bind fun x92 =>
       (A.ext 0 x92).bind fun x93 =>
       (A.ext 1 x92).bind fun x94 =>
       (A.cells 5 x93).bind fun c95 =>
       (A.splice 0 c95 [(AV.int .i64 0), (AV.str ⟨#[]⟩), (AV.int .i64 0), (AV.int .i64 0), (AV.int .i64 0)]).bind fun c96 =>
       (A.not x94).bind fun x97 =>
       (A.cond x97 (
        ((A.lb (v81.getD 0 AV.undef)).bind fun _ => some (10)).bind fun p99 =>
        ((A.lb (v81.getD 0 AV.undef)).bind fun c100 => A.part1 p99 c100).bind fun x101 =>
        (A.partA 0 2 c90).bind fun x102 =>
        (A.quiet (m_cue_move [x26, x102] s85) s85).bind fun x103 =>
        (((A.cells 8 x103).bind fun c104 => (A.splice 0 c104 [(AV.int .i64 0), (AV.str ⟨#[]⟩), (AV.int .i64 0), (AV.int .i64 0), (AV.bool false), (AV.bool false), (AV.int .i64 0), (AV.int .i64 0)]).bind fun c105 => some c105).bind fun cs => some (AV.sl 8 (chunks 8 1 cs))).bind fun x106 =>
        (A.append 8 (140737488355328 / 64) x101 x106 s85).bind fun r107 =>
        ((A.lb (v81.getD 0 AV.undef)).bind fun _ => some (10)).bind fun p108 =>
        (A.lb (v81.getD 0 AV.undef)).bind fun c111 =>
        ((A.cell r107.1).bind fun v => some [v]).bind fun c109 =>
        (A.splice p108 c109 c111).bind fun c110 =>
        some ([(AV.lbx c110)], r107.2)) (
        some ([(v81.getD 0 AV.undef)], s85))).bind fun r98 =>
       k83 (AX.normal, [(r98.1.getD 0 AV.undef)], r98.2)) (
       k83 (AX.exit 2, [(v81.getD 0 AV.undef)], s85))) [(r79.2.1.getD 0 AV.undef)] (r79.2.2 ++ [Blk.it [] es80]) fun r112 =>
    bif r112.1 == AX.exit 2 then (
     ((A.lb (r112.2.1.getD 0 AV.undef)).bind fun _ => some (10)).bind fun p113 =>
     ((A.lb (r112.2.1.getD 0 AV.undef)).bind fun c114 => A.part1 p113 c114).bind fun x115 =>
     (m_slices_SortFunc_Move [x115, (AV.fn 271 [])] r112.2.2).bind fun r116 =>
     (m_cue_copied [a0] r116.2).bind fun r117 =>
     ((A.lb (r112.2.1.getD 0 AV.undef)).bind fun c118 => A.partA 0 11 c118).bind fun x119 =>
     (((A.cells 11 x119).bind fun c120 => (A.splice 0 c120 [(AV.int .i64 0), (AV.str ⟨#[]⟩), (AV.int .i64 0), (AV.int .i64 0), (AV.int .i64 0), (AV.int .i64 0), (AV.int .i64 0), AV.nsl, (AV.bool false), (AV.int .i64 0), AV.nsl]).bind fun c121 => some c121).bind fun cs => some (AV.sl 11 (chunks 11 1 cs))).bind fun x122 =>
     (m_slices_Insert_api_Cue [r117.1, x7, x122] r117.2).bind fun r123 =>
     (A.lenS a0).bind fun x124 =>
     (A.lss x7 x124).bind fun x125 =>
     (A.cond x125 (
      (A.add x7 (AV.int .i64 1)).bind fun x127 =>
      (A.iaddr 11 r123.1 x127).bind fun x128 =>
      (A.add x7 (AV.int .i64 1)).bind fun x129 =>
      (A.sliceS 11 a0 none (some x129) r123.2).bind fun x130 =>
      (A.quiet (m_cue_state [x130] r123.2) r123.2).bind fun x131 =>
      ((A.lb (r112.2.1.getD 0 AV.undef)).bind fun _ => some (10)).bind fun p132 =>
      ((A.lb (r112.2.1.getD 0 AV.undef)).bind fun c133 => A.part1 p132 c133).bind fun x134 =>
      (A.quiet ((A.finC (.s 2) m_cue_keysOf) [x134] r123.2) r123.2).bind fun x135 =>
      (m_cue_restore [x128, x131, x135] r123.2).bind fun r136 =>
      some (([] : List AV), r136.2)) (
      some (([] : List AV), r123.2))).bind fun r126 =>
     (m_cue_done [r123.1] r126.2).bind fun r137 =>
     (A.ext 0 r137.1).bind fun x138 =>
     (A.ext 1 r137.1).bind fun x139 =>
     (A.fin σ (AV.tup [x138, x139]) r137.2).map fun p => (A.nn (.t [(.e 11 [.k, .k, .k, .k, .k, .k, .k, (.s 2), .k, .k, (.s 8)]), .k]) p.1, p.2)) else
    none) else
   none))
noncomputable def m_cue_Copy : List AV → Heap → Option (AV × Heap) := A.wrap true [(.e 11 [.k, .k, .k, .k, .k, .k, .k, (.s 2), .k, .k, (.s 8)])] (.t [(.e 11 [.k, .k, .k, .k, .k, .k, .k, (.s 2), .k, .k, (.s 8)]), .k]) (A.ar3 r_cue_Copy)
noncomputable def r_cue_wayFault (a0 : AV) (σ : Heap) : Option (AV × Heap) :=
 (A.neq .i a0 (AV.int .i64 1)).bind fun x1 =>
 (A.guard x1 true (some a0) (some (AV.tup []))).bind fun x2 =>
 (A.guard x1 true (A.neq .i x2 (AV.int .i64 2)) (some (AV.tup []))).bind fun x3 =>
 (A.pick x1 x3 (AV.bool false)).bind fun x4 =>
 (m_word_When [x4, (AV.int .i64 4)] σ).bind fun r5 =>
 A.fin σ r5.1 r5.2
noncomputable def m_cue_wayFault : List AV → Heap → Option (AV × Heap) := A.wrap true [] .k (A.ar1 r_cue_wayFault)
noncomputable def r_cue_blocked (a0 a1 : AV) (σ : Heap) : Option (AV × Heap) :=
 (A.loop (fun v1 s2 =>
   (A.lenS a0).bind fun x4 =>
   (A.lss (v1.getD 1 AV.undef) x4).bind fun x5 =>
   A.cond x5 (
    (A.iaddr 11 a0 (v1.getD 1 AV.undef)).bind fun x6 =>
    (A.faddr 8 x6).bind fun x7 =>
    ((A.deref x7 s2).bind fun c8 => A.part1 0 c8).bind fun x9 =>
    A.cond x9 (
     some (AX.ret, [(v1.getD 1 AV.undef), (v1.getD 1 AV.undef)], s2)) (
     (A.add (v1.getD 1 AV.undef) (AV.int .i64 1)).bind fun x10 =>
     some (AX.normal, [(v1.getD 0 AV.undef), x10], s2))) (
    some (AX.exit 0, [(v1.getD 0 AV.undef), (v1.getD 1 AV.undef)], s2))) [(AV.int .i64 0), a1] σ).bind fun r11 =>
 bif r11.1 == AX.exit 0 then (
  A.fin σ (AV.int .i64 (-1)) r11.2.2) else
 bif r11.1 == AX.ret then (
  A.fin σ (r11.2.1.getD 0 AV.undef) r11.2.2) else
 none
noncomputable def m_cue_blocked : List AV → Heap → Option (AV × Heap) := A.wrap true [(.e 11 [.k, .k, .k, .k, .k, .k, .k, (.s 2), .k, .k, (.s 8)])] .k (A.ar2 r_cue_blocked)
noncomputable def r_cue_moved_fn1 (a0 a1 : AV) (σ : Heap) : Option (AV × Heap) :=
 (A.cells 11 a0).bind fun c1 =>
 (A.partA 0 11 c1).bind fun x2 =>
 ((A.deref a1 σ).bind fun c3 => A.partA 0 2 c3).bind fun x4 =>
 (m_cue_moveAt [x2, x4] σ).bind fun r5 =>
 (A.ext 0 r5.1).bind fun x6 =>
 (A.ext 1 r5.1).bind fun x7 =>
 A.fin σ x7 r5.2
noncomputable def m_cue_moved_fn1 : List AV → Heap → Option (AV × Heap) := A.wrap true [(.a [.k, .k, .k, .k, .k, .k, .k, (.s 2), .k, .k, (.s 8)])] .k (A.ar2 r_cue_moved_fn1)
noncomputable def r_cue_moved (a0 a1 : AV) (σ : Heap) : Option (AV × Heap) :=
 ((A.cells 2 a1).bind fun cs => some (AV.rp cs)).bind fun x1 =>
 (m_slices_ContainsFunc_api_Cue (A.tab (fun _ _ => none) [(187, m_cue_moved_fn1), (187, m_cue_moved_fn1)]) [a0, (AV.fn 187 [x1])] σ).bind fun r2 =>
 A.fin σ r2.1 r2.2
noncomputable def m_cue_moved : List AV → Heap → Option (AV × Heap) := A.wrap true [(.e 11 [.k, .k, .k, .k, .k, .k, .k, (.s 2), .k, .k, (.s 8)])] .k (A.ar2 r_cue_moved)
noncomputable def r_cue_deleted (a0 a1 a2 : AV) (σ : Heap) : Option (AV × Heap) :=
 (m_cue_copied [a0] σ).bind fun r1 =>
 (A.iaddr 11 r1.1 a1).bind fun x2 =>
 ((A.deref x2 r1.2).bind fun c3 => A.partA 0 11 c3).bind fun x4 =>
 (A.cells 11 x4).bind fun c5 =>
 (A.splice 0 c5 [(AV.int .i64 0), (AV.str ⟨#[]⟩), (AV.int .i64 0), (AV.int .i64 0), (AV.int .i64 0), (AV.int .i64 0), (AV.int .i64 0), AV.nsl, (AV.bool false), (AV.int .i64 0), AV.nsl]).bind fun c6 =>
 (A.add a1 (AV.int .i64 1)).bind fun x7 =>
 (m_slices_Delete_api_Cue [r1.1, a1, x7] r1.2).bind fun r8 =>
 (A.eql .i a2 (AV.int .i64 1)).bind fun x9 =>
 (A.cond x9 (
  (m_cue_blocked [r8.1, a1] r8.2).bind fun r11 =>
  some ([(AV.lbx c6), r11.1], r11.2)) (
  some ([(AV.lbx c6), a1], r8.2))).bind fun r10 =>
 (A.lss (r10.1.getD 1 AV.undef) (AV.int .i64 0)).bind fun x12 =>
 (A.guard x12 false (some (r10.1.getD 1 AV.undef)) (some (AV.tup []))).bind fun x13 =>
 (A.guard x12 false (some r8.1) (some (AV.tup []))).bind fun x14 =>
 (A.guard x12 false (A.lenS x14) (some (AV.tup []))).bind fun x15 =>
 (A.guard x12 false (A.geq x13 x15) (some (AV.tup []))).bind fun x16 =>
 (A.pick x12 (AV.bool true) x16).bind fun x17 =>
 A.cond x17 (
  A.fin σ r8.1 r10.2) (
  ((A.lb (r10.1.getD 0 AV.undef)).bind fun _ => some (10)).bind fun p18 =>
  ((A.lb (r10.1.getD 0 AV.undef)).bind fun c19 => A.part1 p18 c19).bind fun x20 =>
  (A.lenS x20).bind fun x21 =>
  (A.loop (fun v22 s23 =>
    (A.lss (v22.getD 0 AV.undef) x21).bind fun x25 =>
    A.cond x25 (
     (A.iaddr 8 x20 (v22.getD 0 AV.undef)).bind fun x26 =>
     ((A.deref x26 s23).bind fun c27 => A.partA 0 8 c27).bind fun x28 =>
     (A.cells 8 x28).bind fun c29 =>
     (A.splice 0 c29 [(AV.int .i64 0), (AV.str ⟨#[]⟩), (AV.int .i64 0), (AV.int .i64 0), (AV.bool false), (AV.bool false), (AV.int .i64 0), (AV.int .i64 0)]).bind fun c30 =>
     (A.add (r10.1.getD 1 AV.undef) (AV.int .i64 1)).bind fun x31 =>
     (A.sliceS 11 r8.1 (some a1) (some x31) s23).bind fun x32 =>
     (A.partA 0 2 c30).bind fun x33 =>
     (A.quiet (m_cue_moved [x32, x33] s23) s23).bind fun x34 =>
     (A.not x34).bind fun x35 =>
     (A.cond x35 (
      (A.iaddr 11 r8.1 (r10.1.getD 1 AV.undef)).bind fun x37 =>
      (A.partA 0 8 c30).bind fun x38 =>
      (m_cue_put [x37, x38] s23).bind fun r39 =>
      some (([] : List AV), r39.2)) (
      some (([] : List AV), s23))).bind fun r36 =>
     (A.add (v22.getD 0 AV.undef) (AV.int .i64 1)).bind fun x40 =>
     some (AX.normal, [x40], r36.2)) (
     some (AX.exit 0, [(v22.getD 0 AV.undef)], s23))) [(AV.int .i64 0)] r10.2).bind fun r41 =>
  bif r41.1 == AX.exit 0 then (
   A.fin σ r8.1 r41.2.2) else
  none)
noncomputable def m_cue_deleted : List AV → Heap → Option (AV × Heap) := A.wrap true [(.e 11 [.k, .k, .k, .k, .k, .k, .k, (.s 2), .k, .k, (.s 8)])] (.e 11 [.k, .k, .k, .k, .k, .k, .k, (.s 2), .k, .k, (.s 8)]) (A.ar3 r_cue_deleted)
noncomputable def r_cue_Delete (a0 a1 a2 : AV) (σ : Heap) : Option (AV × Heap) :=
 (m_cue_form [a0] σ).bind fun r1 =>
 (A.neq .i r1.1 (AV.int .i64 0)).bind fun x2 =>
 A.cond x2 (
  A.fin σ (AV.tup [AV.nsl, r1.1]) r1.2) (
  (m_cue_place [a0, a1] r1.2).bind fun r3 =>
  (A.ext 0 r3.1).bind fun x4 =>
  (A.ext 1 r3.1).bind fun x5 =>
  (A.not x5).bind fun x6 =>
  (m_word_When [x6, (AV.int .i64 8)] r3.2).bind fun r7 =>
  (m_cue_wayFault [a2] r7.2).bind fun r8 =>
  ((((A.cell r7.1).bind fun v => some [v]).bind fun c9 => (A.splice 0 c9 [(AV.int .i64 0), (AV.int .i64 0)]).bind fun c10 => ((A.cell r8.1).bind fun v => some [v]).bind fun c11 => (A.splice 1 c11 c10).bind fun c12 => some c12).bind fun cs => some (AV.sl 1 (chunks 1 2 cs))).bind fun x13 =>
  (m_word_First [x13] r8.2).bind fun r14 =>
  (A.neq .i r14.1 (AV.int .i64 0)).bind fun x15 =>
  A.cond x15 (
   A.fin σ (AV.tup [AV.nsl, r14.1]) r14.2) (
   (m_cue_deleted [a0, x4, a2] r14.2).bind fun r16 =>
   (m_cue_done [r16.1] r16.2).bind fun r17 =>
   (A.ext 0 r17.1).bind fun x18 =>
   (A.ext 1 r17.1).bind fun x19 =>
   A.fin σ (AV.tup [x18, x19]) r17.2))
noncomputable def m_cue_Delete : List AV → Heap → Option (AV × Heap) := A.wrap true [(.e 11 [.k, .k, .k, .k, .k, .k, .k, (.s 2), .k, .k, (.s 8)])] (.t [(.e 11 [.k, .k, .k, .k, .k, .k, .k, (.s 2), .k, .k, (.s 8)]), .k]) (A.ar3 r_cue_Delete)
noncomputable def r_cue_Shift (a0 a1 a2 : AV) (σ : Heap) : Option (AV × Heap) :=
 (m_cue_Copy [a0, a1, a2] σ).bind fun r1 =>
 (A.ext 0 r1.1).bind fun x2 =>
 (A.ext 1 r1.1).bind fun x3 =>
 (A.neq .i x3 (AV.int .i64 0)).bind fun x4 =>
 A.cond x4 (
  A.fin σ (AV.tup [AV.nsl, x3]) r1.2) (
  (m_cue_Delete [x2, a1, (AV.int .i64 2)] r1.2).bind fun r5 =>
  (A.ext 0 r5.1).bind fun x6 =>
  (A.ext 1 r5.1).bind fun x7 =>
  A.fin σ (AV.tup [x6, x7]) r5.2)
noncomputable def m_cue_Shift : List AV → Heap → Option (AV × Heap) := A.wrap true [(.e 11 [.k, .k, .k, .k, .k, .k, .k, (.s 2), .k, .k, (.s 8)])] (.t [(.e 11 [.k, .k, .k, .k, .k, .k, .k, (.s 2), .k, .k, (.s 8)]), .k]) (A.ar3 r_cue_Shift)
noncomputable def r_cue_State_fn1 (a0 a1 : AV) (σ : Heap) : Option (AV × Heap) :=
 (A.cells 5 a0).bind fun c1 =>
 (A.cells 5 a1).bind fun c2 =>
 (A.partA 0 2 c1).bind fun x3 =>
 (A.partA 0 2 c2).bind fun x4 =>
 (m_cue_compare [x3, x4] σ).bind fun r5 =>
 A.fin σ r5.1 r5.2
noncomputable def m_cue_State_fn1 : List AV → Heap → Option (AV × Heap) := A.wrap true [] .k (A.ar2 r_cue_State_fn1)
noncomputable def r_cue_State (a0 a1 : AV) (σ : Heap) : Option (AV × Heap) :=
 (m_cue_form [a0] σ).bind fun r1 =>
 (A.neq .i r1.1 (AV.int .i64 0)).bind fun x2 =>
 A.cond x2 (
  (A.fin σ (AV.tup [AV.nsl, r1.1]) r1.2).map fun p => (A.nn (.t [(.s 5), .k]) p.1, p.2)) (
  (m_cue_place [a0, a1] r1.2).bind fun r3 =>
  (A.ext 0 r3.1).bind fun x4 =>
  (A.ext 1 r3.1).bind fun x5 =>
  (A.not x5).bind fun x6 =>
  A.cond x6 (
   (A.fin σ (AV.tup [AV.nsl, (AV.int .i64 8)]) r3.2).map fun p => (A.nn (.t [(.s 5), .k]) p.1, p.2)) (
   (A.add x4 (AV.int .i64 1)).bind fun x7 =>
   (A.sliceS 11 a0 none (some x7) r3.2).bind fun x8 =>
   (m_cue_state [x8] r3.2).bind fun r9 =>
   (A.rangeA r9.1).bind fun es10 =>
   A.loopC (fun v11 s12 k13 =>
     A.nextA (AV.op r9.2.length 0) s12 fun x14 s15 =>
     (A.ext 0 x14).bind fun x16 =>
     A.cond x16 (
      (A.entryA (AV.op r9.2.length 0) s15).bind fun x17 =>
      (A.ext 1 x17).bind fun x18 =>
      (A.cells 5 x18).bind fun c19 =>
      (A.splice 0 c19 [(AV.int .i64 0), (AV.str ⟨#[]⟩), (AV.int .i64 0), (AV.int .i64 0), (AV.int .i64 0)]).bind fun c20 =>
      (A.partA 0 5 c20).bind fun x21 =>
      (((A.cells 5 x21).bind fun c22 => (A.splice 0 c22 [(AV.int .i64 0), (AV.str ⟨#[]⟩), (AV.int .i64 0), (AV.int .i64 0), (AV.int .i64 0)]).bind fun c23 => some c23).bind fun cs => some (AV.sl 5 (chunks 5 1 cs))).bind fun x24 =>
      (A.append 5 (140737488355328 / 48) (v11.getD 0 AV.undef) x24 s15).bind fun r25 =>
      k13 (AX.normal, [r25.1], r25.2)) (
      k13 (AX.exit 0, [(v11.getD 0 AV.undef)], s15))) [AV.nsl] (r9.2 ++ [Blk.it [] es10]) fun r26 =>
   bif r26.1 == AX.exit 0 then (
    (m_slices_SortFunc_Entry [(r26.2.1.getD 0 AV.undef), (AV.fn 297 [])] r26.2.2).bind fun r27 =>
    (A.fin σ (AV.tup [(r26.2.1.getD 0 AV.undef), (AV.int .i64 0)]) r27.2).map fun p => (A.nn (.t [(.s 5), .k]) p.1, p.2)) else
   none))
noncomputable def m_cue_State : List AV → Heap → Option (AV × Heap) := A.wrap true [(.e 11 [.k, .k, .k, .k, .k, .k, .k, (.s 2), .k, .k, (.s 8)])] (.t [(.s 5), .k]) (A.ar2 r_cue_State)
end Go.Proofs.Ytphgchakmkankaa

namespace Go.Proofs.Ytphgchakmkankaa
set_option linter.unusedSectionVars false
set_option linter.unusedSimpArgs false
set_option linter.unusedVariables false
set_option maxRecDepth 100000
noncomputable def r_W5_values (a0 a1 : AV) (σ : Heap) : Option (AV × Heap) :=
 (m_cue_State [a0, a1] σ).bind fun r1 =>
 (A.ext 0 r1.1).bind fun x2 =>
 (A.ext 1 r1.1).bind fun x3 =>
 (m_slices_Clone_api_Entry [x2] r1.2).bind fun r4 =>
 (A.lenS r4.1).bind fun x5 =>
 (A.loop (fun v6 s7 =>
   (A.lss (v6.getD 0 AV.undef) x5).bind fun x9 =>
   A.cond x9 (
    (A.iaddr 5 r4.1 (v6.getD 0 AV.undef)).bind fun x10 =>
    (A.faddr 4 x10).bind fun x11 =>
    ((A.cell (AV.int .i64 0)).bind fun v => some [v]).bind fun c12 =>
    (A.storeAt x11 c12 s7).bind fun c13 =>
    (A.add (v6.getD 0 AV.undef) (AV.int .i64 1)).bind fun x14 =>
    some (AX.normal, [x14], c13)) (
    some (AX.exit 0, [(v6.getD 0 AV.undef)], s7))) [(AV.int .i64 0)] r4.2).bind fun r15 =>
 bif r15.1 == AX.exit 0 then (
  (A.eql .i x3 (AV.int .i64 0)).bind fun x16 =>
  A.fin σ (AV.tup [r4.1, x16]) r15.2.2) else
 none
noncomputable def m_W5_values : List AV → Heap → Option (AV × Heap) := A.wrap true [(.e 11 [.k, .k, .k, .k, .k, .k, .k, (.s 2), .k, .k, (.s 8)])] (.t [(.s 5), .k]) (A.ar2 r_W5_values)
noncomputable def r_W5_asBefore (a0 a1 a2 a3 : AV) (σ : Heap) : Option (AV × Heap) :=
 (A.lenS a0).bind fun x1 =>
 (A.loop (fun v2 s3 =>
   (A.lss (v2.getD 1 AV.undef) x1).bind fun x5 =>
   A.cond x5 (
    (A.iaddr 11 a0 (v2.getD 1 AV.undef)).bind fun x6 =>
    ((A.deref x6 s3).bind fun c7 => A.partA 0 11 c7).bind fun x8 =>
    (A.cells 11 x8).bind fun c9 =>
    (A.splice 0 c9 [(AV.int .i64 0), (AV.str ⟨#[]⟩), (AV.int .i64 0), (AV.int .i64 0), (AV.int .i64 0), (AV.int .i64 0), (AV.int .i64 0), AV.nsl, (AV.bool false), (AV.int .i64 0), AV.nsl]).bind fun c10 =>
    (A.part1 0 c10).bind fun x11 =>
    (A.eql .i x11 a2).bind fun x12 =>
    (A.guard x12 false (A.part1 0 c10) (some (AV.tup []))).bind fun x13 =>
    (A.guard x12 false (some a3) (some (AV.tup []))).bind fun x14 =>
    (A.guard x12 false (A.eql .i x13 x14) (some (AV.tup []))).bind fun x15 =>
    (A.pick x12 (AV.bool true) x15).bind fun x16 =>
    A.cond x16 (
     (A.add (v2.getD 1 AV.undef) (AV.int .i64 1)).bind fun x17 =>
     some (AX.normal, [(v2.getD 0 AV.undef), x17], s3)) (
     (A.part1 0 c10).bind fun x18 =>
     (m_W5_values [a0, x18] s3).bind fun r19 =>
     (A.ext 0 r19.1).bind fun x20 =>
     (A.ext 1 r19.1).bind fun x21 =>
     (A.part1 0 c10).bind fun x22 =>
     (m_W5_values [a1, x22] r19.2).bind fun r23 =>
     (A.ext 0 r23.1).bind fun x24 =>
     (A.ext 1 r23.1).bind fun x25 =>
     (A.not x21).bind fun x26 =>
     (A.guard x26 false (some x25) (some (AV.tup []))).bind fun x27 =>
     (A.guard x26 false (A.not x27) (some (AV.tup []))).bind fun x28 =>
     (A.pick x26 (AV.bool true) x28).bind fun x29 =>
     (A.guard x29 false (some x20) (some (AV.tup []))).bind fun x30 =>
     (A.guard x29 false (some x24) (some (AV.tup []))).bind fun x31 =>
     (A.guard x29 false (A.quiet (m_slices_Equal_api_Entry [x30, x31] r23.2) r23.2) (some (AV.tup []))).bind fun x32 =>
     (A.guard x29 false (A.not x32) (some (AV.tup []))).bind fun x33 =>
     (A.pick x29 (AV.bool true) x33).bind fun x34 =>
     A.cond x34 (
      some (AX.ret, [(AV.bool false), (v2.getD 1 AV.undef)], r23.2)) (
      (A.add (v2.getD 1 AV.undef) (AV.int .i64 1)).bind fun x35 =>
      some (AX.normal, [(v2.getD 0 AV.undef), x35], r23.2)))) (
    some (AX.exit 0, [(v2.getD 0 AV.undef), (v2.getD 1 AV.undef)], s3))) [(AV.bool false), (AV.int .i64 0)] σ).bind fun r36 =>
 bif r36.1 == AX.exit 0 then (
  A.fin σ (AV.bool true) r36.2.2) else
 bif r36.1 == AX.ret then (
  A.fin σ (r36.2.1.getD 0 AV.undef) r36.2.2) else
 none
noncomputable def m_W5_asBefore : List AV → Heap → Option (AV × Heap) := A.wrap true [(.e 11 [.k, .k, .k, .k, .k, .k, .k, (.s 2), .k, .k, (.s 8)]), (.e 11 [.k, .k, .k, .k, .k, .k, .k, (.s 2), .k, .k, (.s 8)])] .k (A.ar4 r_W5_asBefore)
noncomputable def r_W5_CueCopiesLookAlike (a0 a1 a2 : AV) (σ : Heap) : Option (AV × Heap) :=
 (m_cue_Copy [a0, a1, a2] σ).bind fun r1 =>
 (A.ext 0 r1.1).bind fun x2 =>
 (A.ext 1 r1.1).bind fun x3 =>
 (A.neq .i x3 (AV.int .i64 0)).bind fun x4 =>
 A.cond x4 (
  (A.lenS x2).bind fun x5 =>
  (A.eql .i x5 (AV.int .i64 0)).bind fun x6 =>
  A.fin σ x6 r1.2) (
  (m_W5_values [a0, a1] r1.2).bind fun r7 =>
  (A.ext 0 r7.1).bind fun x8 =>
  (A.ext 1 r7.1).bind fun x9 =>
  (m_W5_values [x2, a2] r7.2).bind fun r10 =>
  (A.ext 0 r10.1).bind fun x11 =>
  (A.ext 1 r10.1).bind fun x12 =>
  (A.not x9).bind fun x13 =>
  (A.guard x13 false (some x12) (some (AV.tup []))).bind fun x14 =>
  (A.guard x13 false (A.not x14) (some (AV.tup []))).bind fun x15 =>
  (A.pick x13 (AV.bool true) x15).bind fun x16 =>
  (A.guard x16 false (some x8) (some (AV.tup []))).bind fun x17 =>
  (A.guard x16 false (some x11) (some (AV.tup []))).bind fun x18 =>
  (A.guard x16 false (A.quiet (m_slices_Equal_api_Entry [x17, x18] r10.2) r10.2) (some (AV.tup []))).bind fun x19 =>
  (A.guard x16 false (A.not x19) (some (AV.tup []))).bind fun x20 =>
  (A.pick x16 (AV.bool true) x20).bind fun x21 =>
  (A.guard x21 false (some a0) (some (AV.tup []))).bind fun x22 =>
  (A.guard x21 false (some x2) (some (AV.tup []))).bind fun x23 =>
  (A.guard x21 false (A.quiet (m_W5_asBefore [x22, x23, (AV.int .i64 0), (AV.int .i64 0)] r10.2) r10.2) (some (AV.tup []))).bind fun x24 =>
  (A.guard x21 false (A.not x24) (some (AV.tup []))).bind fun x25 =>
  (A.pick x21 (AV.bool true) x25).bind fun x26 =>
  A.cond x26 (
   A.fin σ (AV.bool false) r10.2) (
   (m_cue_Shift [a0, a1, a2] r10.2).bind fun r27 =>
   (A.ext 0 r27.1).bind fun x28 =>
   (A.ext 1 r27.1).bind fun x29 =>
   (A.neq .i x29 (AV.int .i64 0)).bind fun x30 =>
   A.cond x30 (
    (A.eql .i x29 (AV.int .i64 2)).bind fun x31 =>
    A.fin σ x31 r27.2) (
    (m_W5_values [x28, a2] r27.2).bind fun r32 =>
    (A.ext 0 r32.1).bind fun x33 =>
    (A.ext 1 r32.1).bind fun x34 =>
    (A.guard x34 true (some x8) (some (AV.tup []))).bind fun x35 =>
    (A.guard x34 true (some x33) (some (AV.tup []))).bind fun x36 =>
    (A.guard x34 true (A.quiet (m_slices_Equal_api_Entry [x35, x36] r32.2) r32.2) (some (AV.tup []))).bind fun x37 =>
    (A.pick x34 x37 (AV.bool false)).bind fun x38 =>
    (A.guard x38 true (some a0) (some (AV.tup []))).bind fun x39 =>
    (A.guard x38 true (some x28) (some (AV.tup []))).bind fun x40 =>
    (A.guard x38 true (some a1) (some (AV.tup []))).bind fun x41 =>
    (A.guard x38 true (A.quiet (m_W5_asBefore [x39, x40, x41, (AV.int .i64 0)] r32.2) r32.2) (some (AV.tup []))).bind fun x42 =>
    (A.pick x38 x42 (AV.bool false)).bind fun x43 =>
    (A.guard x43 true (some x28) (some (AV.tup []))).bind fun x44 =>
    (A.guard x43 true (A.lenS x44) (some (AV.tup []))).bind fun x45 =>
    (A.guard x43 true (some a0) (some (AV.tup []))).bind fun x46 =>
    (A.guard x43 true (A.lenS x46) (some (AV.tup []))).bind fun x47 =>
    (A.guard x43 true (A.eql .i x45 x47) (some (AV.tup []))).bind fun x48 =>
    (A.pick x43 x48 (AV.bool false)).bind fun x49 =>
    A.fin σ x49 r32.2)))
noncomputable def m_W5_CueCopiesLookAlike : List AV → Heap → Option (AV × Heap) := A.wrap true [(.e 11 [.k, .k, .k, .k, .k, .k, .k, (.s 2), .k, .k, (.s 8)])] .k (A.ar3 r_W5_CueCopiesLookAlike)
end Go.Proofs.Ytphgchakmkankaa

namespace Go.Proofs.Ytphgchakmkankaa
set_option linter.unusedSectionVars false
set_option linter.unusedSimpArgs false
open Go.RowKit
set_option linter.unusedVariables false
theorem ACalls.same {P : Program} {nm : List Nat} {f : FuncId} {args : List AV} {σ : Heap} {r : AV} (hc : ∀ us w, (callFunc f us).run P w = .ok (.enter f us) w)
  (h : ∀ (c : RC) (vs : Array Value) (w : World), RepL c args vs.toList → Calls P f vs w fun e w' => ∃ v, e = .returned v ∧ Below w.heap.size w w' ∧ ∀ c', Rep c' r v) : ACalls P nm f args σ r σ := by
 refine .inl ⟨f, hc, fun z vs e1 e2 hh ha => (h _ vs z.w ha).mono ?_⟩
 rintro e w' ⟨v, k1, k2, k3⟩
 have ho : Out z z.w z.E := ⟨rfl, rfl, rfl, Nat.le_refl _, fun _ _ _ => rfl, fun i p hp => .inr ⟨p, hp, rfl⟩, fun i p hp => ⟨p, hp, .inl rfl⟩, e2, fun p hp => hh.lt hp⟩
 exact ⟨v, z.E, k1, ho.grow k2, hh.mono (grow_ext k2) rfl (fun p hp => k2.block _ (hh.lt hp)), k3 _⟩
theorem repL1 {c : RC} {a : AV} {vs : Array Value} (h : RepL c [a] vs.toList) : ∃ v, vs = #[v] ∧ Rep c a v := by
 simp only [RepL] at h
 obtain ⟨v, vs', e, h1, e2⟩ := h
 refine ⟨v, ?_, h1⟩
 subst e2
 cases vs; simp at e; simp [e]
theorem repL2 {c : RC} {a b : AV} {vs : Array Value} (h : RepL c [a, b] vs.toList) : ∃ v u, vs = #[v, u] ∧ Rep c a v ∧ Rep c b u := by
 simp only [RepL] at h
 obtain ⟨v, vs', e, h1, u, vs2, e2, h2, e3⟩ := h
 refine ⟨v, u, ?_, h1, h2⟩
 subst e3; subst e2
 cases vs; simp at e; simp [e]
theorem s_strings_Compare : Sound Try.prog nmT 130 m_strings_Compare := by
 intro args σ r σ' h
 unfold m_strings_Compare A.ar2 at h
 split at h
 ·simp only at h
  split at h
  ·simp only [Option.some.injEq, Prod.mk.injEq] at h
   obtain ⟨rfl, rfl⟩ := h
   refine ACalls.same Try.call130 fun c vs w hr => ?_
   obtain ⟨v, u, rfl, h1, h2⟩ := repL2 hr
   simp only [Rep] at h1 h2
   subst h1 h2
   refine (Try.strings_Compare _ _ w).mono ?_
   rintro e w' ⟨rfl, rfl⟩
   exact ⟨_, rfl, Below.refl _ _, fun c' => by simp [Rep]⟩
  ·cases h
 ·cases h
end Go.Proofs.Ytphgchakmkankaa

namespace Go.Proofs.Ytphgchakmkankaa
set_option linter.unusedSectionVars false
set_option linter.unusedSimpArgs false
open Go.RowKit
set_option maxRecDepth 100000
set_option linter.unusedVariables false
theorem clone_sound {P : Program} {nm : List Nat} {f : FuncId} {m0 : List AV → Heap → Option (AV × Heap)} (h0 : Sound P nm f m0) (hc : ∀ us w, (callFunc f us).run P w = .ok (.enter f us) w)
  (hz : ∀ a cap w, Calls P f #[.slice a 0 cap] w fun e w' => ∃ q, e = .returned (.slice q 0 0) ∧ Below w.heap.size w w') : Sound P nm f (A.cloneZ m0) := by
 intro args σ r σ' h
 unfold A.cloneZ at h
 split at h
 ·simp only [Option.some.injEq, Prod.mk.injEq] at h
  obtain ⟨rfl, rfl⟩ := h
  refine ACalls.same hc fun c vs w hr => ?_
  obtain ⟨v, rfl, h1⟩ := repL1 hr
  simp only [Rep] at h1
  obtain ⟨a, cap, rfl, _⟩ := h1
  refine (hz _ _ w).mono ?_
  rintro e w' ⟨q, rfl, hb⟩
  exact ⟨_, rfl, hb, fun c' => by simp [Rep]⟩
 ·simp only [Option.some.injEq, Prod.mk.injEq] at h
  obtain ⟨rfl, rfl⟩ := h
  refine ACalls.same hc fun c vs w hr => ?_
  obtain ⟨v, rfl, h1⟩ := repL1 hr
  simp only [Rep] at h1
  subst h1
  refine (hz _ _ w).mono ?_
  rintro e w' ⟨q, rfl, hb⟩
  exact ⟨_, rfl, hb, fun c' => by simp [Rep]⟩
 ·simp only [Option.some.injEq, Prod.mk.injEq] at h
  obtain ⟨rfl, rfl⟩ := h
  refine ACalls.same hc fun c vs w hr => ?_
  obtain ⟨v, rfl, h1⟩ := repL1 hr
  simp only [Rep] at h1
  obtain ⟨a, rfl⟩ := h1
  refine (hz _ _ w).mono ?_
  rintro e w' ⟨q, rfl, hb⟩
  exact ⟨_, rfl, hb, fun c' => by simp [Rep]⟩
 ·simp only [Option.some.injEq, Prod.mk.injEq] at h
  obtain ⟨rfl, rfl⟩ := h
  refine ACalls.same hc fun c vs w hr => ?_
  obtain ⟨v, rfl, h1⟩ := repL1 hr
  simp only [Rep] at h1
  obtain ⟨_, p, _, _, a, cap, rfl, _⟩ := h1
  refine (hz _ _ w).mono ?_
  rintro e w' ⟨q, rfl, hb⟩
  exact ⟨_, rfl, hb, fun c' => by simp [Rep]⟩
 ·exact h0 _ _ _ _ h
theorem nil_run {P : Program} {t e : TypeId} (ht : P.underlying t = some (.slice e)) (a : Option Addr) (n m : Nat) (w : World) : Sem.run P (binOp .eql t (.slice a n m) (.slice none 0 0)) w = .ok (.bool a.isNone) w := by
 simp [binOp, show (Op.equal t (.slice a n m) (.slice none 0 0)).run P w = .ok a.isNone w from sl_nil w 9999 t a n m ht]
theorem cz_Entry (a : Option Addr) (cap : Nat) (w : World) : Calls Try.prog 83 #[.slice a 0 cap] w fun e w' => ∃ q, e = .returned (.slice q 0 0) ∧ Below w.heap.size w w' := by
 go_enter Try.func83, Try.ntmps83
 cases a
 ·go_wp2_with (simp only [nil_run (Try.underlying60), Option.isNone_none, Result.andThen_ok])
  go_ret
  exact ⟨_, rfl, Below.refl _ _⟩
 ·go_wp2_with (simp only [nil_run (Try.underlying60), Option.isNone_some, Result.andThen_ok])
  go_ret
  exact ⟨_, rfl, (Below.refl _ _).alloc (Nat.le_refl _) _⟩
theorem cz_Move (a : Option Addr) (cap : Nat) (w : World) : Calls Try.prog 99 #[.slice a 0 cap] w fun e w' => ∃ q, e = .returned (.slice q 0 0) ∧ Below w.heap.size w w' := by
 go_enter Try.func99, Try.ntmps99
 cases a
 ·go_wp2_with (simp only [nil_run (Try.underlying31), Option.isNone_none, Result.andThen_ok])
  go_ret
  exact ⟨_, rfl, Below.refl _ _⟩
 ·go_wp2_with (simp only [nil_run (Try.underlying31), Option.isNone_some, Result.andThen_ok])
  go_ret
  exact ⟨_, rfl, (Below.refl _ _).alloc (Nat.le_refl _) _⟩
theorem cz_Point (a : Option Addr) (cap : Nat) (w : World) : Calls Try.prog 85 #[.slice a 0 cap] w fun e w' => ∃ q, e = .returned (.slice q 0 0) ∧ Below w.heap.size w w' := by
 go_enter Try.func85, Try.ntmps85
 cases a
 ·go_wp2_with (simp only [nil_run (Try.underlying40), Option.isNone_none, Result.andThen_ok])
  go_ret
  exact ⟨_, rfl, Below.refl _ _⟩
 ·go_wp2_with (simp only [nil_run (Try.underlying40), Option.isNone_some, Result.andThen_ok])
  go_ret
  exact ⟨_, rfl, (Below.refl _ _).alloc (Nat.le_refl _) _⟩
end Go.Proofs.Ytphgchakmkankaa

namespace Go.Proofs.Ytphgchakmkankaa
set_option linter.unusedSectionVars false
set_option maxRecDepth 100000
open Go.RowKit
set_option linter.unusedVariables false
set_option linter.unusedSimpArgs false
theorem overlaps_own {P : Program} (w : World) (tS tR e : TypeId) (ht : P.underlying tS = some (.slice e)) (size : Nat) (hz : ∀ w, (Go.sizeOf e).run P w = .ok size w)
  (a b : Addr) (la ca lb cb : Nat) (hne : a.block ≠ b.block) (arr arr' : Array Value) (tA tB : TypeId) (fz : Nat × Nat)
  (ha : w.heap[a.block]? = some (.cells arr tA fz)) (hs : 0 < arr.size) (hb : w.heap[b.block]? = some (.cells arr' tB (0, 0))) :
  (Extern.SlicesOverlaps.overlaps #[tS, tS] #[tR] #[.slice (some a) la ca, .slice (some b) lb cb]).run P w = .ok (.bool false) w := by
 have hnb : (a.block != b.block) = true := by simpa using hne
 have hnb' : (a.block == b.block) = false := by simpa using hne
 have hsa : w.shape? a.block = some (tA, arr.size) := by simp [World.shape?, ha]
 have hsb : w.shape? b.block = some (tB, arr'.size) := by simp [World.shape?, hb]
 have hfb : w.frozen? b = false := by simp [World.frozen?, hb]
 have hfb' : w.frozen? { block := b.block, off := arr'.size } = false := by simp [World.frozen?, hb]
 delta Extern.SlicesOverlaps.overlaps Extern.SlicesOverlaps.overlaps.match_4 Extern.SlicesOverlaps.overlaps._sparseCasesOn_4
 dsimp [Array.getLit, Array.casesOn]
 obtain ⟨k, hk⟩ : ∃ k, arr.size = k + 1 := ⟨arr.size - 1, by omega⟩
 rw [hk] at hsa
 by_cases h0 : la = 0 ∨ lb = 0 ∨ size = 0
 ·simp [run_underlying ht, hz, h0]
 ·cases hfa : w.frozen? a <;> cases hfe : w.frozen? { block := a.block, off := k + 1 } <;> simp [run_underlying ht, hz, h0, hnb, hnb', frozen, noView, viewAt, mayBeOne, stringish, shape, Sem.run, hsa, hsb, hfa, hfe, hfb, hfb']
theorem cells_in {w : World} {b off : Nat} {v : Value} (h : w.cell? ⟨b, off, none⟩ = some v) : ∃ arr t fz, w.heap[b]? = some (.cells arr t fz) ∧ 0 < arr.size := by
 unfold World.cell? at h
 simp only at h
 split at h
 ·rename_i arr t fz hh
  refine ⟨arr, t, fz, hh, ?_⟩
  simp only [Option.isSome_none, Bool.false_eq_true, if_false] at h
  have := (Array.getElem?_eq_some_iff.1 h).1
  omega
 ·cases h
theorem overlaps_sound {P : Program} {nm : List Nat} {f : FuncId} {fn : Func} {tS tR e : TypeId} {i : TypeInfo} (hf : P.funcs[f]? = some fn) (h1 : (fn.name == "runtime.NumGoroutine") = false) (h2 : fn.body.isNone = true) (h3 : Extern.findNext fn = none)
  (h4 : Extern.find fn = some (Extern.SlicesOverlaps.overlaps #[tS, tS] #[tR])) (ht : P.underlying tS = some (.slice e)) (hi : P.info? e = some i) : Sound P nm f m_slices_overlaps := by
 intro args σ r σ' h
 unfold m_slices_overlaps A.ar2 at h
 split at h
 ·simp only at h
  split at h
  ·rename_i sz es id g sz' off len
   split at h
   ·rename_i hg0 ss es' hs
    split at h
    ·rename_i hc
     obtain ⟨hne, rfl, hes, hl⟩ := hc
     simp only [Option.some.injEq, Prod.mk.injEq] at h
     obtain ⟨rfl, rfl⟩ := h
     refine .inr fun z vs e1 e2 hh ha => ?_
     obtain ⟨v, u, rfl, r1, r2⟩ := repL2 ha
     simp only [Rep] at r1 r2
     obtain ⟨a, cap, rfl, hcap, hsz0, r1⟩ := r1
     obtain ⟨b, off0, rfl, hb, hX, r1⟩ := r1.resolve_left hne
     obtain ⟨hg, p, k1, k2, a', cap', rfl, hcap', rx⟩ := r2
     obtain ⟨j1, j2, j3, j4, ⟨arr, bt, j5, j6⟩, j7, j8, j9⟩ := hh.blk id p _ k1 hs
     obtain ⟨q1, q2, q3⟩ := rx j1.symm
     have hsz : ∀ w, (Go.sizeOf e).run P w = .ok i.size w := fun w => by simp [sizeOf, run_typeInfo' w hi]
     have ha' : a' = ⟨p.b, p.base + off * p.sz, none⟩ := q2.resolve_left (by omega)
     have hpb : b ≠ p.b := fun k => hX (.inr (.inl ⟨p, List.mem_of_getElem? k1, k.symm⟩))
     have hw5 : z.w.heap[p.b]? = some (.cells arr bt (0, 0)) := j5
     have hcell : ∃ v, z.w.cell? ⟨b, off0, none⟩ = some v := by
      cases es with
      | nil => exact absurd rfl hne
      | cons x xs =>
       simp only [RepEs] at r1
       obtain ⟨l1, l2, _⟩ := r1
       cases x with
       | nil => simp at l1; omega
       | cons y ys => simp only [RepCs] at l2; obtain ⟨⟨v, l3, _⟩, _⟩ := l2; exact ⟨v, l3⟩
     obtain ⟨v, hv⟩ := hcell
     obtain ⟨arr0, t0, fz0, m1, m2⟩ := cells_in hv
     have hrun := overlaps_own (P := P) z.w tS tR e ht i.size hsz ⟨b, off0, none⟩ a' es.length cap len cap' (by rw [ha']; exact hpb) arr0 arr t0 bt fz0 m1 m2 (by rw [ha']; exact hw5)
     refine ⟨.bool false, z.w, z.E, ?_, ⟨rfl, rfl, rfl, Nat.le_refl _, fun _ _ _ => rfl, fun i p hp => .inr ⟨p, hp, rfl⟩, fun i p hp => ⟨p, hp, .inl rfl⟩, e2, fun p hp => hh.lt hp⟩, hh, by simp [Rep]⟩
     rw [run_callFunc_extern hf h1 h2 h3 h4, hrun]; rfl
    ·cases h
   ·cases h
  ·cases h
 ·cases h
theorem s_slices_overlaps_api_Cue_ : Sound Try.prog nmT 110 m_slices_overlaps := overlaps_sound Try.func110 (by kernel_rfl) (by kernel_rfl) (by kernel_rfl) (tS := 22) (tR := 4) (by kernel_rfl) (e := 44) (by kernel_rfl) rfl
theorem s_slices_overlaps_api_Move_ : Sound Try.prog nmT 131 m_slices_overlaps := overlaps_sound Try.func131 (by kernel_rfl) (by kernel_rfl) (by kernel_rfl) (tS := 31) (tR := 4) (by kernel_rfl) (e := 66) (by kernel_rfl) rfl
end Go.Proofs.Ytphgchakmkankaa

namespace Go.Proofs.Ytphgchakmkankaa
set_option linter.unusedSectionVars false
set_option linter.unusedVariables false
set_option linter.unusedSimpArgs false

theorem bq (s t : ByteArray) : (s == t) = decide (s = t) := by
 obtain ⟨a⟩ := s
 obtain ⟨b⟩ := t
 show (a == b) = _
 rw [Bool.eq_iff_iff]
 simp
section
variable {α β : Type}
theorem cT (t e : Option α) : A.cond (.bool true) t e = t := rfl
theorem cF (t e : Option α) : A.cond (.bool false) t e = e := rfl
theorem gTT (e d : Option α) : A.guard (.bool true) true e d = e := rfl
theorem gTF (e d : Option α) : A.guard (.bool true) false e d = d := rfl
theorem gFT (e d : Option α) : A.guard (.bool false) true e d = d := rfl
theorem gFF (e d : Option α) : A.guard (.bool false) false e d = e := rfl
theorem pT (x y : AV) : A.pick (.bool true) x y = some x := rfl
theorem pF (x y : AV) : A.pick (.bool false) x y = some y := rfl
theorem gDp {p : Prop} [Decidable p] {w : Bool} {e d : Option α} {f : α → Option β} : (A.guard (.bool (decide p)) w e d).bind f = if p then (A.guard (.bool true) w e d).bind f else (A.guard (.bool false) w e d).bind f := by by_cases h : p <;> simp [h]
theorem gDb {b w : Bool} {e d : Option α} {f : α → Option β} : (A.guard (.bool b) w e d).bind f = match b with | true => (A.guard (.bool true) w e d).bind f | false => (A.guard (.bool false) w e d).bind f := by cases b <;> rfl
theorem cDp {p : Prop} [Decidable p] {t e : Option α} : A.cond (.bool (decide p)) t e = if p then t else e := by by_cases h : p <;> simp [h, A.cond]
theorem cDnp {p : Prop} [Decidable p] {t e : Option α} : A.cond (.bool (!decide p)) t e = if p then e else t := by by_cases h : p <;> simp [h, A.cond]
theorem cDn {b : Bool} {t e : Option α} : A.cond (.bool (!b)) t e = match b with | true => e | false => t := by cases b <;> rfl
theorem cDb {b : Bool} {t e : Option α} : A.cond (.bool b) t e = match b with | true => t | false => e := by cases b <;> rfl
theorem gN (w : Bool) (e d : Option α) : A.guard (.tup []) w e d = d := rfl
theorem xN (a b : AX) : (a == b) = decide (a = b) := by rw [Bool.eq_iff_iff]; simp
end
section
variable (k : IntKind) (a b : Int) (p q : Prop) [Decidable p] [Decidable q] (s t : ByteArray) (x y : AV) (σ : Heap) (cs : List AV)
theorem aAdd : A.add (.int .i64 a) (.int .i64 b) = some (.int .i64 (IntKind.i64.wrap (a + b))) := rfl
theorem aSub : A.sub (.int .i64 a) (.int .i64 b) = some (.int .i64 (IntKind.i64.wrap (a - b))) := rfl
theorem aMul : A.mul (.int .i64 a) (.int .i64 b) = some (.int .i64 (IntKind.i64.wrap (a * b))) := rfl
theorem aLss : A.lss (.int .i64 a) (.int .i64 b) = some (.bool (decide (a < b))) := rfl
theorem aLeq : A.leq (.int .i64 a) (.int .i64 b) = some (.bool (decide (a ≤ b))) := rfl
theorem aGtr : A.gtr (.int .i64 a) (.int .i64 b) = some (.bool (decide (b < a))) := rfl
theorem aGeq : A.geq (.int .i64 a) (.int .i64 b) = some (.bool (decide (b ≤ a))) := rfl
theorem aLss8 : A.lss (.int .u8 a) (.int .u8 b) = some (.bool (decide (a < b))) := rfl
theorem aLeq8 : A.leq (.int .u8 a) (.int .u8 b) = some (.bool (decide (a ≤ b))) := rfl
theorem aGtr8 : A.gtr (.int .u8 a) (.int .u8 b) = some (.bool (decide (b < a))) := rfl
theorem aGeq8 : A.geq (.int .u8 a) (.int .u8 b) = some (.bool (decide (b ≤ a))) := rfl
theorem aEq : A.eql .i (.int k a) (.int k b) = some (.bool (decide (a = b))) := by
 simp only [A.eql, A.eqK, A.eqI, if_true, Option.map_some]; congr 2
theorem aNe : A.neq .i (.int k a) (.int k b) = some (.bool (decide (¬ a = b))) := by
 simp only [A.neq, A.eqK, A.eqI, if_true, Option.map_some]
 congr 2
 rw [Bool.eq_iff_iff]; simp
theorem aEqZ : A.eql .z (.str s) (.str t) = some (.bool (decide (s = t))) := by
 simp only [A.eql, A.eqK, A.eqZ, Option.map_some, bq]
theorem aNeZ : A.neq .z (.str s) (.str t) = some (.bool (decide (¬ s = t))) := by
 simp only [A.neq, A.eqK, A.eqZ, Option.map_some, bq]; simp
theorem aNot (b : Bool) : A.not (.bool b) = some (.bool (!b)) := rfl
theorem aNotD : A.not (.bool (decide p)) = some (.bool (decide (¬ p))) := by simp [A.not]
theorem aLb : A.lb (.lbx cs) = some cs := rfl
theorem aExt0 (l : List AV) : A.ext 0 (.tup (x :: l)) = some x := rfl
theorem aExt1 (x0 x : AV) (l : List AV) : A.ext 1 (.tup (x0 :: x :: l)) = some x := rfl
theorem aExt2 (x0 x1 x : AV) (l : List AV) : A.ext 2 (.tup (x0 :: x1 :: x :: l)) = some x := rfl
theorem aExt3 (x0 x1 x2 x : AV) (l : List AV) : A.ext 3 (.tup (x0 :: x1 :: x2 :: x :: l)) = some x := rfl
theorem aDe : A.deref (.rp cs) σ = some cs := rfl
theorem aFa (o : Nat) : A.faddr o (.rp cs) = some (.rp (cs.drop o)) := rfl
theorem aLenZ : A.lenZ (.str s) = some (.int .i64 s.size) := rfl
theorem aCI (n : Int) : A.cell (.int k n) = some (.int k n) := rfl
theorem aCB (b : Bool) : A.cell (.bool b) = some (.bool b) := rfl
theorem aCS : A.cell (.str s) = some (.str s) := rfl
theorem aCSl (sz : Nat) (es : List (List AV)) : A.cell (.sl sz es) = some (.sl sz es) := rfl
theorem p1D (o k : Nat) : A.part1 o (cs.drop k) = A.part1 (k + o) cs := by simp [A.part1, List.getElem?_drop]
end
theorem gd0 (a d : AV) (l : List AV) : (a :: l).getD 0 d = a := rfl
theorem gd1 (a b d : AV) (l : List AV) : (b :: a :: l).getD 1 d = a := rfl
theorem gd2 (a b c d : AV) (l : List AV) : (b :: c :: a :: l).getD 2 d = a := rfl
theorem gd3 (a b c e d : AV) (l : List AV) : (b :: c :: e :: a :: l).getD 3 d = a := rfl
theorem gd4 (a b c e f d : AV) (l : List AV) : (b :: c :: e :: f :: a :: l).getD 4 d = a := rfl
theorem gd5 (a b c e f g d : AV) (l : List AV) : (b :: c :: e :: f :: g :: a :: l).getD 5 d = a := rfl
theorem gd6 (a b c e f g h d : AV) (l : List AV) : (b :: c :: e :: f :: g :: h :: a :: l).getD 6 d = a := rfl
theorem gd7 (a b c e f g h i d : AV) (l : List AV) : (b :: c :: e :: f :: g :: h :: i :: a :: l).getD 7 d = a := rfl
theorem gd8 (a b c e f g h i j d : AV) (l : List AV) : (b :: c :: e :: f :: g :: h :: i :: j :: a :: l).getD 8 d = a := rfl
theorem wrap64 {n : Int} (h : inI n) : IntKind.i64.wrap n = n := IntWalk.i64_in n h
theorem wrap_eq {ro : Bool} {ain : List Sh} {rout : Sh} {r : List AV → Heap → Option (AV × Heap)} {args : List AV} {σ σ' : Heap} {v v' : AV} (h : args.any A.own = false) (e : r (A.nnL ain args) σ = some (v, σ')) (hv : A.nn rout v = v') : A.wrap ro ain rout r args σ = some (v', σ') := by
 unfold A.wrap
 rw [h, Bool.and_false, cond_false, e]
 simp [hv]
theorem scal2_shift {v : AV} (n : Nat) (h : A.scal2 v = true) : A.fresh v = true ∧ A.shift n v = v := by
 cases v <;> first | exact ⟨h, rfl⟩ | cases h
theorem scal_shift {v : AV} (n : Nat) (h : A.scal v = true) : A.freshT v = true ∧ A.shiftT n v = v := by
 have key : (∀ vs, v ≠ .tup vs) → A.freshT v = true ∧ A.shiftT n v = v := by
  intro k
  have := scal2_shift (v := v) n
  cases v <;> first | exact absurd rfl (k _) | exact this h
 by_cases ht : ∃ vs, v = .tup vs
 ·obtain ⟨vs, rfl⟩ := ht
  simp only [A.scal, List.all_eq_true] at h
  refine ⟨by simp only [A.freshT, List.all_eq_true]; exact fun x hx => (scal2_shift n (h x hx)).1, ?_⟩
  simp only [A.shiftT]
  congr 1
  calc vs.map (A.shift n) = vs.map id := List.map_congr_left fun x hx => (scal2_shift n (h x hx)).2
   _ = vs := List.map_id vs
 ·exact key fun vs e => ht ⟨vs, e⟩
theorem wrap_own {ain : List Sh} {rout : Sh} {r : List AV → Heap → Option (AV × Heap)} {args args' : List AV} {σ : Heap} {v : AV} (h : args.any A.own = true) (hz : A.frzL σ 0 8 args = some args') (ho : args'.any A.own = false) (e : A.wrap true ain rout r args' [] = some (v, [])) (hs : A.scal v = true) : A.wrap true ain rout r args σ = some (v, σ) := by
 unfold A.wrap at e ⊢
 rw [ho, Bool.and_false, cond_false] at e
 obtain ⟨⟨q1, q2⟩, e1, e2⟩ := Option.map_eq_some_iff.1 e
 simp only [Prod.mk.injEq] at e2
 obtain ⟨rfl, rfl⟩ := e2
 rw [h, Bool.and_self, cond_true, hz]
 simp [e1, (scal_shift σ.length hs).1, (scal_shift σ.length hs).2]
theorem fin_same (σ : Heap) (r : AV) : A.fin σ r σ = some (r, σ) := by simp [A.fin]
theorem frz_scal1 (σ : Heap) (n d : Nat) {a : AV} (h : A.scal1 a = true) : A.frz σ n d a = some a := by
 cases a <;> simp only [A.scal1] at h <;> first | (cases h; done) | skip
 case sl sz es => cases es with
  | nil => cases d <;> simp [A.frz, A.frzLL]
  | cons _ _ => simp at h
 all_goals cases d <;> simp [A.frz]
theorem frzL_scal1 (σ : Heap) (n d : Nat) : ∀ {l : List AV}, l.all A.scal1 = true → A.frzL σ n d l = some l
 | [], _ => by simp [A.frzL]
 | a :: l, h => by
  simp only [List.all_cons, Bool.and_eq_true] at h
  simp [A.frzL, frz_scal1 σ n d h.1, frzL_scal1 σ n d h.2]
theorem frz_scal2 (σ : Heap) (n d : Nat) {a : AV} (h : A.scal2 a = true) : A.frz σ n d a = some a := by
 unfold A.scal2 at h
 split at h
 ·cases d <;> simp [A.frz, frzL_scal1 σ n _ h]
 ·exact frz_scal1 σ n d h
theorem frzL_scal2 (σ : Heap) (n d : Nat) : ∀ {l : List AV}, l.all A.scal2 = true → A.frzL σ n d l = some l
 | [], _ => by simp [A.frzL]
 | a :: l, h => by
  simp only [List.all_cons, Bool.and_eq_true] at h
  simp [A.frzL, frz_scal2 σ n d h.1, frzL_scal2 σ n d h.2]
theorem frz_scal (σ : Heap) (n d : Nat) {a : AV} (h : A.scal a = true) : A.frz σ n d a = some a := by
 unfold A.scal at h
 split at h
 ·cases d <;> simp [A.frz, frzL_scal2 σ n _ h]
 ·exact frz_scal2 σ n d h
theorem fin_scal (σ bs : Heap) {r : AV} (h : A.scal r = true) : A.fin σ r (σ ++ bs) = some (r, σ) := by
 unfold A.fin
 split
 ·rfl
 ·rw [if_pos (by simp), frz_scal _ _ _ h]; rfl
theorem fin_int (σ bs : Heap) (k : IntKind) (n : Int) : A.fin σ (.int k n) (σ ++ bs) = some (.int k n, σ) := fin_scal σ bs rfl
theorem fin_bool (σ bs : Heap) (b : Bool) : A.fin σ (.bool b) (σ ++ bs) = some (.bool b, σ) := fin_scal σ bs rfl
theorem fin_str (σ bs : Heap) (s : ByteArray) : A.fin σ (.str s) (σ ++ bs) = some (.str s, σ) := fin_scal σ bs rfl
theorem fin_unit (σ bs : Heap) : A.fin σ (.tup []) (σ ++ bs) = some (.tup [], σ) := fin_scal σ bs rfl
theorem hat (σ bs : Heap) (j : Nat) : (σ ++ bs)[σ.length + j]? = bs[j]? := by rw [List.getElem?_append_right (by omega)]; congr 1; omega
theorem hat0 (σ bs : Heap) : (σ ++ bs)[σ.length]? = bs[0]? := by rw [List.getElem?_append_right (Nat.le_refl _), Nat.sub_self]
theorem hset (σ bs : Heap) (j : Nat) (b : Blk) : (σ ++ bs).set (σ.length + j) b = σ ++ bs.set j b := by rw [List.set_append_right _ _ (by omega)]; congr 2; omega
theorem hset0 (σ bs : Heap) (b : Blk) : (σ ++ bs).set σ.length b = σ ++ bs.set 0 b := by rw [List.set_append_right _ _ (Nat.le_refl _), Nat.sub_self]
section
variable {α : Type} (sz : Nat) (c : α → List AV) (l : List α)
theorem lenS_sl : A.lenS (sl sz c l) = some (.int .i64 l.length) := by simp [sl, A.lenS]
theorem iaddr_sl {k : Nat} {x : α} (h : l[k]? = some x) : A.iaddr sz (sl sz c l) (.int .i64 (k : Int)) = some (.rp (c x)) := by
 have hk : k < l.length := (List.getElem?_eq_some_iff.1 h).1
 have hx : l[k] = x := (List.getElem?_eq_some_iff.1 h).2
 simp [A.iaddr, sl, A.idx, hk, hx]
theorem iaddr_int {i : Int} {x : α} (h0 : 0 ≤ i) (h : l[i.toNat]? = some x) : A.iaddr sz (sl sz c l) (.int .i64 i) = some (.rp (c x)) := by
 have := iaddr_sl sz c l h
 rwa [Int.toNat_of_nonneg h0] at this
end
inductive Rd (S R : Type) where
 | go (s : S)
 | out (r : R)
def Rd.el {S R γ : Type} (x : Rd S R) (f : S → γ) (g : R → γ) : γ := match x with | .go s => f s | .out r => g r
theorem el_go {S R γ : Type} (s : S) (f : S → γ) (g : R → γ) : (Rd.go s : Rd S R).el f g = f s := rfl
theorem el_out {S R γ : Type} (r : R) (f : S → γ) (g : R → γ) : (Rd.out r : Rd S R).el f g = g r := rfl
theorem el_ite {S R γ : Type} {p : Prop} [Decidable p] (x y : Rd S R) (f : S → γ) (g : R → γ) : (if p then x else y).el f g = if p then x.el f g else y.el f g := by split <;> rfl
def runP {α S R : Type} (body : List α → α → S → Rd S R) : List α → List α → S → Rd S R
 | _, [], s => .go s
 | pre, x :: l, s => match body pre x s with | .go s' => runP body (pre ++ [x]) l s' | .out r => .out r
theorem iter_loop {f : List AV → Heap → Option (AX × List AV × Heap)} {v : List AV} {σ : Heap} : ∀ {n m : Nat} {r r' : AX × List AV × Heap}, A.iter f n v σ = some r → A.iter f m v σ = some r' → r = r' := by
 intro n
 induction n generalizing v σ with
 | zero => intro m r r' h; cases h
 | succ n ih =>
  intro m r r' h1 h2
  cases m with
  | zero => cases h2
  | succ m =>
   simp only [A.iter] at h1 h2
   cases hf : f v σ with
   | none => rw [hf] at h1; cases h1
   | some q =>
    rw [hf] at h1 h2
    simp only [Option.bind_some] at h1 h2
    obtain ⟨e, v', σ'⟩ := q
    cases e with
    | normal => exact ih h1 h2
    | exit i => simp only at h1 h2; rw [h1] at h2; injection h2
    | ret => simp only at h1 h2; rw [h1] at h2; injection h2
theorem loop_of_iter {f : List AV → Heap → Option (AX × List AV × Heap)} {v : List AV} {σ : Heap} {n : Nat} {r : AX × List AV × Heap} (h : A.iter f n v σ = some r) : A.loop f v σ = some r := by
 have hex : ∃ n r, A.iter f n v σ = some r := ⟨n, r, h⟩
 unfold A.loop
 rw [dif_pos hex]
 exact congrArg some (iter_loop (Classical.choose_spec (Classical.choose_spec hex)) h)
theorem loop_step {f : List AV → Heap → Option (AX × List AV × Heap)} {v v' : List AV} {σ σ' : Heap} {r : AX × List AV × Heap} (h : f v σ = some (.normal, v', σ')) (k : ∃ n, A.iter f n v' σ' = some r) : ∃ n, A.iter f n v σ = some r := by
 obtain ⟨n, k⟩ := k
 exact ⟨n + 1, by simp [A.iter, h, k]⟩
theorem loop_done {f : List AV → Heap → Option (AX × List AV × Heap)} {v : List AV} {σ : Heap} {r : AX × List AV × Heap} (h : f v σ = some r) (hr : r.1 ≠ .normal) : ∃ n, A.iter f n v σ = some r := by
 obtain ⟨e, v', σ'⟩ := r
 refine ⟨1, ?_⟩
 cases e <;> first | (simp [A.iter, h]; done) | exact absurd rfl hr
theorem loop_pre {α S R γ : Type} {f : List AV → Heap → Option (AX × List AV × Heap)} (l : List α) (body : List α → α → S → Rd S R) (st : List α → S → List AV) (hp : List α → S → Heap)
  (fin : S → AX × List AV × Heap) (out : List α → S → R → AX × List AV × Heap) (P : List α → S → Prop) (s0 : S) {k : AX × List AV × Heap → Option γ} (K1 : S → Option γ) (K2 : R → Option γ)
  (hstep : ∀ pre x rest s, l = pre ++ x :: rest → P pre s → f (st pre s) (hp pre s) = some ((body pre x s).el (fun s' => (.normal, st (pre ++ [x]) s', hp (pre ++ [x]) s')) (fun r => out pre s r)))
  (hend : ∀ s, P l s → f (st l s) (hp l s) = some (fin s)) (h0 : P [] s0)
  (hP : ∀ pre x rest s s', l = pre ++ x :: rest → P pre s → body pre x s = .go s' → P (pre ++ [x]) s')
  (hk1 : ∀ s, P l s → k (fin s) = K1 s) (hk2 : ∀ pre x rest s r, l = pre ++ x :: rest → P pre s → body pre x s = .out r → k (out pre s r) = K2 r)
  (hfin : ∀ s, (fin s).1 ≠ .normal := by intros; simp) (hout : ∀ pre s r, (out pre s r).1 ≠ .normal := by intros; simp) {v : List AV} {σ : Heap} (hv : v = st [] s0 := by rfl) (hσ : σ = hp [] s0 := by rfl) :
  (A.loop f v σ).bind k = (runP body [] l s0).el K1 K2 := by
 have key : ∀ (rest pre : List α) (s : S), l = pre ++ rest → P pre s → ∃ q, (∃ n, A.iter f n (st pre s) (hp pre s) = some q) ∧ k q = (runP body pre rest s).el K1 K2 := by
  intro rest
  induction rest with
  | nil =>
   intro pre s hl hp'
   rw [List.append_nil] at hl
   subst hl
   exact ⟨fin s, loop_done (hend s hp') (hfin s), by rw [runP, el_go, hk1 s hp']⟩
  | cons x rest ih =>
   intro pre s hl hp'
   have h := hstep pre x rest s hl hp'
   rw [runP]
   cases hb : body pre x s with
   | go s' =>
    rw [hb] at h
    obtain ⟨q, h1, h2⟩ := ih (pre ++ [x]) s' (by simpa using hl) (hP pre x rest s s' hl hp' hb)
    exact ⟨q, loop_step h h1, h2⟩
   | out r =>
    rw [hb] at h
    exact ⟨out pre s r, loop_done h (hout pre s r), by rw [el_out, hk2 pre x rest s r hl hp' hb]⟩
 obtain ⟨q, ⟨n, h1⟩, h2⟩ := key l [] s0 rfl h0
 rw [hv, hσ, loop_of_iter h1, Option.bind_some, h2]
theorem pre_get {α : Type} {l pre rest : List α} {x : α} (h : l = pre ++ x :: rest) : l[pre.length]? = some x := by rw [h]; simp
theorem pre_lt {α : Type} {l pre rest : List α} {x : α} (h : l = pre ++ x :: rest) : pre.length < l.length := by rw [h]; simp
theorem all_loop {γ : Type} {p : UInt8 → Bool} {f : List AV → Heap → Option (AX × List AV × Heap)} (s : ByteArray) {σ : Heap} {k : AX × List AV × Heap → Option γ} (K2 : Option γ)
  (hstep : ∀ (i : Nat) (c : UInt8), i < s.size → A.sidx (.str s) (.int .i64 (i : Int)) = some (.int .u8 c.toNat) → f [.bool false, .int .i64 (i : Int)] σ = if p c = true then some (.normal, [.bool false, .int .i64 ((i : Int) + 1)], σ) else some (.ret, [.bool false, .int .i64 (i : Int)], σ))
  (hend : f [.bool false, .int .i64 (s.size : Int)] σ = some (.exit 0, [.bool false, .int .i64 (s.size : Int)], σ)) (hk2 : ∀ i : Int, k (.ret, [.bool false, .int .i64 i], σ) = K2) :
  (A.loop f [.bool false, .int .i64 0] σ).bind k = if s.data.toList.all p = true then k (.exit 0, [.bool false, .int .i64 (s.size : Int)], σ) else K2 := by
 have hsz : s.data.toList.length = s.size := rfl
 refine (loop_pre (S := Unit) (R := Unit) s.data.toList (fun _ c _ => if p c = true then .go () else .out ()) (fun pre _ => [.bool false, .int .i64 (pre.length : Int)]) (fun _ _ => σ) (fun _ => (.exit 0, [.bool false, .int .i64 (s.size : Int)], σ)) (fun pre _ _ => (.ret, [.bool false, .int .i64 (pre.length : Int)], σ)) (fun _ _ => True) ()
  (fun _ => k (.exit 0, [.bool false, .int .i64 (s.size : Int)], σ)) (fun _ => K2) ?_ ?_ trivial (fun _ _ _ _ _ _ _ _ => trivial) (fun _ _ => rfl) (fun _ _ _ _ _ _ _ _ => hk2 _)).trans ?_
 ·intro pre c rest u hl _
  have hlt := pre_lt hl
  have hc := pre_get hl
  rw [hsz] at hlt
  have hsi : A.sidx (.str s) (.int .i64 (pre.length : Int)) = some (.int .u8 c.toNat) := by
   have h2 : s[pre.length] = c := (List.getElem?_eq_some_iff.1 hc).2
   simp [A.sidx, A.idx, hlt, h2]
  rw [hstep pre.length c hlt hsi]
  cases p c <;> simp [Rd.el]
 ·intro u _; rw [hsz]; exact hend
 ·have key : ∀ (l pre : List UInt8), (runP (fun (_ : List UInt8) c (_ : Unit) => if p c = true then (Rd.go () : Rd Unit Unit) else .out ()) pre l ()).el (fun _ => k (.exit 0, [.bool false, .int .i64 (s.size : Int)], σ)) (fun _ => K2) = if l.all p = true then k (.exit 0, [.bool false, .int .i64 (s.size : Int)], σ) else K2 := by
   intro l
   induction l with
   | nil => intro pre; simp [runP, Rd.el]
   | cons c l ih =>
    intro pre
    rw [runP]
    cases hc : p c
    ·simp [hc, Rd.el]
    ·simp only [if_true]
     rw [ih]
     simp [hc]
  exact key s.data.toList []
section
variable {α : Type} (g : α → ByteArray) (gi : α → Int) (v : α → AV)
theorem find_z (k : ByteArray) : ∀ (l : List α), A.find .z (.str k) (l.map fun x => (AV.str (g x), v x)) = some ((l.find? fun x => decide (k = g x)).map v)
 | [] => rfl
 | x :: l => by
  simp only [List.map_cons, A.find, A.eqK, A.eqZ, Option.bind_some, List.find?]
  by_cases h : k = g x
  ·rw [bq]; simp [h]
  ·rw [bq]; simp [h, find_z k l]
theorem find_i (kk : IntKind) (k : Int) : ∀ (l : List α), A.find .i (.int kk k) (l.map fun x => (AV.int kk (gi x), v x)) = some ((l.find? fun x => decide (k = gi x)).map v)
 | [] => rfl
 | x :: l => by
  simp only [List.map_cons, A.find, A.eqK, A.eqI, if_true, Option.bind_some, List.find?]
  by_cases h : k = gi x
  ·have : (k == gi x) = true := by simpa using h
   simp [this, h]
  ·have : (k == gi x) = false := by simpa using h
   simp [this, h, find_i kk k l]
theorem upd_z {k : ByteArray} {w : AV} : ∀ {l : List α}, (∀ x ∈ l, g x ≠ k) → A.upd .z (.str k) w (l.map fun x => (AV.str (g x), v x)) = some ((l.map fun x => (AV.str (g x), v x)) ++ [(.str k, w)])
 | [], _ => rfl
 | x :: l, h => by
  have h1 : (k == g x) = false := by rw [bq]; exact decide_eq_false fun e : k = g x => h x (by simp) e.symm
  simp only [List.map_cons, A.upd, A.eqK, A.eqZ, Option.bind_some, h1, cond_false]
  rw [upd_z (fun y hy => h y (by simp [hy]))]
  rfl
theorem upd_i {kk : IntKind} {k : Int} {w : AV} : ∀ {l : List α}, (∀ x ∈ l, gi x ≠ k) → A.upd .i (.int kk k) w (l.map fun x => (AV.int kk (gi x), v x)) = some ((l.map fun x => (AV.int kk (gi x), v x)) ++ [(.int kk k, w)])
 | [], _ => rfl
 | x :: l, h => by
  have h1 : (k == gi x) = false := by simpa using fun e : k = gi x => h x (by simp) e.symm
  simp only [List.map_cons, A.upd, A.eqK, A.eqI, if_true, Option.bind_some, h1, cond_false]
  rw [upd_i (fun y hy => h y (by simp [hy]))]
  rfl
end
theorem look_at (e : A.EK) {k z : AV} {σ : Heap} {id : Nat} {es : List (AV × AV)} (hk : A.keyOk e k = true) (h : σ[id]? = some (.map es)) : A.look e (.om id) k z σ = (A.find e k es).map fun r => r.getD z := by
 simp [A.look, hk, A.entries, h]
theorem mupd_at (e : A.EK) {k w : AV} {σ : Heap} {id : Nat} {es : List (AV × AV)} (hk : A.keyOk e k = true) (h : σ[id]? = some (.map es)) : A.mupd e (.om id) k w σ = (A.upd e k w es).map fun es => σ.set id (.map es) := by
 simp [A.mupd, hk, h]
theorem len_snoc {α : Type} (l : List α) (x : α) : (((l ++ [x]).length : Nat) : Int) = (l.length : Int) + 1 := by simp
theorem iaddr_pred {α : Type} (sz : Nat) (c : α → List AV) (l : List α) {k : Nat} {x : α} (h0 : 0 < k) (h : l[k - 1]? = some x) : A.iaddr sz (sl sz c l) (.int .i64 ((k : Int) - 1)) = some (.rp (c x)) := by
 have := iaddr_sl sz c l h
 rwa [show ((k - 1 : Nat) : Int) = (k : Int) - 1 by omega] at this
def setZ {α : Type} (g : α → ByteArray) (l : List α) : List (AV × AV) := l.map fun x => (AV.str (g x), AV.bool true)
def setI {α : Type} (g : α → Int) (l : List α) : List (AV × AV) := l.map fun x => (AV.int .i64 (g x), AV.bool true)
theorem any_find {α : Type} (p : α → Bool) : ∀ (l : List α), ((l.find? p).map fun _ => AV.bool true).getD (AV.bool false) = AV.bool (l.any p)
 | [] => rfl
 | x :: l => by
  simp only [List.find?, List.any_cons]
  cases h : p x
  ·simpa using any_find p l
  ·rfl
theorem setZ_find {α : Type} (g : α → ByteArray) (k : ByteArray) (l : List α) : (A.find .z (.str k) (setZ g l)).map (fun r => r.getD (.bool false)) = some (.bool (memB k (l.map g))) := by
 unfold setZ
 rw [find_z g (fun _ => AV.bool true) k l, Option.map_some, any_find]
 refine congrArg some (congrArg AV.bool ?_)
 rw [Bool.eq_iff_iff, memB_iff]
 simp only [List.any_eq_true, decide_eq_true_eq, List.mem_map]
 exact ⟨fun ⟨x, h, e⟩ => ⟨x, h, e.symm⟩, fun ⟨x, h, e⟩ => ⟨x, h, e.symm⟩⟩
theorem setI_find {α : Type} (g : α → Int) (k : Int) (l : List α) : (A.find .i (.int .i64 k) (setI g l)).map (fun r => r.getD (.bool false)) = some (.bool (memB k (l.map g))) := by
 unfold setI
 rw [find_i g (fun _ => AV.bool true) .i64 k l, Option.map_some, any_find]
 refine congrArg some (congrArg AV.bool ?_)
 rw [Bool.eq_iff_iff, memB_iff]
 simp only [List.any_eq_true, decide_eq_true_eq, List.mem_map]
 exact ⟨fun ⟨x, h, e⟩ => ⟨x, h, e.symm⟩, fun ⟨x, h, e⟩ => ⟨x, h, e.symm⟩⟩
section
variable {α : Type} (g : α → ByteArray) (gi : α → Int) (l : List α) (k : ByteArray) (n : Int) (σ bs : Heap) (b0 : Blk)
theorem setZ_look0 : A.look .z (.om σ.length) (.str k) (.bool false) (σ ++ Blk.map (setZ g l) :: bs) = some (.bool (memB k (l.map g))) := by
 rw [look_at .z rfl (by rw [hat0]; rfl), setZ_find]
theorem setI_look0 : A.look .i (.om σ.length) (.int .i64 n) (.bool false) (σ ++ Blk.map (setI gi l) :: bs) = some (.bool (memB n (l.map gi))) := by
 rw [look_at .i rfl (by rw [hat0]; rfl), setI_find]
theorem setZ_look1 : A.look .z (.om (σ.length + 1)) (.str k) (.bool false) (σ ++ b0 :: Blk.map (setZ g l) :: bs) = some (.bool (memB k (l.map g))) := by
 rw [look_at .z rfl (by rw [hat]; rfl), setZ_find]
theorem setI_look1 : A.look .i (.om (σ.length + 1)) (.int .i64 n) (.bool false) (σ ++ b0 :: Blk.map (setI gi l) :: bs) = some (.bool (memB n (l.map gi))) := by
 rw [look_at .i rfl (by rw [hat]; rfl), setI_find]
theorem setZ_upd0 (h : memB k (l.map g) = false) : A.mupd .z (.om σ.length) (.str k) (.bool true) (σ ++ Blk.map (setZ g l) :: bs) = some (σ ++ Blk.map (setZ g l ++ [(.str k, .bool true)]) :: bs) := by
 rw [mupd_at .z rfl (by rw [hat0]; rfl), setZ, upd_z g _ (fun x hx e => memB_false.1 h (by rw [← e]; exact List.mem_map_of_mem hx)), Option.map_some, hset0]; rfl
theorem setI_upd0 (h : memB n (l.map gi) = false) : A.mupd .i (.om σ.length) (.int .i64 n) (.bool true) (σ ++ Blk.map (setI gi l) :: bs) = some (σ ++ Blk.map (setI gi l ++ [(.int .i64 n, .bool true)]) :: bs) := by
 rw [mupd_at .i rfl (by rw [hat0]; rfl), setI, upd_i gi _ (fun x hx e => memB_false.1 h (by rw [← e]; exact List.mem_map_of_mem hx)), Option.map_some, hset0]; rfl
theorem setZ_upd1 (h : memB k (l.map g) = false) : A.mupd .z (.om (σ.length + 1)) (.str k) (.bool true) (σ ++ b0 :: Blk.map (setZ g l) :: bs) = some (σ ++ b0 :: Blk.map (setZ g l ++ [(.str k, .bool true)]) :: bs) := by
 rw [mupd_at .z rfl (by rw [hat]; rfl), setZ, upd_z g _ (fun x hx e => memB_false.1 h (by rw [← e]; exact List.mem_map_of_mem hx)), Option.map_some, hset]; rfl
theorem setI_upd1 (h : memB n (l.map gi) = false) : A.mupd .i (.om (σ.length + 1)) (.int .i64 n) (.bool true) (σ ++ b0 :: Blk.map (setI gi l) :: bs) = some (σ ++ b0 :: Blk.map (setI gi l ++ [(.int .i64 n, .bool true)]) :: bs) := by
 rw [mupd_at .i rfl (by rw [hat]; rfl), setI, upd_i gi _ (fun x hx e => memB_false.1 h (by rw [← e]; exact List.mem_map_of_mem hx)), Option.map_some, hset]; rfl
end
theorem setZ_snoc {α : Type} (g : α → ByteArray) (l : List α) (x : α) : setZ g (l ++ [x]) = setZ g l ++ [(.str (g x), .bool true)] := by simp [setZ]
theorem quiet_same (σ : Heap) (v : AV) : A.quiet (some (v, σ)) σ = some v := by simp [A.quiet]
def Fz (a : AV) : Prop := ∀ σ n d, A.frz σ n d a = some a
def FzL (l : List AV) : Prop := ∀ σ n d, A.frzL σ n d l = some l
theorem fz_int (k : IntKind) (n : Int) : Fz (.int k n) := fun _ _ d => by cases d <;> simp [A.frz]
theorem fz_bool (b : Bool) : Fz (.bool b) := fun _ _ d => by cases d <;> simp [A.frz]
theorem fz_str (s : ByteArray) : Fz (.str s) := fun _ _ d => by cases d <;> simp [A.frz]
theorem fz_agg {l : List AV} (h : FzL l) : Fz (.agg l) := fun σ n d => by cases d <;> simp [A.frz, h σ n]
theorem fzL_nil : FzL [] := fun _ _ _ => by simp [A.frzL]
theorem fzL_cons {a : AV} {l : List AV} (h : Fz a) (k : FzL l) : FzL (a :: l) := fun σ n d => by simp [A.frzL, h σ n d, k σ n d]
theorem fz_sl {α : Type} {sz : Nat} {c : α → List AV} (h : ∀ x, FzL (c x)) (l : List α) : Fz (sl sz c l) := by
 intro σ n d
 have : A.frzLL σ n d (l.map c) = some (l.map c) := by
  induction l with
  | nil => simp [A.frzLL]
  | cons x l ih => simp [A.frzLL, h x σ n d, ih]
 cases d <;> simp [sl, A.frz, this]
theorem fzLL {α : Type} {c : α → List AV} (h : ∀ x, FzL (c x)) (l : List α) (σ : Heap) (n d : Nat) : A.frzLL σ n d (l.map c) = some (l.map c) := by
 induction l with
 | nil => simp [A.frzLL]
 | cons x l ih => simp [A.frzLL, h x σ n d, ih]
def idxI {α : Type} (p : α → Bool) (l : List α) : Int := match l.findIdx? p with | some i => i | none => -1
theorem idxI_cases {α : Type} (p : α → Bool) (l : List α) : (idxI p l = -1 ∧ (∀ x ∈ l, p x = false) ∧ l.find? p = none) ∨ ∃ (k : Nat) (x : α), l[k]? = some x ∧ p x = true ∧ idxI p l = k ∧ l.find? p = some x ∧ ∀ (j : Nat) (y : α), j < k → l[j]? = some y → p y = false := by
 induction l with
 | nil => left; exact ⟨rfl, by simp, rfl⟩
 | cons x l ih =>
  cases h : p x
  ·rcases ih with ⟨h1, h2, h3⟩ | ⟨k, y, h1, h2, h3, h4, h5⟩
   ·left
    refine ⟨?_, ?_, ?_⟩
    ·unfold idxI at h1 ⊢
     rw [List.findIdx?_cons, h]
     cases hf : l.findIdx? p with
     | none => simp
     | some i => rw [hf] at h1; simp at h1
    ·intro y hy
     rcases List.mem_cons.1 hy with rfl | hy
     ·exact h
     ·exact h2 y hy
    ·simp [List.find?, h, h3]
   ·right
    refine ⟨k + 1, y, by simpa using h1, h2, ?_, by simp [List.find?, h, h4], ?_⟩
    ·unfold idxI at h3 ⊢
     rw [List.findIdx?_cons, h]
     cases hf : l.findIdx? p with
     | none => rw [hf] at h3; simp at h3
     | some i => rw [hf] at h3; simp at h3 ⊢; omega
    ·intro j z hj hz
     cases j with
     | zero => simp at hz; subst hz; exact h
     | succ j => exact h5 j z (by omega) (by simpa using hz)
  ·right
   refine ⟨0, x, rfl, h, ?_, by simp [List.find?, h], by intro j y hj; omega⟩
   unfold idxI
   rw [List.findIdx?_cons, h]; rfl
theorem idxI_run {α : Type} {γ : Type} (p : α → Bool) (K1 : Option γ) (K2 : Int → Option γ) : ∀ (l pre : List α), (∀ x ∈ pre, p x = false) → (runP (fun pre x (_ : Unit) => if p x = true then (Rd.out (pre.length : Int) : Rd Unit Int) else .go ()) pre l ()).el (fun _ => K1) K2 = if idxI p (pre ++ l) = -1 then K1 else K2 (idxI p (pre ++ l))
 | [], pre, h => by
  have : idxI p (pre ++ []) = -1 := by
   rcases idxI_cases p (pre ++ []) with h1 | ⟨k, x, h1, h2, _⟩
   ·exact h1.1
   ·have := h x (by have := List.mem_of_getElem? h1; simpa using this)
    rw [h2] at this; cases this
  rw [runP, el_go, if_pos this]
 | x :: l, pre, h => by
  rw [runP]
  cases hx : p x
  ·simp only [Bool.false_eq_true, if_false]
   have := idxI_run p K1 K2 l (pre ++ [x]) (fun y hy => by
    rcases List.mem_append.1 hy with hy | hy
    ·exact h y hy
    ·simp at hy; subst hy; exact hx)
   simpa using this
  ·simp only [if_true, el_out]
   have : idxI p (pre ++ x :: l) = pre.length := by
    rcases idxI_cases p (pre ++ x :: l) with h1 | ⟨k, y, h1, h2, h3, _, h5⟩
    ·have := h1.2.1 x (by simp); rw [hx] at this; cases this
    ·rw [h3]
     rcases Nat.lt_trichotomy k pre.length with hk | hk | hk
     ·rw [List.getElem?_append_left hk] at h1
      have := h y (List.mem_of_getElem? h1); rw [h2] at this; cases this
     ·omega
     ·have := h5 pre.length x hk (by simp); rw [hx] at this; cases this
   rw [this, if_neg (by omega)]
theorem runP_any {α R γ : Type} (p : α → Bool) (r : R) (K1 : Unit → γ) (K2 : R → γ) : ∀ (l pre : List α), (runP (fun _ x (_ : Unit) => if p x = true then (Rd.out r : Rd Unit R) else .go ()) pre l ()).el K1 K2 = if l.any p = true then K2 r else K1 ()
 | [], pre => by simp [runP, Rd.el]
 | x :: l, pre => by
  rw [runP]
  cases h : p x
  ·simp only [Bool.false_eq_true, if_false]
   rw [runP_any p r K1 K2 l (pre ++ [x])]
   simp [h]
  ·simp [h, Rd.el]
theorem sliceS_take {α : Type} (sz : Nat) (c : α → List AV) (l : List α) {k : Nat} (h : k ≤ l.length) {σ : Heap} : A.sliceS sz (sl sz c l) none (some (.int .i64 (k : Int))) σ = some (sl sz c (l.take k)) := by
 simp [A.sliceS, sl, A.bound, h, List.map_take]
theorem nn_e {α : Type} {sz : Nat} {c : α → List AV} {sh : List Sh} (h : ∀ x, A.nnL sh (c x) = c x) (l : List α) : A.nn (.e sz sh) (sl sz c l) = sl sz c l := by
 simp only [sl, A.nn, List.map_map]
 congr 1
 exact List.map_congr_left fun x _ => h x
theorem loop_any {α γ : Type} {f : List AV → Heap → Option (AX × List AV × Heap)} (l : List α) (p : α → Bool) (vs : Nat → List AV) (σ : Heap) (fin : AX × List AV × Heap) (ret : Nat → AX × List AV × Heap) {k : AX × List AV × Heap → Option γ} (K1 K2 : Option γ)
  (hstep : ∀ (i : Nat) (x : α), l[i]? = some x → f (vs i) σ = if p x = true then some (ret i) else some (.normal, vs (i + 1), σ)) (hend : f (vs l.length) σ = some fin) (hk1 : k fin = K1) (hk2 : ∀ i, k (ret i) = K2)
  (hfin : fin.1 ≠ .normal := by simp) (hret : ∀ i, (ret i).1 ≠ .normal := by intros; simp) {v : List AV} {σ' : Heap} (hv : v = vs 0 := by rfl) (hσ : σ' = σ := by rfl) :
  (A.loop f v σ').bind k = if l.any p = true then K2 else K1 := by
 subst hv hσ
 refine (loop_pre (S := Unit) (R := Unit) l (fun _ x _ => if p x = true then .out () else .go ()) (fun pre _ => vs pre.length) (fun _ _ => σ') (fun _ => fin) (fun pre _ _ => ret pre.length) (fun _ _ => True) () (fun _ => K1) (fun _ => K2)
  ?_ (fun _ _ => hend) trivial (fun _ _ _ _ _ _ _ _ => trivial) (fun _ _ => hk1) (fun _ _ _ _ _ _ _ _ => hk2 _) (fun _ => hfin) (fun _ _ _ => hret _)).trans (runP_any p () _ _ l [])
 intro pre x rest u hl _
 rw [hstep pre.length x (pre_get hl)]
 cases p x <;> simp [Rd.el]
theorem iaddr_at {α : Type} (sz : Nat) (c : α → List AV) {l : List α} {k : Nat} {x : α} (h : l[k]? = some x) : A.iaddr sz (sl sz c l) (.int .i64 (k : Int)) = some (.rp (c x)) ∧ (k : Int) < (l.length : Int) ∧ (l.length ≤ mxl → IntKind.i64.wrap ((k : Int) + 1) = (k : Int) + 1) :=
 ⟨iaddr_sl sz c l h, by have := (List.getElem?_eq_some_iff.1 h).1; omega, fun hl => wrap64 (by have := (List.getElem?_eq_some_iff.1 h).1; unfold inI; unfold mxl at hl; omega)⟩
theorem loop_find {α γ : Type} {f : List AV → Heap → Option (AX × List AV × Heap)} (l : List α) (p : α → Bool) (vs : Nat → List AV) (σ : Heap) (fin : AX × List AV × Heap) (ret : Nat → α → AX × List AV × Heap) {k : AX × List AV × Heap → Option γ} (K1 : Option γ) (K2 : α → Option γ)
  (hstep : ∀ (i : Nat) (x : α), l[i]? = some x → f (vs i) σ = if p x = true then some (ret i x) else some (.normal, vs (i + 1), σ)) (hend : f (vs l.length) σ = some fin) (hk1 : k fin = K1) (hk2 : ∀ i x, k (ret i x) = K2 x)
  (hfin : fin.1 ≠ .normal := by simp) (hret : ∀ i x, (ret i x).1 ≠ .normal := by intros; simp) {v : List AV} {σ' : Heap} (hv : v = vs 0 := by rfl) (hσ : σ' = σ := by rfl) :
  (A.loop f v σ').bind k = (l.find? p).elim K1 K2 := by
 subst hv hσ
 have run : ∀ (l pre : List α), (runP (fun _ x (_ : Unit) => if p x = true then (Rd.out x : Rd Unit α) else .go ()) pre l ()).el (fun _ => K1) K2 = (l.find? p).elim K1 K2 := by
  intro l
  induction l with
  | nil => intro pre; rfl
  | cons x l ih =>
   intro pre
   rw [runP]
   cases h : p x
   ·simp only [Bool.false_eq_true, if_false]
    rw [ih, List.find?_cons, h]
   ·simp [h, Rd.el]
 refine (loop_pre (S := Unit) (R := α) l (fun _ x _ => if p x = true then .out x else .go ()) (fun pre _ => vs pre.length) (fun _ _ => σ') (fun _ => fin) (fun pre _ x => ret pre.length x) (fun _ _ => True) () (fun _ => K1) K2
  ?_ (fun _ _ => hend) trivial (fun _ _ _ _ _ _ _ _ => trivial) (fun _ _ => hk1) (fun _ _ _ _ _ _ _ _ => hk2 _ _) (fun _ => hfin) (fun _ _ _ => hret _ _)).trans (run l [])
 intro pre x rest u hl _
 rw [hstep pre.length x (pre_get hl)]
 cases p x <;> simp [Rd.el]
theorem hend_lss {α : Type} (n : Int) (B : AV → Option α) (s : Option α) : ((A.lss (.int .i64 n) (.int .i64 n)).bind fun x => A.cond x (B x) s) = s := by
 simp only [aLss, Int.lt_irrefl, Option.bind_some, decide_false, cF]
section
variable {α β : Type}
theorem cond_lazy {c c' : AV} (h : c = c') (t e : Option α) : A.cond c t e = A.cond c' t e := by rw [h]
theorem guard_lazy {c c' : AV} (h : c = c') (w : Bool) (e d : Option α) : A.guard c w e d = A.guard c' w e d := by rw [h]
theorem bind_lazy {x y : Option α} (h : x = y) (f : α → Option β) : x.bind f = y.bind f := by rw [h]
attribute [congr] cond_lazy guard_lazy bind_lazy
end
theorem MSb : type_of% @Option.bind_some.{0,0} ∧ type_of% @Option.map_some.{0,0} ∧ type_of% @cT ∧ type_of% @cF ∧ type_of% @gTT ∧ type_of% @gTF ∧ type_of% @gFT ∧ type_of% @gFF ∧ type_of% @gN ∧ type_of% @pT ∧ type_of% @pF ∧ type_of% @cond_true.{1} ∧ type_of% @cond_false.{1} ∧ type_of% @xN ∧ type_of% @aAdd ∧ type_of% @aSub ∧ type_of% @aMul ∧ type_of% @aLss ∧ type_of% @aLeq ∧ type_of% @aGtr ∧ type_of% @aGeq ∧ type_of% @aLss8 ∧ type_of% @aLeq8 ∧ type_of% @aGtr8 ∧ type_of% @aGeq8 ∧ type_of% @aEq ∧ type_of% @aNe ∧ type_of% @aEqZ ∧ type_of% @aNeZ ∧ type_of% @aNot ∧ type_of% @aNotD ∧ type_of% @aLb ∧ type_of% @aExt0 ∧ type_of% @aExt1 ∧ type_of% @aExt2 ∧ type_of% @aExt3 ∧ type_of% @aDe ∧ type_of% @aFa ∧ type_of% @aLenZ ∧ type_of% @aCI ∧ type_of% @aCB ∧ type_of% @aCS ∧ type_of% @aCSl ∧ type_of% @p1D ∧ type_of% @gd0 ∧ type_of% @gd1 ∧ type_of% @gd2 ∧ type_of% @gd3 ∧ type_of% @gd4 ∧ type_of% @gd5 ∧ type_of% @gd6 ∧ type_of% @gd7 ∧ type_of% @gd8 ∧ type_of% @fin_same ∧ type_of% @fin_int ∧ type_of% @fin_bool ∧ type_of% @fin_str ∧ type_of% @fin_unit ∧ type_of% @lenS_sl ∧ type_of% @ite_true.{1} ∧ type_of% @ite_false.{1} ∧ type_of% @if_true.{1} ∧ type_of% @if_false.{1} ∧ type_of% @Bool.false_eq_true ∧ type_of% @not_true_eq_false ∧ type_of% @not_false_eq_true ∧ type_of% @decide_true ∧ type_of% @decide_false ∧ type_of% @Bool.not_true ∧ type_of% @Bool.not_false ∧ type_of% @List.append_assoc.{0} ∧ type_of% @List.cons_append.{0} ∧ type_of% @List.nil_append.{0} ∧ type_of% @List.drop_zero.{0} ∧ type_of% @p1_cInt ∧ type_of% @p1_cStr ∧ type_of% @len_snoc ∧ type_of% @Int.natCast_add ∧ type_of% @Int.cast_ofNat_Int ∧ type_of% @quiet_same ∧ type_of% @el_go ∧ type_of% @el_out ∧ type_of% @el_ite ∧ type_of% @setZ_look0 ∧ type_of% @setI_look0 ∧ type_of% @setZ_look1 ∧ type_of% @setI_look1 ∧ type_of% @setZ_snoc ∧ type_of% @setZ_upd0 ∧ type_of% @setI_upd0 ∧ type_of% @setZ_upd1 ∧ type_of% @setI_upd1 ∧ type_of% @true_and ∧ type_of% @and_true ∧ type_of% @false_and ∧ type_of% @and_false ∧ type_of% @true_or ∧ type_of% @or_true ∧ type_of% @false_or ∧ type_of% @or_false ∧ type_of% @Option.getD_some.{0} ∧ type_of% @Option.getD_none.{0} ∧ type_of% @List.length_append.{0} ∧ type_of% @List.length_cons.{0} ∧ type_of% @List.length_nil.{0} ∧ type_of% @Nat.zero_add ∧ type_of% @Nat.add_zero :=
 ⟨@Option.bind_some.{0,0}, @Option.map_some.{0,0}, @cT, @cF, @gTT, @gTF, @gFT, @gFF, @gN, @pT, @pF, @cond_true.{1}, @cond_false.{1}, @xN, @aAdd, @aSub, @aMul, @aLss, @aLeq, @aGtr, @aGeq, @aLss8, @aLeq8, @aGtr8, @aGeq8, @aEq, @aNe, @aEqZ, @aNeZ, @aNot, @aNotD, @aLb, @aExt0, @aExt1, @aExt2, @aExt3, @aDe, @aFa, @aLenZ, @aCI, @aCB, @aCS, @aCSl, @p1D, @gd0, @gd1, @gd2, @gd3, @gd4, @gd5, @gd6, @gd7, @gd8, @fin_same, @fin_int, @fin_bool, @fin_str, @fin_unit, @lenS_sl, @ite_true.{1}, @ite_false.{1}, @if_true.{1}, @if_false.{1}, @Bool.false_eq_true, @not_true_eq_false, @not_false_eq_true, @decide_true, @decide_false, @Bool.not_true, @Bool.not_false, @List.append_assoc.{0}, @List.cons_append.{0}, @List.nil_append.{0}, @List.drop_zero.{0}, @p1_cInt, @p1_cStr, @len_snoc, @Int.natCast_add, @Int.cast_ofNat_Int, @quiet_same, @el_go, @el_out, @el_ite, @setZ_look0, @setI_look0, @setZ_look1, @setI_look1, @setZ_snoc, @setZ_upd0, @setI_upd0, @setZ_upd1, @setI_upd1, @true_and, @and_true, @false_and, @and_false, @true_or, @or_true, @false_or, @or_false, @Option.getD_some.{0}, @Option.getD_none.{0}, @List.length_append.{0}, @List.length_cons.{0}, @List.length_nil.{0}, @Nat.zero_add, @Nat.add_zero⟩
end Go.Proofs.Ytphgchakmkankaa

namespace Go.Proofs.Ytphgchakmkankaa
set_option linter.unusedSectionVars false
set_option linter.unusedSimpArgs false
set_option linter.unusedVariables false
theorem fz_cPoint (x : PointD) : FzL (cPoint x) := (fzL_cons (fz_int _ _) (fzL_cons (fz_int _ _) fzL_nil))
theorem fz_cKey (x : KeyD) : FzL (cKey x) := (fzL_cons (fz_int _ _) (fzL_cons (fz_str _) fzL_nil))
theorem fz_cMove (x : MoveD) : FzL (cMove x) := (fzL_cons (fz_int _ _) (fzL_cons (fz_str _) (fzL_cons (fz_int _ _) (fzL_cons (fz_int _ _) (fzL_cons (fz_bool _) (fzL_cons (fz_bool _) (fzL_cons (fz_int _ _) (fzL_cons (fz_int _ _) fzL_nil))))))))
theorem fz_cEntry (x : EntryD) : FzL (cEntry x) := (fzL_cons (fz_int _ _) (fzL_cons (fz_str _) (fzL_cons (fz_int _ _) (fzL_cons (fz_int _ _) (fzL_cons (fz_int _ _) fzL_nil)))))
end Go.Proofs.Ytphgchakmkankaa

namespace Go.Proofs.Ytphgchakmkankaa
set_option linter.unusedSectionVars false
set_option linter.unusedVariables false
set_option linter.unusedSimpArgs false
instance : Inhabited ByteArray := ⟨⟨#[]⟩⟩
instance : Inhabited PointD := ⟨⟨0, 0⟩⟩
instance : Inhabited CurveD := ⟨⟨0, []⟩⟩
instance : Inhabited FadeD := ⟨⟨0, 0, 0, 0, 0, ⟨0, []⟩⟩⟩
instance : Inhabited ChangeD := ⟨⟨0, 0⟩⟩
instance : Inhabited RangeD := ⟨⟨0, 0, ⟨#[]⟩⟩⟩
instance : Inhabited ParamD := ⟨⟨⟨#[]⟩, 0, 0, 0, 0, false, []⟩⟩
instance : Inhabited ProfileD := ⟨⟨⟨#[]⟩, 0, []⟩⟩
instance : Inhabited UnitD := ⟨⟨0, ⟨#[]⟩, 0, 0⟩⟩
instance : Inhabited RigD := ⟨⟨[], []⟩⟩
instance : Inhabited KeyD := ⟨⟨0, ⟨#[]⟩⟩⟩
theorem eqk_Key (a b : KeyD) : A.eqK (.s [0, 2]) (.agg (cKey a)) (.agg (cKey b)) = some (decide (a = b)) := by
 obtain ⟨x1, x2⟩ := a
 obtain ⟨x101, x102⟩ := b
 simp only [A.eqK, cKey, A.eqAll, A.eqC, A.eqI, A.eqB, A.eqZ, if_true, Option.bind_some, Option.map_some, bq]
 congr 1
 rw [Bool.eq_iff_iff]
 simp [and_assoc]
instance : Inhabited SettingD := ⟨⟨⟨0, ⟨#[]⟩⟩, 0⟩⟩
instance : Inhabited PresetD := ⟨⟨0, ⟨#[]⟩, []⟩⟩
instance : Inhabited FanD := ⟨⟨[], 0, 0⟩⟩
instance : Inhabited ValueD := ⟨⟨0, 0⟩⟩
theorem eqk_Value (a b : ValueD) : A.eqK (.s [0, 0]) (.agg (cValue a)) (.agg (cValue b)) = some (decide (a = b)) := by
 obtain ⟨x1, x2⟩ := a
 obtain ⟨x101, x102⟩ := b
 simp only [A.eqK, cValue, A.eqAll, A.eqC, A.eqI, A.eqB, A.eqZ, if_true, Option.bind_some, Option.map_some, bq]
 congr 1
 rw [Bool.eq_iff_iff]
 simp [and_assoc]
theorem ne_Value (a b : ValueD) : A.neq (.s [0, 0]) (.agg (cValue a)) (.agg (cValue b)) = some (.bool (decide (¬ (a = b)))) := by rw [A.neq, eqk_Value, Option.map_some, decide_not]
instance : Inhabited MoveD := ⟨⟨⟨0, ⟨#[]⟩⟩, ⟨0, 0⟩, false, false, 0, 0⟩⟩
instance : Inhabited CueD := ⟨⟨0, ⟨#[]⟩, 0, 0, 0, 0, ⟨0, []⟩, false, 0, []⟩⟩
instance : Inhabited EntryD := ⟨⟨⟨0, ⟨#[]⟩⟩, ⟨0, 0⟩, 0⟩⟩
theorem eqk_Entry (a b : EntryD) : A.eqK (.s [0, 2, 0, 0, 0]) (.agg (cEntry a)) (.agg (cEntry b)) = some (decide (a = b)) := by
 obtain ⟨⟨x1, x2⟩, ⟨x3, x4⟩, x5⟩ := a
 obtain ⟨⟨x101, x102⟩, ⟨x103, x104⟩, x105⟩ := b
 simp only [A.eqK, cEntry, A.eqAll, A.eqC, A.eqI, A.eqB, A.eqZ, if_true, Option.bind_some, Option.map_some, bq]
 congr 1
 rw [Bool.eq_iff_iff]
 simp [and_assoc]
theorem ne_Entry (a b : EntryD) : A.neq (.s [0, 2, 0, 0, 0]) (.agg (cEntry a)) (.agg (cEntry b)) = some (.bool (decide (¬ (a = b)))) := by rw [A.neq, eqk_Entry, Option.map_some, decide_not]
instance : Inhabited MarkD := ⟨⟨0, 0, 0⟩⟩
instance : Inhabited ListD := ⟨⟨0, []⟩⟩
instance : Inhabited PlaybackD := ⟨⟨0, 0, 0⟩⟩
instance : Inhabited SetupD := ⟨⟨⟨[], []⟩, [], [], []⟩⟩
instance : Inhabited ActionD := ⟨⟨0, 0, 0, 0, 0⟩⟩
instance : Inhabited EventD := ⟨⟨0, ⟨0, 0, 0, 0, 0⟩⟩⟩
instance : Inhabited StampD := ⟨⟨0, 0, 0, 0⟩⟩
instance : Inhabited RunD := ⟨⟨⟨0, ⟨#[]⟩⟩, ⟨0, 0, 0, 0, 0, ⟨0, []⟩⟩, 0, false⟩⟩
instance : Inhabited StandingD := ⟨⟨0, 0, 0, false, 0, []⟩⟩
instance : Inhabited EffectStepD := ⟨⟨0, 0, 0⟩⟩
instance : Inhabited EffectD := ⟨⟨0, 0, 0, 0, 0, 0, false, false, []⟩⟩
instance : Inhabited RateD := ⟨⟨0, 0⟩⟩
instance : Inhabited RunningD := ⟨⟨⟨0, 0, 0, 0, 0, 0, false, false, []⟩, [], 0, [], 0, 0, 0⟩⟩
end Go.Proofs.Ytphgchakmkankaa

namespace Go.Proofs.Ytphgchakmkankaa
set_option linter.unusedSectionVars false
set_option linter.unusedVariables false
set_option linter.unusedSimpArgs false
def Rf {β τ : Type} (M : Option β) (T : Option τ) (Q : τ → β → Prop) : Prop := ∀ t, T = some t → ∃ b, M = some b ∧ Q t b
section
variable {α β ω τ ζ : Type}
theorem rf_s {M0 : Option α} {K : α → Option β} {T : Option τ} {Q : τ → β → Prop} (a : α) (h : M0 = some a) (k : Rf (K a) T Q) : Rf (M0.bind K) T Q := by
 intro t ht; obtain ⟨b, h1, h2⟩ := k t ht; exact ⟨b, by rw [h]; exact h1, h2⟩
theorem rf_o {M0 : Option α} {K : α → Option β} {o : Option ω} {K' : ω → Option τ} {Q : τ → β → Prop} (e : ω → α) (h : ∀ t, o = some t → M0 = some (e t)) (k : ∀ t, o = some t → Rf (K (e t)) (K' t) Q) : Rf (M0.bind K) (o.bind K') Q := by
 intro t ht
 obtain ⟨x, h1, h2⟩ := Option.bind_eq_some_iff.1 ht
 obtain ⟨b, h3, h4⟩ := k x h1 t h2
 exact ⟨b, by rw [h x h1]; exact h3, h4⟩
theorem rf_b {M0 : Option α} {K : α → Option β} {o : Option ω} {K' : ω → Option τ} {Q : τ → β → Prop} (Q0 : ω → α → Prop) (h : Rf M0 o Q0) (k : ∀ t a, Q0 t a → Rf (K a) (K' t) Q) : Rf (M0.bind K) (o.bind K') Q := by
 intro t ht
 obtain ⟨x, h1, h2⟩ := Option.bind_eq_some_iff.1 ht
 obtain ⟨a, h3, h4⟩ := h x h1
 obtain ⟨b, h5, h6⟩ := k x a h4 t h2
 exact ⟨b, by rw [h3]; exact h5, h6⟩
theorem rf_ret {t : τ} {b : β} {Q : τ → β → Prop} (h : Q t b) : Rf (some b) (some t) Q := by
 intro u hu; cases hu; exact ⟨b, rfl, h⟩
theorem rf_fin {M : Option β} {t : τ} {Q : τ → β → Prop} (b : β) (e : M = some b) (h : Q t b) : Rf M (some t) Q := by
 rw [e]; exact rf_ret h
theorem rf_none {M : Option β} {Q : τ → β → Prop} : Rf M (none : Option τ) Q := by intro u hu; cases hu
theorem rf_tq {M : Option β} {p : Prop} [Decidable p] {T : Option τ} {Q : τ → β → Prop} (h : p → Rf M T Q) : Rf M (if p then T else none) Q := by
 split
 ·exact h ‹_›
 ·exact rf_none
theorem rf_c {p : Prop} [Decidable p] {X Y : Option β} {X' Y' : Option τ} {Q : τ → β → Prop} (h1 : p → Rf X X' Q) (h2 : ¬ p → Rf Y Y' Q) : Rf (A.cond (.bool (decide p)) X Y) (if p then X' else Y') Q := by
 by_cases h : p
 ·simp only [h, decide_true, if_true]; exact h1 h
 ·simp only [h, decide_false, if_false]; exact h2 h
theorem rf_cb {c : Bool} {X Y : Option β} {X' Y' : Option τ} {Q : τ → β → Prop} (h1 : c = true → Rf X X' Q) (h2 : c = false → Rf Y Y' Q) : Rf (A.cond (.bool c) X Y) (if c = true then X' else Y') Q := by
 cases c
 ·exact h2 rfl
 ·exact h1 rfl
theorem rf_ct {X Y : Option β} {T : Option τ} {Q : τ → β → Prop} (h : Rf X T Q) : Rf (A.cond (.bool true) X Y) T Q := h
theorem rf_cf {X Y : Option β} {T : Option τ} {Q : τ → β → Prop} (h : Rf Y T Q) : Rf (A.cond (.bool false) X Y) T Q := h
theorem rf_bt {c : Bool} {X Y : Option β} {T : Option τ} {Q : τ → β → Prop} (e : c = true) (h : Rf X T Q) : Rf (bif c then X else Y) T Q := by rw [e]; exact h
theorem rf_bf {c : Bool} {X Y : Option β} {T : Option τ} {Q : τ → β → Prop} (e : c = false) (h : Rf Y T Q) : Rf (bif c then X else Y) T Q := by rw [e]; exact h
def gv {α : Type} (g : Bool) (e : α → AV) (t : α) : AV := bif g then e t else .tup []
end
inductive Lr (S B R : Type) where
 | go (s : S)
 | brk (b : B)
 | ret (r : R)
def forL {α S B R : Type} (body : Nat → α → S → Option (Lr S B R)) (fin : S → Option B) : List α → Nat → S → Option (B ⊕ R)
 | [], _, s => (fin s).map .inl
 | x :: l, i, s => (body i x s).bind fun q => match q with | .go s' => forL body fin l (i + 1) s' | .brk b => some (.inl b) | .ret r => some (.inr r)
def forE {α S B R γ : Type} (l : List α) (body : Nat → α → S → Option (Lr S B R)) (fin : S → Option B) (s : S) (K1 : B → Option γ) (K2 : R → Option γ) : Option γ :=
 if l.length ≤ mxl then (forL body fin l 0 s).bind fun q => q.elim K1 K2 else none
def itL {S B R : Type} (body : S → Option (Lr S B R)) : Nat → S → Option (B ⊕ R)
 | 0, _ => none
 | n + 1, s => (body s).bind fun q => match q with | .go s' => itL body n s' | .brk b => some (.inl b) | .ret r => some (.inr r)
noncomputable def whL {S B R : Type} (body : S → Option (Lr S B R)) (s : S) : Option (B ⊕ R) := open Classical in if h : ∃ n r, itL body n s = some r then some (Classical.choose (Classical.choose_spec h)) else none
noncomputable def whE {S B R γ : Type} (body : S → Option (Lr S B R)) (s : S) (K1 : B → Option γ) (K2 : R → Option γ) : Option γ := (whL body s).bind fun q => q.elim K1 K2
theorem itL_one {S B R : Type} {body : S → Option (Lr S B R)} : ∀ {n m : Nat} {s : S} {r r' : B ⊕ R}, itL body n s = some r → itL body m s = some r' → r = r' := by
 intro n
 induction n with
 | zero => intro m s r r' h; cases h
 | succ n ih =>
  intro m s r r' h1 h2
  cases m with
  | zero => cases h2
  | succ m =>
   simp only [itL] at h1 h2
   cases hf : body s with
   | none => rw [hf] at h1; cases h1
   | some q =>
    rw [hf] at h1 h2
    simp only [Option.bind_some] at h1 h2
    cases q with
    | go s' => exact ih h1 h2
    | brk b => simp only at h1 h2; rw [h1] at h2; injection h2
    | ret b => simp only at h1 h2; rw [h1] at h2; injection h2
theorem whL_of {S B R : Type} {body : S → Option (Lr S B R)} {n : Nat} {s : S} {r : B ⊕ R} (h : itL body n s = some r) : whL body s = some r := by
 have hex : ∃ n r, itL body n s = some r := ⟨n, r, h⟩
 unfold whL
 rw [dif_pos hex]
 exact congrArg some (itL_one (Classical.choose_spec (Classical.choose_spec hex)) h)
theorem whL_it {S B R : Type} {body : S → Option (Lr S B R)} {s : S} {r : B ⊕ R} (h : whL body s = some r) : ∃ n, itL body n s = some r := by
 unfold whL at h
 split at h
 ·rename_i hx
  injection h with h
  subst h
  exact ⟨_, Classical.choose_spec (Classical.choose_spec hx)⟩
 ·cases h
theorem whL_step {S B R : Type} (body : S → Option (Lr S B R)) (s : S) : whL body s = (body s).bind fun q => match q with | .go s' => whL body s' | .brk b => some (.inl b) | .ret r => some (.inr r) := by
 cases hf : body s with
 | none =>
  rw [Option.bind_none]
  unfold whL
  rw [dif_neg]
  rintro ⟨n, r, h⟩
  cases n with
  | zero => cases h
  | succ n => simp [itL, hf] at h
 | some q =>
  rw [Option.bind_some]
  cases q with
  | brk b => exact whL_of (n := 1) (by simp [itL, hf])
  | ret b => exact whL_of (n := 1) (by simp [itL, hf])
  | go s' =>
   show whL body s = whL body s'
   cases h : whL body s' with
   | some r =>
    obtain ⟨n, hn⟩ := whL_it h
    exact whL_of (n := n + 1) (by simp [itL, hf, hn])
   | none =>
    cases h2 : whL body s with
    | none => rfl
    | some r =>
     obtain ⟨n, hn⟩ := whL_it h2
     cases n with
     | zero => cases hn
     | succ n =>
      simp only [itL, hf, Option.bind_some] at hn
      rw [whL_of hn] at h; cases h
section
variable {α S B R β τ : Type}
abbrev LS := AX × List AV × Heap
def Rnd (I : S → List AV → Heap → Prop) (QB : B → LS → Prop) (QR : R → LS → Prop) (t : Lr S B R) (q : LS) : Prop := match t with
 | .go s => q.1 = .normal ∧ I s q.2.1 q.2.2
 | .brk b => q.1 ≠ .normal ∧ QB b q
 | .ret r => q.1 ≠ .normal ∧ QR r q
theorem rnd_go {I : S → List AV → Heap → Prop} {QB : B → LS → Prop} {QR : R → LS → Prop} {s : S} {v : List AV} {σ : Heap} (h : I s v σ) : Rnd I QB QR (.go s) (.normal, v, σ) := ⟨rfl, h⟩
theorem rnd_brk {I : S → List AV → Heap → Prop} {QB : B → LS → Prop} {QR : R → LS → Prop} {b : B} {q : LS} (n : q.1 ≠ .normal) (h : QB b q) : Rnd I QB QR (.brk b) q := ⟨n, h⟩
theorem rnd_ret {I : S → List AV → Heap → Prop} {QB : B → LS → Prop} {QR : R → LS → Prop} {r : R} {q : LS} (n : q.1 ≠ .normal) (h : QR r q) : Rnd I QB QR (.ret r) q := ⟨n, h⟩
theorem rf_for {f : List AV → Heap → Option LS} {K : LS → Option β} {Q : τ → β → Prop} {l : List α} {body : Nat → α → S → Option (Lr S B R)} {fin : S → Option B} {s0 : S} {K1 : B → Option τ} {K2 : R → Option τ} {v0 : List AV} {σ0 : Heap}
  (I : Nat → S → List AV → Heap → Prop) (QB : B → LS → Prop) (QR : R → LS → Prop)
  (hstep : l.length ≤ mxl → ∀ i x s v σ, l[i]? = some x → I i s v σ → Rf (f v σ) (body i x s) (Rnd (I (i + 1)) QB QR))
  (hend : l.length ≤ mxl → ∀ s v σ, I l.length s v σ → Rf (f v σ) (fin s) (fun b q => q.1 ≠ .normal ∧ QB b q))
  (h0 : I 0 s0 v0 σ0) (k1 : l.length ≤ mxl → ∀ b q, QB b q → Rf (K q) (K1 b) Q) (k2 : l.length ≤ mxl → ∀ r q, QR r q → Rf (K q) (K2 r) Q) :
  Rf ((A.loop f v0 σ0).bind K) (forE l body fin s0 K1 K2) Q := by
 unfold forE
 refine rf_tq fun hl => ?_
 have hstep := hstep hl
 have hend := hend hl
 have key : ∀ (rest pre : List α) (s : S) (v : List AV) (σ : Heap), l = pre ++ rest → I pre.length s v σ → ∀ t, forL body fin rest pre.length s = some t → ∃ q, (∃ n, A.iter f n v σ = some q) ∧ (match t with | .inl b => QB b q | .inr r => QR r q) := by
  intro rest
  induction rest with
  | nil =>
   intro pre s v σ hl hI t ht
   rw [List.append_nil] at hl
   subst hl
   simp only [forL] at ht
   obtain ⟨b, hb, rfl⟩ := Option.map_eq_some_iff.1 ht
   obtain ⟨q, h1, h2, h3⟩ := hend s v σ hI b hb
   exact ⟨q, loop_done h1 h2, h3⟩
  | cons x rest ih =>
   intro pre s v σ hl hI t ht
   simp only [forL] at ht
   obtain ⟨y, hy, h2⟩ := Option.bind_eq_some_iff.1 ht
   obtain ⟨q, h3, h4⟩ := hstep pre.length x s v σ (by rw [hl]; simp) hI y hy
   obtain ⟨e, v', σ'⟩ := q
   cases y with
   | go s' =>
    obtain ⟨rfl, hI'⟩ := h4
    obtain ⟨q, h5, h6⟩ := ih (pre ++ [x]) s' v' σ' (by simpa using hl) (by simpa using hI') t (by simpa using h2)
    exact ⟨q, loop_step h3 h5, h6⟩
   | brk b => simp only [Option.some.injEq] at h2; subst h2; exact ⟨_, loop_done h3 h4.1, h4.2⟩
   | ret b => simp only [Option.some.injEq] at h2; subst h2; exact ⟨_, loop_done h3 h4.1, h4.2⟩
 intro t ht
 obtain ⟨y, hy, h2⟩ := Option.bind_eq_some_iff.1 ht
 obtain ⟨q, ⟨n, hn⟩, h3⟩ := key l [] s0 v0 σ0 rfl h0 y hy
 cases y with
 | inl b => obtain ⟨z, h4, h5⟩ := k1 hl b q h3 t h2; exact ⟨z, by rw [loop_of_iter hn]; exact h4, h5⟩
 | inr b => obtain ⟨z, h4, h5⟩ := k2 hl b q h3 t h2; exact ⟨z, by rw [loop_of_iter hn]; exact h4, h5⟩
theorem rf_wh {f : List AV → Heap → Option LS} {K : LS → Option β} {Q : τ → β → Prop} {body : S → Option (Lr S B R)} {s0 : S} {K1 : B → Option τ} {K2 : R → Option τ} {v0 : List AV} {σ0 : Heap}
  (I : S → List AV → Heap → Prop) (QB : B → LS → Prop) (QR : R → LS → Prop)
  (hstep : ∀ s v σ, I s v σ → Rf (f v σ) (body s) (Rnd I QB QR))
  (h0 : I s0 v0 σ0) (k1 : ∀ b q, QB b q → Rf (K q) (K1 b) Q) (k2 : ∀ r q, QR r q → Rf (K q) (K2 r) Q) :
  Rf ((A.loop f v0 σ0).bind K) (whE body s0 K1 K2) Q := by
 have key : ∀ (n : Nat) (s : S) (v : List AV) (σ : Heap), I s v σ → ∀ t, itL body n s = some t → ∃ q, (∃ n, A.iter f n v σ = some q) ∧ (match t with | .inl b => QB b q | .inr r => QR r q) := by
  intro n
  induction n with
  | zero => intro s v σ hI t ht; cases ht
  | succ n ih =>
   intro s v σ hI t ht
   simp only [itL] at ht
   obtain ⟨y, hy, h2⟩ := Option.bind_eq_some_iff.1 ht
   obtain ⟨q, h3, h4⟩ := hstep s v σ hI y hy
   obtain ⟨e, v', σ'⟩ := q
   cases y with
   | go s' =>
    obtain ⟨rfl, hI'⟩ := h4
    obtain ⟨q, h5, h6⟩ := ih s' v' σ' hI' t h2
    exact ⟨q, loop_step h3 h5, h6⟩
   | brk b => simp only [Option.some.injEq] at h2; subst h2; exact ⟨_, loop_done h3 h4.1, h4.2⟩
   | ret b => simp only [Option.some.injEq] at h2; subst h2; exact ⟨_, loop_done h3 h4.1, h4.2⟩
 intro t ht
 obtain ⟨y, hy, h2⟩ := Option.bind_eq_some_iff.1 ht
 obtain ⟨n, hn⟩ := whL_it hy
 obtain ⟨q, ⟨m, hm⟩, h3⟩ := key n s0 v0 σ0 h0 y hn
 cases y with
 | inl b => obtain ⟨z, h4, h5⟩ := k1 b q h3 t h2; exact ⟨z, by rw [loop_of_iter hm]; exact h4, h5⟩
 | inr b => obtain ⟨z, h4, h5⟩ := k2 b q h3 t h2; exact ⟨z, by rw [loop_of_iter hm]; exact h4, h5⟩
theorem ix_lt {l : List α} {i : Nat} {x : α} (h : l[i]? = some x) : A.lss (.int .i64 (i : Int)) (.int .i64 (l.length : Int)) = some (.bool true) := by
 have := (List.getElem?_eq_some_iff.1 h).1
 rw [aLss]; simp; omega
theorem ix_end (l : List α) : A.lss (.int .i64 (l.length : Int)) (.int .i64 (l.length : Int)) = some (.bool false) := by rw [aLss]; simp
theorem ix_inc {l : List α} {i : Nat} {x : α} (h : l[i]? = some x) (hl : l.length ≤ mxl) : A.add (.int .i64 (i : Int)) (.int .i64 1) = some (.int .i64 ((i + 1 : Nat) : Int)) := by
 have := (List.getElem?_eq_some_iff.1 h).1
 rw [aAdd, wrap64 (by unfold inI; unfold mxl at hl; omega)]
 simp
def tIx (l : List α) (i : Int) : Option α := if 0 ≤ i then l[i.toNat]? else none
theorem ix_at {sz : Nat} {c : α → List AV} {l : List α} {i : Int} {x : α} (h : tIx l i = some x) : A.iaddr sz (sl sz c l) (.int .i64 i) = some (.rp (c x)) := by
 unfold tIx at h
 split at h
 ·exact iaddr_int sz c l ‹_› h
 ·cases h
theorem ix_for {sz : Nat} {c : α → List AV} {l : List α} {i : Nat} {x : α} (h : l[i]? = some x) : A.iaddr sz (sl sz c l) (.int .i64 (i : Int)) = some (.rp (c x)) := iaddr_sl sz c l h
end
theorem quiet_of {M : Option (AV × Heap)} {v : AV} {σ : Heap} (h : M = some (v, σ)) : A.quiet M σ = some v := by rw [h, quiet_same]
noncomputable def tq {α : Type} (p : Prop) (x : α) : Option α := open Classical in if p then some x else none
theorem tq_pos {α : Type} {p : Prop} {x : α} (h : p) : tq p x = some x := if_pos h
theorem tq_of {α β : Type} {p : Prop} {x r : α} {M : Option β} {e : α → β} (h : p → M = some (e x)) (k : tq p x = some r) : M = some (e r) := by
 unfold tq at k
 split at k
 ·rename_i hp; injection k with k; subst k; exact h hp
 ·cases k
theorem pk_and (b t : Bool) : A.pick (.bool b) (bif b then .bool t else .tup []) (.bool false) = some (.bool (b && t)) := by cases b <;> rfl
theorem pk_or (b t : Bool) : A.pick (.bool b) (.bool true) (bif !b then .bool t else .tup []) = some (.bool (b || t)) := by cases b <;> rfl
section
variable {α β ω τ : Type} {G b : Bool} {M0 : Option AV} {K : AV → Option β} {T : Option τ} {K' : ω → Option τ} {o : Option ω} {Q : τ → β → Prop}
theorem rf_gt (a : AV) (h : b = true → M0 = some a) (k : Rf (K (bif b then a else .tup [])) T Q) : Rf ((A.guard (.bool b) true M0 (some (.tup []))).bind K) T Q := by
 refine rf_s _ ?_ k
 cases b <;> simp_all [A.guard]
theorem rf_gf (a : AV) (h : (!b) = true → M0 = some a) (k : Rf (K (bif !b then a else .tup [])) T Q) : Rf ((A.guard (.bool b) false M0 (some (.tup []))).bind K) T Q := by
 refine rf_s _ ?_ k
 cases b <;> simp_all [A.guard]
theorem rf_ggt (a : AV) (h : (G && b) = true → M0 = some a) (k : Rf (K (bif G && b then a else .tup [])) T Q) : Rf ((A.guard (bif G then .bool b else .tup []) true M0 (some (.tup []))).bind K) T Q := by
 refine rf_s _ ?_ k
 cases G <;> cases b <;> simp_all [A.guard]
theorem rf_ggf (a : AV) (h : (G && !b) = true → M0 = some a) (k : Rf (K (bif G && !b then a else .tup [])) T Q) : Rf ((A.guard (bif G then .bool b else .tup []) false M0 (some (.tup []))).bind K) T Q := by
 refine rf_s _ ?_ k
 cases G <;> cases b <;> simp_all [A.guard]
theorem rf_go {g : Bool} {M : Option AV} {d : ω} (e : ω → AV) (hM : M = bif g then M0 else some (.tup [])) (h : g = true → ∀ t, o = some t → M0 = some (e t)) (k : ∀ t, (g = true → o = some t) → Rf (K (bif g then e t else .tup [])) (K' t) Q) : Rf (M.bind K) ((if g = true then o else some d).bind K') Q := by
 subst hM
 cases g
 ·exact k d (by simp)
 ·intro t ht
  simp only [if_true] at ht
  obtain ⟨x, h1, h2⟩ := Option.bind_eq_some_iff.1 ht
  obtain ⟨y, h3, h4⟩ := k x (fun _ => h1) t h2
  refine ⟨y, ?_, h4⟩
  simp only [cond_true, h rfl x h1, Option.bind_some]
  exact h3
theorem rf_gto {d : ω} (e : ω → AV) (h : b = true → ∀ t, o = some t → M0 = some (e t)) (k : ∀ t, (b = true → o = some t) → Rf (K (bif b then e t else .tup [])) (K' t) Q) : Rf ((A.guard (.bool b) true M0 (some (.tup []))).bind K) ((if b = true then o else some d).bind K') Q := rf_go e (by cases b <;> rfl) h k
end
theorem wrap_nn {ro : Bool} {ain : List Sh} {rout : Sh} {r : List AV → Heap → Option (AV × Heap)} {args args' : List AV} {σ : Heap} (hn : A.nnL ain args = A.nnL ain args') (h1 : args.any A.own = false) (h2 : args'.any A.own = false) : A.wrap ro ain rout r args σ = A.wrap ro ain rout r args' σ := by
 unfold A.wrap
 rw [h1, h2, hn, Bool.and_false, cond_false, cond_false]
theorem rf_wrap {τ : Type} {ro : Bool} {ain : List Sh} {rout : Sh} {r : List AV → Heap → Option (AV × Heap)} {args args' : List AV} {σ : Heap} {T : Option τ} {enc : τ → AV} (hn : A.nnL ain args = args') (h : args.any A.own = false) (e : Rf (r args' σ) T (fun t b => A.nn rout b.1 = enc t ∧ b.2 = σ)) : ∀ t, T = some t → A.wrap ro ain rout r args σ = some (enc t, σ) := by
 intro t ht
 obtain ⟨⟨v, σ'⟩, h1, h2, h3⟩ := e t ht
 simp only at h2 h3
 subst h3
 exact wrap_eq h (by rw [hn]; exact h1) h2
theorem rf_wrap1 {τ : Type} {ro : Bool} {ain : List Sh} {rout : Sh} {f : AV → Heap → Option (AV × Heap)} {x0 y0 : AV} {σ : Heap} {T : Option τ} {enc : τ → AV} (hn : A.nnL ain [x0] = [y0]) (h : ([x0] : List AV).any A.own = false) (e : Rf (f y0 σ) T (fun t b => A.nn rout b.1 = enc t ∧ b.2 = σ)) : ∀ t, T = some t → A.wrap ro ain rout (A.ar1 f) [x0] σ = some (enc t, σ) := rf_wrap hn h e
theorem rf_wrap2 {τ : Type} {ro : Bool} {ain : List Sh} {rout : Sh} {f : AV → AV → Heap → Option (AV × Heap)} {x0 x1 y0 y1 : AV} {σ : Heap} {T : Option τ} {enc : τ → AV} (hn : A.nnL ain [x0, x1] = [y0, y1]) (h : ([x0, x1] : List AV).any A.own = false) (e : Rf (f y0 y1 σ) T (fun t b => A.nn rout b.1 = enc t ∧ b.2 = σ)) : ∀ t, T = some t → A.wrap ro ain rout (A.ar2 f) [x0, x1] σ = some (enc t, σ) := rf_wrap hn h e
end Go.Proofs.Ytphgchakmkankaa

namespace Go.Proofs.Ytphgchakmkankaa
set_option linter.unusedSectionVars false
set_option linter.unusedVariables false
set_option linter.unusedSimpArgs false
inductive Ct where
 | s (sz : Nat) (es : List (List AV))
 | m (es : List (AV × AV))
 | b (cs : List AV)
def idOf : AV → Option Nat
 | .os id _ _ _ _ => some id
 | .om id => some id
 | .op id _ => some id
 | _ => none
def Own (n : Nat) (σ : Heap) (p : AV × Ct) : Prop := match p.2 with
 | .s sz es => (p.1 = .nsl ∧ es = []) ∨ ∃ id g off a, p.1 = .os id g sz off es.length ∧ n ≤ id ∧ σ[id]? = some (.arr g sz a) ∧ off ≤ a.length ∧ a.drop off = es
 | .m es => ∃ id, p.1 = .om id ∧ n ≤ id ∧ σ[id]? = some (.map es)
 | .b cs => ∃ id, p.1 = .op id 0 ∧ n ≤ id ∧ σ[id]? = some (.box cs)
structure Hp (σ0 σ : Heap) (L : List (AV × Ct)) : Prop where
 pre : ∃ bs, σ = σ0 ++ bs
 own : ∀ (i : Nat) p, L[i]? = some p → Own σ0.length σ p
 sep : ∀ (i j : Nat) p q a, L[i]? = some p → L[j]? = some q → idOf p.1 = some a → idOf q.1 = some a → i = j
section
variable {σ0 σ σ' : Heap} {L : List (AV × Ct)} {n : Nat}
theorem hp_nil (σ : Heap) : Hp σ σ [] := ⟨⟨[], by simp⟩, by simp, by simp⟩
theorem own_lt {p : AV × Ct} {a : Nat} (h : Own n σ p) (e : idOf p.1 = some a) : n ≤ a ∧ a < σ.length := by
 obtain ⟨v, c⟩ := p
 cases c with
 | s sz es =>
  rcases h with ⟨h1, _⟩ | ⟨id, g, off, x, h1, h2, h3, _⟩
  ·simp only at h1; subst h1; cases e
  ·simp only at h1; subst h1; injection e with e; subst e; exact ⟨h2, (List.getElem?_eq_some_iff.1 h3).1⟩
 | m es => obtain ⟨id, h1, h2, h3⟩ := h; simp only at h1; subst h1; injection e with e; subst e; exact ⟨h2, (List.getElem?_eq_some_iff.1 h3).1⟩
 | b es => obtain ⟨id, h1, h2, h3⟩ := h; simp only at h1; subst h1; injection e with e; subst e; exact ⟨h2, (List.getElem?_eq_some_iff.1 h3).1⟩
theorem own_mono {p : AV × Ct} (h : Own n σ p) (k : ∀ a, idOf p.1 = some a → σ'[a]? = σ[a]?) : Own n σ' p := by
 obtain ⟨v, c⟩ := p
 cases c with
 | s sz es =>
  rcases h with h | ⟨id, g, off, x, h1, h2, h3, h4⟩
  ·exact .inl h
  ·simp only at h1; subst h1; exact .inr ⟨id, g, off, x, rfl, h2, by rw [k id rfl]; exact h3, h4⟩
 | m es => obtain ⟨id, h1, h2, h3⟩ := h; simp only at h1; subst h1; exact ⟨id, rfl, h2, by rw [k id rfl]; exact h3⟩
 | b es => obtain ⟨id, h1, h2, h3⟩ := h; simp only at h1; subst h1; exact ⟨id, rfl, h2, by rw [k id rfl]; exact h3⟩
theorem pre_set (h : ∃ bs, σ = σ0 ++ bs) {id : Nat} (hn : σ0.length ≤ id) (b : Blk) : ∃ bs, σ.set id b = σ0 ++ bs := by
 obtain ⟨bs, rfl⟩ := h
 exact ⟨bs.set (id - σ0.length) b, by rw [List.set_append_right _ _ hn]⟩
theorem hp_set (H : Hp σ0 σ L) {k id : Nat} {h h' : AV} {c c' : Ct} {b : Blk} (hk : L[k]? = some (h, c)) (hi : idOf h = some id) (hi' : idOf h' = some id) (ho : Own σ0.length (σ.set id b) (h', c')) : Hp σ0 (σ.set id b) (L.set k (h', c')) := by
 have hid := own_lt (H.own k _ hk) hi
 have hkl := (List.getElem?_eq_some_iff.1 hk).1
 refine ⟨pre_set H.pre hid.1 b, fun i p hp => ?_, fun i j p q a hp hq e1 e2 => ?_⟩
 ·rw [List.getElem?_set] at hp
  split at hp
  ·rename_i e; subst e; simp [hkl] at hp; subst hp; exact ho
  ·rename_i e
   refine own_mono (H.own i p hp) fun a ha => ?_
   rw [List.getElem?_set]
   split
   ·rename_i e'; subst e'; exact absurd (H.sep k i _ _ id hk hp hi ha) e
   ·rfl
 ·have key : ∀ (i : Nat) (p : AV × Ct), (L.set k (h', c'))[i]? = some p → idOf p.1 = some a → ∃ p', L[i]? = some p' ∧ idOf p'.1 = some a := by
   intro i p hp e
   rw [List.getElem?_set] at hp
   split at hp
   ·rename_i e'; subst e'; simp [hkl] at hp; subst hp; exact ⟨_, hk, by rw [hi]; rw [hi'] at e; exact e⟩
   ·exact ⟨p, hp, e⟩
  obtain ⟨p', hp', e1'⟩ := key i p hp e1
  obtain ⟨q', hq', e2'⟩ := key j q hq e2
  exact H.sep i j p' q' a hp' hq' e1' e2'
theorem hp_push (H : Hp σ0 σ L) {h' : AV} {c' : Ct} {b : Blk} (hi' : idOf h' = some σ.length) (ho : Own σ0.length (σ ++ [b]) (h', c')) : Hp σ0 (σ ++ [b]) (L ++ [(h', c')]) := by
 refine ⟨?_, fun i p hp => ?_, fun i j p q a hp hq e1 e2 => ?_⟩
 ·obtain ⟨bs, rfl⟩ := H.pre; exact ⟨bs ++ [b], by simp⟩
 ·rw [List.getElem?_append] at hp
  split at hp
  ·refine own_mono (H.own i p hp) fun a ha => ?_
   have := (own_lt (H.own i p hp) ha).2
   rw [List.getElem?_append_left this]
  ·have hp' := (List.getElem?_eq_some_iff.1 hp).2
   simp at hp'; subst hp'; exact ho
 ·have key : ∀ (i : Nat) (p : AV × Ct), (L ++ [(h', c')])[i]? = some p → idOf p.1 = some a → (i = L.length ∧ a = σ.length) ∨ (L[i]? = some p ∧ a < σ.length) := by
   intro i p hp e
   rw [List.getElem?_append] at hp
   split at hp
   ·exact .inr ⟨hp, (own_lt (H.own i p hp) e).2⟩
   ·obtain ⟨h1, h2⟩ := List.getElem?_eq_some_iff.1 hp
    simp at h1 h2; subst h2; rw [hi'] at e; injection e with e; exact .inl ⟨by omega, e.symm⟩
  rcases key i p hp e1 with ⟨a1, a2⟩ | ⟨a1, a2⟩ <;> rcases key j q hq e2 with ⟨b1, b2⟩ | ⟨b1, b2⟩
  ·omega
  ·omega
  ·omega
  ·exact H.sep i j p q a a1 b1 e1 e2
theorem hp_om (H : Hp σ0 σ L) : Hp σ0 (σ ++ [.map []]) (L ++ [(.om σ.length, .m [])]) := by
 have hl : σ0.length ≤ σ.length := by obtain ⟨bs, rfl⟩ := H.pre; simp
 exact hp_push H rfl ⟨σ.length, rfl, hl, by simp⟩
theorem hp_mupd (H : Hp σ0 σ L) {k : Nat} {h key v : AV} {ek : A.EK} {es es' : List (AV × AV)} (hk : L[k]? = some (h, .m es)) (hok : A.keyOk ek key = true) (he : A.upd ek key v es = some es') : ∃ σ', A.mupd ek h key v σ = some σ' ∧ Hp σ0 σ' (L.set k (h, .m es')) := by
 obtain ⟨id, h1, h2, h3⟩ := H.own k _ hk
 simp only at h1 h3
 subst h1
 have hid := (List.getElem?_eq_some_iff.1 h3).1
 exact ⟨σ.set id (.map es'), by simp [A.mupd, hok, h3, he], hp_set H hk rfl rfl ⟨id, rfl, h2, by simp [hid]⟩⟩
theorem hp_mdel (H : Hp σ0 σ L) {k : Nat} {h key : AV} {ek : A.EK} {es es' : List (AV × AV)} (hk : L[k]? = some (h, .m es)) (hok : A.keyOk ek key = true) (he : A.del ek key es = some es') : ∃ σ', A.mdel ek h key σ = some σ' ∧ Hp σ0 σ' (L.set k (h, .m es')) := by
 obtain ⟨id, h1, h2, h3⟩ := H.own k _ hk
 simp only at h1 h3
 subst h1
 have hid := (List.getElem?_eq_some_iff.1 h3).1
 exact ⟨σ.set id (.map es'), by simp [A.mdel, hok, h3, he], hp_set H hk rfl rfl ⟨id, rfl, h2, by simp [hid]⟩⟩
def Fzv (σ0 σ : Heap) (r r' : AV) : Prop := (∀ d, A.frz σ σ0.length (d + 1) r = some r') ∧ (σ = σ0 → r' = r)
theorem nn_t1 {s1 : Sh} {v1 w1 : AV} {ss : List Sh} {vs ws : List AV} (h1 : A.nn s1 v1 = w1) (h2 : A.nnL ss vs = ws) : A.nnL (s1 :: ss) (v1 :: vs) = w1 :: ws := by simp only [A.nnL, h1, h2]
theorem nn_t0 : A.nnL [] [] = [] := by simp [A.nnL]
theorem nn_a {ss : List Sh} {vs ws : List AV} (h : A.nnL ss vs = ws) : A.nn (.a ss) (.agg vs) = .agg ws := by simp only [A.nn, h]
theorem frzM_fz (d : Nat) : ∀ {es : List (AV × AV)}, (∀ p ∈ es, Fz p.1 ∧ Fz p.2) → A.frzM' σ n d es = some es
 | [], _ => by simp [A.frzM']
 | (k, v) :: es, h => by
  have h1 := h (k, v) (by simp)
  simp only [A.frzM', h1.1 σ n d, h1.2 σ n d, Option.bind_some, frzM_fz d (es := es) (fun p hp => h p (by simp [hp])), Option.map_some]
theorem fzv_om (H : Hp σ0 σ L) {k : Nat} {h : AV} {es : List (AV × AV)} (hk : L[k]? = some (h, .m es)) (hc : ∀ p ∈ es, Fz p.1 ∧ Fz p.2) : Fzv σ0 σ h (.fm es) := by
 obtain ⟨id, h1, h2, h3⟩ := H.own k _ hk
 simp only at h1 h3
 subst h1
 refine ⟨fun d => ?_, fun e => ?_⟩
 ·simp only [A.frz, Nat.not_lt.2 h2, if_false, h3, frzM_fz d hc, Option.map_some]
 ·subst e
  have := (List.getElem?_eq_some_iff.1 h3).1
  omega
theorem hp_fin (H : Hp σ0 σ L) {r r' : AV} (h : Fzv σ0 σ r r') : A.fin σ0 r σ = some (r', σ0) := by
 obtain ⟨bs, hb⟩ := H.pre
 subst hb
 by_cases hbs : bs = []
 ·subst hbs
  rw [List.append_nil] at h ⊢
  rw [fin_same, h.2 rfl]
 ·unfold A.fin
  rw [if_neg (by simpa using hbs), if_pos (by simp), h.1 7]; rfl
end
section
variable {κ ν : Type} [DecidableEq κ]
def tfind (k : κ) : List (κ × ν) → Option ν
 | [] => none
 | (k', v) :: r => if k = k' then some v else tfind k r
def tupd (k : κ) (v : ν) : List (κ × ν) → List (κ × ν)
 | [] => [(k, v)]
 | (k', v') :: r => if k = k' then (k, v) :: r else (k', v') :: tupd k v r
def tdel (k : κ) : List (κ × ν) → List (κ × ν)
 | [] => []
 | (k', v') :: r => if k = k' then r else (k', v') :: tdel k r
variable {ek : A.EK} {eK : κ → AV} {eV : ν → AV} (hq : ∀ a b, A.eqK ek (eK a) (eK b) = some (decide (a = b)))
include hq
theorem find_t (k : κ) : ∀ l : List (κ × ν), A.find ek (eK k) (l.map fun p => (eK p.1, eV p.2)) = some ((tfind k l).map eV)
 | [] => rfl
 | (k', v) :: r => by
  simp only [List.map_cons, A.find, hq, Option.bind_some, tfind]
  by_cases h : k = k'
  ·simp [h]
  ·simp [h, find_t k r]
theorem upd_t (k : κ) (v : ν) : ∀ l : List (κ × ν), A.upd ek (eK k) (eV v) (l.map fun p => (eK p.1, eV p.2)) = some ((tupd k v l).map fun p => (eK p.1, eV p.2))
 | [] => rfl
 | (k', v') :: r => by
  simp only [List.map_cons, A.upd, hq, Option.bind_some, tupd]
  by_cases h : k = k'
  ·simp [h]
  ·simp [h, upd_t k v r]
theorem del_t (k : κ) : ∀ l : List (κ × ν), A.del ek (eK k) (l.map fun p => (eK p.1, eV p.2)) = some ((tdel k l).map fun p => (eK p.1, eV p.2))
 | [] => rfl
 | (k', v') :: r => by
  simp only [List.map_cons, A.del, hq, Option.bind_some, tdel]
  by_cases h : k = k'
  ·simp [h]
  ·simp [h, del_t k r]
end
theorem getD_map {α : Type} (o : Option α) (f : α → AV) (d : α) : (o.map f).getD (f d) = f (o.getD d) := by cases o <;> rfl
theorem isSome_map {α : Type} (o : Option α) (f : α → AV) : (o.map f).isSome = o.isSome := by cases o <;> rfl
def fmE {κ ν : Type} (eK : κ → AV) (eV : ν → AV) (l : List (κ × ν)) : AV := .fm (l.map fun p => (eK p.1, eV p.2))
section
variable {κ ν : Type} [DecidableEq κ] {ek : A.EK} {eK : κ → AV} {eV : ν → AV} {σ0 σ : Heap} {L : List (AV × Ct)} {h : AV} {l : List (κ × ν)}
theorem hp_updT (H : Hp σ0 σ L) (k : Nat) (hk : L[k]? = some (h, .m (l.map fun p => (eK p.1, eV p.2)))) (hq : ∀ a b, A.eqK ek (eK a) (eK b) = some (decide (a = b))) (x : κ) (v : ν) (hok : A.keyOk ek (eK x) = true) : ∃ σ', A.mupd ek h (eK x) (eV v) σ = some σ' ∧ Hp σ0 σ' (L.set k (h, .m ((tupd x v l).map fun p => (eK p.1, eV p.2)))) := hp_mupd H hk hok (upd_t hq x v l)
theorem hp_delT (H : Hp σ0 σ L) (k : Nat) (hk : L[k]? = some (h, .m (l.map fun p => (eK p.1, eV p.2)))) (hq : ∀ a b, A.eqK ek (eK a) (eK b) = some (decide (a = b))) (x : κ) (hok : A.keyOk ek (eK x) = true) : ∃ σ', A.mdel ek h (eK x) σ = some σ' ∧ Hp σ0 σ' (L.set k (h, .m ((tdel x l).map fun p => (eK p.1, eV p.2)))) := hp_mdel H hk hok (del_t hq x l)
theorem fm_lookOkT (hq : ∀ a b, A.eqK ek (eK a) (eK b) = some (decide (a = b))) (x : κ) (z : ν) (hok : A.keyOk ek (eK x) = true) : A.lookOk ek (fmE eK eV l) (eK x) (eV z) σ = some (.tup [eV ((tfind x l).getD z), .bool (tfind x l).isSome]) := by
 simp only [A.lookOk, fmE, hok, cond_true, A.entries, Option.bind_some, find_t hq, Option.map_some, getD_map, isSome_map]
end
section
variable {α : Type} {c : α → List AV} {l ys : List α} {σ0 σ : Heap} {L : List (AV × Ct)} {h : AV} {sz : Nat}
end
end Go.Proofs.Ytphgchakmkankaa

namespace Go.Proofs.Ytphgchakmkankaa
set_option linter.unusedSectionVars false
set_option linter.unusedVariables false
set_option linter.unusedSimpArgs false
def chkE {α : Type} (f : Nat → α → Int) : List α → Nat → Int
 | [], _ => 0
 | x :: l, i => if f i x = 0 then chkE f l (i + 1) else f i x
section
variable {α β γ S B R : Type}
theorem chkE_zero {f : Nat → α → Int} : ∀ (l : List α) (i : Nat), chkE f l i = 0 ↔ ∀ j x, l[j]? = some x → f (i + j) x = 0
 | [], i => by simp [chkE]
 | y :: l, i => by
  rw [chkE]
  by_cases h : f i y = 0
  ·rw [if_pos h, chkE_zero l (i + 1)]
   constructor
   ·intro k j x hx
    cases j with
    | zero => simp at hx; subst hx; exact h
    | succ j => have := k j x (by simpa using hx); rwa [show i + 1 + j = i + (j + 1) by omega] at this
   ·intro k j x hx
    have := k (j + 1) x (by simpa using hx)
    rwa [show i + (j + 1) = i + 1 + j by omega] at this
  ·rw [if_neg h]
   exact ⟨fun e => absurd e h, fun k => absurd (k 0 y rfl) h⟩
theorem forE_le {l : List α} {body : Nat → α → S → Option (Lr S B R)} {fin : S → Option B} {s : S} {K1 : B → Option γ} {K2 : R → Option γ} (hl : l.length ≤ mxl) : forE l body fin s K1 K2 = (forL body fin l 0 s).bind fun q => q.elim K1 K2 := if_pos hl
theorem forE_chk {f : Nat → α → Int} {l : List α} {body : Nat → α → Unit → Option (Lr Unit Unit Int)} {fin : Unit → Option Unit} {s : Unit} {K1 : Unit → Option γ} {K2 : Int → Option γ} (hl : l.length ≤ mxl) (hb : ∀ i x, l[i]? = some x → body i x () = some (if f i x = 0 then .go () else .ret (f i x))) (hf : fin () = some () := by rfl) : forE l body fin s K1 K2 = if chkE f l 0 = 0 then K1 () else K2 (chkE f l 0) := by
 rw [forE_le hl]
 have key : ∀ (rest pre : List α), l = pre ++ rest → forL body fin rest pre.length () = some (if chkE f rest pre.length = 0 then .inl () else .inr (chkE f rest pre.length)) := by
  intro rest
  induction rest with
  | nil => intro pre _; simp [forL, hf, chkE]
  | cons x rest ih =>
   intro pre hp
   rw [forL, hb pre.length x (by rw [hp]; simp), Option.bind_some, chkE]
   by_cases h : f pre.length x = 0
   ·simp only [h, if_true]
    have := ih (pre ++ [x]) (by simpa using hp)
    simpa using this
   ·simp only [h, if_false]
 have k := key l [] rfl
 rw [List.length_nil] at k
 rw [show s = () from rfl, k, Option.bind_some]
 split <;> rfl
theorem ite_ret {p : Prop} [Decidable p] {k f : Int} {Y : Option (Lr Unit Unit Int)} (hk : k ≠ 0) (h : Y = some (if f = 0 then .go () else .ret f)) : (if p then some (.ret k) else Y) = some (if (if p then k else f) = 0 then .go () else .ret (if p then k else f)) := by
 by_cases hp : p
 ·simp [hp, hk]
 ·simp [hp, h]
theorem go_ret : (some (.go ()) : Option (Lr Unit Unit Int)) = some (if (0 : Int) = 0 then .go () else .ret 0) := rfl
theorem forE_find {p : α → Bool} {l : List α} {body : Nat → α → Unit → Option (Lr Unit Unit R)} {r : α → R} {fin : Unit → Option Unit} {s : Unit} {K1 : Unit → Option γ} {K2 : R → Option γ} (hl : l.length ≤ mxl) (hb : ∀ i x, l[i]? = some x → body i x () = some (if p x = true then .ret (r x) else .go ())) (hf : fin () = some () := by rfl) : forE l body fin s K1 K2 = match l.find? p with | some x => K2 (r x) | none => K1 () := by
 rw [forE_le hl]
 have key : ∀ (rest pre : List α), l = pre ++ rest → forL body fin rest pre.length () = some (match rest.find? p with | some x => .inr (r x) | none => .inl ()) := by
  intro rest
  induction rest with
  | nil => intro pre _; simp [forL, hf]
  | cons x rest ih =>
   intro pre hp
   rw [forL, hb pre.length x (by rw [hp]; simp), Option.bind_some, List.find?_cons]
   cases h : p x
   ·simp only [Bool.false_eq_true, if_false]
    have := ih (pre ++ [x]) (by simpa using hp)
    simpa using this
   ·simp only [if_true]
 have k := key l [] rfl
 rw [List.length_nil] at k
 rw [show s = () from rfl, k, Option.bind_some]
 cases l.find? p <;> rfl
theorem forE_fold {l : List α} {body : Nat → α → S → Option (Lr S B R)} {fin : S → Option B} {s : S} {K1 : B → Option γ} {K2 : R → Option γ} (g : S → α → S) (P : Nat → S → Prop) (hl : l.length ≤ mxl) (h0 : P 0 s) (hP : ∀ i x s, l[i]? = some x → P i s → P (i + 1) (g s x)) (hb : ∀ i x s, l[i]? = some x → P i s → body i x s = some (.go (g s x))) : forE l body fin s K1 K2 = (fin (l.foldl g s)).bind K1 := by
 rw [forE_le hl]
 have key : ∀ (rest pre : List α) (s : S), l = pre ++ rest → P pre.length s → forL body fin rest pre.length s = (fin (rest.foldl g s)).map .inl := by
  intro rest
  induction rest with
  | nil => intro pre s _ _; simp [forL]
  | cons x rest ih =>
   intro pre s hp hq
   have hx : l[pre.length]? = some x := by rw [hp]; simp
   rw [forL, hb pre.length x s hx hq, Option.bind_some, List.foldl_cons]
   have := ih (pre ++ [x]) (g s x) (by simpa using hp) (by simpa using hP _ _ _ hx hq)
   simpa using this
 have k := key l [] s rfl h0
 rw [List.length_nil] at k
 rw [k]
 cases fin (l.foldl g s) <;> rfl
def pv [Inhabited α] (l : List α) (i : Nat) : α := if 0 < i then l.getD (i - 1) default else default
theorem tIx_get {l : List α} {i : Int} {x : α} (h0 : 0 ≤ i) (h : l[i.toNat]? = some x) : tIx l i = some x := by rw [tIx, if_pos h0, h]
theorem prev_at [Inhabited α] {l : List α} {i : Nat} {x : α} (h : l[i]? = some x) (hl : l.length ≤ mxl) : (if decide (0 < (i : Int)) = true then tIx l (IntKind.i64.wrap ((i : Int) - 1)) else some default) = some (pv l i) := by
 have hi := (List.getElem?_eq_some_iff.1 h).1
 unfold pv
 by_cases h0 : 0 < i
 ·rw [if_pos (by simpa using h0), if_pos h0, wrap64 (by unfold inI; unfold mxl at hl; omega)]
  refine tIx_get (by omega) ?_
  have : ((i : Int) - 1).toNat = i - 1 := by omega
  rw [this, List.getD, List.getElem?_eq_getElem (by omega)]
  rfl
 ·rw [if_neg (by simpa using h0), if_neg h0]
theorem find2 {a b : Int} : (([a, b] : List Int).find? fun n => decide (¬ n = 0)).getD 0 = if ¬ (a = 0) then a else b := by
 by_cases ha : a = 0
 ·by_cases hb : b = 0 <;> simp [ha, hb, List.find?]
 ·simp [ha, List.find?]
theorem find3 {a b c : Int} : (([a, b, c] : List Int).find? fun n => decide (¬ n = 0)).getD 0 = if ¬ (a = 0) then a else if ¬ (b = 0) then b else c := by
 by_cases ha : a = 0
 ·by_cases hb : b = 0
  ·by_cases hc : c = 0 <;> simp [ha, hb, hc, List.find?]
  ·simp [ha, hb, List.find?]
 ·simp [ha, List.find?]
end
theorem toList_d (s : ByteArray) : s.toList = s.data.toList := ByteArray.toList_eq s
theorem cmpB_lt : ∀ (a b : List UInt8), Lib.compareBytes a b < 0 ↔ Op.bytesLess a b = true
 | [], [] => by simp [Lib.compareBytes, Op.bytesLess]
 | [], _ :: _ => by simp [Lib.compareBytes, Op.bytesLess]
 | _ :: _, [] => by simp [Lib.compareBytes, Op.bytesLess]
 | a :: x, b :: y => by
  rw [Lib.compareBytes, Op.bytesLess]
  by_cases h1 : a < b
  ·simp [h1]
  ·by_cases h2 : b < a
   ·have : a ≠ b := by rintro rfl; exact h1 h2
    simp [h1, h2, this]
   ·have : a = b := UInt8.le_antisymm (UInt8.not_lt.1 h2) (UInt8.not_lt.1 h1)
    subst this
    simp [UInt8.lt_irrefl, cmpB_lt x y]
theorem cmpB_eq : ∀ (a b : List UInt8), Lib.compareBytes a b = 0 ↔ a = b
 | [], [] => by simp [Lib.compareBytes]
 | [], _ :: _ => by simp [Lib.compareBytes]
 | _ :: _, [] => by simp [Lib.compareBytes]
 | a :: x, b :: y => by
  rw [Lib.compareBytes]
  by_cases h1 : a < b
  ·have : a ≠ b := by rintro rfl; exact UInt8.lt_irrefl _ h1
   simp [h1, this]
  ·by_cases h2 : b < a
   ·have : a ≠ b := by rintro rfl; exact UInt8.lt_irrefl _ h2
    simp [h1, h2, this]
   ·have : a = b := UInt8.le_antisymm (UInt8.not_lt.1 h2) (UInt8.not_lt.1 h1)
    subst this
    simp [UInt8.lt_irrefl, cmpB_eq x y]
def ltK (a b : KeyD) : Bool := decide (a.unit < b.unit) || (decide (a.unit = b.unit) && Op.bytesLess a.param.toList b.param.toList)
def cmpK (a b : KeyD) : Int := if ¬ (a.unit = b.unit) then (if a.unit < b.unit then -1 else 1) else Lib.compareBytes a.param.data.toList b.param.data.toList
theorem cmpK_lt (a b : KeyD) : cmpK a b < 0 ↔ ltK a b = true := by
 unfold cmpK ltK
 by_cases h : a.unit = b.unit
 ·simp [h, toList_d, cmpB_lt]
 ·by_cases h2 : a.unit < b.unit <;> simp [h, h2]
theorem cmpK_ge (a b : KeyD) : decide (0 ≤ cmpK a b) = !ltK a b := by
 have := cmpK_lt a b
 cases h : ltK a b
 ·rw [h] at this; simp at this; simp [this]
 ·rw [h] at this; simp at this; simp [this]
theorem cmpK_eq (a b : KeyD) : cmpK a b = 0 ↔ a = b := by
 obtain ⟨u, p⟩ := a
 obtain ⟨v, q⟩ := b
 unfold cmpK
 by_cases h : u = v
 ·subst h
  simp only [not_true_eq_false, if_false, cmpB_eq, KeyD.mk.injEq, true_and]
  exact ⟨fun e => by obtain ⟨⟨p⟩⟩ := p; obtain ⟨⟨q⟩⟩ := q; simp at e; subst e; rfl, fun e => by rw [e]⟩
 ·by_cases h2 : u < v <;> simp [h, h2]
end Go.Proofs.Ytphgchakmkankaa

namespace Go.Proofs.Ytphgchakmkankaa
set_option linter.unusedSectionVars false
set_option linter.unusedVariables false
set_option linter.unusedSimpArgs false
open Go.Sort
theorem bl_irr : ∀ a : List UInt8, Op.bytesLess a a = false
 | [] => rfl
 | x :: l => by simp [Op.bytesLess, UInt8.lt_irrefl, bl_irr l]
theorem bl_trans : ∀ a b c : List UInt8, Op.bytesLess a b = true → Op.bytesLess b c = true → Op.bytesLess a c = true
 | [], [], c, h, _ => by simp [Op.bytesLess] at h
 | [], _ :: _, [], _, k => by simp [Op.bytesLess] at k
 | [], _ :: _, _ :: _, _, _ => rfl
 | _ :: _, [], c, h, _ => by simp [Op.bytesLess] at h
 | _ :: _, _ :: _, [], _, k => by simp [Op.bytesLess] at k
 | x :: a, y :: b, z :: c, h, k => by
  rw [Op.bytesLess] at h k ⊢
  simp only [Bool.or_eq_true, Bool.and_eq_true, decide_eq_true_eq, beq_iff_eq] at h k ⊢
  rcases h with h | ⟨rfl, h⟩ <;> rcases k with k | ⟨rfl, k⟩
  ·exact .inl (UInt8.lt_trans h k)
  ·exact .inl h
  ·exact .inl k
  ·exact .inr ⟨rfl, bl_trans a b c h k⟩
theorem ltK_irr (a : KeyD) : ltK a a = false := by simp [ltK, bl_irr]
theorem ltK_trans {a b c : KeyD} (h : ltK a b = true) (k : ltK b c = true) : ltK a c = true := by
 simp only [ltK, Bool.or_eq_true, Bool.and_eq_true, decide_eq_true_eq] at h k ⊢
 rcases h with h | ⟨h1, h2⟩ <;> rcases k with k | ⟨k1, k2⟩
 ·left; omega
 ·left; omega
 ·left; omega
 ·right; exact ⟨by omega, bl_trans _ _ _ h2 k2⟩
theorem ltK_tri {a b : KeyD} (h : ltK a b = false) (k : ltK b a = false) : a = b := by
 rw [← cmpK_eq]
 have h1 : ¬ cmpK a b < 0 := fun e => by rw [(cmpK_lt a b).1 e] at h; cases h
 have hba : cmpK b a = - cmpK a b ∨ True := .inr trivial
 -- what is neither smaller nor greater is the same
 unfold cmpK at h1 ⊢
 simp only [ltK, Bool.or_eq_false_iff, Bool.and_eq_false_iff, decide_eq_false_iff_not] at h k
 have hu : a.unit = b.unit := by omega
 simp only [hu, not_true_eq_false, if_false] at h1 ⊢
 have e1 : Op.bytesLess a.param.data.toList b.param.data.toList = false := by
  rcases h.2 with q | q
  ·exact absurd hu q
  ·simpa [toList_d] using q
 have e2 : Op.bytesLess b.param.data.toList a.param.data.toList = false := by
  rcases k.2 with q | q
  ·exact absurd hu.symm q
  ·simpa [toList_d] using q
 rw [cmpB_eq]
 have tri : ∀ x y : List UInt8, Op.bytesLess x y = false → Op.bytesLess y x = false → x = y := by
  intro x
  induction x with
  | nil => intro y p q; cases y with | nil => rfl | cons y l => simp [Op.bytesLess] at p
  | cons x xs ih =>
   intro y p q
   cases y with
   | nil => simp [Op.bytesLess] at q
   | cons y ys =>
    rw [Op.bytesLess] at p q
    by_cases h1 : x < y
    ·simp [h1] at p
    ·by_cases h2 : y < x
     ·simp [h2] at q
     ·have : x = y := UInt8.le_antisymm (UInt8.not_lt.1 h2) (UInt8.not_lt.1 h1)
      subst this
      simp [h1] at p q
      rw [ih ys p q]
 exact tri _ _ e1 e2
theorem cmpKey_lt (a b : KeyD) : cmpKey a b < 0 ↔ ltK a b = true := cmpK_lt a b
theorem swo_key {α : Type} (f : α → KeyD) : SWO (fun x y => decide (cmpKey (f x) (f y) < 0)) := by
 refine ⟨fun x => ?_, fun x y z h k => ?_, fun x y z h k => ?_⟩
 ·exact decide_eq_false fun h => by rw [cmpKey_lt, ltK_irr] at h; cases h
 ·have h := (cmpKey_lt _ _).1 (of_decide_eq_true h)
  have k := (cmpKey_lt _ _).1 (of_decide_eq_true k)
  exact decide_eq_true ((cmpKey_lt _ _).2 (ltK_trans h k))
 ·have h : ltK (f x) (f y) = false := by
   cases q : ltK (f x) (f y)
   ·rfl
   ·exact absurd ((cmpKey_lt _ _).2 q) (of_decide_eq_false h)
  have k : ltK (f y) (f z) = false := by
   cases q : ltK (f y) (f z)
   ·rfl
   ·exact absurd ((cmpKey_lt _ _).2 q) (of_decide_eq_false k)
  refine decide_eq_false fun q => ?_
  have q := (cmpKey_lt _ _).1 q
  cases e : ltK (f y) (f x)
  ·have := ltK_tri h e
   rw [this, k] at q; cases q
  ·have := ltK_trans e q
   rw [k] at this; cases this
theorem cEntry_inj (x y : EntryD) (h : cEntry x = cEntry y) : x = y := by
 obtain ⟨⟨a, b⟩, ⟨p, q⟩, r⟩ := x
 obtain ⟨⟨a', b'⟩, ⟨p', q'⟩, r'⟩ := y
 simp [cEntry] at h
 obtain ⟨rfl, rfl, rfl, rfl, rfl⟩ := h
 rfl
theorem cMove_inj (x y : MoveD) (h : cMove x = cMove y) : x = y := by
 obtain ⟨⟨a, b⟩, ⟨p, q⟩, r, t, d, u⟩ := x
 obtain ⟨⟨a', b'⟩, ⟨p', q'⟩, r', t', d', u'⟩ := y
 simp [cMove] at h
 obtain ⟨rfl, rfl, rfl, rfl, rfl, rfl, rfl, rfl⟩ := h
 rfl
end Go.Proofs.Ytphgchakmkankaa

namespace Go.Proofs.Ytphgchakmkankaa
set_option linter.unusedSectionVars false
open Go.RowKit Go.Sort
set_option maxRecDepth 100000
set_option linter.unusedVariables false
set_option linter.unusedSimpArgs false
theorem sorted_world {α : Type} [Inhabited α] {enc : α → List Value} {k : Nat} (hk : ∀ x, (enc x).length = k) {w : World} {b off n : Nat} {d d' : Array α} {os : Array Obj} {arr : Array Value} {bt : TypeId} (hs : d'.size = d.size)
  (hb : w.heap[b]? = some (.cells arr bt (0, 0))) (hfit : off + d.size * k ≤ arr.size) :
  Below w.heap.size (w.setB b (.cells (spl arr off (d'.toList.flatMap enc)) bt (0, 0))) (sortWorldK enc k w b off n d' os) := by
 have hlt : b < w.heap.size := (Array.getElem?_eq_some_iff.1 hb).1
 have hfl : (d'.toList.flatMap enc).length = d'.size * k := by
  have : ∀ l : List α, (l.flatMap enc).length = l.length * k := by
   intro l
   induction l with
   | nil => simp
   | cons x l ih => simp [hk, ih, Nat.add_mul]; omega
  rw [this, Array.length_toList]
 have hget : ∀ (l : List α) (t : Nat), t < l.length * k → (l.flatMap enc)[t]? = some ((enc l.toArray[t / k]!)[t % k]!) := by
  intro l
  induction l with
  | nil => intro t ht; simp at ht
  | cons x l ih =>
   intro t ht
   have hk0 : 0 < k := Nat.pos_of_ne_zero fun e => by subst e; simp at ht
   rw [List.flatMap_cons]
   by_cases h : t < k
   ·rw [List.getElem?_append_left (by rw [hk]; exact h), Nat.div_eq_of_lt h, Nat.mod_eq_of_lt h]
    simp [hk, h]
   ·rw [List.getElem?_append_right (by rw [hk]; omega), hk, ih (t - k) (by simp [Nat.add_mul] at ht; omega)]
    have e1 : t / k = (t - k) / k + 1 := by rw [Nat.div_eq_sub_div hk0 (by omega)]
    have e2 : t % k = (t - k) % k := by rw [Nat.mod_eq_sub_mod (by omega)]
    rw [e1, e2]
    simp
 have hcells : putCells id off (flatK enc k d') arr = spl arr off (d'.toList.flatMap enc) := by
  apply Array.ext_getElem?
  intro j
  rw [spl_get _ _ _ (by rw [hfl, hs]; omega)]
  simp only [putCells, Array.getElem?_mapIdx, size_flatK]
  by_cases hj : off ≤ j ∧ j < off + d'.size * k
  ·rw [if_pos (by rw [hfl]; exact hj)]
   have hja : j < arr.size := by rw [hs] at hj; omega
   rw [Array.getElem?_eq_getElem hja, Option.map_some, if_pos hj]
   have := hget d'.toList (j - off) (by rw [Array.length_toList]; omega)
   rw [this]
   simp only [id]
   rw [get_flatK _ _ _ _ (by omega)]
  ·rw [if_neg (by rw [hfl]; exact hj)]
   by_cases hja : j < arr.size
   ·rw [Array.getElem?_eq_getElem hja, Option.map_some, if_neg hj]
   ·rw [Array.getElem?_eq_none (by omega), Option.map_none]
 refine ⟨rfl, rfl, rfl, ?_, fun i hi => ?_⟩
 ·rw [size_setB]
  simp [sortWorldK, grow, putRowK, putRow, mapBlock, Sort.ahead]
 ·have hi' : i < (putRowK enc k (Sort.ahead w n) b off d').heap.size := by simp [putRowK, putRow, mapBlock, Sort.ahead]; exact hi
  show (grow (putRowK enc k (Sort.ahead w n) b off d') os).heap[i]? = _
  unfold grow
  simp only
  rw [Array.getElem?_append_left hi']
  simp only [putRowK, putRow, mapBlock, Sort.ahead]
  rw [Array.getElem?_modify]
  by_cases h : b = i
  ·subst h
   rw [if_pos rfl, heap_setB_same _ hlt, hb]
   simp only [Option.map_some, onCells, hcells]
  ·rw [if_neg h, heap_setB_other _ h]
theorem sort_sound {P : Program} {nm : List Nat} {f g : FuncId} {α : Type} [Inhabited α] {sz : Nat} {c : α → List AV} {enc : α → List Value} {cf : α → α → Int} (hsz : 0 < sz) (hinj : ∀ x y, c x = c y → x = y) (hcl : ∀ x, (c x).length = sz)
  (hrep : ∀ cc x, RepL cc (c x) (enc x)) (huniq : ∀ cc x vs, RepL cc (c x) vs → vs = enc x) (hone : ∀ x, ∀ v ∈ enc x, one1 v = true)
  (hf : ∀ us w, (callFunc f us).run P w = .ok (.enter f us) w) (hnone : ∀ w, Calls P f #[.slice none 0 0, .func (.func g) #[] #[]] w fun e w' => e = .returned (.tuple #[]) ∧ Below w.heap.size w w')
  (hmain : ∀ (blk off cap : Nat) (d : Array α) (w : World), HoldsK enc sz w blk off d → blk < w.heap.size → d.size < 4611686018427387904 → Calls P f #[.slice (some ⟨blk, off, none⟩) d.size cap, .func (.func g) #[] #[]] w fun e w' =>
   e = .returned (.tuple #[]) ∧ ∃ n os, w' = sortWorldK enc sz w blk off n (pdq (fun x y => decide (cf x y < 0)) d 0 d.size (Lib.bitLen d.size) true true) os)
  (hsize : ∀ d : Array α, (pdq (fun x y => decide (cf x y < 0)) d 0 d.size (Lib.bitLen d.size) true true).size = d.size)
  {x : AV} {σ : Heap} {r : AV} {σ' : Heap} (hm : A.sortG sz c cf x σ = some (r, σ')) {n : Nat} (hn : ∀ f, nm.getD f 0 = n → f = g) : ACalls P nm f [x, .fn n []] σ r σ' := by
 refine .inl ⟨f, hf, fun z vs e1 e2 hh ha => ?_⟩
 obtain ⟨v, u, rfl, r1, r2⟩ := repL2 ha
 simp only [Rep] at r2
 obtain ⟨f', us, rfl, k1, k2⟩ := r2
 have hf' : f' = g := hn f' (by rw [← e1]; exact k1)
 have hus : us = #[] := by simp only [RepL] at k2; exact Array.toList_inj.1 k2
 subst hf' hus
 have hout : Out z z.w z.E := ⟨rfl, rfl, rfl, Nat.le_refl _, fun _ _ _ => rfl, fun i p hp => .inr ⟨p, hp, rfl⟩, fun i p hp => ⟨p, hp, .inl rfl⟩, e2, fun p hp => hh.lt hp⟩
 unfold A.sortG at hm
 cases x <;> simp only at hm <;> first | (cases hm; done) | skip
 case nsl =>
  simp only [Option.some.injEq, Prod.mk.injEq] at hm
  obtain ⟨rfl, rfl⟩ := hm
  simp only [Rep] at r1; subst r1
  refine (hnone z.w).mono ?_
  rintro e w' ⟨rfl, hb⟩
  exact ⟨_, z.E, rfl, hout.grow hb, hh.mono (grow_ext hb) rfl (fun p hp => hb.block _ (hh.lt hp)), by simp [Rep, RepL]⟩
 case os =>
  rename_i id gg sz0 off len
  simp only [Rep] at r1
  obtain ⟨hg, p, k3, k4, qa, cap, rfl, hcap, rx⟩ := r1
  split at hm
  ·rename_i g' sz' es hs
   split at hm
   ·rename_i hc
    obtain ⟨⟨c1, c2, c3, c4, c5, c6⟩, c7⟩ := hc
    subst c1; subst c2; subst c3
    simp only [Option.some.injEq, Prod.mk.injEq] at hm
    obtain ⟨rfl, rfl⟩ := hm
    have hl := Classical.choose_spec c7
    generalize Classical.choose c7 = l at hl ⊢
    obtain ⟨j1, j2, j3, j4, ⟨arr, bt, j5, j6⟩, j7, j8, j9⟩ := hh.blk id p _ k3 hs
    obtain ⟨q1, q2, q3⟩ := rx j1.symm
    have hqa : qa = ⟨p.b, p.base + off * p.sz, none⟩ := q2.resolve_left (by omega)
    have hll : l.length = len := by
     have := congrArg List.length hl
     simp at this; omega
    have hmul : (off + len) * sz0 ≤ es.length * sz0 := Nat.mul_le_mul_right _ c4
    rw [Nat.add_mul] at hmul
    have j5' : z.w.heap[p.b]? = some (.cells arr bt (0, 0)) := j5
    have hlt : p.b < z.w.heap.size := (Array.getElem?_eq_some_iff.1 j5').1
    have hpsz : p.sz = sz0 := q1
    have hholds : HoldsK enc sz0 z.w p.b (p.base + off * sz0) l.toArray := by
     intro t ht
     simp only [size_flatK, List.size_toArray] at ht
     rw [get_flatK _ _ _ _ (by simpa using ht)]
     have htk : t / sz0 < l.length := by rw [Nat.div_lt_iff_lt_mul hsz]; exact ht
     have hes : es[off + t / sz0]? = some (c l[t / sz0]) := by
      have h1 : ((es.drop off).take len)[t / sz0]? = (l.map c)[t / sz0]? := by rw [hl]
      rw [List.getElem?_take_of_lt (by omega), List.getElem?_drop, List.getElem?_map, List.getElem?_eq_getElem htk] at h1
      exact h1
     obtain ⟨_, m2⟩ := RepEs.nth j8 hes
     obtain ⟨vs, m3, m4, m5⟩ := m2.toL
     have m6 := huniq _ _ _ m3
     subst m6
     have hmod : t % sz0 < (enc l[t / sz0]).length := by rw [← (hrep (ctx z z.w z.E nopb) _).length, hcl]; exact Nat.mod_lt _ hsz
     have m7 := m5 (t % sz0) _ (List.getElem?_eq_getElem hmod)
     have e : p.base + (off + t / sz0) * sz0 + t % sz0 = p.base + off * sz0 + t := by
      have := Nat.div_add_mod t sz0
      rw [Nat.add_mul, Nat.mul_comm (t / sz0)]; omega
     rw [e] at m7
     refine ⟨?_, by simp [World.frozen?, j5']⟩
     rw [show z.w.cell? ⟨p.b, p.base + off * sz0 + t, none⟩ = _ from m7]
     simp [htk, hmod]
    have hcon := hmain p.b (p.base + off * sz0) cap l.toArray z.w hholds hlt (by simpa [hll] using c6)
    rw [hqa, hpsz]
    simp only [List.size_toArray, hll] at hcon
    refine hcon.mono ?_
    rintro e w' ⟨rfl, nn, os, rfl⟩
    have hd' := hsize l.toArray
    simp only [List.size_toArray, hll] at hd'
    generalize hdd : pdq (fun x y => decide (cf x y < 0)) l.toArray 0 len (Lib.bitLen len) true true = d' at hd' ⊢
    have hsw := sorted_world (enc := enc) (k := sz0) (fun x => by rw [← (hrep (ctx z z.w z.E nopb) x).length, hcl]) (w := z.w) (b := p.b) (off := p.base + off * sz0) (n := nn) (d := l.toArray) (d' := d') (os := os) (by rw [hd']; simp [hll]) j5' (by simp [hll]; rw [j6]; omega)
    have hst0 : St ⟨P, nm, fun _ _ _ => none, fun _ _ _ => none, [], [], 0, []⟩ z ⟨[], fun _ => none, σ⟩ { tmps := #[], defers := [] } z.w z.E nopb :=
     ⟨rfl, rfl, fun i av hi => by simp at hi, fun i cs hi => by simp at hi, fun t p hp => (by cases hp), fun i b hb => (by cases hb), fun i j b hb => (by cases hb), hh, rfl, hout, e1.symm⟩
    have hnl : (d'.toList.map c).length = len := by rw [List.length_map, Array.length_toList, hd']
    obtain ⟨_, hst⟩ := bulk_own hst0 (i := off) (ys := d'.toList.map c) (news := d'.toList.flatMap enc) k3 hs j5 (by rw [hnl]; exact c4) (by
      generalize d'.toList = l'
      induction l' with
      | nil => simp [RepL]
      | cons x l' ih => simp only [List.map_cons, List.flatten_cons, List.flatMap_cons]; exact (hrep _ x).append ih)
     (fun x hx => by obtain ⟨y, _, hy⟩ := List.mem_flatMap.1 hx; exact hone y x hy) (fun y hy => by obtain ⟨x, _, rfl⟩ := List.mem_map.1 hy; exact hcl x)
     (by
      have : ∀ l : List α, (l.flatMap enc).length = l.length * sz0 := by
       intro l
       induction l with
       | nil => simp
       | cons x l ih => simp only [List.flatMap_cons, List.length_append, ih, ← (hrep (ctx z z.w z.E nopb) x).length, hcl, List.length_cons, Nat.add_mul]; omega
      rw [this, List.length_map])
    have hst2 := hst.grow (w' := sortWorldK enc sz0 z.w p.b (p.base + off * sz0) nn d' os) (by rw [size_setB]; exact hsw)
    refine ⟨_, z.E, rfl, hst2.out, ?_, by simp [Rep, RepL]⟩
    have hpd : pdqL cf l = d'.toList := by unfold pdqL; rw [hll, hdd]
    rw [hnl] at hst2
    rw [hpd]
    exact hst2.heap
   ·cases hm
  ·cases hm
def encEntry (x : EntryD) : List Value := [.int .i64 x.key.unit, .string x.key.param, .int .i64 x.value.level, .int .i64 x.value.preset, .int .i64 x.cue]
def encMove (x : MoveD) : List Value := [.int .i64 x.key.unit, .string x.key.param, .int .i64 x.value.level, .int .i64 x.value.preset, .bool x.release, .bool x.timed, .int .i64 x.delay, .int .i64 x.time]
theorem grow_two {W : World} {o1 o2 : Obj} : ∃ q os', (W.alloc o1).alloc o2 = grow (W.drewN q) os' := ⟨0, _, by rw [alloc_eq_grow, alloc_eq_grow, grow_grow]; rfl⟩
theorem grow_more {W : World} {o1 o2 : Obj} {q : Nat} {os : Array Obj} : ∃ q' os', grow (((W.alloc o1).alloc o2).drewN q) os = grow (W.drewN q') os' := ⟨q, _, by rw [alloc_eq_grow, alloc_eq_grow, grow_grow]; show grow (grow (W.drewN q) _) os = _; rw [grow_grow]⟩
theorem compare_walk (a b : KeyD) (W : World) : Calls Try.prog 88 #[.agg #[.int .i64 a.unit, .string a.param], .agg #[.int .i64 b.unit, .string b.param]] W fun e w' => e = .returned (.int .i64 (cmpKey a b)) ∧ ∃ q os', w' = grow (W.drewN q) os' := by
 have hcon := fun (x y : ByteArray) W' => Try.strings_Compare x y W'
 go_enter Try.func88, Try.ntmps88
 go_wp2_with (go_at_call 130; refine (hcon _ _ _).mono ?_; rintro e w' ⟨rfl, rfl⟩)
 ·go_ret
  have h1 : a.unit ≠ b.unit := by omega
  exact ⟨by rw [cmpKey, if_pos h1, if_pos (by omega)]; rfl, grow_two⟩
 ·go_ret
  have h1 : a.unit ≠ b.unit := by simpa using ‹(a.unit != b.unit) = true›
  exact ⟨by rw [cmpKey, if_pos h1, if_neg (by omega)]; rfl, grow_two⟩
 ·go_ret
  have h1 : a.unit = b.unit := by first | simpa using ‹(a.unit != b.unit) = false› | simpa using ‹¬ (a.unit != b.unit) = true› | omega
  exact ⟨by rw [cmpKey, if_neg (by simpa using h1)]; rfl, grow_two⟩
theorem rep_entry (cc : RC) (x : EntryD) : RepL cc (cEntry x) (encEntry x) := by
 obtain ⟨⟨a, b⟩, ⟨p, q⟩, r⟩ := x
 simp [cEntry, encEntry, RepL, Rep]
theorem uniq_entry (cc : RC) (x : EntryD) (vs : List Value) (e : RepL cc (cEntry x) vs) : vs = encEntry x := by
 obtain ⟨⟨a, b⟩, ⟨p, q⟩, r⟩ := x
 simpa [cEntry, encEntry, RepL, Rep] using e
theorem rep_move (cc : RC) (x : MoveD) : RepL cc (cMove x) (encMove x) := by
 obtain ⟨⟨a, b⟩, ⟨p, q⟩, r, t, d, u⟩ := x
 simp [cMove, encMove, RepL, Rep]
theorem uniq_move (cc : RC) (x : MoveD) (vs : List Value) (e : RepL cc (cMove x) vs) : vs = encMove x := by
 obtain ⟨⟨a, b⟩, ⟨p, q⟩, r, t, d, u⟩ := x
 simpa [cMove, encMove, RepL, Rep] using e
theorem one_entry (x : EntryD) (v : Value) (h : v ∈ encEntry x) : one1 v = true ∧ v.oneCell' = true := by
 simp [encEntry] at h
 rcases h with rfl | rfl | rfl | rfl | rfl <;> exact ⟨rfl, rfl⟩
theorem one_move (x : MoveD) (v : Value) (h : v ∈ encMove x) : one1 v = true ∧ v.oneCell' = true := by
 simp [encMove] at h
 rcases h with rfl | rfl | rfl | rfl | rfl | rfl | rfl | rfl <;> exact ⟨rfl, rfl⟩
theorem pdq_size {α : Type} [Inhabited α] {cf : α → α → Int} (hS : SWO (fun x y => decide (cf x y < 0))) (d : Array α) : (pdq (fun x y => decide (cf x y < 0)) d 0 d.size (Lib.bitLen d.size) true true).size = d.size :=
 (pdq_sorts (fun x y => decide (cf x y < 0)) hS d 0 d.size (Lib.bitLen d.size) true true (Nat.zero_le _) (Nat.le_refl _) (Or.inl rfl)).1.1
theorem stateCmp_walk (a b : EntryD) (W : World) : Calls Try.prog 127 #[.agg (encEntry a).toArray, .agg (encEntry b).toArray] W fun e w' => e = .returned (.int .i64 (cmpKey a.key b.key)) ∧ ∃ q os', w' = grow (W.drewN q) os' := by
 have hcon := fun W' => compare_walk a.key b.key W'
 unfold encEntry
 generalize cmpKey a.key b.key = r at hcon ⊢
 go_enter Try.func127, Try.ntmps127
 go_wp2_with (go_at_call 88; refine (hcon _).mono ?_; rintro e w' ⟨rfl, q, os', rfl⟩)
 go_ret
 exact ⟨rfl, grow_more⟩
theorem s_slices_SortFunc_api_Entry_api_Entry_ : Sound Try.prog nmT 126 m_slices_SortFunc_Entry := by
 intro args σ r σ' h
 unfold m_slices_SortFunc_Entry A.ar2 at h
 split at h
 ·rename_i x f σ0
  simp only at h
  split at h
  ·have eg : ∀ args w, (callFunc 127 args).run Try.prog w = .ok (.enter 127 args) w := Try.call127
   refine @sort_sound Try.prog nmT 126 127 EntryD ⟨⟨⟨0, ⟨#[]⟩⟩, ⟨0, 0⟩, 0⟩⟩ 5 cEntry encEntry (fun a b => cmpKey a.key b.key) (by decide) (fun x y e => ?_) (fun _ => rfl) (fun cc x => ?_) (fun cc x vs e => ?_) (fun x v hv => ?_) Try.call126 (fun w => ?_) (fun blk off cap d w hH hb hd => ?_) (fun d => ?_) _ _ _ _ h _ (fun f hf => nm_one (by kernel_rfl) rfl hf)
   ·exact cEntry_inj x y e
   ·exact rep_entry cc x
   ·exact uniq_entry cc x vs e
   ·exact (one_entry x v hv).1
   ·exact (AnyF.slices_SortFunc_none (P := Try.prog) { Try.sort126 with } none 0 _ w).mono fun e w' ⟨h1, h2⟩ => ⟨h1, h2 ▸ Below.refl _ _⟩
   ·exact AnyQ.slices_SortFunc_eq Try.sort126 5 Try.isAgg70 Try.sizeOf70 encEntry (fun _ => rfl) (fun x v hv => (one_entry x v hv).2) (fun a b => cmpKey a.key b.key) (swo_key fun e : EntryD => e.key) 127 #[] blk off cap d w eg (fun _ _ _ _ x y => stateCmp_walk x y _) hH hb hd
   ·exact pdq_size (swo_key fun e : EntryD => e.key) d
  ·cases h
 ·cases h
theorem copyCmp_walk (a b : MoveD) (W : World) : Calls Try.prog 87 #[.agg (encMove a).toArray, .agg (encMove b).toArray] W fun e w' => e = .returned (.int .i64 (cmpKey a.key b.key)) ∧ ∃ q os', w' = grow (W.drewN q) os' := by
 have hcon := fun W' => compare_walk a.key b.key W'
 unfold encMove
 generalize cmpKey a.key b.key = r at hcon ⊢
 go_enter Try.func87, Try.ntmps87
 go_wp2_with (go_at_call 88; refine (hcon _).mono ?_; rintro e w' ⟨rfl, q, os', rfl⟩)
 go_ret
 exact ⟨rfl, grow_more⟩
theorem s_slices_SortFunc_api_Move_api_Move_ : Sound Try.prog nmT 86 m_slices_SortFunc_Move := by
 intro args σ r σ' h
 unfold m_slices_SortFunc_Move A.ar2 at h
 split at h
 ·rename_i x f σ0
  simp only at h
  split at h
  ·have eg : ∀ args w, (callFunc 87 args).run Try.prog w = .ok (.enter 87 args) w := Try.call87
   refine @sort_sound Try.prog nmT 86 87 MoveD ⟨⟨⟨0, ⟨#[]⟩⟩, ⟨0, 0⟩, false, false, 0, 0⟩⟩ 8 cMove encMove (fun a b => cmpKey a.key b.key) (by decide) (fun x y e => ?_) (fun _ => rfl) (fun cc x => ?_) (fun cc x vs e => ?_) (fun x v hv => ?_) Try.call86 (fun w => ?_) (fun blk off cap d w hH hb hd => ?_) (fun d => ?_) _ _ _ _ h _ (fun f hf => nm_one (by kernel_rfl) rfl hf)
   ·exact cMove_inj x y e
   ·exact rep_move cc x
   ·exact uniq_move cc x vs e
   ·exact (one_move x v hv).1
   ·exact (AnyF.slices_SortFunc_none (P := Try.prog) { Try.sort86 with } none 0 _ w).mono fun e w' ⟨h1, h2⟩ => ⟨h1, h2 ▸ Below.refl _ _⟩
   ·exact AnyQ.slices_SortFunc_eq Try.sort86 8 Try.isAgg66 Try.sizeOf66 encMove (fun _ => rfl) (fun x v hv => (one_move x v hv).2) (fun a b => cmpKey a.key b.key) (swo_key fun e : MoveD => e.key) 87 #[] blk off cap d w eg (fun _ _ _ _ x y => copyCmp_walk x y _) hH hb hd
   ·exact pdq_size (swo_key fun e : MoveD => e.key) d
  ·cases h
 ·cases h
end Go.Proofs.Ytphgchakmkankaa

