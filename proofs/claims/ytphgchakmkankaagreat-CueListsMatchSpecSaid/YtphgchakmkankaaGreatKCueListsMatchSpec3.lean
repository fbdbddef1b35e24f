/- Parts of the proof of CueListsMatchSpec, in order. -/
import Derived.Orders
import Derived.Below
import Derived.WalkKit
import Derived.Laws.StructEq
import Derived.Laws.Append
import Derived.Laws.AppendOwn
import Derived.Test.YtphgchakmkankaaGreatRows
import Derived.KernelRfl
import Derived.Lib.Bytealg
import Derived.Sort.Defs
import Derived.Lib.BitFns
import Derived.Test.YtphgchakmkankaaGreatShelf
import Derived.Lib.Overlaps
import Derived.Test.YtphgchakmkankaaGreatKCueListsMatchSpec2
namespace Go.Proofs.YtphgchakmkankaaGreat
set_option linter.unusedSectionVars false
open Go.RowKit
set_option linter.unusedVariables false
set_option linter.unusedSimpArgs false

inductive Sh where
 | k
 | s (sz : Nat)
 | e (sz : Nat) (l : List Sh)
 | a (l : List Sh)
 | t (l : List Sh)
namespace A
set_option linter.unusedSectionVars false
mutual
def nn : Sh → AV → AV
 | .k, v => v
 | .s sz, v => match v with | .nsl => .sl sz [] | .ez => .sl sz [] | v => v
 | .e sz l, v => match v with | .nsl => .sl sz [] | .ez => .sl sz [] | .sl sz' es => .sl sz' (es.map (nnL l)) | v => v
 | .a l, v => match v with | .agg cs => .agg (nnL l cs) | v => v
 | .t l, v => match v with | .tup vs => .tup (nnL l vs) | v => v
def nnL : List Sh → List AV → List AV
 | [], vs => vs
 | s :: ss, vs => match vs with | [] => [] | v :: vs => nn s v :: nnL ss vs
end
def own1 : AV → Bool
 | .os .. => true
 | .op .. => true
 | .oe .. => true
 | .om .. => true
 | _ => false
def own : AV → Bool
 | .agg cs => cs.any own1
 | v => own1 v
def scal1 : AV → Bool
 | .int .. => true
 | .bool .. => true
 | .str .. => true
 | .np => true
 | .nsl => true
 | .ez => true
 | .nm => true
 | .nfn => true
 | .sl _ [] => true
 | _ => false
def scal2 : AV → Bool
 | .agg cs => cs.all scal1
 | v => scal1 v
def scal : AV → Bool
 | .tup vs => vs.all scal2
 | v => scal2 v
def fresh (v : AV) : Bool := match v with
 | .os .. => true
 | .om _ => true
 | v => scal2 v
def freshT : AV → Bool
 | .tup vs => vs.all fresh
 | v => fresh v
def freshB : Blk → Bool
 | .box cs => cs.all scal1
 | .arr _ _ es => es.all fun e => e.all scal1
 | .map es => es.all fun p => scal2 p.1 && scal2 p.2
 | _ => false
def shift (n : Nat) (v : AV) : AV := match v with
 | .os id g sz off len => .os (id + n) g sz off len
 | .om id => .om (id + n)
 | v => v
def shiftT (n : Nat) : AV → AV
 | .tup vs => .tup (vs.map (shift n))
 | v => shift n v
noncomputable def wrap (ro : Bool) (ain : List Sh) (rout : Sh) (r : List AV → Heap → Option (AV × Heap)) (args : List AV) (σ : Heap) : Option (AV × Heap) :=
 bif ro && args.any own then
  (frzL σ 0 8 args).bind fun args => (r (nnL ain args) []).bind fun q => bif freshT (nn rout q.1) && q.2.all freshB then some (shiftT σ.length (nn rout q.1), σ ++ q.2) else none
 else (r (nnL ain args) σ).map fun q => (nn rout q.1, q.2)
noncomputable def finC (sh : Sh) (m : List AV → Heap → Option (AV × Heap)) (args : List AV) (σ : Heap) : Option (AV × Heap) := (m args σ).bind fun p => (fin σ p.1 p.2).map fun q => (nn sh q.1, q.2)
noncomputable def cloneZ (m : List AV → Heap → Option (AV × Heap)) (args : List AV) (σ : Heap) : Option (AV × Heap) := match args with
 | [.sl _ []] => some (.ez, σ)
 | [.nsl] => some (.ez, σ)
 | [.ez] => some (.ez, σ)
 | [.os _ _ _ _ 0] => some (.ez, σ)
 | _ => m args σ
end A

def Sound (P : Program) (nm : List Nat) (f : FuncId) (m : List AV → Heap → Option (AV × Heap)) : Prop := ∀ args σ r σ', m args σ = some (r, σ') → ACalls P nm f args σ r σ'
section
variable {P : Program} {nm : List Nat} {f : FuncId} {c c' : RC}
theorem nsl_sl {v : Value} (sz : Nat) (hsz : 0 < sz) (h : Rep c .nsl v) : Rep c (.sl sz []) v := by
 simp only [Rep] at h ⊢
 subst h
 exact ⟨none, 0, rfl, Nat.le_refl _, hsz, .inl trivial⟩
theorem ez_sl {v : Value} (sz : Nat) (hsz : 0 < sz) (h : Rep c .ez v) : Rep c (.sl sz []) v := by
 simp only [Rep] at h ⊢
 obtain ⟨a, rfl⟩ := h
 exact ⟨a, 0, rfl, Nat.le_refl _, hsz, .inl trivial⟩
mutual
def Sh.ok : Sh → Bool
 | .k => true
 | .s sz => Nat.blt 0 sz
 | .e sz l => Nat.blt 0 sz && Sh.okL l
 | .a l => Sh.okL l
 | .t l => Sh.okL l
def Sh.okL : List Sh → Bool
 | [] => true
 | x :: l => x.ok && Sh.okL l
end
theorem nnL_len : ∀ (l : List Sh) (cs : List AV), (A.nnL l cs).length = cs.length
 | [], cs => by simp [A.nnL]
 | _ :: _, [] => by simp [A.nnL]
 | o :: l, v :: cs => by simp [A.nnL, nnL_len l cs]
mutual
theorem nn_rep : ∀ (s : Sh) (a : AV) (v : Value), s.ok = true → Rep c a v → Rep c (A.nn s a) v
 | .k, a, v, _, h => by simpa [A.nn] using h
 | .s sz, a, v, ho, h => by
  cases a <;> simp only [A.nn] <;> first | exact h | exact nsl_sl sz (by simpa [Sh.ok] using ho) h | exact ez_sl sz (by simpa [Sh.ok] using ho) h
 | .e sz l, a, v, ho, h => by
  simp only [Sh.ok, Bool.and_eq_true] at ho
  cases a <;> simp only [A.nn] <;> first | exact h | exact nsl_sl sz (by simpa using ho.1) h | exact ez_sl sz (by simpa using ho.1) h | skip
  simp only [Rep] at h ⊢
  obtain ⟨a, cap, e, h1, h2, h3⟩ := h
  refine ⟨a, cap, by rw [List.length_map]; exact e, by rw [List.length_map]; exact h1, h2, ?_⟩
  rcases h3 with h3 | ⟨b, off, e1, e2, e3, e4⟩
  ·left; rw [h3]; rfl
  ·right; exact ⟨b, off, e1, e2, e3, nnL_es l ho.2 _ _ e4⟩
 | .a l, a, v, ho, h => by
  simp only [Sh.ok] at ho
  cases a <;> simp only [A.nn] <;> first | exact h | skip
  simp only [Rep] at h ⊢
  obtain ⟨vs, e, h1, h2⟩ := h
  exact ⟨vs, e, nnL_rep l _ _ ho h1, h2⟩
 | .t ss, a, v, ho, h => by
  simp only [Sh.ok] at ho
  cases a <;> simp only [A.nn] <;> first | exact h | skip
  simp only [Rep] at h ⊢
  obtain ⟨vs, e, h1⟩ := h
  exact ⟨vs, e, nnL_rep ss _ _ ho h1⟩
theorem nnL_rep : ∀ (ss : List Sh) (l : List AV) (vs : List Value), Sh.okL ss = true → RepL c l vs → RepL c (A.nnL ss l) vs
 | [], l, vs, _, h => by simpa [A.nnL] using h
 | _ :: _, [], vs, _, h => by simpa [A.nnL] using h
 | s :: ss, a :: l, vs, ho, h => by
  simp only [Sh.okL, Bool.and_eq_true] at ho
  simp only [A.nnL, RepL] at h ⊢
  obtain ⟨v, vs', e, h1, h2⟩ := h
  exact ⟨v, vs', e, nn_rep s a v ho.1 h1, nnL_rep ss l vs' ho.2 h2⟩
theorem nnL_cs {b : Nat} : ∀ (l : List Sh) (cs : List AV) (off : Nat), Sh.okL l = true → RepCs c b off cs → RepCs c b off (A.nnL l cs)
 | [], cs, off, _, h => by simpa [A.nnL] using h
 | _ :: _, [], off, _, h => by simpa [A.nnL] using h
 | o :: l, a :: cs, off, ho, h => by
  simp only [Sh.okL, Bool.and_eq_true] at ho
  simp only [A.nnL, RepCs] at h ⊢
  obtain ⟨⟨v, h1, h2, h3⟩, h4⟩ := h
  exact ⟨⟨v, h1, h2, nn_rep o a v ho.1 h3⟩, nnL_cs l cs (off + 1) ho.2 h4⟩
theorem nnL_es {sz b : Nat} (l : List Sh) (hl : Sh.okL l = true) : ∀ (es : List (List AV)) (off : Nat), RepEs c sz b off es → RepEs c sz b off (es.map (A.nnL l))
 | [], off, h => by simp [RepEs]
 | e :: es, off, h => by
  simp only [List.map_cons, RepEs] at h ⊢
  exact ⟨by rw [nnL_len]; exact h.1, nnL_cs l e off hl h.2.1, nnL_es l hl es _ h.2.2⟩
end
theorem scal1_rep : ∀ {a : AV} {v : Value}, A.scal1 a = true → Rep c a v → Rep c' a v := by
 intro a v h r
 cases a <;> simp only [A.scal1] at h <;> first | (cases h; done) | skip
 case sl sz es =>
  cases es with
  | nil =>
   simp only [Rep] at r ⊢
   obtain ⟨q, cap, e, h1, h2, _⟩ := r
   exact ⟨q, cap, e, h1, h2, .inl trivial⟩
  | cons _ _ => simp at h
 all_goals simpa [Rep] using r
theorem scal1L_rep : ∀ {l : List AV} {vs : List Value}, l.all A.scal1 = true → RepL c l vs → RepL c' l vs
 | [], vs, _, r => by simpa [RepL] using r
 | a :: l, vs, h, r => by
  simp only [List.all_cons, Bool.and_eq_true] at h
  simp only [RepL] at r ⊢
  obtain ⟨v, vs', e, h1, h2⟩ := r
  exact ⟨v, vs', e, scal1_rep h.1 h1, scal1L_rep h.2 h2⟩
theorem scal2_rep {a : AV} {v : Value} (h : A.scal2 a = true) (r : Rep c a v) : Rep c' a v := by
 unfold A.scal2 at h
 split at h
 ·simp only [Rep] at r ⊢
  obtain ⟨vs, e, h1, h2⟩ := r
  exact ⟨vs, e, scal1L_rep h h1, h2⟩
 ·exact scal1_rep h r
theorem ACalls.conv {args args' : List AV} {σ σ' : Heap} {r r' : AV} (h : ACalls P nm f args' σ r σ') (ha : ∀ c vs, RepL c args vs → RepL c args' vs) (hr : ∀ c v, Rep c r v → Rep c r' v) : ACalls P nm f args σ r' σ' := by
 rcases h with ⟨g, h1, h2⟩ | h
 ·refine .inl ⟨g, h1, fun z vs e1 e2 e3 e4 => (h2 z vs e1 e2 e3 (ha _ _ e4)).mono ?_⟩
  rintro e w' ⟨v, E', k1, k2, k3, k4⟩
  exact ⟨v, E', k1, k2, k3, hr _ _ k4⟩
 ·refine .inr fun z vs e1 e2 e3 e4 => ?_
  obtain ⟨v, w', E', k1, k2, k3, k4⟩ := h z vs e1 e2 e3 (ha _ _ e4)
  exact ⟨v, w', E', k1, k2, k3, hr _ _ k4⟩
theorem shift_rep {z0 z : Z} {w' : World} {E' : List Pl} {n : Nat} (hn : n = z.E.length) {a : AV} {v : Value} (h : A.fresh a = true) (r : Rep (ctx z0 w' E' nopb) a v) : Rep (ctx z w' (z.E ++ E') nopb) (A.shift n a) v := by
 have key : ∀ (id : Nat) (p : Pl), E'[id]? = some p → (z.E ++ E')[id + n]? = some p := fun id p hp => by
  rw [List.getElem?_append_right (by omega), hn, Nat.add_sub_cancel]; exact hp
 unfold A.fresh at h
 unfold A.shift
 split at h
 ·simp only [Rep] at r ⊢
  obtain ⟨hg, p, h1, h2, r⟩ := r
  exact ⟨hg, p, key _ _ h1, h2, r⟩
 ·simp only [Rep] at r ⊢
  obtain ⟨p, h1, h2, r⟩ := r
  exact ⟨p, key _ _ h1, h2, r⟩
 ·exact scal2_rep h r
theorem shiftT_rep' {z0 z : Z} {w' : World} {E' : List Pl} {n : Nat} (hn : n = z.E.length) {vs : List AV} {v : Value} (h : vs.all A.fresh = true) (r : Rep (ctx z0 w' E' nopb) (.tup vs) v) : Rep (ctx z w' (z.E ++ E') nopb) (A.shiftT n (.tup vs)) v := by
 simp only [Rep, A.shiftT] at r ⊢
 obtain ⟨us, rfl, r⟩ := r
 refine ⟨us, rfl, ?_⟩
 generalize us.toList = us' at r ⊢
 induction vs generalizing us' with
 | nil => simpa [RepL] using r
 | cons x l ih =>
  simp only [List.all_cons, Bool.and_eq_true] at h
  simp only [RepL, List.map_cons] at r ⊢
  obtain ⟨v, vs', e, h1, h2⟩ := r
  exact ⟨v, vs', e, shift_rep hn h.1 h1, ih h.2 _ h2⟩
theorem shiftT_rep {z0 z : Z} {w' : World} {E' : List Pl} {n : Nat} (hn : n = z.E.length) {a : AV} {v : Value} (h : A.freshT a = true) (r : Rep (ctx z0 w' E' nopb) a v) : Rep (ctx z w' (z.E ++ E') nopb) (A.shiftT n a) v := by
 by_cases ht : ∃ vs, a = .tup vs
 ·obtain ⟨vs, rfl⟩ := ht
  exact shiftT_rep' hn h r
 ·have e1 : A.freshT a = A.fresh a := by cases a <;> first | rfl | exact absurd ⟨_, rfl⟩ ht
  have e2 : A.shiftT n a = A.shift n a := by cases a <;> first | rfl | exact absurd ⟨_, rfl⟩ ht
  rw [e1] at h
  rw [e2]
  exact shift_rep hn h r
theorem scal1Cs_rep {b : Nat} : ∀ {l : List AV} {off : Nat}, l.all A.scal1 = true → c'.w = c.w → RepCs c b off l → RepCs c' b off l
 | [], off, _, _, _ => by simp [RepCs]
 | a :: l, off, h, hw, r => by
  simp only [List.all_cons, Bool.and_eq_true] at h
  simp only [RepCs] at r ⊢
  obtain ⟨⟨v, h1, h2, h3⟩, h4⟩ := r
  exact ⟨⟨v, by rw [hw]; exact h1, h2, scal1_rep h.1 h3⟩, scal1Cs_rep h.2 hw h4⟩
theorem scal1Es_rep {sz b : Nat} : ∀ {l : List (List AV)} {off : Nat}, (l.all fun e => e.all A.scal1) = true → c'.w = c.w → RepEs c sz b off l → RepEs c' sz b off l
 | [], off, _, _, _ => by simp [RepEs]
 | a :: l, off, h, hw, r => by
  simp only [List.all_cons, Bool.and_eq_true] at h
  simp only [RepEs] at r ⊢
  obtain ⟨h1, h2, h3⟩ := r
  exact ⟨h1, scal1Cs_rep h.1 hw h2, scal1Es_rep h.2 hw h3⟩
theorem scal2M_rep : ∀ {l : List (AV × AV)} {es : List MapEntry}, (l.all fun p => A.scal2 p.1 && A.scal2 p.2) = true → RepM c l es → RepM c' l es
 | [], es, _, r => by simpa [RepM] using r
 | (k, v) :: l, es, h, r => by
  simp only [List.all_cons, Bool.and_eq_true] at h
  simp only [RepM] at r ⊢
  obtain ⟨e, es', h1, h2, h3, h4⟩ := r
  exact ⟨e, es', h1, scal2_rep h.1.1 h2, scal2_rep h.1.2 h3, scal2M_rep h.2 h4⟩
theorem freshB_rep {p : Pl} {x : Blk} (h : A.freshB x = true) (hw : c'.w = c.w) (r : BlkAt c p x) : BlkAt c' p x := by
 cases x with
 | box cs =>
  obtain ⟨h1, ⟨⟨arr, t, h2, h3⟩, h4⟩⟩ := r
  exact ⟨h1, ⟨arr, t, by rw [hw]; exact h2, h3⟩, scal1Cs_rep h hw h4⟩
 | arr g sz es =>
  obtain ⟨h1, h2, h3, h4, ⟨arr, t, h5, h6⟩, h7, h8, h9⟩ := r
  exact ⟨h1, h2, h3, h4, ⟨arr, t, by rw [hw]; exact h5, h6⟩, h7, scal1Es_rep h hw h8, fun arr t fz e => h9 arr t fz (by rw [← hw]; exact e)⟩
 | map es =>
  obtain ⟨h1, ents, clock, h2, hwf, h3⟩ := r
  exact ⟨h1, ents, clock, by rw [hw]; exact h2, hwf, scal2M_rep h h3⟩
 | arrF g sz es => cases h
 | it cur left => cases h
theorem lent_out {z : Z} {σ σ' : Heap} {r : AV} {v : Value} {w' : World} {E' : List Pl} (e2 : ∀ b, z.X b → b < z.w.heap.size) (hh : HeapRel (ctx z z.w z.E nopb) σ) (hv : A.freshT r = true) (hb : σ'.all A.freshB = true)
  (k2 : Out ⟨z.w, [], fun _ => False, z.nm⟩ w' E') (k3 : HeapRel (ctx ⟨z.w, [], fun _ => False, z.nm⟩ w' E' nopb) σ') (k4 : Rep (ctx ⟨z.w, [], fun _ => False, z.nm⟩ w' E' nopb) r v) :
  ∃ E'', Out z w' E'' ∧ HeapRel (ctx z w' E'' nopb) (σ ++ σ') ∧ Rep (ctx z w' E'' nopb) (A.shiftT σ.length r) v := by
 have hlen : z.E.length = σ.length := hh.len
 have hlen' : E'.length = σ'.length := k3.len
 have hst : ∀ b, b < z.w.heap.size → w'.heap[b]? = z.w.heap[b]? := fun b hb => k2.stay b hb (fun p hp => by cases hp)
 have hlt : ∀ p ∈ z.E, p.b < z.w.heap.size := fun p hp => hh.lt hp
 have hfr : ∀ p ∈ E', z.w.heap.size ≤ p.b := fun p hp => by
  rcases k2.fresh p hp with k | ⟨q, hq, _⟩
  ·exact k
  ·cases hq
 have hx : Ext (ctx z z.w z.E nopb) (ctx z w' (z.E ++ E') nopb) := by
  refine ⟨k2.size, fun b hb hn => ⟨hst b hb, ?_⟩, fun i p hp => ⟨p, ?_, .inl rfl⟩, rfl⟩
  ·rintro (k | ⟨p, hp, k⟩ | ⟨i, k⟩)
   ·exact hn (.inl k)
   ·rcases List.mem_append.1 hp with hp | hp
    ·exact hn (.inr (.inl ⟨p, hp, k⟩))
    ·have := hfr p hp; simp only [ctx] at hb; omega
   ·cases k
  ·simp only [ctx] at hp ⊢
   rw [List.getElem?_append_left (List.getElem?_eq_some_iff.1 hp).1]; exact hp
 have key : ∀ (i : Nat) (p : Pl), (z.E ++ E')[i]? = some p → (i < z.E.length ∧ z.E[i]? = some p) ∨ (z.E.length ≤ i ∧ E'[i - z.E.length]? = some p) := fun i p hp => by
  by_cases hi : i < z.E.length
  ·rw [List.getElem?_append_left hi] at hp; exact .inl ⟨hi, hp⟩
  ·rw [List.getElem?_append_right (by omega)] at hp; exact .inr ⟨by omega, hp⟩
 refine ⟨z.E ++ E', ⟨k2.os, k2.tape, k2.output, k2.size, fun b hb _ => hst b hb, fun i p hp => ?_, fun i p hp => ⟨p, ?_, .inl rfl⟩, e2, hlt⟩, ⟨by simp [ctx, hlen, hlen'], fun i j p q hp hq e => ?_, fun i p x hp hxx => ?_⟩, shiftT_rep hlen.symm hv k4⟩
 ·rcases key i p hp with ⟨_, k⟩ | ⟨_, k⟩
  ·exact .inr ⟨p, k, rfl⟩
  ·exact .inl (hfr p (List.mem_of_getElem? k))
 ·rw [List.getElem?_append_left (List.getElem?_eq_some_iff.1 hp).1]; exact hp
 ·simp only [ctx] at hp hq
  rcases key i p hp with ⟨i1, k⟩ | ⟨i1, k⟩ <;> rcases key j q hq with ⟨j1, m⟩ | ⟨j1, m⟩
  ·exact hh.inj i j p q k m e
  ·have := hlt p (List.mem_of_getElem? k); have := hfr q (List.mem_of_getElem? m); omega
  ·have := hlt q (List.mem_of_getElem? m); have := hfr p (List.mem_of_getElem? k); omega
  ·have := k3.inj _ _ p q k m e; omega
 ·simp only [ctx] at hp
  rcases key i p hp with ⟨i1, k⟩ | ⟨i1, k⟩
  ·rw [List.getElem?_append_left (by omega)] at hxx
   exact (hh.blk i p x k hxx).mono hx (hst _ (hlt p (List.mem_of_getElem? k)))
  ·rw [List.getElem?_append_right (by omega), ← hlen] at hxx
   exact freshB_rep (c := ctx ⟨z.w, [], fun _ => False, z.nm⟩ w' E' nopb) (List.all_eq_true.1 hb x (List.mem_of_getElem? hxx)) rfl (k3.blk _ p x k hxx)
theorem ACalls.lent {args args' : List AV} {σ σ' : Heap} {r : AV} (h : ACalls P nm f args' [] r σ') (ha : A.frzL σ 0 8 args = some args') (hv : A.freshT r = true) (hb : σ'.all A.freshB = true) : ACalls P nm f args σ (A.shiftT σ.length r) (σ ++ σ') := by
 have hX : ∀ (z : Z) b, ¬ (ctx ⟨z.w, [], fun _ => False, z.nm⟩ z.w [] nopb).X b := by
  rintro z b (k | ⟨p, hp, _⟩ | ⟨i, k⟩)
  ·exact k.elim
  ·cases hp
  ·cases k
 have hcold : ∀ (z : Z), HeapRel (ctx z z.w z.E nopb) σ → Cold (ctx z z.w z.E nopb) (ctx ⟨z.w, [], fun _ => False, z.nm⟩ z.w [] nopb) σ 0 := fun z hh =>
  ⟨rfl, rfl, fun b k => (hX z b k).elim, fun id p k => absurd k (Nat.not_lt_zero _), hh, fun id p _ _ => hX z _⟩
 have h0 : ∀ (z : Z), HeapRel (ctx ⟨z.w, [], fun _ => False, z.nm⟩ z.w [] nopb) [] := fun z => by
  refine ⟨rfl, fun i j p q hp => ?_, fun i p x hp => ?_⟩
  ·simp [ctx] at hp
  ·simp [ctx] at hp
 rcases h with ⟨g, h1, h2⟩ | h2
 ·refine .inl ⟨g, h1, fun z vs e1 e2 hh e4 => ?_⟩
  have ha' : RepL (ctx ⟨z.w, [], fun _ => False, z.nm⟩ z.w [] nopb) args' vs.toList := frzL_rep (hcold z hh) 8 (fun av av' v _ e r => frz_all (hcold z hh) 8 _ _ _ e r) _ _ _ ha e4
  refine (h2 ⟨z.w, [], fun _ => False, z.nm⟩ vs e1 (fun b k => k.elim) (h0 z) ha').mono ?_
  rintro e w' ⟨v, E', k1, k2, k3, k4⟩
  obtain ⟨E'', q1, q2, q3⟩ := lent_out e2 hh hv hb k2 k3 k4
  exact ⟨v, E'', k1, q1, q2, q3⟩
 ·refine .inr fun z vs e1 e2 hh e4 => ?_
  have ha' : RepL (ctx ⟨z.w, [], fun _ => False, z.nm⟩ z.w [] nopb) args' vs.toList := frzL_rep (hcold z hh) 8 (fun av av' v _ e r => frz_all (hcold z hh) 8 _ _ _ e r) _ _ _ ha e4
  obtain ⟨v, w', E', k1, k2, k3, k4⟩ := h2 ⟨z.w, [], fun _ => False, z.nm⟩ vs e1 (fun b k => k.elim) (h0 z) ha'
  obtain ⟨E'', q1, q2, q3⟩ := lent_out e2 hh hv hb k2 k3 k4
  exact ⟨v, w', E'', k1, q1, q2, q3⟩
theorem fin_out {z : Z} {w' : World} {E' : List Pl} {σ σ1 σ' : Heap} {x r : AV} {v : Value} (hh : HeapRel (ctx z z.w z.E nopb) σ) (hlt : ∀ b, z.X b → b < z.w.heap.size) (ho : Out z w' E') (hr : HeapRel (ctx z w' E' nopb) σ1) (rv : Rep (ctx z w' E' nopb) x v) (k3 : A.fin σ x σ1 = some (r, σ')) :
  ∃ E'', Out z w' E'' ∧ HeapRel (ctx z w' E'' nopb) σ' ∧ Rep (ctx z w' E'' nopb) r v := by
 unfold A.fin at k3
 split at k3
 ·rename_i he
  simp only [Option.some.injEq, Prod.mk.injEq] at k3
  obtain ⟨rfl, rfl⟩ := k3
  exact ⟨E', ho, by rw [← he]; exact hr, rv⟩
 ·split at k3
  ·rename_i he
   obtain ⟨r', k6, k7⟩ := Option.map_eq_some_iff.1 k3
   simp only [Prod.mk.injEq] at k7
   obtain ⟨rfl, rfl⟩ := k7
   have hlen := hr.len
   simp only [ctx] at hlen
   have hzl : z.E.length = σ.length := hh.len
   have hle2 : σ.length ≤ σ1.length := by
    have := congrArg List.length he
    simp at this; omega
   have htk : ∀ (id : Nat) (p : Pl), id < σ.length → E'[id]? = some p → (E'.take σ.length)[id]? = some p := fun id p hlt' hp => by rw [List.getElem?_take_of_lt hlt']; exact hp
   have htk2 : ∀ (id : Nat) (p : Pl), (E'.take σ.length)[id]? = some p → id < σ.length ∧ E'[id]? = some p := fun id p hp => by
    rw [List.getElem?_take] at hp
    split at hp
    ·exact ⟨by assumption, hp⟩
    ·cases hp
   have hcold : Cold (ctx z w' E' nopb) (ctx z w' (E'.take σ.length) nopb) σ1 σ.length := by
    refine ⟨rfl, rfl, fun b k => ?_, htk, hr, fun id p hge hp k => ?_⟩
    ·rcases k with k | ⟨p, hp, k⟩ | ⟨i, k⟩
     ·exact .inl k
     ·exact .inr (.inl ⟨p, List.mem_of_mem_take hp, k⟩)
     ·cases k
    ·rcases k with k | ⟨q, hq, k⟩ | ⟨i, k⟩
     ·have hb := hlt _ k
      rcases ho.fresh' id p hp with e | ⟨q, hq, _⟩
      ·omega
      ·rw [List.getElem?_eq_none (by omega)] at hq; cases hq
     ·obtain ⟨j, hj, rfl⟩ := List.mem_iff_getElem.1 hq
      obtain ⟨h1, h2⟩ := htk2 j _ (List.getElem?_eq_getElem hj)
      have := hr.inj j id _ p h2 hp k
      omega
     ·cases k
   have heq : ∀ (id : Nat), id < σ.length → σ[id]? = σ1[id]? := fun id hlt' => by
    have h1 : (List.take σ.length σ1)[id]? = σ1[id]? := List.getElem?_take_of_lt hlt'
    rw [he] at h1; exact h1
   have held : Eld (ctx z z.w z.E nopb) (ctx z w' E' nopb) (ctx z w' (E'.take σ.length) nopb) :=
    ⟨rfl, rfl, hcold.X, fun id p0 p e0 e1 => htk id p (by have := (List.getElem?_eq_some_iff.1 e0).1; simp only [ctx] at this; omega) e1⟩
   refine ⟨E'.take σ.length, ?_, ?_, frz_all hcold 8 _ _ _ k6 rv⟩
   ·have o := ho
    exact ⟨o.os, o.tape, o.output, o.size, o.stay, fun i p hp => o.fresh' i p (htk2 i p hp).2, fun i p hp => by
     obtain ⟨p', m1, m2⟩ := o.env i p hp
     exact ⟨p', htk i p' (by have := (List.getElem?_eq_some_iff.1 hp).1; omega) m1, m2⟩, o.lt, o.mine⟩
   ·refine ⟨by simp only [ctx, List.length_take]; omega, fun i j p q hp hq e => hr.inj i j p q (htk2 i p hp).2 (htk2 j q hq).2 e, fun i p x hp hx => ?_⟩
    obtain ⟨hi, hp2⟩ := htk2 i p hp
    have hz0 : z.E[i]? = some z.E[i] := List.getElem?_eq_getElem (by omega)
    exact eldB_rep held (hh.blk i _ x hz0 hx) (hr.blk i p x hp2 (by rw [← heq i hi]; exact hx))
  ·cases k3
theorem Sound.finC {m : List AV → Heap → Option (AV × Heap)} (h : Sound P nm f m) (sh : Sh) (hs : sh.ok = true) : Sound P nm f (A.finC sh m) := by
 intro args σ r σ' e
 unfold A.finC at e
 obtain ⟨⟨x, σ1⟩, e1, e2⟩ := Option.bind_eq_some_iff.1 e
 obtain ⟨⟨y, σ2⟩, e3, e4⟩ := Option.map_eq_some_iff.1 e2
 simp only [Prod.mk.injEq] at e4
 obtain ⟨rfl, rfl⟩ := e4
 rcases h _ _ _ _ e1 with ⟨g, h1, h2⟩ | h2
 ·refine .inl ⟨g, h1, fun z vs k1 k2 hh k4 => ?_⟩
  refine (h2 z vs k1 k2 hh k4).mono ?_
  rintro e w' ⟨v, E', q1, q2, q3, q4⟩
  obtain ⟨E'', p1, p2, p3⟩ := fin_out hh k2 q2 q3 q4 e3
  exact ⟨v, E'', q1, p1, p2, nn_rep _ _ _ hs p3⟩
 ·refine .inr fun z vs k1 k2 hh k4 => ?_
  obtain ⟨v, w', E', q1, q2, q3, q4⟩ := h2 z vs k1 k2 hh k4
  obtain ⟨E'', p1, p2, p3⟩ := fin_out hh k2 q2 q3 q4 e3
  exact ⟨v, w', E'', q1, p1, p2, nn_rep _ _ _ hs p3⟩
theorem Sound.wrap {r : List AV → Heap → Option (AV × Heap)} (h : Sound P nm f r) (ro : Bool) (ain : List Sh) (rout : Sh) (hi : Sh.okL ain = true) (ho : rout.ok = true) : Sound P nm f (A.wrap ro ain rout r) := by
 intro args σ v σ' e
 unfold A.wrap at e
 cases hc : (ro && args.any A.own)
 ·rw [hc] at e
  simp only [cond_false] at e
  obtain ⟨q, e1, e2⟩ := Option.map_eq_some_iff.1 e
  injection e2 with e2 e3
  subst e2 e3
  exact (h _ _ _ _ e1).conv (fun c vs k => nnL_rep _ _ _ hi k) (fun c v k => nn_rep _ _ _ ho k)
 ·rw [hc] at e
  simp only [cond_true] at e
  obtain ⟨args', e1, e2⟩ := Option.bind_eq_some_iff.1 e
  obtain ⟨q, e3, e4⟩ := Option.bind_eq_some_iff.1 e2
  obtain ⟨q1, q2⟩ := q
  simp only at e4
  cases hs : (A.freshT (A.nn rout q1) && q2.all A.freshB)
  ·rw [hs] at e4; cases e4
  ·rw [hs] at e4
   simp only [cond_true, Option.some.injEq, Prod.mk.injEq] at e4
   obtain ⟨rfl, rfl⟩ := e4
   simp only [Bool.and_eq_true] at hs
   exact ((h _ _ _ _ e3).conv (args := args') (fun c vs k => nnL_rep _ _ _ hi k) (fun c v k => nn_rep _ _ _ ho k)).lent e1 hs.1 hs.2
end
theorem Snd.of {X : Fx} {t : List (FuncId × (List AV → Heap → Option (AV × Heap)))} (hc : X.call = A.tab (fun _ _ => none) t) (ht : ∀ p ∈ t, Sound X.P X.nm p.1 p.2) (hd : ∀ f, Sound X.P X.nm f (X.dyn (X.nm.getD f 0))) : Snd X := by
 refine ⟨fun f args σ r σ' h => ?_, fun f => hd f⟩
 rw [hc] at h
 clear hc
 induction t with
 | nil => cases h
 | cons p t ih =>
  obtain ⟨m, x⟩ := p
  simp only [A.tab] at h
  cases hm : (f == m)
  ·rw [hm] at h; exact ih (fun p hp => ht p (List.mem_cons_of_mem _ hp)) h
  ·rw [hm] at h
   have : f = m := by simpa using hm
   subst this
   exact ht (f, x) (List.mem_cons_self) _ _ _ _ h
theorem Sound.none {P : Program} {nm : List Nat} {f : FuncId} : Sound P nm f (fun _ _ => Option.none) := fun _ _ _ _ h => by cases h
theorem All.nil {P : Program} {nm : List Nat} : ∀ p ∈ ([] : List (FuncId × (List AV → Heap → Option (AV × Heap)))), Sound P nm p.1 p.2 := fun _ h => by cases h
theorem All.cons {P : Program} {nm : List Nat} {f : FuncId} {m : List AV → Heap → Option (AV × Heap)} {l : List (FuncId × (List AV → Heap → Option (AV × Heap)))} (h : Sound P nm f m) (t : ∀ p ∈ l, Sound P nm p.1 p.2) : ∀ p ∈ (f, m) :: l, Sound P nm p.1 p.2 :=
 fun p hp => by rcases List.mem_cons.1 hp with rfl | hp; exact h; exact t p hp
theorem DAll.nil {P : Program} {nm : List Nat} : ∀ p ∈ ([] : List (Nat × (List AV → Heap → Option (AV × Heap)))), ∀ f, nm.getD f 0 = p.1 → Sound P nm f p.2 := fun _ h => by cases h
theorem DAll.cons {P : Program} {nm : List Nat} {k : Nat} {m : List AV → Heap → Option (AV × Heap)} {l : List (Nat × (List AV → Heap → Option (AV × Heap)))} (h : ∀ f, nm.getD f 0 = k → Sound P nm f m) (t : ∀ p ∈ l, ∀ f, nm.getD f 0 = p.1 → Sound P nm f p.2) : ∀ p ∈ (k, m) :: l, ∀ f, nm.getD f 0 = p.1 → Sound P nm f p.2 :=
 fun p hp => by rcases List.mem_cons.1 hp with rfl | hp; exact h; exact t p hp
theorem dyn_of {P : Program} {nm : List Nat} {t : List (Nat × (List AV → Heap → Option (AV × Heap)))} (ht : ∀ p ∈ t, ∀ f, nm.getD f 0 = p.1 → Sound P nm f p.2) (f : FuncId) : Sound P nm f (A.tab (fun _ _ => Option.none) t (nm.getD f 0)) := by
 induction t with
 | nil => exact Sound.none
 | cons p t ih =>
  obtain ⟨k, x⟩ := p
  simp only [A.tab]
  cases hm : (nm.getD f 0 == k)
  ·exact ih (fun p hp => ht p (List.mem_cons_of_mem _ hp))
  ·exact ht (k, x) List.mem_cons_self f (by simpa using hm)
theorem nm_one {nm : List Nat} {k g : Nat} (h : (nm.zipIdx.filter fun p => p.1 == k) = [(k, g)]) (hk : (0 == k) = false) {f : Nat} (hf : nm.getD f 0 = k) : f = g := by
 have hlt : f < nm.length := by
  rcases Nat.lt_or_ge f nm.length with e | e
  ·exact e
  ·simp only [List.getD, List.getElem?_eq_none e, Option.getD_none] at hf; subst hf; simp at hk
 have : (k, f) ∈ nm.zipIdx.filter fun p => p.1 == k := by
  refine List.mem_filter.2 ⟨List.mem_iff_getElem?.2 ⟨f, ?_⟩, by simp⟩
  simp only [List.getD] at hf
  rw [List.getElem?_eq_getElem hlt] at hf
  simp [List.getElem?_eq_getElem hlt, ← hf]
 rw [h] at this
 simpa using this
theorem nm_sound {P : Program} {nm : List Nat} {k g : Nat} {m : List AV → Heap → Option (AV × Heap)} (hs : Sound P nm g m) (h : (nm.zipIdx.filter fun p => p.1 == k) = [(k, g)]) (hk : (0 == k) = false) : ∀ f, nm.getD f 0 = k → Sound P nm f m :=
 fun f hf => by have e := nm_one h hk hf; subst e; exact hs
def fuel (F : (Nat → List AV → Heap → Option (AV × Heap)) → List (Nat × (List AV → Heap → Option (AV × Heap)))) : Nat → Nat → List AV → Heap → Option (AV × Heap)
 | 0, _ => fun _ _ => none
 | n + 1, k => A.tab (fun _ _ => none) (F (fuel F n)) k
namespace A
set_option linter.unusedSectionVars false
def ar1 (f : AV → Heap → Option (AV × Heap)) : List AV → Heap → Option (AV × Heap)
 | [x0], σ => f x0 σ
 | _, _ => none
def ar2 (f : AV → AV → Heap → Option (AV × Heap)) : List AV → Heap → Option (AV × Heap)
 | [x0, x1], σ => f x0 x1 σ
 | _, _ => none
def ar3 (f : AV → AV → AV → Heap → Option (AV × Heap)) : List AV → Heap → Option (AV × Heap)
 | [x0, x1, x2], σ => f x0 x1 x2 σ
 | _, _ => none
def ar4 (f : AV → AV → AV → AV → Heap → Option (AV × Heap)) : List AV → Heap → Option (AV × Heap)
 | [x0, x1, x2, x3], σ => f x0 x1 x2 x3 σ
 | _, _ => none
end A
section
variable {X : Fx} {f : FuncId} {fn : Func} {ann : Ann}
theorem Sound.run1 {m : AV → Heap → Option (AV × Heap)} (keep : Back) (hkeep : keep.Ok) (hs : Snd X) (hf : X.P.funcs[f]? = some fn) (hc : ∀ aas w, (callFunc f aas).run X.P w = .ok (.enter f aas) w) (he : ∀ (x0 : AV) (σ : Heap), runA X keep ann fn [x0] σ = m x0 σ) : Sound X.P X.nm f (A.ar1 m) := by
 intro args σ r σ' h
 unfold A.ar1 at h
 split at h
 ·exact runA_sound hs hkeep hf hc ((he _ _).trans h)
 ·cases h
theorem Sound.run2 {m : AV → AV → Heap → Option (AV × Heap)} (keep : Back) (hkeep : keep.Ok) (hs : Snd X) (hf : X.P.funcs[f]? = some fn) (hc : ∀ aas w, (callFunc f aas).run X.P w = .ok (.enter f aas) w) (he : ∀ (x0 x1 : AV) (σ : Heap), runA X keep ann fn [x0, x1] σ = m x0 x1 σ) : Sound X.P X.nm f (A.ar2 m) := by
 intro args σ r σ' h
 unfold A.ar2 at h
 split at h
 ·exact runA_sound hs hkeep hf hc ((he _ _ _).trans h)
 ·cases h
theorem Sound.run3 {m : AV → AV → AV → Heap → Option (AV × Heap)} (keep : Back) (hkeep : keep.Ok) (hs : Snd X) (hf : X.P.funcs[f]? = some fn) (hc : ∀ aas w, (callFunc f aas).run X.P w = .ok (.enter f aas) w) (he : ∀ (x0 x1 x2 : AV) (σ : Heap), runA X keep ann fn [x0, x1, x2] σ = m x0 x1 x2 σ) : Sound X.P X.nm f (A.ar3 m) := by
 intro args σ r σ' h
 unfold A.ar3 at h
 split at h
 ·exact runA_sound hs hkeep hf hc ((he _ _ _ _).trans h)
 ·cases h
theorem Sound.run4 {m : AV → AV → AV → AV → Heap → Option (AV × Heap)} (keep : Back) (hkeep : keep.Ok) (hs : Snd X) (hf : X.P.funcs[f]? = some fn) (hc : ∀ aas w, (callFunc f aas).run X.P w = .ok (.enter f aas) w) (he : ∀ (x0 x1 x2 x3 : AV) (σ : Heap), runA X keep ann fn [x0, x1, x2, x3] σ = m x0 x1 x2 x3 σ) : Sound X.P X.nm f (A.ar4 m) := by
 intro args σ r σ' h
 unfold A.ar4 at h
 split at h
 ·exact runA_sound hs hkeep hf hc ((he _ _ _ _ _).trans h)
 ·cases h
end
end Go.Proofs.YtphgchakmkankaaGreat

namespace Go.Proofs.YtphgchakmkankaaGreat
set_option linter.unusedSectionVars false
set_option linter.unusedSimpArgs false
set_option linter.unusedVariables false
noncomputable def nmT : List Nat := [0, 0, 0, 255, 317, 319, 237, 247, 248, 252, 254, 202, 315, 279, 280, 281, 316, 285, 318, 298, 143, 135, 299, 300, 301, 102, 228, 236, 246, 182, 178, 233, 186, 249, 251, 192, 194, 169, 244, 195, 253, 197, 198, 201, 142, 14, 13, 214, 203, 180, 213, 0, 271, 140, 272, 273, 218, 274, 278, 134, 4, 283, 284, 0, 297, 240, 139, 70, 3, 94, 92, 7, 227, 242, 65, 225, 232, 235, 234, 243, 245, 181, 176, 177, 184, 185, 250, 193, 93, 199, 200, 1, 72, 125, 126, 141, 0, 258, 0, 0, 217, 275, 276, 211, 277, 89, 130, 131, 133, 179, 282, 196, 219, 0, 239, 69, 71, 73, 2, 138, 66, 88, 5, 90, 86, 91, 6, 226, 241, 207, 231, 229, 205, 0, 191, 59, 259, 261, 0, 266, 267, 268, 269, 270, 256, 257, 0, 216, 132, 183, 188, 286, 288, 0, 292, 293, 294, 295, 296, 206, 223, 238, 63, 67, 68, 64, 85, 87, 230, 190, 58, 260, 262, 0, 265, 264, 0, 215, 81, 159, 187, 287, 291, 290, 0, 210, 62, 84, 189, 263, 80, 158, 289, 209, 60, 61, 83, 208, 82, 53, 52, 0, 0, 0, 0, 0, 0, 0, 0, 0, 0, 0, 0, 0, 0, 0, 0]
end Go.Proofs.YtphgchakmkankaaGreat

namespace Go.Proofs.YtphgchakmkankaaGreat
set_option linter.unusedSectionVars false
set_option linter.unusedVariables false
set_option linter.unusedSimpArgs false
abbrev inI (n : Int) : Prop := -9223372036854775808 ≤ n ∧ n ≤ 9223372036854775807
abbrev mxl : Nat := 9223372036854775807
def memB {κ : Type} [DecidableEq κ] (k : κ) (S : List κ) : Bool := S.any fun x => decide (x = k)
theorem memB_iff {κ : Type} [DecidableEq κ] {k : κ} {S : List κ} : memB k S = true ↔ k ∈ S := by
 simp only [memB, List.any_eq_true, decide_eq_true_eq]
 exact ⟨fun ⟨x, h, e⟩ => e ▸ h, fun h => ⟨k, h, rfl⟩⟩
theorem memB_false {κ : Type} [DecidableEq κ] {k : κ} {S : List κ} : memB k S = false ↔ k ∉ S := by
 rw [← memB_iff]; simp
def cInt (n : Int) : List AV := [.int .i64 n]
def cStr (s : ByteArray) : List AV := [.str s]
def sl {α : Type} (sz : Nat) (c : α → List AV) (l : List α) : AV := .sl sz (l.map c)
def okL {α : Type} (p : α → Prop) (l : List α) : Prop := l.length ≤ mxl ∧ ∀ x ∈ l, p x
def okS (s : ByteArray) : Prop := s.size ≤ mxl
theorem p1_cInt (n : Int) : A.part1 0 (cInt n) = some (.int .i64 n) := rfl
theorem p1_cStr (s : ByteArray) : A.part1 0 (cStr s) = some (.str s) := rfl

structure PointD where
 time : Int
 way : Int
deriving DecidableEq
def cPoint (x : PointD) : List AV := [.int .i64 x.time, .int .i64 x.way]
theorem cPoint_len (x : PointD) : (cPoint x).length = 2 := rfl
def okPoint (x : PointD) : Prop := inI x.time ∧ inI x.way
theorem p1_cPoint_0 (x : PointD) : A.part1 0 (cPoint x) = some (.int .i64 x.time) := rfl
theorem p1_cPoint_1 (x : PointD) : A.part1 1 (cPoint x) = some (.int .i64 x.way) := rfl
theorem pA_cPoint (x : PointD) : A.partA 0 2 (cPoint x) = some (.agg (cPoint x)) := rfl
theorem ce_cPoint (x : PointD) : A.cells 2 (.agg (cPoint x)) = some (cPoint x) := rfl
theorem sp_cPoint (x : PointD) (l : List AV) (h : l.length = 2) : A.splice 0 (cPoint x) l = some (cPoint x) := by
 simp [A.splice, cPoint_len, h]
structure CurveD where
 kind : Int
 points : (List PointD)
def cCurve (x : CurveD) : List AV := [.int .i64 x.kind, sl 2 cPoint x.points]
theorem cCurve_len (x : CurveD) : (cCurve x).length = 2 := rfl
def okCurve (x : CurveD) : Prop := inI x.kind ∧ (okL okPoint) x.points
theorem p1_cCurve_0 (x : CurveD) : A.part1 0 (cCurve x) = some (.int .i64 x.kind) := rfl
theorem p1_cCurve_1 (x : CurveD) : A.part1 1 (cCurve x) = some (sl 2 cPoint x.points) := rfl
theorem pA_cCurve (x : CurveD) : A.partA 0 2 (cCurve x) = some (.agg (cCurve x)) := rfl
theorem ce_cCurve (x : CurveD) : A.cells 2 (.agg (cCurve x)) = some (cCurve x) := rfl
theorem sp_cCurve (x : CurveD) (l : List AV) (h : l.length = 2) : A.splice 0 (cCurve x) l = some (cCurve x) := by
 simp [A.splice, cCurve_len, h]
structure FadeD where
 frm : Int
 to : Int
 start : Int
 delay : Int
 time : Int
 curve : CurveD
structure ChangeD where
 time : Int
 level : Int
deriving DecidableEq
structure RangeD where
 low : Int
 high : Int
 name : ByteArray
deriving DecidableEq
def cRange (x : RangeD) : List AV := [.int .i64 x.low, .int .i64 x.high, .str x.name]
theorem cRange_len (x : RangeD) : (cRange x).length = 3 := rfl
def okRange (x : RangeD) : Prop := inI x.low ∧ inI x.high ∧ okS x.name
theorem p1_cRange_0 (x : RangeD) : A.part1 0 (cRange x) = some (.int .i64 x.low) := rfl
theorem p1_cRange_1 (x : RangeD) : A.part1 1 (cRange x) = some (.int .i64 x.high) := rfl
theorem p1_cRange_2 (x : RangeD) : A.part1 2 (cRange x) = some (.str x.name) := rfl
theorem pA_cRange (x : RangeD) : A.partA 0 3 (cRange x) = some (.agg (cRange x)) := rfl
theorem ce_cRange (x : RangeD) : A.cells 3 (.agg (cRange x)) = some (cRange x) := rfl
theorem sp_cRange (x : RangeD) (l : List AV) (h : l.length = 3) : A.splice 0 (cRange x) l = some (cRange x) := by
 simp [A.splice, cRange_len, h]
structure ParamD where
 name : ByteArray
 group : Int
 att : Int
 fine : Int
 default : Int
 snap : Bool
 ranges : (List RangeD)
def cParam (x : ParamD) : List AV := [.str x.name, .int .i64 x.group, .int .i64 x.att, .int .i64 x.fine, .int .i64 x.default, .bool x.snap, sl 3 cRange x.ranges]
theorem cParam_len (x : ParamD) : (cParam x).length = 7 := rfl
def okParam (x : ParamD) : Prop := okS x.name ∧ inI x.group ∧ inI x.att ∧ inI x.fine ∧ inI x.default ∧ (okL okRange) x.ranges
theorem p1_cParam_0 (x : ParamD) : A.part1 0 (cParam x) = some (.str x.name) := rfl
theorem p1_cParam_1 (x : ParamD) : A.part1 1 (cParam x) = some (.int .i64 x.group) := rfl
theorem p1_cParam_2 (x : ParamD) : A.part1 2 (cParam x) = some (.int .i64 x.att) := rfl
theorem p1_cParam_3 (x : ParamD) : A.part1 3 (cParam x) = some (.int .i64 x.fine) := rfl
theorem p1_cParam_4 (x : ParamD) : A.part1 4 (cParam x) = some (.int .i64 x.default) := rfl
theorem p1_cParam_5 (x : ParamD) : A.part1 5 (cParam x) = some (.bool x.snap) := rfl
theorem p1_cParam_6 (x : ParamD) : A.part1 6 (cParam x) = some (sl 3 cRange x.ranges) := rfl
theorem pA_cParam (x : ParamD) : A.partA 0 7 (cParam x) = some (.agg (cParam x)) := rfl
theorem ce_cParam (x : ParamD) : A.cells 7 (.agg (cParam x)) = some (cParam x) := rfl
theorem sp_cParam (x : ParamD) (l : List AV) (h : l.length = 7) : A.splice 0 (cParam x) l = some (cParam x) := by
 simp [A.splice, cParam_len, h]
structure ProfileD where
 name : ByteArray
 size : Int
 params : (List ParamD)
def cProfile (x : ProfileD) : List AV := [.str x.name, .int .i64 x.size, sl 7 cParam x.params]
theorem cProfile_len (x : ProfileD) : (cProfile x).length = 3 := rfl
def okProfile (x : ProfileD) : Prop := okS x.name ∧ inI x.size ∧ (okL okParam) x.params
theorem p1_cProfile_0 (x : ProfileD) : A.part1 0 (cProfile x) = some (.str x.name) := rfl
theorem p1_cProfile_1 (x : ProfileD) : A.part1 1 (cProfile x) = some (.int .i64 x.size) := rfl
theorem p1_cProfile_2 (x : ProfileD) : A.part1 2 (cProfile x) = some (sl 7 cParam x.params) := rfl
theorem pA_cProfile (x : ProfileD) : A.partA 0 3 (cProfile x) = some (.agg (cProfile x)) := rfl
theorem ce_cProfile (x : ProfileD) : A.cells 3 (.agg (cProfile x)) = some (cProfile x) := rfl
theorem sp_cProfile (x : ProfileD) (l : List AV) (h : l.length = 3) : A.splice 0 (cProfile x) l = some (cProfile x) := by
 simp [A.splice, cProfile_len, h]
structure UnitD where
 number : Int
 profile : ByteArray
 univ : Int
 address : Int
deriving DecidableEq
def cUnit (x : UnitD) : List AV := [.int .i64 x.number, .str x.profile, .int .i64 x.univ, .int .i64 x.address]
theorem cUnit_len (x : UnitD) : (cUnit x).length = 4 := rfl
def okUnit (x : UnitD) : Prop := inI x.number ∧ okS x.profile ∧ inI x.univ ∧ inI x.address
theorem p1_cUnit_0 (x : UnitD) : A.part1 0 (cUnit x) = some (.int .i64 x.number) := rfl
theorem p1_cUnit_1 (x : UnitD) : A.part1 1 (cUnit x) = some (.str x.profile) := rfl
theorem p1_cUnit_2 (x : UnitD) : A.part1 2 (cUnit x) = some (.int .i64 x.univ) := rfl
theorem p1_cUnit_3 (x : UnitD) : A.part1 3 (cUnit x) = some (.int .i64 x.address) := rfl
theorem pA_cUnit (x : UnitD) : A.partA 0 4 (cUnit x) = some (.agg (cUnit x)) := rfl
theorem ce_cUnit (x : UnitD) : A.cells 4 (.agg (cUnit x)) = some (cUnit x) := rfl
theorem sp_cUnit (x : UnitD) (l : List AV) (h : l.length = 4) : A.splice 0 (cUnit x) l = some (cUnit x) := by
 simp [A.splice, cUnit_len, h]
structure RigD where
 library : (List ProfileD)
 units : (List UnitD)
def cRig (x : RigD) : List AV := [sl 3 cProfile x.library, sl 4 cUnit x.units]
theorem cRig_len (x : RigD) : (cRig x).length = 2 := rfl
def okRig (x : RigD) : Prop := (okL okProfile) x.library ∧ (okL okUnit) x.units
theorem p1_cRig_0 (x : RigD) : A.part1 0 (cRig x) = some (sl 3 cProfile x.library) := rfl
theorem p1_cRig_1 (x : RigD) : A.part1 1 (cRig x) = some (sl 4 cUnit x.units) := rfl
theorem pA_cRig (x : RigD) : A.partA 0 2 (cRig x) = some (.agg (cRig x)) := rfl
theorem ce_cRig (x : RigD) : A.cells 2 (.agg (cRig x)) = some (cRig x) := rfl
theorem sp_cRig (x : RigD) (l : List AV) (h : l.length = 2) : A.splice 0 (cRig x) l = some (cRig x) := by
 simp [A.splice, cRig_len, h]
structure KeyD where
 unit : Int
 param : ByteArray
deriving DecidableEq
def cKey (x : KeyD) : List AV := [.int .i64 x.unit, .str x.param]
theorem cKey_len (x : KeyD) : (cKey x).length = 2 := rfl
def okKey (x : KeyD) : Prop := inI x.unit ∧ okS x.param
theorem p1_cKey_0 (x : KeyD) : A.part1 0 (cKey x) = some (.int .i64 x.unit) := rfl
theorem p1_cKey_1 (x : KeyD) : A.part1 1 (cKey x) = some (.str x.param) := rfl
theorem pA_cKey (x : KeyD) : A.partA 0 2 (cKey x) = some (.agg (cKey x)) := rfl
theorem ce_cKey (x : KeyD) : A.cells 2 (.agg (cKey x)) = some (cKey x) := rfl
theorem sp_cKey (x : KeyD) (l : List AV) (h : l.length = 2) : A.splice 0 (cKey x) l = some (cKey x) := by
 simp [A.splice, cKey_len, h]
structure SettingD where
 key : KeyD
 level : Int
deriving DecidableEq
def cSetting (x : SettingD) : List AV := [.int .i64 x.key.unit, .str x.key.param, .int .i64 x.level]
theorem cSetting_len (x : SettingD) : (cSetting x).length = 3 := rfl
def okSetting (x : SettingD) : Prop := okKey x.key ∧ inI x.level
theorem sp_cSetting (x : SettingD) (l : List AV) (h : l.length = 3) : A.splice 0 (cSetting x) l = some (cSetting x) := by
 simp [A.splice, cSetting_len, h]
structure PresetD where
 number : Int
 title : ByteArray
 settings : (List SettingD)
def cPreset (x : PresetD) : List AV := [.int .i64 x.number, .str x.title, sl 3 cSetting x.settings]
theorem cPreset_len (x : PresetD) : (cPreset x).length = 3 := rfl
def okPreset (x : PresetD) : Prop := inI x.number ∧ okS x.title ∧ (okL okSetting) x.settings
theorem sp_cPreset (x : PresetD) (l : List AV) (h : l.length = 3) : A.splice 0 (cPreset x) l = some (cPreset x) := by
 simp [A.splice, cPreset_len, h]
structure FanD where
 corners : (List Int)
 block : Int
 wings : Int
structure ValueD where
 level : Int
 preset : Int
deriving DecidableEq
def cValue (x : ValueD) : List AV := [.int .i64 x.level, .int .i64 x.preset]
def okValue (x : ValueD) : Prop := inI x.level ∧ inI x.preset
structure MoveD where
 key : KeyD
 value : ValueD
 release : Bool
 timed : Bool
 delay : Int
 time : Int
deriving DecidableEq
def cMove (x : MoveD) : List AV := [.int .i64 x.key.unit, .str x.key.param, .int .i64 x.value.level, .int .i64 x.value.preset, .bool x.release, .bool x.timed, .int .i64 x.delay, .int .i64 x.time]
theorem cMove_len (x : MoveD) : (cMove x).length = 8 := rfl
def okMove (x : MoveD) : Prop := okKey x.key ∧ okValue x.value ∧ inI x.delay ∧ inI x.time
theorem pA_cMove_key (x : MoveD) : A.partA 0 2 (cMove x) = some (.agg (cKey x.key)) := rfl
theorem pA_cMove (x : MoveD) : A.partA 0 8 (cMove x) = some (.agg (cMove x)) := rfl
theorem ce_cMove (x : MoveD) : A.cells 8 (.agg (cMove x)) = some (cMove x) := rfl
theorem sp_cMove (x : MoveD) (l : List AV) (h : l.length = 8) : A.splice 0 (cMove x) l = some (cMove x) := by
 simp [A.splice, cMove_len, h]
structure CueD where
 number : Int
 title : ByteArray
 delay : Int
 up : Int
 down : Int
 other : Int
 curve : CurveD
 block : Bool
 follow : Int
 moves : (List MoveD)
def cCue (x : CueD) : List AV := [.int .i64 x.number, .str x.title, .int .i64 x.delay, .int .i64 x.up, .int .i64 x.down, .int .i64 x.other, .int .i64 x.curve.kind, sl 2 cPoint x.curve.points, .bool x.block, .int .i64 x.follow, sl 8 cMove x.moves]
theorem cCue_len (x : CueD) : (cCue x).length = 11 := rfl
def okCue (x : CueD) : Prop := inI x.number ∧ okS x.title ∧ inI x.delay ∧ inI x.up ∧ inI x.down ∧ inI x.other ∧ okCurve x.curve ∧ inI x.follow ∧ (okL okMove) x.moves
theorem pA_cCue (x : CueD) : A.partA 0 11 (cCue x) = some (.agg (cCue x)) := rfl
theorem ce_cCue (x : CueD) : A.cells 11 (.agg (cCue x)) = some (cCue x) := rfl
theorem sp_cCue (x : CueD) (l : List AV) (h : l.length = 11) : A.splice 0 (cCue x) l = some (cCue x) := by
 simp [A.splice, cCue_len, h]
structure EntryD where
 key : KeyD
 value : ValueD
 cue : Int
deriving DecidableEq
def cEntry (x : EntryD) : List AV := [.int .i64 x.key.unit, .str x.key.param, .int .i64 x.value.level, .int .i64 x.value.preset, .int .i64 x.cue]
theorem cEntry_len (x : EntryD) : (cEntry x).length = 5 := rfl
theorem sp_cEntry (x : EntryD) (l : List AV) (h : l.length = 5) : A.splice 0 (cEntry x) l = some (cEntry x) := by
 simp [A.splice, cEntry_len, h]
structure MarkD where
 unit : Int
 frm : Int
 to : Int
deriving DecidableEq
structure ListD where
 number : Int
 cues : (List CueD)
structure PlaybackD where
 number : Int
 list : Int
 priority : Int
deriving DecidableEq
structure SetupD where
 rig : RigD
 presets : (List PresetD)
 lists : (List ListD)
 playbacks : (List PlaybackD)
structure ActionD where
 time : Int
 kind : Int
 playback : Int
 cue : Int
 level : Int
deriving DecidableEq
structure EventD where
 att : Int
 action : ActionD
deriving DecidableEq
structure StampD where
 hours : Int
 minutes : Int
 seconds : Int
 frames : Int
deriving DecidableEq
structure RunD where
 key : KeyD
 fade : FadeD
 claim : Int
 ending : Bool
structure StandingD where
 playback : Int
 cue : Int
 fader : Int
 paused : Bool
 follow : Int
 runs : (List RunD)
structure EffectStepD where
 level : Int
 hold : Int
 fade : Int
deriving DecidableEq
structure EffectD where
 form : Int
 low : Int
 high : Int
 cycle : Int
 width : Int
 spread : Int
 back : Bool
 relative : Bool
 steps : (List EffectStepD)
structure RateD where
 time : Int
 percent : Int
deriving DecidableEq
structure RunningD where
 effect : EffectD
 keys : (List KeyD)
 start : Int
 rates : (List RateD)
 inn : Int
 fin : Int
 out : Int
end Go.Proofs.YtphgchakmkankaaGreat

namespace Go.Proofs.YtphgchakmkankaaGreat
set_option linter.unusedSectionVars false
set_option linter.unusedSimpArgs false
set_option linter.unusedVariables false
def m_strings_Compare : List AV → Heap → Option (AV × Heap) := A.ar2 fun a b σ => match a, b with
 | .str a, .str b => some (.int .i64 (Lib.compareBytes a.data.toList b.data.toList), σ)
 | _, _ => none
def m_slices_overlaps : List AV → Heap → Option (AV × Heap) := A.ar2 fun a b σ => match a, b with
 | .sl sz es, .os id g sz' off len => match σ[id]? with
  | some (.arr h s es') => if es ≠ [] ∧ g = h ∧ es' ≠ [] ∧ 0 < len then some (.bool false, σ) else none
  | _ => none
 | _, _ => none
def cmpKey (a b : KeyD) : Int := if ¬ (a.unit = b.unit) then (if a.unit < b.unit then -1 else 1) else Lib.compareBytes a.param.data.toList b.param.data.toList
def pdqL {α : Type} [Inhabited α] (cf : α → α → Int) (l : List α) : List α := (Sort.pdq (fun x y => decide (cf x y < 0)) l.toArray 0 l.length (Lib.bitLen l.length) true true).toList
noncomputable def A.sortG {α : Type} [Inhabited α] (sz : Nat) (c : α → List AV) (cf : α → α → Int) (x : AV) (σ : Heap) : Option (AV × Heap) := match x with
 | .nsl => some (.tup [], σ)
 | .os id g sz0 off len => match σ[id]? with
  | some (.arr g' sz' es) => open Classical in if h : (g = g' ∧ sz = sz' ∧ sz0 = sz ∧ off + len ≤ es.length ∧ 0 < len ∧ len < 4611686018427387904) ∧ ∃ l : List α, (es.drop off).take len = l.map c then
    some (.tup [], σ.set id (.arr g sz (es.take off ++ (pdqL cf (Classical.choose h.2)).map c ++ es.drop (off + len)))) else none
  | _ => none
 | _ => none
noncomputable def m_slices_SortFunc_Entry : List AV → Heap → Option (AV × Heap) := A.ar2 fun x f σ => match f with
 | .fn 297 [] => @A.sortG EntryD ⟨⟨⟨0, ⟨#[]⟩⟩, ⟨0, 0⟩, 0⟩⟩ 5 cEntry (fun a b => cmpKey a.key b.key) x σ
 | _ => none
end Go.Proofs.YtphgchakmkankaaGreat

namespace Go.Proofs.YtphgchakmkankaaGreat
set_option linter.unusedSectionVars false
set_option linter.unusedSimpArgs false
set_option linter.unusedVariables false
set_option maxRecDepth 100000
noncomputable def r_slices_IndexFunc_api_Profile (dyn : Nat → List AV → Heap → Option (AV × Heap)) (a0 a1 : AV) (σ : Heap) : Option (AV × Heap) :=
 (A.lenS a0).bind fun x1 =>
 (A.loop (fun v2 s3 =>
   (A.lss (v2.getD 1 AV.undef) x1).bind fun x5 =>
   A.cond x5 (
    (A.iaddr 3 a0 (v2.getD 1 AV.undef)).bind fun x6 =>
    ((A.deref x6 s3).bind fun c7 => A.partA 0 3 c7).bind fun x8 =>
    (A.callv dyn a1 [x8] s3).bind fun r9 =>
    A.cond r9.1 (
     some (AX.ret, [(v2.getD 1 AV.undef), (v2.getD 1 AV.undef)], r9.2)) (
     (A.add (v2.getD 1 AV.undef) (AV.int .i64 1)).bind fun x10 =>
     some (AX.normal, [(v2.getD 0 AV.undef), x10], r9.2))) (
    some (AX.exit 0, [(v2.getD 0 AV.undef), (v2.getD 1 AV.undef)], s3))) [(AV.int .i64 0), (AV.int .i64 0)] σ).bind fun r11 =>
 bif r11.1 == AX.exit 0 then (
  A.fin σ (AV.int .i64 (-1)) r11.2.2) else
 bif r11.1 == AX.ret then (
  A.fin σ (r11.2.1.getD 0 AV.undef) r11.2.2) else
 none
noncomputable def m_slices_IndexFunc_api_Profile (dyn : Nat → List AV → Heap → Option (AV × Heap)) : List AV → Heap → Option (AV × Heap) := A.wrap true [(.s 3)] .k (A.ar2 (r_slices_IndexFunc_api_Profile dyn))
noncomputable def r_slices_Index_int (a0 a1 : AV) (σ : Heap) : Option (AV × Heap) :=
 (A.lenS a0).bind fun x1 =>
 (A.loop (fun v2 s3 =>
   (A.lss (v2.getD 1 AV.undef) x1).bind fun x5 =>
   A.cond x5 (
    (A.iaddr 1 a0 (v2.getD 1 AV.undef)).bind fun x6 =>
    ((A.deref x6 s3).bind fun c7 => A.part1 0 c7).bind fun x8 =>
    (A.eql .i a1 x8).bind fun x9 =>
    A.cond x9 (
     some (AX.ret, [(v2.getD 1 AV.undef), (v2.getD 1 AV.undef)], s3)) (
     (A.add (v2.getD 1 AV.undef) (AV.int .i64 1)).bind fun x10 =>
     some (AX.normal, [(v2.getD 0 AV.undef), x10], s3))) (
    some (AX.exit 0, [(v2.getD 0 AV.undef), (v2.getD 1 AV.undef)], s3))) [(AV.int .i64 0), (AV.int .i64 0)] σ).bind fun r11 =>
 bif r11.1 == AX.exit 0 then (
  A.fin σ (AV.int .i64 (-1)) r11.2.2) else
 bif r11.1 == AX.ret then (
  A.fin σ (r11.2.1.getD 0 AV.undef) r11.2.2) else
 none
noncomputable def m_slices_Index_int : List AV → Heap → Option (AV × Heap) := A.wrap true [(.s 1)] .k (A.ar2 r_slices_Index_int)
noncomputable def r_slices_Contains_int (a0 a1 : AV) (σ : Heap) : Option (AV × Heap) :=
 (m_slices_Index_int [a0, a1] σ).bind fun r1 =>
 (A.geq r1.1 (AV.int .i64 0)).bind fun x2 =>
 A.fin σ x2 r1.2
noncomputable def m_slices_Contains_int : List AV → Heap → Option (AV × Heap) := A.wrap true [(.s 1)] .k (A.ar2 r_slices_Contains_int)
noncomputable def r_slices_Clone_api_Entry (a0 : AV) (σ : Heap) : Option (AV × Heap) :=
 (A.eqN a0 AV.nsl).bind fun x1 =>
 A.cond x1 (
  some (AV.nsl, σ)) (
  (A.append 5 (140737488355328 / 48) AV.ez a0 σ).bind fun r2 =>
  some (r2.1, r2.2))
noncomputable def m_slices_Clone_api_Entry : List AV → Heap → Option (AV × Heap) := A.cloneZ (A.wrap true [(.s 5)] .k (A.ar1 r_slices_Clone_api_Entry))
noncomputable def r_slices_Delete_api_Entry (a0 a1 a2 : AV) (σ : Heap) : Option (AV × Heap) :=
 (A.lenS a0).bind fun x1 =>
 (A.slice3 a0 (some a1) a2 x1).bind fun x2 =>
 (A.eql .i a1 a2).bind fun x3 =>
 A.cond x3 (
  A.renew [a0, a1, a2] σ a0 σ) (
  (A.lenS a0).bind fun x4 =>
  (A.sliceS 5 a0 none (some a1) σ).bind fun x5 =>
  (A.sliceS 5 a0 (some a2) none σ).bind fun x6 =>
  (A.append 5 (140737488355328 / 48) x5 x6 σ).bind fun r7 =>
  (A.lenS r7.1).bind fun x8 =>
  (A.sliceS 5 r7.1 (some x8) (some x4) r7.2).bind fun x9 =>
  (A.clearS 5 [(AV.int .i64 0), (AV.str ⟨#[]⟩), (AV.int .i64 0), (AV.int .i64 0), (AV.int .i64 0)] x9 r7.2).bind fun h10 =>
  A.renew [a0, a1, a2] σ r7.1 h10)
noncomputable def m_slices_Delete_api_Entry : List AV → Heap → Option (AV × Heap) := A.wrap false [] .k (A.ar3 r_slices_Delete_api_Entry)
noncomputable def r_slices_Reverse_api_Entry (a0 : AV) (σ : Heap) : Option (AV × Heap) :=
 (A.lenS a0).bind fun x1 =>
 (A.sub x1 (AV.int .i64 1)).bind fun x2 =>
 (A.loop (fun v3 s4 =>
   (A.lss (v3.getD 0 AV.undef) (v3.getD 1 AV.undef)).bind fun x6 =>
   A.cond x6 (
    (A.iaddr 5 a0 (v3.getD 1 AV.undef)).bind fun x7 =>
    ((A.deref x7 s4).bind fun c8 => A.partA 0 5 c8).bind fun x9 =>
    (A.iaddr 5 a0 (v3.getD 0 AV.undef)).bind fun x10 =>
    ((A.deref x10 s4).bind fun c11 => A.partA 0 5 c11).bind fun x12 =>
    (A.iaddr 5 a0 (v3.getD 0 AV.undef)).bind fun x13 =>
    (A.cells 5 x9).bind fun c14 =>
    (A.storeAt x13 c14 s4).bind fun c15 =>
    (A.iaddr 5 a0 (v3.getD 1 AV.undef)).bind fun x16 =>
    (A.cells 5 x12).bind fun c17 =>
    (A.storeAt x16 c17 c15).bind fun c18 =>
    (A.add (v3.getD 0 AV.undef) (AV.int .i64 1)).bind fun x19 =>
    (A.sub (v3.getD 1 AV.undef) (AV.int .i64 1)).bind fun x20 =>
    some (AX.normal, [x19, x20], c18)) (
    some (AX.exit 0, [(v3.getD 0 AV.undef), (v3.getD 1 AV.undef)], s4))) [(AV.int .i64 0), x2] σ).bind fun r21 =>
 bif r21.1 == AX.exit 0 then (
  some ((AV.tup []), r21.2.2)) else
 none
noncomputable def m_slices_Reverse_api_Entry : List AV → Heap → Option (AV × Heap) := A.wrap false [] .k (A.ar1 r_slices_Reverse_api_Entry)
noncomputable def r_slices_rotateLeft_api_Entry (a0 a1 : AV) (σ : Heap) : Option (AV × Heap) :=
 (A.sliceS 5 a0 none (some a1) σ).bind fun x1 =>
 (m_slices_Reverse_api_Entry [x1] σ).bind fun r2 =>
 (A.sliceS 5 a0 (some a1) none r2.2).bind fun x3 =>
 (m_slices_Reverse_api_Entry [x3] r2.2).bind fun r4 =>
 (m_slices_Reverse_api_Entry [a0] r4.2).bind fun r5 =>
 some ((AV.tup []), r5.2)
noncomputable def m_slices_rotateLeft_api_Entry : List AV → Heap → Option (AV × Heap) := A.wrap false [] .k (A.ar2 r_slices_rotateLeft_api_Entry)
noncomputable def r_slices_rotateRight_api_Entry (a0 a1 : AV) (σ : Heap) : Option (AV × Heap) :=
 (A.lenS a0).bind fun x1 =>
 (A.sub x1 a1).bind fun x2 =>
 (m_slices_rotateLeft_api_Entry [a0, x2] σ).bind fun r3 =>
 some ((AV.tup []), r3.2)
noncomputable def m_slices_rotateRight_api_Entry : List AV → Heap → Option (AV × Heap) := A.wrap false [] .k (A.ar2 r_slices_rotateRight_api_Entry)
noncomputable def r_slices_Insert_api_Entry (a0 a1 a2 : AV) (σ : Heap) : Option (AV × Heap) :=
 (A.sliceS 5 a0 (some a1) none σ).bind fun x1 =>
 (A.lenS a2).bind fun x2 =>
 (A.eql .i x2 (AV.int .i64 0)).bind fun x3 =>
 A.cond x3 (
  A.renew [a0, a1, a2] σ a0 σ) (
  (A.lenS a0).bind fun x4 =>
  (A.eql .i a1 x4).bind fun x5 =>
  A.cond x5 (
   (A.append 5 (140737488355328 / 48) a0 a2 σ).bind fun r6 =>
   A.renew [a0, a1, a2] σ r6.1 r6.2) (
   (A.add x4 x2).bind fun x7 =>
   A.capM (A.capN a0) (fun x8 =>
    (A.gtr x7 x8).bind fun x9 =>
    A.cond x9 (
     (A.sliceS 5 a0 none (some a1) σ).bind fun x10 =>
     (A.add x4 x2).bind fun x11 =>
     (A.sub x11 a1).bind fun x12 =>
     (A.appendZ 5 (140737488355328 / 48) [(AV.int .i64 0), (AV.str ⟨#[]⟩), (AV.int .i64 0), (AV.int .i64 0), (AV.int .i64 0)] x10 x12 σ).bind fun r13 =>
     (A.sliceS 5 r13.1 (some a1) none r13.2).bind fun x14 =>
     (A.copyS 5 x14 a2 r13.2).bind fun r15 =>
     (A.add a1 x2).bind fun x16 =>
     (A.sliceS 5 r13.1 (some x16) none r15.2).bind fun x17 =>
     (A.sliceS 5 a0 (some a1) none r15.2).bind fun x18 =>
     (A.copyS 5 x17 x18 r15.2).bind fun r19 =>
     A.renew [a0, a1, a2] σ r13.1 r19.2) (
     (A.add x4 x2).bind fun x20 =>
     (A.sliceS 5 a0 none (some x20) σ).bind fun x21 =>
     (A.add a1 x2).bind fun x22 =>
     (A.sliceS 5 x21 (some x22) none σ).bind fun x23 =>
     (m_slices_overlaps [a2, x23] σ).bind fun r24 =>
     (A.not r24.1).bind fun x25 =>
     A.cond x25 (
      (A.add a1 x2).bind fun x26 =>
      (A.sliceS 5 x21 (some x26) none r24.2).bind fun x27 =>
      (A.sliceS 5 x21 (some a1) none r24.2).bind fun x28 =>
      (A.copyS 5 x27 x28 r24.2).bind fun r29 =>
      (A.sliceS 5 x21 (some a1) none r29.2).bind fun x30 =>
      (A.copyS 5 x30 a2 r29.2).bind fun r31 =>
      A.renew [a0, a1, a2] σ x21 r31.2) (
      (A.sliceS 5 x21 (some x4) none r24.2).bind fun x32 =>
      (A.copyS 5 x32 a2 r24.2).bind fun r33 =>
      (A.sliceS 5 x21 (some a1) none r33.2).bind fun x34 =>
      (m_slices_rotateRight_api_Entry [x34, x2] r33.2).bind fun r35 =>
      A.renew [a0, a1, a2] σ x21 r35.2))) (A.capU a0 σ fun n36 s37 =>
    (A.gtr x7 (AV.int .i64 n36)).bind fun x38 =>
    A.cond x38 (
     (A.sliceS 5 a0 none (some a1) s37).bind fun x39 =>
     (A.add x4 x2).bind fun x40 =>
     (A.sub x40 a1).bind fun x41 =>
     (A.appendZ 5 (140737488355328 / 48) [(AV.int .i64 0), (AV.str ⟨#[]⟩), (AV.int .i64 0), (AV.int .i64 0), (AV.int .i64 0)] x39 x41 s37).bind fun r42 =>
     (A.sliceS 5 r42.1 (some a1) none r42.2).bind fun x43 =>
     (A.copyS 5 x43 a2 r42.2).bind fun r44 =>
     (A.add a1 x2).bind fun x45 =>
     (A.sliceS 5 r42.1 (some x45) none r44.2).bind fun x46 =>
     (A.sliceS 5 a0 (some a1) none r44.2).bind fun x47 =>
     (A.copyS 5 x46 x47 r44.2).bind fun r48 =>
     A.renew [a0, a1, a2] σ r42.1 r48.2) (
     (A.add x4 x2).bind fun x49 =>
     (A.sliceS 5 a0 none (some x49) s37).bind fun x50 =>
     (A.add a1 x2).bind fun x51 =>
     (A.sliceS 5 x50 (some x51) none s37).bind fun x52 =>
     (m_slices_overlaps [a2, x52] s37).bind fun r53 =>
     (A.not r53.1).bind fun x54 =>
     A.cond x54 (
      (A.add a1 x2).bind fun x55 =>
      (A.sliceS 5 x50 (some x55) none r53.2).bind fun x56 =>
      (A.sliceS 5 x50 (some a1) none r53.2).bind fun x57 =>
      (A.copyS 5 x56 x57 r53.2).bind fun r58 =>
      (A.sliceS 5 x50 (some a1) none r58.2).bind fun x59 =>
      (A.copyS 5 x59 a2 r58.2).bind fun r60 =>
      A.renew [a0, a1, a2] σ x50 r60.2) (
      (A.sliceS 5 x50 (some x4) none r53.2).bind fun x61 =>
      (A.copyS 5 x61 a2 r53.2).bind fun r62 =>
      (A.sliceS 5 x50 (some a1) none r62.2).bind fun x63 =>
      (m_slices_rotateRight_api_Entry [x63, x2] r62.2).bind fun r64 =>
      A.renew [a0, a1, a2] σ x50 r64.2)))))
noncomputable def m_slices_Insert_api_Entry : List AV → Heap → Option (AV × Heap) := A.wrap false [] .k (A.ar3 r_slices_Insert_api_Entry)
noncomputable def r_slices_BinarySearchFunc_api_Cue_int (dyn : Nat → List AV → Heap → Option (AV × Heap)) (a0 a1 a2 : AV) (σ : Heap) : Option (AV × Heap) :=
 (A.lenS a0).bind fun x1 =>
 (A.loop (fun v2 s3 =>
   (A.lss (v2.getD 0 AV.undef) (v2.getD 1 AV.undef)).bind fun x5 =>
   A.cond x5 (
    (A.add (v2.getD 0 AV.undef) (v2.getD 1 AV.undef)).bind fun x6 =>
    (A.conv .u64 x6).bind fun x7 =>
    (A.shr x7 (AV.int .u64 1)).bind fun x8 =>
    (A.conv .i64 x8).bind fun x9 =>
    (A.iaddr 11 a0 x9).bind fun x10 =>
    ((A.deref x10 s3).bind fun c11 => A.partA 0 11 c11).bind fun x12 =>
    (A.callv dyn a2 [x12, a1] s3).bind fun r13 =>
    (A.lss r13.1 (AV.int .i64 0)).bind fun x14 =>
    (A.cond x14 (
     (A.add x9 (AV.int .i64 1)).bind fun x16 =>
     some ([x16, (v2.getD 1 AV.undef)], r13.2)) (
     some ([(v2.getD 0 AV.undef), x9], r13.2))).bind fun r15 =>
    some (AX.normal, [(r15.1.getD 0 AV.undef), (r15.1.getD 1 AV.undef)], r15.2)) (
    some (AX.exit 0, [(v2.getD 0 AV.undef), (v2.getD 1 AV.undef)], s3))) [(AV.int .i64 0), x1] σ).bind fun r17 =>
 bif r17.1 == AX.exit 0 then (
  (A.lss (r17.2.1.getD 0 AV.undef) x1).bind fun x18 =>
  (A.guard x18 true (some a2) (some (AV.tup []))).bind fun x19 =>
  (A.guard x18 true (some a0) (some (AV.tup []))).bind fun x20 =>
  (A.guard x18 true (some (r17.2.1.getD 0 AV.undef)) (some (AV.tup []))).bind fun x21 =>
  (A.guard x18 true (A.iaddr 11 x20 x21) (some (AV.tup []))).bind fun x22 =>
  (A.guard x18 true ((A.deref x22 r17.2.2).bind fun c23 => A.partA 0 11 c23) (some (AV.tup []))).bind fun x24 =>
  (A.guard x18 true (some a1) (some (AV.tup []))).bind fun x25 =>
  (A.guard x18 true (A.quiet (A.callv dyn x19 [x24, x25] r17.2.2) r17.2.2) (some (AV.tup []))).bind fun x26 =>
  (A.guard x18 true (A.eql .i x26 (AV.int .i64 0)) (some (AV.tup []))).bind fun x27 =>
  (A.pick x18 x27 (AV.bool false)).bind fun x28 =>
  A.fin σ (AV.tup [(r17.2.1.getD 0 AV.undef), x28]) r17.2.2) else
 none
noncomputable def m_slices_BinarySearchFunc_api_Cue_int (dyn : Nat → List AV → Heap → Option (AV × Heap)) : List AV → Heap → Option (AV × Heap) := A.wrap true [(.s 11)] .k (A.ar3 (r_slices_BinarySearchFunc_api_Cue_int dyn))
noncomputable def r_slices_Equal_api_Entry (a0 a1 : AV) (σ : Heap) : Option (AV × Heap) :=
 (A.lenS a0).bind fun x1 =>
 (A.lenS a1).bind fun x2 =>
 (A.neq .i x1 x2).bind fun x3 =>
 A.cond x3 (
  A.fin σ (AV.bool false) σ) (
  (A.lenS a0).bind fun x4 =>
  (A.loop (fun v5 s6 =>
    (A.lss (v5.getD 1 AV.undef) x4).bind fun x8 =>
    A.cond x8 (
     (A.iaddr 5 a0 (v5.getD 1 AV.undef)).bind fun x9 =>
     ((A.deref x9 s6).bind fun c10 => A.partA 0 5 c10).bind fun x11 =>
     (A.iaddr 5 a1 (v5.getD 1 AV.undef)).bind fun x12 =>
     ((A.deref x12 s6).bind fun c13 => A.partA 0 5 c13).bind fun x14 =>
     (A.neq (.s [0, 2, 0, 0, 0]) x11 x14).bind fun x15 =>
     A.cond x15 (
      some (AX.ret, [(AV.bool false), (v5.getD 1 AV.undef)], s6)) (
      (A.add (v5.getD 1 AV.undef) (AV.int .i64 1)).bind fun x16 =>
      some (AX.normal, [(v5.getD 0 AV.undef), x16], s6))) (
     some (AX.exit 0, [(v5.getD 0 AV.undef), (v5.getD 1 AV.undef)], s6))) [(AV.bool false), (AV.int .i64 0)] σ).bind fun r17 =>
  bif r17.1 == AX.exit 0 then (
   A.fin σ (AV.bool true) r17.2.2) else
  bif r17.1 == AX.ret then (
   A.fin σ (r17.2.1.getD 0 AV.undef) r17.2.2) else
  none)
noncomputable def m_slices_Equal_api_Entry : List AV → Heap → Option (AV × Heap) := A.wrap true [(.s 5), (.s 5)] .k (A.ar2 r_slices_Equal_api_Entry)
noncomputable def r_slices_Equal_api_Setting (a0 a1 : AV) (σ : Heap) : Option (AV × Heap) :=
 (A.lenS a0).bind fun x1 =>
 (A.lenS a1).bind fun x2 =>
 (A.neq .i x1 x2).bind fun x3 =>
 A.cond x3 (
  A.fin σ (AV.bool false) σ) (
  (A.lenS a0).bind fun x4 =>
  (A.loop (fun v5 s6 =>
    (A.lss (v5.getD 1 AV.undef) x4).bind fun x8 =>
    A.cond x8 (
     (A.iaddr 3 a0 (v5.getD 1 AV.undef)).bind fun x9 =>
     ((A.deref x9 s6).bind fun c10 => A.partA 0 3 c10).bind fun x11 =>
     (A.iaddr 3 a1 (v5.getD 1 AV.undef)).bind fun x12 =>
     ((A.deref x12 s6).bind fun c13 => A.partA 0 3 c13).bind fun x14 =>
     (A.neq (.s [0, 2, 0]) x11 x14).bind fun x15 =>
     A.cond x15 (
      some (AX.ret, [(AV.bool false), (v5.getD 1 AV.undef)], s6)) (
      (A.add (v5.getD 1 AV.undef) (AV.int .i64 1)).bind fun x16 =>
      some (AX.normal, [(v5.getD 0 AV.undef), x16], s6))) (
     some (AX.exit 0, [(v5.getD 0 AV.undef), (v5.getD 1 AV.undef)], s6))) [(AV.bool false), (AV.int .i64 0)] σ).bind fun r17 =>
  bif r17.1 == AX.exit 0 then (
   A.fin σ (AV.bool true) r17.2.2) else
  bif r17.1 == AX.ret then (
   A.fin σ (r17.2.1.getD 0 AV.undef) r17.2.2) else
  none)
noncomputable def m_slices_Equal_api_Setting : List AV → Heap → Option (AV × Heap) := A.wrap true [(.s 3), (.s 3)] .k (A.ar2 r_slices_Equal_api_Setting)
end Go.Proofs.YtphgchakmkankaaGreat

namespace Go.Proofs.YtphgchakmkankaaGreat
set_option linter.unusedSectionVars false
set_option linter.unusedSimpArgs false
set_option linter.unusedVariables false
set_option maxRecDepth 100000
noncomputable def r_word_Row (a0 : AV) (σ : Heap) : Option (AV × Heap) :=
 (A.lenZ a0).bind fun x1 =>
 (A.loop (fun v2 s3 =>
   (A.lss (v2.getD 1 AV.undef) x1).bind fun x5 =>
   A.cond x5 (
    (A.sidx a0 (v2.getD 1 AV.undef)).bind fun x6 =>
    (A.geq x6 (AV.int .u8 97)).bind fun x7 =>
    (A.guard x7 true (some x6) (some (AV.tup []))).bind fun x8 =>
    (A.guard x7 true (A.leq x8 (AV.int .u8 122)) (some (AV.tup []))).bind fun x9 =>
    (A.pick x7 x9 (AV.bool false)).bind fun x10 =>
    (A.guard x10 false (some x6) (some (AV.tup []))).bind fun x11 =>
    (A.guard x10 false (A.geq x11 (AV.int .u8 48)) (some (AV.tup []))).bind fun x12 =>
    (A.guard x10 false (some x12) (some (AV.tup []))).bind fun x13 =>
    (A.guard x13 true (some x6) (some (AV.tup []))).bind fun x14 =>
    (A.guard x13 true (A.leq x14 (AV.int .u8 57)) (some (AV.tup []))).bind fun x15 =>
    (A.guard x10 false (A.pick x13 x15 (AV.bool false)) (some (AV.tup []))).bind fun x16 =>
    (A.pick x10 (AV.bool true) x16).bind fun x17 =>
    (A.guard x17 false (some x6) (some (AV.tup []))).bind fun x18 =>
    (A.guard x17 false (A.eql .i x18 (AV.int .u8 45)) (some (AV.tup []))).bind fun x19 =>
    (A.pick x17 (AV.bool true) x19).bind fun x20 =>
    (A.not x20).bind fun x21 =>
    A.cond x21 (
     some (AX.ret, [(AV.bool false), (v2.getD 1 AV.undef)], s3)) (
     (A.add (v2.getD 1 AV.undef) (AV.int .i64 1)).bind fun x22 =>
     some (AX.normal, [(v2.getD 0 AV.undef), x22], s3))) (
    some (AX.exit 0, [(v2.getD 0 AV.undef), (v2.getD 1 AV.undef)], s3))) [(AV.bool false), (AV.int .i64 0)] σ).bind fun r23 =>
 bif r23.1 == AX.exit 0 then (
  (A.neq .z a0 (AV.str ⟨#[]⟩)).bind fun x24 =>
  A.fin σ x24 r23.2.2) else
 bif r23.1 == AX.ret then (
  A.fin σ (r23.2.1.getD 0 AV.undef) r23.2.2) else
 none
noncomputable def m_word_Row : List AV → Heap → Option (AV × Heap) := A.wrap true [] .k (A.ar1 r_word_Row)
noncomputable def r_word_Name (a0 : AV) (σ : Heap) : Option (AV × Heap) :=
 (m_word_Row [a0] σ).bind fun r1 =>
 (A.guard r1.1 true (some a0) (some (AV.tup []))).bind fun x2 =>
 (A.guard r1.1 true (A.lenZ x2) (some (AV.tup []))).bind fun x3 =>
 (A.guard r1.1 true (A.leq x3 (AV.int .i64 20)) (some (AV.tup []))).bind fun x4 =>
 (A.pick r1.1 x4 (AV.bool false)).bind fun x5 =>
 (A.guard x5 true (some a0) (some (AV.tup []))).bind fun x6 =>
 (A.guard x5 true (A.sidx x6 (AV.int .i64 0)) (some (AV.tup []))).bind fun x7 =>
 (A.guard x5 true (A.geq x7 (AV.int .u8 97)) (some (AV.tup []))).bind fun x8 =>
 (A.pick x5 x8 (AV.bool false)).bind fun x9 =>
 (A.guard x9 true (some a0) (some (AV.tup []))).bind fun x10 =>
 (A.guard x9 true (A.sidx x10 (AV.int .i64 0)) (some (AV.tup []))).bind fun x11 =>
 (A.guard x9 true (A.leq x11 (AV.int .u8 122)) (some (AV.tup []))).bind fun x12 =>
 (A.pick x9 x12 (AV.bool false)).bind fun x13 =>
 A.fin σ x13 r1.2
noncomputable def m_word_Name : List AV → Heap → Option (AV × Heap) := A.wrap true [] .k (A.ar1 r_word_Name)
noncomputable def r_word_Within (a0 a1 a2 : AV) (σ : Heap) : Option (AV × Heap) :=
 (A.geq a0 a1).bind fun x1 =>
 (A.guard x1 true (some a0) (some (AV.tup []))).bind fun x2 =>
 (A.guard x1 true (some a2) (some (AV.tup []))).bind fun x3 =>
 (A.guard x1 true (A.leq x2 x3) (some (AV.tup []))).bind fun x4 =>
 (A.pick x1 x4 (AV.bool false)).bind fun x5 =>
 A.fin σ x5 σ
noncomputable def m_word_Within : List AV → Heap → Option (AV × Heap) := A.wrap true [] .k (A.ar3 r_word_Within)
noncomputable def r_word_When (a0 a1 : AV) (σ : Heap) : Option (AV × Heap) :=
 A.cond a0 (
  A.fin σ a1 σ) (
  A.fin σ (AV.int .i64 0) σ)
noncomputable def m_word_When : List AV → Heap → Option (AV × Heap) := A.wrap true [] .k (A.ar2 r_word_When)
noncomputable def r_word_First (a0 : AV) (σ : Heap) : Option (AV × Heap) :=
 (A.lenS a0).bind fun x1 =>
 (A.loop (fun v2 s3 =>
   (A.lss (v2.getD 1 AV.undef) x1).bind fun x5 =>
   A.cond x5 (
    (A.iaddr 1 a0 (v2.getD 1 AV.undef)).bind fun x6 =>
    ((A.deref x6 s3).bind fun c7 => A.part1 0 c7).bind fun x8 =>
    (A.neq .i x8 (AV.int .i64 0)).bind fun x9 =>
    A.cond x9 (
     some (AX.ret, [x8, (v2.getD 1 AV.undef)], s3)) (
     (A.add (v2.getD 1 AV.undef) (AV.int .i64 1)).bind fun x10 =>
     some (AX.normal, [(v2.getD 0 AV.undef), x10], s3))) (
    some (AX.exit 0, [(v2.getD 0 AV.undef), (v2.getD 1 AV.undef)], s3))) [(AV.int .i64 0), (AV.int .i64 0)] σ).bind fun r11 =>
 bif r11.1 == AX.exit 0 then (
  A.fin σ (AV.int .i64 0) r11.2.2) else
 bif r11.1 == AX.ret then (
  A.fin σ (r11.2.1.getD 0 AV.undef) r11.2.2) else
 none
noncomputable def m_word_First : List AV → Heap → Option (AV × Heap) := A.wrap true [(.s 1)] .k (A.ar1 r_word_First)
noncomputable def r_word_Title (a0 : AV) (σ : Heap) : Option (AV × Heap) :=
 (A.lenZ a0).bind fun x1 =>
 (A.loop (fun v2 s3 =>
   (A.lss (v2.getD 1 AV.undef) x1).bind fun x5 =>
   A.cond x5 (
    (A.sidx a0 (v2.getD 1 AV.undef)).bind fun x6 =>
    (A.lss x6 (AV.int .u8 32)).bind fun x7 =>
    (A.guard x7 false (some a0) (some (AV.tup []))).bind fun x8 =>
    (A.guard x7 false (some (v2.getD 1 AV.undef)) (some (AV.tup []))).bind fun x9 =>
    (A.guard x7 false (A.sidx x8 x9) (some (AV.tup []))).bind fun x10 =>
    (A.guard x7 false (A.gtr x10 (AV.int .u8 126)) (some (AV.tup []))).bind fun x11 =>
    (A.pick x7 (AV.bool true) x11).bind fun x12 =>
    A.cond x12 (
     some (AX.ret, [(AV.bool false), (v2.getD 1 AV.undef)], s3)) (
     (A.add (v2.getD 1 AV.undef) (AV.int .i64 1)).bind fun x13 =>
     some (AX.normal, [(v2.getD 0 AV.undef), x13], s3))) (
    some (AX.exit 0, [(v2.getD 0 AV.undef), (v2.getD 1 AV.undef)], s3))) [(AV.bool false), (AV.int .i64 0)] σ).bind fun r14 =>
 bif r14.1 == AX.exit 0 then (
  (A.neq .z a0 (AV.str ⟨#[]⟩)).bind fun x15 =>
  (A.guard x15 true (some a0) (some (AV.tup []))).bind fun x16 =>
  (A.guard x15 true (A.lenZ x16) (some (AV.tup []))).bind fun x17 =>
  (A.guard x15 true (A.leq x17 (AV.int .i64 60)) (some (AV.tup []))).bind fun x18 =>
  (A.pick x15 x18 (AV.bool false)).bind fun x19 =>
  (A.guard x19 true (some a0) (some (AV.tup []))).bind fun x20 =>
  (A.guard x19 true (A.sidx x20 (AV.int .i64 0)) (some (AV.tup []))).bind fun x21 =>
  (A.guard x19 true (A.neq .i x21 (AV.int .u8 32)) (some (AV.tup []))).bind fun x22 =>
  (A.pick x19 x22 (AV.bool false)).bind fun x23 =>
  (A.guard x23 true (some a0) (some (AV.tup []))).bind fun x24 =>
  (A.guard x23 true (some a0) (some (AV.tup []))).bind fun x25 =>
  (A.guard x23 true (A.lenZ x25) (some (AV.tup []))).bind fun x26 =>
  (A.guard x23 true (A.sub x26 (AV.int .i64 1)) (some (AV.tup []))).bind fun x27 =>
  (A.guard x23 true (A.sidx x24 x27) (some (AV.tup []))).bind fun x28 =>
  (A.guard x23 true (A.neq .i x28 (AV.int .u8 32)) (some (AV.tup []))).bind fun x29 =>
  (A.pick x23 x29 (AV.bool false)).bind fun x30 =>
  A.fin σ x30 r14.2.2) else
 bif r14.1 == AX.ret then (
  A.fin σ (r14.2.1.getD 0 AV.undef) r14.2.2) else
 none
noncomputable def m_word_Title : List AV → Heap → Option (AV × Heap) := A.wrap true [] .k (A.ar1 r_word_Title)
end Go.Proofs.YtphgchakmkankaaGreat

namespace Go.Proofs.YtphgchakmkankaaGreat
set_option linter.unusedSectionVars false
set_option linter.unusedSimpArgs false
set_option linter.unusedVariables false
set_option maxRecDepth 100000
noncomputable def r_fixture_isLevel (a0 : AV) (σ : Heap) : Option (AV × Heap) :=
 (m_word_Within [a0, (AV.int .i64 0), (AV.int .i64 65535)] σ).bind fun r1 =>
 A.fin σ r1.1 r1.2
noncomputable def m_fixture_isLevel : List AV → Heap → Option (AV × Heap) := A.wrap true [] .k (A.ar1 r_fixture_isLevel)
noncomputable def r_fixture_checkRanges (a0 : AV) (σ : Heap) : Option (AV × Heap) :=
 (A.lenS a0).bind fun x1 =>
 (A.gtr x1 (AV.int .i64 30)).bind fun x2 =>
 A.cond x2 (
  A.fin σ (AV.int .i64 2) σ) (
  (A.lenS a0).bind fun x3 =>
  (A.loop (fun v4 s5 =>
    (A.lss (v4.getD 1 AV.undef) x3).bind fun x7 =>
    A.cond x7 (
     (A.iaddr 3 a0 (v4.getD 1 AV.undef)).bind fun x8 =>
     ((A.deref x8 s5).bind fun c9 => A.partA 0 3 c9).bind fun x10 =>
     (A.cells 3 x10).bind fun c11 =>
     (A.splice 0 c11 [(AV.int .i64 0), (AV.int .i64 0), (AV.str ⟨#[]⟩)]).bind fun c12 =>
     (A.part1 0 c12).bind fun x13 =>
     (m_fixture_isLevel [x13] s5).bind fun r14 =>
     (A.not r14.1).bind fun x15 =>
     (A.guard x15 false (A.part1 1 c12) (some (AV.tup []))).bind fun x16 =>
     (A.guard x15 false (A.quiet (m_fixture_isLevel [x16] r14.2) r14.2) (some (AV.tup []))).bind fun x17 =>
     (A.guard x15 false (A.not x17) (some (AV.tup []))).bind fun x18 =>
     (A.pick x15 (AV.bool true) x18).bind fun x19 =>
     (A.guard x19 false (A.part1 0 c12) (some (AV.tup []))).bind fun x20 =>
     (A.guard x19 false (A.part1 1 c12) (some (AV.tup []))).bind fun x21 =>
     (A.guard x19 false (A.gtr x20 x21) (some (AV.tup []))).bind fun x22 =>
     (A.pick x19 (AV.bool true) x22).bind fun x23 =>
     A.cond x23 (
      some (AX.ret, [(AV.int .i64 1), (v4.getD 1 AV.undef)], r14.2)) (
      (A.gtr (v4.getD 1 AV.undef) (AV.int .i64 0)).bind fun x24 =>
      (A.guard x24 true (A.part1 0 c12) (some (AV.tup []))).bind fun x25 =>
      (A.guard x24 true (some a0) (some (AV.tup []))).bind fun x26 =>
      (A.guard x24 true (some (v4.getD 1 AV.undef)) (some (AV.tup []))).bind fun x27 =>
      (A.guard x24 true (A.sub x27 (AV.int .i64 1)) (some (AV.tup []))).bind fun x28 =>
      (A.guard x24 true (A.iaddr 3 x26 x28) (some (AV.tup []))).bind fun x29 =>
      (A.guard x24 true (A.faddr 1 x29) (some (AV.tup []))).bind fun x30 =>
      (A.guard x24 true ((A.deref x30 r14.2).bind fun c31 => A.part1 0 c31) (some (AV.tup []))).bind fun x32 =>
      (A.guard x24 true (A.leq x25 x32) (some (AV.tup []))).bind fun x33 =>
      (A.pick x24 x33 (AV.bool false)).bind fun x34 =>
      A.cond x34 (
       some (AX.ret, [(AV.int .i64 7), (v4.getD 1 AV.undef)], r14.2)) (
       (A.part1 2 c12).bind fun x35 =>
       (m_word_Name [x35] r14.2).bind fun r36 =>
       (A.not r36.1).bind fun x37 =>
       A.cond x37 (
        some (AX.ret, [(AV.int .i64 5), (v4.getD 1 AV.undef)], r36.2)) (
        (A.part1 2 c12).bind fun x38 =>
        (A.look .z (AV.om σ.length) x38 (AV.bool false) r36.2).bind fun x39 =>
        A.cond x39 (
         some (AX.ret, [(AV.int .i64 6), (v4.getD 1 AV.undef)], r36.2)) (
         (A.part1 2 c12).bind fun x40 =>
         (A.mupd .z (AV.om σ.length) x40 (AV.bool true) r36.2).bind fun h41 =>
         (A.add (v4.getD 1 AV.undef) (AV.int .i64 1)).bind fun x42 =>
         some (AX.normal, [(v4.getD 0 AV.undef), x42], h41)))))) (
     some (AX.exit 0, [(v4.getD 0 AV.undef), (v4.getD 1 AV.undef)], s5))) [(AV.int .i64 0), (AV.int .i64 0)] (σ ++ [Blk.map []])).bind fun r43 =>
  bif r43.1 == AX.exit 0 then (
   A.fin σ (AV.int .i64 0) r43.2.2) else
  bif r43.1 == AX.ret then (
   A.fin σ (r43.2.1.getD 0 AV.undef) r43.2.2) else
  none)
noncomputable def m_fixture_checkRanges : List AV → Heap → Option (AV × Heap) := A.wrap true [(.s 3)] .k (A.ar1 r_fixture_checkRanges)
noncomputable def r_fixture_CheckProfile (a0 : AV) (σ : Heap) : Option (AV × Heap) :=
 (A.cells 3 a0).bind fun c1 =>
 (A.part1 0 c1).bind fun x2 =>
 (m_word_Name [x2] σ).bind fun r3 =>
 (A.not r3.1).bind fun x4 =>
 A.cond x4 (
  A.fin σ (AV.int .i64 5) r3.2) (
  (A.part1 1 c1).bind fun x5 =>
  (m_word_Within [x5, (AV.int .i64 1), (AV.int .i64 512)] r3.2).bind fun r6 =>
  (A.not r6.1).bind fun x7 =>
  A.cond x7 (
   A.fin σ (AV.int .i64 1) r6.2) (
   (A.part1 2 c1).bind fun x8 =>
   (A.lenS x8).bind fun x9 =>
   (A.eql .i x9 (AV.int .i64 0)).bind fun x10 =>
   A.cond x10 (
    A.fin σ (AV.int .i64 8) r6.2) (
    (A.part1 2 c1).bind fun x11 =>
    (A.lenS x11).bind fun x12 =>
    (A.gtr x12 (AV.int .i64 40)).bind fun x13 =>
    A.cond x13 (
     A.fin σ (AV.int .i64 2) r6.2) (
     (A.part1 2 c1).bind fun x14 =>
     (A.lenS x14).bind fun x15 =>
     (A.loop (fun v16 s17 =>
       (A.lss (v16.getD 2 AV.undef) x15).bind fun x19 =>
       A.cond x19 (
        (A.iaddr 7 x14 (v16.getD 2 AV.undef)).bind fun x20 =>
        ((A.deref x20 s17).bind fun c21 => A.partA 0 7 c21).bind fun x22 =>
        (A.cells 7 x22).bind fun c23 =>
        (A.splice 0 c23 [(AV.str ⟨#[]⟩), (AV.int .i64 0), (AV.int .i64 0), (AV.int .i64 0), (AV.int .i64 0), (AV.bool false), AV.nsl]).bind fun c24 =>
        (A.part1 0 c24).bind fun x25 =>
        (m_word_Name [x25] s17).bind fun r26 =>
        (A.not r26.1).bind fun x27 =>
        A.cond x27 (
         some (AX.ret, [(v16.getD 0 AV.undef), (AV.int .i64 5), (v16.getD 2 AV.undef)], r26.2)) (
         (A.part1 0 c24).bind fun x28 =>
         (A.look .z (AV.om r6.2.length) x28 (AV.bool false) r26.2).bind fun x29 =>
         A.cond x29 (
          some (AX.ret, [(v16.getD 0 AV.undef), (AV.int .i64 6), (v16.getD 2 AV.undef)], r26.2)) (
          (A.part1 1 c24).bind fun x30 =>
          (m_word_Within [x30, (AV.int .i64 1), (AV.int .i64 4)] r26.2).bind fun r31 =>
          (A.not r31.1).bind fun x32 =>
          A.cond x32 (
           some (AX.ret, [(v16.getD 0 AV.undef), (AV.int .i64 4), (v16.getD 2 AV.undef)], r31.2)) (
           (A.part1 2 c24).bind fun x33 =>
           ((A.lb (v16.getD 0 AV.undef)).bind fun _ => some (1)).bind fun p34 =>
           ((A.lb (v16.getD 0 AV.undef)).bind fun c35 => A.part1 p34 c35).bind fun x36 =>
           (m_word_Within [x33, (AV.int .i64 1), x36] r31.2).bind fun r37 =>
           (A.not r37.1).bind fun x38 =>
           (A.guard x38 false (A.part1 3 c24) (some (AV.tup []))).bind fun x39 =>
           ((A.lb (v16.getD 0 AV.undef)).bind fun _ => some (1)).bind fun p40 =>
                      (A.guard x38 false ((A.lb (v16.getD 0 AV.undef)).bind fun c41 => A.part1 p40 c41) (some (AV.tup []))).bind fun x42 =>
           (A.guard x38 false (A.quiet (m_word_Within [x39, (AV.int .i64 0), x42] r37.2) r37.2) (some (AV.tup []))).bind fun x43 =>
           (A.guard x38 false (A.not x43) (some (AV.tup []))).bind fun x44 =>
           (A.pick x38 (AV.bool true) x44).bind fun x45 =>
           (A.guard x45 false (A.part1 4 c24) (some (AV.tup []))).bind fun x46 =>
           (A.guard x45 false (A.quiet (m_fixture_isLevel [x46] r37.2) r37.2) (some (AV.tup []))).bind fun x47 =>
           (A.guard x45 false (A.not x47) (some (AV.tup []))).bind fun x48 =>
           (A.pick x45 (AV.bool true) x48).bind fun x49 =>
           A.cond x49 (
            some (AX.ret, [(v16.getD 0 AV.undef), (AV.int .i64 1), (v16.getD 2 AV.undef)], r37.2)) (
            (A.part1 2 c24).bind fun x50 =>
            (A.part1 3 c24).bind fun x51 =>
            (A.eql .i x50 x51).bind fun x52 =>
            (A.guard x52 false (some (AV.om (r6.2 ++ [Blk.map []]).length)) (some (AV.tup []))).bind fun x53 =>
            (A.guard x52 false (A.part1 2 c24) (some (AV.tup []))).bind fun x54 =>
            (A.guard x52 false (A.look .i x53 x54 (AV.bool false) r37.2) (some (AV.tup []))).bind fun x55 =>
            (A.pick x52 (AV.bool true) x55).bind fun x56 =>
            (A.guard x56 false (A.part1 3 c24) (some (AV.tup []))).bind fun x57 =>
            (A.guard x56 false (A.gtr x57 (AV.int .i64 0)) (some (AV.tup []))).bind fun x58 =>
            (A.guard x56 false (some x58) (some (AV.tup []))).bind fun x59 =>
            (A.guard x59 true (some (AV.om (r6.2 ++ [Blk.map []]).length)) (some (AV.tup []))).bind fun x60 =>
            (A.guard x59 true (A.part1 3 c24) (some (AV.tup []))).bind fun x61 =>
            (A.guard x59 true (A.look .i x60 x61 (AV.bool false) r37.2) (some (AV.tup []))).bind fun x62 =>
            (A.guard x56 false (A.pick x59 x62 (AV.bool false)) (some (AV.tup []))).bind fun x63 =>
            (A.pick x56 (AV.bool true) x63).bind fun x64 =>
            A.cond x64 (
             some (AX.ret, [(v16.getD 0 AV.undef), (AV.int .i64 12), (v16.getD 2 AV.undef)], r37.2)) (
             (A.part1 6 c24).bind fun x65 =>
             (m_fixture_checkRanges [x65] r37.2).bind fun r66 =>
             (A.neq .i r66.1 (AV.int .i64 0)).bind fun x67 =>
             A.cond x67 (
              some (AX.ret, [(v16.getD 0 AV.undef), r66.1, (v16.getD 2 AV.undef)], r66.2)) (
              (A.part1 0 c24).bind fun x68 =>
              (A.part1 2 c24).bind fun x69 =>
              (A.mupd .z (AV.om r6.2.length) x68 (AV.bool true) r66.2).bind fun h70 =>
              (A.mupd .i (AV.om (r6.2 ++ [Blk.map []]).length) x69 (AV.bool true) h70).bind fun h71 =>
              (A.part1 3 c24).bind fun x72 =>
              (A.gtr x72 (AV.int .i64 0)).bind fun x73 =>
              (A.cond x73 (
               (A.part1 3 c24).bind fun x75 =>
               (A.mupd .i (AV.om (r6.2 ++ [Blk.map []]).length) x75 (AV.bool true) h71).bind fun h76 =>
               some ([(v16.getD 0 AV.undef)], h76)) (
               some ([(v16.getD 0 AV.undef)], h71))).bind fun r74 =>
              (A.add (v16.getD 2 AV.undef) (AV.int .i64 1)).bind fun x77 =>
              some (AX.normal, [(r74.1.getD 0 AV.undef), (v16.getD 1 AV.undef), x77], r74.2)))))))) (
        some (AX.exit 1, [(v16.getD 0 AV.undef), (v16.getD 1 AV.undef), (v16.getD 2 AV.undef)], s17))) [(AV.lbx c1), (AV.int .i64 0), (AV.int .i64 0)] ((r6.2 ++ [Blk.map []]) ++ [Blk.map []])).bind fun r78 =>
     bif r78.1 == AX.exit 1 then (
      A.fin σ (AV.int .i64 0) r78.2.2) else
     bif r78.1 == AX.ret then (
      A.fin σ (r78.2.1.getD 1 AV.undef) r78.2.2) else
     none))))
noncomputable def m_fixture_CheckProfile : List AV → Heap → Option (AV × Heap) := A.wrap true [(.a [.k, .k, (.s 7)])] .k (A.ar1 r_fixture_CheckProfile)
noncomputable def r_fixture_CheckLibrary (a0 : AV) (σ : Heap) : Option (AV × Heap) :=
 (A.lenS a0).bind fun x1 =>
 (A.gtr x1 (AV.int .i64 60)).bind fun x2 =>
 A.cond x2 (
  A.fin σ (AV.int .i64 2) σ) (
  (A.lenS a0).bind fun x3 =>
  (A.loop (fun v4 s5 =>
    (A.lss (v4.getD 1 AV.undef) x3).bind fun x7 =>
    A.cond x7 (
     (A.iaddr 3 a0 (v4.getD 1 AV.undef)).bind fun x8 =>
     ((A.deref x8 s5).bind fun c9 => A.partA 0 3 c9).bind fun x10 =>
     (A.cells 3 x10).bind fun c11 =>
     (A.splice 0 c11 [(AV.str ⟨#[]⟩), (AV.int .i64 0), AV.nsl]).bind fun c12 =>
     (A.partA 0 3 c12).bind fun x13 =>
     (m_fixture_CheckProfile [x13] s5).bind fun r14 =>
     (A.neq .i r14.1 (AV.int .i64 0)).bind fun x15 =>
     A.cond x15 (
      some (AX.ret, [r14.1, (v4.getD 1 AV.undef)], r14.2)) (
      (A.part1 0 c12).bind fun x16 =>
      (A.look .z (AV.om σ.length) x16 (AV.bool false) r14.2).bind fun x17 =>
      A.cond x17 (
       some (AX.ret, [(AV.int .i64 6), (v4.getD 1 AV.undef)], r14.2)) (
       (A.part1 0 c12).bind fun x18 =>
       (A.mupd .z (AV.om σ.length) x18 (AV.bool true) r14.2).bind fun h19 =>
       (A.add (v4.getD 1 AV.undef) (AV.int .i64 1)).bind fun x20 =>
       some (AX.normal, [(v4.getD 0 AV.undef), x20], h19)))) (
     some (AX.exit 0, [(v4.getD 0 AV.undef), (v4.getD 1 AV.undef)], s5))) [(AV.int .i64 0), (AV.int .i64 0)] (σ ++ [Blk.map []])).bind fun r21 =>
  bif r21.1 == AX.exit 0 then (
   A.fin σ (AV.int .i64 0) r21.2.2) else
  bif r21.1 == AX.ret then (
   A.fin σ (r21.2.1.getD 0 AV.undef) r21.2.2) else
  none)
noncomputable def m_fixture_CheckLibrary : List AV → Heap → Option (AV × Heap) := A.wrap true [(.s 3)] .k (A.ar1 r_fixture_CheckLibrary)
noncomputable def r_fixture_profile_fn1 (a0 a1 : AV) (σ : Heap) : Option (AV × Heap) :=
 (A.cells 3 a0).bind fun c1 =>
 (A.part1 0 c1).bind fun x2 =>
 ((A.deref a1 σ).bind fun c3 => A.part1 0 c3).bind fun x4 =>
 (A.eql .z x2 x4).bind fun x5 =>
 A.fin σ x5 σ
noncomputable def m_fixture_profile_fn1 : List AV → Heap → Option (AV × Heap) := A.wrap true [(.a [.k, .k, (.s 7)])] .k (A.ar2 r_fixture_profile_fn1)
noncomputable def r_fixture_profile (a0 a1 : AV) (σ : Heap) : Option (AV × Heap) :=
 (((A.cell a1).bind fun v => some [v]).bind fun cs => some (AV.rp cs)).bind fun x1 =>
 (m_slices_IndexFunc_api_Profile (A.tab (fun _ _ => none) [(64, m_fixture_profile_fn1), (64, m_fixture_profile_fn1)]) [a0, (AV.fn 64 [x1])] σ).bind fun r2 =>
 (A.lss r2.1 (AV.int .i64 0)).bind fun x3 =>
 A.cond x3 (
  (A.cells 3 (AV.agg [(AV.str ⟨#[]⟩), (AV.int .i64 0), AV.nsl])).bind fun c4 =>
  (A.splice 0 c4 [(AV.str ⟨#[]⟩), (AV.int .i64 0), AV.nsl]).bind fun c5 =>
  (A.partA 0 3 c5).bind fun x6 =>
  A.fin σ (AV.tup [x6, (AV.bool false)]) r2.2) (
  (A.iaddr 3 a0 r2.1).bind fun x7 =>
  ((A.deref x7 r2.2).bind fun c8 => A.partA 0 3 c8).bind fun x9 =>
  (A.cells 3 x9).bind fun c10 =>
  (A.splice 0 c10 [(AV.str ⟨#[]⟩), (AV.int .i64 0), AV.nsl]).bind fun c11 =>
  (A.partA 0 3 c11).bind fun x12 =>
  A.fin σ (AV.tup [x12, (AV.bool true)]) r2.2)
noncomputable def m_fixture_profile : List AV → Heap → Option (AV × Heap) := A.wrap true [(.s 3)] (.t [(.a [.k, .k, (.e 7 [.k, .k, .k, .k, .k, .k, (.s 3)])]), .k]) (A.ar2 r_fixture_profile)
noncomputable def r_fixture_slots_free (a0 a1 a2 : AV) (σ : Heap) : Option (AV × Heap) :=
 (A.eql .p a0 AV.np).bind fun x1 =>
 A.cond x1 (
  (A.add a1 a2).bind fun x2 =>
  (A.sub x2 (AV.int .i64 1)).bind fun x3 =>
  (A.leq x3 (AV.int .i64 512)).bind fun x4 =>
  A.fin σ x4 σ) (
  (A.loop (fun v5 s6 =>
    (A.add a1 a2).bind fun x8 =>
    (A.lss (v5.getD 1 AV.undef) x8).bind fun x9 =>
    A.cond x9 (
     (A.gtr (v5.getD 1 AV.undef) (AV.int .i64 512)).bind fun x10 =>
     (A.guard x10 false (some a0) (some (AV.tup []))).bind fun x11 =>
     (A.guard x10 false (some (v5.getD 1 AV.undef)) (some (AV.tup []))).bind fun x12 =>
     (A.guard x10 false (A.nilck x11) (some (AV.tup []))).bind fun x13 =>
     (A.guard x10 false (A.aaddr 513 1 x13 x12) (some (AV.tup []))).bind fun x14 =>
     (A.guard x10 false ((A.deref x14 s6).bind fun c15 => A.part1 0 c15) (some (AV.tup []))).bind fun x16 =>
     (A.pick x10 (AV.bool true) x16).bind fun x17 =>
     A.cond x17 (
      some (AX.ret, [(AV.bool false), (v5.getD 1 AV.undef)], s6)) (
      (A.add (v5.getD 1 AV.undef) (AV.int .i64 1)).bind fun x18 =>
      some (AX.normal, [(v5.getD 0 AV.undef), x18], s6))) (
     some (AX.exit 0, [(v5.getD 0 AV.undef), (v5.getD 1 AV.undef)], s6))) [(AV.bool false), a1] σ).bind fun r19 =>
  bif r19.1 == AX.exit 0 then (
   A.fin σ (AV.bool true) r19.2.2) else
  bif r19.1 == AX.ret then (
   A.fin σ (r19.2.1.getD 0 AV.undef) r19.2.2) else
  none)
noncomputable def m_fixture_slots_free : List AV → Heap → Option (AV × Heap) := A.wrap true [] .k (A.ar3 r_fixture_slots_free)
noncomputable def r_fixture_take (a0 a1 a2 : AV) (σ : Heap) : Option (AV × Heap) :=
 (A.cells 4 a1).bind fun c1 =>
 (A.part1 2 c1).bind fun x2 =>
 (A.look .i a0 x2 AV.np σ).bind fun x3 =>
 (A.eql .p x3 AV.np).bind fun x4 =>
 (A.cond x4 (
  (A.part1 2 c1).bind fun x6 =>
  (A.mupd .i a0 x6 (AV.op σ.length 0) (σ ++ [Blk.box (List.replicate 513 (AV.bool false))])).bind fun h7 =>
  some ([(AV.lbx c1)], h7)) (
  some ([(AV.lbx c1)], σ))).bind fun r5 =>
 ((A.lb (r5.1.getD 0 AV.undef)).bind fun _ => some (3)).bind fun p8 =>
 ((A.lb (r5.1.getD 0 AV.undef)).bind fun c9 => A.part1 p8 c9).bind fun x10 =>
 (A.loop (fun v11 s12 =>
   ((A.lb (v11.getD 0 AV.undef)).bind fun _ => some (3)).bind fun p14 =>
   ((A.lb (v11.getD 0 AV.undef)).bind fun c15 => A.part1 p14 c15).bind fun x16 =>
   (A.add x16 a2).bind fun x17 =>
   (A.lss (v11.getD 1 AV.undef) x17).bind fun x18 =>
   A.cond x18 (
    ((A.lb (v11.getD 0 AV.undef)).bind fun _ => some (2)).bind fun p19 =>
    ((A.lb (v11.getD 0 AV.undef)).bind fun c20 => A.part1 p19 c20).bind fun x21 =>
    (A.look .i a0 x21 AV.np s12).bind fun x22 =>
    (A.nilck x22).bind fun x23 =>
    (A.aaddr 513 1 x23 (v11.getD 1 AV.undef)).bind fun x24 =>
    ((A.cell (AV.bool true)).bind fun v => some [v]).bind fun c25 =>
    (A.storeAt x24 c25 s12).bind fun c26 =>
    (A.add (v11.getD 1 AV.undef) (AV.int .i64 1)).bind fun x27 =>
    some (AX.normal, [(v11.getD 0 AV.undef), x27], c26)) (
    some (AX.exit 0, [(v11.getD 0 AV.undef), (v11.getD 1 AV.undef)], s12))) [(r5.1.getD 0 AV.undef), x10] r5.2).bind fun r28 =>
 bif r28.1 == AX.exit 0 then (
  some ((AV.tup []), r28.2.2)) else
 none
noncomputable def m_fixture_take : List AV → Heap → Option (AV × Heap) := A.wrap false [] .k (A.ar3 r_fixture_take)
noncomputable def r_fixture_CheckRig (a0 : AV) (σ : Heap) : Option (AV × Heap) :=
 (A.cells 2 a0).bind fun c1 =>
 (A.part1 0 c1).bind fun x2 =>
 (m_fixture_CheckLibrary [x2] σ).bind fun r3 =>
 (A.neq .i r3.1 (AV.int .i64 0)).bind fun x4 =>
 A.cond x4 (
  A.fin σ r3.1 r3.2) (
  (A.part1 1 c1).bind fun x5 =>
  (A.lenS x5).bind fun x6 =>
  (A.gtr x6 (AV.int .i64 400)).bind fun x7 =>
  A.cond x7 (
   A.fin σ (AV.int .i64 2) r3.2) (
   (A.part1 1 c1).bind fun x8 =>
   (A.lenS x8).bind fun x9 =>
   (A.loop (fun v10 s11 =>
     (A.lss (v10.getD 2 AV.undef) x9).bind fun x13 =>
     A.cond x13 (
      (A.iaddr 4 x8 (v10.getD 2 AV.undef)).bind fun x14 =>
      ((A.deref x14 s11).bind fun c15 => A.partA 0 4 c15).bind fun x16 =>
      (A.cells 4 x16).bind fun c17 =>
      (A.splice 0 c17 [(AV.int .i64 0), (AV.str ⟨#[]⟩), (AV.int .i64 0), (AV.int .i64 0)]).bind fun c18 =>
      (A.part1 0 c18).bind fun x19 =>
      (m_word_Within [x19, (AV.int .i64 1), (AV.int .i64 9999)] s11).bind fun r20 =>
      (A.not r20.1).bind fun x21 =>
      A.cond x21 (
       some (AX.ret, [(v10.getD 0 AV.undef), (AV.int .i64 1), (v10.getD 2 AV.undef)], r20.2)) (
       (A.gtr (v10.getD 2 AV.undef) (AV.int .i64 0)).bind fun x22 =>
       (A.guard x22 true (A.part1 0 c18) (some (AV.tup []))).bind fun x23 =>
       ((A.lb (v10.getD 0 AV.undef)).bind fun _ => some (1)).bind fun p24 =>
              (A.guard x22 true ((A.lb (v10.getD 0 AV.undef)).bind fun c25 => A.part1 p24 c25) (some (AV.tup []))).bind fun x26 =>
       (A.guard x22 true (some (v10.getD 2 AV.undef)) (some (AV.tup []))).bind fun x27 =>
       (A.guard x22 true (A.sub x27 (AV.int .i64 1)) (some (AV.tup []))).bind fun x28 =>
       (A.guard x22 true (A.iaddr 4 x26 x28) (some (AV.tup []))).bind fun x29 =>
       (A.guard x22 true (A.faddr 0 x29) (some (AV.tup []))).bind fun x30 =>
       (A.guard x22 true ((A.deref x30 r20.2).bind fun c31 => A.part1 0 c31) (some (AV.tup []))).bind fun x32 =>
       (A.guard x22 true (A.leq x23 x32) (some (AV.tup []))).bind fun x33 =>
       (A.pick x22 x33 (AV.bool false)).bind fun x34 =>
       A.cond x34 (
        some (AX.ret, [(v10.getD 0 AV.undef), (AV.int .i64 7), (v10.getD 2 AV.undef)], r20.2)) (
        ((A.lb (v10.getD 0 AV.undef)).bind fun _ => some (0)).bind fun p35 =>
        ((A.lb (v10.getD 0 AV.undef)).bind fun c36 => A.part1 p35 c36).bind fun x37 =>
        (A.part1 1 c18).bind fun x38 =>
        (m_fixture_profile [x37, x38] r20.2).bind fun r39 =>
        (A.ext 0 r39.1).bind fun x40 =>
        (A.ext 1 r39.1).bind fun x41 =>
        (A.cells 3 x40).bind fun c42 =>
        (A.splice 0 c42 [(AV.str ⟨#[]⟩), (AV.int .i64 0), AV.nsl]).bind fun c43 =>
        (A.not x41).bind fun x44 =>
        A.cond x44 (
         some (AX.ret, [(v10.getD 0 AV.undef), (AV.int .i64 5), (v10.getD 2 AV.undef)], r39.2)) (
         (A.part1 2 c18).bind fun x45 =>
         (m_word_Within [x45, (AV.int .i64 1), (AV.int .i64 64)] r39.2).bind fun r46 =>
         (A.not r46.1).bind fun x47 =>
         (A.guard x47 false (A.part1 3 c18) (some (AV.tup []))).bind fun x48 =>
         (A.guard x47 false (A.quiet (m_word_Within [x48, (AV.int .i64 1), (AV.int .i64 512)] r46.2) r46.2) (some (AV.tup []))).bind fun x49 =>
         (A.guard x47 false (A.not x49) (some (AV.tup []))).bind fun x50 =>
         (A.pick x47 (AV.bool true) x50).bind fun x51 =>
         (A.guard x51 false (A.part1 3 c18) (some (AV.tup []))).bind fun x52 =>
         (A.guard x51 false (A.part1 1 c43) (some (AV.tup []))).bind fun x53 =>
         (A.guard x51 false (A.add x52 x53) (some (AV.tup []))).bind fun x54 =>
         (A.guard x51 false (A.sub x54 (AV.int .i64 1)) (some (AV.tup []))).bind fun x55 =>
         (A.guard x51 false (A.gtr x55 (AV.int .i64 512)) (some (AV.tup []))).bind fun x56 =>
         (A.pick x51 (AV.bool true) x56).bind fun x57 =>
         A.cond x57 (
          some (AX.ret, [(v10.getD 0 AV.undef), (AV.int .i64 1), (v10.getD 2 AV.undef)], r46.2)) (
          (A.part1 2 c18).bind fun x58 =>
          (A.look .i (AV.om r3.2.length) x58 AV.np r46.2).bind fun x59 =>
          (A.part1 3 c18).bind fun x60 =>
          (A.part1 1 c43).bind fun x61 =>
          (m_fixture_slots_free [x59, x60, x61] r46.2).bind fun r62 =>
          (A.not r62.1).bind fun x63 =>
          A.cond x63 (
           some (AX.ret, [(v10.getD 0 AV.undef), (AV.int .i64 12), (v10.getD 2 AV.undef)], r62.2)) (
           (A.partA 0 4 c18).bind fun x64 =>
           (A.part1 1 c43).bind fun x65 =>
           (m_fixture_take [(AV.om r3.2.length), x64, x65] r62.2).bind fun r66 =>
           (A.add (v10.getD 2 AV.undef) (AV.int .i64 1)).bind fun x67 =>
           some (AX.normal, [(v10.getD 0 AV.undef), (v10.getD 1 AV.undef), x67], r66.2))))))) (
      some (AX.exit 0, [(v10.getD 0 AV.undef), (v10.getD 1 AV.undef), (v10.getD 2 AV.undef)], s11))) [(AV.lbx c1), (AV.int .i64 0), (AV.int .i64 0)] (r3.2 ++ [Blk.map []])).bind fun r68 =>
   bif r68.1 == AX.exit 0 then (
    A.fin σ (AV.int .i64 0) r68.2.2) else
   bif r68.1 == AX.ret then (
    A.fin σ (r68.2.1.getD 1 AV.undef) r68.2.2) else
   none))
noncomputable def m_fixture_CheckRig : List AV → Heap → Option (AV × Heap) := A.wrap true [(.a [(.s 3), (.s 4)])] .k (A.ar1 r_fixture_CheckRig)
noncomputable def r_fixture_Keys (a0 : AV) (σ : Heap) : Option (AV × Heap) :=
 (A.cells 2 a0).bind fun c1 =>
 (A.partA 0 2 c1).bind fun x2 =>
 (m_fixture_CheckRig [x2] σ).bind fun r3 =>
 (A.neq .i r3.1 (AV.int .i64 0)).bind fun x4 =>
 A.cond x4 (
  A.fin σ (AV.tup [AV.nsl, r3.1]) r3.2) (
  (A.part1 1 c1).bind fun x5 =>
  (A.lenS x5).bind fun x6 =>
  (A.loop (fun v7 s8 =>
    (A.lss (v7.getD 2 AV.undef) x6).bind fun x10 =>
    A.cond x10 (
     (A.iaddr 4 x5 (v7.getD 2 AV.undef)).bind fun x11 =>
     ((A.deref x11 s8).bind fun c12 => A.partA 0 4 c12).bind fun x13 =>
     (A.cells 4 x13).bind fun c14 =>
     (A.splice 0 c14 [(AV.int .i64 0), (AV.str ⟨#[]⟩), (AV.int .i64 0), (AV.int .i64 0)]).bind fun c15 =>
     ((A.lb (v7.getD 0 AV.undef)).bind fun _ => some (0)).bind fun p16 =>
     ((A.lb (v7.getD 0 AV.undef)).bind fun c17 => A.part1 p16 c17).bind fun x18 =>
     (A.part1 1 c15).bind fun x19 =>
     (m_fixture_profile [x18, x19] s8).bind fun r20 =>
     (A.ext 0 r20.1).bind fun x21 =>
     (A.ext 1 r20.1).bind fun x22 =>
     (A.cells 3 x21).bind fun c23 =>
     (A.splice 0 c23 [(AV.str ⟨#[]⟩), (AV.int .i64 0), AV.nsl]).bind fun c24 =>
     (A.part1 2 c24).bind fun x25 =>
     (A.lenS x25).bind fun x26 =>
     (A.loop (fun v27 s28 =>
       (A.lss (v27.getD 3 AV.undef) x26).bind fun x30 =>
       A.cond x30 (
        (A.iaddr 7 x25 (v27.getD 3 AV.undef)).bind fun x31 =>
        ((A.deref x31 s28).bind fun c32 => A.partA 0 7 c32).bind fun x33 =>
        (A.cells 7 x33).bind fun c34 =>
        (A.splice 0 c34 [(AV.str ⟨#[]⟩), (AV.int .i64 0), (AV.int .i64 0), (AV.int .i64 0), (AV.int .i64 0), (AV.bool false), AV.nsl]).bind fun c35 =>
        ((A.lb (v27.getD 2 AV.undef)).bind fun _ => some (0)).bind fun p36 =>
        ((A.lb (v27.getD 2 AV.undef)).bind fun c37 => A.part1 p36 c37).bind fun x38 =>
        (A.part1 0 c35).bind fun x39 =>
        ((((A.cell x38).bind fun v => some [v]).bind fun c40 => (A.splice 0 c40 [(AV.int .i64 0), (AV.str ⟨#[]⟩)]).bind fun c41 => ((A.cell x39).bind fun v => some [v]).bind fun c42 => (A.splice 1 c42 c41).bind fun c43 => some c43).bind fun cs => some (AV.agg cs)).bind fun x44 =>
        (((A.cells 2 x44).bind fun c45 => (A.splice 0 c45 [(AV.int .i64 0), (AV.str ⟨#[]⟩)]).bind fun c46 => some c46).bind fun cs => some (AV.sl 2 (chunks 2 1 cs))).bind fun x47 =>
        (A.append 2 (140737488355328 / 24) (v27.getD 1 AV.undef) x47 s28).bind fun r48 =>
        (A.add (v27.getD 3 AV.undef) (AV.int .i64 1)).bind fun x49 =>
        some (AX.normal, [(v27.getD 0 AV.undef), r48.1, (v27.getD 2 AV.undef), x49], r48.2)) (
        some (AX.exit 2, [(v27.getD 0 AV.undef), (v27.getD 1 AV.undef), (v27.getD 2 AV.undef), (v27.getD 3 AV.undef)], s28))) [(v7.getD 0 AV.undef), (v7.getD 1 AV.undef), (AV.lbx c15), (AV.int .i64 0)] r20.2).bind fun r50 =>
     bif r50.1 == AX.exit 2 then (
      (A.add (v7.getD 2 AV.undef) (AV.int .i64 1)).bind fun x51 =>
      some (AX.normal, [(r50.2.1.getD 0 AV.undef), (r50.2.1.getD 1 AV.undef), x51], r50.2.2)) else
     none) (
     some (AX.exit 0, [(v7.getD 0 AV.undef), (v7.getD 1 AV.undef), (v7.getD 2 AV.undef)], s8))) [(AV.lbx c1), AV.nsl, (AV.int .i64 0)] r3.2).bind fun r52 =>
  bif r52.1 == AX.exit 0 then (
   A.fin σ (AV.tup [(r52.2.1.getD 1 AV.undef), (AV.int .i64 0)]) r52.2.2) else
  none)
noncomputable def m_fixture_Keys : List AV → Heap → Option (AV × Heap) := A.wrap true [(.a [(.s 3), (.s 4)])] (.t [(.s 2), .k]) (A.ar1 r_fixture_Keys)
end Go.Proofs.YtphgchakmkankaaGreat

namespace Go.Proofs.YtphgchakmkankaaGreat
set_option linter.unusedSectionVars false
set_option linter.unusedSimpArgs false
set_option linter.unusedVariables false
set_option maxRecDepth 100000
noncomputable def r_level_CheckCurve (a0 : AV) (σ : Heap) : Option (AV × Heap) :=
 (A.cells 2 a0).bind fun c1 =>
 (A.part1 0 c1).bind fun x2 =>
 (m_word_Within [x2, (AV.int .i64 1), (AV.int .i64 6)] σ).bind fun r3 =>
 (A.not r3.1).bind fun x4 =>
 A.cond x4 (
  A.fin σ (AV.int .i64 4) r3.2) (
  (A.part1 1 c1).bind fun x5 =>
  (A.part1 0 c1).bind fun x6 =>
  (A.neq .i x6 (AV.int .i64 6)).bind fun x7 =>
  A.cond x7 (
   (A.lenS x5).bind fun x8 =>
   (A.gtr x8 (AV.int .i64 0)).bind fun x9 =>
   (m_word_When [x9, (AV.int .i64 3)] r3.2).bind fun r10 =>
   A.fin σ r10.1 r10.2) (
   (A.lenS x5).bind fun x11 =>
   (A.lss x11 (AV.int .i64 2)).bind fun x12 =>
   A.cond x12 (
    A.fin σ (AV.int .i64 8) r3.2) (
    (A.lenS x5).bind fun x13 =>
    (A.gtr x13 (AV.int .i64 20)).bind fun x14 =>
    A.cond x14 (
     A.fin σ (AV.int .i64 2) r3.2) (
     (A.lenS x5).bind fun x15 =>
     (A.loop (fun v16 s17 =>
       (A.lss (v16.getD 1 AV.undef) x15).bind fun x19 =>
       A.cond x19 (
        (A.iaddr 2 x5 (v16.getD 1 AV.undef)).bind fun x20 =>
        ((A.deref x20 s17).bind fun c21 => A.partA 0 2 c21).bind fun x22 =>
        (A.cells 2 x22).bind fun c23 =>
        (A.splice 0 c23 [(AV.int .i64 0), (AV.int .i64 0)]).bind fun c24 =>
        (A.part1 0 c24).bind fun x25 =>
        (m_word_Within [x25, (AV.int .i64 0), (AV.int .i64 1000)] s17).bind fun r26 =>
        (A.not r26.1).bind fun x27 =>
        (A.guard x27 false (A.part1 1 c24) (some (AV.tup []))).bind fun x28 =>
        (A.guard x27 false (A.quiet (m_word_Within [x28, (AV.int .i64 0), (AV.int .i64 1000)] r26.2) r26.2) (some (AV.tup []))).bind fun x29 =>
        (A.guard x27 false (A.not x29) (some (AV.tup []))).bind fun x30 =>
        (A.pick x27 (AV.bool true) x30).bind fun x31 =>
        A.cond x31 (
         some (AX.ret, [(AV.int .i64 1), (v16.getD 1 AV.undef)], r26.2)) (
         (A.add (v16.getD 1 AV.undef) (AV.int .i64 1)).bind fun x32 =>
         some (AX.normal, [(v16.getD 0 AV.undef), x32], r26.2))) (
        some (AX.exit 0, [(v16.getD 0 AV.undef), (v16.getD 1 AV.undef)], s17))) [(AV.int .i64 0), (AV.int .i64 0)] r3.2).bind fun r33 =>
     bif r33.1 == AX.exit 0 then (
      (A.iaddr 2 x5 (AV.int .i64 0)).bind fun x34 =>
      ((A.deref x34 r33.2.2).bind fun c35 => A.partA 0 2 c35).bind fun x36 =>
      (A.neq (.s [0, 0]) x36 (AV.agg [(AV.int .i64 0), (AV.int .i64 0)])).bind fun x37 =>
      (A.guard x37 false (some x5) (some (AV.tup []))).bind fun x38 =>
      (A.guard x37 false (some x5) (some (AV.tup []))).bind fun x39 =>
      (A.guard x37 false (A.lenS x39) (some (AV.tup []))).bind fun x40 =>
      (A.guard x37 false (A.sub x40 (AV.int .i64 1)) (some (AV.tup []))).bind fun x41 =>
      (A.guard x37 false (A.iaddr 2 x38 x41) (some (AV.tup []))).bind fun x42 =>
      (A.guard x37 false ((A.deref x42 r33.2.2).bind fun c43 => A.partA 0 2 c43) (some (AV.tup []))).bind fun x44 =>
      (A.guard x37 false ((((A.cell (AV.int .i64 1000)).bind fun v => some [v]).bind fun c45 => (A.splice 0 c45 [(AV.int .i64 0), (AV.int .i64 0)]).bind fun c46 => ((A.cell (AV.int .i64 1000)).bind fun v => some [v]).bind fun c47 => (A.splice 1 c47 c46).bind fun c48 => some c48).bind fun cs => some (AV.agg cs)) (some (AV.tup []))).bind fun x49 =>
      (A.guard x37 false (A.neq (.s [0, 0]) x44 x49) (some (AV.tup []))).bind fun x50 =>
      (A.pick x37 (AV.bool true) x50).bind fun x51 =>
      A.cond x51 (
       A.fin σ (AV.int .i64 3) r33.2.2) (
       (A.loop (fun v52 s53 =>
         (A.lenS x5).bind fun x55 =>
         (A.lss (v52.getD 1 AV.undef) x55).bind fun x56 =>
         A.cond x56 (
          (A.iaddr 2 x5 (v52.getD 1 AV.undef)).bind fun x57 =>
          (A.faddr 0 x57).bind fun x58 =>
          ((A.deref x58 s53).bind fun c59 => A.part1 0 c59).bind fun x60 =>
          (A.sub (v52.getD 1 AV.undef) (AV.int .i64 1)).bind fun x61 =>
          (A.iaddr 2 x5 x61).bind fun x62 =>
          (A.faddr 0 x62).bind fun x63 =>
          ((A.deref x63 s53).bind fun c64 => A.part1 0 c64).bind fun x65 =>
          (A.leq x60 x65).bind fun x66 =>
          (A.guard x66 false (some x5) (some (AV.tup []))).bind fun x67 =>
          (A.guard x66 false (some (v52.getD 1 AV.undef)) (some (AV.tup []))).bind fun x68 =>
          (A.guard x66 false (A.iaddr 2 x67 x68) (some (AV.tup []))).bind fun x69 =>
          (A.guard x66 false (A.faddr 1 x69) (some (AV.tup []))).bind fun x70 =>
          (A.guard x66 false ((A.deref x70 s53).bind fun c71 => A.part1 0 c71) (some (AV.tup []))).bind fun x72 =>
          (A.guard x66 false (some x5) (some (AV.tup []))).bind fun x73 =>
          (A.guard x66 false (some (v52.getD 1 AV.undef)) (some (AV.tup []))).bind fun x74 =>
          (A.guard x66 false (A.sub x74 (AV.int .i64 1)) (some (AV.tup []))).bind fun x75 =>
          (A.guard x66 false (A.iaddr 2 x73 x75) (some (AV.tup []))).bind fun x76 =>
          (A.guard x66 false (A.faddr 1 x76) (some (AV.tup []))).bind fun x77 =>
          (A.guard x66 false ((A.deref x77 s53).bind fun c78 => A.part1 0 c78) (some (AV.tup []))).bind fun x79 =>
          (A.guard x66 false (A.lss x72 x79) (some (AV.tup []))).bind fun x80 =>
          (A.pick x66 (AV.bool true) x80).bind fun x81 =>
          A.cond x81 (
           some (AX.ret, [(AV.int .i64 7), (v52.getD 1 AV.undef)], s53)) (
           (A.add (v52.getD 1 AV.undef) (AV.int .i64 1)).bind fun x82 =>
           some (AX.normal, [(v52.getD 0 AV.undef), x82], s53))) (
          some (AX.exit 2, [(v52.getD 0 AV.undef), (v52.getD 1 AV.undef)], s53))) [(r33.2.1.getD 0 AV.undef), (AV.int .i64 1)] r33.2.2).bind fun r83 =>
       bif r83.1 == AX.exit 2 then (
        A.fin σ (AV.int .i64 0) r83.2.2) else
       bif r83.1 == AX.ret then (
        A.fin σ (r83.2.1.getD 0 AV.undef) r83.2.2) else
       none)) else
     bif r33.1 == AX.ret then (
      A.fin σ (r33.2.1.getD 0 AV.undef) r33.2.2) else
     none))))
noncomputable def m_level_CheckCurve : List AV → Heap → Option (AV × Heap) := A.wrap true [(.a [.k, (.s 2)])] .k (A.ar1 r_level_CheckCurve)
end Go.Proofs.YtphgchakmkankaaGreat

namespace Go.Proofs.YtphgchakmkankaaGreat
set_option linter.unusedSectionVars false
set_option linter.unusedSimpArgs false
set_option linter.unusedVariables false
set_option maxRecDepth 100000
noncomputable def r_pick_keys (a0 : AV) (σ : Heap) : Option (AV × Heap) :=
 (A.cells 2 a0).bind fun c1 =>
 (A.partA 0 2 c1).bind fun x2 =>
 (m_fixture_Keys [x2] σ).bind fun r3 =>
 (A.ext 0 r3.1).bind fun x4 =>
 (A.ext 1 r3.1).bind fun x5 =>
 (A.lenS x4).bind fun x6 =>
 (A.loop (fun v7 s8 =>
   (A.lss (v7.getD 0 AV.undef) x6).bind fun x10 =>
   A.cond x10 (
    (A.iaddr 2 x4 (v7.getD 0 AV.undef)).bind fun x11 =>
    ((A.deref x11 s8).bind fun c12 => A.partA 0 2 c12).bind fun x13 =>
    (A.cells 2 x13).bind fun c14 =>
    (A.splice 0 c14 [(AV.int .i64 0), (AV.str ⟨#[]⟩)]).bind fun c15 =>
    (A.partA 0 2 c15).bind fun x16 =>
    (A.mupd (.s [0, 2]) (AV.om r3.2.length) x16 (AV.bool true) s8).bind fun h17 =>
    (A.add (v7.getD 0 AV.undef) (AV.int .i64 1)).bind fun x18 =>
    some (AX.normal, [x18], h17)) (
    some (AX.exit 0, [(v7.getD 0 AV.undef)], s8))) [(AV.int .i64 0)] (r3.2 ++ [Blk.map []])).bind fun r19 =>
 bif r19.1 == AX.exit 0 then (
  A.fin σ (AV.om r3.2.length) r19.2.2) else
 none
noncomputable def m_pick_keys : List AV → Heap → Option (AV × Heap) := A.wrap true [(.a [(.s 3), (.s 4)])] .k (A.ar1 r_pick_keys)
noncomputable def r_pick_blank (a0 : AV) (σ : Heap) : Option (AV × Heap) :=
 (A.eql .z a0 (AV.str ⟨#[]⟩)).bind fun x1 =>
 (A.guard x1 false (some a0) (some (AV.tup []))).bind fun x2 =>
 (A.guard x1 false (A.quiet (m_word_Title [x2] σ) σ) (some (AV.tup []))).bind fun x3 =>
 (A.pick x1 (AV.bool true) x3).bind fun x4 =>
 A.fin σ x4 σ
noncomputable def m_pick_blank : List AV → Heap → Option (AV × Heap) := A.wrap true [] .k (A.ar1 r_pick_blank)
noncomputable def r_pick_isLevel (a0 : AV) (σ : Heap) : Option (AV × Heap) :=
 (m_word_Within [a0, (AV.int .i64 0), (AV.int .i64 65535)] σ).bind fun r1 =>
 A.fin σ r1.1 r1.2
noncomputable def m_pick_isLevel : List AV → Heap → Option (AV × Heap) := A.wrap true [] .k (A.ar1 r_pick_isLevel)
noncomputable def r_pick_before (a0 a1 : AV) (σ : Heap) : Option (AV × Heap) :=
 (A.cells 2 a0).bind fun c1 =>
 (A.cells 2 a1).bind fun c2 =>
 (A.part1 0 c1).bind fun x3 =>
 (A.part1 0 c2).bind fun x4 =>
 (A.neq .i x3 x4).bind fun x5 =>
 A.cond x5 (
  (A.part1 0 c1).bind fun x6 =>
  (A.part1 0 c2).bind fun x7 =>
  (A.lss x6 x7).bind fun x8 =>
  A.fin σ x8 σ) (
  (A.part1 1 c1).bind fun x9 =>
  (A.part1 1 c2).bind fun x10 =>
  (m_strings_Compare [x9, x10] σ).bind fun r11 =>
  (A.lss r11.1 (AV.int .i64 0)).bind fun x12 =>
  A.fin σ x12 r11.2)
noncomputable def m_pick_before : List AV → Heap → Option (AV × Heap) := A.wrap true [] .k (A.ar2 r_pick_before)
noncomputable def r_pick_CheckPresets (a0 a1 : AV) (σ : Heap) : Option (AV × Heap) :=
 (A.cells 2 a0).bind fun c1 =>
 (A.partA 0 2 c1).bind fun x2 =>
 (m_fixture_CheckRig [x2] σ).bind fun r3 =>
 (A.lenS a1).bind fun x4 =>
 (A.gtr x4 (AV.int .i64 200)).bind fun x5 =>
 (m_word_When [x5, (AV.int .i64 2)] r3.2).bind fun r6 =>
 ((((A.cell r3.1).bind fun v => some [v]).bind fun c7 => (A.splice 0 c7 [(AV.int .i64 0), (AV.int .i64 0)]).bind fun c8 => ((A.cell r6.1).bind fun v => some [v]).bind fun c9 => (A.splice 1 c9 c8).bind fun c10 => some c10).bind fun cs => some (AV.sl 1 (chunks 1 2 cs))).bind fun x11 =>
 (m_word_First [x11] r6.2).bind fun r12 =>
 (A.neq .i r12.1 (AV.int .i64 0)).bind fun x13 =>
 A.cond x13 (
  A.fin σ r12.1 r12.2) (
  (A.partA 0 2 c1).bind fun x14 =>
  (m_pick_keys [x14] r12.2).bind fun r15 =>
  (A.lenS a1).bind fun x16 =>
  (A.loop (fun v17 s18 =>
    (A.lss (v17.getD 1 AV.undef) x16).bind fun x20 =>
    A.cond x20 (
     (A.iaddr 3 a1 (v17.getD 1 AV.undef)).bind fun x21 =>
     ((A.deref x21 s18).bind fun c22 => A.partA 0 3 c22).bind fun x23 =>
     (A.cells 3 x23).bind fun c24 =>
     (A.splice 0 c24 [(AV.int .i64 0), (AV.str ⟨#[]⟩), AV.nsl]).bind fun c25 =>
     (A.part1 0 c25).bind fun x26 =>
     (m_word_Within [x26, (AV.int .i64 1), (AV.int .i64 999)] s18).bind fun r27 =>
     (A.not r27.1).bind fun x28 =>
     A.cond x28 (
      some (AX.ret, [(AV.int .i64 1), (v17.getD 1 AV.undef)], r27.2)) (
      (A.gtr (v17.getD 1 AV.undef) (AV.int .i64 0)).bind fun x29 =>
      (A.guard x29 true (A.part1 0 c25) (some (AV.tup []))).bind fun x30 =>
      (A.guard x29 true (some a1) (some (AV.tup []))).bind fun x31 =>
      (A.guard x29 true (some (v17.getD 1 AV.undef)) (some (AV.tup []))).bind fun x32 =>
      (A.guard x29 true (A.sub x32 (AV.int .i64 1)) (some (AV.tup []))).bind fun x33 =>
      (A.guard x29 true (A.iaddr 3 x31 x33) (some (AV.tup []))).bind fun x34 =>
      (A.guard x29 true (A.faddr 0 x34) (some (AV.tup []))).bind fun x35 =>
      (A.guard x29 true ((A.deref x35 r27.2).bind fun c36 => A.part1 0 c36) (some (AV.tup []))).bind fun x37 =>
      (A.guard x29 true (A.leq x30 x37) (some (AV.tup []))).bind fun x38 =>
      (A.pick x29 x38 (AV.bool false)).bind fun x39 =>
      A.cond x39 (
       some (AX.ret, [(AV.int .i64 7), (v17.getD 1 AV.undef)], r27.2)) (
       (A.part1 1 c25).bind fun x40 =>
       (m_pick_blank [x40] r27.2).bind fun r41 =>
       (A.not r41.1).bind fun x42 =>
       A.cond x42 (
        some (AX.ret, [(AV.int .i64 3), (v17.getD 1 AV.undef)], r41.2)) (
        (A.part1 2 c25).bind fun x43 =>
        (A.lenS x43).bind fun x44 =>
        (A.gtr x44 (AV.int .i64 2000)).bind fun x45 =>
        A.cond x45 (
         some (AX.ret, [(AV.int .i64 2), (v17.getD 1 AV.undef)], r41.2)) (
         (A.part1 2 c25).bind fun x46 =>
         (A.lenS x46).bind fun x47 =>
         (A.loop (fun v48 s49 =>
           (A.lss (v48.getD 2 AV.undef) x47).bind fun x51 =>
           A.cond x51 (
            (A.iaddr 3 x46 (v48.getD 2 AV.undef)).bind fun x52 =>
            ((A.deref x52 s49).bind fun c53 => A.partA 0 3 c53).bind fun x54 =>
            (A.cells 3 x54).bind fun c55 =>
            (A.splice 0 c55 [(AV.int .i64 0), (AV.str ⟨#[]⟩), (AV.int .i64 0)]).bind fun c56 =>
            (A.partA 0 2 c56).bind fun x57 =>
            (A.look (.s [0, 2]) r15.1 x57 (AV.bool false) s49).bind fun x58 =>
            (A.not x58).bind fun x59 =>
            A.cond x59 (
             some (AX.ret, [(AV.int .i64 8), (v48.getD 1 AV.undef), (v48.getD 2 AV.undef)], s49)) (
             (A.part1 2 c56).bind fun x60 =>
             (m_pick_isLevel [x60] s49).bind fun r61 =>
             (A.not r61.1).bind fun x62 =>
             A.cond x62 (
              some (AX.ret, [(AV.int .i64 1), (v48.getD 1 AV.undef), (v48.getD 2 AV.undef)], r61.2)) (
              (A.gtr (v48.getD 2 AV.undef) (AV.int .i64 0)).bind fun x63 =>
              ((A.lb (v48.getD 1 AV.undef)).bind fun _ => some (2)).bind fun p64 =>
                            (A.guard x63 true ((A.lb (v48.getD 1 AV.undef)).bind fun c65 => A.part1 p64 c65) (some (AV.tup []))).bind fun x66 =>
              (A.guard x63 true (some (v48.getD 2 AV.undef)) (some (AV.tup []))).bind fun x67 =>
              (A.guard x63 true (A.sub x67 (AV.int .i64 1)) (some (AV.tup []))).bind fun x68 =>
              (A.guard x63 true (A.iaddr 3 x66 x68) (some (AV.tup []))).bind fun x69 =>
              (A.guard x63 true (A.faddr 0 x69) (some (AV.tup []))).bind fun x70 =>
              (A.guard x63 true ((A.deref x70 r61.2).bind fun c71 => A.partA 0 2 c71) (some (AV.tup []))).bind fun x72 =>
              (A.guard x63 true (A.partA 0 2 c56) (some (AV.tup []))).bind fun x73 =>
              (A.guard x63 true (A.quiet (m_pick_before [x72, x73] r61.2) r61.2) (some (AV.tup []))).bind fun x74 =>
              (A.guard x63 true (A.not x74) (some (AV.tup []))).bind fun x75 =>
              (A.pick x63 x75 (AV.bool false)).bind fun x76 =>
              A.cond x76 (
               some (AX.ret, [(AV.int .i64 7), (v48.getD 1 AV.undef), (v48.getD 2 AV.undef)], r61.2)) (
               (A.add (v48.getD 2 AV.undef) (AV.int .i64 1)).bind fun x77 =>
               some (AX.normal, [(v48.getD 0 AV.undef), (v48.getD 1 AV.undef), x77], r61.2))))) (
            some (AX.exit 3, [(v48.getD 0 AV.undef), (v48.getD 1 AV.undef), (v48.getD 2 AV.undef)], s49))) [(v17.getD 0 AV.undef), (AV.lbx c25), (AV.int .i64 0)] r41.2).bind fun r78 =>
         bif r78.1 == AX.exit 3 then (
          (A.add (v17.getD 1 AV.undef) (AV.int .i64 1)).bind fun x79 =>
          some (AX.normal, [(r78.2.1.getD 0 AV.undef), x79], r78.2.2)) else
         bif r78.1 == AX.ret then (
          some (AX.ret, [(r78.2.1.getD 0 AV.undef), (v17.getD 1 AV.undef)], r78.2.2)) else
         none))))) (
     some (AX.exit 0, [(v17.getD 0 AV.undef), (v17.getD 1 AV.undef)], s18))) [(AV.int .i64 0), (AV.int .i64 0)] r15.2).bind fun r80 =>
  bif r80.1 == AX.exit 0 then (
   A.fin σ (AV.int .i64 0) r80.2.2) else
  bif r80.1 == AX.ret then (
   A.fin σ (r80.2.1.getD 0 AV.undef) r80.2.2) else
  none)
noncomputable def m_pick_CheckPresets : List AV → Heap → Option (AV × Heap) := A.wrap true [(.a [(.s 3), (.s 4)]), (.s 3)] .k (A.ar2 r_pick_CheckPresets)
noncomputable def r_pick_Level (a0 a1 a2 : AV) (σ : Heap) : Option (AV × Heap) :=
 (A.cells 2 a1).bind fun c1 =>
 (A.cells 2 a2).bind fun c2 =>
 (A.part1 0 c2).bind fun x3 =>
 (A.neq .i x3 (AV.int .i64 0)).bind fun x4 =>
 (A.guard x4 true (A.part1 1 c2) (some (AV.tup []))).bind fun x5 =>
 (A.guard x4 true (A.neq .i x5 (AV.int .i64 0)) (some (AV.tup []))).bind fun x6 =>
 (A.pick x4 x6 (AV.bool false)).bind fun x7 =>
 A.cond x7 (
  A.fin σ (AV.tup [(AV.int .i64 0), (AV.int .i64 3)]) σ) (
  (A.part1 0 c2).bind fun x8 =>
  (m_pick_isLevel [x8] σ).bind fun r9 =>
  (A.not r9.1).bind fun x10 =>
  A.cond x10 (
   A.fin σ (AV.tup [(AV.int .i64 0), (AV.int .i64 1)]) r9.2) (
   (A.part1 1 c2).bind fun x11 =>
   (A.eql .i x11 (AV.int .i64 0)).bind fun x12 =>
   A.cond x12 (
    (A.part1 0 c2).bind fun x13 =>
    A.fin σ (AV.tup [x13, (AV.int .i64 0)]) r9.2) (
    (A.lenS a0).bind fun x14 =>
    (A.loop (fun v15 s16 =>
      (A.lss (v15.getD 4 AV.undef) x14).bind fun x18 =>
      A.cond x18 (
       (A.iaddr 3 a0 (v15.getD 4 AV.undef)).bind fun x19 =>
       ((A.deref x19 s16).bind fun c20 => A.partA 0 3 c20).bind fun x21 =>
       (A.cells 3 x21).bind fun c22 =>
       (A.splice 0 c22 [(AV.int .i64 0), (AV.str ⟨#[]⟩), AV.nsl]).bind fun c23 =>
       (A.part1 0 c23).bind fun x24 =>
       ((A.lb (v15.getD 1 AV.undef)).bind fun _ => some (1)).bind fun p25 =>
       ((A.lb (v15.getD 1 AV.undef)).bind fun c26 => A.part1 p25 c26).bind fun x27 =>
       (A.neq .i x24 x27).bind fun x28 =>
       A.cond x28 (
        (A.add (v15.getD 4 AV.undef) (AV.int .i64 1)).bind fun x29 =>
        some (AX.normal, [(v15.getD 0 AV.undef), (v15.getD 1 AV.undef), (v15.getD 2 AV.undef), (v15.getD 3 AV.undef), x29], s16)) (
        (A.part1 2 c23).bind fun x30 =>
        (A.lenS x30).bind fun x31 =>
        (A.loop (fun v32 s33 =>
          (A.lss (v32.getD 3 AV.undef) x31).bind fun x35 =>
          A.cond x35 (
           (A.iaddr 3 x30 (v32.getD 3 AV.undef)).bind fun x36 =>
           ((A.deref x36 s33).bind fun c37 => A.partA 0 3 c37).bind fun x38 =>
           (A.cells 3 x38).bind fun c39 =>
           (A.splice 0 c39 [(AV.int .i64 0), (AV.str ⟨#[]⟩), (AV.int .i64 0)]).bind fun c40 =>
           (A.partA 0 2 c40).bind fun x41 =>
           ((A.lb (v32.getD 0 AV.undef)).bind fun c42 => A.partA 0 2 c42).bind fun x43 =>
           (A.eql (.s [0, 2]) x41 x43).bind fun x44 =>
           A.cond x44 (
            (A.part1 2 c40).bind fun x45 =>
            some (AX.ret, [(v32.getD 0 AV.undef), x45, (AV.int .i64 0), (v32.getD 3 AV.undef)], s33)) (
            (A.add (v32.getD 3 AV.undef) (AV.int .i64 1)).bind fun x46 =>
            some (AX.normal, [(v32.getD 0 AV.undef), (v32.getD 1 AV.undef), (v32.getD 2 AV.undef), x46], s33))) (
           some (AX.exit 2, [(v32.getD 0 AV.undef), (v32.getD 1 AV.undef), (v32.getD 2 AV.undef), (v32.getD 3 AV.undef)], s33))) [(v15.getD 0 AV.undef), (v15.getD 2 AV.undef), (v15.getD 3 AV.undef), (AV.int .i64 0)] s16).bind fun r47 =>
        bif r47.1 == AX.exit 2 then (
         some (AX.exit 0, [(r47.2.1.getD 0 AV.undef), AV.undef, (r47.2.1.getD 1 AV.undef), (r47.2.1.getD 2 AV.undef), (v15.getD 4 AV.undef)], r47.2.2)) else
        bif r47.1 == AX.ret then (
         some (AX.ret, [(r47.2.1.getD 0 AV.undef), AV.undef, (r47.2.1.getD 1 AV.undef), (r47.2.1.getD 2 AV.undef), (v15.getD 4 AV.undef)], r47.2.2)) else
        none)) (
       some (AX.exit 0, [(v15.getD 0 AV.undef), (v15.getD 1 AV.undef), (v15.getD 2 AV.undef), (v15.getD 3 AV.undef), (v15.getD 4 AV.undef)], s16))) [(AV.lbx c1), (AV.lbx c2), (AV.int .i64 0), (AV.int .i64 0), (AV.int .i64 0)] r9.2).bind fun r48 =>
    bif r48.1 == AX.exit 0 then (
     A.fin σ (AV.tup [(AV.int .i64 0), (AV.int .i64 8)]) r48.2.2) else
    bif r48.1 == AX.ret then (
     A.fin σ (AV.tup [(r48.2.1.getD 2 AV.undef), (r48.2.1.getD 3 AV.undef)]) r48.2.2) else
    none)))
noncomputable def m_pick_Level : List AV → Heap → Option (AV × Heap) := A.wrap true [(.s 3)] .k (A.ar3 r_pick_Level)
end Go.Proofs.YtphgchakmkankaaGreat

namespace Go.Proofs.YtphgchakmkankaaGreat
set_option linter.unusedSectionVars false
set_option linter.unusedSimpArgs false
set_option linter.unusedVariables false
set_option maxRecDepth 100000
noncomputable def r_cue_isTime (a0 : AV) (σ : Heap) : Option (AV × Heap) :=
 (m_word_Within [a0, (AV.int .i64 0), (AV.int .i64 36000000)] σ).bind fun r1 =>
 A.fin σ r1.1 r1.2
noncomputable def m_cue_isTime : List AV → Heap → Option (AV × Heap) := A.wrap true [] .k (A.ar1 r_cue_isTime)
noncomputable def r_cue_compare (a0 a1 : AV) (σ : Heap) : Option (AV × Heap) :=
 (A.cells 2 a0).bind fun c1 =>
 (A.cells 2 a1).bind fun c2 =>
 (A.part1 0 c1).bind fun x3 =>
 (A.part1 0 c2).bind fun x4 =>
 (A.neq .i x3 x4).bind fun x5 =>
 A.cond x5 (
  (A.part1 0 c1).bind fun x6 =>
  (A.part1 0 c2).bind fun x7 =>
  (A.lss x6 x7).bind fun x8 =>
  A.cond x8 (
   A.fin σ (AV.int .i64 (-1)) σ) (
   A.fin σ (AV.int .i64 1) σ)) (
  (A.part1 1 c1).bind fun x9 =>
  (A.part1 1 c2).bind fun x10 =>
  (m_strings_Compare [x9, x10] σ).bind fun r11 =>
  A.fin σ r11.1 r11.2)
noncomputable def m_cue_compare : List AV → Heap → Option (AV × Heap) := A.wrap true [] .k (A.ar2 r_cue_compare)
noncomputable def r_cue_checkMoves (a0 : AV) (σ : Heap) : Option (AV × Heap) :=
 (A.lenS a0).bind fun x1 =>
 (A.loop (fun v2 s3 =>
   (A.lss (v2.getD 1 AV.undef) x1).bind fun x5 =>
   A.cond x5 (
    (A.iaddr 8 a0 (v2.getD 1 AV.undef)).bind fun x6 =>
    ((A.deref x6 s3).bind fun c7 => A.partA 0 8 c7).bind fun x8 =>
    (A.cells 8 x8).bind fun c9 =>
    (A.splice 0 c9 [(AV.int .i64 0), (AV.str ⟨#[]⟩), (AV.int .i64 0), (AV.int .i64 0), (AV.bool false), (AV.bool false), (AV.int .i64 0), (AV.int .i64 0)]).bind fun c10 =>
    (A.part1 0 c10).bind fun x11 =>
    (m_word_Within [x11, (AV.int .i64 1), (AV.int .i64 9999)] s3).bind fun r12 =>
    (A.not r12.1).bind fun x13 =>
    A.cond x13 (
     some (AX.ret, [(AV.int .i64 1), (v2.getD 1 AV.undef)], r12.2)) (
     (A.part1 1 c10).bind fun x14 =>
     (m_word_Name [x14] r12.2).bind fun r15 =>
     (A.not r15.1).bind fun x16 =>
     A.cond x16 (
      some (AX.ret, [(AV.int .i64 5), (v2.getD 1 AV.undef)], r15.2)) (
      (A.part1 4 c10).bind fun x17 =>
      (A.guard x17 true (A.partA 2 2 c10) (some (AV.tup []))).bind fun x18 =>
      (A.guard x17 true (some (AV.agg [(AV.int .i64 0), (AV.int .i64 0)])) (some (AV.tup []))).bind fun x19 =>
      (A.guard x17 true (A.neq (.s [0, 0]) x18 x19) (some (AV.tup []))).bind fun x20 =>
      (A.pick x17 x20 (AV.bool false)).bind fun x21 =>
      (A.guard x21 false (A.part1 2 c10) (some (AV.tup []))).bind fun x22 =>
      (A.guard x21 false (A.neq .i x22 (AV.int .i64 0)) (some (AV.tup []))).bind fun x23 =>
      (A.guard x21 false (some x23) (some (AV.tup []))).bind fun x24 =>
      (A.guard x24 true (A.part1 3 c10) (some (AV.tup []))).bind fun x25 =>
      (A.guard x24 true (A.neq .i x25 (AV.int .i64 0)) (some (AV.tup []))).bind fun x26 =>
      (A.guard x21 false (A.pick x24 x26 (AV.bool false)) (some (AV.tup []))).bind fun x27 =>
      (A.pick x21 (AV.bool true) x27).bind fun x28 =>
      A.cond x28 (
       some (AX.ret, [(AV.int .i64 3), (v2.getD 1 AV.undef)], r15.2)) (
       (A.part1 2 c10).bind fun x29 =>
       (m_word_Within [x29, (AV.int .i64 0), (AV.int .i64 65535)] r15.2).bind fun r30 =>
       (A.not r30.1).bind fun x31 =>
       (A.guard x31 false (A.part1 3 c10) (some (AV.tup []))).bind fun x32 =>
       (A.guard x31 false (A.quiet (m_word_Within [x32, (AV.int .i64 0), (AV.int .i64 999)] r30.2) r30.2) (some (AV.tup []))).bind fun x33 =>
       (A.guard x31 false (A.not x33) (some (AV.tup []))).bind fun x34 =>
       (A.pick x31 (AV.bool true) x34).bind fun x35 =>
       A.cond x35 (
        some (AX.ret, [(AV.int .i64 1), (v2.getD 1 AV.undef)], r30.2)) (
        (A.part1 5 c10).bind fun x36 =>
        (A.not x36).bind fun x37 =>
        (A.guard x37 true (A.part1 6 c10) (some (AV.tup []))).bind fun x38 =>
        (A.guard x37 true (A.neq .i x38 (AV.int .i64 0)) (some (AV.tup []))).bind fun x39 =>
        (A.guard x37 true (some x39) (some (AV.tup []))).bind fun x40 =>
        (A.guard x40 false (A.part1 7 c10) (some (AV.tup []))).bind fun x41 =>
        (A.guard x40 false (A.neq .i x41 (AV.int .i64 0)) (some (AV.tup []))).bind fun x42 =>
        (A.guard x37 true (A.pick x40 (AV.bool true) x42) (some (AV.tup []))).bind fun x43 =>
        (A.pick x37 x43 (AV.bool false)).bind fun x44 =>
        A.cond x44 (
         some (AX.ret, [(AV.int .i64 3), (v2.getD 1 AV.undef)], r30.2)) (
         (A.part1 6 c10).bind fun x45 =>
         (m_cue_isTime [x45] r30.2).bind fun r46 =>
         (A.not r46.1).bind fun x47 =>
         (A.guard x47 false (A.part1 7 c10) (some (AV.tup []))).bind fun x48 =>
         (A.guard x47 false (A.quiet (m_cue_isTime [x48] r46.2) r46.2) (some (AV.tup []))).bind fun x49 =>
         (A.guard x47 false (A.not x49) (some (AV.tup []))).bind fun x50 =>
         (A.pick x47 (AV.bool true) x50).bind fun x51 =>
         A.cond x51 (
          some (AX.ret, [(AV.int .i64 1), (v2.getD 1 AV.undef)], r46.2)) (
          (A.gtr (v2.getD 1 AV.undef) (AV.int .i64 0)).bind fun x52 =>
          (A.guard x52 true (some a0) (some (AV.tup []))).bind fun x53 =>
          (A.guard x52 true (some (v2.getD 1 AV.undef)) (some (AV.tup []))).bind fun x54 =>
          (A.guard x52 true (A.sub x54 (AV.int .i64 1)) (some (AV.tup []))).bind fun x55 =>
          (A.guard x52 true (A.iaddr 8 x53 x55) (some (AV.tup []))).bind fun x56 =>
          (A.guard x52 true (A.faddr 0 x56) (some (AV.tup []))).bind fun x57 =>
          (A.guard x52 true ((A.deref x57 r46.2).bind fun c58 => A.partA 0 2 c58) (some (AV.tup []))).bind fun x59 =>
          (A.guard x52 true (A.partA 0 2 c10) (some (AV.tup []))).bind fun x60 =>
          (A.guard x52 true (A.quiet (m_cue_compare [x59, x60] r46.2) r46.2) (some (AV.tup []))).bind fun x61 =>
          (A.guard x52 true (A.geq x61 (AV.int .i64 0)) (some (AV.tup []))).bind fun x62 =>
          (A.pick x52 x62 (AV.bool false)).bind fun x63 =>
          A.cond x63 (
           some (AX.ret, [(AV.int .i64 7), (v2.getD 1 AV.undef)], r46.2)) (
           (A.add (v2.getD 1 AV.undef) (AV.int .i64 1)).bind fun x64 =>
           some (AX.normal, [(v2.getD 0 AV.undef), x64], r46.2))))))))) (
    some (AX.exit 0, [(v2.getD 0 AV.undef), (v2.getD 1 AV.undef)], s3))) [(AV.int .i64 0), (AV.int .i64 0)] σ).bind fun r65 =>
 bif r65.1 == AX.exit 0 then (
  A.fin σ (AV.int .i64 0) r65.2.2) else
 bif r65.1 == AX.ret then (
  A.fin σ (r65.2.1.getD 0 AV.undef) r65.2.2) else
 none
noncomputable def m_cue_checkMoves : List AV → Heap → Option (AV × Heap) := A.wrap true [(.s 8)] .k (A.ar1 r_cue_checkMoves)
noncomputable def r_cue_form (a0 : AV) (σ : Heap) : Option (AV × Heap) :=
 (A.lenS a0).bind fun x1 =>
 (A.gtr x1 (AV.int .i64 300)).bind fun x2 =>
 A.cond x2 (
  A.fin σ (AV.int .i64 2) σ) (
  (A.lenS a0).bind fun x3 =>
  (A.loop (fun v4 s5 =>
    (A.lss (v4.getD 2 AV.undef) x3).bind fun x7 =>
    A.cond x7 (
     (A.iaddr 11 a0 (v4.getD 2 AV.undef)).bind fun x8 =>
     ((A.deref x8 s5).bind fun c9 => A.partA 0 11 c9).bind fun x10 =>
     (A.cells 11 x10).bind fun c11 =>
     (A.splice 0 c11 [(AV.int .i64 0), (AV.str ⟨#[]⟩), (AV.int .i64 0), (AV.int .i64 0), (AV.int .i64 0), (AV.int .i64 0), (AV.int .i64 0), AV.nsl, (AV.bool false), (AV.int .i64 0), AV.nsl]).bind fun c12 =>
     (A.part1 0 c12).bind fun x13 =>
     (m_word_Within [x13, (AV.int .i64 1), (AV.int .i64 9999999)] s5).bind fun r14 =>
     (A.not r14.1).bind fun x15 =>
     A.cond x15 (
      some (AX.ret, [(AV.int .i64 1), (v4.getD 1 AV.undef), (v4.getD 2 AV.undef)], r14.2)) (
      (A.gtr (v4.getD 2 AV.undef) (AV.int .i64 0)).bind fun x16 =>
      (A.guard x16 true (A.part1 0 c12) (some (AV.tup []))).bind fun x17 =>
      (A.guard x16 true (some a0) (some (AV.tup []))).bind fun x18 =>
      (A.guard x16 true (some (v4.getD 2 AV.undef)) (some (AV.tup []))).bind fun x19 =>
      (A.guard x16 true (A.sub x19 (AV.int .i64 1)) (some (AV.tup []))).bind fun x20 =>
      (A.guard x16 true (A.iaddr 11 x18 x20) (some (AV.tup []))).bind fun x21 =>
      (A.guard x16 true (A.faddr 0 x21) (some (AV.tup []))).bind fun x22 =>
      (A.guard x16 true ((A.deref x22 r14.2).bind fun c23 => A.part1 0 c23) (some (AV.tup []))).bind fun x24 =>
      (A.guard x16 true (A.leq x17 x24) (some (AV.tup []))).bind fun x25 =>
      (A.pick x16 x25 (AV.bool false)).bind fun x26 =>
      A.cond x26 (
       some (AX.ret, [(AV.int .i64 7), (v4.getD 1 AV.undef), (v4.getD 2 AV.undef)], r14.2)) (
       (A.part1 1 c12).bind fun x27 =>
       (A.neq .z x27 (AV.str ⟨#[]⟩)).bind fun x28 =>
       (A.guard x28 true (A.part1 1 c12) (some (AV.tup []))).bind fun x29 =>
       (A.guard x28 true (A.quiet (m_word_Title [x29] r14.2) r14.2) (some (AV.tup []))).bind fun x30 =>
       (A.guard x28 true (A.not x30) (some (AV.tup []))).bind fun x31 =>
       (A.pick x28 x31 (AV.bool false)).bind fun x32 =>
       A.cond x32 (
        some (AX.ret, [(AV.int .i64 3), (v4.getD 1 AV.undef), (v4.getD 2 AV.undef)], r14.2)) (
        (A.part1 2 c12).bind fun x33 =>
        (m_cue_isTime [x33] r14.2).bind fun r34 =>
        (A.not r34.1).bind fun x35 =>
        (A.guard x35 false (A.part1 3 c12) (some (AV.tup []))).bind fun x36 =>
        (A.guard x35 false (A.quiet (m_cue_isTime [x36] r34.2) r34.2) (some (AV.tup []))).bind fun x37 =>
        (A.guard x35 false (A.not x37) (some (AV.tup []))).bind fun x38 =>
        (A.pick x35 (AV.bool true) x38).bind fun x39 =>
        (A.guard x39 false (A.part1 4 c12) (some (AV.tup []))).bind fun x40 =>
        (A.guard x39 false (A.quiet (m_cue_isTime [x40] r34.2) r34.2) (some (AV.tup []))).bind fun x41 =>
        (A.guard x39 false (A.not x41) (some (AV.tup []))).bind fun x42 =>
        (A.pick x39 (AV.bool true) x42).bind fun x43 =>
        (A.guard x43 false (A.part1 5 c12) (some (AV.tup []))).bind fun x44 =>
        (A.guard x43 false (A.quiet (m_cue_isTime [x44] r34.2) r34.2) (some (AV.tup []))).bind fun x45 =>
        (A.guard x43 false (A.not x45) (some (AV.tup []))).bind fun x46 =>
        (A.pick x43 (AV.bool true) x46).bind fun x47 =>
        (A.guard x47 false (A.part1 9 c12) (some (AV.tup []))).bind fun x48 =>
        (A.guard x47 false (A.quiet (m_word_Within [x48, (AV.int .i64 (-1)), (AV.int .i64 36000000)] r34.2) r34.2) (some (AV.tup []))).bind fun x49 =>
        (A.guard x47 false (A.not x49) (some (AV.tup []))).bind fun x50 =>
        (A.pick x47 (AV.bool true) x50).bind fun x51 =>
        A.cond x51 (
         some (AX.ret, [(AV.int .i64 1), (v4.getD 1 AV.undef), (v4.getD 2 AV.undef)], r34.2)) (
         (A.partA 6 2 c12).bind fun x52 =>
         (m_level_CheckCurve [x52] r34.2).bind fun r53 =>
         (A.neq .i r53.1 (AV.int .i64 0)).bind fun x54 =>
         A.cond x54 (
          some (AX.ret, [r53.1, (v4.getD 1 AV.undef), (v4.getD 2 AV.undef)], r53.2)) (
          (A.part1 10 c12).bind fun x55 =>
          (A.lenS x55).bind fun x56 =>
          (A.gtr x56 (AV.int .i64 2000)).bind fun x57 =>
          A.cond x57 (
           some (AX.ret, [(AV.int .i64 2), (v4.getD 1 AV.undef), (v4.getD 2 AV.undef)], r53.2)) (
           (A.part1 10 c12).bind fun x58 =>
           (m_cue_checkMoves [x58] r53.2).bind fun r59 =>
           (A.neq .i r59.1 (AV.int .i64 0)).bind fun x60 =>
           A.cond x60 (
            some (AX.ret, [r59.1, (v4.getD 1 AV.undef), (v4.getD 2 AV.undef)], r59.2)) (
            (A.part1 10 c12).bind fun x61 =>
            (A.lenS x61).bind fun x62 =>
            (A.add (v4.getD 1 AV.undef) x62).bind fun x63 =>
            (A.add (v4.getD 2 AV.undef) (AV.int .i64 1)).bind fun x64 =>
            some (AX.normal, [(v4.getD 0 AV.undef), x63, x64], r59.2))))))))) (
     some (AX.exit 0, [(v4.getD 0 AV.undef), (v4.getD 1 AV.undef), (v4.getD 2 AV.undef)], s5))) [(AV.int .i64 0), (AV.int .i64 0), (AV.int .i64 0)] σ).bind fun r65 =>
  bif r65.1 == AX.exit 0 then (
   (A.gtr (r65.2.1.getD 1 AV.undef) (AV.int .i64 10000)).bind fun x66 =>
   (m_word_When [x66, (AV.int .i64 2)] r65.2.2).bind fun r67 =>
   A.fin σ r67.1 r67.2) else
  bif r65.1 == AX.ret then (
   A.fin σ (r65.2.1.getD 0 AV.undef) r65.2.2) else
  none)
noncomputable def m_cue_form : List AV → Heap → Option (AV × Heap) := A.wrap true [(.e 11 [.k, .k, .k, .k, .k, .k, .k, (.s 2), .k, .k, (.s 8)])] .k (A.ar1 r_cue_form)
noncomputable def r_cue_CheckList (a0 a1 a2 : AV) (σ : Heap) : Option (AV × Heap) :=
 (A.cells 2 a0).bind fun c1 =>
 (A.partA 0 2 c1).bind fun x2 =>
 (m_pick_CheckPresets [x2, a1] σ).bind fun r3 =>
 (m_cue_form [a2] r3.2).bind fun r4 =>
 ((((A.cell r3.1).bind fun v => some [v]).bind fun c5 => (A.splice 0 c5 [(AV.int .i64 0), (AV.int .i64 0)]).bind fun c6 => ((A.cell r4.1).bind fun v => some [v]).bind fun c7 => (A.splice 1 c7 c6).bind fun c8 => some c8).bind fun cs => some (AV.sl 1 (chunks 1 2 cs))).bind fun x9 =>
 (m_word_First [x9] r4.2).bind fun r10 =>
 (A.neq .i r10.1 (AV.int .i64 0)).bind fun x11 =>
 A.cond x11 (
  A.fin σ r10.1 r10.2) (
  (A.partA 0 2 c1).bind fun x12 =>
  (m_fixture_Keys [x12] r10.2).bind fun r13 =>
  (A.ext 0 r13.1).bind fun x14 =>
  (A.ext 1 r13.1).bind fun x15 =>
  (A.lenS x14).bind fun x16 =>
  (A.loop (fun v17 s18 =>
    (A.lss (v17.getD 0 AV.undef) x16).bind fun x20 =>
    A.cond x20 (
     (A.iaddr 2 x14 (v17.getD 0 AV.undef)).bind fun x21 =>
     ((A.deref x21 s18).bind fun c22 => A.partA 0 2 c22).bind fun x23 =>
     (A.cells 2 x23).bind fun c24 =>
     (A.splice 0 c24 [(AV.int .i64 0), (AV.str ⟨#[]⟩)]).bind fun c25 =>
     (A.partA 0 2 c25).bind fun x26 =>
     (A.mupd (.s [0, 2]) (AV.om r13.2.length) x26 (AV.bool true) s18).bind fun h27 =>
     (A.add (v17.getD 0 AV.undef) (AV.int .i64 1)).bind fun x28 =>
     some (AX.normal, [x28], h27)) (
     some (AX.exit 0, [(v17.getD 0 AV.undef)], s18))) [(AV.int .i64 0)] (r13.2 ++ [Blk.map []])).bind fun r29 =>
  bif r29.1 == AX.exit 0 then (
   (A.lenS a2).bind fun x30 =>
   (A.loop (fun v31 s32 =>
     (A.lss (v31.getD 1 AV.undef) x30).bind fun x34 =>
     A.cond x34 (
      (A.iaddr 11 a2 (v31.getD 1 AV.undef)).bind fun x35 =>
      ((A.deref x35 s32).bind fun c36 => A.partA 0 11 c36).bind fun x37 =>
      (A.cells 11 x37).bind fun c38 =>
      (A.splice 0 c38 [(AV.int .i64 0), (AV.str ⟨#[]⟩), (AV.int .i64 0), (AV.int .i64 0), (AV.int .i64 0), (AV.int .i64 0), (AV.int .i64 0), AV.nsl, (AV.bool false), (AV.int .i64 0), AV.nsl]).bind fun c39 =>
      (A.part1 10 c39).bind fun x40 =>
      (A.lenS x40).bind fun x41 =>
      (A.loop (fun v42 s43 =>
        (A.lss (v42.getD 1 AV.undef) x41).bind fun x45 =>
        A.cond x45 (
         (A.iaddr 8 x40 (v42.getD 1 AV.undef)).bind fun x46 =>
         ((A.deref x46 s43).bind fun c47 => A.partA 0 8 c47).bind fun x48 =>
         (A.cells 8 x48).bind fun c49 =>
         (A.splice 0 c49 [(AV.int .i64 0), (AV.str ⟨#[]⟩), (AV.int .i64 0), (AV.int .i64 0), (AV.bool false), (AV.bool false), (AV.int .i64 0), (AV.int .i64 0)]).bind fun c50 =>
         (A.partA 0 2 c50).bind fun x51 =>
         (A.look (.s [0, 2]) (AV.om r13.2.length) x51 (AV.bool false) s43).bind fun x52 =>
         (A.not x52).bind fun x53 =>
         A.cond x53 (
          some (AX.ret, [(AV.int .i64 8), (v42.getD 1 AV.undef)], s43)) (
          (A.partA 0 2 c50).bind fun x54 =>
          (A.partA 2 2 c50).bind fun x55 =>
          (m_pick_Level [a1, x54, x55] s43).bind fun r56 =>
          (A.ext 0 r56.1).bind fun x57 =>
          (A.ext 1 r56.1).bind fun x58 =>
          (A.neq .i x58 (AV.int .i64 0)).bind fun x59 =>
          A.cond x59 (
           some (AX.ret, [x58, (v42.getD 1 AV.undef)], r56.2)) (
           (A.add (v42.getD 1 AV.undef) (AV.int .i64 1)).bind fun x60 =>
           some (AX.normal, [(v42.getD 0 AV.undef), x60], r56.2)))) (
         some (AX.exit 4, [(v42.getD 0 AV.undef), (v42.getD 1 AV.undef)], s43))) [(v31.getD 0 AV.undef), (AV.int .i64 0)] s32).bind fun r61 =>
      bif r61.1 == AX.exit 4 then (
       (A.add (v31.getD 1 AV.undef) (AV.int .i64 1)).bind fun x62 =>
       some (AX.normal, [(r61.2.1.getD 0 AV.undef), x62], r61.2.2)) else
      bif r61.1 == AX.ret then (
       some (AX.ret, [(r61.2.1.getD 0 AV.undef), (v31.getD 1 AV.undef)], r61.2.2)) else
      none) (
      some (AX.exit 2, [(v31.getD 0 AV.undef), (v31.getD 1 AV.undef)], s32))) [(AV.int .i64 0), (AV.int .i64 0)] r29.2.2).bind fun r63 =>
   bif r63.1 == AX.exit 2 then (
    A.fin σ (AV.int .i64 0) r63.2.2) else
   bif r63.1 == AX.ret then (
    A.fin σ (r63.2.1.getD 0 AV.undef) r63.2.2) else
   none) else
  none)
noncomputable def m_cue_CheckList : List AV → Heap → Option (AV × Heap) := A.wrap true [(.a [(.e 3 [.k, .k, (.e 7 [.k, .k, .k, .k, .k, .k, (.s 3)])]), (.s 4)]), (.e 3 [.k, .k, (.s 3)]), (.e 11 [.k, .k, .k, .k, .k, .k, .k, (.s 2), .k, .k, (.s 8)])] .k (A.ar3 r_cue_CheckList)
noncomputable def r_cue_state (a0 : AV) (σ : Heap) : Option (AV × Heap) :=
 (A.lenS a0).bind fun x1 =>
 (A.loop (fun v2 s3 =>
   (A.lss (v2.getD 0 AV.undef) x1).bind fun x5 =>
   A.cond x5 (
    (A.iaddr 11 a0 (v2.getD 0 AV.undef)).bind fun x6 =>
    ((A.deref x6 s3).bind fun c7 => A.partA 0 11 c7).bind fun x8 =>
    (A.cells 11 x8).bind fun c9 =>
    (A.splice 0 c9 [(AV.int .i64 0), (AV.str ⟨#[]⟩), (AV.int .i64 0), (AV.int .i64 0), (AV.int .i64 0), (AV.int .i64 0), (AV.int .i64 0), AV.nsl, (AV.bool false), (AV.int .i64 0), AV.nsl]).bind fun c10 =>
    (A.part1 10 c10).bind fun x11 =>
    (A.lenS x11).bind fun x12 =>
    (A.loop (fun v13 s14 =>
      (A.lss (v13.getD 1 AV.undef) x12).bind fun x16 =>
      A.cond x16 (
       (A.iaddr 8 x11 (v13.getD 1 AV.undef)).bind fun x17 =>
       ((A.deref x17 s14).bind fun c18 => A.partA 0 8 c18).bind fun x19 =>
       (A.cells 8 x19).bind fun c20 =>
       (A.splice 0 c20 [(AV.int .i64 0), (AV.str ⟨#[]⟩), (AV.int .i64 0), (AV.int .i64 0), (AV.bool false), (AV.bool false), (AV.int .i64 0), (AV.int .i64 0)]).bind fun c21 =>
       (A.part1 4 c21).bind fun x22 =>
       (A.cond x22 (
        (A.partA 0 2 c21).bind fun x24 =>
        (A.mdel (.s [0, 2]) (AV.om σ.length) x24 s14).bind fun h25 =>
        some ([(v13.getD 0 AV.undef)], h25)) (
        (A.partA 0 2 c21).bind fun x26 =>
        (A.partA 0 2 c21).bind fun x27 =>
        (A.partA 2 2 c21).bind fun x28 =>
        ((A.lb (v13.getD 0 AV.undef)).bind fun _ => some (0)).bind fun p29 =>
        ((A.lb (v13.getD 0 AV.undef)).bind fun c30 => A.part1 p29 c30).bind fun x31 =>
        (((A.cells 2 x27).bind fun c32 => (A.splice 0 c32 [(AV.int .i64 0), (AV.str ⟨#[]⟩), (AV.int .i64 0), (AV.int .i64 0), (AV.int .i64 0)]).bind fun c33 => (A.cells 2 x28).bind fun c34 => (A.splice 2 c34 c33).bind fun c35 => ((A.cell x31).bind fun v => some [v]).bind fun c36 => (A.splice 4 c36 c35).bind fun c37 => some c37).bind fun cs => some (AV.agg cs)).bind fun x38 =>
        (A.mupd (.s [0, 2]) (AV.om σ.length) x26 x38 s14).bind fun h39 =>
        some ([(v13.getD 0 AV.undef)], h39))).bind fun r23 =>
       (A.add (v13.getD 1 AV.undef) (AV.int .i64 1)).bind fun x40 =>
       some (AX.normal, [(r23.1.getD 0 AV.undef), x40], r23.2)) (
       some (AX.exit 2, [(v13.getD 0 AV.undef), (v13.getD 1 AV.undef)], s14))) [(AV.lbx c10), (AV.int .i64 0)] s3).bind fun r41 =>
    bif r41.1 == AX.exit 2 then (
     (A.add (v2.getD 0 AV.undef) (AV.int .i64 1)).bind fun x42 =>
     some (AX.normal, [x42], r41.2.2)) else
    none) (
    some (AX.exit 0, [(v2.getD 0 AV.undef)], s3))) [(AV.int .i64 0)] (σ ++ [Blk.map []])).bind fun r43 =>
 bif r43.1 == AX.exit 0 then (
  A.fin σ (AV.om σ.length) r43.2.2) else
 none
noncomputable def m_cue_state : List AV → Heap → Option (AV × Heap) := A.wrap true [(.e 11 [.k, .k, .k, .k, .k, .k, .k, (.s 2), .k, .k, (.s 8)])] .k (A.ar1 r_cue_state)
noncomputable def r_cue_levels_fn1 (a0 a1 : AV) (σ : Heap) : Option (AV × Heap) :=
 (A.cells 3 a0).bind fun c1 =>
 (A.part1 0 c1).bind fun x2 =>
 (A.faddr 1 a1).bind fun x3 =>
 ((A.deref x3 σ).bind fun c4 => A.part1 0 c4).bind fun x5 =>
 (A.eql .z x2 x5).bind fun x6 =>
 A.fin σ x6 σ
noncomputable def m_cue_levels_fn1 : List AV → Heap → Option (AV × Heap) := A.wrap true [(.a [.k, .k, (.e 7 [.k, .k, .k, .k, .k, .k, (.s 3)])])] .k (A.ar2 r_cue_levels_fn1)
noncomputable def r_cue_levels (a0 a1 a2 : AV) (σ : Heap) : Option (AV × Heap) :=
 (A.cells 2 a0).bind fun c1 =>
 (A.part1 1 c1).bind fun x2 =>
 (A.lenS x2).bind fun x3 =>
 (A.loop (fun v4 s5 =>
   (A.lss (v4.getD 2 AV.undef) x3).bind fun x7 =>
   A.cond x7 (
    (A.iaddr 4 x2 (v4.getD 2 AV.undef)).bind fun x8 =>
    ((A.deref x8 s5).bind fun c9 => A.partA 0 4 c9).bind fun x10 =>
    (A.cells 4 x10).bind fun c11 =>
    (A.storeAt (AV.op s5.length 0) c11 (s5 ++ [Blk.box [(AV.int .i64 0), (AV.str ⟨#[]⟩), (AV.int .i64 0), (AV.int .i64 0)]])).bind fun c12 =>
    ((A.lb (v4.getD 0 AV.undef)).bind fun _ => some (0)).bind fun p13 =>
    ((A.lb (v4.getD 0 AV.undef)).bind fun c14 => A.part1 p13 c14).bind fun x15 =>
    (m_slices_IndexFunc_api_Profile (A.tab (fun _ _ => none) [(226, m_cue_levels_fn1), (226, m_cue_levels_fn1)]) [x15, (AV.fn 226 [(AV.op s5.length 0)])] c12).bind fun r16 =>
    ((A.lb (v4.getD 0 AV.undef)).bind fun _ => some (0)).bind fun p17 =>
    ((A.lb (v4.getD 0 AV.undef)).bind fun c18 => A.part1 p17 c18).bind fun x19 =>
    (A.iaddr 3 x19 r16.1).bind fun x20 =>
    (A.faddr 2 x20).bind fun x21 =>
    ((A.deref x21 r16.2).bind fun c22 => A.part1 0 c22).bind fun x23 =>
    (A.lenS x23).bind fun x24 =>
    (A.loop (fun v25 s26 =>
      (A.lss (v25.getD 2 AV.undef) x24).bind fun x28 =>
      A.cond x28 (
       (A.iaddr 7 x23 (v25.getD 2 AV.undef)).bind fun x29 =>
       ((A.deref x29 s26).bind fun c30 => A.partA 0 7 c30).bind fun x31 =>
       (A.cells 7 x31).bind fun c32 =>
       (A.splice 0 c32 [(AV.str ⟨#[]⟩), (AV.int .i64 0), (AV.int .i64 0), (AV.int .i64 0), (AV.int .i64 0), (AV.bool false), AV.nsl]).bind fun c33 =>
       (A.faddr 0 (AV.op s5.length 0)).bind fun x34 =>
       ((A.deref x34 s26).bind fun c35 => A.part1 0 c35).bind fun x36 =>
       (A.part1 0 c33).bind fun x37 =>
       ((((A.cell x36).bind fun v => some [v]).bind fun c38 => (A.splice 0 c38 [(AV.int .i64 0), (AV.str ⟨#[]⟩)]).bind fun c39 => ((A.cell x37).bind fun v => some [v]).bind fun c40 => (A.splice 1 c40 c39).bind fun c41 => some c41).bind fun cs => some (AV.agg cs)).bind fun x42 =>
       (A.cells 2 x42).bind fun c43 =>
       (A.splice 0 c43 [(AV.int .i64 0), (AV.str ⟨#[]⟩)]).bind fun c44 =>
       (A.part1 4 c33).bind fun x45 =>
       (A.partA 0 2 c44).bind fun x46 =>
       (A.lookOk (.s [0, 2]) a2 x46 (AV.agg [(AV.int .i64 0), (AV.str ⟨#[]⟩), (AV.int .i64 0), (AV.int .i64 0), (AV.int .i64 0)]) s26).bind fun x47 =>
       (A.ext 0 x47).bind fun x48 =>
       (A.ext 1 x47).bind fun x49 =>
       (A.cells 5 x48).bind fun c50 =>
       (A.splice 0 c50 [(AV.int .i64 0), (AV.str ⟨#[]⟩), (AV.int .i64 0), (AV.int .i64 0), (AV.int .i64 0)]).bind fun c51 =>
       (A.cond x49 (
        (A.partA 0 2 c44).bind fun x53 =>
        (A.partA 2 2 c51).bind fun x54 =>
        (m_pick_Level [a1, x53, x54] s26).bind fun r55 =>
        (A.ext 0 r55.1).bind fun x56 =>
        (A.ext 1 r55.1).bind fun x57 =>
        some ([(v25.getD 0 AV.undef), (AV.lbx c44), x56], r55.2)) (
        some ([(v25.getD 0 AV.undef), (AV.lbx c44), x45], s26))).bind fun r52 =>
       ((A.lb (r52.1.getD 1 AV.undef)).bind fun c58 => A.partA 0 2 c58).bind fun x59 =>
       (((A.cells 2 x59).bind fun c60 => (A.splice 0 c60 [(AV.int .i64 0), (AV.str ⟨#[]⟩), (AV.int .i64 0)]).bind fun c61 => ((A.cell (r52.1.getD 2 AV.undef)).bind fun v => some [v]).bind fun c62 => (A.splice 2 c62 c61).bind fun c63 => some c63).bind fun cs => some (AV.agg cs)).bind fun x64 =>
       (((A.cells 3 x64).bind fun c65 => (A.splice 0 c65 [(AV.int .i64 0), (AV.str ⟨#[]⟩), (AV.int .i64 0)]).bind fun c66 => some c66).bind fun cs => some (AV.sl 3 (chunks 3 1 cs))).bind fun x67 =>
       (A.append 3 (140737488355328 / 32) (v25.getD 1 AV.undef) x67 r52.2).bind fun r68 =>
       (A.add (v25.getD 2 AV.undef) (AV.int .i64 1)).bind fun x69 =>
       some (AX.normal, [(r52.1.getD 0 AV.undef), r68.1, x69], r68.2)) (
       some (AX.exit 2, [(v25.getD 0 AV.undef), (v25.getD 1 AV.undef), (v25.getD 2 AV.undef)], s26))) [(v4.getD 0 AV.undef), (v4.getD 1 AV.undef), (AV.int .i64 0)] r16.2).bind fun r70 =>
    bif r70.1 == AX.exit 2 then (
     (A.add (v4.getD 2 AV.undef) (AV.int .i64 1)).bind fun x71 =>
     some (AX.normal, [(r70.2.1.getD 0 AV.undef), (r70.2.1.getD 1 AV.undef), x71], r70.2.2)) else
    none) (
    some (AX.exit 0, [(v4.getD 0 AV.undef), (v4.getD 1 AV.undef), (v4.getD 2 AV.undef)], s5))) [(AV.lbx c1), AV.nsl, (AV.int .i64 0)] σ).bind fun r72 =>
 bif r72.1 == AX.exit 0 then (
  A.fin σ (r72.2.1.getD 1 AV.undef) r72.2.2) else
 none
noncomputable def m_cue_levels : List AV → Heap → Option (AV × Heap) := A.wrap true [(.a [(.e 3 [.k, .k, (.e 7 [.k, .k, .k, .k, .k, .k, (.s 3)])]), (.s 4)]), (.e 3 [.k, .k, (.s 3)])] (.s 3) (A.ar3 r_cue_levels)
noncomputable def r_cue_place_fn1 (a0 a1 : AV) (σ : Heap) : Option (AV × Heap) :=
 (A.cells 11 a0).bind fun c1 =>
 (A.part1 0 c1).bind fun x2 =>
 (A.sub x2 a1).bind fun x3 =>
 A.fin σ x3 σ
noncomputable def m_cue_place_fn1 : List AV → Heap → Option (AV × Heap) := A.wrap true [(.a [.k, .k, .k, .k, .k, .k, .k, (.s 2), .k, .k, (.s 8)])] .k (A.ar2 r_cue_place_fn1)
noncomputable def r_cue_place (a0 a1 : AV) (σ : Heap) : Option (AV × Heap) :=
 (m_slices_BinarySearchFunc_api_Cue_int (A.tab (fun _ _ => none) [(177, m_cue_place_fn1)]) [a0, a1, (AV.fn 177 [])] σ).bind fun r1 =>
 (A.ext 0 r1.1).bind fun x2 =>
 (A.ext 1 r1.1).bind fun x3 =>
 A.fin σ (AV.tup [x2, x3]) r1.2
noncomputable def m_cue_place : List AV → Heap → Option (AV × Heap) := A.wrap true [(.e 11 [.k, .k, .k, .k, .k, .k, .k, (.s 2), .k, .k, (.s 8)])] .k (A.ar2 r_cue_place)
noncomputable def r_cue_State_fn1 (a0 a1 : AV) (σ : Heap) : Option (AV × Heap) :=
 (A.cells 5 a0).bind fun c1 =>
 (A.cells 5 a1).bind fun c2 =>
 (A.partA 0 2 c1).bind fun x3 =>
 (A.partA 0 2 c2).bind fun x4 =>
 (m_cue_compare [x3, x4] σ).bind fun r5 =>
 A.fin σ r5.1 r5.2
noncomputable def m_cue_State_fn1 : List AV → Heap → Option (AV × Heap) := A.wrap true [] .k (A.ar2 r_cue_State_fn1)
noncomputable def r_cue_State (a0 a1 : AV) (σ : Heap) : Option (AV × Heap) :=
 (m_cue_form [a0] σ).bind fun r1 =>
 (A.neq .i r1.1 (AV.int .i64 0)).bind fun x2 =>
 A.cond x2 (
  (A.fin σ (AV.tup [AV.nsl, r1.1]) r1.2).map fun p => (A.nn (.t [(.s 5), .k]) p.1, p.2)) (
  (m_cue_place [a0, a1] r1.2).bind fun r3 =>
  (A.ext 0 r3.1).bind fun x4 =>
  (A.ext 1 r3.1).bind fun x5 =>
  (A.not x5).bind fun x6 =>
  A.cond x6 (
   (A.fin σ (AV.tup [AV.nsl, (AV.int .i64 8)]) r3.2).map fun p => (A.nn (.t [(.s 5), .k]) p.1, p.2)) (
   (A.add x4 (AV.int .i64 1)).bind fun x7 =>
   (A.sliceS 11 a0 none (some x7) r3.2).bind fun x8 =>
   (m_cue_state [x8] r3.2).bind fun r9 =>
   (A.rangeA r9.1).bind fun es10 =>
   A.loopC (fun v11 s12 k13 =>
     A.nextA (AV.op r9.2.length 0) s12 fun x14 s15 =>
     (A.ext 0 x14).bind fun x16 =>
     A.cond x16 (
      (A.entryA (AV.op r9.2.length 0) s15).bind fun x17 =>
      (A.ext 1 x17).bind fun x18 =>
      (A.cells 5 x18).bind fun c19 =>
      (A.splice 0 c19 [(AV.int .i64 0), (AV.str ⟨#[]⟩), (AV.int .i64 0), (AV.int .i64 0), (AV.int .i64 0)]).bind fun c20 =>
      (A.partA 0 5 c20).bind fun x21 =>
      (((A.cells 5 x21).bind fun c22 => (A.splice 0 c22 [(AV.int .i64 0), (AV.str ⟨#[]⟩), (AV.int .i64 0), (AV.int .i64 0), (AV.int .i64 0)]).bind fun c23 => some c23).bind fun cs => some (AV.sl 5 (chunks 5 1 cs))).bind fun x24 =>
      (A.append 5 (140737488355328 / 48) (v11.getD 0 AV.undef) x24 s15).bind fun r25 =>
      k13 (AX.normal, [r25.1], r25.2)) (
      k13 (AX.exit 0, [(v11.getD 0 AV.undef)], s15))) [AV.nsl] (r9.2 ++ [Blk.it [] es10]) fun r26 =>
   bif r26.1 == AX.exit 0 then (
    (m_slices_SortFunc_Entry [(r26.2.1.getD 0 AV.undef), (AV.fn 297 [])] r26.2.2).bind fun r27 =>
    (A.fin σ (AV.tup [(r26.2.1.getD 0 AV.undef), (AV.int .i64 0)]) r27.2).map fun p => (A.nn (.t [(.s 5), .k]) p.1, p.2)) else
   none))
noncomputable def m_cue_State : List AV → Heap → Option (AV × Heap) := A.wrap true [(.e 11 [.k, .k, .k, .k, .k, .k, .k, (.s 2), .k, .k, (.s 8)])] (.t [(.s 5), .k]) (A.ar2 r_cue_State)
noncomputable def r_cue_Levels (a0 a1 a2 a3 : AV) (σ : Heap) : Option (AV × Heap) :=
 (A.cells 2 a0).bind fun c1 =>
 (A.partA 0 2 c1).bind fun x2 =>
 (m_cue_CheckList [x2, a1, a2] σ).bind fun r3 =>
 (A.neq .i r3.1 (AV.int .i64 0)).bind fun x4 =>
 A.cond x4 (
  A.fin σ (AV.tup [AV.nsl, r3.1]) r3.2) (
  (m_cue_place [a2, a3] r3.2).bind fun r5 =>
  (A.ext 0 r5.1).bind fun x6 =>
  (A.ext 1 r5.1).bind fun x7 =>
  (A.not x7).bind fun x8 =>
  A.cond x8 (
   A.fin σ (AV.tup [AV.nsl, (AV.int .i64 8)]) r5.2) (
   (A.partA 0 2 c1).bind fun x9 =>
   (A.add x6 (AV.int .i64 1)).bind fun x10 =>
   (A.sliceS 11 a2 none (some x10) r5.2).bind fun x11 =>
   (A.quiet (m_cue_state [x11] r5.2) r5.2).bind fun x12 =>
   (A.quiet (m_cue_levels [x9, a1, x12] r5.2) r5.2).bind fun x13 =>
   A.fin σ (AV.tup [x13, (AV.int .i64 0)]) r5.2))
noncomputable def m_cue_Levels : List AV → Heap → Option (AV × Heap) := A.wrap true [(.a [(.e 3 [.k, .k, (.e 7 [.k, .k, .k, .k, .k, .k, (.s 3)])]), (.s 4)]), (.e 3 [.k, .k, (.s 3)]), (.e 11 [.k, .k, .k, .k, .k, .k, .k, (.s 2), .k, .k, (.s 8)])] (.t [(.s 3), .k]) (A.ar4 r_cue_Levels)
end Go.Proofs.YtphgchakmkankaaGreat

namespace Go.Proofs.YtphgchakmkankaaGreat
set_option linter.unusedSectionVars false
set_option linter.unusedSimpArgs false
set_option linter.unusedVariables false
set_option maxRecDepth 100000
noncomputable def r_R1_IsWord (a0 : AV) (σ : Heap) : Option (AV × Heap) :=
 (A.lenZ a0).bind fun x1 =>
 (A.loop (fun v2 s3 =>
   (A.lss (v2.getD 1 AV.undef) x1).bind fun x5 =>
   A.cond x5 (
    (A.sidx a0 (v2.getD 1 AV.undef)).bind fun x6 =>
    (A.lss x6 (AV.int .u8 97)).bind fun x7 =>
    (A.guard x7 false (some x6) (some (AV.tup []))).bind fun x8 =>
    (A.guard x7 false (A.gtr x8 (AV.int .u8 122)) (some (AV.tup []))).bind fun x9 =>
    (A.pick x7 (AV.bool true) x9).bind fun x10 =>
    (A.guard x10 true (some x6) (some (AV.tup []))).bind fun x11 =>
    (A.guard x10 true (A.lss x11 (AV.int .u8 48)) (some (AV.tup []))).bind fun x12 =>
    (A.guard x10 true (some x12) (some (AV.tup []))).bind fun x13 =>
    (A.guard x13 false (some x6) (some (AV.tup []))).bind fun x14 =>
    (A.guard x13 false (A.gtr x14 (AV.int .u8 57)) (some (AV.tup []))).bind fun x15 =>
    (A.guard x10 true (A.pick x13 (AV.bool true) x15) (some (AV.tup []))).bind fun x16 =>
    (A.pick x10 x16 (AV.bool false)).bind fun x17 =>
    (A.guard x17 true (some x6) (some (AV.tup []))).bind fun x18 =>
    (A.guard x17 true (A.neq .i x18 (AV.int .u8 45)) (some (AV.tup []))).bind fun x19 =>
    (A.pick x17 x19 (AV.bool false)).bind fun x20 =>
    A.cond x20 (
     some (AX.ret, [(AV.bool false), (v2.getD 1 AV.undef)], s3)) (
     (A.add (v2.getD 1 AV.undef) (AV.int .i64 1)).bind fun x21 =>
     some (AX.normal, [(v2.getD 0 AV.undef), x21], s3))) (
    some (AX.exit 0, [(v2.getD 0 AV.undef), (v2.getD 1 AV.undef)], s3))) [(AV.bool false), (AV.int .i64 0)] σ).bind fun r22 =>
 bif r22.1 == AX.exit 0 then (
  (A.neq .z a0 (AV.str ⟨#[]⟩)).bind fun x23 =>
  A.fin σ x23 r22.2.2) else
 bif r22.1 == AX.ret then (
  A.fin σ (r22.2.1.getD 0 AV.undef) r22.2.2) else
 none
noncomputable def m_R1_IsWord : List AV → Heap → Option (AV × Heap) := A.wrap true [] .k (A.ar1 r_R1_IsWord)
noncomputable def r_R1_IsName (a0 : AV) (σ : Heap) : Option (AV × Heap) :=
 (m_R1_IsWord [a0] σ).bind fun r1 =>
 (A.guard r1.1 true (some a0) (some (AV.tup []))).bind fun x2 =>
 (A.guard r1.1 true (A.lenZ x2) (some (AV.tup []))).bind fun x3 =>
 (A.guard r1.1 true (A.leq x3 (AV.int .i64 20)) (some (AV.tup []))).bind fun x4 =>
 (A.pick r1.1 x4 (AV.bool false)).bind fun x5 =>
 (A.guard x5 true (some a0) (some (AV.tup []))).bind fun x6 =>
 (A.guard x5 true (A.sidx x6 (AV.int .i64 0)) (some (AV.tup []))).bind fun x7 =>
 (A.guard x5 true (A.geq x7 (AV.int .u8 97)) (some (AV.tup []))).bind fun x8 =>
 (A.pick x5 x8 (AV.bool false)).bind fun x9 =>
 (A.guard x9 true (some a0) (some (AV.tup []))).bind fun x10 =>
 (A.guard x9 true (A.sidx x10 (AV.int .i64 0)) (some (AV.tup []))).bind fun x11 =>
 (A.guard x9 true (A.leq x11 (AV.int .u8 122)) (some (AV.tup []))).bind fun x12 =>
 (A.pick x9 x12 (AV.bool false)).bind fun x13 =>
 A.fin σ x13 r1.2
noncomputable def m_R1_IsName : List AV → Heap → Option (AV × Heap) := A.wrap true [] .k (A.ar1 r_R1_IsName)
noncomputable def r_R1_Within (a0 a1 a2 : AV) (σ : Heap) : Option (AV × Heap) :=
 (A.geq a0 a1).bind fun x1 =>
 (A.guard x1 true (some a0) (some (AV.tup []))).bind fun x2 =>
 (A.guard x1 true (some a2) (some (AV.tup []))).bind fun x3 =>
 (A.guard x1 true (A.leq x2 x3) (some (AV.tup []))).bind fun x4 =>
 (A.pick x1 x4 (AV.bool false)).bind fun x5 =>
 A.fin σ x5 σ
noncomputable def m_R1_Within : List AV → Heap → Option (AV × Heap) := A.wrap true [] .k (A.ar3 r_R1_Within)
noncomputable def r_R1_IsLevel (a0 : AV) (σ : Heap) : Option (AV × Heap) :=
 (m_R1_Within [a0, (AV.int .i64 0), (AV.int .i64 65535)] σ).bind fun r1 =>
 A.fin σ r1.1 r1.2
noncomputable def m_R1_IsLevel : List AV → Heap → Option (AV × Heap) := A.wrap true [] .k (A.ar1 r_R1_IsLevel)
noncomputable def r_R1_IsTitle (a0 : AV) (σ : Heap) : Option (AV × Heap) :=
 (A.eql .z a0 (AV.str ⟨#[]⟩)).bind fun x1 =>
 (A.guard x1 false (some a0) (some (AV.tup []))).bind fun x2 =>
 (A.guard x1 false (A.lenZ x2) (some (AV.tup []))).bind fun x3 =>
 (A.guard x1 false (A.gtr x3 (AV.int .i64 60)) (some (AV.tup []))).bind fun x4 =>
 (A.pick x1 (AV.bool true) x4).bind fun x5 =>
 (A.guard x5 false (some a0) (some (AV.tup []))).bind fun x6 =>
 (A.guard x5 false (A.sidx x6 (AV.int .i64 0)) (some (AV.tup []))).bind fun x7 =>
 (A.guard x5 false (A.eql .i x7 (AV.int .u8 32)) (some (AV.tup []))).bind fun x8 =>
 (A.pick x5 (AV.bool true) x8).bind fun x9 =>
 (A.guard x9 false (some a0) (some (AV.tup []))).bind fun x10 =>
 (A.guard x9 false (some a0) (some (AV.tup []))).bind fun x11 =>
 (A.guard x9 false (A.lenZ x11) (some (AV.tup []))).bind fun x12 =>
 (A.guard x9 false (A.sub x12 (AV.int .i64 1)) (some (AV.tup []))).bind fun x13 =>
 (A.guard x9 false (A.sidx x10 x13) (some (AV.tup []))).bind fun x14 =>
 (A.guard x9 false (A.eql .i x14 (AV.int .u8 32)) (some (AV.tup []))).bind fun x15 =>
 (A.pick x9 (AV.bool true) x15).bind fun x16 =>
 A.cond x16 (
  A.fin σ (AV.bool false) σ) (
  (A.lenZ a0).bind fun x17 =>
  (A.loop (fun v18 s19 =>
    (A.lss (v18.getD 1 AV.undef) x17).bind fun x21 =>
    A.cond x21 (
     (A.sidx a0 (v18.getD 1 AV.undef)).bind fun x22 =>
     (A.lss x22 (AV.int .u8 32)).bind fun x23 =>
     (A.guard x23 false (some a0) (some (AV.tup []))).bind fun x24 =>
     (A.guard x23 false (some (v18.getD 1 AV.undef)) (some (AV.tup []))).bind fun x25 =>
     (A.guard x23 false (A.sidx x24 x25) (some (AV.tup []))).bind fun x26 =>
     (A.guard x23 false (A.gtr x26 (AV.int .u8 126)) (some (AV.tup []))).bind fun x27 =>
     (A.pick x23 (AV.bool true) x27).bind fun x28 =>
     A.cond x28 (
      some (AX.ret, [(AV.bool false), (v18.getD 1 AV.undef)], s19)) (
      (A.add (v18.getD 1 AV.undef) (AV.int .i64 1)).bind fun x29 =>
      some (AX.normal, [(v18.getD 0 AV.undef), x29], s19))) (
     some (AX.exit 0, [(v18.getD 0 AV.undef), (v18.getD 1 AV.undef)], s19))) [(AV.bool false), (AV.int .i64 0)] σ).bind fun r30 =>
  bif r30.1 == AX.exit 0 then (
   A.fin σ (AV.bool true) r30.2.2) else
  bif r30.1 == AX.ret then (
   A.fin σ (r30.2.1.getD 0 AV.undef) r30.2.2) else
  none)
noncomputable def m_R1_IsTitle : List AV → Heap → Option (AV × Heap) := A.wrap true [] .k (A.ar1 r_R1_IsTitle)
noncomputable def r_R1_IsTime (a0 : AV) (σ : Heap) : Option (AV × Heap) :=
 (m_R1_Within [a0, (AV.int .i64 0), (AV.int .i64 36000000)] σ).bind fun r1 =>
 A.fin σ r1.1 r1.2
noncomputable def m_R1_IsTime : List AV → Heap → Option (AV × Heap) := A.wrap true [] .k (A.ar1 r_R1_IsTime)
noncomputable def r_R1_CheckCurve (a0 : AV) (σ : Heap) : Option (AV × Heap) :=
 (A.cells 2 a0).bind fun c1 =>
 (A.part1 0 c1).bind fun x2 =>
 (m_R1_Within [x2, (AV.int .i64 1), (AV.int .i64 6)] σ).bind fun r3 =>
 (A.not r3.1).bind fun x4 =>
 A.cond x4 (
  A.fin σ (AV.int .i64 4) r3.2) (
  (A.part1 0 c1).bind fun x5 =>
  (A.neq .i x5 (AV.int .i64 6)).bind fun x6 =>
  (A.guard x6 true (A.part1 1 c1) (some (AV.tup []))).bind fun x7 =>
  (A.guard x6 true (A.lenS x7) (some (AV.tup []))).bind fun x8 =>
  (A.guard x6 true (A.gtr x8 (AV.int .i64 0)) (some (AV.tup []))).bind fun x9 =>
  (A.pick x6 x9 (AV.bool false)).bind fun x10 =>
  A.cond x10 (
   A.fin σ (AV.int .i64 3) r3.2) (
   (A.part1 0 c1).bind fun x11 =>
   (A.neq .i x11 (AV.int .i64 6)).bind fun x12 =>
   A.cond x12 (
    A.fin σ (AV.int .i64 0) r3.2) (
    (A.part1 1 c1).bind fun x13 =>
    (A.lenS x13).bind fun x14 =>
    (A.lss x14 (AV.int .i64 2)).bind fun x15 =>
    A.cond x15 (
     A.fin σ (AV.int .i64 8) r3.2) (
     (A.part1 1 c1).bind fun x16 =>
     (A.lenS x16).bind fun x17 =>
     (A.gtr x17 (AV.int .i64 20)).bind fun x18 =>
     A.cond x18 (
      A.fin σ (AV.int .i64 2) r3.2) (
      (A.part1 1 c1).bind fun x19 =>
      (A.lenS x19).bind fun x20 =>
      (A.loop (fun v21 s22 =>
        (A.lss (v21.getD 2 AV.undef) x20).bind fun x24 =>
        A.cond x24 (
         (A.iaddr 2 x19 (v21.getD 2 AV.undef)).bind fun x25 =>
         ((A.deref x25 s22).bind fun c26 => A.partA 0 2 c26).bind fun x27 =>
         (A.cells 2 x27).bind fun c28 =>
         (A.splice 0 c28 [(AV.int .i64 0), (AV.int .i64 0)]).bind fun c29 =>
         (A.part1 0 c29).bind fun x30 =>
         (m_R1_Within [x30, (AV.int .i64 0), (AV.int .i64 1000)] s22).bind fun r31 =>
         (A.not r31.1).bind fun x32 =>
         (A.guard x32 false (A.part1 1 c29) (some (AV.tup []))).bind fun x33 =>
         (A.guard x32 false (A.quiet (m_R1_Within [x33, (AV.int .i64 0), (AV.int .i64 1000)] r31.2) r31.2) (some (AV.tup []))).bind fun x34 =>
         (A.guard x32 false (A.not x34) (some (AV.tup []))).bind fun x35 =>
         (A.pick x32 (AV.bool true) x35).bind fun x36 =>
         A.cond x36 (
          some (AX.ret, [(v21.getD 0 AV.undef), (AV.int .i64 1), (v21.getD 2 AV.undef)], r31.2)) (
          (A.add (v21.getD 2 AV.undef) (AV.int .i64 1)).bind fun x37 =>
          some (AX.normal, [(v21.getD 0 AV.undef), (v21.getD 1 AV.undef), x37], r31.2))) (
         some (AX.exit 1, [(v21.getD 0 AV.undef), (v21.getD 1 AV.undef), (v21.getD 2 AV.undef)], s22))) [(AV.lbx c1), (AV.int .i64 0), (AV.int .i64 0)] r3.2).bind fun r38 =>
      bif r38.1 == AX.exit 1 then (
       ((A.lb (r38.2.1.getD 0 AV.undef)).bind fun _ => some (1)).bind fun p39 =>
       ((A.lb (r38.2.1.getD 0 AV.undef)).bind fun c40 => A.part1 p39 c40).bind fun x41 =>
       (A.iaddr 2 x41 (AV.int .i64 0)).bind fun x42 =>
       ((A.deref x42 r38.2.2).bind fun c43 => A.partA 0 2 c43).bind fun x44 =>
       (A.neq (.s [0, 0]) x44 (AV.agg [(AV.int .i64 0), (AV.int .i64 0)])).bind fun x45 =>
       ((A.lb (r38.2.1.getD 0 AV.undef)).bind fun _ => some (1)).bind fun p46 =>
              (A.guard x45 false ((A.lb (r38.2.1.getD 0 AV.undef)).bind fun c47 => A.part1 p46 c47) (some (AV.tup []))).bind fun x48 =>
       ((A.lb (r38.2.1.getD 0 AV.undef)).bind fun _ => some (1)).bind fun p49 =>
              (A.guard x45 false ((A.lb (r38.2.1.getD 0 AV.undef)).bind fun c50 => A.part1 p49 c50) (some (AV.tup []))).bind fun x51 =>
       (A.guard x45 false (A.lenS x51) (some (AV.tup []))).bind fun x52 =>
       (A.guard x45 false (A.sub x52 (AV.int .i64 1)) (some (AV.tup []))).bind fun x53 =>
       (A.guard x45 false (A.iaddr 2 x48 x53) (some (AV.tup []))).bind fun x54 =>
       (A.guard x45 false ((A.deref x54 r38.2.2).bind fun c55 => A.partA 0 2 c55) (some (AV.tup []))).bind fun x56 =>
       (A.guard x45 false ((((A.cell (AV.int .i64 1000)).bind fun v => some [v]).bind fun c57 => (A.splice 0 c57 [(AV.int .i64 0), (AV.int .i64 0)]).bind fun c58 => ((A.cell (AV.int .i64 1000)).bind fun v => some [v]).bind fun c59 => (A.splice 1 c59 c58).bind fun c60 => some c60).bind fun cs => some (AV.agg cs)) (some (AV.tup []))).bind fun x61 =>
       (A.guard x45 false (A.neq (.s [0, 0]) x56 x61) (some (AV.tup []))).bind fun x62 =>
       (A.pick x45 (AV.bool true) x62).bind fun x63 =>
       A.cond x63 (
        A.fin σ (AV.int .i64 3) r38.2.2) (
        (A.loop (fun v64 s65 =>
          ((A.lb (v64.getD 0 AV.undef)).bind fun _ => some (1)).bind fun p67 =>
          ((A.lb (v64.getD 0 AV.undef)).bind fun c68 => A.part1 p67 c68).bind fun x69 =>
          (A.lenS x69).bind fun x70 =>
          (A.lss (v64.getD 2 AV.undef) x70).bind fun x71 =>
          A.cond x71 (
           ((A.lb (v64.getD 0 AV.undef)).bind fun _ => some (1)).bind fun p72 =>
           ((A.lb (v64.getD 0 AV.undef)).bind fun c73 => A.part1 p72 c73).bind fun x74 =>
           (A.iaddr 2 x74 (v64.getD 2 AV.undef)).bind fun x75 =>
           (A.faddr 0 x75).bind fun x76 =>
           ((A.deref x76 s65).bind fun c77 => A.part1 0 c77).bind fun x78 =>
           ((A.lb (v64.getD 0 AV.undef)).bind fun _ => some (1)).bind fun p79 =>
           ((A.lb (v64.getD 0 AV.undef)).bind fun c80 => A.part1 p79 c80).bind fun x81 =>
           (A.sub (v64.getD 2 AV.undef) (AV.int .i64 1)).bind fun x82 =>
           (A.iaddr 2 x81 x82).bind fun x83 =>
           (A.faddr 0 x83).bind fun x84 =>
           ((A.deref x84 s65).bind fun c85 => A.part1 0 c85).bind fun x86 =>
           (A.leq x78 x86).bind fun x87 =>
           ((A.lb (v64.getD 0 AV.undef)).bind fun _ => some (1)).bind fun p88 =>
                      (A.guard x87 false ((A.lb (v64.getD 0 AV.undef)).bind fun c89 => A.part1 p88 c89) (some (AV.tup []))).bind fun x90 =>
           (A.guard x87 false (some (v64.getD 2 AV.undef)) (some (AV.tup []))).bind fun x91 =>
           (A.guard x87 false (A.iaddr 2 x90 x91) (some (AV.tup []))).bind fun x92 =>
           (A.guard x87 false (A.faddr 1 x92) (some (AV.tup []))).bind fun x93 =>
           (A.guard x87 false ((A.deref x93 s65).bind fun c94 => A.part1 0 c94) (some (AV.tup []))).bind fun x95 =>
           ((A.lb (v64.getD 0 AV.undef)).bind fun _ => some (1)).bind fun p96 =>
                      (A.guard x87 false ((A.lb (v64.getD 0 AV.undef)).bind fun c97 => A.part1 p96 c97) (some (AV.tup []))).bind fun x98 =>
           (A.guard x87 false (some (v64.getD 2 AV.undef)) (some (AV.tup []))).bind fun x99 =>
           (A.guard x87 false (A.sub x99 (AV.int .i64 1)) (some (AV.tup []))).bind fun x100 =>
           (A.guard x87 false (A.iaddr 2 x98 x100) (some (AV.tup []))).bind fun x101 =>
           (A.guard x87 false (A.faddr 1 x101) (some (AV.tup []))).bind fun x102 =>
           (A.guard x87 false ((A.deref x102 s65).bind fun c103 => A.part1 0 c103) (some (AV.tup []))).bind fun x104 =>
           (A.guard x87 false (A.lss x95 x104) (some (AV.tup []))).bind fun x105 =>
           (A.pick x87 (AV.bool true) x105).bind fun x106 =>
           A.cond x106 (
            some (AX.ret, [(v64.getD 0 AV.undef), (AV.int .i64 7), (v64.getD 2 AV.undef)], s65)) (
            (A.add (v64.getD 2 AV.undef) (AV.int .i64 1)).bind fun x107 =>
            some (AX.normal, [(v64.getD 0 AV.undef), (v64.getD 1 AV.undef), x107], s65))) (
           some (AX.exit 3, [(v64.getD 0 AV.undef), (v64.getD 1 AV.undef), (v64.getD 2 AV.undef)], s65))) [(r38.2.1.getD 0 AV.undef), (r38.2.1.getD 1 AV.undef), (AV.int .i64 1)] r38.2.2).bind fun r108 =>
        bif r108.1 == AX.exit 3 then (
         A.fin σ (AV.int .i64 0) r108.2.2) else
        bif r108.1 == AX.ret then (
         A.fin σ (r108.2.1.getD 1 AV.undef) r108.2.2) else
        none)) else
      bif r38.1 == AX.ret then (
       A.fin σ (r38.2.1.getD 1 AV.undef) r38.2.2) else
      none)))))
noncomputable def m_R1_CheckCurve : List AV → Heap → Option (AV × Heap) := A.wrap true [(.a [.k, (.s 2)])] .k (A.ar1 r_R1_CheckCurve)
end Go.Proofs.YtphgchakmkankaaGreat

namespace Go.Proofs.YtphgchakmkankaaGreat
set_option linter.unusedSectionVars false
set_option linter.unusedSimpArgs false
set_option linter.unusedVariables false
set_option maxRecDepth 100000
noncomputable def r_R2_slots (a0 : AV) (σ : Heap) : Option (AV × Heap) :=
 (A.cells 7 a0).bind fun c1 =>
 (A.part1 3 c1).bind fun x2 =>
 (A.eql .i x2 (AV.int .i64 0)).bind fun x3 =>
 A.cond x3 (
  (A.part1 2 c1).bind fun x4 =>
  ((((A.cell x4).bind fun v => some [v]).bind fun c5 => (A.splice 0 c5 [(AV.int .i64 0)]).bind fun c6 => some c6).bind fun cs => some (AV.sl 1 (chunks 1 1 cs))).bind fun x7 =>
  A.fin σ x7 σ) (
  (A.part1 2 c1).bind fun x8 =>
  (A.part1 3 c1).bind fun x9 =>
  ((((A.cell x8).bind fun v => some [v]).bind fun c10 => (A.splice 0 c10 [(AV.int .i64 0), (AV.int .i64 0)]).bind fun c11 => ((A.cell x9).bind fun v => some [v]).bind fun c12 => (A.splice 1 c12 c11).bind fun c13 => some c13).bind fun cs => some (AV.sl 1 (chunks 1 2 cs))).bind fun x14 =>
  A.fin σ x14 σ)
noncomputable def m_R2_slots : List AV → Heap → Option (AV × Heap) := A.wrap true [(.a [.k, .k, .k, .k, .k, .k, (.s 3)])] (.s 1) (A.ar1 r_R2_slots)
noncomputable def r_R2_checkParam (a0 a1 a2 : AV) (σ : Heap) : Option (AV × Heap) :=
 (A.cells 7 a0).bind fun c1 =>
 (A.part1 0 c1).bind fun x2 =>
 (m_R1_IsName [x2] σ).bind fun r3 =>
 (A.not r3.1).bind fun x4 =>
 A.cond x4 (
  A.fin σ (AV.int .i64 5) r3.2) (
  (A.lenS a1).bind fun x5 =>
  (A.loop (fun v6 s7 =>
    (A.lss (v6.getD 2 AV.undef) x5).bind fun x9 =>
    A.cond x9 (
     (A.iaddr 7 a1 (v6.getD 2 AV.undef)).bind fun x10 =>
     ((A.deref x10 s7).bind fun c11 => A.partA 0 7 c11).bind fun x12 =>
     (A.cells 7 x12).bind fun c13 =>
     (A.splice 0 c13 [(AV.str ⟨#[]⟩), (AV.int .i64 0), (AV.int .i64 0), (AV.int .i64 0), (AV.int .i64 0), (AV.bool false), AV.nsl]).bind fun c14 =>
     (A.part1 0 c14).bind fun x15 =>
     ((A.lb (v6.getD 0 AV.undef)).bind fun _ => some (0)).bind fun p16 =>
     ((A.lb (v6.getD 0 AV.undef)).bind fun c17 => A.part1 p16 c17).bind fun x18 =>
     (A.eql .z x15 x18).bind fun x19 =>
     A.cond x19 (
      some (AX.ret, [(v6.getD 0 AV.undef), (AV.int .i64 6), (v6.getD 2 AV.undef)], s7)) (
      (A.add (v6.getD 2 AV.undef) (AV.int .i64 1)).bind fun x20 =>
      some (AX.normal, [(v6.getD 0 AV.undef), (v6.getD 1 AV.undef), x20], s7))) (
     some (AX.exit 0, [(v6.getD 0 AV.undef), (v6.getD 1 AV.undef), (v6.getD 2 AV.undef)], s7))) [(AV.lbx c1), (AV.int .i64 0), (AV.int .i64 0)] r3.2).bind fun r21 =>
  bif r21.1 == AX.exit 0 then (
   ((A.lb (r21.2.1.getD 0 AV.undef)).bind fun _ => some (1)).bind fun p22 =>
   ((A.lb (r21.2.1.getD 0 AV.undef)).bind fun c23 => A.part1 p22 c23).bind fun x24 =>
   (m_R1_Within [x24, (AV.int .i64 1), (AV.int .i64 4)] r21.2.2).bind fun r25 =>
   (A.not r25.1).bind fun x26 =>
   A.cond x26 (
    A.fin σ (AV.int .i64 4) r25.2) (
    ((A.lb (r21.2.1.getD 0 AV.undef)).bind fun _ => some (2)).bind fun p27 =>
    ((A.lb (r21.2.1.getD 0 AV.undef)).bind fun c28 => A.part1 p27 c28).bind fun x29 =>
    (m_R1_Within [x29, (AV.int .i64 1), a2] r25.2).bind fun r30 =>
    (A.not r30.1).bind fun x31 =>
    ((A.lb (r21.2.1.getD 0 AV.undef)).bind fun _ => some (3)).bind fun p32 =>
        (A.guard x31 false ((A.lb (r21.2.1.getD 0 AV.undef)).bind fun c33 => A.part1 p32 c33) (some (AV.tup []))).bind fun x34 =>
    (A.guard x31 false (some a2) (some (AV.tup []))).bind fun x35 =>
    (A.guard x31 false (A.quiet (m_R1_Within [x34, (AV.int .i64 0), x35] r30.2) r30.2) (some (AV.tup []))).bind fun x36 =>
    (A.guard x31 false (A.not x36) (some (AV.tup []))).bind fun x37 =>
    (A.pick x31 (AV.bool true) x37).bind fun x38 =>
    ((A.lb (r21.2.1.getD 0 AV.undef)).bind fun _ => some (4)).bind fun p39 =>
        (A.guard x38 false ((A.lb (r21.2.1.getD 0 AV.undef)).bind fun c40 => A.part1 p39 c40) (some (AV.tup []))).bind fun x41 =>
    (A.guard x38 false (A.quiet (m_R1_IsLevel [x41] r30.2) r30.2) (some (AV.tup []))).bind fun x42 =>
    (A.guard x38 false (A.not x42) (some (AV.tup []))).bind fun x43 =>
    (A.pick x38 (AV.bool true) x43).bind fun x44 =>
    A.cond x44 (
     A.fin σ (AV.int .i64 1) r30.2) (
     ((A.lb (r21.2.1.getD 0 AV.undef)).bind fun _ => some (2)).bind fun p45 =>
     ((A.lb (r21.2.1.getD 0 AV.undef)).bind fun c46 => A.part1 p45 c46).bind fun x47 =>
     ((A.lb (r21.2.1.getD 0 AV.undef)).bind fun _ => some (3)).bind fun p48 =>
     ((A.lb (r21.2.1.getD 0 AV.undef)).bind fun c49 => A.part1 p48 c49).bind fun x50 =>
     (A.eql .i x47 x50).bind fun x51 =>
     A.cond x51 (
      A.fin σ (AV.int .i64 12) r30.2) (
      (A.lenS a1).bind fun x52 =>
      (A.loop (fun v53 s54 =>
        (A.lss (v53.getD 2 AV.undef) x52).bind fun x56 =>
        A.cond x56 (
         (A.iaddr 7 a1 (v53.getD 2 AV.undef)).bind fun x57 =>
         ((A.deref x57 s54).bind fun c58 => A.partA 0 7 c58).bind fun x59 =>
         (A.cells 7 x59).bind fun c60 =>
         (A.splice 0 c60 [(AV.str ⟨#[]⟩), (AV.int .i64 0), (AV.int .i64 0), (AV.int .i64 0), (AV.int .i64 0), (AV.bool false), AV.nsl]).bind fun c61 =>
         ((A.lb (v53.getD 0 AV.undef)).bind fun c62 => A.partA 0 7 c62).bind fun x63 =>
         (m_R2_slots [x63] s54).bind fun r64 =>
         (A.lenS r64.1).bind fun x65 =>
         (A.loop (fun v66 s67 =>
           (A.lss (v66.getD 3 AV.undef) x65).bind fun x69 =>
           A.cond x69 (
            (A.iaddr 1 r64.1 (v66.getD 3 AV.undef)).bind fun x70 =>
            ((A.deref x70 s67).bind fun c71 => A.part1 0 c71).bind fun x72 =>
            ((A.lb (v66.getD 2 AV.undef)).bind fun c73 => A.partA 0 7 c73).bind fun x74 =>
            (m_R2_slots [x74] s67).bind fun r75 =>
            (m_slices_Contains_int [r75.1, x72] r75.2).bind fun r76 =>
            A.cond r76.1 (
             some (AX.ret, [(v66.getD 0 AV.undef), (AV.int .i64 12), (v66.getD 2 AV.undef), (v66.getD 3 AV.undef)], r76.2)) (
             (A.add (v66.getD 3 AV.undef) (AV.int .i64 1)).bind fun x77 =>
             some (AX.normal, [(v66.getD 0 AV.undef), (v66.getD 1 AV.undef), (v66.getD 2 AV.undef), x77], r76.2))) (
            some (AX.exit 5, [(v66.getD 0 AV.undef), (v66.getD 1 AV.undef), (v66.getD 2 AV.undef), (v66.getD 3 AV.undef)], s67))) [(v53.getD 0 AV.undef), (v53.getD 1 AV.undef), (AV.lbx c61), (AV.int .i64 0)] r64.2).bind fun r78 =>
         bif r78.1 == AX.exit 5 then (
          (A.add (v53.getD 2 AV.undef) (AV.int .i64 1)).bind fun x79 =>
          some (AX.normal, [(r78.2.1.getD 0 AV.undef), (r78.2.1.getD 1 AV.undef), x79], r78.2.2)) else
         bif r78.1 == AX.ret then (
          some (AX.ret, [(r78.2.1.getD 0 AV.undef), (r78.2.1.getD 1 AV.undef), (v53.getD 2 AV.undef)], r78.2.2)) else
         none) (
         some (AX.exit 3, [(v53.getD 0 AV.undef), (v53.getD 1 AV.undef), (v53.getD 2 AV.undef)], s54))) [(r21.2.1.getD 0 AV.undef), (r21.2.1.getD 1 AV.undef), (AV.int .i64 0)] r30.2).bind fun r80 =>
      bif r80.1 == AX.exit 3 then (
       ((A.lb (r80.2.1.getD 0 AV.undef)).bind fun _ => some (6)).bind fun p81 =>
       ((A.lb (r80.2.1.getD 0 AV.undef)).bind fun c82 => A.part1 p81 c82).bind fun x83 =>
       (A.lenS x83).bind fun x84 =>
       (A.gtr x84 (AV.int .i64 30)).bind fun x85 =>
       A.cond x85 (
        A.fin σ (AV.int .i64 2) r80.2.2) (
        ((A.lb (r80.2.1.getD 0 AV.undef)).bind fun _ => some (6)).bind fun p86 =>
        ((A.lb (r80.2.1.getD 0 AV.undef)).bind fun c87 => A.part1 p86 c87).bind fun x88 =>
        (A.lenS x88).bind fun x89 =>
        (A.loop (fun v90 s91 =>
          (A.lss (v90.getD 2 AV.undef) x89).bind fun x93 =>
          A.cond x93 (
           (A.iaddr 3 x88 (v90.getD 2 AV.undef)).bind fun x94 =>
           ((A.deref x94 s91).bind fun c95 => A.partA 0 3 c95).bind fun x96 =>
           (A.cells 3 x96).bind fun c97 =>
           (A.splice 0 c97 [(AV.int .i64 0), (AV.int .i64 0), (AV.str ⟨#[]⟩)]).bind fun c98 =>
           (A.part1 0 c98).bind fun x99 =>
           (m_R1_IsLevel [x99] s91).bind fun r100 =>
           (A.not r100.1).bind fun x101 =>
           (A.guard x101 false (A.part1 1 c98) (some (AV.tup []))).bind fun x102 =>
           (A.guard x101 false (A.quiet (m_R1_IsLevel [x102] r100.2) r100.2) (some (AV.tup []))).bind fun x103 =>
           (A.guard x101 false (A.not x103) (some (AV.tup []))).bind fun x104 =>
           (A.pick x101 (AV.bool true) x104).bind fun x105 =>
           (A.guard x105 false (A.part1 0 c98) (some (AV.tup []))).bind fun x106 =>
           (A.guard x105 false (A.part1 1 c98) (some (AV.tup []))).bind fun x107 =>
           (A.guard x105 false (A.gtr x106 x107) (some (AV.tup []))).bind fun x108 =>
           (A.pick x105 (AV.bool true) x108).bind fun x109 =>
           A.cond x109 (
            some (AX.ret, [(v90.getD 0 AV.undef), (AV.int .i64 1), (v90.getD 2 AV.undef)], r100.2)) (
            (A.gtr (v90.getD 2 AV.undef) (AV.int .i64 0)).bind fun x110 =>
            (A.guard x110 true (A.part1 0 c98) (some (AV.tup []))).bind fun x111 =>
            ((A.lb (v90.getD 0 AV.undef)).bind fun _ => some (6)).bind fun p112 =>
                        (A.guard x110 true ((A.lb (v90.getD 0 AV.undef)).bind fun c113 => A.part1 p112 c113) (some (AV.tup []))).bind fun x114 =>
            (A.guard x110 true (some (v90.getD 2 AV.undef)) (some (AV.tup []))).bind fun x115 =>
            (A.guard x110 true (A.sub x115 (AV.int .i64 1)) (some (AV.tup []))).bind fun x116 =>
            (A.guard x110 true (A.iaddr 3 x114 x116) (some (AV.tup []))).bind fun x117 =>
            (A.guard x110 true (A.faddr 1 x117) (some (AV.tup []))).bind fun x118 =>
            (A.guard x110 true ((A.deref x118 r100.2).bind fun c119 => A.part1 0 c119) (some (AV.tup []))).bind fun x120 =>
            (A.guard x110 true (A.leq x111 x120) (some (AV.tup []))).bind fun x121 =>
            (A.pick x110 x121 (AV.bool false)).bind fun x122 =>
            A.cond x122 (
             some (AX.ret, [(v90.getD 0 AV.undef), (AV.int .i64 7), (v90.getD 2 AV.undef)], r100.2)) (
             (A.part1 2 c98).bind fun x123 =>
             (m_R1_IsName [x123] r100.2).bind fun r124 =>
             (A.not r124.1).bind fun x125 =>
             A.cond x125 (
              some (AX.ret, [(v90.getD 0 AV.undef), (AV.int .i64 5), (v90.getD 2 AV.undef)], r124.2)) (
              ((A.lb (v90.getD 0 AV.undef)).bind fun _ => some (6)).bind fun p126 =>
              ((A.lb (v90.getD 0 AV.undef)).bind fun c127 => A.part1 p126 c127).bind fun x128 =>
              (A.sliceS 3 x128 none (some (v90.getD 2 AV.undef)) r124.2).bind fun x129 =>
              (A.lenS x129).bind fun x130 =>
              (A.loop (fun v131 s132 =>
                (A.lss (v131.getD 3 AV.undef) x130).bind fun x134 =>
                A.cond x134 (
                 (A.iaddr 3 x129 (v131.getD 3 AV.undef)).bind fun x135 =>
                 ((A.deref x135 s132).bind fun c136 => A.partA 0 3 c136).bind fun x137 =>
                 (A.cells 3 x137).bind fun c138 =>
                 (A.splice 0 c138 [(AV.int .i64 0), (AV.int .i64 0), (AV.str ⟨#[]⟩)]).bind fun c139 =>
                 (A.part1 2 c139).bind fun x140 =>
                 ((A.lb (v131.getD 2 AV.undef)).bind fun _ => some (2)).bind fun p141 =>
                 ((A.lb (v131.getD 2 AV.undef)).bind fun c142 => A.part1 p141 c142).bind fun x143 =>
                 (A.eql .z x140 x143).bind fun x144 =>
                 A.cond x144 (
                  some (AX.ret, [(v131.getD 0 AV.undef), (AV.int .i64 6), (v131.getD 2 AV.undef), (v131.getD 3 AV.undef)], s132)) (
                  (A.add (v131.getD 3 AV.undef) (AV.int .i64 1)).bind fun x145 =>
                  some (AX.normal, [(v131.getD 0 AV.undef), (v131.getD 1 AV.undef), (v131.getD 2 AV.undef), x145], s132))) (
                 some (AX.exit 10, [(v131.getD 0 AV.undef), (v131.getD 1 AV.undef), (v131.getD 2 AV.undef), (v131.getD 3 AV.undef)], s132))) [(v90.getD 0 AV.undef), (v90.getD 1 AV.undef), (AV.lbx c98), (AV.int .i64 0)] r124.2).bind fun r146 =>
              bif r146.1 == AX.exit 10 then (
               (A.add (v90.getD 2 AV.undef) (AV.int .i64 1)).bind fun x147 =>
               some (AX.normal, [(r146.2.1.getD 0 AV.undef), (r146.2.1.getD 1 AV.undef), x147], r146.2.2)) else
              bif r146.1 == AX.ret then (
               some (AX.ret, [(r146.2.1.getD 0 AV.undef), (r146.2.1.getD 1 AV.undef), (v90.getD 2 AV.undef)], r146.2.2)) else
              none)))) (
           some (AX.exit 7, [(v90.getD 0 AV.undef), (v90.getD 1 AV.undef), (v90.getD 2 AV.undef)], s91))) [(r80.2.1.getD 0 AV.undef), (r80.2.1.getD 1 AV.undef), (AV.int .i64 0)] r80.2.2).bind fun r148 =>
        bif r148.1 == AX.exit 7 then (
         A.fin σ (AV.int .i64 0) r148.2.2) else
        bif r148.1 == AX.ret then (
         A.fin σ (r148.2.1.getD 1 AV.undef) r148.2.2) else
        none)) else
      bif r80.1 == AX.ret then (
       A.fin σ (r80.2.1.getD 1 AV.undef) r80.2.2) else
      none)))) else
  bif r21.1 == AX.ret then (
   A.fin σ (r21.2.1.getD 1 AV.undef) r21.2.2) else
  none)
noncomputable def m_R2_checkParam : List AV → Heap → Option (AV × Heap) := A.wrap true [(.a [.k, .k, .k, .k, .k, .k, (.s 3)]), (.s 7)] .k (A.ar3 r_R2_checkParam)
noncomputable def r_R2_CheckProfile (a0 : AV) (σ : Heap) : Option (AV × Heap) :=
 (A.cells 3 a0).bind fun c1 =>
 (A.part1 0 c1).bind fun x2 =>
 (m_R1_IsName [x2] σ).bind fun r3 =>
 (A.not r3.1).bind fun x4 =>
 A.cond x4 (
  A.fin σ (AV.int .i64 5) r3.2) (
  (A.part1 1 c1).bind fun x5 =>
  (m_R1_Within [x5, (AV.int .i64 1), (AV.int .i64 512)] r3.2).bind fun r6 =>
  (A.not r6.1).bind fun x7 =>
  A.cond x7 (
   A.fin σ (AV.int .i64 1) r6.2) (
   (A.part1 2 c1).bind fun x8 =>
   (A.lenS x8).bind fun x9 =>
   (A.eql .i x9 (AV.int .i64 0)).bind fun x10 =>
   A.cond x10 (
    A.fin σ (AV.int .i64 8) r6.2) (
    (A.part1 2 c1).bind fun x11 =>
    (A.lenS x11).bind fun x12 =>
    (A.gtr x12 (AV.int .i64 40)).bind fun x13 =>
    A.cond x13 (
     A.fin σ (AV.int .i64 2) r6.2) (
     (A.part1 2 c1).bind fun x14 =>
     (A.lenS x14).bind fun x15 =>
     (A.loop (fun v16 s17 =>
       (A.lss (v16.getD 2 AV.undef) x15).bind fun x19 =>
       A.cond x19 (
        (A.iaddr 7 x14 (v16.getD 2 AV.undef)).bind fun x20 =>
        ((A.deref x20 s17).bind fun c21 => A.partA 0 7 c21).bind fun x22 =>
        (A.cells 7 x22).bind fun c23 =>
        (A.splice 0 c23 [(AV.str ⟨#[]⟩), (AV.int .i64 0), (AV.int .i64 0), (AV.int .i64 0), (AV.int .i64 0), (AV.bool false), AV.nsl]).bind fun c24 =>
        (A.partA 0 7 c24).bind fun x25 =>
        ((A.lb (v16.getD 0 AV.undef)).bind fun _ => some (2)).bind fun p26 =>
        ((A.lb (v16.getD 0 AV.undef)).bind fun c27 => A.part1 p26 c27).bind fun x28 =>
        (A.sliceS 7 x28 none (some (v16.getD 2 AV.undef)) s17).bind fun x29 =>
        ((A.lb (v16.getD 0 AV.undef)).bind fun _ => some (1)).bind fun p30 =>
        ((A.lb (v16.getD 0 AV.undef)).bind fun c31 => A.part1 p30 c31).bind fun x32 =>
        (A.quiet (m_R2_checkParam [x25, x29, x32] s17) s17).bind fun x33 =>
        (A.neq .i x33 (AV.int .i64 0)).bind fun x34 =>
        A.cond x34 (
         some (AX.ret, [(v16.getD 0 AV.undef), x33, (v16.getD 2 AV.undef)], s17)) (
         (A.add (v16.getD 2 AV.undef) (AV.int .i64 1)).bind fun x35 =>
         some (AX.normal, [(v16.getD 0 AV.undef), (v16.getD 1 AV.undef), x35], s17))) (
        some (AX.exit 1, [(v16.getD 0 AV.undef), (v16.getD 1 AV.undef), (v16.getD 2 AV.undef)], s17))) [(AV.lbx c1), (AV.int .i64 0), (AV.int .i64 0)] r6.2).bind fun r36 =>
     bif r36.1 == AX.exit 1 then (
      A.fin σ (AV.int .i64 0) r36.2.2) else
     bif r36.1 == AX.ret then (
      A.fin σ (r36.2.1.getD 1 AV.undef) r36.2.2) else
     none))))
noncomputable def m_R2_CheckProfile : List AV → Heap → Option (AV × Heap) := A.wrap true [(.a [.k, .k, (.s 7)])] .k (A.ar1 r_R2_CheckProfile)
noncomputable def r_R2_CheckLibrary (a0 : AV) (σ : Heap) : Option (AV × Heap) :=
 (A.lenS a0).bind fun x1 =>
 (A.gtr x1 (AV.int .i64 60)).bind fun x2 =>
 A.cond x2 (
  A.fin σ (AV.int .i64 2) σ) (
  (A.lenS a0).bind fun x3 =>
  (A.loop (fun v4 s5 =>
    (A.lss (v4.getD 1 AV.undef) x3).bind fun x7 =>
    A.cond x7 (
     (A.iaddr 3 a0 (v4.getD 1 AV.undef)).bind fun x8 =>
     ((A.deref x8 s5).bind fun c9 => A.partA 0 3 c9).bind fun x10 =>
     (A.cells 3 x10).bind fun c11 =>
     (A.splice 0 c11 [(AV.str ⟨#[]⟩), (AV.int .i64 0), AV.nsl]).bind fun c12 =>
     (A.partA 0 3 c12).bind fun x13 =>
     (m_R2_CheckProfile [x13] s5).bind fun r14 =>
     (A.neq .i r14.1 (AV.int .i64 0)).bind fun x15 =>
     A.cond x15 (
      some (AX.ret, [r14.1, (v4.getD 1 AV.undef)], r14.2)) (
      (A.sliceS 3 a0 none (some (v4.getD 1 AV.undef)) r14.2).bind fun x16 =>
      (A.lenS x16).bind fun x17 =>
      (A.loop (fun v18 s19 =>
        (A.lss (v18.getD 2 AV.undef) x17).bind fun x21 =>
        A.cond x21 (
         (A.iaddr 3 x16 (v18.getD 2 AV.undef)).bind fun x22 =>
         ((A.deref x22 s19).bind fun c23 => A.partA 0 3 c23).bind fun x24 =>
         (A.cells 3 x24).bind fun c25 =>
         (A.splice 0 c25 [(AV.str ⟨#[]⟩), (AV.int .i64 0), AV.nsl]).bind fun c26 =>
         (A.part1 0 c26).bind fun x27 =>
         ((A.lb (v18.getD 1 AV.undef)).bind fun _ => some (0)).bind fun p28 =>
         ((A.lb (v18.getD 1 AV.undef)).bind fun c29 => A.part1 p28 c29).bind fun x30 =>
         (A.eql .z x27 x30).bind fun x31 =>
         A.cond x31 (
          some (AX.ret, [(AV.int .i64 6), (v18.getD 1 AV.undef), (v18.getD 2 AV.undef)], s19)) (
          (A.add (v18.getD 2 AV.undef) (AV.int .i64 1)).bind fun x32 =>
          some (AX.normal, [(v18.getD 0 AV.undef), (v18.getD 1 AV.undef), x32], s19))) (
         some (AX.exit 2, [(v18.getD 0 AV.undef), (v18.getD 1 AV.undef), (v18.getD 2 AV.undef)], s19))) [(v4.getD 0 AV.undef), (AV.lbx c12), (AV.int .i64 0)] r14.2).bind fun r33 =>
      bif r33.1 == AX.exit 2 then (
       (A.add (v4.getD 1 AV.undef) (AV.int .i64 1)).bind fun x34 =>
       some (AX.normal, [(r33.2.1.getD 0 AV.undef), x34], r33.2.2)) else
      bif r33.1 == AX.ret then (
       some (AX.ret, [(r33.2.1.getD 0 AV.undef), (v4.getD 1 AV.undef)], r33.2.2)) else
      none)) (
     some (AX.exit 0, [(v4.getD 0 AV.undef), (v4.getD 1 AV.undef)], s5))) [(AV.int .i64 0), (AV.int .i64 0)] σ).bind fun r35 =>
  bif r35.1 == AX.exit 0 then (
   A.fin σ (AV.int .i64 0) r35.2.2) else
  bif r35.1 == AX.ret then (
   A.fin σ (r35.2.1.getD 0 AV.undef) r35.2.2) else
  none)
noncomputable def m_R2_CheckLibrary : List AV → Heap → Option (AV × Heap) := A.wrap true [(.s 3)] .k (A.ar1 r_R2_CheckLibrary)
noncomputable def r_R2_Profile (a0 a1 : AV) (σ : Heap) : Option (AV × Heap) :=
 (A.lenS a0).bind fun x1 =>
 (A.loop (fun v2 s3 =>
   (A.lss (v2.getD 2 AV.undef) x1).bind fun x5 =>
   A.cond x5 (
    (A.iaddr 3 a0 (v2.getD 2 AV.undef)).bind fun x6 =>
    ((A.deref x6 s3).bind fun c7 => A.partA 0 3 c7).bind fun x8 =>
    (A.cells 3 x8).bind fun c9 =>
    (A.splice 0 c9 [(AV.str ⟨#[]⟩), (AV.int .i64 0), AV.nsl]).bind fun c10 =>
    (A.part1 0 c10).bind fun x11 =>
    (A.eql .z x11 a1).bind fun x12 =>
    A.cond x12 (
     (A.partA 0 3 c10).bind fun x13 =>
     (A.lb (v2.getD 0 AV.undef)).bind fun c16 =>
     (A.cells 3 x13).bind fun c14 =>
     (A.splice 0 c14 c16).bind fun c15 =>
     some (AX.ret, [(AV.lbx c15), (AV.bool true), (v2.getD 2 AV.undef)], s3)) (
     (A.add (v2.getD 2 AV.undef) (AV.int .i64 1)).bind fun x17 =>
     some (AX.normal, [(v2.getD 0 AV.undef), (v2.getD 1 AV.undef), x17], s3))) (
    some (AX.exit 0, [(v2.getD 0 AV.undef), (v2.getD 1 AV.undef), (v2.getD 2 AV.undef)], s3))) [(AV.lbx [(AV.str ⟨#[]⟩), (AV.int .i64 0), AV.nsl]), (AV.bool false), (AV.int .i64 0)] σ).bind fun r18 =>
 bif r18.1 == AX.exit 0 then (
  (A.lb (r18.2.1.getD 0 AV.undef)).bind fun c21 =>
  (A.cells 3 (AV.agg [(AV.str ⟨#[]⟩), (AV.int .i64 0), AV.nsl])).bind fun c19 =>
  (A.splice 0 c19 c21).bind fun c20 =>
  (A.partA 0 3 c20).bind fun x22 =>
  A.fin σ (AV.tup [x22, (AV.bool false)]) r18.2.2) else
 bif r18.1 == AX.ret then (
  ((A.lb (r18.2.1.getD 0 AV.undef)).bind fun c24 => A.partA 0 3 c24).bind fun x23 =>
  A.fin σ (AV.tup [x23, (r18.2.1.getD 1 AV.undef)]) r18.2.2) else
 none
noncomputable def m_R2_Profile : List AV → Heap → Option (AV × Heap) := A.wrap true [(.s 3)] (.t [(.a [.k, .k, (.e 7 [.k, .k, .k, .k, .k, .k, (.s 3)])]), .k]) (A.ar2 r_R2_Profile)
noncomputable def r_R2_last (a0 a1 : AV) (σ : Heap) : Option (AV × Heap) :=
 (A.cells 2 a0).bind fun c1 =>
 (A.cells 4 a1).bind fun c2 =>
 (A.part1 0 c1).bind fun x3 =>
 (A.part1 1 c2).bind fun x4 =>
 (m_R2_Profile [x3, x4] σ).bind fun r5 =>
 (A.ext 0 r5.1).bind fun x6 =>
 (A.ext 1 r5.1).bind fun x7 =>
 (A.cells 3 x6).bind fun c8 =>
 (A.splice 0 c8 [(AV.str ⟨#[]⟩), (AV.int .i64 0), AV.nsl]).bind fun c9 =>
 (A.part1 3 c2).bind fun x10 =>
 (A.part1 1 c9).bind fun x11 =>
 (A.add x10 x11).bind fun x12 =>
 (A.sub x12 (AV.int .i64 1)).bind fun x13 =>
 A.fin σ x13 r5.2
noncomputable def m_R2_last : List AV → Heap → Option (AV × Heap) := A.wrap true [(.a [(.s 3), (.s 4)])] .k (A.ar2 r_R2_last)
noncomputable def r_R2_CheckRig (a0 : AV) (σ : Heap) : Option (AV × Heap) :=
 (A.cells 2 a0).bind fun c1 =>
 (A.part1 0 c1).bind fun x2 =>
 (m_R2_CheckLibrary [x2] σ).bind fun r3 =>
 (A.neq .i r3.1 (AV.int .i64 0)).bind fun x4 =>
 A.cond x4 (
  A.fin σ r3.1 r3.2) (
  (A.part1 1 c1).bind fun x5 =>
  (A.lenS x5).bind fun x6 =>
  (A.gtr x6 (AV.int .i64 400)).bind fun x7 =>
  A.cond x7 (
   A.fin σ (AV.int .i64 2) r3.2) (
   (A.part1 1 c1).bind fun x8 =>
   (A.lenS x8).bind fun x9 =>
   (A.loop (fun v10 s11 =>
     (A.lss (v10.getD 2 AV.undef) x9).bind fun x13 =>
     A.cond x13 (
      (A.iaddr 4 x8 (v10.getD 2 AV.undef)).bind fun x14 =>
      ((A.deref x14 s11).bind fun c15 => A.partA 0 4 c15).bind fun x16 =>
      (A.cells 4 x16).bind fun c17 =>
      (A.splice 0 c17 [(AV.int .i64 0), (AV.str ⟨#[]⟩), (AV.int .i64 0), (AV.int .i64 0)]).bind fun c18 =>
      ((A.lb (v10.getD 0 AV.undef)).bind fun _ => some (0)).bind fun p19 =>
      ((A.lb (v10.getD 0 AV.undef)).bind fun c20 => A.part1 p19 c20).bind fun x21 =>
      (A.part1 1 c18).bind fun x22 =>
      (m_R2_Profile [x21, x22] s11).bind fun r23 =>
      (A.ext 0 r23.1).bind fun x24 =>
      (A.ext 1 r23.1).bind fun x25 =>
      (A.cells 3 x24).bind fun c26 =>
      (A.splice 0 c26 [(AV.str ⟨#[]⟩), (AV.int .i64 0), AV.nsl]).bind fun c27 =>
      (A.part1 0 c18).bind fun x28 =>
      (m_R1_Within [x28, (AV.int .i64 1), (AV.int .i64 9999)] r23.2).bind fun r29 =>
      (A.not r29.1).bind fun x30 =>
      A.cond x30 (
       some (AX.ret, [(v10.getD 0 AV.undef), (AV.int .i64 1), (v10.getD 2 AV.undef)], r29.2)) (
       (A.gtr (v10.getD 2 AV.undef) (AV.int .i64 0)).bind fun x31 =>
       (A.guard x31 true (A.part1 0 c18) (some (AV.tup []))).bind fun x32 =>
       ((A.lb (v10.getD 0 AV.undef)).bind fun _ => some (1)).bind fun p33 =>
              (A.guard x31 true ((A.lb (v10.getD 0 AV.undef)).bind fun c34 => A.part1 p33 c34) (some (AV.tup []))).bind fun x35 =>
       (A.guard x31 true (some (v10.getD 2 AV.undef)) (some (AV.tup []))).bind fun x36 =>
       (A.guard x31 true (A.sub x36 (AV.int .i64 1)) (some (AV.tup []))).bind fun x37 =>
       (A.guard x31 true (A.iaddr 4 x35 x37) (some (AV.tup []))).bind fun x38 =>
       (A.guard x31 true (A.faddr 0 x38) (some (AV.tup []))).bind fun x39 =>
       (A.guard x31 true ((A.deref x39 r29.2).bind fun c40 => A.part1 0 c40) (some (AV.tup []))).bind fun x41 =>
       (A.guard x31 true (A.leq x32 x41) (some (AV.tup []))).bind fun x42 =>
       (A.pick x31 x42 (AV.bool false)).bind fun x43 =>
       A.cond x43 (
        some (AX.ret, [(v10.getD 0 AV.undef), (AV.int .i64 7), (v10.getD 2 AV.undef)], r29.2)) (
        (A.not x25).bind fun x44 =>
        A.cond x44 (
         some (AX.ret, [(v10.getD 0 AV.undef), (AV.int .i64 5), (v10.getD 2 AV.undef)], r29.2)) (
         (A.part1 2 c18).bind fun x45 =>
         (m_R1_Within [x45, (AV.int .i64 1), (AV.int .i64 64)] r29.2).bind fun r46 =>
         (A.not r46.1).bind fun x47 =>
         (A.guard x47 false (A.part1 3 c18) (some (AV.tup []))).bind fun x48 =>
         (A.guard x47 false (A.quiet (m_R1_Within [x48, (AV.int .i64 1), (AV.int .i64 512)] r46.2) r46.2) (some (AV.tup []))).bind fun x49 =>
         (A.guard x47 false (A.not x49) (some (AV.tup []))).bind fun x50 =>
         (A.pick x47 (AV.bool true) x50).bind fun x51 =>
         (A.guard x51 false ((A.lb (v10.getD 0 AV.undef)).bind fun c52 => A.partA 0 2 c52) (some (AV.tup []))).bind fun x53 =>
         (A.guard x51 false (A.partA 0 4 c18) (some (AV.tup []))).bind fun x54 =>
         (A.guard x51 false (A.quiet (m_R2_last [x53, x54] r46.2) r46.2) (some (AV.tup []))).bind fun x55 =>
         (A.guard x51 false (A.gtr x55 (AV.int .i64 512)) (some (AV.tup []))).bind fun x56 =>
         (A.pick x51 (AV.bool true) x56).bind fun x57 =>
         A.cond x57 (
          some (AX.ret, [(v10.getD 0 AV.undef), (AV.int .i64 1), (v10.getD 2 AV.undef)], r46.2)) (
          ((A.lb (v10.getD 0 AV.undef)).bind fun _ => some (1)).bind fun p58 =>
          ((A.lb (v10.getD 0 AV.undef)).bind fun c59 => A.part1 p58 c59).bind fun x60 =>
          (A.sliceS 4 x60 none (some (v10.getD 2 AV.undef)) r46.2).bind fun x61 =>
          (A.lenS x61).bind fun x62 =>
          (A.loop (fun v63 s64 =>
            (A.lss (v63.getD 3 AV.undef) x62).bind fun x66 =>
            A.cond x66 (
             (A.iaddr 4 x61 (v63.getD 3 AV.undef)).bind fun x67 =>
             ((A.deref x67 s64).bind fun c68 => A.partA 0 4 c68).bind fun x69 =>
             (A.cells 4 x69).bind fun c70 =>
             (A.splice 0 c70 [(AV.int .i64 0), (AV.str ⟨#[]⟩), (AV.int .i64 0), (AV.int .i64 0)]).bind fun c71 =>
             (A.part1 2 c71).bind fun x72 =>
             ((A.lb (v63.getD 2 AV.undef)).bind fun _ => some (2)).bind fun p73 =>
             ((A.lb (v63.getD 2 AV.undef)).bind fun c74 => A.part1 p73 c74).bind fun x75 =>
             (A.eql .i x72 x75).bind fun x76 =>
             (A.guard x76 true (A.part1 3 c71) (some (AV.tup []))).bind fun x77 =>
             (A.guard x76 true ((A.lb (v63.getD 0 AV.undef)).bind fun c78 => A.partA 0 2 c78) (some (AV.tup []))).bind fun x79 =>
             (A.guard x76 true ((A.lb (v63.getD 2 AV.undef)).bind fun c80 => A.partA 0 4 c80) (some (AV.tup []))).bind fun x81 =>
             (A.guard x76 true (A.quiet (m_R2_last [x79, x81] s64) s64) (some (AV.tup []))).bind fun x82 =>
             (A.guard x76 true (A.leq x77 x82) (some (AV.tup []))).bind fun x83 =>
             (A.pick x76 x83 (AV.bool false)).bind fun x84 =>
             ((A.lb (v63.getD 2 AV.undef)).bind fun _ => some (3)).bind fun p85 =>
                          (A.guard x84 true ((A.lb (v63.getD 2 AV.undef)).bind fun c86 => A.part1 p85 c86) (some (AV.tup []))).bind fun x87 =>
             (A.guard x84 true ((A.lb (v63.getD 0 AV.undef)).bind fun c88 => A.partA 0 2 c88) (some (AV.tup []))).bind fun x89 =>
             (A.guard x84 true (A.partA 0 4 c71) (some (AV.tup []))).bind fun x90 =>
             (A.guard x84 true (A.quiet (m_R2_last [x89, x90] s64) s64) (some (AV.tup []))).bind fun x91 =>
             (A.guard x84 true (A.leq x87 x91) (some (AV.tup []))).bind fun x92 =>
             (A.pick x84 x92 (AV.bool false)).bind fun x93 =>
             A.cond x93 (
              some (AX.ret, [(v63.getD 0 AV.undef), (AV.int .i64 12), (v63.getD 2 AV.undef), (v63.getD 3 AV.undef)], s64)) (
              (A.add (v63.getD 3 AV.undef) (AV.int .i64 1)).bind fun x94 =>
              some (AX.normal, [(v63.getD 0 AV.undef), (v63.getD 1 AV.undef), (v63.getD 2 AV.undef), x94], s64))) (
             some (AX.exit 3, [(v63.getD 0 AV.undef), (v63.getD 1 AV.undef), (v63.getD 2 AV.undef), (v63.getD 3 AV.undef)], s64))) [(v10.getD 0 AV.undef), (v10.getD 1 AV.undef), (AV.lbx c18), (AV.int .i64 0)] r46.2).bind fun r95 =>
          bif r95.1 == AX.exit 3 then (
           (A.add (v10.getD 2 AV.undef) (AV.int .i64 1)).bind fun x96 =>
           some (AX.normal, [(r95.2.1.getD 0 AV.undef), (r95.2.1.getD 1 AV.undef), x96], r95.2.2)) else
          bif r95.1 == AX.ret then (
           some (AX.ret, [(r95.2.1.getD 0 AV.undef), (r95.2.1.getD 1 AV.undef), (v10.getD 2 AV.undef)], r95.2.2)) else
          none))))) (
      some (AX.exit 0, [(v10.getD 0 AV.undef), (v10.getD 1 AV.undef), (v10.getD 2 AV.undef)], s11))) [(AV.lbx c1), (AV.int .i64 0), (AV.int .i64 0)] r3.2).bind fun r97 =>
   bif r97.1 == AX.exit 0 then (
    A.fin σ (AV.int .i64 0) r97.2.2) else
   bif r97.1 == AX.ret then (
    A.fin σ (r97.2.1.getD 1 AV.undef) r97.2.2) else
   none))
noncomputable def m_R2_CheckRig : List AV → Heap → Option (AV × Heap) := A.wrap true [(.a [(.s 3), (.s 4)])] .k (A.ar1 r_R2_CheckRig)
noncomputable def r_R2_unit (a0 a1 : AV) (σ : Heap) : Option (AV × Heap) :=
 (A.cells 2 a0).bind fun c1 =>
 (A.part1 1 c1).bind fun x2 =>
 (A.lenS x2).bind fun x3 =>
 (A.loop (fun v4 s5 =>
   (A.lss (v4.getD 1 AV.undef) x3).bind fun x7 =>
   A.cond x7 (
    (A.iaddr 4 x2 (v4.getD 1 AV.undef)).bind fun x8 =>
    ((A.deref x8 s5).bind fun c9 => A.partA 0 4 c9).bind fun x10 =>
    (A.cells 4 x10).bind fun c11 =>
    (A.splice 0 c11 [(AV.int .i64 0), (AV.str ⟨#[]⟩), (AV.int .i64 0), (AV.int .i64 0)]).bind fun c12 =>
    (A.part1 0 c12).bind fun x13 =>
    (A.eql .i x13 a1).bind fun x14 =>
    A.cond x14 (
     some (AX.ret, [(v4.getD 1 AV.undef), (v4.getD 1 AV.undef)], s5)) (
     (A.add (v4.getD 1 AV.undef) (AV.int .i64 1)).bind fun x15 =>
     some (AX.normal, [(v4.getD 0 AV.undef), x15], s5))) (
    some (AX.exit 0, [(v4.getD 0 AV.undef), (v4.getD 1 AV.undef)], s5))) [(AV.int .i64 0), (AV.int .i64 0)] σ).bind fun r16 =>
 bif r16.1 == AX.exit 0 then (
  A.fin σ (AV.int .i64 (-1)) r16.2.2) else
 bif r16.1 == AX.ret then (
  A.fin σ (r16.2.1.getD 0 AV.undef) r16.2.2) else
 none
noncomputable def m_R2_unit : List AV → Heap → Option (AV × Heap) := A.wrap true [(.a [(.s 3), (.s 4)])] .k (A.ar2 r_R2_unit)
noncomputable def r_R2_param (a0 a1 : AV) (σ : Heap) : Option (AV × Heap) :=
 (A.cells 3 a0).bind fun c1 =>
 (A.part1 2 c1).bind fun x2 =>
 (A.lenS x2).bind fun x3 =>
 (A.loop (fun v4 s5 =>
   (A.lss (v4.getD 2 AV.undef) x3).bind fun x7 =>
   A.cond x7 (
    (A.iaddr 7 x2 (v4.getD 2 AV.undef)).bind fun x8 =>
    ((A.deref x8 s5).bind fun c9 => A.partA 0 7 c9).bind fun x10 =>
    (A.cells 7 x10).bind fun c11 =>
    (A.splice 0 c11 [(AV.str ⟨#[]⟩), (AV.int .i64 0), (AV.int .i64 0), (AV.int .i64 0), (AV.int .i64 0), (AV.bool false), AV.nsl]).bind fun c12 =>
    (A.part1 0 c12).bind fun x13 =>
    (A.eql .z x13 a1).bind fun x14 =>
    A.cond x14 (
     (A.partA 0 7 c12).bind fun x15 =>
     (A.lb (v4.getD 0 AV.undef)).bind fun c18 =>
     (A.cells 7 x15).bind fun c16 =>
     (A.splice 0 c16 c18).bind fun c17 =>
     some (AX.ret, [(AV.lbx c17), (AV.bool true), (v4.getD 2 AV.undef)], s5)) (
     (A.add (v4.getD 2 AV.undef) (AV.int .i64 1)).bind fun x19 =>
     some (AX.normal, [(v4.getD 0 AV.undef), (v4.getD 1 AV.undef), x19], s5))) (
    some (AX.exit 0, [(v4.getD 0 AV.undef), (v4.getD 1 AV.undef), (v4.getD 2 AV.undef)], s5))) [(AV.lbx [(AV.str ⟨#[]⟩), (AV.int .i64 0), (AV.int .i64 0), (AV.int .i64 0), (AV.int .i64 0), (AV.bool false), AV.nsl]), (AV.bool false), (AV.int .i64 0)] σ).bind fun r20 =>
 bif r20.1 == AX.exit 0 then (
  (A.lb (r20.2.1.getD 0 AV.undef)).bind fun c23 =>
  (A.cells 7 (AV.agg [(AV.str ⟨#[]⟩), (AV.int .i64 0), (AV.int .i64 0), (AV.int .i64 0), (AV.int .i64 0), (AV.bool false), AV.nsl])).bind fun c21 =>
  (A.splice 0 c21 c23).bind fun c22 =>
  (A.partA 0 7 c22).bind fun x24 =>
  A.fin σ (AV.tup [x24, (AV.bool false)]) r20.2.2) else
 bif r20.1 == AX.ret then (
  ((A.lb (r20.2.1.getD 0 AV.undef)).bind fun c26 => A.partA 0 7 c26).bind fun x25 =>
  A.fin σ (AV.tup [x25, (r20.2.1.getD 1 AV.undef)]) r20.2.2) else
 none
noncomputable def m_R2_param : List AV → Heap → Option (AV × Heap) := A.wrap true [(.a [.k, .k, (.s 7)])] (.t [(.a [.k, .k, .k, .k, .k, .k, (.s 3)]), .k]) (A.ar2 r_R2_param)
noncomputable def r_R2_ParamOf (a0 a1 : AV) (σ : Heap) : Option (AV × Heap) :=
 (A.cells 2 a0).bind fun c1 =>
 (A.cells 2 a1).bind fun c2 =>
 (A.partA 0 2 c1).bind fun x3 =>
 (A.part1 0 c2).bind fun x4 =>
 (m_R2_unit [x3, x4] σ).bind fun r5 =>
 (A.lss r5.1 (AV.int .i64 0)).bind fun x6 =>
 A.cond x6 (
  (A.cells 7 (AV.agg [(AV.str ⟨#[]⟩), (AV.int .i64 0), (AV.int .i64 0), (AV.int .i64 0), (AV.int .i64 0), (AV.bool false), AV.nsl])).bind fun c7 =>
  (A.splice 0 c7 [(AV.str ⟨#[]⟩), (AV.int .i64 0), (AV.int .i64 0), (AV.int .i64 0), (AV.int .i64 0), (AV.bool false), AV.nsl]).bind fun c8 =>
  (A.partA 0 7 c8).bind fun x9 =>
  A.fin σ (AV.tup [x9, (AV.bool false)]) r5.2) (
  (A.part1 0 c1).bind fun x10 =>
  (A.part1 1 c1).bind fun x11 =>
  (A.iaddr 4 x11 r5.1).bind fun x12 =>
  (A.faddr 1 x12).bind fun x13 =>
  ((A.deref x13 r5.2).bind fun c14 => A.part1 0 c14).bind fun x15 =>
  (A.quiet (m_R2_Profile [x10, x15] r5.2) r5.2).bind fun x16 =>
  (A.ext 0 x16).bind fun x17 =>
  (A.ext 1 x16).bind fun x18 =>
  (A.cells 3 x17).bind fun c19 =>
  (A.splice 0 c19 [(AV.str ⟨#[]⟩), (AV.int .i64 0), AV.nsl]).bind fun c20 =>
  (A.partA 0 3 c20).bind fun x21 =>
  (A.part1 1 c2).bind fun x22 =>
  (m_R2_param [x21, x22] r5.2).bind fun r23 =>
  (A.ext 0 r23.1).bind fun x24 =>
  (A.ext 1 r23.1).bind fun x25 =>
  (A.cells 7 x24).bind fun c26 =>
  (A.splice 0 c26 [(AV.str ⟨#[]⟩), (AV.int .i64 0), (AV.int .i64 0), (AV.int .i64 0), (AV.int .i64 0), (AV.bool false), AV.nsl]).bind fun c27 =>
  (A.partA 0 7 c27).bind fun x28 =>
  A.fin σ (AV.tup [x28, x25]) r23.2)
noncomputable def m_R2_ParamOf : List AV → Heap → Option (AV × Heap) := A.wrap true [(.a [(.s 3), (.s 4)])] (.t [(.a [.k, .k, .k, .k, .k, .k, (.s 3)]), .k]) (A.ar2 r_R2_ParamOf)
noncomputable def r_R2_KeysOf (a0 : AV) (σ : Heap) : Option (AV × Heap) :=
 (A.cells 2 a0).bind fun c1 =>
 (A.part1 1 c1).bind fun x2 =>
 (A.lenS x2).bind fun x3 =>
 (A.loop (fun v4 s5 =>
   (A.lss (v4.getD 2 AV.undef) x3).bind fun x7 =>
   A.cond x7 (
    (A.iaddr 4 x2 (v4.getD 2 AV.undef)).bind fun x8 =>
    ((A.deref x8 s5).bind fun c9 => A.partA 0 4 c9).bind fun x10 =>
    (A.cells 4 x10).bind fun c11 =>
    (A.splice 0 c11 [(AV.int .i64 0), (AV.str ⟨#[]⟩), (AV.int .i64 0), (AV.int .i64 0)]).bind fun c12 =>
    ((A.lb (v4.getD 0 AV.undef)).bind fun _ => some (0)).bind fun p13 =>
    ((A.lb (v4.getD 0 AV.undef)).bind fun c14 => A.part1 p13 c14).bind fun x15 =>
    (A.part1 1 c12).bind fun x16 =>
    (m_R2_Profile [x15, x16] s5).bind fun r17 =>
    (A.ext 0 r17.1).bind fun x18 =>
    (A.ext 1 r17.1).bind fun x19 =>
    (A.cells 3 x18).bind fun c20 =>
    (A.splice 0 c20 [(AV.str ⟨#[]⟩), (AV.int .i64 0), AV.nsl]).bind fun c21 =>
    (A.part1 2 c21).bind fun x22 =>
    (A.lenS x22).bind fun x23 =>
    (A.loop (fun v24 s25 =>
      (A.lss (v24.getD 3 AV.undef) x23).bind fun x27 =>
      A.cond x27 (
       (A.iaddr 7 x22 (v24.getD 3 AV.undef)).bind fun x28 =>
       ((A.deref x28 s25).bind fun c29 => A.partA 0 7 c29).bind fun x30 =>
       (A.cells 7 x30).bind fun c31 =>
       (A.splice 0 c31 [(AV.str ⟨#[]⟩), (AV.int .i64 0), (AV.int .i64 0), (AV.int .i64 0), (AV.int .i64 0), (AV.bool false), AV.nsl]).bind fun c32 =>
       ((A.lb (v24.getD 2 AV.undef)).bind fun _ => some (0)).bind fun p33 =>
       ((A.lb (v24.getD 2 AV.undef)).bind fun c34 => A.part1 p33 c34).bind fun x35 =>
       (A.part1 0 c32).bind fun x36 =>
       ((((A.cell x35).bind fun v => some [v]).bind fun c37 => (A.splice 0 c37 [(AV.int .i64 0), (AV.str ⟨#[]⟩)]).bind fun c38 => ((A.cell x36).bind fun v => some [v]).bind fun c39 => (A.splice 1 c39 c38).bind fun c40 => some c40).bind fun cs => some (AV.agg cs)).bind fun x41 =>
       (((A.cells 2 x41).bind fun c42 => (A.splice 0 c42 [(AV.int .i64 0), (AV.str ⟨#[]⟩)]).bind fun c43 => some c43).bind fun cs => some (AV.sl 2 (chunks 2 1 cs))).bind fun x44 =>
       (A.append 2 (140737488355328 / 24) (v24.getD 1 AV.undef) x44 s25).bind fun r45 =>
       (A.add (v24.getD 3 AV.undef) (AV.int .i64 1)).bind fun x46 =>
       some (AX.normal, [(v24.getD 0 AV.undef), r45.1, (v24.getD 2 AV.undef), x46], r45.2)) (
       some (AX.exit 2, [(v24.getD 0 AV.undef), (v24.getD 1 AV.undef), (v24.getD 2 AV.undef), (v24.getD 3 AV.undef)], s25))) [(v4.getD 0 AV.undef), (v4.getD 1 AV.undef), (AV.lbx c12), (AV.int .i64 0)] r17.2).bind fun r47 =>
    bif r47.1 == AX.exit 2 then (
     (A.add (v4.getD 2 AV.undef) (AV.int .i64 1)).bind fun x48 =>
     some (AX.normal, [(r47.2.1.getD 0 AV.undef), (r47.2.1.getD 1 AV.undef), x48], r47.2.2)) else
    none) (
    some (AX.exit 0, [(v4.getD 0 AV.undef), (v4.getD 1 AV.undef), (v4.getD 2 AV.undef)], s5))) [(AV.lbx c1), AV.nsl, (AV.int .i64 0)] σ).bind fun r49 =>
 bif r49.1 == AX.exit 0 then (
  A.fin σ (r49.2.1.getD 1 AV.undef) r49.2.2) else
 none
noncomputable def m_R2_KeysOf : List AV → Heap → Option (AV × Heap) := A.wrap true [(.a [(.s 3), (.s 4)])] (.s 2) (A.ar1 r_R2_KeysOf)
end Go.Proofs.YtphgchakmkankaaGreat

namespace Go.Proofs.YtphgchakmkankaaGreat
set_option linter.unusedSectionVars false
set_option linter.unusedSimpArgs false
set_option linter.unusedVariables false
set_option maxRecDepth 100000
noncomputable def r_R4_Before (a0 a1 : AV) (σ : Heap) : Option (AV × Heap) :=
 (A.cells 2 a0).bind fun c1 =>
 (A.cells 2 a1).bind fun c2 =>
 (A.part1 0 c1).bind fun x3 =>
 (A.part1 0 c2).bind fun x4 =>
 (A.lss x3 x4).bind fun x5 =>
 (A.guard x5 false (A.part1 0 c1) (some (AV.tup []))).bind fun x6 =>
 (A.guard x5 false (A.part1 0 c2) (some (AV.tup []))).bind fun x7 =>
 (A.guard x5 false (A.eql .i x6 x7) (some (AV.tup []))).bind fun x8 =>
 (A.guard x5 false (some x8) (some (AV.tup []))).bind fun x9 =>
 (A.guard x9 true (A.part1 1 c1) (some (AV.tup []))).bind fun x10 =>
 (A.guard x9 true (A.part1 1 c2) (some (AV.tup []))).bind fun x11 =>
 (A.guard x9 true (A.lss x10 x11) (some (AV.tup []))).bind fun x12 =>
 (A.guard x5 false (A.pick x9 x12 (AV.bool false)) (some (AV.tup []))).bind fun x13 =>
 (A.pick x5 (AV.bool true) x13).bind fun x14 =>
 A.fin σ x14 σ
noncomputable def m_R4_Before : List AV → Heap → Option (AV × Heap) := A.wrap true [] .k (A.ar2 r_R4_Before)
noncomputable def r_R4_CheckPresets (a0 a1 : AV) (σ : Heap) : Option (AV × Heap) :=
 (A.cells 2 a0).bind fun c1 =>
 (A.partA 0 2 c1).bind fun x2 =>
 (m_R2_CheckRig [x2] σ).bind fun r3 =>
 (A.neq .i r3.1 (AV.int .i64 0)).bind fun x4 =>
 A.cond x4 (
  A.fin σ r3.1 r3.2) (
  (A.lenS a1).bind fun x5 =>
  (A.gtr x5 (AV.int .i64 200)).bind fun x6 =>
  A.cond x6 (
   A.fin σ (AV.int .i64 2) r3.2) (
   (A.lenS a1).bind fun x7 =>
   (A.loop (fun v8 s9 =>
     (A.lss (v8.getD 2 AV.undef) x7).bind fun x11 =>
     A.cond x11 (
      (A.iaddr 3 a1 (v8.getD 2 AV.undef)).bind fun x12 =>
      ((A.deref x12 s9).bind fun c13 => A.partA 0 3 c13).bind fun x14 =>
      (A.cells 3 x14).bind fun c15 =>
      (A.splice 0 c15 [(AV.int .i64 0), (AV.str ⟨#[]⟩), AV.nsl]).bind fun c16 =>
      (A.part1 0 c16).bind fun x17 =>
      (m_R1_Within [x17, (AV.int .i64 1), (AV.int .i64 999)] s9).bind fun r18 =>
      (A.not r18.1).bind fun x19 =>
      A.cond x19 (
       some (AX.ret, [(v8.getD 0 AV.undef), (AV.int .i64 1), (v8.getD 2 AV.undef)], r18.2)) (
       (A.gtr (v8.getD 2 AV.undef) (AV.int .i64 0)).bind fun x20 =>
       (A.guard x20 true (A.part1 0 c16) (some (AV.tup []))).bind fun x21 =>
       (A.guard x20 true (some a1) (some (AV.tup []))).bind fun x22 =>
       (A.guard x20 true (some (v8.getD 2 AV.undef)) (some (AV.tup []))).bind fun x23 =>
       (A.guard x20 true (A.sub x23 (AV.int .i64 1)) (some (AV.tup []))).bind fun x24 =>
       (A.guard x20 true (A.iaddr 3 x22 x24) (some (AV.tup []))).bind fun x25 =>
       (A.guard x20 true (A.faddr 0 x25) (some (AV.tup []))).bind fun x26 =>
       (A.guard x20 true ((A.deref x26 r18.2).bind fun c27 => A.part1 0 c27) (some (AV.tup []))).bind fun x28 =>
       (A.guard x20 true (A.leq x21 x28) (some (AV.tup []))).bind fun x29 =>
       (A.pick x20 x29 (AV.bool false)).bind fun x30 =>
       A.cond x30 (
        some (AX.ret, [(v8.getD 0 AV.undef), (AV.int .i64 7), (v8.getD 2 AV.undef)], r18.2)) (
        (A.part1 1 c16).bind fun x31 =>
        (A.neq .z x31 (AV.str ⟨#[]⟩)).bind fun x32 =>
        (A.guard x32 true (A.part1 1 c16) (some (AV.tup []))).bind fun x33 =>
        (A.guard x32 true (A.quiet (m_R1_IsTitle [x33] r18.2) r18.2) (some (AV.tup []))).bind fun x34 =>
        (A.guard x32 true (A.not x34) (some (AV.tup []))).bind fun x35 =>
        (A.pick x32 x35 (AV.bool false)).bind fun x36 =>
        A.cond x36 (
         some (AX.ret, [(v8.getD 0 AV.undef), (AV.int .i64 3), (v8.getD 2 AV.undef)], r18.2)) (
         (A.part1 2 c16).bind fun x37 =>
         (A.lenS x37).bind fun x38 =>
         (A.gtr x38 (AV.int .i64 2000)).bind fun x39 =>
         A.cond x39 (
          some (AX.ret, [(v8.getD 0 AV.undef), (AV.int .i64 2), (v8.getD 2 AV.undef)], r18.2)) (
          (A.part1 2 c16).bind fun x40 =>
          (A.lenS x40).bind fun x41 =>
          (A.loop (fun v42 s43 =>
            (A.lss (v42.getD 3 AV.undef) x41).bind fun x45 =>
            A.cond x45 (
             (A.iaddr 3 x40 (v42.getD 3 AV.undef)).bind fun x46 =>
             ((A.deref x46 s43).bind fun c47 => A.partA 0 3 c47).bind fun x48 =>
             (A.cells 3 x48).bind fun c49 =>
             (A.splice 0 c49 [(AV.int .i64 0), (AV.str ⟨#[]⟩), (AV.int .i64 0)]).bind fun c50 =>
             ((A.lb (v42.getD 0 AV.undef)).bind fun c51 => A.partA 0 2 c51).bind fun x52 =>
             (A.partA 0 2 c50).bind fun x53 =>
             (m_R2_ParamOf [x52, x53] s43).bind fun r54 =>
             (A.ext 0 r54.1).bind fun x55 =>
             (A.ext 1 r54.1).bind fun x56 =>
             (A.cells 7 x55).bind fun c57 =>
             (A.splice 0 c57 [(AV.str ⟨#[]⟩), (AV.int .i64 0), (AV.int .i64 0), (AV.int .i64 0), (AV.int .i64 0), (AV.bool false), AV.nsl]).bind fun c58 =>
             (A.not x56).bind fun x59 =>
             A.cond x59 (
              some (AX.ret, [(v42.getD 0 AV.undef), (AV.int .i64 8), (v42.getD 2 AV.undef), (v42.getD 3 AV.undef)], r54.2)) (
              (A.part1 2 c50).bind fun x60 =>
              (m_R1_IsLevel [x60] r54.2).bind fun r61 =>
              (A.not r61.1).bind fun x62 =>
              A.cond x62 (
               some (AX.ret, [(v42.getD 0 AV.undef), (AV.int .i64 1), (v42.getD 2 AV.undef), (v42.getD 3 AV.undef)], r61.2)) (
               (A.gtr (v42.getD 3 AV.undef) (AV.int .i64 0)).bind fun x63 =>
               ((A.lb (v42.getD 2 AV.undef)).bind fun _ => some (2)).bind fun p64 =>
                              (A.guard x63 true ((A.lb (v42.getD 2 AV.undef)).bind fun c65 => A.part1 p64 c65) (some (AV.tup []))).bind fun x66 =>
               (A.guard x63 true (some (v42.getD 3 AV.undef)) (some (AV.tup []))).bind fun x67 =>
               (A.guard x63 true (A.sub x67 (AV.int .i64 1)) (some (AV.tup []))).bind fun x68 =>
               (A.guard x63 true (A.iaddr 3 x66 x68) (some (AV.tup []))).bind fun x69 =>
               (A.guard x63 true (A.faddr 0 x69) (some (AV.tup []))).bind fun x70 =>
               (A.guard x63 true ((A.deref x70 r61.2).bind fun c71 => A.partA 0 2 c71) (some (AV.tup []))).bind fun x72 =>
               (A.guard x63 true (A.partA 0 2 c50) (some (AV.tup []))).bind fun x73 =>
               (A.guard x63 true (A.quiet (m_R4_Before [x72, x73] r61.2) r61.2) (some (AV.tup []))).bind fun x74 =>
               (A.guard x63 true (A.not x74) (some (AV.tup []))).bind fun x75 =>
               (A.pick x63 x75 (AV.bool false)).bind fun x76 =>
               A.cond x76 (
                some (AX.ret, [(v42.getD 0 AV.undef), (AV.int .i64 7), (v42.getD 2 AV.undef), (v42.getD 3 AV.undef)], r61.2)) (
                (A.add (v42.getD 3 AV.undef) (AV.int .i64 1)).bind fun x77 =>
                some (AX.normal, [(v42.getD 0 AV.undef), (v42.getD 1 AV.undef), (v42.getD 2 AV.undef), x77], r61.2))))) (
             some (AX.exit 3, [(v42.getD 0 AV.undef), (v42.getD 1 AV.undef), (v42.getD 2 AV.undef), (v42.getD 3 AV.undef)], s43))) [(v8.getD 0 AV.undef), (v8.getD 1 AV.undef), (AV.lbx c16), (AV.int .i64 0)] r18.2).bind fun r78 =>
          bif r78.1 == AX.exit 3 then (
           (A.add (v8.getD 2 AV.undef) (AV.int .i64 1)).bind fun x79 =>
           some (AX.normal, [(r78.2.1.getD 0 AV.undef), (r78.2.1.getD 1 AV.undef), x79], r78.2.2)) else
          bif r78.1 == AX.ret then (
           some (AX.ret, [(r78.2.1.getD 0 AV.undef), (r78.2.1.getD 1 AV.undef), (v8.getD 2 AV.undef)], r78.2.2)) else
          none))))) (
      some (AX.exit 0, [(v8.getD 0 AV.undef), (v8.getD 1 AV.undef), (v8.getD 2 AV.undef)], s9))) [(AV.lbx c1), (AV.int .i64 0), (AV.int .i64 0)] r3.2).bind fun r80 =>
   bif r80.1 == AX.exit 0 then (
    A.fin σ (AV.int .i64 0) r80.2.2) else
   bif r80.1 == AX.ret then (
    A.fin σ (r80.2.1.getD 1 AV.undef) r80.2.2) else
   none))
noncomputable def m_R4_CheckPresets : List AV → Heap → Option (AV × Heap) := A.wrap true [(.a [(.s 3), (.s 4)]), (.s 3)] .k (A.ar2 r_R4_CheckPresets)
noncomputable def r_R4_PresetOf (a0 a1 : AV) (σ : Heap) : Option (AV × Heap) :=
 (A.lenS a0).bind fun x1 =>
 (A.loop (fun v2 s3 =>
   (A.lss (v2.getD 2 AV.undef) x1).bind fun x5 =>
   A.cond x5 (
    (A.iaddr 3 a0 (v2.getD 2 AV.undef)).bind fun x6 =>
    ((A.deref x6 s3).bind fun c7 => A.partA 0 3 c7).bind fun x8 =>
    (A.cells 3 x8).bind fun c9 =>
    (A.splice 0 c9 [(AV.int .i64 0), (AV.str ⟨#[]⟩), AV.nsl]).bind fun c10 =>
    (A.part1 0 c10).bind fun x11 =>
    (A.eql .i x11 a1).bind fun x12 =>
    A.cond x12 (
     (A.partA 0 3 c10).bind fun x13 =>
     (A.lb (v2.getD 0 AV.undef)).bind fun c16 =>
     (A.cells 3 x13).bind fun c14 =>
     (A.splice 0 c14 c16).bind fun c15 =>
     some (AX.ret, [(AV.lbx c15), (AV.bool true), (v2.getD 2 AV.undef)], s3)) (
     (A.add (v2.getD 2 AV.undef) (AV.int .i64 1)).bind fun x17 =>
     some (AX.normal, [(v2.getD 0 AV.undef), (v2.getD 1 AV.undef), x17], s3))) (
    some (AX.exit 0, [(v2.getD 0 AV.undef), (v2.getD 1 AV.undef), (v2.getD 2 AV.undef)], s3))) [(AV.lbx [(AV.int .i64 0), (AV.str ⟨#[]⟩), AV.nsl]), (AV.bool false), (AV.int .i64 0)] σ).bind fun r18 =>
 bif r18.1 == AX.exit 0 then (
  (A.lb (r18.2.1.getD 0 AV.undef)).bind fun c21 =>
  (A.cells 3 (AV.agg [(AV.int .i64 0), (AV.str ⟨#[]⟩), AV.nsl])).bind fun c19 =>
  (A.splice 0 c19 c21).bind fun c20 =>
  (A.partA 0 3 c20).bind fun x22 =>
  A.fin σ (AV.tup [x22, (AV.bool false)]) r18.2.2) else
 bif r18.1 == AX.ret then (
  ((A.lb (r18.2.1.getD 0 AV.undef)).bind fun c24 => A.partA 0 3 c24).bind fun x23 =>
  A.fin σ (AV.tup [x23, (r18.2.1.getD 1 AV.undef)]) r18.2.2) else
 none
noncomputable def m_R4_PresetOf : List AV → Heap → Option (AV × Heap) := A.wrap true [(.s 3)] (.t [(.a [.k, .k, (.s 3)]), .k]) (A.ar2 r_R4_PresetOf)
noncomputable def r_R4_Level (a0 a1 a2 : AV) (σ : Heap) : Option (AV × Heap) :=
 (A.cells 2 a1).bind fun c1 =>
 (A.cells 2 a2).bind fun c2 =>
 (A.part1 0 c2).bind fun x3 =>
 (A.neq .i x3 (AV.int .i64 0)).bind fun x4 =>
 (A.guard x4 true (A.part1 1 c2) (some (AV.tup []))).bind fun x5 =>
 (A.guard x4 true (A.neq .i x5 (AV.int .i64 0)) (some (AV.tup []))).bind fun x6 =>
 (A.pick x4 x6 (AV.bool false)).bind fun x7 =>
 A.cond x7 (
  A.fin σ (AV.tup [(AV.int .i64 0), (AV.int .i64 3)]) σ) (
  (A.part1 0 c2).bind fun x8 =>
  (m_R1_IsLevel [x8] σ).bind fun r9 =>
  (A.not r9.1).bind fun x10 =>
  A.cond x10 (
   A.fin σ (AV.tup [(AV.int .i64 0), (AV.int .i64 1)]) r9.2) (
   (A.part1 1 c2).bind fun x11 =>
   (A.eql .i x11 (AV.int .i64 0)).bind fun x12 =>
   A.cond x12 (
    (A.part1 0 c2).bind fun x13 =>
    A.fin σ (AV.tup [x13, (AV.int .i64 0)]) r9.2) (
    (A.part1 1 c2).bind fun x14 =>
    (m_R4_PresetOf [a0, x14] r9.2).bind fun r15 =>
    (A.ext 0 r15.1).bind fun x16 =>
    (A.ext 1 r15.1).bind fun x17 =>
    (A.cells 3 x16).bind fun c18 =>
    (A.splice 0 c18 [(AV.int .i64 0), (AV.str ⟨#[]⟩), AV.nsl]).bind fun c19 =>
    (A.not x17).bind fun x20 =>
    A.cond x20 (
     A.fin σ (AV.tup [(AV.int .i64 0), (AV.int .i64 8)]) r15.2) (
     (A.part1 2 c19).bind fun x21 =>
     (A.lenS x21).bind fun x22 =>
     (A.loop (fun v23 s24 =>
       (A.lss (v23.getD 3 AV.undef) x22).bind fun x26 =>
       A.cond x26 (
        (A.iaddr 3 x21 (v23.getD 3 AV.undef)).bind fun x27 =>
        ((A.deref x27 s24).bind fun c28 => A.partA 0 3 c28).bind fun x29 =>
        (A.cells 3 x29).bind fun c30 =>
        (A.splice 0 c30 [(AV.int .i64 0), (AV.str ⟨#[]⟩), (AV.int .i64 0)]).bind fun c31 =>
        (A.partA 0 2 c31).bind fun x32 =>
        ((A.lb (v23.getD 0 AV.undef)).bind fun c33 => A.partA 0 2 c33).bind fun x34 =>
        (A.eql (.s [0, 2]) x32 x34).bind fun x35 =>
        A.cond x35 (
         (A.part1 2 c31).bind fun x36 =>
         some (AX.ret, [(v23.getD 0 AV.undef), x36, (AV.int .i64 0), (v23.getD 3 AV.undef)], s24)) (
         (A.add (v23.getD 3 AV.undef) (AV.int .i64 1)).bind fun x37 =>
         some (AX.normal, [(v23.getD 0 AV.undef), (v23.getD 1 AV.undef), (v23.getD 2 AV.undef), x37], s24))) (
        some (AX.exit 1, [(v23.getD 0 AV.undef), (v23.getD 1 AV.undef), (v23.getD 2 AV.undef), (v23.getD 3 AV.undef)], s24))) [(AV.lbx c1), (AV.int .i64 0), (AV.int .i64 0), (AV.int .i64 0)] r15.2).bind fun r38 =>
     bif r38.1 == AX.exit 1 then (
      A.fin σ (AV.tup [(AV.int .i64 0), (AV.int .i64 8)]) r38.2.2) else
     bif r38.1 == AX.ret then (
      A.fin σ (AV.tup [(r38.2.1.getD 1 AV.undef), (r38.2.1.getD 2 AV.undef)]) r38.2.2) else
     none))))
noncomputable def m_R4_Level : List AV → Heap → Option (AV × Heap) := A.wrap true [(.s 3)] .k (A.ar3 r_R4_Level)
end Go.Proofs.YtphgchakmkankaaGreat

namespace Go.Proofs.YtphgchakmkankaaGreat
set_option linter.unusedSectionVars false
set_option linter.unusedSimpArgs false
set_option linter.unusedVariables false
set_option maxRecDepth 100000
noncomputable def r_R5_checkMove (a0 a1 : AV) (σ : Heap) : Option (AV × Heap) :=
 (A.cells 8 a0).bind fun c1 =>
 (A.part1 0 c1).bind fun x2 =>
 (m_R1_Within [x2, (AV.int .i64 1), (AV.int .i64 9999)] σ).bind fun r3 =>
 (A.not r3.1).bind fun x4 =>
 A.cond x4 (
  A.fin σ (AV.int .i64 1) r3.2) (
  (A.part1 1 c1).bind fun x5 =>
  (m_R1_IsName [x5] r3.2).bind fun r6 =>
  (A.not r6.1).bind fun x7 =>
  A.cond x7 (
   A.fin σ (AV.int .i64 5) r6.2) (
   (A.part1 4 c1).bind fun x8 =>
   (A.guard x8 true (A.partA 2 2 c1) (some (AV.tup []))).bind fun x9 =>
   (A.guard x8 true (some (AV.agg [(AV.int .i64 0), (AV.int .i64 0)])) (some (AV.tup []))).bind fun x10 =>
   (A.guard x8 true (A.neq (.s [0, 0]) x9 x10) (some (AV.tup []))).bind fun x11 =>
   (A.pick x8 x11 (AV.bool false)).bind fun x12 =>
   (A.guard x12 false (A.part1 2 c1) (some (AV.tup []))).bind fun x13 =>
   (A.guard x12 false (A.neq .i x13 (AV.int .i64 0)) (some (AV.tup []))).bind fun x14 =>
   (A.guard x12 false (some x14) (some (AV.tup []))).bind fun x15 =>
   (A.guard x15 true (A.part1 3 c1) (some (AV.tup []))).bind fun x16 =>
   (A.guard x15 true (A.neq .i x16 (AV.int .i64 0)) (some (AV.tup []))).bind fun x17 =>
   (A.guard x12 false (A.pick x15 x17 (AV.bool false)) (some (AV.tup []))).bind fun x18 =>
   (A.pick x12 (AV.bool true) x18).bind fun x19 =>
   A.cond x19 (
    A.fin σ (AV.int .i64 3) r6.2) (
    (A.part1 2 c1).bind fun x20 =>
    (m_R1_IsLevel [x20] r6.2).bind fun r21 =>
    (A.not r21.1).bind fun x22 =>
    (A.guard x22 false (A.part1 3 c1) (some (AV.tup []))).bind fun x23 =>
    (A.guard x22 false (A.quiet (m_R1_Within [x23, (AV.int .i64 0), (AV.int .i64 999)] r21.2) r21.2) (some (AV.tup []))).bind fun x24 =>
    (A.guard x22 false (A.not x24) (some (AV.tup []))).bind fun x25 =>
    (A.pick x22 (AV.bool true) x25).bind fun x26 =>
    A.cond x26 (
     A.fin σ (AV.int .i64 1) r21.2) (
     (A.part1 5 c1).bind fun x27 =>
     (A.not x27).bind fun x28 =>
     (A.guard x28 true (A.part1 6 c1) (some (AV.tup []))).bind fun x29 =>
     (A.guard x28 true (A.neq .i x29 (AV.int .i64 0)) (some (AV.tup []))).bind fun x30 =>
     (A.guard x28 true (some x30) (some (AV.tup []))).bind fun x31 =>
     (A.guard x31 false (A.part1 7 c1) (some (AV.tup []))).bind fun x32 =>
     (A.guard x31 false (A.neq .i x32 (AV.int .i64 0)) (some (AV.tup []))).bind fun x33 =>
     (A.guard x28 true (A.pick x31 (AV.bool true) x33) (some (AV.tup []))).bind fun x34 =>
     (A.pick x28 x34 (AV.bool false)).bind fun x35 =>
     A.cond x35 (
      A.fin σ (AV.int .i64 3) r21.2) (
      (A.part1 6 c1).bind fun x36 =>
      (m_R1_IsTime [x36] r21.2).bind fun r37 =>
      (A.not r37.1).bind fun x38 =>
      (A.guard x38 false (A.part1 7 c1) (some (AV.tup []))).bind fun x39 =>
      (A.guard x38 false (A.quiet (m_R1_IsTime [x39] r37.2) r37.2) (some (AV.tup []))).bind fun x40 =>
      (A.guard x38 false (A.not x40) (some (AV.tup []))).bind fun x41 =>
      (A.pick x38 (AV.bool true) x41).bind fun x42 =>
      A.cond x42 (
       A.fin σ (AV.int .i64 1) r37.2) (
       (A.lenS a1).bind fun x43 =>
       (A.gtr x43 (AV.int .i64 0)).bind fun x44 =>
       (A.guard x44 true (some a1) (some (AV.tup []))).bind fun x45 =>
       (A.guard x44 true (some a1) (some (AV.tup []))).bind fun x46 =>
       (A.guard x44 true (A.lenS x46) (some (AV.tup []))).bind fun x47 =>
       (A.guard x44 true (A.sub x47 (AV.int .i64 1)) (some (AV.tup []))).bind fun x48 =>
       (A.guard x44 true (A.iaddr 8 x45 x48) (some (AV.tup []))).bind fun x49 =>
       (A.guard x44 true (A.faddr 0 x49) (some (AV.tup []))).bind fun x50 =>
       (A.guard x44 true ((A.deref x50 r37.2).bind fun c51 => A.partA 0 2 c51) (some (AV.tup []))).bind fun x52 =>
       (A.guard x44 true (A.partA 0 2 c1) (some (AV.tup []))).bind fun x53 =>
       (A.guard x44 true (A.quiet (m_R4_Before [x52, x53] r37.2) r37.2) (some (AV.tup []))).bind fun x54 =>
       (A.guard x44 true (A.not x54) (some (AV.tup []))).bind fun x55 =>
       (A.pick x44 x55 (AV.bool false)).bind fun x56 =>
       A.cond x56 (
        A.fin σ (AV.int .i64 7) r37.2) (
        A.fin σ (AV.int .i64 0) r37.2)))))))
noncomputable def m_R5_checkMove : List AV → Heap → Option (AV × Heap) := A.wrap true [.k, (.s 8)] .k (A.ar2 r_R5_checkMove)
noncomputable def r_R5_checkMoves (a0 : AV) (σ : Heap) : Option (AV × Heap) :=
 (A.lenS a0).bind fun x1 =>
 (A.gtr x1 (AV.int .i64 2000)).bind fun x2 =>
 A.cond x2 (
  A.fin σ (AV.int .i64 2) σ) (
  (A.lenS a0).bind fun x3 =>
  (A.loop (fun v4 s5 =>
    (A.lss (v4.getD 1 AV.undef) x3).bind fun x7 =>
    A.cond x7 (
     (A.iaddr 8 a0 (v4.getD 1 AV.undef)).bind fun x8 =>
     ((A.deref x8 s5).bind fun c9 => A.partA 0 8 c9).bind fun x10 =>
     (A.cells 8 x10).bind fun c11 =>
     (A.splice 0 c11 [(AV.int .i64 0), (AV.str ⟨#[]⟩), (AV.int .i64 0), (AV.int .i64 0), (AV.bool false), (AV.bool false), (AV.int .i64 0), (AV.int .i64 0)]).bind fun c12 =>
     (A.partA 0 8 c12).bind fun x13 =>
     (A.sliceS 8 a0 none (some (v4.getD 1 AV.undef)) s5).bind fun x14 =>
     (A.quiet (m_R5_checkMove [x13, x14] s5) s5).bind fun x15 =>
     (A.neq .i x15 (AV.int .i64 0)).bind fun x16 =>
     A.cond x16 (
      some (AX.ret, [x15, (v4.getD 1 AV.undef)], s5)) (
      (A.add (v4.getD 1 AV.undef) (AV.int .i64 1)).bind fun x17 =>
      some (AX.normal, [(v4.getD 0 AV.undef), x17], s5))) (
     some (AX.exit 0, [(v4.getD 0 AV.undef), (v4.getD 1 AV.undef)], s5))) [(AV.int .i64 0), (AV.int .i64 0)] σ).bind fun r18 =>
  bif r18.1 == AX.exit 0 then (
   A.fin σ (AV.int .i64 0) r18.2.2) else
  bif r18.1 == AX.ret then (
   A.fin σ (r18.2.1.getD 0 AV.undef) r18.2.2) else
  none)
noncomputable def m_R5_checkMoves : List AV → Heap → Option (AV × Heap) := A.wrap true [(.s 8)] .k (A.ar1 r_R5_checkMoves)
noncomputable def r_R5_CheckForm (a0 : AV) (σ : Heap) : Option (AV × Heap) :=
 (A.lenS a0).bind fun x1 =>
 (A.gtr x1 (AV.int .i64 300)).bind fun x2 =>
 A.cond x2 (
  A.fin σ (AV.int .i64 2) σ) (
  (A.lenS a0).bind fun x3 =>
  (A.loop (fun v4 s5 =>
    (A.lss (v4.getD 2 AV.undef) x3).bind fun x7 =>
    A.cond x7 (
     (A.iaddr 11 a0 (v4.getD 2 AV.undef)).bind fun x8 =>
     ((A.deref x8 s5).bind fun c9 => A.partA 0 11 c9).bind fun x10 =>
     (A.cells 11 x10).bind fun c11 =>
     (A.splice 0 c11 [(AV.int .i64 0), (AV.str ⟨#[]⟩), (AV.int .i64 0), (AV.int .i64 0), (AV.int .i64 0), (AV.int .i64 0), (AV.int .i64 0), AV.nsl, (AV.bool false), (AV.int .i64 0), AV.nsl]).bind fun c12 =>
     (A.part1 0 c12).bind fun x13 =>
     (m_R1_Within [x13, (AV.int .i64 1), (AV.int .i64 9999999)] s5).bind fun r14 =>
     (A.not r14.1).bind fun x15 =>
     A.cond x15 (
      some (AX.ret, [(AV.int .i64 1), (v4.getD 1 AV.undef), (v4.getD 2 AV.undef)], r14.2)) (
      (A.gtr (v4.getD 2 AV.undef) (AV.int .i64 0)).bind fun x16 =>
      (A.guard x16 true (A.part1 0 c12) (some (AV.tup []))).bind fun x17 =>
      (A.guard x16 true (some a0) (some (AV.tup []))).bind fun x18 =>
      (A.guard x16 true (some (v4.getD 2 AV.undef)) (some (AV.tup []))).bind fun x19 =>
      (A.guard x16 true (A.sub x19 (AV.int .i64 1)) (some (AV.tup []))).bind fun x20 =>
      (A.guard x16 true (A.iaddr 11 x18 x20) (some (AV.tup []))).bind fun x21 =>
      (A.guard x16 true (A.faddr 0 x21) (some (AV.tup []))).bind fun x22 =>
      (A.guard x16 true ((A.deref x22 r14.2).bind fun c23 => A.part1 0 c23) (some (AV.tup []))).bind fun x24 =>
      (A.guard x16 true (A.leq x17 x24) (some (AV.tup []))).bind fun x25 =>
      (A.pick x16 x25 (AV.bool false)).bind fun x26 =>
      A.cond x26 (
       some (AX.ret, [(AV.int .i64 7), (v4.getD 1 AV.undef), (v4.getD 2 AV.undef)], r14.2)) (
       (A.part1 1 c12).bind fun x27 =>
       (A.neq .z x27 (AV.str ⟨#[]⟩)).bind fun x28 =>
       (A.guard x28 true (A.part1 1 c12) (some (AV.tup []))).bind fun x29 =>
       (A.guard x28 true (A.quiet (m_R1_IsTitle [x29] r14.2) r14.2) (some (AV.tup []))).bind fun x30 =>
       (A.guard x28 true (A.not x30) (some (AV.tup []))).bind fun x31 =>
       (A.pick x28 x31 (AV.bool false)).bind fun x32 =>
       A.cond x32 (
        some (AX.ret, [(AV.int .i64 3), (v4.getD 1 AV.undef), (v4.getD 2 AV.undef)], r14.2)) (
        (A.part1 2 c12).bind fun x33 =>
        (m_R1_IsTime [x33] r14.2).bind fun r34 =>
        (A.not r34.1).bind fun x35 =>
        (A.guard x35 false (A.part1 3 c12) (some (AV.tup []))).bind fun x36 =>
        (A.guard x35 false (A.quiet (m_R1_IsTime [x36] r34.2) r34.2) (some (AV.tup []))).bind fun x37 =>
        (A.guard x35 false (A.not x37) (some (AV.tup []))).bind fun x38 =>
        (A.pick x35 (AV.bool true) x38).bind fun x39 =>
        (A.guard x39 false (A.part1 4 c12) (some (AV.tup []))).bind fun x40 =>
        (A.guard x39 false (A.quiet (m_R1_IsTime [x40] r34.2) r34.2) (some (AV.tup []))).bind fun x41 =>
        (A.guard x39 false (A.not x41) (some (AV.tup []))).bind fun x42 =>
        (A.pick x39 (AV.bool true) x42).bind fun x43 =>
        (A.guard x43 false (A.part1 5 c12) (some (AV.tup []))).bind fun x44 =>
        (A.guard x43 false (A.quiet (m_R1_IsTime [x44] r34.2) r34.2) (some (AV.tup []))).bind fun x45 =>
        (A.guard x43 false (A.not x45) (some (AV.tup []))).bind fun x46 =>
        (A.pick x43 (AV.bool true) x46).bind fun x47 =>
        (A.guard x47 false (A.part1 9 c12) (some (AV.tup []))).bind fun x48 =>
        (A.guard x47 false (A.quiet (m_R1_Within [x48, (AV.int .i64 (-1)), (AV.int .i64 36000000)] r34.2) r34.2) (some (AV.tup []))).bind fun x49 =>
        (A.guard x47 false (A.not x49) (some (AV.tup []))).bind fun x50 =>
        (A.pick x47 (AV.bool true) x50).bind fun x51 =>
        A.cond x51 (
         some (AX.ret, [(AV.int .i64 1), (v4.getD 1 AV.undef), (v4.getD 2 AV.undef)], r34.2)) (
         (A.partA 6 2 c12).bind fun x52 =>
         (m_R1_CheckCurve [x52] r34.2).bind fun r53 =>
         (A.neq .i r53.1 (AV.int .i64 0)).bind fun x54 =>
         A.cond x54 (
          some (AX.ret, [r53.1, (v4.getD 1 AV.undef), (v4.getD 2 AV.undef)], r53.2)) (
          (A.part1 10 c12).bind fun x55 =>
          (m_R5_checkMoves [x55] r53.2).bind fun r56 =>
          (A.neq .i r56.1 (AV.int .i64 0)).bind fun x57 =>
          A.cond x57 (
           some (AX.ret, [r56.1, (v4.getD 1 AV.undef), (v4.getD 2 AV.undef)], r56.2)) (
           (A.part1 10 c12).bind fun x58 =>
           (A.lenS x58).bind fun x59 =>
           (A.add (v4.getD 1 AV.undef) x59).bind fun x60 =>
           (A.add (v4.getD 2 AV.undef) (AV.int .i64 1)).bind fun x61 =>
           some (AX.normal, [(v4.getD 0 AV.undef), x60, x61], r56.2)))))))) (
     some (AX.exit 0, [(v4.getD 0 AV.undef), (v4.getD 1 AV.undef), (v4.getD 2 AV.undef)], s5))) [(AV.int .i64 0), (AV.int .i64 0), (AV.int .i64 0)] σ).bind fun r62 =>
  bif r62.1 == AX.exit 0 then (
   (A.gtr (r62.2.1.getD 1 AV.undef) (AV.int .i64 10000)).bind fun x63 =>
   A.cond x63 (
    A.fin σ (AV.int .i64 2) r62.2.2) (
    A.fin σ (AV.int .i64 0) r62.2.2)) else
  bif r62.1 == AX.ret then (
   A.fin σ (r62.2.1.getD 0 AV.undef) r62.2.2) else
  none)
noncomputable def m_R5_CheckForm : List AV → Heap → Option (AV × Heap) := A.wrap true [(.e 11 [.k, .k, .k, .k, .k, .k, .k, (.s 2), .k, .k, (.s 8)])] .k (A.ar1 r_R5_CheckForm)
noncomputable def r_R5_CheckList (a0 a1 a2 : AV) (σ : Heap) : Option (AV × Heap) :=
 (A.cells 2 a0).bind fun c1 =>
 (A.partA 0 2 c1).bind fun x2 =>
 (m_R4_CheckPresets [x2, a1] σ).bind fun r3 =>
 (A.neq .i r3.1 (AV.int .i64 0)).bind fun x4 =>
 A.cond x4 (
  A.fin σ r3.1 r3.2) (
  (m_R5_CheckForm [a2] r3.2).bind fun r5 =>
  (A.neq .i r5.1 (AV.int .i64 0)).bind fun x6 =>
  A.cond x6 (
   A.fin σ r5.1 r5.2) (
   (A.lenS a2).bind fun x7 =>
   (A.loop (fun v8 s9 =>
     (A.lss (v8.getD 2 AV.undef) x7).bind fun x11 =>
     A.cond x11 (
      (A.iaddr 11 a2 (v8.getD 2 AV.undef)).bind fun x12 =>
      ((A.deref x12 s9).bind fun c13 => A.partA 0 11 c13).bind fun x14 =>
      (A.cells 11 x14).bind fun c15 =>
      (A.splice 0 c15 [(AV.int .i64 0), (AV.str ⟨#[]⟩), (AV.int .i64 0), (AV.int .i64 0), (AV.int .i64 0), (AV.int .i64 0), (AV.int .i64 0), AV.nsl, (AV.bool false), (AV.int .i64 0), AV.nsl]).bind fun c16 =>
      (A.part1 10 c16).bind fun x17 =>
      (A.lenS x17).bind fun x18 =>
      (A.loop (fun v19 s20 =>
        (A.lss (v19.getD 2 AV.undef) x18).bind fun x22 =>
        A.cond x22 (
         (A.iaddr 8 x17 (v19.getD 2 AV.undef)).bind fun x23 =>
         ((A.deref x23 s20).bind fun c24 => A.partA 0 8 c24).bind fun x25 =>
         (A.cells 8 x25).bind fun c26 =>
         (A.splice 0 c26 [(AV.int .i64 0), (AV.str ⟨#[]⟩), (AV.int .i64 0), (AV.int .i64 0), (AV.bool false), (AV.bool false), (AV.int .i64 0), (AV.int .i64 0)]).bind fun c27 =>
         ((A.lb (v19.getD 0 AV.undef)).bind fun c28 => A.partA 0 2 c28).bind fun x29 =>
         (A.partA 0 2 c27).bind fun x30 =>
         (m_R2_ParamOf [x29, x30] s20).bind fun r31 =>
         (A.ext 0 r31.1).bind fun x32 =>
         (A.ext 1 r31.1).bind fun x33 =>
         (A.cells 7 x32).bind fun c34 =>
         (A.splice 0 c34 [(AV.str ⟨#[]⟩), (AV.int .i64 0), (AV.int .i64 0), (AV.int .i64 0), (AV.int .i64 0), (AV.bool false), AV.nsl]).bind fun c35 =>
         (A.not x33).bind fun x36 =>
         A.cond x36 (
          some (AX.ret, [(v19.getD 0 AV.undef), (AV.int .i64 8), (v19.getD 2 AV.undef)], r31.2)) (
          (A.partA 0 2 c27).bind fun x37 =>
          (A.partA 2 2 c27).bind fun x38 =>
          (m_R4_Level [a1, x37, x38] r31.2).bind fun r39 =>
          (A.ext 0 r39.1).bind fun x40 =>
          (A.ext 1 r39.1).bind fun x41 =>
          (A.neq .i x41 (AV.int .i64 0)).bind fun x42 =>
          A.cond x42 (
           some (AX.ret, [(v19.getD 0 AV.undef), x41, (v19.getD 2 AV.undef)], r39.2)) (
           (A.add (v19.getD 2 AV.undef) (AV.int .i64 1)).bind fun x43 =>
           some (AX.normal, [(v19.getD 0 AV.undef), (v19.getD 1 AV.undef), x43], r39.2)))) (
         some (AX.exit 2, [(v19.getD 0 AV.undef), (v19.getD 1 AV.undef), (v19.getD 2 AV.undef)], s20))) [(v8.getD 0 AV.undef), (v8.getD 1 AV.undef), (AV.int .i64 0)] s9).bind fun r44 =>
      bif r44.1 == AX.exit 2 then (
       (A.add (v8.getD 2 AV.undef) (AV.int .i64 1)).bind fun x45 =>
       some (AX.normal, [(r44.2.1.getD 0 AV.undef), (r44.2.1.getD 1 AV.undef), x45], r44.2.2)) else
      bif r44.1 == AX.ret then (
       some (AX.ret, [(r44.2.1.getD 0 AV.undef), (r44.2.1.getD 1 AV.undef), (v8.getD 2 AV.undef)], r44.2.2)) else
      none) (
      some (AX.exit 0, [(v8.getD 0 AV.undef), (v8.getD 1 AV.undef), (v8.getD 2 AV.undef)], s9))) [(AV.lbx c1), (AV.int .i64 0), (AV.int .i64 0)] r5.2).bind fun r46 =>
   bif r46.1 == AX.exit 0 then (
    A.fin σ (AV.int .i64 0) r46.2.2) else
   bif r46.1 == AX.ret then (
    A.fin σ (r46.2.1.getD 1 AV.undef) r46.2.2) else
   none))
noncomputable def m_R5_CheckList : List AV → Heap → Option (AV × Heap) := A.wrap true [(.a [(.e 3 [.k, .k, (.e 7 [.k, .k, .k, .k, .k, .k, (.s 3)])]), (.s 4)]), (.e 3 [.k, .k, (.s 3)]), (.e 11 [.k, .k, .k, .k, .k, .k, .k, (.s 2), .k, .k, (.s 8)])] .k (A.ar3 r_R5_CheckList)
noncomputable def r_R5_place (a0 a1 : AV) (σ : Heap) : Option (AV × Heap) :=
 (A.cells 2 a1).bind fun c1 =>
 (A.loop (fun v2 s3 =>
   (A.lenS a0).bind fun x5 =>
   (A.lss (v2.getD 1 AV.undef) x5).bind fun x6 =>
   (A.guard x6 true (some a0) (some (AV.tup []))).bind fun x7 =>
   (A.guard x6 true (some (v2.getD 1 AV.undef)) (some (AV.tup []))).bind fun x8 =>
   (A.guard x6 true (A.iaddr 5 x7 x8) (some (AV.tup []))).bind fun x9 =>
   (A.guard x6 true (A.faddr 0 x9) (some (AV.tup []))).bind fun x10 =>
   (A.guard x6 true ((A.deref x10 s3).bind fun c11 => A.partA 0 2 c11) (some (AV.tup []))).bind fun x12 =>
   (A.guard x6 true ((A.lb (v2.getD 0 AV.undef)).bind fun c13 => A.partA 0 2 c13) (some (AV.tup []))).bind fun x14 =>
   (A.guard x6 true (A.quiet (m_R4_Before [x12, x14] s3) s3) (some (AV.tup []))).bind fun x15 =>
   (A.pick x6 x15 (AV.bool false)).bind fun x16 =>
   A.cond x16 (
    (A.add (v2.getD 1 AV.undef) (AV.int .i64 1)).bind fun x17 =>
    some (AX.normal, [(v2.getD 0 AV.undef), x17], s3)) (
    some (AX.exit 0, [(v2.getD 0 AV.undef), (v2.getD 1 AV.undef)], s3))) [(AV.lbx c1), (AV.int .i64 0)] σ).bind fun r18 =>
 bif r18.1 == AX.exit 0 then (
  (A.lenS a0).bind fun x19 =>
  (A.lss (r18.2.1.getD 1 AV.undef) x19).bind fun x20 =>
  (A.guard x20 true (some a0) (some (AV.tup []))).bind fun x21 =>
  (A.guard x20 true (some (r18.2.1.getD 1 AV.undef)) (some (AV.tup []))).bind fun x22 =>
  (A.guard x20 true (A.iaddr 5 x21 x22) (some (AV.tup []))).bind fun x23 =>
  (A.guard x20 true (A.faddr 0 x23) (some (AV.tup []))).bind fun x24 =>
  (A.guard x20 true ((A.deref x24 r18.2.2).bind fun c25 => A.partA 0 2 c25) (some (AV.tup []))).bind fun x26 =>
  (A.guard x20 true ((A.lb (r18.2.1.getD 0 AV.undef)).bind fun c27 => A.partA 0 2 c27) (some (AV.tup []))).bind fun x28 =>
  (A.guard x20 true (A.eql (.s [0, 2]) x26 x28) (some (AV.tup []))).bind fun x29 =>
  (A.pick x20 x29 (AV.bool false)).bind fun x30 =>
  A.fin σ (AV.tup [(r18.2.1.getD 1 AV.undef), x30]) r18.2.2) else
 none
noncomputable def m_R5_place : List AV → Heap → Option (AV × Heap) := A.wrap true [(.s 5)] .k (A.ar2 r_R5_place)
noncomputable def r_R5_after (a0 a1 : AV) (σ : Heap) : Option (AV × Heap) :=
 (A.cells 11 a1).bind fun c1 =>
 (m_slices_Clone_api_Entry [a0] σ).bind fun r2 =>
 (A.part1 10 c1).bind fun x3 =>
 (A.lenS x3).bind fun x4 =>
 (A.loop (fun v5 s6 =>
   (A.lss (v5.getD 2 AV.undef) x4).bind fun x8 =>
   A.cond x8 (
    (A.iaddr 8 x3 (v5.getD 2 AV.undef)).bind fun x9 =>
    ((A.deref x9 s6).bind fun c10 => A.partA 0 8 c10).bind fun x11 =>
    (A.cells 8 x11).bind fun c12 =>
    (A.splice 0 c12 [(AV.int .i64 0), (AV.str ⟨#[]⟩), (AV.int .i64 0), (AV.int .i64 0), (AV.bool false), (AV.bool false), (AV.int .i64 0), (AV.int .i64 0)]).bind fun c13 =>
    (A.partA 0 2 c13).bind fun x14 =>
    (m_R5_place [(v5.getD 1 AV.undef), x14] s6).bind fun r15 =>
    (A.ext 0 r15.1).bind fun x16 =>
    (A.ext 1 r15.1).bind fun x17 =>
    (A.cond x17 (
     (A.add x16 (AV.int .i64 1)).bind fun x19 =>
     (m_slices_Delete_api_Entry [(v5.getD 1 AV.undef), x16, x19] r15.2).bind fun r20 =>
     some ([(v5.getD 0 AV.undef), r20.1, (AV.lbx c13)], r20.2)) (
     some ([(v5.getD 0 AV.undef), (v5.getD 1 AV.undef), (AV.lbx c13)], r15.2))).bind fun r18 =>
    ((A.lb (r18.1.getD 2 AV.undef)).bind fun _ => some (4)).bind fun p21 =>
    ((A.lb (r18.1.getD 2 AV.undef)).bind fun c22 => A.part1 p21 c22).bind fun x23 =>
    (A.not x23).bind fun x24 =>
    (A.cond x24 (
     ((A.lb (r18.1.getD 2 AV.undef)).bind fun _ => some (0)).bind fun p26 =>
     ((A.lb (r18.1.getD 2 AV.undef)).bind fun c27 => A.partA p26 2 c27).bind fun x28 =>
     ((A.lb (r18.1.getD 2 AV.undef)).bind fun _ => some (2)).bind fun p29 =>
     ((A.lb (r18.1.getD 2 AV.undef)).bind fun c30 => A.partA p29 2 c30).bind fun x31 =>
     ((A.lb (r18.1.getD 0 AV.undef)).bind fun _ => some (0)).bind fun p32 =>
     ((A.lb (r18.1.getD 0 AV.undef)).bind fun c33 => A.part1 p32 c33).bind fun x34 =>
     (((A.cells 2 x28).bind fun c35 => (A.splice 0 c35 [(AV.int .i64 0), (AV.str ⟨#[]⟩), (AV.int .i64 0), (AV.int .i64 0), (AV.int .i64 0)]).bind fun c36 => (A.cells 2 x31).bind fun c37 => (A.splice 2 c37 c36).bind fun c38 => ((A.cell x34).bind fun v => some [v]).bind fun c39 => (A.splice 4 c39 c38).bind fun c40 => some c40).bind fun cs => some (AV.agg cs)).bind fun x41 =>
     (((A.cells 5 x41).bind fun c42 => (A.splice 0 c42 [(AV.int .i64 0), (AV.str ⟨#[]⟩), (AV.int .i64 0), (AV.int .i64 0), (AV.int .i64 0)]).bind fun c43 => some c43).bind fun cs => some (AV.sl 5 (chunks 5 1 cs))).bind fun x44 =>
     (m_slices_Insert_api_Entry [(r18.1.getD 1 AV.undef), x16, x44] r18.2).bind fun r45 =>
     some ([(r18.1.getD 0 AV.undef), r45.1], r45.2)) (
     some ([(r18.1.getD 0 AV.undef), (r18.1.getD 1 AV.undef)], r18.2))).bind fun r25 =>
    (A.add (v5.getD 2 AV.undef) (AV.int .i64 1)).bind fun x46 =>
    some (AX.normal, [(r25.1.getD 0 AV.undef), (r25.1.getD 1 AV.undef), x46], r25.2)) (
    some (AX.exit 0, [(v5.getD 0 AV.undef), (v5.getD 1 AV.undef), (v5.getD 2 AV.undef)], s6))) [(AV.lbx c1), r2.1, (AV.int .i64 0)] r2.2).bind fun r47 =>
 bif r47.1 == AX.exit 0 then (
  some ((r47.2.1.getD 1 AV.undef), r47.2.2)) else
 none
noncomputable def m_R5_after : List AV → Heap → Option (AV × Heap) := A.wrap true [(.s 5), (.a [.k, .k, .k, .k, .k, .k, .k, (.s 2), .k, .k, (.s 8)])] .k (A.ar2 r_R5_after)
noncomputable def r_R5_Before (a0 a1 : AV) (σ : Heap) : Option (AV × Heap) :=
 (A.sliceS 11 a0 none (some a1) σ).bind fun x1 =>
 (A.lenS x1).bind fun x2 =>
 (A.loop (fun v3 s4 =>
   (A.lss (v3.getD 1 AV.undef) x2).bind fun x6 =>
   A.cond x6 (
    (A.iaddr 11 x1 (v3.getD 1 AV.undef)).bind fun x7 =>
    ((A.deref x7 s4).bind fun c8 => A.partA 0 11 c8).bind fun x9 =>
    (A.cells 11 x9).bind fun c10 =>
    (A.splice 0 c10 [(AV.int .i64 0), (AV.str ⟨#[]⟩), (AV.int .i64 0), (AV.int .i64 0), (AV.int .i64 0), (AV.int .i64 0), (AV.int .i64 0), AV.nsl, (AV.bool false), (AV.int .i64 0), AV.nsl]).bind fun c11 =>
    (A.partA 0 11 c11).bind fun x12 =>
    (m_R5_after [(v3.getD 0 AV.undef), x12] s4).bind fun r13 =>
    (A.add (v3.getD 1 AV.undef) (AV.int .i64 1)).bind fun x14 =>
    some (AX.normal, [r13.1, x14], r13.2)) (
    some (AX.exit 0, [(v3.getD 0 AV.undef), (v3.getD 1 AV.undef)], s4))) [AV.nsl, (AV.int .i64 0)] σ).bind fun r15 =>
 bif r15.1 == AX.exit 0 then (
  some ((r15.2.1.getD 0 AV.undef), r15.2.2)) else
 none
noncomputable def m_R5_Before : List AV → Heap → Option (AV × Heap) := A.wrap true [(.e 11 [.k, .k, .k, .k, .k, .k, .k, (.s 2), .k, .k, (.s 8)])] .k (A.ar2 r_R5_Before)
noncomputable def r_R5_levels (a0 a1 a2 : AV) (σ : Heap) : Option (AV × Heap) :=
 (A.cells 2 a0).bind fun c1 =>
 (A.partA 0 2 c1).bind fun x2 =>
 (m_R2_KeysOf [x2] σ).bind fun r3 =>
 (A.lenS r3.1).bind fun x4 =>
 (A.loop (fun v5 s6 =>
   (A.lss (v5.getD 2 AV.undef) x4).bind fun x8 =>
   A.cond x8 (
    (A.iaddr 2 r3.1 (v5.getD 2 AV.undef)).bind fun x9 =>
    ((A.deref x9 s6).bind fun c10 => A.partA 0 2 c10).bind fun x11 =>
    (A.cells 2 x11).bind fun c12 =>
    (A.splice 0 c12 [(AV.int .i64 0), (AV.str ⟨#[]⟩)]).bind fun c13 =>
    ((A.lb (v5.getD 0 AV.undef)).bind fun c14 => A.partA 0 2 c14).bind fun x15 =>
    (A.partA 0 2 c13).bind fun x16 =>
    (m_R2_ParamOf [x15, x16] s6).bind fun r17 =>
    (A.ext 0 r17.1).bind fun x18 =>
    (A.ext 1 r17.1).bind fun x19 =>
    (A.cells 7 x18).bind fun c20 =>
    (A.splice 0 c20 [(AV.str ⟨#[]⟩), (AV.int .i64 0), (AV.int .i64 0), (AV.int .i64 0), (AV.int .i64 0), (AV.bool false), AV.nsl]).bind fun c21 =>
    (A.part1 4 c21).bind fun x22 =>
    (A.partA 0 2 c13).bind fun x23 =>
    (m_R5_place [a2, x23] r17.2).bind fun r24 =>
    (A.ext 0 r24.1).bind fun x25 =>
    (A.ext 1 r24.1).bind fun x26 =>
    (A.cond x26 (
     (A.partA 0 2 c13).bind fun x28 =>
     (A.iaddr 5 a2 x25).bind fun x29 =>
     (A.faddr 2 x29).bind fun x30 =>
     ((A.deref x30 r24.2).bind fun c31 => A.partA 0 2 c31).bind fun x32 =>
     (A.quiet (m_R4_Level [a1, x28, x32] r24.2) r24.2).bind fun x33 =>
     (A.ext 0 x33).bind fun x34 =>
     (A.ext 1 x33).bind fun x35 =>
     some ([(v5.getD 0 AV.undef), (AV.lbx c13), x34], r24.2)) (
     some ([(v5.getD 0 AV.undef), (AV.lbx c13), x22], r24.2))).bind fun r27 =>
    ((A.lb (r27.1.getD 1 AV.undef)).bind fun c36 => A.partA 0 2 c36).bind fun x37 =>
    (((A.cells 2 x37).bind fun c38 => (A.splice 0 c38 [(AV.int .i64 0), (AV.str ⟨#[]⟩), (AV.int .i64 0)]).bind fun c39 => ((A.cell (r27.1.getD 2 AV.undef)).bind fun v => some [v]).bind fun c40 => (A.splice 2 c40 c39).bind fun c41 => some c41).bind fun cs => some (AV.agg cs)).bind fun x42 =>
    (((A.cells 3 x42).bind fun c43 => (A.splice 0 c43 [(AV.int .i64 0), (AV.str ⟨#[]⟩), (AV.int .i64 0)]).bind fun c44 => some c44).bind fun cs => some (AV.sl 3 (chunks 3 1 cs))).bind fun x45 =>
    (A.append 3 (140737488355328 / 32) (v5.getD 1 AV.undef) x45 r27.2).bind fun r46 =>
    (A.add (v5.getD 2 AV.undef) (AV.int .i64 1)).bind fun x47 =>
    some (AX.normal, [(r27.1.getD 0 AV.undef), r46.1, x47], r46.2)) (
    some (AX.exit 0, [(v5.getD 0 AV.undef), (v5.getD 1 AV.undef), (v5.getD 2 AV.undef)], s6))) [(AV.lbx c1), AV.nsl, (AV.int .i64 0)] r3.2).bind fun r48 =>
 bif r48.1 == AX.exit 0 then (
  A.fin σ (r48.2.1.getD 1 AV.undef) r48.2.2) else
 none
noncomputable def m_R5_levels : List AV → Heap → Option (AV × Heap) := A.wrap true [(.a [(.e 3 [.k, .k, (.e 7 [.k, .k, .k, .k, .k, .k, (.s 3)])]), (.s 4)]), (.e 3 [.k, .k, (.s 3)]), (.s 5)] (.s 3) (A.ar3 r_R5_levels)
noncomputable def r_R5_At (a0 a1 : AV) (σ : Heap) : Option (AV × Heap) :=
 (A.lenS a0).bind fun x1 =>
 (A.loop (fun v2 s3 =>
   (A.lss (v2.getD 1 AV.undef) x1).bind fun x5 =>
   A.cond x5 (
    (A.iaddr 11 a0 (v2.getD 1 AV.undef)).bind fun x6 =>
    ((A.deref x6 s3).bind fun c7 => A.partA 0 11 c7).bind fun x8 =>
    (A.cells 11 x8).bind fun c9 =>
    (A.splice 0 c9 [(AV.int .i64 0), (AV.str ⟨#[]⟩), (AV.int .i64 0), (AV.int .i64 0), (AV.int .i64 0), (AV.int .i64 0), (AV.int .i64 0), AV.nsl, (AV.bool false), (AV.int .i64 0), AV.nsl]).bind fun c10 =>
    (A.part1 0 c10).bind fun x11 =>
    (A.eql .i x11 a1).bind fun x12 =>
    A.cond x12 (
     some (AX.ret, [(v2.getD 1 AV.undef), (v2.getD 1 AV.undef)], s3)) (
     (A.add (v2.getD 1 AV.undef) (AV.int .i64 1)).bind fun x13 =>
     some (AX.normal, [(v2.getD 0 AV.undef), x13], s3))) (
    some (AX.exit 0, [(v2.getD 0 AV.undef), (v2.getD 1 AV.undef)], s3))) [(AV.int .i64 0), (AV.int .i64 0)] σ).bind fun r14 =>
 bif r14.1 == AX.exit 0 then (
  A.fin σ (AV.int .i64 (-1)) r14.2.2) else
 bif r14.1 == AX.ret then (
  A.fin σ (r14.2.1.getD 0 AV.undef) r14.2.2) else
 none
noncomputable def m_R5_At : List AV → Heap → Option (AV × Heap) := A.wrap true [(.e 11 [.k, .k, .k, .k, .k, .k, .k, (.s 2), .k, .k, (.s 8)])] .k (A.ar2 r_R5_At)
noncomputable def r_R5_State (a0 a1 : AV) (σ : Heap) : Option (AV × Heap) :=
 (m_R5_CheckForm [a0] σ).bind fun r1 =>
 (A.neq .i r1.1 (AV.int .i64 0)).bind fun x2 =>
 A.cond x2 (
  A.fin σ (AV.tup [AV.nsl, r1.1]) r1.2) (
  (m_R5_At [a0, a1] r1.2).bind fun r3 =>
  (A.lss r3.1 (AV.int .i64 0)).bind fun x4 =>
  A.cond x4 (
   A.fin σ (AV.tup [AV.nsl, (AV.int .i64 8)]) r3.2) (
   (A.add r3.1 (AV.int .i64 1)).bind fun x5 =>
   (m_R5_Before [a0, x5] r3.2).bind fun r6 =>
   A.fin σ (AV.tup [r6.1, (AV.int .i64 0)]) r6.2))
noncomputable def m_R5_State : List AV → Heap → Option (AV × Heap) := A.wrap true [(.e 11 [.k, .k, .k, .k, .k, .k, .k, (.s 2), .k, .k, (.s 8)])] (.t [(.s 5), .k]) (A.ar2 r_R5_State)
noncomputable def r_R5_Levels (a0 a1 a2 a3 : AV) (σ : Heap) : Option (AV × Heap) :=
 (A.cells 2 a0).bind fun c1 =>
 (A.partA 0 2 c1).bind fun x2 =>
 (m_R5_CheckList [x2, a1, a2] σ).bind fun r3 =>
 (A.neq .i r3.1 (AV.int .i64 0)).bind fun x4 =>
 A.cond x4 (
  A.fin σ (AV.tup [AV.nsl, r3.1]) r3.2) (
  (m_R5_At [a2, a3] r3.2).bind fun r5 =>
  (A.lss r5.1 (AV.int .i64 0)).bind fun x6 =>
  A.cond x6 (
   A.fin σ (AV.tup [AV.nsl, (AV.int .i64 8)]) r5.2) (
   (A.partA 0 2 c1).bind fun x7 =>
   (A.add r5.1 (AV.int .i64 1)).bind fun x8 =>
   (A.quiet ((A.finC (.s 5) m_R5_Before) [a2, x8] r5.2) r5.2).bind fun x9 =>
   (A.quiet (m_R5_levels [x7, a1, x9] r5.2) r5.2).bind fun x10 =>
   A.fin σ (AV.tup [x10, (AV.int .i64 0)]) r5.2))
noncomputable def m_R5_Levels : List AV → Heap → Option (AV × Heap) := A.wrap true [(.a [(.e 3 [.k, .k, (.e 7 [.k, .k, .k, .k, .k, .k, (.s 3)])]), (.s 4)]), (.e 3 [.k, .k, (.s 3)]), (.e 11 [.k, .k, .k, .k, .k, .k, .k, (.s 2), .k, .k, (.s 8)])] (.t [(.s 3), .k]) (A.ar4 r_R5_Levels)
end Go.Proofs.YtphgchakmkankaaGreat

namespace Go.Proofs.YtphgchakmkankaaGreat
set_option linter.unusedSectionVars false
set_option linter.unusedSimpArgs false
set_option linter.unusedVariables false
set_option maxRecDepth 100000
noncomputable def r_W5_CueListsMatchSpec (a0 a1 a2 a3 : AV) (σ : Heap) : Option (AV × Heap) :=
 (A.cells 2 a0).bind fun c1 =>
 (m_cue_State [a2, a3] σ).bind fun r2 =>
 (A.ext 0 r2.1).bind fun x3 =>
 (A.ext 1 r2.1).bind fun x4 =>
 (m_R5_State [a2, a3] r2.2).bind fun r5 =>
 (A.ext 0 r5.1).bind fun x6 =>
 (A.ext 1 r5.1).bind fun x7 =>
 (A.partA 0 2 c1).bind fun x8 =>
 (A.quiet (m_cue_CheckList [x8, a1, a2] r5.2) r5.2).bind fun x9 =>
 (A.partA 0 2 c1).bind fun x10 =>
 (A.quiet (m_R5_CheckList [x10, a1, a2] r5.2) r5.2).bind fun x11 =>
 (A.neq .i x9 x11).bind fun x12 =>
 (A.guard x12 false (some x3) (some (AV.tup []))).bind fun x13 =>
 (A.guard x12 false (some x6) (some (AV.tup []))).bind fun x14 =>
 (A.guard x12 false (A.quiet (m_slices_Equal_api_Entry [x13, x14] r5.2) r5.2) (some (AV.tup []))).bind fun x15 =>
 (A.guard x12 false (A.not x15) (some (AV.tup []))).bind fun x16 =>
 (A.pick x12 (AV.bool true) x16).bind fun x17 =>
 (A.guard x17 false (some x4) (some (AV.tup []))).bind fun x18 =>
 (A.guard x17 false (some x7) (some (AV.tup []))).bind fun x19 =>
 (A.guard x17 false (A.neq .i x18 x19) (some (AV.tup []))).bind fun x20 =>
 (A.pick x17 (AV.bool true) x20).bind fun x21 =>
 A.cond x21 (
  A.fin σ (AV.bool false) r5.2) (
  (A.partA 0 2 c1).bind fun x22 =>
  (m_cue_Levels [x22, a1, a2, a3] r5.2).bind fun r23 =>
  (A.ext 0 r23.1).bind fun x24 =>
  (A.ext 1 r23.1).bind fun x25 =>
  (A.partA 0 2 c1).bind fun x26 =>
  (m_R5_Levels [x26, a1, a2, a3] r23.2).bind fun r27 =>
  (A.ext 0 r27.1).bind fun x28 =>
  (A.ext 1 r27.1).bind fun x29 =>
  (m_slices_Equal_api_Setting [x24, x28] r27.2).bind fun r30 =>
  (A.guard r30.1 true (some x25) (some (AV.tup []))).bind fun x31 =>
  (A.guard r30.1 true (some x29) (some (AV.tup []))).bind fun x32 =>
  (A.guard r30.1 true (A.eql .i x31 x32) (some (AV.tup []))).bind fun x33 =>
  (A.pick r30.1 x33 (AV.bool false)).bind fun x34 =>
  A.fin σ x34 r30.2)
noncomputable def m_W5_CueListsMatchSpec : List AV → Heap → Option (AV × Heap) := A.wrap true [(.a [(.e 3 [.k, .k, (.e 7 [.k, .k, .k, .k, .k, .k, (.s 3)])]), (.s 4)]), (.e 3 [.k, .k, (.s 3)]), (.e 11 [.k, .k, .k, .k, .k, .k, .k, (.s 2), .k, .k, (.s 8)])] .k (A.ar4 r_W5_CueListsMatchSpec)
end Go.Proofs.YtphgchakmkankaaGreat

namespace Go.Proofs.YtphgchakmkankaaGreat
set_option linter.unusedSectionVars false
set_option linter.unusedSimpArgs false
open Go.RowKit
set_option linter.unusedVariables false
theorem ACalls.same {P : Program} {nm : List Nat} {f : FuncId} {args : List AV} {σ : Heap} {r : AV} (hc : ∀ us w, (callFunc f us).run P w = .ok (.enter f us) w)
  (h : ∀ (c : RC) (vs : Array Value) (w : World), RepL c args vs.toList → Calls P f vs w fun e w' => ∃ v, e = .returned v ∧ Below w.heap.size w w' ∧ ∀ c', Rep c' r v) : ACalls P nm f args σ r σ := by
 refine .inl ⟨f, hc, fun z vs e1 e2 hh ha => (h _ vs z.w ha).mono ?_⟩
 rintro e w' ⟨v, k1, k2, k3⟩
 have ho : Out z z.w z.E := ⟨rfl, rfl, rfl, Nat.le_refl _, fun _ _ _ => rfl, fun i p hp => .inr ⟨p, hp, rfl⟩, fun i p hp => ⟨p, hp, .inl rfl⟩, e2, fun p hp => hh.lt hp⟩
 exact ⟨v, z.E, k1, ho.grow k2, hh.mono (grow_ext k2) rfl (fun p hp => k2.block _ (hh.lt hp)), k3 _⟩
theorem repL1 {c : RC} {a : AV} {vs : Array Value} (h : RepL c [a] vs.toList) : ∃ v, vs = #[v] ∧ Rep c a v := by
 simp only [RepL] at h
 obtain ⟨v, vs', e, h1, e2⟩ := h
 refine ⟨v, ?_, h1⟩
 subst e2
 cases vs; simp at e; simp [e]
theorem repL2 {c : RC} {a b : AV} {vs : Array Value} (h : RepL c [a, b] vs.toList) : ∃ v u, vs = #[v, u] ∧ Rep c a v ∧ Rep c b u := by
 simp only [RepL] at h
 obtain ⟨v, vs', e, h1, u, vs2, e2, h2, e3⟩ := h
 refine ⟨v, u, ?_, h1, h2⟩
 subst e3; subst e2
 cases vs; simp at e; simp [e]
theorem s_strings_Compare : Sound Tryz.prog nmT 98 m_strings_Compare := by
 intro args σ r σ' h
 unfold m_strings_Compare A.ar2 at h
 split at h
 ·simp only at h
  split at h
  ·simp only [Option.some.injEq, Prod.mk.injEq] at h
   obtain ⟨rfl, rfl⟩ := h
   refine ACalls.same Tryz.call98 fun c vs w hr => ?_
   obtain ⟨v, u, rfl, h1, h2⟩ := repL2 hr
   simp only [Rep] at h1 h2
   subst h1 h2
   refine (Tryz.strings_Compare _ _ w).mono ?_
   rintro e w' ⟨rfl, rfl⟩
   exact ⟨_, rfl, Below.refl _ _, fun c' => by simp [Rep]⟩
  ·cases h
 ·cases h
end Go.Proofs.YtphgchakmkankaaGreat

namespace Go.Proofs.YtphgchakmkankaaGreat
set_option linter.unusedSectionVars false
set_option linter.unusedSimpArgs false
open Go.RowKit
set_option maxRecDepth 100000
set_option linter.unusedVariables false
theorem clone_sound {P : Program} {nm : List Nat} {f : FuncId} {m0 : List AV → Heap → Option (AV × Heap)} (h0 : Sound P nm f m0) (hc : ∀ us w, (callFunc f us).run P w = .ok (.enter f us) w)
  (hz : ∀ a cap w, Calls P f #[.slice a 0 cap] w fun e w' => ∃ q, e = .returned (.slice q 0 0) ∧ Below w.heap.size w w') : Sound P nm f (A.cloneZ m0) := by
 intro args σ r σ' h
 unfold A.cloneZ at h
 split at h
 ·simp only [Option.some.injEq, Prod.mk.injEq] at h
  obtain ⟨rfl, rfl⟩ := h
  refine ACalls.same hc fun c vs w hr => ?_
  obtain ⟨v, rfl, h1⟩ := repL1 hr
  simp only [Rep] at h1
  obtain ⟨a, cap, rfl, _⟩ := h1
  refine (hz _ _ w).mono ?_
  rintro e w' ⟨q, rfl, hb⟩
  exact ⟨_, rfl, hb, fun c' => by simp [Rep]⟩
 ·simp only [Option.some.injEq, Prod.mk.injEq] at h
  obtain ⟨rfl, rfl⟩ := h
  refine ACalls.same hc fun c vs w hr => ?_
  obtain ⟨v, rfl, h1⟩ := repL1 hr
  simp only [Rep] at h1
  subst h1
  refine (hz _ _ w).mono ?_
  rintro e w' ⟨q, rfl, hb⟩
  exact ⟨_, rfl, hb, fun c' => by simp [Rep]⟩
 ·simp only [Option.some.injEq, Prod.mk.injEq] at h
  obtain ⟨rfl, rfl⟩ := h
  refine ACalls.same hc fun c vs w hr => ?_
  obtain ⟨v, rfl, h1⟩ := repL1 hr
  simp only [Rep] at h1
  obtain ⟨a, rfl⟩ := h1
  refine (hz _ _ w).mono ?_
  rintro e w' ⟨q, rfl, hb⟩
  exact ⟨_, rfl, hb, fun c' => by simp [Rep]⟩
 ·simp only [Option.some.injEq, Prod.mk.injEq] at h
  obtain ⟨rfl, rfl⟩ := h
  refine ACalls.same hc fun c vs w hr => ?_
  obtain ⟨v, rfl, h1⟩ := repL1 hr
  simp only [Rep] at h1
  obtain ⟨_, p, _, _, a, cap, rfl, _⟩ := h1
  refine (hz _ _ w).mono ?_
  rintro e w' ⟨q, rfl, hb⟩
  exact ⟨_, rfl, hb, fun c' => by simp [Rep]⟩
 ·exact h0 _ _ _ _ h
theorem nil_run {P : Program} {t e : TypeId} (ht : P.underlying t = some (.slice e)) (a : Option Addr) (n m : Nat) (w : World) : Sem.run P (binOp .eql t (.slice a n m) (.slice none 0 0)) w = .ok (.bool a.isNone) w := by
 simp [binOp, show (Op.equal t (.slice a n m) (.slice none 0 0)).run P w = .ok a.isNone w from sl_nil w 9999 t a n m ht]
theorem cz_Entry (a : Option Addr) (cap : Nat) (w : World) : Calls Tryz.prog 159 #[.slice a 0 cap] w fun e w' => ∃ q, e = .returned (.slice q 0 0) ∧ Below w.heap.size w w' := by
 go_enter Tryz.func159, Tryz.ntmps159
 cases a
 ·go_wp2_with (simp only [nil_run (Tryz.underlying41), Option.isNone_none, Result.andThen_ok])
  go_ret
  exact ⟨_, rfl, Below.refl _ _⟩
 ·go_wp2_with (simp only [nil_run (Tryz.underlying41), Option.isNone_some, Result.andThen_ok])
  go_ret
  exact ⟨_, rfl, (Below.refl _ _).alloc (Nat.le_refl _) _⟩
end Go.Proofs.YtphgchakmkankaaGreat

namespace Go.Proofs.YtphgchakmkankaaGreat
set_option linter.unusedSectionVars false
set_option maxRecDepth 100000
open Go.RowKit
set_option linter.unusedVariables false
set_option linter.unusedSimpArgs false
theorem overlaps_own {P : Program} (w : World) (tS tR e : TypeId) (ht : P.underlying tS = some (.slice e)) (size : Nat) (hz : ∀ w, (Go.sizeOf e).run P w = .ok size w)
  (a b : Addr) (la ca lb cb : Nat) (hne : a.block ≠ b.block) (arr arr' : Array Value) (tA tB : TypeId) (fz : Nat × Nat)
  (ha : w.heap[a.block]? = some (.cells arr tA fz)) (hs : 0 < arr.size) (hb : w.heap[b.block]? = some (.cells arr' tB (0, 0))) :
  (Extern.SlicesOverlaps.overlaps #[tS, tS] #[tR] #[.slice (some a) la ca, .slice (some b) lb cb]).run P w = .ok (.bool false) w := by
 have hnb : (a.block != b.block) = true := by simpa using hne
 have hnb' : (a.block == b.block) = false := by simpa using hne
 have hsa : w.shape? a.block = some (tA, arr.size) := by simp [World.shape?, ha]
 have hsb : w.shape? b.block = some (tB, arr'.size) := by simp [World.shape?, hb]
 have hfb : w.frozen? b = false := by simp [World.frozen?, hb]
 have hfb' : w.frozen? { block := b.block, off := arr'.size } = false := by simp [World.frozen?, hb]
 delta Extern.SlicesOverlaps.overlaps Extern.SlicesOverlaps.overlaps.match_4 Extern.SlicesOverlaps.overlaps._sparseCasesOn_4
 dsimp [Array.getLit, Array.casesOn]
 obtain ⟨k, hk⟩ : ∃ k, arr.size = k + 1 := ⟨arr.size - 1, by omega⟩
 rw [hk] at hsa
 by_cases h0 : la = 0 ∨ lb = 0 ∨ size = 0
 ·simp [run_underlying ht, hz, h0]
 ·cases hfa : w.frozen? a <;> cases hfe : w.frozen? { block := a.block, off := k + 1 } <;> simp [run_underlying ht, hz, h0, hnb, hnb', frozen, noView, viewAt, mayBeOne, stringish, shape, Sem.run, hsa, hsb, hfa, hfe, hfb, hfb']
theorem cells_in {w : World} {b off : Nat} {v : Value} (h : w.cell? ⟨b, off, none⟩ = some v) : ∃ arr t fz, w.heap[b]? = some (.cells arr t fz) ∧ 0 < arr.size := by
 unfold World.cell? at h
 simp only at h
 split at h
 ·rename_i arr t fz hh
  refine ⟨arr, t, fz, hh, ?_⟩
  simp only [Option.isSome_none, Bool.false_eq_true, if_false] at h
  have := (Array.getElem?_eq_some_iff.1 h).1
  omega
 ·cases h
theorem overlaps_sound {P : Program} {nm : List Nat} {f : FuncId} {fn : Func} {tS tR e : TypeId} {i : TypeInfo} (hf : P.funcs[f]? = some fn) (h1 : (fn.name == "runtime.NumGoroutine") = false) (h2 : fn.body.isNone = true) (h3 : Extern.findNext fn = none)
  (h4 : Extern.find fn = some (Extern.SlicesOverlaps.overlaps #[tS, tS] #[tR])) (ht : P.underlying tS = some (.slice e)) (hi : P.info? e = some i) : Sound P nm f m_slices_overlaps := by
 intro args σ r σ' h
 unfold m_slices_overlaps A.ar2 at h
 split at h
 ·simp only at h
  split at h
  ·rename_i sz es id g sz' off len
   split at h
   ·rename_i hg0 ss es' hs
    split at h
    ·rename_i hc
     obtain ⟨hne, rfl, hes, hl⟩ := hc
     simp only [Option.some.injEq, Prod.mk.injEq] at h
     obtain ⟨rfl, rfl⟩ := h
     refine .inr fun z vs e1 e2 hh ha => ?_
     obtain ⟨v, u, rfl, r1, r2⟩ := repL2 ha
     simp only [Rep] at r1 r2
     obtain ⟨a, cap, rfl, hcap, hsz0, r1⟩ := r1
     obtain ⟨b, off0, rfl, hb, hX, r1⟩ := r1.resolve_left hne
     obtain ⟨hg, p, k1, k2, a', cap', rfl, hcap', rx⟩ := r2
     obtain ⟨j1, j2, j3, j4, ⟨arr, bt, j5, j6⟩, j7, j8, j9⟩ := hh.blk id p _ k1 hs
     obtain ⟨q1, q2, q3⟩ := rx j1.symm
     have hsz : ∀ w, (Go.sizeOf e).run P w = .ok i.size w := fun w => by simp [sizeOf, run_typeInfo' w hi]
     have ha' : a' = ⟨p.b, p.base + off * p.sz, none⟩ := q2.resolve_left (by omega)
     have hpb : b ≠ p.b := fun k => hX (.inr (.inl ⟨p, List.mem_of_getElem? k1, k.symm⟩))
     have hw5 : z.w.heap[p.b]? = some (.cells arr bt (0, 0)) := j5
     have hcell : ∃ v, z.w.cell? ⟨b, off0, none⟩ = some v := by
      cases es with
      | nil => exact absurd rfl hne
      | cons x xs =>
       simp only [RepEs] at r1
       obtain ⟨l1, l2, _⟩ := r1
       cases x with
       | nil => simp at l1; omega
       | cons y ys => simp only [RepCs] at l2; obtain ⟨⟨v, l3, _⟩, _⟩ := l2; exact ⟨v, l3⟩
     obtain ⟨v, hv⟩ := hcell
     obtain ⟨arr0, t0, fz0, m1, m2⟩ := cells_in hv
     have hrun := overlaps_own (P := P) z.w tS tR e ht i.size hsz ⟨b, off0, none⟩ a' es.length cap len cap' (by rw [ha']; exact hpb) arr0 arr t0 bt fz0 m1 m2 (by rw [ha']; exact hw5)
     refine ⟨.bool false, z.w, z.E, ?_, ⟨rfl, rfl, rfl, Nat.le_refl _, fun _ _ _ => rfl, fun i p hp => .inr ⟨p, hp, rfl⟩, fun i p hp => ⟨p, hp, .inl rfl⟩, e2, fun p hp => hh.lt hp⟩, hh, by simp [Rep]⟩
     rw [run_callFunc_extern hf h1 h2 h3 h4, hrun]; rfl
    ·cases h
   ·cases h
  ·cases h
 ·cases h
theorem s_slices_overlaps_api_Entry_ : Sound Tryz.prog nmT 184 m_slices_overlaps := overlaps_sound Tryz.func184 (by kernel_rfl) (by kernel_rfl) (by kernel_rfl) (tS := 41) (tR := 4) (by kernel_rfl) (e := 51) (by kernel_rfl) rfl
end Go.Proofs.YtphgchakmkankaaGreat

