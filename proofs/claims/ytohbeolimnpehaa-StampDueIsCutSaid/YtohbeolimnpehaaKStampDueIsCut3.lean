/- Parts of the proof of StampDueIsCut, in order. -/
import Derived.Orders
import Derived.Below
import Derived.WalkKit
import Derived.Laws.StructEq
import Derived.Laws.Append
import Derived.Laws.AppendOwn
import Derived.Test.YtohbeolimnpehaaRows
import Derived.KernelRfl
import Derived.Lib.Bytealg
import Derived.Sort.Defs
import Derived.Lib.BitFns
import Derived.Test.YtohbeolimnpehaaShelf
import Derived.IntWalk
import Derived.Test.YtohbeolimnpehaaKStampDueIsCut2
namespace Go.Proofs.Ytohbeolimnpehaa
set_option linter.unusedSectionVars false
open Go.RowKit
set_option linter.unusedVariables false
set_option linter.unusedSimpArgs false

inductive Sh where
 | k
 | s (sz : Nat)
 | e (sz : Nat) (l : List Sh)
 | a (l : List Sh)
 | t (l : List Sh)
namespace A
set_option linter.unusedSectionVars false
mutual
def nn : Sh → AV → AV
 | .k, v => v
 | .s sz, v => match v with | .nsl => .sl sz [] | .ez => .sl sz [] | v => v
 | .e sz l, v => match v with | .nsl => .sl sz [] | .ez => .sl sz [] | .sl sz' es => .sl sz' (es.map (nnL l)) | v => v
 | .a l, v => match v with | .agg cs => .agg (nnL l cs) | v => v
 | .t l, v => match v with | .tup vs => .tup (nnL l vs) | v => v
def nnL : List Sh → List AV → List AV
 | [], vs => vs
 | s :: ss, vs => match vs with | [] => [] | v :: vs => nn s v :: nnL ss vs
end
def own1 : AV → Bool
 | .os .. => true
 | .op .. => true
 | .oe .. => true
 | .om .. => true
 | _ => false
def own : AV → Bool
 | .agg cs => cs.any own1
 | v => own1 v
def scal1 : AV → Bool
 | .int .. => true
 | .bool .. => true
 | .str .. => true
 | .np => true
 | .nsl => true
 | .ez => true
 | .nm => true
 | .nfn => true
 | .sl _ [] => true
 | _ => false
def scal2 : AV → Bool
 | .agg cs => cs.all scal1
 | v => scal1 v
def scal : AV → Bool
 | .tup vs => vs.all scal2
 | v => scal2 v
def fresh (v : AV) : Bool := match v with
 | .os .. => true
 | .om _ => true
 | v => scal2 v
def freshT : AV → Bool
 | .tup vs => vs.all fresh
 | v => fresh v
def freshB : Blk → Bool
 | .box cs => cs.all scal1
 | .arr _ _ es => es.all fun e => e.all scal1
 | .map es => es.all fun p => scal2 p.1 && scal2 p.2
 | _ => false
def shift (n : Nat) (v : AV) : AV := match v with
 | .os id g sz off len => .os (id + n) g sz off len
 | .om id => .om (id + n)
 | v => v
def shiftT (n : Nat) : AV → AV
 | .tup vs => .tup (vs.map (shift n))
 | v => shift n v
noncomputable def wrap (ro : Bool) (ain : List Sh) (rout : Sh) (r : List AV → Heap → Option (AV × Heap)) (args : List AV) (σ : Heap) : Option (AV × Heap) :=
 bif ro && args.any own then
  (frzL σ 0 8 args).bind fun args => (r (nnL ain args) []).bind fun q => bif freshT (nn rout q.1) && q.2.all freshB then some (shiftT σ.length (nn rout q.1), σ ++ q.2) else none
 else (r (nnL ain args) σ).map fun q => (nn rout q.1, q.2)
end A

def Sound (P : Program) (nm : List Nat) (f : FuncId) (m : List AV → Heap → Option (AV × Heap)) : Prop := ∀ args σ r σ', m args σ = some (r, σ') → ACalls P nm f args σ r σ'
section
variable {P : Program} {nm : List Nat} {f : FuncId} {c c' : RC}
theorem nsl_sl {v : Value} (sz : Nat) (hsz : 0 < sz) (h : Rep c .nsl v) : Rep c (.sl sz []) v := by
 simp only [Rep] at h ⊢
 subst h
 exact ⟨none, 0, rfl, Nat.le_refl _, hsz, .inl trivial⟩
theorem ez_sl {v : Value} (sz : Nat) (hsz : 0 < sz) (h : Rep c .ez v) : Rep c (.sl sz []) v := by
 simp only [Rep] at h ⊢
 obtain ⟨a, rfl⟩ := h
 exact ⟨a, 0, rfl, Nat.le_refl _, hsz, .inl trivial⟩
mutual
def Sh.ok : Sh → Bool
 | .k => true
 | .s sz => Nat.blt 0 sz
 | .e sz l => Nat.blt 0 sz && Sh.okL l
 | .a l => Sh.okL l
 | .t l => Sh.okL l
def Sh.okL : List Sh → Bool
 | [] => true
 | x :: l => x.ok && Sh.okL l
end
theorem nnL_len : ∀ (l : List Sh) (cs : List AV), (A.nnL l cs).length = cs.length
 | [], cs => by simp [A.nnL]
 | _ :: _, [] => by simp [A.nnL]
 | o :: l, v :: cs => by simp [A.nnL, nnL_len l cs]
mutual
theorem nn_rep : ∀ (s : Sh) (a : AV) (v : Value), s.ok = true → Rep c a v → Rep c (A.nn s a) v
 | .k, a, v, _, h => by simpa [A.nn] using h
 | .s sz, a, v, ho, h => by
  cases a <;> simp only [A.nn] <;> first | exact h | exact nsl_sl sz (by simpa [Sh.ok] using ho) h | exact ez_sl sz (by simpa [Sh.ok] using ho) h
 | .e sz l, a, v, ho, h => by
  simp only [Sh.ok, Bool.and_eq_true] at ho
  cases a <;> simp only [A.nn] <;> first | exact h | exact nsl_sl sz (by simpa using ho.1) h | exact ez_sl sz (by simpa using ho.1) h | skip
  simp only [Rep] at h ⊢
  obtain ⟨a, cap, e, h1, h2, h3⟩ := h
  refine ⟨a, cap, by rw [List.length_map]; exact e, by rw [List.length_map]; exact h1, h2, ?_⟩
  rcases h3 with h3 | ⟨b, off, e1, e2, e3, e4⟩
  ·left; rw [h3]; rfl
  ·right; exact ⟨b, off, e1, e2, e3, nnL_es l ho.2 _ _ e4⟩
 | .a l, a, v, ho, h => by
  simp only [Sh.ok] at ho
  cases a <;> simp only [A.nn] <;> first | exact h | skip
  simp only [Rep] at h ⊢
  obtain ⟨vs, e, h1, h2⟩ := h
  exact ⟨vs, e, nnL_rep l _ _ ho h1, h2⟩
 | .t ss, a, v, ho, h => by
  simp only [Sh.ok] at ho
  cases a <;> simp only [A.nn] <;> first | exact h | skip
  simp only [Rep] at h ⊢
  obtain ⟨vs, e, h1⟩ := h
  exact ⟨vs, e, nnL_rep ss _ _ ho h1⟩
theorem nnL_rep : ∀ (ss : List Sh) (l : List AV) (vs : List Value), Sh.okL ss = true → RepL c l vs → RepL c (A.nnL ss l) vs
 | [], l, vs, _, h => by simpa [A.nnL] using h
 | _ :: _, [], vs, _, h => by simpa [A.nnL] using h
 | s :: ss, a :: l, vs, ho, h => by
  simp only [Sh.okL, Bool.and_eq_true] at ho
  simp only [A.nnL, RepL] at h ⊢
  obtain ⟨v, vs', e, h1, h2⟩ := h
  exact ⟨v, vs', e, nn_rep s a v ho.1 h1, nnL_rep ss l vs' ho.2 h2⟩
theorem nnL_cs {b : Nat} : ∀ (l : List Sh) (cs : List AV) (off : Nat), Sh.okL l = true → RepCs c b off cs → RepCs c b off (A.nnL l cs)
 | [], cs, off, _, h => by simpa [A.nnL] using h
 | _ :: _, [], off, _, h => by simpa [A.nnL] using h
 | o :: l, a :: cs, off, ho, h => by
  simp only [Sh.okL, Bool.and_eq_true] at ho
  simp only [A.nnL, RepCs] at h ⊢
  obtain ⟨⟨v, h1, h2, h3⟩, h4⟩ := h
  exact ⟨⟨v, h1, h2, nn_rep o a v ho.1 h3⟩, nnL_cs l cs (off + 1) ho.2 h4⟩
theorem nnL_es {sz b : Nat} (l : List Sh) (hl : Sh.okL l = true) : ∀ (es : List (List AV)) (off : Nat), RepEs c sz b off es → RepEs c sz b off (es.map (A.nnL l))
 | [], off, h => by simp [RepEs]
 | e :: es, off, h => by
  simp only [List.map_cons, RepEs] at h ⊢
  exact ⟨by rw [nnL_len]; exact h.1, nnL_cs l e off hl h.2.1, nnL_es l hl es _ h.2.2⟩
end
theorem scal1_rep : ∀ {a : AV} {v : Value}, A.scal1 a = true → Rep c a v → Rep c' a v := by
 intro a v h r
 cases a <;> simp only [A.scal1] at h <;> first | (cases h; done) | skip
 case sl sz es =>
  cases es with
  | nil =>
   simp only [Rep] at r ⊢
   obtain ⟨q, cap, e, h1, h2, _⟩ := r
   exact ⟨q, cap, e, h1, h2, .inl trivial⟩
  | cons _ _ => simp at h
 all_goals simpa [Rep] using r
theorem scal1L_rep : ∀ {l : List AV} {vs : List Value}, l.all A.scal1 = true → RepL c l vs → RepL c' l vs
 | [], vs, _, r => by simpa [RepL] using r
 | a :: l, vs, h, r => by
  simp only [List.all_cons, Bool.and_eq_true] at h
  simp only [RepL] at r ⊢
  obtain ⟨v, vs', e, h1, h2⟩ := r
  exact ⟨v, vs', e, scal1_rep h.1 h1, scal1L_rep h.2 h2⟩
theorem scal2_rep {a : AV} {v : Value} (h : A.scal2 a = true) (r : Rep c a v) : Rep c' a v := by
 unfold A.scal2 at h
 split at h
 ·simp only [Rep] at r ⊢
  obtain ⟨vs, e, h1, h2⟩ := r
  exact ⟨vs, e, scal1L_rep h h1, h2⟩
 ·exact scal1_rep h r
theorem ACalls.conv {args args' : List AV} {σ σ' : Heap} {r r' : AV} (h : ACalls P nm f args' σ r σ') (ha : ∀ c vs, RepL c args vs → RepL c args' vs) (hr : ∀ c v, Rep c r v → Rep c r' v) : ACalls P nm f args σ r' σ' := by
 rcases h with ⟨g, h1, h2⟩ | h
 ·refine .inl ⟨g, h1, fun z vs e1 e2 e3 e4 => (h2 z vs e1 e2 e3 (ha _ _ e4)).mono ?_⟩
  rintro e w' ⟨v, E', k1, k2, k3, k4⟩
  exact ⟨v, E', k1, k2, k3, hr _ _ k4⟩
 ·refine .inr fun z vs e1 e2 e3 e4 => ?_
  obtain ⟨v, w', E', k1, k2, k3, k4⟩ := h z vs e1 e2 e3 (ha _ _ e4)
  exact ⟨v, w', E', k1, k2, k3, hr _ _ k4⟩
theorem shift_rep {z0 z : Z} {w' : World} {E' : List Pl} {n : Nat} (hn : n = z.E.length) {a : AV} {v : Value} (h : A.fresh a = true) (r : Rep (ctx z0 w' E' nopb) a v) : Rep (ctx z w' (z.E ++ E') nopb) (A.shift n a) v := by
 have key : ∀ (id : Nat) (p : Pl), E'[id]? = some p → (z.E ++ E')[id + n]? = some p := fun id p hp => by
  rw [List.getElem?_append_right (by omega), hn, Nat.add_sub_cancel]; exact hp
 unfold A.fresh at h
 unfold A.shift
 split at h
 ·simp only [Rep] at r ⊢
  obtain ⟨hg, p, h1, h2, r⟩ := r
  exact ⟨hg, p, key _ _ h1, h2, r⟩
 ·simp only [Rep] at r ⊢
  obtain ⟨p, h1, h2, r⟩ := r
  exact ⟨p, key _ _ h1, h2, r⟩
 ·exact scal2_rep h r
theorem shiftT_rep' {z0 z : Z} {w' : World} {E' : List Pl} {n : Nat} (hn : n = z.E.length) {vs : List AV} {v : Value} (h : vs.all A.fresh = true) (r : Rep (ctx z0 w' E' nopb) (.tup vs) v) : Rep (ctx z w' (z.E ++ E') nopb) (A.shiftT n (.tup vs)) v := by
 simp only [Rep, A.shiftT] at r ⊢
 obtain ⟨us, rfl, r⟩ := r
 refine ⟨us, rfl, ?_⟩
 generalize us.toList = us' at r ⊢
 induction vs generalizing us' with
 | nil => simpa [RepL] using r
 | cons x l ih =>
  simp only [List.all_cons, Bool.and_eq_true] at h
  simp only [RepL, List.map_cons] at r ⊢
  obtain ⟨v, vs', e, h1, h2⟩ := r
  exact ⟨v, vs', e, shift_rep hn h.1 h1, ih h.2 _ h2⟩
theorem shiftT_rep {z0 z : Z} {w' : World} {E' : List Pl} {n : Nat} (hn : n = z.E.length) {a : AV} {v : Value} (h : A.freshT a = true) (r : Rep (ctx z0 w' E' nopb) a v) : Rep (ctx z w' (z.E ++ E') nopb) (A.shiftT n a) v := by
 by_cases ht : ∃ vs, a = .tup vs
 ·obtain ⟨vs, rfl⟩ := ht
  exact shiftT_rep' hn h r
 ·have e1 : A.freshT a = A.fresh a := by cases a <;> first | rfl | exact absurd ⟨_, rfl⟩ ht
  have e2 : A.shiftT n a = A.shift n a := by cases a <;> first | rfl | exact absurd ⟨_, rfl⟩ ht
  rw [e1] at h
  rw [e2]
  exact shift_rep hn h r
theorem scal1Cs_rep {b : Nat} : ∀ {l : List AV} {off : Nat}, l.all A.scal1 = true → c'.w = c.w → RepCs c b off l → RepCs c' b off l
 | [], off, _, _, _ => by simp [RepCs]
 | a :: l, off, h, hw, r => by
  simp only [List.all_cons, Bool.and_eq_true] at h
  simp only [RepCs] at r ⊢
  obtain ⟨⟨v, h1, h2, h3⟩, h4⟩ := r
  exact ⟨⟨v, by rw [hw]; exact h1, h2, scal1_rep h.1 h3⟩, scal1Cs_rep h.2 hw h4⟩
theorem scal1Es_rep {sz b : Nat} : ∀ {l : List (List AV)} {off : Nat}, (l.all fun e => e.all A.scal1) = true → c'.w = c.w → RepEs c sz b off l → RepEs c' sz b off l
 | [], off, _, _, _ => by simp [RepEs]
 | a :: l, off, h, hw, r => by
  simp only [List.all_cons, Bool.and_eq_true] at h
  simp only [RepEs] at r ⊢
  obtain ⟨h1, h2, h3⟩ := r
  exact ⟨h1, scal1Cs_rep h.1 hw h2, scal1Es_rep h.2 hw h3⟩
theorem scal2M_rep : ∀ {l : List (AV × AV)} {es : List MapEntry}, (l.all fun p => A.scal2 p.1 && A.scal2 p.2) = true → RepM c l es → RepM c' l es
 | [], es, _, r => by simpa [RepM] using r
 | (k, v) :: l, es, h, r => by
  simp only [List.all_cons, Bool.and_eq_true] at h
  simp only [RepM] at r ⊢
  obtain ⟨e, es', h1, h2, h3, h4⟩ := r
  exact ⟨e, es', h1, scal2_rep h.1.1 h2, scal2_rep h.1.2 h3, scal2M_rep h.2 h4⟩
theorem freshB_rep {p : Pl} {x : Blk} (h : A.freshB x = true) (hw : c'.w = c.w) (r : BlkAt c p x) : BlkAt c' p x := by
 cases x with
 | box cs =>
  obtain ⟨h1, ⟨⟨arr, t, h2, h3⟩, h4⟩⟩ := r
  exact ⟨h1, ⟨arr, t, by rw [hw]; exact h2, h3⟩, scal1Cs_rep h hw h4⟩
 | arr g sz es =>
  obtain ⟨h1, h2, h3, h4, ⟨arr, t, h5, h6⟩, h7, h8, h9⟩ := r
  exact ⟨h1, h2, h3, h4, ⟨arr, t, by rw [hw]; exact h5, h6⟩, h7, scal1Es_rep h hw h8, fun arr t fz e => h9 arr t fz (by rw [← hw]; exact e)⟩
 | map es =>
  obtain ⟨h1, ents, clock, h2, hwf, h3⟩ := r
  exact ⟨h1, ents, clock, by rw [hw]; exact h2, hwf, scal2M_rep h h3⟩
 | arrF g sz es => cases h
 | it cur left => cases h
theorem lent_out {z : Z} {σ σ' : Heap} {r : AV} {v : Value} {w' : World} {E' : List Pl} (e2 : ∀ b, z.X b → b < z.w.heap.size) (hh : HeapRel (ctx z z.w z.E nopb) σ) (hv : A.freshT r = true) (hb : σ'.all A.freshB = true)
  (k2 : Out ⟨z.w, [], fun _ => False, z.nm⟩ w' E') (k3 : HeapRel (ctx ⟨z.w, [], fun _ => False, z.nm⟩ w' E' nopb) σ') (k4 : Rep (ctx ⟨z.w, [], fun _ => False, z.nm⟩ w' E' nopb) r v) :
  ∃ E'', Out z w' E'' ∧ HeapRel (ctx z w' E'' nopb) (σ ++ σ') ∧ Rep (ctx z w' E'' nopb) (A.shiftT σ.length r) v := by
 have hlen : z.E.length = σ.length := hh.len
 have hlen' : E'.length = σ'.length := k3.len
 have hst : ∀ b, b < z.w.heap.size → w'.heap[b]? = z.w.heap[b]? := fun b hb => k2.stay b hb (fun p hp => by cases hp)
 have hlt : ∀ p ∈ z.E, p.b < z.w.heap.size := fun p hp => hh.lt hp
 have hfr : ∀ p ∈ E', z.w.heap.size ≤ p.b := fun p hp => by
  rcases k2.fresh p hp with k | ⟨q, hq, _⟩
  ·exact k
  ·cases hq
 have hx : Ext (ctx z z.w z.E nopb) (ctx z w' (z.E ++ E') nopb) := by
  refine ⟨k2.size, fun b hb hn => ⟨hst b hb, ?_⟩, fun i p hp => ⟨p, ?_, .inl rfl⟩, rfl⟩
  ·rintro (k | ⟨p, hp, k⟩ | ⟨i, k⟩)
   ·exact hn (.inl k)
   ·rcases List.mem_append.1 hp with hp | hp
    ·exact hn (.inr (.inl ⟨p, hp, k⟩))
    ·have := hfr p hp; simp only [ctx] at hb; omega
   ·cases k
  ·simp only [ctx] at hp ⊢
   rw [List.getElem?_append_left (List.getElem?_eq_some_iff.1 hp).1]; exact hp
 have key : ∀ (i : Nat) (p : Pl), (z.E ++ E')[i]? = some p → (i < z.E.length ∧ z.E[i]? = some p) ∨ (z.E.length ≤ i ∧ E'[i - z.E.length]? = some p) := fun i p hp => by
  by_cases hi : i < z.E.length
  ·rw [List.getElem?_append_left hi] at hp; exact .inl ⟨hi, hp⟩
  ·rw [List.getElem?_append_right (by omega)] at hp; exact .inr ⟨by omega, hp⟩
 refine ⟨z.E ++ E', ⟨k2.os, k2.tape, k2.output, k2.size, fun b hb _ => hst b hb, fun i p hp => ?_, fun i p hp => ⟨p, ?_, .inl rfl⟩, e2, hlt⟩, ⟨by simp [ctx, hlen, hlen'], fun i j p q hp hq e => ?_, fun i p x hp hxx => ?_⟩, shiftT_rep hlen.symm hv k4⟩
 ·rcases key i p hp with ⟨_, k⟩ | ⟨_, k⟩
  ·exact .inr ⟨p, k, rfl⟩
  ·exact .inl (hfr p (List.mem_of_getElem? k))
 ·rw [List.getElem?_append_left (List.getElem?_eq_some_iff.1 hp).1]; exact hp
 ·simp only [ctx] at hp hq
  rcases key i p hp with ⟨i1, k⟩ | ⟨i1, k⟩ <;> rcases key j q hq with ⟨j1, m⟩ | ⟨j1, m⟩
  ·exact hh.inj i j p q k m e
  ·have := hlt p (List.mem_of_getElem? k); have := hfr q (List.mem_of_getElem? m); omega
  ·have := hlt q (List.mem_of_getElem? m); have := hfr p (List.mem_of_getElem? k); omega
  ·have := k3.inj _ _ p q k m e; omega
 ·simp only [ctx] at hp
  rcases key i p hp with ⟨i1, k⟩ | ⟨i1, k⟩
  ·rw [List.getElem?_append_left (by omega)] at hxx
   exact (hh.blk i p x k hxx).mono hx (hst _ (hlt p (List.mem_of_getElem? k)))
  ·rw [List.getElem?_append_right (by omega), ← hlen] at hxx
   exact freshB_rep (c := ctx ⟨z.w, [], fun _ => False, z.nm⟩ w' E' nopb) (List.all_eq_true.1 hb x (List.mem_of_getElem? hxx)) rfl (k3.blk _ p x k hxx)
theorem ACalls.lent {args args' : List AV} {σ σ' : Heap} {r : AV} (h : ACalls P nm f args' [] r σ') (ha : A.frzL σ 0 8 args = some args') (hv : A.freshT r = true) (hb : σ'.all A.freshB = true) : ACalls P nm f args σ (A.shiftT σ.length r) (σ ++ σ') := by
 have hX : ∀ (z : Z) b, ¬ (ctx ⟨z.w, [], fun _ => False, z.nm⟩ z.w [] nopb).X b := by
  rintro z b (k | ⟨p, hp, _⟩ | ⟨i, k⟩)
  ·exact k.elim
  ·cases hp
  ·cases k
 have hcold : ∀ (z : Z), HeapRel (ctx z z.w z.E nopb) σ → Cold (ctx z z.w z.E nopb) (ctx ⟨z.w, [], fun _ => False, z.nm⟩ z.w [] nopb) σ 0 := fun z hh =>
  ⟨rfl, rfl, fun b k => (hX z b k).elim, fun id p k => absurd k (Nat.not_lt_zero _), hh, fun id p _ _ => hX z _⟩
 have h0 : ∀ (z : Z), HeapRel (ctx ⟨z.w, [], fun _ => False, z.nm⟩ z.w [] nopb) [] := fun z => by
  refine ⟨rfl, fun i j p q hp => ?_, fun i p x hp => ?_⟩
  ·simp [ctx] at hp
  ·simp [ctx] at hp
 rcases h with ⟨g, h1, h2⟩ | h2
 ·refine .inl ⟨g, h1, fun z vs e1 e2 hh e4 => ?_⟩
  have ha' : RepL (ctx ⟨z.w, [], fun _ => False, z.nm⟩ z.w [] nopb) args' vs.toList := frzL_rep (hcold z hh) 8 (fun av av' v _ e r => frz_all (hcold z hh) 8 _ _ _ e r) _ _ _ ha e4
  refine (h2 ⟨z.w, [], fun _ => False, z.nm⟩ vs e1 (fun b k => k.elim) (h0 z) ha').mono ?_
  rintro e w' ⟨v, E', k1, k2, k3, k4⟩
  obtain ⟨E'', q1, q2, q3⟩ := lent_out e2 hh hv hb k2 k3 k4
  exact ⟨v, E'', k1, q1, q2, q3⟩
 ·refine .inr fun z vs e1 e2 hh e4 => ?_
  have ha' : RepL (ctx ⟨z.w, [], fun _ => False, z.nm⟩ z.w [] nopb) args' vs.toList := frzL_rep (hcold z hh) 8 (fun av av' v _ e r => frz_all (hcold z hh) 8 _ _ _ e r) _ _ _ ha e4
  obtain ⟨v, w', E', k1, k2, k3, k4⟩ := h2 ⟨z.w, [], fun _ => False, z.nm⟩ vs e1 (fun b k => k.elim) (h0 z) ha'
  obtain ⟨E'', q1, q2, q3⟩ := lent_out e2 hh hv hb k2 k3 k4
  exact ⟨v, w', E'', k1, q1, q2, q3⟩
theorem Sound.wrap {r : List AV → Heap → Option (AV × Heap)} (h : Sound P nm f r) (ro : Bool) (ain : List Sh) (rout : Sh) (hi : Sh.okL ain = true) (ho : rout.ok = true) : Sound P nm f (A.wrap ro ain rout r) := by
 intro args σ v σ' e
 unfold A.wrap at e
 cases hc : (ro && args.any A.own)
 ·rw [hc] at e
  simp only [cond_false] at e
  obtain ⟨q, e1, e2⟩ := Option.map_eq_some_iff.1 e
  injection e2 with e2 e3
  subst e2 e3
  exact (h _ _ _ _ e1).conv (fun c vs k => nnL_rep _ _ _ hi k) (fun c v k => nn_rep _ _ _ ho k)
 ·rw [hc] at e
  simp only [cond_true] at e
  obtain ⟨args', e1, e2⟩ := Option.bind_eq_some_iff.1 e
  obtain ⟨q, e3, e4⟩ := Option.bind_eq_some_iff.1 e2
  obtain ⟨q1, q2⟩ := q
  simp only at e4
  cases hs : (A.freshT (A.nn rout q1) && q2.all A.freshB)
  ·rw [hs] at e4; cases e4
  ·rw [hs] at e4
   simp only [cond_true, Option.some.injEq, Prod.mk.injEq] at e4
   obtain ⟨rfl, rfl⟩ := e4
   simp only [Bool.and_eq_true] at hs
   exact ((h _ _ _ _ e3).conv (args := args') (fun c vs k => nnL_rep _ _ _ hi k) (fun c v k => nn_rep _ _ _ ho k)).lent e1 hs.1 hs.2
end
theorem Snd.of {X : Fx} {t : List (FuncId × (List AV → Heap → Option (AV × Heap)))} (hc : X.call = A.tab (fun _ _ => none) t) (ht : ∀ p ∈ t, Sound X.P X.nm p.1 p.2) (hd : ∀ f, Sound X.P X.nm f (X.dyn (X.nm.getD f 0))) : Snd X := by
 refine ⟨fun f args σ r σ' h => ?_, fun f => hd f⟩
 rw [hc] at h
 clear hc
 induction t with
 | nil => cases h
 | cons p t ih =>
  obtain ⟨m, x⟩ := p
  simp only [A.tab] at h
  cases hm : (f == m)
  ·rw [hm] at h; exact ih (fun p hp => ht p (List.mem_cons_of_mem _ hp)) h
  ·rw [hm] at h
   have : f = m := by simpa using hm
   subst this
   exact ht (f, x) (List.mem_cons_self) _ _ _ _ h
theorem Sound.none {P : Program} {nm : List Nat} {f : FuncId} : Sound P nm f (fun _ _ => Option.none) := fun _ _ _ _ h => by cases h
theorem All.nil {P : Program} {nm : List Nat} : ∀ p ∈ ([] : List (FuncId × (List AV → Heap → Option (AV × Heap)))), Sound P nm p.1 p.2 := fun _ h => by cases h
theorem All.cons {P : Program} {nm : List Nat} {f : FuncId} {m : List AV → Heap → Option (AV × Heap)} {l : List (FuncId × (List AV → Heap → Option (AV × Heap)))} (h : Sound P nm f m) (t : ∀ p ∈ l, Sound P nm p.1 p.2) : ∀ p ∈ (f, m) :: l, Sound P nm p.1 p.2 :=
 fun p hp => by rcases List.mem_cons.1 hp with rfl | hp; exact h; exact t p hp
theorem DAll.nil {P : Program} {nm : List Nat} : ∀ p ∈ ([] : List (Nat × (List AV → Heap → Option (AV × Heap)))), ∀ f, nm.getD f 0 = p.1 → Sound P nm f p.2 := fun _ h => by cases h
theorem DAll.cons {P : Program} {nm : List Nat} {k : Nat} {m : List AV → Heap → Option (AV × Heap)} {l : List (Nat × (List AV → Heap → Option (AV × Heap)))} (h : ∀ f, nm.getD f 0 = k → Sound P nm f m) (t : ∀ p ∈ l, ∀ f, nm.getD f 0 = p.1 → Sound P nm f p.2) : ∀ p ∈ (k, m) :: l, ∀ f, nm.getD f 0 = p.1 → Sound P nm f p.2 :=
 fun p hp => by rcases List.mem_cons.1 hp with rfl | hp; exact h; exact t p hp
theorem dyn_of {P : Program} {nm : List Nat} {t : List (Nat × (List AV → Heap → Option (AV × Heap)))} (ht : ∀ p ∈ t, ∀ f, nm.getD f 0 = p.1 → Sound P nm f p.2) (f : FuncId) : Sound P nm f (A.tab (fun _ _ => Option.none) t (nm.getD f 0)) := by
 induction t with
 | nil => exact Sound.none
 | cons p t ih =>
  obtain ⟨k, x⟩ := p
  simp only [A.tab]
  cases hm : (nm.getD f 0 == k)
  ·exact ih (fun p hp => ht p (List.mem_cons_of_mem _ hp))
  ·exact ht (k, x) List.mem_cons_self f (by simpa using hm)
theorem nm_one {nm : List Nat} {k g : Nat} (h : (nm.zipIdx.filter fun p => p.1 == k) = [(k, g)]) (hk : (0 == k) = false) {f : Nat} (hf : nm.getD f 0 = k) : f = g := by
 have hlt : f < nm.length := by
  rcases Nat.lt_or_ge f nm.length with e | e
  ·exact e
  ·simp only [List.getD, List.getElem?_eq_none e, Option.getD_none] at hf; subst hf; simp at hk
 have : (k, f) ∈ nm.zipIdx.filter fun p => p.1 == k := by
  refine List.mem_filter.2 ⟨List.mem_iff_getElem?.2 ⟨f, ?_⟩, by simp⟩
  simp only [List.getD] at hf
  rw [List.getElem?_eq_getElem hlt] at hf
  simp [List.getElem?_eq_getElem hlt, ← hf]
 rw [h] at this
 simpa using this
theorem nm_sound {P : Program} {nm : List Nat} {k g : Nat} {m : List AV → Heap → Option (AV × Heap)} (hs : Sound P nm g m) (h : (nm.zipIdx.filter fun p => p.1 == k) = [(k, g)]) (hk : (0 == k) = false) : ∀ f, nm.getD f 0 = k → Sound P nm f m :=
 fun f hf => by have e := nm_one h hk hf; subst e; exact hs
def fuel (F : (Nat → List AV → Heap → Option (AV × Heap)) → List (Nat × (List AV → Heap → Option (AV × Heap)))) : Nat → Nat → List AV → Heap → Option (AV × Heap)
 | 0, _ => fun _ _ => none
 | n + 1, k => A.tab (fun _ _ => none) (F (fuel F n)) k
namespace A
set_option linter.unusedSectionVars false
def ar1 (f : AV → Heap → Option (AV × Heap)) : List AV → Heap → Option (AV × Heap)
 | [x0], σ => f x0 σ
 | _, _ => none
def ar2 (f : AV → AV → Heap → Option (AV × Heap)) : List AV → Heap → Option (AV × Heap)
 | [x0, x1], σ => f x0 x1 σ
 | _, _ => none
def ar3 (f : AV → AV → AV → Heap → Option (AV × Heap)) : List AV → Heap → Option (AV × Heap)
 | [x0, x1, x2], σ => f x0 x1 x2 σ
 | _, _ => none
def ar5 (f : AV → AV → AV → AV → AV → Heap → Option (AV × Heap)) : List AV → Heap → Option (AV × Heap)
 | [x0, x1, x2, x3, x4], σ => f x0 x1 x2 x3 x4 σ
 | _, _ => none
def ar6 (f : AV → AV → AV → AV → AV → AV → Heap → Option (AV × Heap)) : List AV → Heap → Option (AV × Heap)
 | [x0, x1, x2, x3, x4, x5], σ => f x0 x1 x2 x3 x4 x5 σ
 | _, _ => none
end A
section
variable {X : Fx} {f : FuncId} {fn : Func} {ann : Ann}
theorem Sound.run1 {m : AV → Heap → Option (AV × Heap)} (keep : Back) (hkeep : keep.Ok) (hs : Snd X) (hf : X.P.funcs[f]? = some fn) (hc : ∀ aas w, (callFunc f aas).run X.P w = .ok (.enter f aas) w) (he : ∀ (x0 : AV) (σ : Heap), runA X keep ann fn [x0] σ = m x0 σ) : Sound X.P X.nm f (A.ar1 m) := by
 intro args σ r σ' h
 unfold A.ar1 at h
 split at h
 ·exact runA_sound hs hkeep hf hc ((he _ _).trans h)
 ·cases h
theorem Sound.run2 {m : AV → AV → Heap → Option (AV × Heap)} (keep : Back) (hkeep : keep.Ok) (hs : Snd X) (hf : X.P.funcs[f]? = some fn) (hc : ∀ aas w, (callFunc f aas).run X.P w = .ok (.enter f aas) w) (he : ∀ (x0 x1 : AV) (σ : Heap), runA X keep ann fn [x0, x1] σ = m x0 x1 σ) : Sound X.P X.nm f (A.ar2 m) := by
 intro args σ r σ' h
 unfold A.ar2 at h
 split at h
 ·exact runA_sound hs hkeep hf hc ((he _ _ _).trans h)
 ·cases h
theorem Sound.run3 {m : AV → AV → AV → Heap → Option (AV × Heap)} (keep : Back) (hkeep : keep.Ok) (hs : Snd X) (hf : X.P.funcs[f]? = some fn) (hc : ∀ aas w, (callFunc f aas).run X.P w = .ok (.enter f aas) w) (he : ∀ (x0 x1 x2 : AV) (σ : Heap), runA X keep ann fn [x0, x1, x2] σ = m x0 x1 x2 σ) : Sound X.P X.nm f (A.ar3 m) := by
 intro args σ r σ' h
 unfold A.ar3 at h
 split at h
 ·exact runA_sound hs hkeep hf hc ((he _ _ _ _).trans h)
 ·cases h
theorem Sound.run5 {m : AV → AV → AV → AV → AV → Heap → Option (AV × Heap)} (keep : Back) (hkeep : keep.Ok) (hs : Snd X) (hf : X.P.funcs[f]? = some fn) (hc : ∀ aas w, (callFunc f aas).run X.P w = .ok (.enter f aas) w) (he : ∀ (x0 x1 x2 x3 x4 : AV) (σ : Heap), runA X keep ann fn [x0, x1, x2, x3, x4] σ = m x0 x1 x2 x3 x4 σ) : Sound X.P X.nm f (A.ar5 m) := by
 intro args σ r σ' h
 unfold A.ar5 at h
 split at h
 ·exact runA_sound hs hkeep hf hc ((he _ _ _ _ _ _).trans h)
 ·cases h
theorem Sound.run6 {m : AV → AV → AV → AV → AV → AV → Heap → Option (AV × Heap)} (keep : Back) (hkeep : keep.Ok) (hs : Snd X) (hf : X.P.funcs[f]? = some fn) (hc : ∀ aas w, (callFunc f aas).run X.P w = .ok (.enter f aas) w) (he : ∀ (x0 x1 x2 x3 x4 x5 : AV) (σ : Heap), runA X keep ann fn [x0, x1, x2, x3, x4, x5] σ = m x0 x1 x2 x3 x4 x5 σ) : Sound X.P X.nm f (A.ar6 m) := by
 intro args σ r σ' h
 unfold A.ar6 at h
 split at h
 ·exact runA_sound hs hkeep hf hc ((he _ _ _ _ _ _ _).trans h)
 ·cases h
end
end Go.Proofs.Ytohbeolimnpehaa

namespace Go.Proofs.Ytohbeolimnpehaa
set_option linter.unusedSectionVars false
set_option linter.unusedSimpArgs false
set_option linter.unusedVariables false
noncomputable def nmT : List Nat := [0, 0, 0, 174, 329, 162, 172, 173, 175, 328, 161, 171, 165, 149, 150, 327, 14, 160, 13, 137, 163, 4, 170, 164, 148, 144, 1, 151, 155, 159, 156, 157, 94, 135, 136, 166, 167, 168, 169, 139, 143, 129, 154, 152, 158, 88, 89, 92, 5, 93, 134, 7, 130, 69, 71, 73, 2, 138, 142, 70, 3, 128, 127, 153, 85, 86, 87, 90, 91, 131, 133, 6, 63, 66, 67, 68, 72, 0, 125, 126, 141, 84, 132, 62, 65, 64, 0, 59, 140, 81, 83, 60, 61, 0, 58, 80, 82, 53, 52, 0, 0, 0, 0, 0, 0, 0, 0, 0, 0, 0, 0, 0, 0, 0, 0]
end Go.Proofs.Ytohbeolimnpehaa

namespace Go.Proofs.Ytohbeolimnpehaa
set_option linter.unusedSectionVars false
set_option linter.unusedVariables false
set_option linter.unusedSimpArgs false
abbrev inI (n : Int) : Prop := -9223372036854775808 ≤ n ∧ n ≤ 9223372036854775807
abbrev mxl : Nat := 9223372036854775807
def memB {κ : Type} [DecidableEq κ] (k : κ) (S : List κ) : Bool := S.any fun x => decide (x = k)
theorem memB_iff {κ : Type} [DecidableEq κ] {k : κ} {S : List κ} : memB k S = true ↔ k ∈ S := by
 simp only [memB, List.any_eq_true, decide_eq_true_eq]
 exact ⟨fun ⟨x, h, e⟩ => e ▸ h, fun h => ⟨k, h, rfl⟩⟩
theorem memB_false {κ : Type} [DecidableEq κ] {k : κ} {S : List κ} : memB k S = false ↔ k ∉ S := by
 rw [← memB_iff]; simp
def cInt (n : Int) : List AV := [.int .i64 n]
def cStr (s : ByteArray) : List AV := [.str s]
def sl {α : Type} (sz : Nat) (c : α → List AV) (l : List α) : AV := .sl sz (l.map c)
def okL {α : Type} (p : α → Prop) (l : List α) : Prop := l.length ≤ mxl ∧ ∀ x ∈ l, p x
def okS (s : ByteArray) : Prop := s.size ≤ mxl
theorem p1_cInt (n : Int) : A.part1 0 (cInt n) = some (.int .i64 n) := rfl
theorem p1_cStr (s : ByteArray) : A.part1 0 (cStr s) = some (.str s) := rfl

structure PointD where
 time : Int
 way : Int
deriving DecidableEq
def cPoint (x : PointD) : List AV := [.int .i64 x.time, .int .i64 x.way]
theorem cPoint_len (x : PointD) : (cPoint x).length = 2 := rfl
def okPoint (x : PointD) : Prop := inI x.time ∧ inI x.way
theorem p1_cPoint_0 (x : PointD) : A.part1 0 (cPoint x) = some (.int .i64 x.time) := rfl
theorem p1_cPoint_1 (x : PointD) : A.part1 1 (cPoint x) = some (.int .i64 x.way) := rfl
theorem pA_cPoint (x : PointD) : A.partA 0 2 (cPoint x) = some (.agg (cPoint x)) := rfl
theorem ce_cPoint (x : PointD) : A.cells 2 (.agg (cPoint x)) = some (cPoint x) := rfl
theorem sp_cPoint (x : PointD) (l : List AV) (h : l.length = 2) : A.splice 0 (cPoint x) l = some (cPoint x) := by
 simp [A.splice, cPoint_len, h]
structure CurveD where
 kind : Int
 points : (List PointD)
def cCurve (x : CurveD) : List AV := [.int .i64 x.kind, sl 2 cPoint x.points]
theorem cCurve_len (x : CurveD) : (cCurve x).length = 2 := rfl
def okCurve (x : CurveD) : Prop := inI x.kind ∧ (okL okPoint) x.points
theorem p1_cCurve_0 (x : CurveD) : A.part1 0 (cCurve x) = some (.int .i64 x.kind) := rfl
theorem p1_cCurve_1 (x : CurveD) : A.part1 1 (cCurve x) = some (sl 2 cPoint x.points) := rfl
theorem pA_cCurve (x : CurveD) : A.partA 0 2 (cCurve x) = some (.agg (cCurve x)) := rfl
theorem ce_cCurve (x : CurveD) : A.cells 2 (.agg (cCurve x)) = some (cCurve x) := rfl
theorem sp_cCurve (x : CurveD) (l : List AV) (h : l.length = 2) : A.splice 0 (cCurve x) l = some (cCurve x) := by
 simp [A.splice, cCurve_len, h]
structure FadeD where
 frm : Int
 to : Int
 start : Int
 delay : Int
 time : Int
 curve : CurveD
structure ChangeD where
 time : Int
 level : Int
deriving DecidableEq
structure RangeD where
 low : Int
 high : Int
 name : ByteArray
deriving DecidableEq
def cRange (x : RangeD) : List AV := [.int .i64 x.low, .int .i64 x.high, .str x.name]
theorem cRange_len (x : RangeD) : (cRange x).length = 3 := rfl
def okRange (x : RangeD) : Prop := inI x.low ∧ inI x.high ∧ okS x.name
theorem p1_cRange_0 (x : RangeD) : A.part1 0 (cRange x) = some (.int .i64 x.low) := rfl
theorem p1_cRange_1 (x : RangeD) : A.part1 1 (cRange x) = some (.int .i64 x.high) := rfl
theorem p1_cRange_2 (x : RangeD) : A.part1 2 (cRange x) = some (.str x.name) := rfl
theorem pA_cRange (x : RangeD) : A.partA 0 3 (cRange x) = some (.agg (cRange x)) := rfl
theorem ce_cRange (x : RangeD) : A.cells 3 (.agg (cRange x)) = some (cRange x) := rfl
theorem sp_cRange (x : RangeD) (l : List AV) (h : l.length = 3) : A.splice 0 (cRange x) l = some (cRange x) := by
 simp [A.splice, cRange_len, h]
structure ParamD where
 name : ByteArray
 group : Int
 att : Int
 fine : Int
 default : Int
 snap : Bool
 ranges : (List RangeD)
def cParam (x : ParamD) : List AV := [.str x.name, .int .i64 x.group, .int .i64 x.att, .int .i64 x.fine, .int .i64 x.default, .bool x.snap, sl 3 cRange x.ranges]
theorem cParam_len (x : ParamD) : (cParam x).length = 7 := rfl
def okParam (x : ParamD) : Prop := okS x.name ∧ inI x.group ∧ inI x.att ∧ inI x.fine ∧ inI x.default ∧ (okL okRange) x.ranges
theorem p1_cParam_0 (x : ParamD) : A.part1 0 (cParam x) = some (.str x.name) := rfl
theorem p1_cParam_1 (x : ParamD) : A.part1 1 (cParam x) = some (.int .i64 x.group) := rfl
theorem p1_cParam_2 (x : ParamD) : A.part1 2 (cParam x) = some (.int .i64 x.att) := rfl
theorem p1_cParam_3 (x : ParamD) : A.part1 3 (cParam x) = some (.int .i64 x.fine) := rfl
theorem p1_cParam_4 (x : ParamD) : A.part1 4 (cParam x) = some (.int .i64 x.default) := rfl
theorem p1_cParam_5 (x : ParamD) : A.part1 5 (cParam x) = some (.bool x.snap) := rfl
theorem p1_cParam_6 (x : ParamD) : A.part1 6 (cParam x) = some (sl 3 cRange x.ranges) := rfl
theorem pA_cParam (x : ParamD) : A.partA 0 7 (cParam x) = some (.agg (cParam x)) := rfl
theorem ce_cParam (x : ParamD) : A.cells 7 (.agg (cParam x)) = some (cParam x) := rfl
theorem sp_cParam (x : ParamD) (l : List AV) (h : l.length = 7) : A.splice 0 (cParam x) l = some (cParam x) := by
 simp [A.splice, cParam_len, h]
structure ProfileD where
 name : ByteArray
 size : Int
 params : (List ParamD)
def cProfile (x : ProfileD) : List AV := [.str x.name, .int .i64 x.size, sl 7 cParam x.params]
theorem cProfile_len (x : ProfileD) : (cProfile x).length = 3 := rfl
def okProfile (x : ProfileD) : Prop := okS x.name ∧ inI x.size ∧ (okL okParam) x.params
theorem p1_cProfile_0 (x : ProfileD) : A.part1 0 (cProfile x) = some (.str x.name) := rfl
theorem p1_cProfile_1 (x : ProfileD) : A.part1 1 (cProfile x) = some (.int .i64 x.size) := rfl
theorem p1_cProfile_2 (x : ProfileD) : A.part1 2 (cProfile x) = some (sl 7 cParam x.params) := rfl
theorem pA_cProfile (x : ProfileD) : A.partA 0 3 (cProfile x) = some (.agg (cProfile x)) := rfl
theorem ce_cProfile (x : ProfileD) : A.cells 3 (.agg (cProfile x)) = some (cProfile x) := rfl
theorem sp_cProfile (x : ProfileD) (l : List AV) (h : l.length = 3) : A.splice 0 (cProfile x) l = some (cProfile x) := by
 simp [A.splice, cProfile_len, h]
structure UnitD where
 number : Int
 profile : ByteArray
 univ : Int
 address : Int
deriving DecidableEq
def cUnit (x : UnitD) : List AV := [.int .i64 x.number, .str x.profile, .int .i64 x.univ, .int .i64 x.address]
theorem cUnit_len (x : UnitD) : (cUnit x).length = 4 := rfl
def okUnit (x : UnitD) : Prop := inI x.number ∧ okS x.profile ∧ inI x.univ ∧ inI x.address
theorem p1_cUnit_0 (x : UnitD) : A.part1 0 (cUnit x) = some (.int .i64 x.number) := rfl
theorem p1_cUnit_1 (x : UnitD) : A.part1 1 (cUnit x) = some (.str x.profile) := rfl
theorem p1_cUnit_2 (x : UnitD) : A.part1 2 (cUnit x) = some (.int .i64 x.univ) := rfl
theorem p1_cUnit_3 (x : UnitD) : A.part1 3 (cUnit x) = some (.int .i64 x.address) := rfl
theorem pA_cUnit (x : UnitD) : A.partA 0 4 (cUnit x) = some (.agg (cUnit x)) := rfl
theorem ce_cUnit (x : UnitD) : A.cells 4 (.agg (cUnit x)) = some (cUnit x) := rfl
theorem sp_cUnit (x : UnitD) (l : List AV) (h : l.length = 4) : A.splice 0 (cUnit x) l = some (cUnit x) := by
 simp [A.splice, cUnit_len, h]
structure RigD where
 library : (List ProfileD)
 units : (List UnitD)
def cRig (x : RigD) : List AV := [sl 3 cProfile x.library, sl 4 cUnit x.units]
theorem cRig_len (x : RigD) : (cRig x).length = 2 := rfl
def okRig (x : RigD) : Prop := (okL okProfile) x.library ∧ (okL okUnit) x.units
theorem p1_cRig_0 (x : RigD) : A.part1 0 (cRig x) = some (sl 3 cProfile x.library) := rfl
theorem p1_cRig_1 (x : RigD) : A.part1 1 (cRig x) = some (sl 4 cUnit x.units) := rfl
theorem pA_cRig (x : RigD) : A.partA 0 2 (cRig x) = some (.agg (cRig x)) := rfl
theorem ce_cRig (x : RigD) : A.cells 2 (.agg (cRig x)) = some (cRig x) := rfl
theorem sp_cRig (x : RigD) (l : List AV) (h : l.length = 2) : A.splice 0 (cRig x) l = some (cRig x) := by
 simp [A.splice, cRig_len, h]
structure KeyD where
 unit : Int
 param : ByteArray
deriving DecidableEq
def cKey (x : KeyD) : List AV := [.int .i64 x.unit, .str x.param]
theorem cKey_len (x : KeyD) : (cKey x).length = 2 := rfl
def okKey (x : KeyD) : Prop := inI x.unit ∧ okS x.param
theorem sp_cKey (x : KeyD) (l : List AV) (h : l.length = 2) : A.splice 0 (cKey x) l = some (cKey x) := by
 simp [A.splice, cKey_len, h]
structure SettingD where
 key : KeyD
 level : Int
deriving DecidableEq
def cSetting (x : SettingD) : List AV := [.int .i64 x.key.unit, .str x.key.param, .int .i64 x.level]
theorem cSetting_len (x : SettingD) : (cSetting x).length = 3 := rfl
def okSetting (x : SettingD) : Prop := okKey x.key ∧ inI x.level
theorem sp_cSetting (x : SettingD) (l : List AV) (h : l.length = 3) : A.splice 0 (cSetting x) l = some (cSetting x) := by
 simp [A.splice, cSetting_len, h]
structure PresetD where
 number : Int
 title : ByteArray
 settings : (List SettingD)
def cPreset (x : PresetD) : List AV := [.int .i64 x.number, .str x.title, sl 3 cSetting x.settings]
theorem cPreset_len (x : PresetD) : (cPreset x).length = 3 := rfl
def okPreset (x : PresetD) : Prop := inI x.number ∧ okS x.title ∧ (okL okSetting) x.settings
theorem sp_cPreset (x : PresetD) (l : List AV) (h : l.length = 3) : A.splice 0 (cPreset x) l = some (cPreset x) := by
 simp [A.splice, cPreset_len, h]
structure FanD where
 corners : (List Int)
 block : Int
 wings : Int
structure ValueD where
 level : Int
 preset : Int
deriving DecidableEq
def cValue (x : ValueD) : List AV := [.int .i64 x.level, .int .i64 x.preset]
def okValue (x : ValueD) : Prop := inI x.level ∧ inI x.preset
structure MoveD where
 key : KeyD
 value : ValueD
 release : Bool
 timed : Bool
 delay : Int
 time : Int
deriving DecidableEq
def cMove (x : MoveD) : List AV := [.int .i64 x.key.unit, .str x.key.param, .int .i64 x.value.level, .int .i64 x.value.preset, .bool x.release, .bool x.timed, .int .i64 x.delay, .int .i64 x.time]
theorem cMove_len (x : MoveD) : (cMove x).length = 8 := rfl
def okMove (x : MoveD) : Prop := okKey x.key ∧ okValue x.value ∧ inI x.delay ∧ inI x.time
theorem sp_cMove (x : MoveD) (l : List AV) (h : l.length = 8) : A.splice 0 (cMove x) l = some (cMove x) := by
 simp [A.splice, cMove_len, h]
structure CueD where
 number : Int
 title : ByteArray
 delay : Int
 up : Int
 down : Int
 other : Int
 curve : CurveD
 block : Bool
 follow : Int
 moves : (List MoveD)
def cCue (x : CueD) : List AV := [.int .i64 x.number, .str x.title, .int .i64 x.delay, .int .i64 x.up, .int .i64 x.down, .int .i64 x.other, .int .i64 x.curve.kind, sl 2 cPoint x.curve.points, .bool x.block, .int .i64 x.follow, sl 8 cMove x.moves]
theorem cCue_len (x : CueD) : (cCue x).length = 11 := rfl
def okCue (x : CueD) : Prop := inI x.number ∧ okS x.title ∧ inI x.delay ∧ inI x.up ∧ inI x.down ∧ inI x.other ∧ okCurve x.curve ∧ inI x.follow ∧ (okL okMove) x.moves
theorem p1_cCue_0 (x : CueD) : A.part1 0 (cCue x) = some (.int .i64 x.number) := rfl
theorem p1_cCue_1 (x : CueD) : A.part1 1 (cCue x) = some (.str x.title) := rfl
theorem p1_cCue_2 (x : CueD) : A.part1 2 (cCue x) = some (.int .i64 x.delay) := rfl
theorem p1_cCue_3 (x : CueD) : A.part1 3 (cCue x) = some (.int .i64 x.up) := rfl
theorem p1_cCue_4 (x : CueD) : A.part1 4 (cCue x) = some (.int .i64 x.down) := rfl
theorem p1_cCue_5 (x : CueD) : A.part1 5 (cCue x) = some (.int .i64 x.other) := rfl
theorem p1_cCue_6 (x : CueD) : A.part1 6 (cCue x) = some (.int .i64 x.curve.kind) := rfl
theorem p1_cCue_7 (x : CueD) : A.part1 7 (cCue x) = some (sl 2 cPoint x.curve.points) := rfl
theorem p1_cCue_8 (x : CueD) : A.part1 8 (cCue x) = some (.bool x.block) := rfl
theorem p1_cCue_9 (x : CueD) : A.part1 9 (cCue x) = some (.int .i64 x.follow) := rfl
theorem p1_cCue_10 (x : CueD) : A.part1 10 (cCue x) = some (sl 8 cMove x.moves) := rfl
theorem pA_cCue_curve (x : CueD) : A.partA 6 2 (cCue x) = some (.agg (cCurve x.curve)) := rfl
theorem pA_cCue (x : CueD) : A.partA 0 11 (cCue x) = some (.agg (cCue x)) := rfl
theorem ce_cCue (x : CueD) : A.cells 11 (.agg (cCue x)) = some (cCue x) := rfl
theorem sp_cCue (x : CueD) (l : List AV) (h : l.length = 11) : A.splice 0 (cCue x) l = some (cCue x) := by
 simp [A.splice, cCue_len, h]
structure EntryD where
 key : KeyD
 value : ValueD
 cue : Int
deriving DecidableEq
structure MarkD where
 unit : Int
 frm : Int
 to : Int
deriving DecidableEq
structure ListD where
 number : Int
 cues : (List CueD)
def cList (x : ListD) : List AV := [.int .i64 x.number, sl 11 cCue x.cues]
theorem cList_len (x : ListD) : (cList x).length = 2 := rfl
def okList (x : ListD) : Prop := inI x.number ∧ (okL okCue) x.cues
theorem p1_cList_0 (x : ListD) : A.part1 0 (cList x) = some (.int .i64 x.number) := rfl
theorem p1_cList_1 (x : ListD) : A.part1 1 (cList x) = some (sl 11 cCue x.cues) := rfl
theorem pA_cList (x : ListD) : A.partA 0 2 (cList x) = some (.agg (cList x)) := rfl
theorem ce_cList (x : ListD) : A.cells 2 (.agg (cList x)) = some (cList x) := rfl
theorem sp_cList (x : ListD) (l : List AV) (h : l.length = 2) : A.splice 0 (cList x) l = some (cList x) := by
 simp [A.splice, cList_len, h]
structure PlaybackD where
 number : Int
 list : Int
 priority : Int
deriving DecidableEq
def cPlayback (x : PlaybackD) : List AV := [.int .i64 x.number, .int .i64 x.list, .int .i64 x.priority]
theorem cPlayback_len (x : PlaybackD) : (cPlayback x).length = 3 := rfl
def okPlayback (x : PlaybackD) : Prop := inI x.number ∧ inI x.list ∧ inI x.priority
theorem p1_cPlayback_0 (x : PlaybackD) : A.part1 0 (cPlayback x) = some (.int .i64 x.number) := rfl
theorem p1_cPlayback_1 (x : PlaybackD) : A.part1 1 (cPlayback x) = some (.int .i64 x.list) := rfl
theorem p1_cPlayback_2 (x : PlaybackD) : A.part1 2 (cPlayback x) = some (.int .i64 x.priority) := rfl
theorem pA_cPlayback (x : PlaybackD) : A.partA 0 3 (cPlayback x) = some (.agg (cPlayback x)) := rfl
theorem ce_cPlayback (x : PlaybackD) : A.cells 3 (.agg (cPlayback x)) = some (cPlayback x) := rfl
theorem sp_cPlayback (x : PlaybackD) (l : List AV) (h : l.length = 3) : A.splice 0 (cPlayback x) l = some (cPlayback x) := by
 simp [A.splice, cPlayback_len, h]
structure SetupD where
 rig : RigD
 presets : (List PresetD)
 lists : (List ListD)
 playbacks : (List PlaybackD)
def cSetup (x : SetupD) : List AV := [sl 3 cProfile x.rig.library, sl 4 cUnit x.rig.units, sl 3 cPreset x.presets, sl 2 cList x.lists, sl 3 cPlayback x.playbacks]
def okSetup (x : SetupD) : Prop := okRig x.rig ∧ (okL okPreset) x.presets ∧ (okL okList) x.lists ∧ (okL okPlayback) x.playbacks
theorem pA_cSetup (x : SetupD) : A.partA 0 5 (cSetup x) = some (.agg (cSetup x)) := rfl
theorem ce_cSetup (x : SetupD) : A.cells 5 (.agg (cSetup x)) = some (cSetup x) := rfl
structure ActionD where
 time : Int
 kind : Int
 playback : Int
 cue : Int
 level : Int
deriving DecidableEq
def cAction (x : ActionD) : List AV := [.int .i64 x.time, .int .i64 x.kind, .int .i64 x.playback, .int .i64 x.cue, .int .i64 x.level]
theorem cAction_len (x : ActionD) : (cAction x).length = 5 := rfl
def okAction (x : ActionD) : Prop := inI x.time ∧ inI x.kind ∧ inI x.playback ∧ inI x.cue ∧ inI x.level
theorem sp_cAction (x : ActionD) (l : List AV) (h : l.length = 5) : A.splice 0 (cAction x) l = some (cAction x) := by
 simp [A.splice, cAction_len, h]
structure EventD where
 att : Int
 action : ActionD
deriving DecidableEq
def cEvent (x : EventD) : List AV := [.int .i64 x.att, .int .i64 x.action.time, .int .i64 x.action.kind, .int .i64 x.action.playback, .int .i64 x.action.cue, .int .i64 x.action.level]
theorem cEvent_len (x : EventD) : (cEvent x).length = 6 := rfl
def okEvent (x : EventD) : Prop := inI x.att ∧ okAction x.action
theorem sp_cEvent (x : EventD) (l : List AV) (h : l.length = 6) : A.splice 0 (cEvent x) l = some (cEvent x) := by
 simp [A.splice, cEvent_len, h]
structure StampD where
 hours : Int
 minutes : Int
 seconds : Int
 frames : Int
deriving DecidableEq
structure RunD where
 key : KeyD
 fade : FadeD
 claim : Int
 ending : Bool
structure StandingD where
 playback : Int
 cue : Int
 fader : Int
 paused : Bool
 follow : Int
 runs : (List RunD)
structure EffectStepD where
 level : Int
 hold : Int
 fade : Int
deriving DecidableEq
structure EffectD where
 form : Int
 low : Int
 high : Int
 cycle : Int
 width : Int
 spread : Int
 back : Bool
 relative : Bool
 steps : (List EffectStepD)
structure RateD where
 time : Int
 percent : Int
deriving DecidableEq
structure RunningD where
 effect : EffectD
 keys : (List KeyD)
 start : Int
 rates : (List RateD)
 inn : Int
 fin : Int
 out : Int
end Go.Proofs.Ytohbeolimnpehaa

namespace Go.Proofs.Ytohbeolimnpehaa
set_option linter.unusedSectionVars false
set_option linter.unusedSimpArgs false
set_option linter.unusedVariables false
def m_strings_Compare : List AV → Heap → Option (AV × Heap) := A.ar2 fun a b σ => match a, b with
 | .str a, .str b => some (.int .i64 (Lib.compareBytes a.data.toList b.data.toList), σ)
 | _, _ => none
end Go.Proofs.Ytohbeolimnpehaa

namespace Go.Proofs.Ytohbeolimnpehaa
set_option linter.unusedSectionVars false
set_option linter.unusedSimpArgs false
set_option linter.unusedVariables false
set_option maxRecDepth 100000
noncomputable def r_slices_IndexFunc_api_Profile (dyn : Nat → List AV → Heap → Option (AV × Heap)) (a0 a1 : AV) (σ : Heap) : Option (AV × Heap) :=
 (A.lenS a0).bind fun x1 =>
 (A.loop (fun v2 s3 =>
   (A.lss (v2.getD 1 AV.undef) x1).bind fun x5 =>
   A.cond x5 (
    (A.iaddr 3 a0 (v2.getD 1 AV.undef)).bind fun x6 =>
    ((A.deref x6 s3).bind fun c7 => A.partA 0 3 c7).bind fun x8 =>
    (A.callv dyn a1 [x8] s3).bind fun r9 =>
    A.cond r9.1 (
     some (AX.ret, [(v2.getD 1 AV.undef), (v2.getD 1 AV.undef)], r9.2)) (
     (A.add (v2.getD 1 AV.undef) (AV.int .i64 1)).bind fun x10 =>
     some (AX.normal, [(v2.getD 0 AV.undef), x10], r9.2))) (
    some (AX.exit 0, [(v2.getD 0 AV.undef), (v2.getD 1 AV.undef)], s3))) [(AV.int .i64 0), (AV.int .i64 0)] σ).bind fun r11 =>
 bif r11.1 == AX.exit 0 then (
  A.fin σ (AV.int .i64 (-1)) r11.2.2) else
 bif r11.1 == AX.ret then (
  A.fin σ (r11.2.1.getD 0 AV.undef) r11.2.2) else
 none
noncomputable def m_slices_IndexFunc_api_Profile (dyn : Nat → List AV → Heap → Option (AV × Heap)) : List AV → Heap → Option (AV × Heap) := A.wrap true [(.s 3)] .k (A.ar2 (r_slices_IndexFunc_api_Profile dyn))
noncomputable def r_slices_IndexFunc_api_Cue (dyn : Nat → List AV → Heap → Option (AV × Heap)) (a0 a1 : AV) (σ : Heap) : Option (AV × Heap) :=
 (A.lenS a0).bind fun x1 =>
 (A.loop (fun v2 s3 =>
   (A.lss (v2.getD 1 AV.undef) x1).bind fun x5 =>
   A.cond x5 (
    (A.iaddr 11 a0 (v2.getD 1 AV.undef)).bind fun x6 =>
    ((A.deref x6 s3).bind fun c7 => A.partA 0 11 c7).bind fun x8 =>
    (A.callv dyn a1 [x8] s3).bind fun r9 =>
    A.cond r9.1 (
     some (AX.ret, [(v2.getD 1 AV.undef), (v2.getD 1 AV.undef)], r9.2)) (
     (A.add (v2.getD 1 AV.undef) (AV.int .i64 1)).bind fun x10 =>
     some (AX.normal, [(v2.getD 0 AV.undef), x10], r9.2))) (
    some (AX.exit 0, [(v2.getD 0 AV.undef), (v2.getD 1 AV.undef)], s3))) [(AV.int .i64 0), (AV.int .i64 0)] σ).bind fun r11 =>
 bif r11.1 == AX.exit 0 then (
  A.fin σ (AV.int .i64 (-1)) r11.2.2) else
 bif r11.1 == AX.ret then (
  A.fin σ (r11.2.1.getD 0 AV.undef) r11.2.2) else
 none
noncomputable def m_slices_IndexFunc_api_Cue (dyn : Nat → List AV → Heap → Option (AV × Heap)) : List AV → Heap → Option (AV × Heap) := A.wrap true [(.s 11)] .k (A.ar2 (r_slices_IndexFunc_api_Cue dyn))
noncomputable def r_slices_ContainsFunc_api_Cue (dyn : Nat → List AV → Heap → Option (AV × Heap)) (a0 a1 : AV) (σ : Heap) : Option (AV × Heap) :=
 (m_slices_IndexFunc_api_Cue dyn [a0, a1] σ).bind fun r1 =>
 (A.geq r1.1 (AV.int .i64 0)).bind fun x2 =>
 A.fin σ x2 r1.2
noncomputable def m_slices_ContainsFunc_api_Cue (dyn : Nat → List AV → Heap → Option (AV × Heap)) : List AV → Heap → Option (AV × Heap) := A.wrap true [(.s 11)] .k (A.ar2 (r_slices_ContainsFunc_api_Cue dyn))
noncomputable def r_slices_IndexFunc_api_List (dyn : Nat → List AV → Heap → Option (AV × Heap)) (a0 a1 : AV) (σ : Heap) : Option (AV × Heap) :=
 (A.lenS a0).bind fun x1 =>
 (A.loop (fun v2 s3 =>
   (A.lss (v2.getD 1 AV.undef) x1).bind fun x5 =>
   A.cond x5 (
    (A.iaddr 2 a0 (v2.getD 1 AV.undef)).bind fun x6 =>
    ((A.deref x6 s3).bind fun c7 => A.partA 0 2 c7).bind fun x8 =>
    (A.callv dyn a1 [x8] s3).bind fun r9 =>
    A.cond r9.1 (
     some (AX.ret, [(v2.getD 1 AV.undef), (v2.getD 1 AV.undef)], r9.2)) (
     (A.add (v2.getD 1 AV.undef) (AV.int .i64 1)).bind fun x10 =>
     some (AX.normal, [(v2.getD 0 AV.undef), x10], r9.2))) (
    some (AX.exit 0, [(v2.getD 0 AV.undef), (v2.getD 1 AV.undef)], s3))) [(AV.int .i64 0), (AV.int .i64 0)] σ).bind fun r11 =>
 bif r11.1 == AX.exit 0 then (
  A.fin σ (AV.int .i64 (-1)) r11.2.2) else
 bif r11.1 == AX.ret then (
  A.fin σ (r11.2.1.getD 0 AV.undef) r11.2.2) else
 none
noncomputable def m_slices_IndexFunc_api_List (dyn : Nat → List AV → Heap → Option (AV × Heap)) : List AV → Heap → Option (AV × Heap) := A.wrap true [(.s 2)] .k (A.ar2 (r_slices_IndexFunc_api_List dyn))
noncomputable def r_slices_IndexFunc_api_Playback (dyn : Nat → List AV → Heap → Option (AV × Heap)) (a0 a1 : AV) (σ : Heap) : Option (AV × Heap) :=
 (A.lenS a0).bind fun x1 =>
 (A.loop (fun v2 s3 =>
   (A.lss (v2.getD 1 AV.undef) x1).bind fun x5 =>
   A.cond x5 (
    (A.iaddr 3 a0 (v2.getD 1 AV.undef)).bind fun x6 =>
    ((A.deref x6 s3).bind fun c7 => A.partA 0 3 c7).bind fun x8 =>
    (A.callv dyn a1 [x8] s3).bind fun r9 =>
    A.cond r9.1 (
     some (AX.ret, [(v2.getD 1 AV.undef), (v2.getD 1 AV.undef)], r9.2)) (
     (A.add (v2.getD 1 AV.undef) (AV.int .i64 1)).bind fun x10 =>
     some (AX.normal, [(v2.getD 0 AV.undef), x10], r9.2))) (
    some (AX.exit 0, [(v2.getD 0 AV.undef), (v2.getD 1 AV.undef)], s3))) [(AV.int .i64 0), (AV.int .i64 0)] σ).bind fun r11 =>
 bif r11.1 == AX.exit 0 then (
  A.fin σ (AV.int .i64 (-1)) r11.2.2) else
 bif r11.1 == AX.ret then (
  A.fin σ (r11.2.1.getD 0 AV.undef) r11.2.2) else
 none
noncomputable def m_slices_IndexFunc_api_Playback (dyn : Nat → List AV → Heap → Option (AV × Heap)) : List AV → Heap → Option (AV × Heap) := A.wrap true [(.s 3)] .k (A.ar2 (r_slices_IndexFunc_api_Playback dyn))
noncomputable def r_slices_ContainsFunc_api_Playback (dyn : Nat → List AV → Heap → Option (AV × Heap)) (a0 a1 : AV) (σ : Heap) : Option (AV × Heap) :=
 (m_slices_IndexFunc_api_Playback dyn [a0, a1] σ).bind fun r1 =>
 (A.geq r1.1 (AV.int .i64 0)).bind fun x2 =>
 A.fin σ x2 r1.2
noncomputable def m_slices_ContainsFunc_api_Playback (dyn : Nat → List AV → Heap → Option (AV × Heap)) : List AV → Heap → Option (AV × Heap) := A.wrap true [(.s 3)] .k (A.ar2 (r_slices_ContainsFunc_api_Playback dyn))
noncomputable def r_slices_Grow_api_Event (a0 a1 : AV) (σ : Heap) : Option (AV × Heap) :=
 (A.lss a1 (AV.int .i64 0)).bind fun x1 =>
 (A.cond x1 (
  ((none : Option AV)).bind fun x3 =>
  some (([] : List AV), σ)) (
  some (([] : List AV), σ))).bind fun r2 =>
 A.capM (A.capN a0) (fun x4 =>
  (A.lenS a0).bind fun x5 =>
  (A.sub x4 x5).bind fun x6 =>
  (A.sub a1 x6).bind fun x7 =>
  (A.gtr x7 (AV.int .i64 0)).bind fun x8 =>
  (A.cond x8 (
   A.capM (A.capN a0) (fun x10 =>
    (A.sliceS 6 a0 none (some x10) r2.2).bind fun x11 =>
    (A.appendZ 6 (140737488355328 / 48) [(AV.int .i64 0), (AV.int .i64 0), (AV.int .i64 0), (AV.int .i64 0), (AV.int .i64 0), (AV.int .i64 0)] x11 x7 r2.2).bind fun r12 =>
    (A.lenS a0).bind fun x13 =>
    (A.sliceS 6 r12.1 none (some x13) r12.2).bind fun x14 =>
    some ([x14], r12.2)) (A.capU a0 r2.2 fun n15 s16 =>
    (A.sliceS 6 a0 none (some (AV.int .i64 n15)) s16).bind fun x17 =>
    (A.appendZ 6 (140737488355328 / 48) [(AV.int .i64 0), (AV.int .i64 0), (AV.int .i64 0), (AV.int .i64 0), (AV.int .i64 0), (AV.int .i64 0)] x17 x7 s16).bind fun r18 =>
    (A.lenS a0).bind fun x19 =>
    (A.sliceS 6 r18.1 none (some x19) r18.2).bind fun x20 =>
    some ([x20], r18.2))) (
   some ([a0], r2.2))).bind fun r9 =>
  some ((r9.1.getD 0 AV.undef), r9.2)) (A.capU a0 r2.2 fun n21 s22 =>
  (A.lenS a0).bind fun x23 =>
  (A.sub (AV.int .i64 n21) x23).bind fun x24 =>
  (A.sub a1 x24).bind fun x25 =>
  (A.gtr x25 (AV.int .i64 0)).bind fun x26 =>
  (A.cond x26 (
   A.capM (A.capN a0) (fun x28 =>
    (A.sliceS 6 a0 none (some x28) s22).bind fun x29 =>
    (A.appendZ 6 (140737488355328 / 48) [(AV.int .i64 0), (AV.int .i64 0), (AV.int .i64 0), (AV.int .i64 0), (AV.int .i64 0), (AV.int .i64 0)] x29 x25 s22).bind fun r30 =>
    (A.lenS a0).bind fun x31 =>
    (A.sliceS 6 r30.1 none (some x31) r30.2).bind fun x32 =>
    some ([x32], r30.2)) (A.capU a0 s22 fun n33 s34 =>
    (A.sliceS 6 a0 none (some (AV.int .i64 n33)) s34).bind fun x35 =>
    (A.appendZ 6 (140737488355328 / 48) [(AV.int .i64 0), (AV.int .i64 0), (AV.int .i64 0), (AV.int .i64 0), (AV.int .i64 0), (AV.int .i64 0)] x35 x25 s34).bind fun r36 =>
    (A.lenS a0).bind fun x37 =>
    (A.sliceS 6 r36.1 none (some x37) r36.2).bind fun x38 =>
    some ([x38], r36.2))) (
   some ([a0], s22))).bind fun r27 =>
  some ((r27.1.getD 0 AV.undef), r27.2))
noncomputable def m_slices_Grow_api_Event : List AV → Heap → Option (AV × Heap) := A.wrap false [] .k (A.ar2 r_slices_Grow_api_Event)
noncomputable def r_slices_Concat_api_Event (a0 : AV) (σ : Heap) : Option (AV × Heap) :=
 (A.lenS a0).bind fun x1 =>
 (A.loop (fun v2 s3 =>
   (A.lss (v2.getD 1 AV.undef) x1).bind fun x5 =>
   A.cond x5 (
    (A.iaddr 1 a0 (v2.getD 1 AV.undef)).bind fun x6 =>
    ((A.deref x6 s3).bind fun c7 => A.part1 0 c7).bind fun x8 =>
    (A.lenS x8).bind fun x9 =>
    (A.add (v2.getD 0 AV.undef) x9).bind fun x10 =>
    (A.lss x10 (AV.int .i64 0)).bind fun x11 =>
    (A.cond x11 (
     ((none : Option AV)).bind fun x13 =>
     some (([] : List AV), s3)) (
     some (([] : List AV), s3))).bind fun r12 =>
    (A.add (v2.getD 1 AV.undef) (AV.int .i64 1)).bind fun x14 =>
    some (AX.normal, [x10, x14], r12.2)) (
    some (AX.exit 0, [(v2.getD 0 AV.undef), (v2.getD 1 AV.undef)], s3))) [(AV.int .i64 0), (AV.int .i64 0)] σ).bind fun r15 =>
 bif r15.1 == AX.exit 0 then (
  (m_slices_Grow_api_Event [AV.nsl, (r15.2.1.getD 0 AV.undef)] r15.2.2).bind fun r16 =>
  (A.lenS a0).bind fun x17 =>
  (A.loop (fun v18 s19 =>
    (A.lss (v18.getD 1 AV.undef) x17).bind fun x21 =>
    A.cond x21 (
     (A.iaddr 1 a0 (v18.getD 1 AV.undef)).bind fun x22 =>
     ((A.deref x22 s19).bind fun c23 => A.part1 0 c23).bind fun x24 =>
     (A.append 6 (140737488355328 / 48) (v18.getD 0 AV.undef) x24 s19).bind fun r25 =>
     (A.add (v18.getD 1 AV.undef) (AV.int .i64 1)).bind fun x26 =>
     some (AX.normal, [r25.1, x26], r25.2)) (
     some (AX.exit 2, [(v18.getD 0 AV.undef), (v18.getD 1 AV.undef)], s19))) [r16.1, (AV.int .i64 0)] r16.2).bind fun r27 =>
  bif r27.1 == AX.exit 2 then (
   A.fin σ (r27.2.1.getD 0 AV.undef) r27.2.2) else
  none) else
 none
noncomputable def m_slices_Concat_api_Event : List AV → Heap → Option (AV × Heap) := A.wrap true [(.s 1)] (.s 6) (A.ar1 r_slices_Concat_api_Event)
noncomputable def r_slices_Equal_api_Event (a0 a1 : AV) (σ : Heap) : Option (AV × Heap) :=
 (A.lenS a0).bind fun x1 =>
 (A.lenS a1).bind fun x2 =>
 (A.neq .i x1 x2).bind fun x3 =>
 A.cond x3 (
  A.fin σ (AV.bool false) σ) (
  (A.lenS a0).bind fun x4 =>
  (A.loop (fun v5 s6 =>
    (A.lss (v5.getD 1 AV.undef) x4).bind fun x8 =>
    A.cond x8 (
     (A.iaddr 6 a0 (v5.getD 1 AV.undef)).bind fun x9 =>
     ((A.deref x9 s6).bind fun c10 => A.partA 0 6 c10).bind fun x11 =>
     (A.iaddr 6 a1 (v5.getD 1 AV.undef)).bind fun x12 =>
     ((A.deref x12 s6).bind fun c13 => A.partA 0 6 c13).bind fun x14 =>
     (A.neq (.s [0, 0, 0, 0, 0, 0]) x11 x14).bind fun x15 =>
     A.cond x15 (
      some (AX.ret, [(AV.bool false), (v5.getD 1 AV.undef)], s6)) (
      (A.add (v5.getD 1 AV.undef) (AV.int .i64 1)).bind fun x16 =>
      some (AX.normal, [(v5.getD 0 AV.undef), x16], s6))) (
     some (AX.exit 0, [(v5.getD 0 AV.undef), (v5.getD 1 AV.undef)], s6))) [(AV.bool false), (AV.int .i64 0)] σ).bind fun r17 =>
  bif r17.1 == AX.exit 0 then (
   A.fin σ (AV.bool true) r17.2.2) else
  bif r17.1 == AX.ret then (
   A.fin σ (r17.2.1.getD 0 AV.undef) r17.2.2) else
  none)
noncomputable def m_slices_Equal_api_Event : List AV → Heap → Option (AV × Heap) := A.wrap true [(.s 6), (.s 6)] .k (A.ar2 r_slices_Equal_api_Event)
end Go.Proofs.Ytohbeolimnpehaa

namespace Go.Proofs.Ytohbeolimnpehaa
set_option linter.unusedSectionVars false
set_option linter.unusedSimpArgs false
set_option linter.unusedVariables false
set_option maxRecDepth 100000
noncomputable def r_word_Row (a0 : AV) (σ : Heap) : Option (AV × Heap) :=
 (A.lenZ a0).bind fun x1 =>
 (A.loop (fun v2 s3 =>
   (A.lss (v2.getD 1 AV.undef) x1).bind fun x5 =>
   A.cond x5 (
    (A.sidx a0 (v2.getD 1 AV.undef)).bind fun x6 =>
    (A.geq x6 (AV.int .u8 97)).bind fun x7 =>
    (A.guard x7 true (some x6) (some (AV.tup []))).bind fun x8 =>
    (A.guard x7 true (A.leq x8 (AV.int .u8 122)) (some (AV.tup []))).bind fun x9 =>
    (A.pick x7 x9 (AV.bool false)).bind fun x10 =>
    (A.guard x10 false (some x6) (some (AV.tup []))).bind fun x11 =>
    (A.guard x10 false (A.geq x11 (AV.int .u8 48)) (some (AV.tup []))).bind fun x12 =>
    (A.guard x10 false (some x12) (some (AV.tup []))).bind fun x13 =>
    (A.guard x13 true (some x6) (some (AV.tup []))).bind fun x14 =>
    (A.guard x13 true (A.leq x14 (AV.int .u8 57)) (some (AV.tup []))).bind fun x15 =>
    (A.guard x10 false (A.pick x13 x15 (AV.bool false)) (some (AV.tup []))).bind fun x16 =>
    (A.pick x10 (AV.bool true) x16).bind fun x17 =>
    (A.guard x17 false (some x6) (some (AV.tup []))).bind fun x18 =>
    (A.guard x17 false (A.eql .i x18 (AV.int .u8 45)) (some (AV.tup []))).bind fun x19 =>
    (A.pick x17 (AV.bool true) x19).bind fun x20 =>
    (A.not x20).bind fun x21 =>
    A.cond x21 (
     some (AX.ret, [(AV.bool false), (v2.getD 1 AV.undef)], s3)) (
     (A.add (v2.getD 1 AV.undef) (AV.int .i64 1)).bind fun x22 =>
     some (AX.normal, [(v2.getD 0 AV.undef), x22], s3))) (
    some (AX.exit 0, [(v2.getD 0 AV.undef), (v2.getD 1 AV.undef)], s3))) [(AV.bool false), (AV.int .i64 0)] σ).bind fun r23 =>
 bif r23.1 == AX.exit 0 then (
  (A.neq .z a0 (AV.str ⟨#[]⟩)).bind fun x24 =>
  A.fin σ x24 r23.2.2) else
 bif r23.1 == AX.ret then (
  A.fin σ (r23.2.1.getD 0 AV.undef) r23.2.2) else
 none
noncomputable def m_word_Row : List AV → Heap → Option (AV × Heap) := A.wrap true [] .k (A.ar1 r_word_Row)
noncomputable def r_word_Name (a0 : AV) (σ : Heap) : Option (AV × Heap) :=
 (m_word_Row [a0] σ).bind fun r1 =>
 (A.guard r1.1 true (some a0) (some (AV.tup []))).bind fun x2 =>
 (A.guard r1.1 true (A.lenZ x2) (some (AV.tup []))).bind fun x3 =>
 (A.guard r1.1 true (A.leq x3 (AV.int .i64 20)) (some (AV.tup []))).bind fun x4 =>
 (A.pick r1.1 x4 (AV.bool false)).bind fun x5 =>
 (A.guard x5 true (some a0) (some (AV.tup []))).bind fun x6 =>
 (A.guard x5 true (A.sidx x6 (AV.int .i64 0)) (some (AV.tup []))).bind fun x7 =>
 (A.guard x5 true (A.geq x7 (AV.int .u8 97)) (some (AV.tup []))).bind fun x8 =>
 (A.pick x5 x8 (AV.bool false)).bind fun x9 =>
 (A.guard x9 true (some a0) (some (AV.tup []))).bind fun x10 =>
 (A.guard x9 true (A.sidx x10 (AV.int .i64 0)) (some (AV.tup []))).bind fun x11 =>
 (A.guard x9 true (A.leq x11 (AV.int .u8 122)) (some (AV.tup []))).bind fun x12 =>
 (A.pick x9 x12 (AV.bool false)).bind fun x13 =>
 A.fin σ x13 r1.2
noncomputable def m_word_Name : List AV → Heap → Option (AV × Heap) := A.wrap true [] .k (A.ar1 r_word_Name)
noncomputable def r_word_Within (a0 a1 a2 : AV) (σ : Heap) : Option (AV × Heap) :=
 (A.geq a0 a1).bind fun x1 =>
 (A.guard x1 true (some a0) (some (AV.tup []))).bind fun x2 =>
 (A.guard x1 true (some a2) (some (AV.tup []))).bind fun x3 =>
 (A.guard x1 true (A.leq x2 x3) (some (AV.tup []))).bind fun x4 =>
 (A.pick x1 x4 (AV.bool false)).bind fun x5 =>
 A.fin σ x5 σ
noncomputable def m_word_Within : List AV → Heap → Option (AV × Heap) := A.wrap true [] .k (A.ar3 r_word_Within)
noncomputable def r_word_When (a0 a1 : AV) (σ : Heap) : Option (AV × Heap) :=
 A.cond a0 (
  A.fin σ a1 σ) (
  A.fin σ (AV.int .i64 0) σ)
noncomputable def m_word_When : List AV → Heap → Option (AV × Heap) := A.wrap true [] .k (A.ar2 r_word_When)
noncomputable def r_word_First (a0 : AV) (σ : Heap) : Option (AV × Heap) :=
 (A.lenS a0).bind fun x1 =>
 (A.loop (fun v2 s3 =>
   (A.lss (v2.getD 1 AV.undef) x1).bind fun x5 =>
   A.cond x5 (
    (A.iaddr 1 a0 (v2.getD 1 AV.undef)).bind fun x6 =>
    ((A.deref x6 s3).bind fun c7 => A.part1 0 c7).bind fun x8 =>
    (A.neq .i x8 (AV.int .i64 0)).bind fun x9 =>
    A.cond x9 (
     some (AX.ret, [x8, (v2.getD 1 AV.undef)], s3)) (
     (A.add (v2.getD 1 AV.undef) (AV.int .i64 1)).bind fun x10 =>
     some (AX.normal, [(v2.getD 0 AV.undef), x10], s3))) (
    some (AX.exit 0, [(v2.getD 0 AV.undef), (v2.getD 1 AV.undef)], s3))) [(AV.int .i64 0), (AV.int .i64 0)] σ).bind fun r11 =>
 bif r11.1 == AX.exit 0 then (
  A.fin σ (AV.int .i64 0) r11.2.2) else
 bif r11.1 == AX.ret then (
  A.fin σ (r11.2.1.getD 0 AV.undef) r11.2.2) else
 none
noncomputable def m_word_First : List AV → Heap → Option (AV × Heap) := A.wrap true [(.s 1)] .k (A.ar1 r_word_First)
noncomputable def r_word_Title (a0 : AV) (σ : Heap) : Option (AV × Heap) :=
 (A.lenZ a0).bind fun x1 =>
 (A.loop (fun v2 s3 =>
   (A.lss (v2.getD 1 AV.undef) x1).bind fun x5 =>
   A.cond x5 (
    (A.sidx a0 (v2.getD 1 AV.undef)).bind fun x6 =>
    (A.lss x6 (AV.int .u8 32)).bind fun x7 =>
    (A.guard x7 false (some a0) (some (AV.tup []))).bind fun x8 =>
    (A.guard x7 false (some (v2.getD 1 AV.undef)) (some (AV.tup []))).bind fun x9 =>
    (A.guard x7 false (A.sidx x8 x9) (some (AV.tup []))).bind fun x10 =>
    (A.guard x7 false (A.gtr x10 (AV.int .u8 126)) (some (AV.tup []))).bind fun x11 =>
    (A.pick x7 (AV.bool true) x11).bind fun x12 =>
    A.cond x12 (
     some (AX.ret, [(AV.bool false), (v2.getD 1 AV.undef)], s3)) (
     (A.add (v2.getD 1 AV.undef) (AV.int .i64 1)).bind fun x13 =>
     some (AX.normal, [(v2.getD 0 AV.undef), x13], s3))) (
    some (AX.exit 0, [(v2.getD 0 AV.undef), (v2.getD 1 AV.undef)], s3))) [(AV.bool false), (AV.int .i64 0)] σ).bind fun r14 =>
 bif r14.1 == AX.exit 0 then (
  (A.neq .z a0 (AV.str ⟨#[]⟩)).bind fun x15 =>
  (A.guard x15 true (some a0) (some (AV.tup []))).bind fun x16 =>
  (A.guard x15 true (A.lenZ x16) (some (AV.tup []))).bind fun x17 =>
  (A.guard x15 true (A.leq x17 (AV.int .i64 60)) (some (AV.tup []))).bind fun x18 =>
  (A.pick x15 x18 (AV.bool false)).bind fun x19 =>
  (A.guard x19 true (some a0) (some (AV.tup []))).bind fun x20 =>
  (A.guard x19 true (A.sidx x20 (AV.int .i64 0)) (some (AV.tup []))).bind fun x21 =>
  (A.guard x19 true (A.neq .i x21 (AV.int .u8 32)) (some (AV.tup []))).bind fun x22 =>
  (A.pick x19 x22 (AV.bool false)).bind fun x23 =>
  (A.guard x23 true (some a0) (some (AV.tup []))).bind fun x24 =>
  (A.guard x23 true (some a0) (some (AV.tup []))).bind fun x25 =>
  (A.guard x23 true (A.lenZ x25) (some (AV.tup []))).bind fun x26 =>
  (A.guard x23 true (A.sub x26 (AV.int .i64 1)) (some (AV.tup []))).bind fun x27 =>
  (A.guard x23 true (A.sidx x24 x27) (some (AV.tup []))).bind fun x28 =>
  (A.guard x23 true (A.neq .i x28 (AV.int .u8 32)) (some (AV.tup []))).bind fun x29 =>
  (A.pick x23 x29 (AV.bool false)).bind fun x30 =>
  A.fin σ x30 r14.2.2) else
 bif r14.1 == AX.ret then (
  A.fin σ (r14.2.1.getD 0 AV.undef) r14.2.2) else
 none
noncomputable def m_word_Title : List AV → Heap → Option (AV × Heap) := A.wrap true [] .k (A.ar1 r_word_Title)
end Go.Proofs.Ytohbeolimnpehaa

namespace Go.Proofs.Ytohbeolimnpehaa
set_option linter.unusedSectionVars false
set_option linter.unusedSimpArgs false
set_option linter.unusedVariables false
set_option maxRecDepth 100000
noncomputable def r_fixture_isLevel (a0 : AV) (σ : Heap) : Option (AV × Heap) :=
 (m_word_Within [a0, (AV.int .i64 0), (AV.int .i64 65535)] σ).bind fun r1 =>
 A.fin σ r1.1 r1.2
noncomputable def m_fixture_isLevel : List AV → Heap → Option (AV × Heap) := A.wrap true [] .k (A.ar1 r_fixture_isLevel)
noncomputable def r_fixture_checkRanges (a0 : AV) (σ : Heap) : Option (AV × Heap) :=
 (A.lenS a0).bind fun x1 =>
 (A.gtr x1 (AV.int .i64 30)).bind fun x2 =>
 A.cond x2 (
  A.fin σ (AV.int .i64 2) σ) (
  (A.lenS a0).bind fun x3 =>
  (A.loop (fun v4 s5 =>
    (A.lss (v4.getD 1 AV.undef) x3).bind fun x7 =>
    A.cond x7 (
     (A.iaddr 3 a0 (v4.getD 1 AV.undef)).bind fun x8 =>
     ((A.deref x8 s5).bind fun c9 => A.partA 0 3 c9).bind fun x10 =>
     (A.cells 3 x10).bind fun c11 =>
     (A.splice 0 c11 [(AV.int .i64 0), (AV.int .i64 0), (AV.str ⟨#[]⟩)]).bind fun c12 =>
     (A.part1 0 c12).bind fun x13 =>
     (m_fixture_isLevel [x13] s5).bind fun r14 =>
     (A.not r14.1).bind fun x15 =>
     (A.guard x15 false (A.part1 1 c12) (some (AV.tup []))).bind fun x16 =>
     (A.guard x15 false (A.quiet (m_fixture_isLevel [x16] r14.2) r14.2) (some (AV.tup []))).bind fun x17 =>
     (A.guard x15 false (A.not x17) (some (AV.tup []))).bind fun x18 =>
     (A.pick x15 (AV.bool true) x18).bind fun x19 =>
     (A.guard x19 false (A.part1 0 c12) (some (AV.tup []))).bind fun x20 =>
     (A.guard x19 false (A.part1 1 c12) (some (AV.tup []))).bind fun x21 =>
     (A.guard x19 false (A.gtr x20 x21) (some (AV.tup []))).bind fun x22 =>
     (A.pick x19 (AV.bool true) x22).bind fun x23 =>
     A.cond x23 (
      some (AX.ret, [(AV.int .i64 1), (v4.getD 1 AV.undef)], r14.2)) (
      (A.gtr (v4.getD 1 AV.undef) (AV.int .i64 0)).bind fun x24 =>
      (A.guard x24 true (A.part1 0 c12) (some (AV.tup []))).bind fun x25 =>
      (A.guard x24 true (some a0) (some (AV.tup []))).bind fun x26 =>
      (A.guard x24 true (some (v4.getD 1 AV.undef)) (some (AV.tup []))).bind fun x27 =>
      (A.guard x24 true (A.sub x27 (AV.int .i64 1)) (some (AV.tup []))).bind fun x28 =>
      (A.guard x24 true (A.iaddr 3 x26 x28) (some (AV.tup []))).bind fun x29 =>
      (A.guard x24 true (A.faddr 1 x29) (some (AV.tup []))).bind fun x30 =>
      (A.guard x24 true ((A.deref x30 r14.2).bind fun c31 => A.part1 0 c31) (some (AV.tup []))).bind fun x32 =>
      (A.guard x24 true (A.leq x25 x32) (some (AV.tup []))).bind fun x33 =>
      (A.pick x24 x33 (AV.bool false)).bind fun x34 =>
      A.cond x34 (
       some (AX.ret, [(AV.int .i64 7), (v4.getD 1 AV.undef)], r14.2)) (
       (A.part1 2 c12).bind fun x35 =>
       (m_word_Name [x35] r14.2).bind fun r36 =>
       (A.not r36.1).bind fun x37 =>
       A.cond x37 (
        some (AX.ret, [(AV.int .i64 5), (v4.getD 1 AV.undef)], r36.2)) (
        (A.part1 2 c12).bind fun x38 =>
        (A.look .z (AV.om σ.length) x38 (AV.bool false) r36.2).bind fun x39 =>
        A.cond x39 (
         some (AX.ret, [(AV.int .i64 6), (v4.getD 1 AV.undef)], r36.2)) (
         (A.part1 2 c12).bind fun x40 =>
         (A.mupd .z (AV.om σ.length) x40 (AV.bool true) r36.2).bind fun h41 =>
         (A.add (v4.getD 1 AV.undef) (AV.int .i64 1)).bind fun x42 =>
         some (AX.normal, [(v4.getD 0 AV.undef), x42], h41)))))) (
     some (AX.exit 0, [(v4.getD 0 AV.undef), (v4.getD 1 AV.undef)], s5))) [(AV.int .i64 0), (AV.int .i64 0)] (σ ++ [Blk.map []])).bind fun r43 =>
  bif r43.1 == AX.exit 0 then (
   A.fin σ (AV.int .i64 0) r43.2.2) else
  bif r43.1 == AX.ret then (
   A.fin σ (r43.2.1.getD 0 AV.undef) r43.2.2) else
  none)
noncomputable def m_fixture_checkRanges : List AV → Heap → Option (AV × Heap) := A.wrap true [(.s 3)] .k (A.ar1 r_fixture_checkRanges)
noncomputable def r_fixture_CheckProfile (a0 : AV) (σ : Heap) : Option (AV × Heap) :=
 (A.cells 3 a0).bind fun c1 =>
 (A.part1 0 c1).bind fun x2 =>
 (m_word_Name [x2] σ).bind fun r3 =>
 (A.not r3.1).bind fun x4 =>
 A.cond x4 (
  A.fin σ (AV.int .i64 5) r3.2) (
  (A.part1 1 c1).bind fun x5 =>
  (m_word_Within [x5, (AV.int .i64 1), (AV.int .i64 512)] r3.2).bind fun r6 =>
  (A.not r6.1).bind fun x7 =>
  A.cond x7 (
   A.fin σ (AV.int .i64 1) r6.2) (
   (A.part1 2 c1).bind fun x8 =>
   (A.lenS x8).bind fun x9 =>
   (A.eql .i x9 (AV.int .i64 0)).bind fun x10 =>
   A.cond x10 (
    A.fin σ (AV.int .i64 8) r6.2) (
    (A.part1 2 c1).bind fun x11 =>
    (A.lenS x11).bind fun x12 =>
    (A.gtr x12 (AV.int .i64 40)).bind fun x13 =>
    A.cond x13 (
     A.fin σ (AV.int .i64 2) r6.2) (
     (A.part1 2 c1).bind fun x14 =>
     (A.lenS x14).bind fun x15 =>
     (A.loop (fun v16 s17 =>
       (A.lss (v16.getD 2 AV.undef) x15).bind fun x19 =>
       A.cond x19 (
        (A.iaddr 7 x14 (v16.getD 2 AV.undef)).bind fun x20 =>
        ((A.deref x20 s17).bind fun c21 => A.partA 0 7 c21).bind fun x22 =>
        (A.cells 7 x22).bind fun c23 =>
        (A.splice 0 c23 [(AV.str ⟨#[]⟩), (AV.int .i64 0), (AV.int .i64 0), (AV.int .i64 0), (AV.int .i64 0), (AV.bool false), AV.nsl]).bind fun c24 =>
        (A.part1 0 c24).bind fun x25 =>
        (m_word_Name [x25] s17).bind fun r26 =>
        (A.not r26.1).bind fun x27 =>
        A.cond x27 (
         some (AX.ret, [(v16.getD 0 AV.undef), (AV.int .i64 5), (v16.getD 2 AV.undef)], r26.2)) (
         (A.part1 0 c24).bind fun x28 =>
         (A.look .z (AV.om r6.2.length) x28 (AV.bool false) r26.2).bind fun x29 =>
         A.cond x29 (
          some (AX.ret, [(v16.getD 0 AV.undef), (AV.int .i64 6), (v16.getD 2 AV.undef)], r26.2)) (
          (A.part1 1 c24).bind fun x30 =>
          (m_word_Within [x30, (AV.int .i64 1), (AV.int .i64 4)] r26.2).bind fun r31 =>
          (A.not r31.1).bind fun x32 =>
          A.cond x32 (
           some (AX.ret, [(v16.getD 0 AV.undef), (AV.int .i64 4), (v16.getD 2 AV.undef)], r31.2)) (
           (A.part1 2 c24).bind fun x33 =>
           ((A.lb (v16.getD 0 AV.undef)).bind fun _ => some (1)).bind fun p34 =>
           ((A.lb (v16.getD 0 AV.undef)).bind fun c35 => A.part1 p34 c35).bind fun x36 =>
           (m_word_Within [x33, (AV.int .i64 1), x36] r31.2).bind fun r37 =>
           (A.not r37.1).bind fun x38 =>
           (A.guard x38 false (A.part1 3 c24) (some (AV.tup []))).bind fun x39 =>
           ((A.lb (v16.getD 0 AV.undef)).bind fun _ => some (1)).bind fun p40 =>
                      (A.guard x38 false ((A.lb (v16.getD 0 AV.undef)).bind fun c41 => A.part1 p40 c41) (some (AV.tup []))).bind fun x42 =>
           (A.guard x38 false (A.quiet (m_word_Within [x39, (AV.int .i64 0), x42] r37.2) r37.2) (some (AV.tup []))).bind fun x43 =>
           (A.guard x38 false (A.not x43) (some (AV.tup []))).bind fun x44 =>
           (A.pick x38 (AV.bool true) x44).bind fun x45 =>
           (A.guard x45 false (A.part1 4 c24) (some (AV.tup []))).bind fun x46 =>
           (A.guard x45 false (A.quiet (m_fixture_isLevel [x46] r37.2) r37.2) (some (AV.tup []))).bind fun x47 =>
           (A.guard x45 false (A.not x47) (some (AV.tup []))).bind fun x48 =>
           (A.pick x45 (AV.bool true) x48).bind fun x49 =>
           A.cond x49 (
            some (AX.ret, [(v16.getD 0 AV.undef), (AV.int .i64 1), (v16.getD 2 AV.undef)], r37.2)) (
            (A.part1 2 c24).bind fun x50 =>
            (A.part1 3 c24).bind fun x51 =>
            (A.eql .i x50 x51).bind fun x52 =>
            (A.guard x52 false (some (AV.om (r6.2 ++ [Blk.map []]).length)) (some (AV.tup []))).bind fun x53 =>
            (A.guard x52 false (A.part1 2 c24) (some (AV.tup []))).bind fun x54 =>
            (A.guard x52 false (A.look .i x53 x54 (AV.bool false) r37.2) (some (AV.tup []))).bind fun x55 =>
            (A.pick x52 (AV.bool true) x55).bind fun x56 =>
            (A.guard x56 false (A.part1 3 c24) (some (AV.tup []))).bind fun x57 =>
            (A.guard x56 false (A.gtr x57 (AV.int .i64 0)) (some (AV.tup []))).bind fun x58 =>
            (A.guard x56 false (some x58) (some (AV.tup []))).bind fun x59 =>
            (A.guard x59 true (some (AV.om (r6.2 ++ [Blk.map []]).length)) (some (AV.tup []))).bind fun x60 =>
            (A.guard x59 true (A.part1 3 c24) (some (AV.tup []))).bind fun x61 =>
            (A.guard x59 true (A.look .i x60 x61 (AV.bool false) r37.2) (some (AV.tup []))).bind fun x62 =>
            (A.guard x56 false (A.pick x59 x62 (AV.bool false)) (some (AV.tup []))).bind fun x63 =>
            (A.pick x56 (AV.bool true) x63).bind fun x64 =>
            A.cond x64 (
             some (AX.ret, [(v16.getD 0 AV.undef), (AV.int .i64 12), (v16.getD 2 AV.undef)], r37.2)) (
             (A.part1 6 c24).bind fun x65 =>
             (m_fixture_checkRanges [x65] r37.2).bind fun r66 =>
             (A.neq .i r66.1 (AV.int .i64 0)).bind fun x67 =>
             A.cond x67 (
              some (AX.ret, [(v16.getD 0 AV.undef), r66.1, (v16.getD 2 AV.undef)], r66.2)) (
              (A.part1 0 c24).bind fun x68 =>
              (A.part1 2 c24).bind fun x69 =>
              (A.mupd .z (AV.om r6.2.length) x68 (AV.bool true) r66.2).bind fun h70 =>
              (A.mupd .i (AV.om (r6.2 ++ [Blk.map []]).length) x69 (AV.bool true) h70).bind fun h71 =>
              (A.part1 3 c24).bind fun x72 =>
              (A.gtr x72 (AV.int .i64 0)).bind fun x73 =>
              (A.cond x73 (
               (A.part1 3 c24).bind fun x75 =>
               (A.mupd .i (AV.om (r6.2 ++ [Blk.map []]).length) x75 (AV.bool true) h71).bind fun h76 =>
               some ([(v16.getD 0 AV.undef)], h76)) (
               some ([(v16.getD 0 AV.undef)], h71))).bind fun r74 =>
              (A.add (v16.getD 2 AV.undef) (AV.int .i64 1)).bind fun x77 =>
              some (AX.normal, [(r74.1.getD 0 AV.undef), (v16.getD 1 AV.undef), x77], r74.2)))))))) (
        some (AX.exit 1, [(v16.getD 0 AV.undef), (v16.getD 1 AV.undef), (v16.getD 2 AV.undef)], s17))) [(AV.lbx c1), (AV.int .i64 0), (AV.int .i64 0)] ((r6.2 ++ [Blk.map []]) ++ [Blk.map []])).bind fun r78 =>
     bif r78.1 == AX.exit 1 then (
      A.fin σ (AV.int .i64 0) r78.2.2) else
     bif r78.1 == AX.ret then (
      A.fin σ (r78.2.1.getD 1 AV.undef) r78.2.2) else
     none))))
noncomputable def m_fixture_CheckProfile : List AV → Heap → Option (AV × Heap) := A.wrap true [(.a [.k, .k, (.s 7)])] .k (A.ar1 r_fixture_CheckProfile)
noncomputable def r_fixture_CheckLibrary (a0 : AV) (σ : Heap) : Option (AV × Heap) :=
 (A.lenS a0).bind fun x1 =>
 (A.gtr x1 (AV.int .i64 60)).bind fun x2 =>
 A.cond x2 (
  A.fin σ (AV.int .i64 2) σ) (
  (A.lenS a0).bind fun x3 =>
  (A.loop (fun v4 s5 =>
    (A.lss (v4.getD 1 AV.undef) x3).bind fun x7 =>
    A.cond x7 (
     (A.iaddr 3 a0 (v4.getD 1 AV.undef)).bind fun x8 =>
     ((A.deref x8 s5).bind fun c9 => A.partA 0 3 c9).bind fun x10 =>
     (A.cells 3 x10).bind fun c11 =>
     (A.splice 0 c11 [(AV.str ⟨#[]⟩), (AV.int .i64 0), AV.nsl]).bind fun c12 =>
     (A.partA 0 3 c12).bind fun x13 =>
     (m_fixture_CheckProfile [x13] s5).bind fun r14 =>
     (A.neq .i r14.1 (AV.int .i64 0)).bind fun x15 =>
     A.cond x15 (
      some (AX.ret, [r14.1, (v4.getD 1 AV.undef)], r14.2)) (
      (A.part1 0 c12).bind fun x16 =>
      (A.look .z (AV.om σ.length) x16 (AV.bool false) r14.2).bind fun x17 =>
      A.cond x17 (
       some (AX.ret, [(AV.int .i64 6), (v4.getD 1 AV.undef)], r14.2)) (
       (A.part1 0 c12).bind fun x18 =>
       (A.mupd .z (AV.om σ.length) x18 (AV.bool true) r14.2).bind fun h19 =>
       (A.add (v4.getD 1 AV.undef) (AV.int .i64 1)).bind fun x20 =>
       some (AX.normal, [(v4.getD 0 AV.undef), x20], h19)))) (
     some (AX.exit 0, [(v4.getD 0 AV.undef), (v4.getD 1 AV.undef)], s5))) [(AV.int .i64 0), (AV.int .i64 0)] (σ ++ [Blk.map []])).bind fun r21 =>
  bif r21.1 == AX.exit 0 then (
   A.fin σ (AV.int .i64 0) r21.2.2) else
  bif r21.1 == AX.ret then (
   A.fin σ (r21.2.1.getD 0 AV.undef) r21.2.2) else
  none)
noncomputable def m_fixture_CheckLibrary : List AV → Heap → Option (AV × Heap) := A.wrap true [(.s 3)] .k (A.ar1 r_fixture_CheckLibrary)
noncomputable def r_fixture_profile_fn1 (a0 a1 : AV) (σ : Heap) : Option (AV × Heap) :=
 (A.cells 3 a0).bind fun c1 =>
 (A.part1 0 c1).bind fun x2 =>
 ((A.deref a1 σ).bind fun c3 => A.part1 0 c3).bind fun x4 =>
 (A.eql .z x2 x4).bind fun x5 =>
 A.fin σ x5 σ
noncomputable def m_fixture_profile_fn1 : List AV → Heap → Option (AV × Heap) := A.wrap true [(.a [.k, .k, (.s 7)])] .k (A.ar2 r_fixture_profile_fn1)
noncomputable def r_fixture_profile (a0 a1 : AV) (σ : Heap) : Option (AV × Heap) :=
 (((A.cell a1).bind fun v => some [v]).bind fun cs => some (AV.rp cs)).bind fun x1 =>
 (m_slices_IndexFunc_api_Profile (A.tab (fun _ _ => none) [(64, m_fixture_profile_fn1), (64, m_fixture_profile_fn1)]) [a0, (AV.fn 64 [x1])] σ).bind fun r2 =>
 (A.lss r2.1 (AV.int .i64 0)).bind fun x3 =>
 A.cond x3 (
  (A.cells 3 (AV.agg [(AV.str ⟨#[]⟩), (AV.int .i64 0), AV.nsl])).bind fun c4 =>
  (A.splice 0 c4 [(AV.str ⟨#[]⟩), (AV.int .i64 0), AV.nsl]).bind fun c5 =>
  (A.partA 0 3 c5).bind fun x6 =>
  A.fin σ (AV.tup [x6, (AV.bool false)]) r2.2) (
  (A.iaddr 3 a0 r2.1).bind fun x7 =>
  ((A.deref x7 r2.2).bind fun c8 => A.partA 0 3 c8).bind fun x9 =>
  (A.cells 3 x9).bind fun c10 =>
  (A.splice 0 c10 [(AV.str ⟨#[]⟩), (AV.int .i64 0), AV.nsl]).bind fun c11 =>
  (A.partA 0 3 c11).bind fun x12 =>
  A.fin σ (AV.tup [x12, (AV.bool true)]) r2.2)
noncomputable def m_fixture_profile : List AV → Heap → Option (AV × Heap) := A.wrap true [(.s 3)] (.t [(.a [.k, .k, (.e 7 [.k, .k, .k, .k, .k, .k, (.s 3)])]), .k]) (A.ar2 r_fixture_profile)
noncomputable def r_fixture_slots_free (a0 a1 a2 : AV) (σ : Heap) : Option (AV × Heap) :=
 (A.eql .p a0 AV.np).bind fun x1 =>
 A.cond x1 (
  (A.add a1 a2).bind fun x2 =>
  (A.sub x2 (AV.int .i64 1)).bind fun x3 =>
  (A.leq x3 (AV.int .i64 512)).bind fun x4 =>
  A.fin σ x4 σ) (
  (A.loop (fun v5 s6 =>
    (A.add a1 a2).bind fun x8 =>
    (A.lss (v5.getD 1 AV.undef) x8).bind fun x9 =>
    A.cond x9 (
     (A.gtr (v5.getD 1 AV.undef) (AV.int .i64 512)).bind fun x10 =>
     (A.guard x10 false (some a0) (some (AV.tup []))).bind fun x11 =>
     (A.guard x10 false (some (v5.getD 1 AV.undef)) (some (AV.tup []))).bind fun x12 =>
     (A.guard x10 false (A.nilck x11) (some (AV.tup []))).bind fun x13 =>
     (A.guard x10 false (A.aaddr 513 1 x13 x12) (some (AV.tup []))).bind fun x14 =>
     (A.guard x10 false ((A.deref x14 s6).bind fun c15 => A.part1 0 c15) (some (AV.tup []))).bind fun x16 =>
     (A.pick x10 (AV.bool true) x16).bind fun x17 =>
     A.cond x17 (
      some (AX.ret, [(AV.bool false), (v5.getD 1 AV.undef)], s6)) (
      (A.add (v5.getD 1 AV.undef) (AV.int .i64 1)).bind fun x18 =>
      some (AX.normal, [(v5.getD 0 AV.undef), x18], s6))) (
     some (AX.exit 0, [(v5.getD 0 AV.undef), (v5.getD 1 AV.undef)], s6))) [(AV.bool false), a1] σ).bind fun r19 =>
  bif r19.1 == AX.exit 0 then (
   A.fin σ (AV.bool true) r19.2.2) else
  bif r19.1 == AX.ret then (
   A.fin σ (r19.2.1.getD 0 AV.undef) r19.2.2) else
  none)
noncomputable def m_fixture_slots_free : List AV → Heap → Option (AV × Heap) := A.wrap true [] .k (A.ar3 r_fixture_slots_free)
noncomputable def r_fixture_take (a0 a1 a2 : AV) (σ : Heap) : Option (AV × Heap) :=
 (A.cells 4 a1).bind fun c1 =>
 (A.part1 2 c1).bind fun x2 =>
 (A.look .i a0 x2 AV.np σ).bind fun x3 =>
 (A.eql .p x3 AV.np).bind fun x4 =>
 (A.cond x4 (
  (A.part1 2 c1).bind fun x6 =>
  (A.mupd .i a0 x6 (AV.op σ.length 0) (σ ++ [Blk.box (List.replicate 513 (AV.bool false))])).bind fun h7 =>
  some ([(AV.lbx c1)], h7)) (
  some ([(AV.lbx c1)], σ))).bind fun r5 =>
 ((A.lb (r5.1.getD 0 AV.undef)).bind fun _ => some (3)).bind fun p8 =>
 ((A.lb (r5.1.getD 0 AV.undef)).bind fun c9 => A.part1 p8 c9).bind fun x10 =>
 (A.loop (fun v11 s12 =>
   ((A.lb (v11.getD 0 AV.undef)).bind fun _ => some (3)).bind fun p14 =>
   ((A.lb (v11.getD 0 AV.undef)).bind fun c15 => A.part1 p14 c15).bind fun x16 =>
   (A.add x16 a2).bind fun x17 =>
   (A.lss (v11.getD 1 AV.undef) x17).bind fun x18 =>
   A.cond x18 (
    ((A.lb (v11.getD 0 AV.undef)).bind fun _ => some (2)).bind fun p19 =>
    ((A.lb (v11.getD 0 AV.undef)).bind fun c20 => A.part1 p19 c20).bind fun x21 =>
    (A.look .i a0 x21 AV.np s12).bind fun x22 =>
    (A.nilck x22).bind fun x23 =>
    (A.aaddr 513 1 x23 (v11.getD 1 AV.undef)).bind fun x24 =>
    ((A.cell (AV.bool true)).bind fun v => some [v]).bind fun c25 =>
    (A.storeAt x24 c25 s12).bind fun c26 =>
    (A.add (v11.getD 1 AV.undef) (AV.int .i64 1)).bind fun x27 =>
    some (AX.normal, [(v11.getD 0 AV.undef), x27], c26)) (
    some (AX.exit 0, [(v11.getD 0 AV.undef), (v11.getD 1 AV.undef)], s12))) [(r5.1.getD 0 AV.undef), x10] r5.2).bind fun r28 =>
 bif r28.1 == AX.exit 0 then (
  some ((AV.tup []), r28.2.2)) else
 none
noncomputable def m_fixture_take : List AV → Heap → Option (AV × Heap) := A.wrap false [] .k (A.ar3 r_fixture_take)
noncomputable def r_fixture_CheckRig (a0 : AV) (σ : Heap) : Option (AV × Heap) :=
 (A.cells 2 a0).bind fun c1 =>
 (A.part1 0 c1).bind fun x2 =>
 (m_fixture_CheckLibrary [x2] σ).bind fun r3 =>
 (A.neq .i r3.1 (AV.int .i64 0)).bind fun x4 =>
 A.cond x4 (
  A.fin σ r3.1 r3.2) (
  (A.part1 1 c1).bind fun x5 =>
  (A.lenS x5).bind fun x6 =>
  (A.gtr x6 (AV.int .i64 400)).bind fun x7 =>
  A.cond x7 (
   A.fin σ (AV.int .i64 2) r3.2) (
   (A.part1 1 c1).bind fun x8 =>
   (A.lenS x8).bind fun x9 =>
   (A.loop (fun v10 s11 =>
     (A.lss (v10.getD 2 AV.undef) x9).bind fun x13 =>
     A.cond x13 (
      (A.iaddr 4 x8 (v10.getD 2 AV.undef)).bind fun x14 =>
      ((A.deref x14 s11).bind fun c15 => A.partA 0 4 c15).bind fun x16 =>
      (A.cells 4 x16).bind fun c17 =>
      (A.splice 0 c17 [(AV.int .i64 0), (AV.str ⟨#[]⟩), (AV.int .i64 0), (AV.int .i64 0)]).bind fun c18 =>
      (A.part1 0 c18).bind fun x19 =>
      (m_word_Within [x19, (AV.int .i64 1), (AV.int .i64 9999)] s11).bind fun r20 =>
      (A.not r20.1).bind fun x21 =>
      A.cond x21 (
       some (AX.ret, [(v10.getD 0 AV.undef), (AV.int .i64 1), (v10.getD 2 AV.undef)], r20.2)) (
       (A.gtr (v10.getD 2 AV.undef) (AV.int .i64 0)).bind fun x22 =>
       (A.guard x22 true (A.part1 0 c18) (some (AV.tup []))).bind fun x23 =>
       ((A.lb (v10.getD 0 AV.undef)).bind fun _ => some (1)).bind fun p24 =>
              (A.guard x22 true ((A.lb (v10.getD 0 AV.undef)).bind fun c25 => A.part1 p24 c25) (some (AV.tup []))).bind fun x26 =>
       (A.guard x22 true (some (v10.getD 2 AV.undef)) (some (AV.tup []))).bind fun x27 =>
       (A.guard x22 true (A.sub x27 (AV.int .i64 1)) (some (AV.tup []))).bind fun x28 =>
       (A.guard x22 true (A.iaddr 4 x26 x28) (some (AV.tup []))).bind fun x29 =>
       (A.guard x22 true (A.faddr 0 x29) (some (AV.tup []))).bind fun x30 =>
       (A.guard x22 true ((A.deref x30 r20.2).bind fun c31 => A.part1 0 c31) (some (AV.tup []))).bind fun x32 =>
       (A.guard x22 true (A.leq x23 x32) (some (AV.tup []))).bind fun x33 =>
       (A.pick x22 x33 (AV.bool false)).bind fun x34 =>
       A.cond x34 (
        some (AX.ret, [(v10.getD 0 AV.undef), (AV.int .i64 7), (v10.getD 2 AV.undef)], r20.2)) (
        ((A.lb (v10.getD 0 AV.undef)).bind fun _ => some (0)).bind fun p35 =>
        ((A.lb (v10.getD 0 AV.undef)).bind fun c36 => A.part1 p35 c36).bind fun x37 =>
        (A.part1 1 c18).bind fun x38 =>
        (m_fixture_profile [x37, x38] r20.2).bind fun r39 =>
        (A.ext 0 r39.1).bind fun x40 =>
        (A.ext 1 r39.1).bind fun x41 =>
        (A.cells 3 x40).bind fun c42 =>
        (A.splice 0 c42 [(AV.str ⟨#[]⟩), (AV.int .i64 0), AV.nsl]).bind fun c43 =>
        (A.not x41).bind fun x44 =>
        A.cond x44 (
         some (AX.ret, [(v10.getD 0 AV.undef), (AV.int .i64 5), (v10.getD 2 AV.undef)], r39.2)) (
         (A.part1 2 c18).bind fun x45 =>
         (m_word_Within [x45, (AV.int .i64 1), (AV.int .i64 64)] r39.2).bind fun r46 =>
         (A.not r46.1).bind fun x47 =>
         (A.guard x47 false (A.part1 3 c18) (some (AV.tup []))).bind fun x48 =>
         (A.guard x47 false (A.quiet (m_word_Within [x48, (AV.int .i64 1), (AV.int .i64 512)] r46.2) r46.2) (some (AV.tup []))).bind fun x49 =>
         (A.guard x47 false (A.not x49) (some (AV.tup []))).bind fun x50 =>
         (A.pick x47 (AV.bool true) x50).bind fun x51 =>
         (A.guard x51 false (A.part1 3 c18) (some (AV.tup []))).bind fun x52 =>
         (A.guard x51 false (A.part1 1 c43) (some (AV.tup []))).bind fun x53 =>
         (A.guard x51 false (A.add x52 x53) (some (AV.tup []))).bind fun x54 =>
         (A.guard x51 false (A.sub x54 (AV.int .i64 1)) (some (AV.tup []))).bind fun x55 =>
         (A.guard x51 false (A.gtr x55 (AV.int .i64 512)) (some (AV.tup []))).bind fun x56 =>
         (A.pick x51 (AV.bool true) x56).bind fun x57 =>
         A.cond x57 (
          some (AX.ret, [(v10.getD 0 AV.undef), (AV.int .i64 1), (v10.getD 2 AV.undef)], r46.2)) (
          (A.part1 2 c18).bind fun x58 =>
          (A.look .i (AV.om r3.2.length) x58 AV.np r46.2).bind fun x59 =>
          (A.part1 3 c18).bind fun x60 =>
          (A.part1 1 c43).bind fun x61 =>
          (m_fixture_slots_free [x59, x60, x61] r46.2).bind fun r62 =>
          (A.not r62.1).bind fun x63 =>
          A.cond x63 (
           some (AX.ret, [(v10.getD 0 AV.undef), (AV.int .i64 12), (v10.getD 2 AV.undef)], r62.2)) (
           (A.partA 0 4 c18).bind fun x64 =>
           (A.part1 1 c43).bind fun x65 =>
           (m_fixture_take [(AV.om r3.2.length), x64, x65] r62.2).bind fun r66 =>
           (A.add (v10.getD 2 AV.undef) (AV.int .i64 1)).bind fun x67 =>
           some (AX.normal, [(v10.getD 0 AV.undef), (v10.getD 1 AV.undef), x67], r66.2))))))) (
      some (AX.exit 0, [(v10.getD 0 AV.undef), (v10.getD 1 AV.undef), (v10.getD 2 AV.undef)], s11))) [(AV.lbx c1), (AV.int .i64 0), (AV.int .i64 0)] (r3.2 ++ [Blk.map []])).bind fun r68 =>
   bif r68.1 == AX.exit 0 then (
    A.fin σ (AV.int .i64 0) r68.2.2) else
   bif r68.1 == AX.ret then (
    A.fin σ (r68.2.1.getD 1 AV.undef) r68.2.2) else
   none))
noncomputable def m_fixture_CheckRig : List AV → Heap → Option (AV × Heap) := A.wrap true [(.a [(.s 3), (.s 4)])] .k (A.ar1 r_fixture_CheckRig)
noncomputable def r_fixture_Keys (a0 : AV) (σ : Heap) : Option (AV × Heap) :=
 (A.cells 2 a0).bind fun c1 =>
 (A.partA 0 2 c1).bind fun x2 =>
 (m_fixture_CheckRig [x2] σ).bind fun r3 =>
 (A.neq .i r3.1 (AV.int .i64 0)).bind fun x4 =>
 A.cond x4 (
  A.fin σ (AV.tup [AV.nsl, r3.1]) r3.2) (
  (A.part1 1 c1).bind fun x5 =>
  (A.lenS x5).bind fun x6 =>
  (A.loop (fun v7 s8 =>
    (A.lss (v7.getD 2 AV.undef) x6).bind fun x10 =>
    A.cond x10 (
     (A.iaddr 4 x5 (v7.getD 2 AV.undef)).bind fun x11 =>
     ((A.deref x11 s8).bind fun c12 => A.partA 0 4 c12).bind fun x13 =>
     (A.cells 4 x13).bind fun c14 =>
     (A.splice 0 c14 [(AV.int .i64 0), (AV.str ⟨#[]⟩), (AV.int .i64 0), (AV.int .i64 0)]).bind fun c15 =>
     ((A.lb (v7.getD 0 AV.undef)).bind fun _ => some (0)).bind fun p16 =>
     ((A.lb (v7.getD 0 AV.undef)).bind fun c17 => A.part1 p16 c17).bind fun x18 =>
     (A.part1 1 c15).bind fun x19 =>
     (m_fixture_profile [x18, x19] s8).bind fun r20 =>
     (A.ext 0 r20.1).bind fun x21 =>
     (A.ext 1 r20.1).bind fun x22 =>
     (A.cells 3 x21).bind fun c23 =>
     (A.splice 0 c23 [(AV.str ⟨#[]⟩), (AV.int .i64 0), AV.nsl]).bind fun c24 =>
     (A.part1 2 c24).bind fun x25 =>
     (A.lenS x25).bind fun x26 =>
     (A.loop (fun v27 s28 =>
       (A.lss (v27.getD 3 AV.undef) x26).bind fun x30 =>
       A.cond x30 (
        (A.iaddr 7 x25 (v27.getD 3 AV.undef)).bind fun x31 =>
        ((A.deref x31 s28).bind fun c32 => A.partA 0 7 c32).bind fun x33 =>
        (A.cells 7 x33).bind fun c34 =>
        (A.splice 0 c34 [(AV.str ⟨#[]⟩), (AV.int .i64 0), (AV.int .i64 0), (AV.int .i64 0), (AV.int .i64 0), (AV.bool false), AV.nsl]).bind fun c35 =>
        ((A.lb (v27.getD 2 AV.undef)).bind fun _ => some (0)).bind fun p36 =>
        ((A.lb (v27.getD 2 AV.undef)).bind fun c37 => A.part1 p36 c37).bind fun x38 =>
        (A.part1 0 c35).bind fun x39 =>
        ((((A.cell x38).bind fun v => some [v]).bind fun c40 => (A.splice 0 c40 [(AV.int .i64 0), (AV.str ⟨#[]⟩)]).bind fun c41 => ((A.cell x39).bind fun v => some [v]).bind fun c42 => (A.splice 1 c42 c41).bind fun c43 => some c43).bind fun cs => some (AV.agg cs)).bind fun x44 =>
        (((A.cells 2 x44).bind fun c45 => (A.splice 0 c45 [(AV.int .i64 0), (AV.str ⟨#[]⟩)]).bind fun c46 => some c46).bind fun cs => some (AV.sl 2 (chunks 2 1 cs))).bind fun x47 =>
        (A.append 2 (140737488355328 / 24) (v27.getD 1 AV.undef) x47 s28).bind fun r48 =>
        (A.add (v27.getD 3 AV.undef) (AV.int .i64 1)).bind fun x49 =>
        some (AX.normal, [(v27.getD 0 AV.undef), r48.1, (v27.getD 2 AV.undef), x49], r48.2)) (
        some (AX.exit 2, [(v27.getD 0 AV.undef), (v27.getD 1 AV.undef), (v27.getD 2 AV.undef), (v27.getD 3 AV.undef)], s28))) [(v7.getD 0 AV.undef), (v7.getD 1 AV.undef), (AV.lbx c15), (AV.int .i64 0)] r20.2).bind fun r50 =>
     bif r50.1 == AX.exit 2 then (
      (A.add (v7.getD 2 AV.undef) (AV.int .i64 1)).bind fun x51 =>
      some (AX.normal, [(r50.2.1.getD 0 AV.undef), (r50.2.1.getD 1 AV.undef), x51], r50.2.2)) else
     none) (
     some (AX.exit 0, [(v7.getD 0 AV.undef), (v7.getD 1 AV.undef), (v7.getD 2 AV.undef)], s8))) [(AV.lbx c1), AV.nsl, (AV.int .i64 0)] r3.2).bind fun r52 =>
  bif r52.1 == AX.exit 0 then (
   A.fin σ (AV.tup [(r52.2.1.getD 1 AV.undef), (AV.int .i64 0)]) r52.2.2) else
  none)
noncomputable def m_fixture_Keys : List AV → Heap → Option (AV × Heap) := A.wrap true [(.a [(.s 3), (.s 4)])] (.t [(.s 2), .k]) (A.ar1 r_fixture_Keys)
end Go.Proofs.Ytohbeolimnpehaa

namespace Go.Proofs.Ytohbeolimnpehaa
set_option linter.unusedSectionVars false
set_option linter.unusedSimpArgs false
set_option linter.unusedVariables false
set_option maxRecDepth 100000
noncomputable def r_level_CheckCurve (a0 : AV) (σ : Heap) : Option (AV × Heap) :=
 (A.cells 2 a0).bind fun c1 =>
 (A.part1 0 c1).bind fun x2 =>
 (m_word_Within [x2, (AV.int .i64 1), (AV.int .i64 6)] σ).bind fun r3 =>
 (A.not r3.1).bind fun x4 =>
 A.cond x4 (
  A.fin σ (AV.int .i64 4) r3.2) (
  (A.part1 1 c1).bind fun x5 =>
  (A.part1 0 c1).bind fun x6 =>
  (A.neq .i x6 (AV.int .i64 6)).bind fun x7 =>
  A.cond x7 (
   (A.lenS x5).bind fun x8 =>
   (A.gtr x8 (AV.int .i64 0)).bind fun x9 =>
   (m_word_When [x9, (AV.int .i64 3)] r3.2).bind fun r10 =>
   A.fin σ r10.1 r10.2) (
   (A.lenS x5).bind fun x11 =>
   (A.lss x11 (AV.int .i64 2)).bind fun x12 =>
   A.cond x12 (
    A.fin σ (AV.int .i64 8) r3.2) (
    (A.lenS x5).bind fun x13 =>
    (A.gtr x13 (AV.int .i64 20)).bind fun x14 =>
    A.cond x14 (
     A.fin σ (AV.int .i64 2) r3.2) (
     (A.lenS x5).bind fun x15 =>
     (A.loop (fun v16 s17 =>
       (A.lss (v16.getD 1 AV.undef) x15).bind fun x19 =>
       A.cond x19 (
        (A.iaddr 2 x5 (v16.getD 1 AV.undef)).bind fun x20 =>
        ((A.deref x20 s17).bind fun c21 => A.partA 0 2 c21).bind fun x22 =>
        (A.cells 2 x22).bind fun c23 =>
        (A.splice 0 c23 [(AV.int .i64 0), (AV.int .i64 0)]).bind fun c24 =>
        (A.part1 0 c24).bind fun x25 =>
        (m_word_Within [x25, (AV.int .i64 0), (AV.int .i64 1000)] s17).bind fun r26 =>
        (A.not r26.1).bind fun x27 =>
        (A.guard x27 false (A.part1 1 c24) (some (AV.tup []))).bind fun x28 =>
        (A.guard x27 false (A.quiet (m_word_Within [x28, (AV.int .i64 0), (AV.int .i64 1000)] r26.2) r26.2) (some (AV.tup []))).bind fun x29 =>
        (A.guard x27 false (A.not x29) (some (AV.tup []))).bind fun x30 =>
        (A.pick x27 (AV.bool true) x30).bind fun x31 =>
        A.cond x31 (
         some (AX.ret, [(AV.int .i64 1), (v16.getD 1 AV.undef)], r26.2)) (
         (A.add (v16.getD 1 AV.undef) (AV.int .i64 1)).bind fun x32 =>
         some (AX.normal, [(v16.getD 0 AV.undef), x32], r26.2))) (
        some (AX.exit 0, [(v16.getD 0 AV.undef), (v16.getD 1 AV.undef)], s17))) [(AV.int .i64 0), (AV.int .i64 0)] r3.2).bind fun r33 =>
     bif r33.1 == AX.exit 0 then (
      (A.iaddr 2 x5 (AV.int .i64 0)).bind fun x34 =>
      ((A.deref x34 r33.2.2).bind fun c35 => A.partA 0 2 c35).bind fun x36 =>
      (A.neq (.s [0, 0]) x36 (AV.agg [(AV.int .i64 0), (AV.int .i64 0)])).bind fun x37 =>
      (A.guard x37 false (some x5) (some (AV.tup []))).bind fun x38 =>
      (A.guard x37 false (some x5) (some (AV.tup []))).bind fun x39 =>
      (A.guard x37 false (A.lenS x39) (some (AV.tup []))).bind fun x40 =>
      (A.guard x37 false (A.sub x40 (AV.int .i64 1)) (some (AV.tup []))).bind fun x41 =>
      (A.guard x37 false (A.iaddr 2 x38 x41) (some (AV.tup []))).bind fun x42 =>
      (A.guard x37 false ((A.deref x42 r33.2.2).bind fun c43 => A.partA 0 2 c43) (some (AV.tup []))).bind fun x44 =>
      (A.guard x37 false ((((A.cell (AV.int .i64 1000)).bind fun v => some [v]).bind fun c45 => (A.splice 0 c45 [(AV.int .i64 0), (AV.int .i64 0)]).bind fun c46 => ((A.cell (AV.int .i64 1000)).bind fun v => some [v]).bind fun c47 => (A.splice 1 c47 c46).bind fun c48 => some c48).bind fun cs => some (AV.agg cs)) (some (AV.tup []))).bind fun x49 =>
      (A.guard x37 false (A.neq (.s [0, 0]) x44 x49) (some (AV.tup []))).bind fun x50 =>
      (A.pick x37 (AV.bool true) x50).bind fun x51 =>
      A.cond x51 (
       A.fin σ (AV.int .i64 3) r33.2.2) (
       (A.loop (fun v52 s53 =>
         (A.lenS x5).bind fun x55 =>
         (A.lss (v52.getD 1 AV.undef) x55).bind fun x56 =>
         A.cond x56 (
          (A.iaddr 2 x5 (v52.getD 1 AV.undef)).bind fun x57 =>
          (A.faddr 0 x57).bind fun x58 =>
          ((A.deref x58 s53).bind fun c59 => A.part1 0 c59).bind fun x60 =>
          (A.sub (v52.getD 1 AV.undef) (AV.int .i64 1)).bind fun x61 =>
          (A.iaddr 2 x5 x61).bind fun x62 =>
          (A.faddr 0 x62).bind fun x63 =>
          ((A.deref x63 s53).bind fun c64 => A.part1 0 c64).bind fun x65 =>
          (A.leq x60 x65).bind fun x66 =>
          (A.guard x66 false (some x5) (some (AV.tup []))).bind fun x67 =>
          (A.guard x66 false (some (v52.getD 1 AV.undef)) (some (AV.tup []))).bind fun x68 =>
          (A.guard x66 false (A.iaddr 2 x67 x68) (some (AV.tup []))).bind fun x69 =>
          (A.guard x66 false (A.faddr 1 x69) (some (AV.tup []))).bind fun x70 =>
          (A.guard x66 false ((A.deref x70 s53).bind fun c71 => A.part1 0 c71) (some (AV.tup []))).bind fun x72 =>
          (A.guard x66 false (some x5) (some (AV.tup []))).bind fun x73 =>
          (A.guard x66 false (some (v52.getD 1 AV.undef)) (some (AV.tup []))).bind fun x74 =>
          (A.guard x66 false (A.sub x74 (AV.int .i64 1)) (some (AV.tup []))).bind fun x75 =>
          (A.guard x66 false (A.iaddr 2 x73 x75) (some (AV.tup []))).bind fun x76 =>
          (A.guard x66 false (A.faddr 1 x76) (some (AV.tup []))).bind fun x77 =>
          (A.guard x66 false ((A.deref x77 s53).bind fun c78 => A.part1 0 c78) (some (AV.tup []))).bind fun x79 =>
          (A.guard x66 false (A.lss x72 x79) (some (AV.tup []))).bind fun x80 =>
          (A.pick x66 (AV.bool true) x80).bind fun x81 =>
          A.cond x81 (
           some (AX.ret, [(AV.int .i64 7), (v52.getD 1 AV.undef)], s53)) (
           (A.add (v52.getD 1 AV.undef) (AV.int .i64 1)).bind fun x82 =>
           some (AX.normal, [(v52.getD 0 AV.undef), x82], s53))) (
          some (AX.exit 2, [(v52.getD 0 AV.undef), (v52.getD 1 AV.undef)], s53))) [(r33.2.1.getD 0 AV.undef), (AV.int .i64 1)] r33.2.2).bind fun r83 =>
       bif r83.1 == AX.exit 2 then (
        A.fin σ (AV.int .i64 0) r83.2.2) else
       bif r83.1 == AX.ret then (
        A.fin σ (r83.2.1.getD 0 AV.undef) r83.2.2) else
       none)) else
     bif r33.1 == AX.ret then (
      A.fin σ (r33.2.1.getD 0 AV.undef) r33.2.2) else
     none))))
noncomputable def m_level_CheckCurve : List AV → Heap → Option (AV × Heap) := A.wrap true [(.a [.k, (.s 2)])] .k (A.ar1 r_level_CheckCurve)
end Go.Proofs.Ytohbeolimnpehaa

namespace Go.Proofs.Ytohbeolimnpehaa
set_option linter.unusedSectionVars false
set_option linter.unusedSimpArgs false
set_option linter.unusedVariables false
set_option maxRecDepth 100000
noncomputable def r_pick_keys (a0 : AV) (σ : Heap) : Option (AV × Heap) :=
 (A.cells 2 a0).bind fun c1 =>
 (A.partA 0 2 c1).bind fun x2 =>
 (m_fixture_Keys [x2] σ).bind fun r3 =>
 (A.ext 0 r3.1).bind fun x4 =>
 (A.ext 1 r3.1).bind fun x5 =>
 (A.lenS x4).bind fun x6 =>
 (A.loop (fun v7 s8 =>
   (A.lss (v7.getD 0 AV.undef) x6).bind fun x10 =>
   A.cond x10 (
    (A.iaddr 2 x4 (v7.getD 0 AV.undef)).bind fun x11 =>
    ((A.deref x11 s8).bind fun c12 => A.partA 0 2 c12).bind fun x13 =>
    (A.cells 2 x13).bind fun c14 =>
    (A.splice 0 c14 [(AV.int .i64 0), (AV.str ⟨#[]⟩)]).bind fun c15 =>
    (A.partA 0 2 c15).bind fun x16 =>
    (A.mupd (.s [0, 2]) (AV.om r3.2.length) x16 (AV.bool true) s8).bind fun h17 =>
    (A.add (v7.getD 0 AV.undef) (AV.int .i64 1)).bind fun x18 =>
    some (AX.normal, [x18], h17)) (
    some (AX.exit 0, [(v7.getD 0 AV.undef)], s8))) [(AV.int .i64 0)] (r3.2 ++ [Blk.map []])).bind fun r19 =>
 bif r19.1 == AX.exit 0 then (
  A.fin σ (AV.om r3.2.length) r19.2.2) else
 none
noncomputable def m_pick_keys : List AV → Heap → Option (AV × Heap) := A.wrap true [(.a [(.s 3), (.s 4)])] .k (A.ar1 r_pick_keys)
noncomputable def r_pick_blank (a0 : AV) (σ : Heap) : Option (AV × Heap) :=
 (A.eql .z a0 (AV.str ⟨#[]⟩)).bind fun x1 =>
 (A.guard x1 false (some a0) (some (AV.tup []))).bind fun x2 =>
 (A.guard x1 false (A.quiet (m_word_Title [x2] σ) σ) (some (AV.tup []))).bind fun x3 =>
 (A.pick x1 (AV.bool true) x3).bind fun x4 =>
 A.fin σ x4 σ
noncomputable def m_pick_blank : List AV → Heap → Option (AV × Heap) := A.wrap true [] .k (A.ar1 r_pick_blank)
noncomputable def r_pick_isLevel (a0 : AV) (σ : Heap) : Option (AV × Heap) :=
 (m_word_Within [a0, (AV.int .i64 0), (AV.int .i64 65535)] σ).bind fun r1 =>
 A.fin σ r1.1 r1.2
noncomputable def m_pick_isLevel : List AV → Heap → Option (AV × Heap) := A.wrap true [] .k (A.ar1 r_pick_isLevel)
noncomputable def r_pick_before (a0 a1 : AV) (σ : Heap) : Option (AV × Heap) :=
 (A.cells 2 a0).bind fun c1 =>
 (A.cells 2 a1).bind fun c2 =>
 (A.part1 0 c1).bind fun x3 =>
 (A.part1 0 c2).bind fun x4 =>
 (A.neq .i x3 x4).bind fun x5 =>
 A.cond x5 (
  (A.part1 0 c1).bind fun x6 =>
  (A.part1 0 c2).bind fun x7 =>
  (A.lss x6 x7).bind fun x8 =>
  A.fin σ x8 σ) (
  (A.part1 1 c1).bind fun x9 =>
  (A.part1 1 c2).bind fun x10 =>
  (m_strings_Compare [x9, x10] σ).bind fun r11 =>
  (A.lss r11.1 (AV.int .i64 0)).bind fun x12 =>
  A.fin σ x12 r11.2)
noncomputable def m_pick_before : List AV → Heap → Option (AV × Heap) := A.wrap true [] .k (A.ar2 r_pick_before)
noncomputable def r_pick_CheckPresets (a0 a1 : AV) (σ : Heap) : Option (AV × Heap) :=
 (A.cells 2 a0).bind fun c1 =>
 (A.partA 0 2 c1).bind fun x2 =>
 (m_fixture_CheckRig [x2] σ).bind fun r3 =>
 (A.lenS a1).bind fun x4 =>
 (A.gtr x4 (AV.int .i64 200)).bind fun x5 =>
 (m_word_When [x5, (AV.int .i64 2)] r3.2).bind fun r6 =>
 ((((A.cell r3.1).bind fun v => some [v]).bind fun c7 => (A.splice 0 c7 [(AV.int .i64 0), (AV.int .i64 0)]).bind fun c8 => ((A.cell r6.1).bind fun v => some [v]).bind fun c9 => (A.splice 1 c9 c8).bind fun c10 => some c10).bind fun cs => some (AV.sl 1 (chunks 1 2 cs))).bind fun x11 =>
 (m_word_First [x11] r6.2).bind fun r12 =>
 (A.neq .i r12.1 (AV.int .i64 0)).bind fun x13 =>
 A.cond x13 (
  A.fin σ r12.1 r12.2) (
  (A.partA 0 2 c1).bind fun x14 =>
  (m_pick_keys [x14] r12.2).bind fun r15 =>
  (A.lenS a1).bind fun x16 =>
  (A.loop (fun v17 s18 =>
    (A.lss (v17.getD 1 AV.undef) x16).bind fun x20 =>
    A.cond x20 (
     (A.iaddr 3 a1 (v17.getD 1 AV.undef)).bind fun x21 =>
     ((A.deref x21 s18).bind fun c22 => A.partA 0 3 c22).bind fun x23 =>
     (A.cells 3 x23).bind fun c24 =>
     (A.splice 0 c24 [(AV.int .i64 0), (AV.str ⟨#[]⟩), AV.nsl]).bind fun c25 =>
     (A.part1 0 c25).bind fun x26 =>
     (m_word_Within [x26, (AV.int .i64 1), (AV.int .i64 999)] s18).bind fun r27 =>
     (A.not r27.1).bind fun x28 =>
     A.cond x28 (
      some (AX.ret, [(AV.int .i64 1), (v17.getD 1 AV.undef)], r27.2)) (
      (A.gtr (v17.getD 1 AV.undef) (AV.int .i64 0)).bind fun x29 =>
      (A.guard x29 true (A.part1 0 c25) (some (AV.tup []))).bind fun x30 =>
      (A.guard x29 true (some a1) (some (AV.tup []))).bind fun x31 =>
      (A.guard x29 true (some (v17.getD 1 AV.undef)) (some (AV.tup []))).bind fun x32 =>
      (A.guard x29 true (A.sub x32 (AV.int .i64 1)) (some (AV.tup []))).bind fun x33 =>
      (A.guard x29 true (A.iaddr 3 x31 x33) (some (AV.tup []))).bind fun x34 =>
      (A.guard x29 true (A.faddr 0 x34) (some (AV.tup []))).bind fun x35 =>
      (A.guard x29 true ((A.deref x35 r27.2).bind fun c36 => A.part1 0 c36) (some (AV.tup []))).bind fun x37 =>
      (A.guard x29 true (A.leq x30 x37) (some (AV.tup []))).bind fun x38 =>
      (A.pick x29 x38 (AV.bool false)).bind fun x39 =>
      A.cond x39 (
       some (AX.ret, [(AV.int .i64 7), (v17.getD 1 AV.undef)], r27.2)) (
       (A.part1 1 c25).bind fun x40 =>
       (m_pick_blank [x40] r27.2).bind fun r41 =>
       (A.not r41.1).bind fun x42 =>
       A.cond x42 (
        some (AX.ret, [(AV.int .i64 3), (v17.getD 1 AV.undef)], r41.2)) (
        (A.part1 2 c25).bind fun x43 =>
        (A.lenS x43).bind fun x44 =>
        (A.gtr x44 (AV.int .i64 2000)).bind fun x45 =>
        A.cond x45 (
         some (AX.ret, [(AV.int .i64 2), (v17.getD 1 AV.undef)], r41.2)) (
         (A.part1 2 c25).bind fun x46 =>
         (A.lenS x46).bind fun x47 =>
         (A.loop (fun v48 s49 =>
           (A.lss (v48.getD 2 AV.undef) x47).bind fun x51 =>
           A.cond x51 (
            (A.iaddr 3 x46 (v48.getD 2 AV.undef)).bind fun x52 =>
            ((A.deref x52 s49).bind fun c53 => A.partA 0 3 c53).bind fun x54 =>
            (A.cells 3 x54).bind fun c55 =>
            (A.splice 0 c55 [(AV.int .i64 0), (AV.str ⟨#[]⟩), (AV.int .i64 0)]).bind fun c56 =>
            (A.partA 0 2 c56).bind fun x57 =>
            (A.look (.s [0, 2]) r15.1 x57 (AV.bool false) s49).bind fun x58 =>
            (A.not x58).bind fun x59 =>
            A.cond x59 (
             some (AX.ret, [(AV.int .i64 8), (v48.getD 1 AV.undef), (v48.getD 2 AV.undef)], s49)) (
             (A.part1 2 c56).bind fun x60 =>
             (m_pick_isLevel [x60] s49).bind fun r61 =>
             (A.not r61.1).bind fun x62 =>
             A.cond x62 (
              some (AX.ret, [(AV.int .i64 1), (v48.getD 1 AV.undef), (v48.getD 2 AV.undef)], r61.2)) (
              (A.gtr (v48.getD 2 AV.undef) (AV.int .i64 0)).bind fun x63 =>
              ((A.lb (v48.getD 1 AV.undef)).bind fun _ => some (2)).bind fun p64 =>
                            (A.guard x63 true ((A.lb (v48.getD 1 AV.undef)).bind fun c65 => A.part1 p64 c65) (some (AV.tup []))).bind fun x66 =>
              (A.guard x63 true (some (v48.getD 2 AV.undef)) (some (AV.tup []))).bind fun x67 =>
              (A.guard x63 true (A.sub x67 (AV.int .i64 1)) (some (AV.tup []))).bind fun x68 =>
              (A.guard x63 true (A.iaddr 3 x66 x68) (some (AV.tup []))).bind fun x69 =>
              (A.guard x63 true (A.faddr 0 x69) (some (AV.tup []))).bind fun x70 =>
              (A.guard x63 true ((A.deref x70 r61.2).bind fun c71 => A.partA 0 2 c71) (some (AV.tup []))).bind fun x72 =>
              (A.guard x63 true (A.partA 0 2 c56) (some (AV.tup []))).bind fun x73 =>
              (A.guard x63 true (A.quiet (m_pick_before [x72, x73] r61.2) r61.2) (some (AV.tup []))).bind fun x74 =>
              (A.guard x63 true (A.not x74) (some (AV.tup []))).bind fun x75 =>
              (A.pick x63 x75 (AV.bool false)).bind fun x76 =>
              A.cond x76 (
               some (AX.ret, [(AV.int .i64 7), (v48.getD 1 AV.undef), (v48.getD 2 AV.undef)], r61.2)) (
               (A.add (v48.getD 2 AV.undef) (AV.int .i64 1)).bind fun x77 =>
               some (AX.normal, [(v48.getD 0 AV.undef), (v48.getD 1 AV.undef), x77], r61.2))))) (
            some (AX.exit 3, [(v48.getD 0 AV.undef), (v48.getD 1 AV.undef), (v48.getD 2 AV.undef)], s49))) [(v17.getD 0 AV.undef), (AV.lbx c25), (AV.int .i64 0)] r41.2).bind fun r78 =>
         bif r78.1 == AX.exit 3 then (
          (A.add (v17.getD 1 AV.undef) (AV.int .i64 1)).bind fun x79 =>
          some (AX.normal, [(r78.2.1.getD 0 AV.undef), x79], r78.2.2)) else
         bif r78.1 == AX.ret then (
          some (AX.ret, [(r78.2.1.getD 0 AV.undef), (v17.getD 1 AV.undef)], r78.2.2)) else
         none))))) (
     some (AX.exit 0, [(v17.getD 0 AV.undef), (v17.getD 1 AV.undef)], s18))) [(AV.int .i64 0), (AV.int .i64 0)] r15.2).bind fun r80 =>
  bif r80.1 == AX.exit 0 then (
   A.fin σ (AV.int .i64 0) r80.2.2) else
  bif r80.1 == AX.ret then (
   A.fin σ (r80.2.1.getD 0 AV.undef) r80.2.2) else
  none)
noncomputable def m_pick_CheckPresets : List AV → Heap → Option (AV × Heap) := A.wrap true [(.a [(.s 3), (.s 4)]), (.s 3)] .k (A.ar2 r_pick_CheckPresets)
noncomputable def r_pick_Level (a0 a1 a2 : AV) (σ : Heap) : Option (AV × Heap) :=
 (A.cells 2 a1).bind fun c1 =>
 (A.cells 2 a2).bind fun c2 =>
 (A.part1 0 c2).bind fun x3 =>
 (A.neq .i x3 (AV.int .i64 0)).bind fun x4 =>
 (A.guard x4 true (A.part1 1 c2) (some (AV.tup []))).bind fun x5 =>
 (A.guard x4 true (A.neq .i x5 (AV.int .i64 0)) (some (AV.tup []))).bind fun x6 =>
 (A.pick x4 x6 (AV.bool false)).bind fun x7 =>
 A.cond x7 (
  A.fin σ (AV.tup [(AV.int .i64 0), (AV.int .i64 3)]) σ) (
  (A.part1 0 c2).bind fun x8 =>
  (m_pick_isLevel [x8] σ).bind fun r9 =>
  (A.not r9.1).bind fun x10 =>
  A.cond x10 (
   A.fin σ (AV.tup [(AV.int .i64 0), (AV.int .i64 1)]) r9.2) (
   (A.part1 1 c2).bind fun x11 =>
   (A.eql .i x11 (AV.int .i64 0)).bind fun x12 =>
   A.cond x12 (
    (A.part1 0 c2).bind fun x13 =>
    A.fin σ (AV.tup [x13, (AV.int .i64 0)]) r9.2) (
    (A.lenS a0).bind fun x14 =>
    (A.loop (fun v15 s16 =>
      (A.lss (v15.getD 4 AV.undef) x14).bind fun x18 =>
      A.cond x18 (
       (A.iaddr 3 a0 (v15.getD 4 AV.undef)).bind fun x19 =>
       ((A.deref x19 s16).bind fun c20 => A.partA 0 3 c20).bind fun x21 =>
       (A.cells 3 x21).bind fun c22 =>
       (A.splice 0 c22 [(AV.int .i64 0), (AV.str ⟨#[]⟩), AV.nsl]).bind fun c23 =>
       (A.part1 0 c23).bind fun x24 =>
       ((A.lb (v15.getD 1 AV.undef)).bind fun _ => some (1)).bind fun p25 =>
       ((A.lb (v15.getD 1 AV.undef)).bind fun c26 => A.part1 p25 c26).bind fun x27 =>
       (A.neq .i x24 x27).bind fun x28 =>
       A.cond x28 (
        (A.add (v15.getD 4 AV.undef) (AV.int .i64 1)).bind fun x29 =>
        some (AX.normal, [(v15.getD 0 AV.undef), (v15.getD 1 AV.undef), (v15.getD 2 AV.undef), (v15.getD 3 AV.undef), x29], s16)) (
        (A.part1 2 c23).bind fun x30 =>
        (A.lenS x30).bind fun x31 =>
        (A.loop (fun v32 s33 =>
          (A.lss (v32.getD 3 AV.undef) x31).bind fun x35 =>
          A.cond x35 (
           (A.iaddr 3 x30 (v32.getD 3 AV.undef)).bind fun x36 =>
           ((A.deref x36 s33).bind fun c37 => A.partA 0 3 c37).bind fun x38 =>
           (A.cells 3 x38).bind fun c39 =>
           (A.splice 0 c39 [(AV.int .i64 0), (AV.str ⟨#[]⟩), (AV.int .i64 0)]).bind fun c40 =>
           (A.partA 0 2 c40).bind fun x41 =>
           ((A.lb (v32.getD 0 AV.undef)).bind fun c42 => A.partA 0 2 c42).bind fun x43 =>
           (A.eql (.s [0, 2]) x41 x43).bind fun x44 =>
           A.cond x44 (
            (A.part1 2 c40).bind fun x45 =>
            some (AX.ret, [(v32.getD 0 AV.undef), x45, (AV.int .i64 0), (v32.getD 3 AV.undef)], s33)) (
            (A.add (v32.getD 3 AV.undef) (AV.int .i64 1)).bind fun x46 =>
            some (AX.normal, [(v32.getD 0 AV.undef), (v32.getD 1 AV.undef), (v32.getD 2 AV.undef), x46], s33))) (
           some (AX.exit 2, [(v32.getD 0 AV.undef), (v32.getD 1 AV.undef), (v32.getD 2 AV.undef), (v32.getD 3 AV.undef)], s33))) [(v15.getD 0 AV.undef), (v15.getD 2 AV.undef), (v15.getD 3 AV.undef), (AV.int .i64 0)] s16).bind fun r47 =>
        bif r47.1 == AX.exit 2 then (
         some (AX.exit 0, [(r47.2.1.getD 0 AV.undef), AV.undef, (r47.2.1.getD 1 AV.undef), (r47.2.1.getD 2 AV.undef), (v15.getD 4 AV.undef)], r47.2.2)) else
        bif r47.1 == AX.ret then (
         some (AX.ret, [(r47.2.1.getD 0 AV.undef), AV.undef, (r47.2.1.getD 1 AV.undef), (r47.2.1.getD 2 AV.undef), (v15.getD 4 AV.undef)], r47.2.2)) else
        none)) (
       some (AX.exit 0, [(v15.getD 0 AV.undef), (v15.getD 1 AV.undef), (v15.getD 2 AV.undef), (v15.getD 3 AV.undef), (v15.getD 4 AV.undef)], s16))) [(AV.lbx c1), (AV.lbx c2), (AV.int .i64 0), (AV.int .i64 0), (AV.int .i64 0)] r9.2).bind fun r48 =>
    bif r48.1 == AX.exit 0 then (
     A.fin σ (AV.tup [(AV.int .i64 0), (AV.int .i64 8)]) r48.2.2) else
    bif r48.1 == AX.ret then (
     A.fin σ (AV.tup [(r48.2.1.getD 2 AV.undef), (r48.2.1.getD 3 AV.undef)]) r48.2.2) else
    none)))
noncomputable def m_pick_Level : List AV → Heap → Option (AV × Heap) := A.wrap true [(.s 3)] .k (A.ar3 r_pick_Level)
end Go.Proofs.Ytohbeolimnpehaa

namespace Go.Proofs.Ytohbeolimnpehaa
set_option linter.unusedSectionVars false
set_option linter.unusedSimpArgs false
set_option linter.unusedVariables false
set_option maxRecDepth 100000
noncomputable def r_cue_isTime (a0 : AV) (σ : Heap) : Option (AV × Heap) :=
 (m_word_Within [a0, (AV.int .i64 0), (AV.int .i64 36000000)] σ).bind fun r1 =>
 A.fin σ r1.1 r1.2
noncomputable def m_cue_isTime : List AV → Heap → Option (AV × Heap) := A.wrap true [] .k (A.ar1 r_cue_isTime)
noncomputable def r_cue_compare (a0 a1 : AV) (σ : Heap) : Option (AV × Heap) :=
 (A.cells 2 a0).bind fun c1 =>
 (A.cells 2 a1).bind fun c2 =>
 (A.part1 0 c1).bind fun x3 =>
 (A.part1 0 c2).bind fun x4 =>
 (A.neq .i x3 x4).bind fun x5 =>
 A.cond x5 (
  (A.part1 0 c1).bind fun x6 =>
  (A.part1 0 c2).bind fun x7 =>
  (A.lss x6 x7).bind fun x8 =>
  A.cond x8 (
   A.fin σ (AV.int .i64 (-1)) σ) (
   A.fin σ (AV.int .i64 1) σ)) (
  (A.part1 1 c1).bind fun x9 =>
  (A.part1 1 c2).bind fun x10 =>
  (m_strings_Compare [x9, x10] σ).bind fun r11 =>
  A.fin σ r11.1 r11.2)
noncomputable def m_cue_compare : List AV → Heap → Option (AV × Heap) := A.wrap true [] .k (A.ar2 r_cue_compare)
noncomputable def r_cue_checkMoves (a0 : AV) (σ : Heap) : Option (AV × Heap) :=
 (A.lenS a0).bind fun x1 =>
 (A.loop (fun v2 s3 =>
   (A.lss (v2.getD 1 AV.undef) x1).bind fun x5 =>
   A.cond x5 (
    (A.iaddr 8 a0 (v2.getD 1 AV.undef)).bind fun x6 =>
    ((A.deref x6 s3).bind fun c7 => A.partA 0 8 c7).bind fun x8 =>
    (A.cells 8 x8).bind fun c9 =>
    (A.splice 0 c9 [(AV.int .i64 0), (AV.str ⟨#[]⟩), (AV.int .i64 0), (AV.int .i64 0), (AV.bool false), (AV.bool false), (AV.int .i64 0), (AV.int .i64 0)]).bind fun c10 =>
    (A.part1 0 c10).bind fun x11 =>
    (m_word_Within [x11, (AV.int .i64 1), (AV.int .i64 9999)] s3).bind fun r12 =>
    (A.not r12.1).bind fun x13 =>
    A.cond x13 (
     some (AX.ret, [(AV.int .i64 1), (v2.getD 1 AV.undef)], r12.2)) (
     (A.part1 1 c10).bind fun x14 =>
     (m_word_Name [x14] r12.2).bind fun r15 =>
     (A.not r15.1).bind fun x16 =>
     A.cond x16 (
      some (AX.ret, [(AV.int .i64 5), (v2.getD 1 AV.undef)], r15.2)) (
      (A.part1 4 c10).bind fun x17 =>
      (A.guard x17 true (A.partA 2 2 c10) (some (AV.tup []))).bind fun x18 =>
      (A.guard x17 true (some (AV.agg [(AV.int .i64 0), (AV.int .i64 0)])) (some (AV.tup []))).bind fun x19 =>
      (A.guard x17 true (A.neq (.s [0, 0]) x18 x19) (some (AV.tup []))).bind fun x20 =>
      (A.pick x17 x20 (AV.bool false)).bind fun x21 =>
      (A.guard x21 false (A.part1 2 c10) (some (AV.tup []))).bind fun x22 =>
      (A.guard x21 false (A.neq .i x22 (AV.int .i64 0)) (some (AV.tup []))).bind fun x23 =>
      (A.guard x21 false (some x23) (some (AV.tup []))).bind fun x24 =>
      (A.guard x24 true (A.part1 3 c10) (some (AV.tup []))).bind fun x25 =>
      (A.guard x24 true (A.neq .i x25 (AV.int .i64 0)) (some (AV.tup []))).bind fun x26 =>
      (A.guard x21 false (A.pick x24 x26 (AV.bool false)) (some (AV.tup []))).bind fun x27 =>
      (A.pick x21 (AV.bool true) x27).bind fun x28 =>
      A.cond x28 (
       some (AX.ret, [(AV.int .i64 3), (v2.getD 1 AV.undef)], r15.2)) (
       (A.part1 2 c10).bind fun x29 =>
       (m_word_Within [x29, (AV.int .i64 0), (AV.int .i64 65535)] r15.2).bind fun r30 =>
       (A.not r30.1).bind fun x31 =>
       (A.guard x31 false (A.part1 3 c10) (some (AV.tup []))).bind fun x32 =>
       (A.guard x31 false (A.quiet (m_word_Within [x32, (AV.int .i64 0), (AV.int .i64 999)] r30.2) r30.2) (some (AV.tup []))).bind fun x33 =>
       (A.guard x31 false (A.not x33) (some (AV.tup []))).bind fun x34 =>
       (A.pick x31 (AV.bool true) x34).bind fun x35 =>
       A.cond x35 (
        some (AX.ret, [(AV.int .i64 1), (v2.getD 1 AV.undef)], r30.2)) (
        (A.part1 5 c10).bind fun x36 =>
        (A.not x36).bind fun x37 =>
        (A.guard x37 true (A.part1 6 c10) (some (AV.tup []))).bind fun x38 =>
        (A.guard x37 true (A.neq .i x38 (AV.int .i64 0)) (some (AV.tup []))).bind fun x39 =>
        (A.guard x37 true (some x39) (some (AV.tup []))).bind fun x40 =>
        (A.guard x40 false (A.part1 7 c10) (some (AV.tup []))).bind fun x41 =>
        (A.guard x40 false (A.neq .i x41 (AV.int .i64 0)) (some (AV.tup []))).bind fun x42 =>
        (A.guard x37 true (A.pick x40 (AV.bool true) x42) (some (AV.tup []))).bind fun x43 =>
        (A.pick x37 x43 (AV.bool false)).bind fun x44 =>
        A.cond x44 (
         some (AX.ret, [(AV.int .i64 3), (v2.getD 1 AV.undef)], r30.2)) (
         (A.part1 6 c10).bind fun x45 =>
         (m_cue_isTime [x45] r30.2).bind fun r46 =>
         (A.not r46.1).bind fun x47 =>
         (A.guard x47 false (A.part1 7 c10) (some (AV.tup []))).bind fun x48 =>
         (A.guard x47 false (A.quiet (m_cue_isTime [x48] r46.2) r46.2) (some (AV.tup []))).bind fun x49 =>
         (A.guard x47 false (A.not x49) (some (AV.tup []))).bind fun x50 =>
         (A.pick x47 (AV.bool true) x50).bind fun x51 =>
         A.cond x51 (
          some (AX.ret, [(AV.int .i64 1), (v2.getD 1 AV.undef)], r46.2)) (
          (A.gtr (v2.getD 1 AV.undef) (AV.int .i64 0)).bind fun x52 =>
          (A.guard x52 true (some a0) (some (AV.tup []))).bind fun x53 =>
          (A.guard x52 true (some (v2.getD 1 AV.undef)) (some (AV.tup []))).bind fun x54 =>
          (A.guard x52 true (A.sub x54 (AV.int .i64 1)) (some (AV.tup []))).bind fun x55 =>
          (A.guard x52 true (A.iaddr 8 x53 x55) (some (AV.tup []))).bind fun x56 =>
          (A.guard x52 true (A.faddr 0 x56) (some (AV.tup []))).bind fun x57 =>
          (A.guard x52 true ((A.deref x57 r46.2).bind fun c58 => A.partA 0 2 c58) (some (AV.tup []))).bind fun x59 =>
          (A.guard x52 true (A.partA 0 2 c10) (some (AV.tup []))).bind fun x60 =>
          (A.guard x52 true (A.quiet (m_cue_compare [x59, x60] r46.2) r46.2) (some (AV.tup []))).bind fun x61 =>
          (A.guard x52 true (A.geq x61 (AV.int .i64 0)) (some (AV.tup []))).bind fun x62 =>
          (A.pick x52 x62 (AV.bool false)).bind fun x63 =>
          A.cond x63 (
           some (AX.ret, [(AV.int .i64 7), (v2.getD 1 AV.undef)], r46.2)) (
           (A.add (v2.getD 1 AV.undef) (AV.int .i64 1)).bind fun x64 =>
           some (AX.normal, [(v2.getD 0 AV.undef), x64], r46.2))))))))) (
    some (AX.exit 0, [(v2.getD 0 AV.undef), (v2.getD 1 AV.undef)], s3))) [(AV.int .i64 0), (AV.int .i64 0)] σ).bind fun r65 =>
 bif r65.1 == AX.exit 0 then (
  A.fin σ (AV.int .i64 0) r65.2.2) else
 bif r65.1 == AX.ret then (
  A.fin σ (r65.2.1.getD 0 AV.undef) r65.2.2) else
 none
noncomputable def m_cue_checkMoves : List AV → Heap → Option (AV × Heap) := A.wrap true [(.s 8)] .k (A.ar1 r_cue_checkMoves)
noncomputable def r_cue_form (a0 : AV) (σ : Heap) : Option (AV × Heap) :=
 (A.lenS a0).bind fun x1 =>
 (A.gtr x1 (AV.int .i64 300)).bind fun x2 =>
 A.cond x2 (
  A.fin σ (AV.int .i64 2) σ) (
  (A.lenS a0).bind fun x3 =>
  (A.loop (fun v4 s5 =>
    (A.lss (v4.getD 2 AV.undef) x3).bind fun x7 =>
    A.cond x7 (
     (A.iaddr 11 a0 (v4.getD 2 AV.undef)).bind fun x8 =>
     ((A.deref x8 s5).bind fun c9 => A.partA 0 11 c9).bind fun x10 =>
     (A.cells 11 x10).bind fun c11 =>
     (A.splice 0 c11 [(AV.int .i64 0), (AV.str ⟨#[]⟩), (AV.int .i64 0), (AV.int .i64 0), (AV.int .i64 0), (AV.int .i64 0), (AV.int .i64 0), AV.nsl, (AV.bool false), (AV.int .i64 0), AV.nsl]).bind fun c12 =>
     (A.part1 0 c12).bind fun x13 =>
     (m_word_Within [x13, (AV.int .i64 1), (AV.int .i64 9999999)] s5).bind fun r14 =>
     (A.not r14.1).bind fun x15 =>
     A.cond x15 (
      some (AX.ret, [(AV.int .i64 1), (v4.getD 1 AV.undef), (v4.getD 2 AV.undef)], r14.2)) (
      (A.gtr (v4.getD 2 AV.undef) (AV.int .i64 0)).bind fun x16 =>
      (A.guard x16 true (A.part1 0 c12) (some (AV.tup []))).bind fun x17 =>
      (A.guard x16 true (some a0) (some (AV.tup []))).bind fun x18 =>
      (A.guard x16 true (some (v4.getD 2 AV.undef)) (some (AV.tup []))).bind fun x19 =>
      (A.guard x16 true (A.sub x19 (AV.int .i64 1)) (some (AV.tup []))).bind fun x20 =>
      (A.guard x16 true (A.iaddr 11 x18 x20) (some (AV.tup []))).bind fun x21 =>
      (A.guard x16 true (A.faddr 0 x21) (some (AV.tup []))).bind fun x22 =>
      (A.guard x16 true ((A.deref x22 r14.2).bind fun c23 => A.part1 0 c23) (some (AV.tup []))).bind fun x24 =>
      (A.guard x16 true (A.leq x17 x24) (some (AV.tup []))).bind fun x25 =>
      (A.pick x16 x25 (AV.bool false)).bind fun x26 =>
      A.cond x26 (
       some (AX.ret, [(AV.int .i64 7), (v4.getD 1 AV.undef), (v4.getD 2 AV.undef)], r14.2)) (
       (A.part1 1 c12).bind fun x27 =>
       (A.neq .z x27 (AV.str ⟨#[]⟩)).bind fun x28 =>
       (A.guard x28 true (A.part1 1 c12) (some (AV.tup []))).bind fun x29 =>
       (A.guard x28 true (A.quiet (m_word_Title [x29] r14.2) r14.2) (some (AV.tup []))).bind fun x30 =>
       (A.guard x28 true (A.not x30) (some (AV.tup []))).bind fun x31 =>
       (A.pick x28 x31 (AV.bool false)).bind fun x32 =>
       A.cond x32 (
        some (AX.ret, [(AV.int .i64 3), (v4.getD 1 AV.undef), (v4.getD 2 AV.undef)], r14.2)) (
        (A.part1 2 c12).bind fun x33 =>
        (m_cue_isTime [x33] r14.2).bind fun r34 =>
        (A.not r34.1).bind fun x35 =>
        (A.guard x35 false (A.part1 3 c12) (some (AV.tup []))).bind fun x36 =>
        (A.guard x35 false (A.quiet (m_cue_isTime [x36] r34.2) r34.2) (some (AV.tup []))).bind fun x37 =>
        (A.guard x35 false (A.not x37) (some (AV.tup []))).bind fun x38 =>
        (A.pick x35 (AV.bool true) x38).bind fun x39 =>
        (A.guard x39 false (A.part1 4 c12) (some (AV.tup []))).bind fun x40 =>
        (A.guard x39 false (A.quiet (m_cue_isTime [x40] r34.2) r34.2) (some (AV.tup []))).bind fun x41 =>
        (A.guard x39 false (A.not x41) (some (AV.tup []))).bind fun x42 =>
        (A.pick x39 (AV.bool true) x42).bind fun x43 =>
        (A.guard x43 false (A.part1 5 c12) (some (AV.tup []))).bind fun x44 =>
        (A.guard x43 false (A.quiet (m_cue_isTime [x44] r34.2) r34.2) (some (AV.tup []))).bind fun x45 =>
        (A.guard x43 false (A.not x45) (some (AV.tup []))).bind fun x46 =>
        (A.pick x43 (AV.bool true) x46).bind fun x47 =>
        (A.guard x47 false (A.part1 9 c12) (some (AV.tup []))).bind fun x48 =>
        (A.guard x47 false (A.quiet (m_word_Within [x48, (AV.int .i64 (-1)), (AV.int .i64 36000000)] r34.2) r34.2) (some (AV.tup []))).bind fun x49 =>
        (A.guard x47 false (A.not x49) (some (AV.tup []))).bind fun x50 =>
        (A.pick x47 (AV.bool true) x50).bind fun x51 =>
        A.cond x51 (
         some (AX.ret, [(AV.int .i64 1), (v4.getD 1 AV.undef), (v4.getD 2 AV.undef)], r34.2)) (
         (A.partA 6 2 c12).bind fun x52 =>
         (m_level_CheckCurve [x52] r34.2).bind fun r53 =>
         (A.neq .i r53.1 (AV.int .i64 0)).bind fun x54 =>
         A.cond x54 (
          some (AX.ret, [r53.1, (v4.getD 1 AV.undef), (v4.getD 2 AV.undef)], r53.2)) (
          (A.part1 10 c12).bind fun x55 =>
          (A.lenS x55).bind fun x56 =>
          (A.gtr x56 (AV.int .i64 2000)).bind fun x57 =>
          A.cond x57 (
           some (AX.ret, [(AV.int .i64 2), (v4.getD 1 AV.undef), (v4.getD 2 AV.undef)], r53.2)) (
           (A.part1 10 c12).bind fun x58 =>
           (m_cue_checkMoves [x58] r53.2).bind fun r59 =>
           (A.neq .i r59.1 (AV.int .i64 0)).bind fun x60 =>
           A.cond x60 (
            some (AX.ret, [r59.1, (v4.getD 1 AV.undef), (v4.getD 2 AV.undef)], r59.2)) (
            (A.part1 10 c12).bind fun x61 =>
            (A.lenS x61).bind fun x62 =>
            (A.add (v4.getD 1 AV.undef) x62).bind fun x63 =>
            (A.add (v4.getD 2 AV.undef) (AV.int .i64 1)).bind fun x64 =>
            some (AX.normal, [(v4.getD 0 AV.undef), x63, x64], r59.2))))))))) (
     some (AX.exit 0, [(v4.getD 0 AV.undef), (v4.getD 1 AV.undef), (v4.getD 2 AV.undef)], s5))) [(AV.int .i64 0), (AV.int .i64 0), (AV.int .i64 0)] σ).bind fun r65 =>
  bif r65.1 == AX.exit 0 then (
   (A.gtr (r65.2.1.getD 1 AV.undef) (AV.int .i64 10000)).bind fun x66 =>
   (m_word_When [x66, (AV.int .i64 2)] r65.2.2).bind fun r67 =>
   A.fin σ r67.1 r67.2) else
  bif r65.1 == AX.ret then (
   A.fin σ (r65.2.1.getD 0 AV.undef) r65.2.2) else
  none)
noncomputable def m_cue_form : List AV → Heap → Option (AV × Heap) := A.wrap true [(.e 11 [.k, .k, .k, .k, .k, .k, .k, (.s 2), .k, .k, (.s 8)])] .k (A.ar1 r_cue_form)
noncomputable def r_cue_CheckList (a0 a1 a2 : AV) (σ : Heap) : Option (AV × Heap) :=
 (A.cells 2 a0).bind fun c1 =>
 (A.partA 0 2 c1).bind fun x2 =>
 (m_pick_CheckPresets [x2, a1] σ).bind fun r3 =>
 (m_cue_form [a2] r3.2).bind fun r4 =>
 ((((A.cell r3.1).bind fun v => some [v]).bind fun c5 => (A.splice 0 c5 [(AV.int .i64 0), (AV.int .i64 0)]).bind fun c6 => ((A.cell r4.1).bind fun v => some [v]).bind fun c7 => (A.splice 1 c7 c6).bind fun c8 => some c8).bind fun cs => some (AV.sl 1 (chunks 1 2 cs))).bind fun x9 =>
 (m_word_First [x9] r4.2).bind fun r10 =>
 (A.neq .i r10.1 (AV.int .i64 0)).bind fun x11 =>
 A.cond x11 (
  A.fin σ r10.1 r10.2) (
  (A.partA 0 2 c1).bind fun x12 =>
  (m_fixture_Keys [x12] r10.2).bind fun r13 =>
  (A.ext 0 r13.1).bind fun x14 =>
  (A.ext 1 r13.1).bind fun x15 =>
  (A.lenS x14).bind fun x16 =>
  (A.loop (fun v17 s18 =>
    (A.lss (v17.getD 0 AV.undef) x16).bind fun x20 =>
    A.cond x20 (
     (A.iaddr 2 x14 (v17.getD 0 AV.undef)).bind fun x21 =>
     ((A.deref x21 s18).bind fun c22 => A.partA 0 2 c22).bind fun x23 =>
     (A.cells 2 x23).bind fun c24 =>
     (A.splice 0 c24 [(AV.int .i64 0), (AV.str ⟨#[]⟩)]).bind fun c25 =>
     (A.partA 0 2 c25).bind fun x26 =>
     (A.mupd (.s [0, 2]) (AV.om r13.2.length) x26 (AV.bool true) s18).bind fun h27 =>
     (A.add (v17.getD 0 AV.undef) (AV.int .i64 1)).bind fun x28 =>
     some (AX.normal, [x28], h27)) (
     some (AX.exit 0, [(v17.getD 0 AV.undef)], s18))) [(AV.int .i64 0)] (r13.2 ++ [Blk.map []])).bind fun r29 =>
  bif r29.1 == AX.exit 0 then (
   (A.lenS a2).bind fun x30 =>
   (A.loop (fun v31 s32 =>
     (A.lss (v31.getD 1 AV.undef) x30).bind fun x34 =>
     A.cond x34 (
      (A.iaddr 11 a2 (v31.getD 1 AV.undef)).bind fun x35 =>
      ((A.deref x35 s32).bind fun c36 => A.partA 0 11 c36).bind fun x37 =>
      (A.cells 11 x37).bind fun c38 =>
      (A.splice 0 c38 [(AV.int .i64 0), (AV.str ⟨#[]⟩), (AV.int .i64 0), (AV.int .i64 0), (AV.int .i64 0), (AV.int .i64 0), (AV.int .i64 0), AV.nsl, (AV.bool false), (AV.int .i64 0), AV.nsl]).bind fun c39 =>
      (A.part1 10 c39).bind fun x40 =>
      (A.lenS x40).bind fun x41 =>
      (A.loop (fun v42 s43 =>
        (A.lss (v42.getD 1 AV.undef) x41).bind fun x45 =>
        A.cond x45 (
         (A.iaddr 8 x40 (v42.getD 1 AV.undef)).bind fun x46 =>
         ((A.deref x46 s43).bind fun c47 => A.partA 0 8 c47).bind fun x48 =>
         (A.cells 8 x48).bind fun c49 =>
         (A.splice 0 c49 [(AV.int .i64 0), (AV.str ⟨#[]⟩), (AV.int .i64 0), (AV.int .i64 0), (AV.bool false), (AV.bool false), (AV.int .i64 0), (AV.int .i64 0)]).bind fun c50 =>
         (A.partA 0 2 c50).bind fun x51 =>
         (A.look (.s [0, 2]) (AV.om r13.2.length) x51 (AV.bool false) s43).bind fun x52 =>
         (A.not x52).bind fun x53 =>
         A.cond x53 (
          some (AX.ret, [(AV.int .i64 8), (v42.getD 1 AV.undef)], s43)) (
          (A.partA 0 2 c50).bind fun x54 =>
          (A.partA 2 2 c50).bind fun x55 =>
          (m_pick_Level [a1, x54, x55] s43).bind fun r56 =>
          (A.ext 0 r56.1).bind fun x57 =>
          (A.ext 1 r56.1).bind fun x58 =>
          (A.neq .i x58 (AV.int .i64 0)).bind fun x59 =>
          A.cond x59 (
           some (AX.ret, [x58, (v42.getD 1 AV.undef)], r56.2)) (
           (A.add (v42.getD 1 AV.undef) (AV.int .i64 1)).bind fun x60 =>
           some (AX.normal, [(v42.getD 0 AV.undef), x60], r56.2)))) (
         some (AX.exit 4, [(v42.getD 0 AV.undef), (v42.getD 1 AV.undef)], s43))) [(v31.getD 0 AV.undef), (AV.int .i64 0)] s32).bind fun r61 =>
      bif r61.1 == AX.exit 4 then (
       (A.add (v31.getD 1 AV.undef) (AV.int .i64 1)).bind fun x62 =>
       some (AX.normal, [(r61.2.1.getD 0 AV.undef), x62], r61.2.2)) else
      bif r61.1 == AX.ret then (
       some (AX.ret, [(r61.2.1.getD 0 AV.undef), (v31.getD 1 AV.undef)], r61.2.2)) else
      none) (
      some (AX.exit 2, [(v31.getD 0 AV.undef), (v31.getD 1 AV.undef)], s32))) [(AV.int .i64 0), (AV.int .i64 0)] r29.2.2).bind fun r63 =>
   bif r63.1 == AX.exit 2 then (
    A.fin σ (AV.int .i64 0) r63.2.2) else
   bif r63.1 == AX.ret then (
    A.fin σ (r63.2.1.getD 0 AV.undef) r63.2.2) else
   none) else
  none)
noncomputable def m_cue_CheckList : List AV → Heap → Option (AV × Heap) := A.wrap true [(.a [(.e 3 [.k, .k, (.e 7 [.k, .k, .k, .k, .k, .k, (.s 3)])]), (.s 4)]), (.e 3 [.k, .k, (.s 3)]), (.e 11 [.k, .k, .k, .k, .k, .k, .k, (.s 2), .k, .k, (.s 8)])] .k (A.ar3 r_cue_CheckList)
end Go.Proofs.Ytohbeolimnpehaa

namespace Go.Proofs.Ytohbeolimnpehaa
set_option linter.unusedSectionVars false
set_option linter.unusedSimpArgs false
set_option linter.unusedVariables false
set_option maxRecDepth 100000
noncomputable def r_play_list_fn1 (a0 a1 : AV) (σ : Heap) : Option (AV × Heap) :=
 (A.cells 2 a0).bind fun c1 =>
 (A.part1 0 c1).bind fun x2 =>
 ((A.deref a1 σ).bind fun c3 => A.part1 0 c3).bind fun x4 =>
 (A.eql .i x2 x4).bind fun x5 =>
 A.fin σ x5 σ
noncomputable def m_play_list_fn1 : List AV → Heap → Option (AV × Heap) := A.wrap true [(.a [.k, (.s 11)])] .k (A.ar2 r_play_list_fn1)
noncomputable def r_play_list (a0 a1 : AV) (σ : Heap) : Option (AV × Heap) :=
 (A.cells 5 a0).bind fun c1 =>
 (((A.cell a1).bind fun v => some [v]).bind fun cs => some (AV.rp cs)).bind fun x2 =>
 (A.part1 3 c1).bind fun x3 =>
 (m_slices_IndexFunc_api_List (A.tab (fun _ _ => none) [(127, m_play_list_fn1), (127, m_play_list_fn1)]) [x3, (AV.fn 127 [x2])] σ).bind fun r4 =>
 (A.lss r4.1 (AV.int .i64 0)).bind fun x5 =>
 A.cond x5 (
  (A.cells 2 (AV.agg [(AV.int .i64 0), AV.nsl])).bind fun c6 =>
  (A.splice 0 c6 [(AV.int .i64 0), AV.nsl]).bind fun c7 =>
  (A.partA 0 2 c7).bind fun x8 =>
  A.fin σ (AV.tup [x8, (AV.bool false)]) r4.2) (
  (A.part1 3 c1).bind fun x9 =>
  (A.iaddr 2 x9 r4.1).bind fun x10 =>
  ((A.deref x10 r4.2).bind fun c11 => A.partA 0 2 c11).bind fun x12 =>
  (A.cells 2 x12).bind fun c13 =>
  (A.splice 0 c13 [(AV.int .i64 0), AV.nsl]).bind fun c14 =>
  (A.partA 0 2 c14).bind fun x15 =>
  A.fin σ (AV.tup [x15, (AV.bool true)]) r4.2)
noncomputable def m_play_list : List AV → Heap → Option (AV × Heap) := A.wrap true [(.a [(.s 3), (.s 4), (.s 3), (.s 2), (.s 3)])] (.t [(.a [.k, (.e 11 [.k, .k, .k, .k, .k, .k, .k, (.s 2), .k, .k, (.s 8)])]), .k]) (A.ar2 r_play_list)
noncomputable def r_play_CheckSetup (a0 : AV) (σ : Heap) : Option (AV × Heap) :=
 (A.cells 5 a0).bind fun c1 =>
 (A.partA 0 2 c1).bind fun x2 =>
 (A.part1 2 c1).bind fun x3 =>
 (A.quiet (m_pick_CheckPresets [x2, x3] σ) σ).bind fun x4 =>
 (A.part1 3 c1).bind fun x5 =>
 (A.lenS x5).bind fun x6 =>
 (A.gtr x6 (AV.int .i64 30)).bind fun x7 =>
 (A.quiet (m_word_When [x7, (AV.int .i64 2)] σ) σ).bind fun x8 =>
 ((((A.cell x4).bind fun v => some [v]).bind fun c9 => (A.splice 0 c9 [(AV.int .i64 0), (AV.int .i64 0)]).bind fun c10 => ((A.cell x8).bind fun v => some [v]).bind fun c11 => (A.splice 1 c11 c10).bind fun c12 => some c12).bind fun cs => some (AV.sl 1 (chunks 1 2 cs))).bind fun x13 =>
 (A.quiet (m_word_First [x13] σ) σ).bind fun x14 =>
 (A.neq .i x14 (AV.int .i64 0)).bind fun x15 =>
 A.cond x15 (
  A.fin σ x14 σ) (
  (A.part1 3 c1).bind fun x16 =>
  (A.lenS x16).bind fun x17 =>
  (A.loop (fun v18 s19 =>
    (A.lss (v18.getD 2 AV.undef) x17).bind fun x21 =>
    A.cond x21 (
     (A.iaddr 2 x16 (v18.getD 2 AV.undef)).bind fun x22 =>
     ((A.deref x22 s19).bind fun c23 => A.partA 0 2 c23).bind fun x24 =>
     (A.cells 2 x24).bind fun c25 =>
     (A.splice 0 c25 [(AV.int .i64 0), AV.nsl]).bind fun c26 =>
     (A.part1 0 c26).bind fun x27 =>
     (m_word_Within [x27, (AV.int .i64 1), (AV.int .i64 999)] s19).bind fun r28 =>
     (A.not r28.1).bind fun x29 =>
     A.cond x29 (
      some (AX.ret, [(v18.getD 0 AV.undef), (AV.int .i64 1), (v18.getD 2 AV.undef)], r28.2)) (
      (A.gtr (v18.getD 2 AV.undef) (AV.int .i64 0)).bind fun x30 =>
      (A.guard x30 true (A.part1 0 c26) (some (AV.tup []))).bind fun x31 =>
      ((A.lb (v18.getD 0 AV.undef)).bind fun _ => some (3)).bind fun p32 =>
            (A.guard x30 true ((A.lb (v18.getD 0 AV.undef)).bind fun c33 => A.part1 p32 c33) (some (AV.tup []))).bind fun x34 =>
      (A.guard x30 true (some (v18.getD 2 AV.undef)) (some (AV.tup []))).bind fun x35 =>
      (A.guard x30 true (A.sub x35 (AV.int .i64 1)) (some (AV.tup []))).bind fun x36 =>
      (A.guard x30 true (A.iaddr 2 x34 x36) (some (AV.tup []))).bind fun x37 =>
      (A.guard x30 true (A.faddr 0 x37) (some (AV.tup []))).bind fun x38 =>
      (A.guard x30 true ((A.deref x38 r28.2).bind fun c39 => A.part1 0 c39) (some (AV.tup []))).bind fun x40 =>
      (A.guard x30 true (A.leq x31 x40) (some (AV.tup []))).bind fun x41 =>
      (A.pick x30 x41 (AV.bool false)).bind fun x42 =>
      A.cond x42 (
       some (AX.ret, [(v18.getD 0 AV.undef), (AV.int .i64 7), (v18.getD 2 AV.undef)], r28.2)) (
       ((A.lb (v18.getD 0 AV.undef)).bind fun _ => some (0)).bind fun p43 =>
       ((A.lb (v18.getD 0 AV.undef)).bind fun c44 => A.partA p43 2 c44).bind fun x45 =>
       ((A.lb (v18.getD 0 AV.undef)).bind fun _ => some (2)).bind fun p46 =>
       ((A.lb (v18.getD 0 AV.undef)).bind fun c47 => A.part1 p46 c47).bind fun x48 =>
       (A.part1 1 c26).bind fun x49 =>
       (m_cue_CheckList [x45, x48, x49] r28.2).bind fun r50 =>
       (A.neq .i r50.1 (AV.int .i64 0)).bind fun x51 =>
       A.cond x51 (
        some (AX.ret, [(v18.getD 0 AV.undef), r50.1, (v18.getD 2 AV.undef)], r50.2)) (
        (A.add (v18.getD 2 AV.undef) (AV.int .i64 1)).bind fun x52 =>
        some (AX.normal, [(v18.getD 0 AV.undef), (v18.getD 1 AV.undef), x52], r50.2))))) (
     some (AX.exit 0, [(v18.getD 0 AV.undef), (v18.getD 1 AV.undef), (v18.getD 2 AV.undef)], s19))) [(AV.lbx c1), (AV.int .i64 0), (AV.int .i64 0)] σ).bind fun r53 =>
  bif r53.1 == AX.exit 0 then (
   ((A.lb (r53.2.1.getD 0 AV.undef)).bind fun _ => some (4)).bind fun p54 =>
   ((A.lb (r53.2.1.getD 0 AV.undef)).bind fun c55 => A.part1 p54 c55).bind fun x56 =>
   (A.lenS x56).bind fun x57 =>
   (A.gtr x57 (AV.int .i64 40)).bind fun x58 =>
   A.cond x58 (
    A.fin σ (AV.int .i64 2) r53.2.2) (
    ((A.lb (r53.2.1.getD 0 AV.undef)).bind fun _ => some (4)).bind fun p59 =>
    ((A.lb (r53.2.1.getD 0 AV.undef)).bind fun c60 => A.part1 p59 c60).bind fun x61 =>
    (A.lenS x61).bind fun x62 =>
    (A.loop (fun v63 s64 =>
      (A.lss (v63.getD 2 AV.undef) x62).bind fun x66 =>
      A.cond x66 (
       (A.iaddr 3 x61 (v63.getD 2 AV.undef)).bind fun x67 =>
       ((A.deref x67 s64).bind fun c68 => A.partA 0 3 c68).bind fun x69 =>
       (A.cells 3 x69).bind fun c70 =>
       (A.splice 0 c70 [(AV.int .i64 0), (AV.int .i64 0), (AV.int .i64 0)]).bind fun c71 =>
       (A.part1 0 c71).bind fun x72 =>
       (m_word_Within [x72, (AV.int .i64 1), (AV.int .i64 40)] s64).bind fun r73 =>
       (A.not r73.1).bind fun x74 =>
       A.cond x74 (
        some (AX.ret, [(v63.getD 0 AV.undef), (AV.int .i64 1), (v63.getD 2 AV.undef)], r73.2)) (
        (A.gtr (v63.getD 2 AV.undef) (AV.int .i64 0)).bind fun x75 =>
        (A.guard x75 true (A.part1 0 c71) (some (AV.tup []))).bind fun x76 =>
        ((A.lb (v63.getD 0 AV.undef)).bind fun _ => some (4)).bind fun p77 =>
                (A.guard x75 true ((A.lb (v63.getD 0 AV.undef)).bind fun c78 => A.part1 p77 c78) (some (AV.tup []))).bind fun x79 =>
        (A.guard x75 true (some (v63.getD 2 AV.undef)) (some (AV.tup []))).bind fun x80 =>
        (A.guard x75 true (A.sub x80 (AV.int .i64 1)) (some (AV.tup []))).bind fun x81 =>
        (A.guard x75 true (A.iaddr 3 x79 x81) (some (AV.tup []))).bind fun x82 =>
        (A.guard x75 true (A.faddr 0 x82) (some (AV.tup []))).bind fun x83 =>
        (A.guard x75 true ((A.deref x83 r73.2).bind fun c84 => A.part1 0 c84) (some (AV.tup []))).bind fun x85 =>
        (A.guard x75 true (A.leq x76 x85) (some (AV.tup []))).bind fun x86 =>
        (A.pick x75 x86 (AV.bool false)).bind fun x87 =>
        A.cond x87 (
         some (AX.ret, [(v63.getD 0 AV.undef), (AV.int .i64 7), (v63.getD 2 AV.undef)], r73.2)) (
         ((A.lb (v63.getD 0 AV.undef)).bind fun c88 => A.partA 0 5 c88).bind fun x89 =>
         (A.part1 1 c71).bind fun x90 =>
         (m_play_list [x89, x90] r73.2).bind fun r91 =>
         (A.ext 0 r91.1).bind fun x92 =>
         (A.ext 1 r91.1).bind fun x93 =>
         (A.cells 2 x92).bind fun c94 =>
         (A.splice 0 c94 [(AV.int .i64 0), AV.nsl]).bind fun c95 =>
         (A.not x93).bind fun x96 =>
         A.cond x96 (
          some (AX.ret, [(v63.getD 0 AV.undef), (AV.int .i64 8), (v63.getD 2 AV.undef)], r91.2)) (
          (A.part1 2 c71).bind fun x97 =>
          (m_word_Within [x97, (AV.int .i64 0), (AV.int .i64 100)] r91.2).bind fun r98 =>
          (A.not r98.1).bind fun x99 =>
          A.cond x99 (
           some (AX.ret, [(v63.getD 0 AV.undef), (AV.int .i64 1), (v63.getD 2 AV.undef)], r98.2)) (
           (A.add (v63.getD 2 AV.undef) (AV.int .i64 1)).bind fun x100 =>
           some (AX.normal, [(v63.getD 0 AV.undef), (v63.getD 1 AV.undef), x100], r98.2)))))) (
       some (AX.exit 2, [(v63.getD 0 AV.undef), (v63.getD 1 AV.undef), (v63.getD 2 AV.undef)], s64))) [(r53.2.1.getD 0 AV.undef), (r53.2.1.getD 1 AV.undef), (AV.int .i64 0)] r53.2.2).bind fun r101 =>
    bif r101.1 == AX.exit 2 then (
     A.fin σ (AV.int .i64 0) r101.2.2) else
    bif r101.1 == AX.ret then (
     A.fin σ (r101.2.1.getD 1 AV.undef) r101.2.2) else
    none)) else
  bif r53.1 == AX.ret then (
   A.fin σ (r53.2.1.getD 1 AV.undef) r53.2.2) else
  none)
noncomputable def m_play_CheckSetup : List AV → Heap → Option (AV × Heap) := A.wrap true [(.a [(.s 3), (.s 4), (.s 3), (.s 2), (.s 3)])] .k (A.ar1 r_play_CheckSetup)
noncomputable def r_play_CheckFields (a0 : AV) (σ : Heap) : Option (AV × Heap) :=
 (A.cells 5 a0).bind fun c1 =>
 (A.part1 1 c1).bind fun x2 =>
 (m_word_Within [x2, (AV.int .i64 1), (AV.int .i64 9)] σ).bind fun r3 =>
 (A.not r3.1).bind fun x4 =>
 A.cond x4 (
  A.fin σ (AV.int .i64 4) r3.2) (
  (A.part1 1 c1).bind fun x5 =>
  (A.eql .i x5 (AV.int .i64 8)).bind fun x6 =>
  (A.guard x6 false (A.part1 1 c1) (some (AV.tup []))).bind fun x7 =>
  (A.guard x6 false (A.eql .i x7 (AV.int .i64 9)) (some (AV.tup []))).bind fun x8 =>
  (A.pick x6 (AV.bool true) x8).bind fun x9 =>
  (A.guard x9 false (A.part1 1 c1) (some (AV.tup []))).bind fun x10 =>
  (A.guard x9 false (A.eql .i x10 (AV.int .i64 6)) (some (AV.tup []))).bind fun x11 =>
  (A.pick x9 (AV.bool true) x11).bind fun x12 =>
  (A.guard x12 false (A.part1 1 c1) (some (AV.tup []))).bind fun x13 =>
  (A.guard x12 false (A.eql .i x13 (AV.int .i64 7)) (some (AV.tup []))).bind fun x14 =>
  (A.pick x12 (AV.bool true) x14).bind fun x15 =>
  (A.guard x9 true (A.part1 2 c1) (some (AV.tup []))).bind fun x16 =>
  (A.guard x9 true (A.neq .i x16 (AV.int .i64 0)) (some (AV.tup []))).bind fun x17 =>
  (A.pick x9 x17 (AV.bool false)).bind fun x18 =>
  (A.guard x18 false (A.part1 1 c1) (some (AV.tup []))).bind fun x19 =>
  (A.guard x18 false (A.neq .i x19 (AV.int .i64 3)) (some (AV.tup []))).bind fun x20 =>
  (A.guard x18 false (some x20) (some (AV.tup []))).bind fun x21 =>
  (A.guard x21 true (A.part1 3 c1) (some (AV.tup []))).bind fun x22 =>
  (A.guard x21 true (A.neq .i x22 (AV.int .i64 0)) (some (AV.tup []))).bind fun x23 =>
  (A.guard x18 false (A.pick x21 x23 (AV.bool false)) (some (AV.tup []))).bind fun x24 =>
  (A.pick x18 (AV.bool true) x24).bind fun x25 =>
  (A.guard x25 false (some x15) (some (AV.tup []))).bind fun x26 =>
  (A.guard x25 false (A.not x26) (some (AV.tup []))).bind fun x27 =>
  (A.guard x25 false (some x27) (some (AV.tup []))).bind fun x28 =>
  (A.guard x28 true (A.part1 4 c1) (some (AV.tup []))).bind fun x29 =>
  (A.guard x28 true (A.neq .i x29 (AV.int .i64 0)) (some (AV.tup []))).bind fun x30 =>
  (A.guard x25 false (A.pick x28 x30 (AV.bool false)) (some (AV.tup []))).bind fun x31 =>
  (A.pick x25 (AV.bool true) x31).bind fun x32 =>
  A.cond x32 (
   A.fin σ (AV.int .i64 3) r3.2) (
   A.fin σ (AV.int .i64 0) r3.2))
noncomputable def m_play_CheckFields : List AV → Heap → Option (AV × Heap) := A.wrap true [] .k (A.ar1 r_play_CheckFields)
noncomputable def r_play_CheckRanges_fn1 (a0 a1 : AV) (σ : Heap) : Option (AV × Heap) :=
 (A.cells 3 a0).bind fun c1 =>
 (A.part1 0 c1).bind fun x2 =>
 (A.faddr 2 a1).bind fun x3 =>
 ((A.deref x3 σ).bind fun c4 => A.part1 0 c4).bind fun x5 =>
 (A.eql .i x2 x5).bind fun x6 =>
 A.fin σ x6 σ
noncomputable def m_play_CheckRanges_fn1 : List AV → Heap → Option (AV × Heap) := A.wrap true [] .k (A.ar2 r_play_CheckRanges_fn1)
noncomputable def r_play_CheckRanges (a0 a1 : AV) (σ : Heap) : Option (AV × Heap) :=
 (A.cells 5 a0).bind fun c1 =>
 ((A.cells 5 a1).bind fun cs => some (AV.rp cs)).bind fun x2 =>
 (A.faddr 1 x2).bind fun x3 =>
 ((A.deref x3 σ).bind fun c4 => A.part1 0 c4).bind fun x5 =>
 (A.eql .i x5 (AV.int .i64 8)).bind fun x6 =>
 (A.guard x6 false (A.faddr 1 x2) (some (AV.tup []))).bind fun x7 =>
 (A.guard x6 false ((A.deref x7 σ).bind fun c8 => A.part1 0 c8) (some (AV.tup []))).bind fun x9 =>
 (A.guard x6 false (A.eql .i x9 (AV.int .i64 9)) (some (AV.tup []))).bind fun x10 =>
 (A.pick x6 (AV.bool true) x10).bind fun x11 =>
 (A.not x11).bind fun x12 =>
 (A.guard x12 true (A.part1 4 c1) (some (AV.tup []))).bind fun x13 =>
 (A.guard x12 true (some (AV.fn 152 [x2])) (some (AV.tup []))).bind fun x14 =>
 (A.guard x12 true (A.quiet (m_slices_ContainsFunc_api_Playback (A.tab (fun _ _ => none) [(152, m_play_CheckRanges_fn1), (152, m_play_CheckRanges_fn1)]) [x13, x14] σ) σ) (some (AV.tup []))).bind fun x15 =>
 (A.guard x12 true (A.not x15) (some (AV.tup []))).bind fun x16 =>
 (A.pick x12 x16 (AV.bool false)).bind fun x17 =>
 A.cond x17 (
  A.fin σ (AV.int .i64 8) σ) (
  (A.faddr 1 x2).bind fun x18 =>
  ((A.deref x18 σ).bind fun c19 => A.part1 0 c19).bind fun x20 =>
  (A.eql .i x20 (AV.int .i64 6)).bind fun x21 =>
  (A.cond x21 (
   some ([(AV.int .i64 36000000)], σ)) (
   (A.eql .i x20 (AV.int .i64 9)).bind fun x23 =>
   (A.cond x23 (
    some ([(AV.int .i64 1)], σ)) (
    some ([(AV.int .i64 65535)], σ))).bind fun r24 =>
   some ([(r24.1.getD 0 AV.undef)], r24.2))).bind fun r22 =>
  (A.faddr 4 x2).bind fun x25 =>
  ((A.deref x25 r22.2).bind fun c26 => A.part1 0 c26).bind fun x27 =>
  (m_word_Within [x27, (AV.int .i64 0), (r22.1.getD 0 AV.undef)] r22.2).bind fun r28 =>
  (A.not r28.1).bind fun x29 =>
  (m_word_When [x29, (AV.int .i64 1)] r28.2).bind fun r30 =>
  A.fin σ r30.1 r30.2)
noncomputable def m_play_CheckRanges : List AV → Heap → Option (AV × Heap) := A.wrap true [(.a [(.s 3), (.s 4), (.s 3), (.s 2), (.s 3)])] .k (A.ar2 r_play_CheckRanges)
end Go.Proofs.Ytohbeolimnpehaa

namespace Go.Proofs.Ytohbeolimnpehaa
set_option linter.unusedSectionVars false
set_option linter.unusedSimpArgs false
set_option linter.unusedVariables false
set_option maxRecDepth 100000
noncomputable def r_stamp_speed (a0 : AV) (σ : Heap) : Option (AV × Heap) :=
 (A.eql .i a0 (AV.int .i64 24)).bind fun x1 =>
 (A.cond x1 (
  some ([x1], σ)) (
  (A.eql .i a0 (AV.int .i64 25)).bind fun x3 =>
  (A.cond x3 (
   some ([x3], σ)) (
   (A.eql .i a0 (AV.int .i64 30)).bind fun x5 =>
   some ([x5], σ))).bind fun r4 =>
  some ([(r4.1.getD 0 AV.undef)], r4.2))).bind fun r2 =>
 A.cond (r2.1.getD 0 AV.undef) (
  A.fin σ (AV.tup [a0, (AV.int .i64 1), (AV.bool true)]) r2.2) (
  (A.eql .i a0 (AV.int .i64 29)).bind fun x6 =>
  A.cond x6 (
   A.fin σ (AV.tup [(AV.int .i64 30000), (AV.int .i64 1001), (AV.bool true)]) r2.2) (
   A.fin σ (AV.tup [(AV.int .i64 0), (AV.int .i64 0), (AV.bool false)]) r2.2))
noncomputable def m_stamp_speed : List AV → Heap → Option (AV × Heap) := A.wrap true [] .k (A.ar1 r_stamp_speed)
noncomputable def r_stamp_mode (a0 : AV) (σ : Heap) : Option (AV × Heap) :=
 (m_stamp_speed [a0] σ).bind fun r1 =>
 (A.ext 0 r1.1).bind fun x2 =>
 (A.ext 1 r1.1).bind fun x3 =>
 (A.ext 2 r1.1).bind fun x4 =>
 (A.not x4).bind fun x5 =>
 (m_word_When [x5, (AV.int .i64 16)] r1.2).bind fun r6 =>
 A.fin σ r6.1 r6.2
noncomputable def m_stamp_mode : List AV → Heap → Option (AV × Heap) := A.wrap true [] .k (A.ar1 r_stamp_mode)
noncomputable def r_stamp_day (a0 : AV) (σ : Heap) : Option (AV × Heap) :=
 (A.eql .i a0 (AV.int .i64 29)).bind fun x1 =>
 A.cond x1 (
  A.fin σ (AV.int .i64 2589408) σ) (
  (A.mul (AV.int .i64 86400) a0).bind fun x2 =>
  A.fin σ x2 σ)
noncomputable def m_stamp_day : List AV → Heap → Option (AV × Heap) := A.wrap true [] .k (A.ar1 r_stamp_day)
noncomputable def r_stamp_cuesOf (a0 a1 : AV) (σ : Heap) : Option (AV × Heap) :=
 (A.cells 5 a0).bind fun c1 =>
 (A.part1 4 c1).bind fun x2 =>
 (A.lenS x2).bind fun x3 =>
 (A.loop (fun v4 s5 =>
   (A.lss (v4.getD 2 AV.undef) x3).bind fun x7 =>
   A.cond x7 (
    (A.iaddr 3 x2 (v4.getD 2 AV.undef)).bind fun x8 =>
    ((A.deref x8 s5).bind fun c9 => A.partA 0 3 c9).bind fun x10 =>
    (A.cells 3 x10).bind fun c11 =>
    (A.splice 0 c11 [(AV.int .i64 0), (AV.int .i64 0), (AV.int .i64 0)]).bind fun c12 =>
    ((A.lb (v4.getD 0 AV.undef)).bind fun _ => some (3)).bind fun p13 =>
    ((A.lb (v4.getD 0 AV.undef)).bind fun c14 => A.part1 p13 c14).bind fun x15 =>
    (A.lenS x15).bind fun x16 =>
    (A.loop (fun v17 s18 =>
      (A.lss (v17.getD 3 AV.undef) x16).bind fun x20 =>
      A.cond x20 (
       (A.iaddr 2 x15 (v17.getD 3 AV.undef)).bind fun x21 =>
       ((A.deref x21 s18).bind fun c22 => A.partA 0 2 c22).bind fun x23 =>
       (A.cells 2 x23).bind fun c24 =>
       (A.splice 0 c24 [(AV.int .i64 0), AV.nsl]).bind fun c25 =>
       ((A.lb (v17.getD 2 AV.undef)).bind fun _ => some (0)).bind fun p26 =>
       ((A.lb (v17.getD 2 AV.undef)).bind fun c27 => A.part1 p26 c27).bind fun x28 =>
       (A.eql .i x28 a1).bind fun x29 =>
       (A.guard x29 true (A.part1 0 c25) (some (AV.tup []))).bind fun x30 =>
       ((A.lb (v17.getD 2 AV.undef)).bind fun _ => some (1)).bind fun p31 =>
              (A.guard x29 true ((A.lb (v17.getD 2 AV.undef)).bind fun c32 => A.part1 p31 c32) (some (AV.tup []))).bind fun x33 =>
       (A.guard x29 true (A.eql .i x30 x33) (some (AV.tup []))).bind fun x34 =>
       (A.pick x29 x34 (AV.bool false)).bind fun x35 =>
       A.cond x35 (
        (A.part1 1 c25).bind fun x36 =>
        some (AX.ret, [(v17.getD 0 AV.undef), x36, (v17.getD 2 AV.undef), (v17.getD 3 AV.undef)], s18)) (
        (A.add (v17.getD 3 AV.undef) (AV.int .i64 1)).bind fun x37 =>
        some (AX.normal, [(v17.getD 0 AV.undef), (v17.getD 1 AV.undef), (v17.getD 2 AV.undef), x37], s18))) (
       some (AX.exit 2, [(v17.getD 0 AV.undef), (v17.getD 1 AV.undef), (v17.getD 2 AV.undef), (v17.getD 3 AV.undef)], s18))) [(v4.getD 0 AV.undef), (v4.getD 1 AV.undef), (AV.lbx c12), (AV.int .i64 0)] s5).bind fun r38 =>
    bif r38.1 == AX.exit 2 then (
     (A.add (v4.getD 2 AV.undef) (AV.int .i64 1)).bind fun x39 =>
     some (AX.normal, [(r38.2.1.getD 0 AV.undef), (r38.2.1.getD 1 AV.undef), x39], r38.2.2)) else
    bif r38.1 == AX.ret then (
     some (AX.ret, [(r38.2.1.getD 0 AV.undef), (r38.2.1.getD 1 AV.undef), (v4.getD 2 AV.undef)], r38.2.2)) else
    none) (
    some (AX.exit 0, [(v4.getD 0 AV.undef), (v4.getD 1 AV.undef), (v4.getD 2 AV.undef)], s5))) [(AV.lbx c1), AV.nsl, (AV.int .i64 0)] σ).bind fun r40 =>
 bif r40.1 == AX.exit 0 then (
  A.fin σ AV.nsl r40.2.2) else
 bif r40.1 == AX.ret then (
  A.fin σ (r40.2.1.getD 1 AV.undef) r40.2.2) else
 none
noncomputable def m_stamp_cuesOf : List AV → Heap → Option (AV × Heap) := A.wrap true [(.a [(.s 3), (.s 4), (.s 3), (.s 2), (.s 3)])] (.e 11 [.k, .k, .k, .k, .k, .k, .k, (.s 2), .k, .k, (.s 8)]) (A.ar2 r_stamp_cuesOf)
noncomputable def r_stamp_CheckEvents_fn1 (a0 a1 : AV) (σ : Heap) : Option (AV × Heap) :=
 (A.cells 11 a0).bind fun c1 =>
 (A.part1 0 c1).bind fun x2 =>
 (A.faddr 3 a1).bind fun x3 =>
 ((A.deref x3 σ).bind fun c4 => A.part1 0 c4).bind fun x5 =>
 (A.eql .i x2 x5).bind fun x6 =>
 A.fin σ x6 σ
noncomputable def m_stamp_CheckEvents_fn1 : List AV → Heap → Option (AV × Heap) := A.wrap true [(.a [.k, .k, .k, .k, .k, .k, .k, (.s 2), .k, .k, (.s 8)])] .k (A.ar2 r_stamp_CheckEvents_fn1)
noncomputable def r_stamp_CheckEvents (a0 a1 a2 : AV) (σ : Heap) : Option (AV × Heap) :=
 (A.cells 5 a0).bind fun c1 =>
 (A.partA 0 5 c1).bind fun x2 =>
 (m_play_CheckSetup [x2] σ).bind fun r3 =>
 (m_stamp_mode [a1] r3.2).bind fun r4 =>
 (A.lenS a2).bind fun x5 =>
 (A.gtr x5 (AV.int .i64 2000)).bind fun x6 =>
 (m_word_When [x6, (AV.int .i64 2)] r4.2).bind fun r7 =>
 ((((A.cell r3.1).bind fun v => some [v]).bind fun c8 => (A.splice 0 c8 [(AV.int .i64 0), (AV.int .i64 0), (AV.int .i64 0)]).bind fun c9 => ((A.cell r4.1).bind fun v => some [v]).bind fun c10 => (A.splice 1 c10 c9).bind fun c11 => ((A.cell r7.1).bind fun v => some [v]).bind fun c12 => (A.splice 2 c12 c11).bind fun c13 => some c13).bind fun cs => some (AV.sl 1 (chunks 1 3 cs))).bind fun x14 =>
 (m_word_First [x14] r7.2).bind fun r15 =>
 (A.neq .i r15.1 (AV.int .i64 0)).bind fun x16 =>
 A.cond x16 (
  A.fin σ r15.1 r15.2) (
  (A.lenS a2).bind fun x17 =>
  (A.loop (fun v18 s19 =>
    (A.lss (v18.getD 2 AV.undef) x17).bind fun x21 =>
    A.cond x21 (
     (A.iaddr 6 a2 (v18.getD 2 AV.undef)).bind fun x22 =>
     ((A.deref x22 s19).bind fun c23 => A.partA 0 6 c23).bind fun x24 =>
     (A.cells 6 x24).bind fun c25 =>
     (A.splice 0 c25 [(AV.int .i64 0), (AV.int .i64 0), (AV.int .i64 0), (AV.int .i64 0), (AV.int .i64 0), (AV.int .i64 0)]).bind fun c26 =>
     (A.partA 1 5 c26).bind fun x27 =>
     (A.cells 5 x27).bind fun c28 =>
     (A.storeAt (AV.op s19.length 0) c28 (s19 ++ [Blk.box [(AV.int .i64 0), (AV.int .i64 0), (AV.int .i64 0), (AV.int .i64 0), (AV.int .i64 0)]])).bind fun c29 =>
     (A.part1 0 c26).bind fun x30 =>
     (A.quiet (m_stamp_day [a1] c29) c29).bind fun x31 =>
     (A.sub x31 (AV.int .i64 1)).bind fun x32 =>
     (A.quiet (m_word_Within [x30, (AV.int .i64 0), x32] c29) c29).bind fun x33 =>
     (A.not x33).bind fun x34 =>
     (A.quiet (m_word_When [x34, (AV.int .i64 1)] c29) c29).bind fun x35 =>
     (A.gtr (v18.getD 2 AV.undef) (AV.int .i64 0)).bind fun x36 =>
     (A.guard x36 true (A.part1 0 c26) (some (AV.tup []))).bind fun x37 =>
     (A.guard x36 true (some a2) (some (AV.tup []))).bind fun x38 =>
     (A.guard x36 true (some (v18.getD 2 AV.undef)) (some (AV.tup []))).bind fun x39 =>
     (A.guard x36 true (A.sub x39 (AV.int .i64 1)) (some (AV.tup []))).bind fun x40 =>
     (A.guard x36 true (A.iaddr 6 x38 x40) (some (AV.tup []))).bind fun x41 =>
     (A.guard x36 true (A.faddr 0 x41) (some (AV.tup []))).bind fun x42 =>
     (A.guard x36 true ((A.deref x42 c29).bind fun c43 => A.part1 0 c43) (some (AV.tup []))).bind fun x44 =>
     (A.guard x36 true (A.lss x37 x44) (some (AV.tup []))).bind fun x45 =>
     (A.pick x36 x45 (AV.bool false)).bind fun x46 =>
     (A.quiet (m_word_When [x46, (AV.int .i64 7)] c29) c29).bind fun x47 =>
     ((((A.cell x35).bind fun v => some [v]).bind fun c48 => (A.splice 0 c48 [(AV.int .i64 0), (AV.int .i64 0)]).bind fun c49 => ((A.cell x47).bind fun v => some [v]).bind fun c50 => (A.splice 1 c50 c49).bind fun c51 => some c51).bind fun cs => some (AV.sl 1 (chunks 1 2 cs))).bind fun x52 =>
     (A.quiet (m_word_First [x52] c29) c29).bind fun x53 =>
     ((A.deref (AV.op s19.length 0) c29).bind fun c54 => A.partA 0 5 c54).bind fun x55 =>
     (A.quiet (m_play_CheckFields [x55] c29) c29).bind fun x56 =>
     (A.faddr 0 (AV.op s19.length 0)).bind fun x57 =>
     ((A.deref x57 c29).bind fun c58 => A.part1 0 c58).bind fun x59 =>
     (A.neq .i x59 (AV.int .i64 0)).bind fun x60 =>
     (A.quiet (m_word_When [x60, (AV.int .i64 3)] c29) c29).bind fun x61 =>
     ((A.lb (v18.getD 0 AV.undef)).bind fun c62 => A.partA 0 5 c62).bind fun x63 =>
     ((A.deref (AV.op s19.length 0) c29).bind fun c64 => A.partA 0 5 c64).bind fun x65 =>
     (A.quiet (m_play_CheckRanges [x63, x65] c29) c29).bind fun x66 =>
     ((((A.cell x53).bind fun v => some [v]).bind fun c67 => (A.splice 0 c67 [(AV.int .i64 0), (AV.int .i64 0), (AV.int .i64 0), (AV.int .i64 0)]).bind fun c68 => ((A.cell x56).bind fun v => some [v]).bind fun c69 => (A.splice 1 c69 c68).bind fun c70 => ((A.cell x61).bind fun v => some [v]).bind fun c71 => (A.splice 2 c71 c70).bind fun c72 => ((A.cell x66).bind fun v => some [v]).bind fun c73 => (A.splice 3 c73 c72).bind fun c74 => some c74).bind fun cs => some (AV.sl 1 (chunks 1 4 cs))).bind fun x75 =>
     (A.quiet (m_word_First [x75] c29) c29).bind fun x76 =>
     (A.neq .i x76 (AV.int .i64 0)).bind fun x77 =>
     A.cond x77 (
      some (AX.ret, [(v18.getD 0 AV.undef), x76, (v18.getD 2 AV.undef)], c29)) (
      (A.faddr 1 (AV.op s19.length 0)).bind fun x78 =>
      ((A.deref x78 c29).bind fun c79 => A.part1 0 c79).bind fun x80 =>
      (A.eql .i x80 (AV.int .i64 3)).bind fun x81 =>
      (A.guard x81 true ((A.lb (v18.getD 0 AV.undef)).bind fun c82 => A.partA 0 5 c82) (some (AV.tup []))).bind fun x83 =>
      (A.guard x81 true (A.faddr 2 (AV.op s19.length 0)) (some (AV.tup []))).bind fun x84 =>
      (A.guard x81 true ((A.deref x84 c29).bind fun c85 => A.part1 0 c85) (some (AV.tup []))).bind fun x86 =>
      (A.guard x81 true (A.quiet (m_stamp_cuesOf [x83, x86] c29) c29) (some (AV.tup []))).bind fun x87 =>
      (A.guard x81 true (some (AV.fn 157 [(AV.op s19.length 0)])) (some (AV.tup []))).bind fun x88 =>
      (A.guard x81 true (A.quiet (m_slices_ContainsFunc_api_Cue (A.tab (fun _ _ => none) [(157, m_stamp_CheckEvents_fn1), (157, m_stamp_CheckEvents_fn1)]) [x87, x88] c29) c29) (some (AV.tup []))).bind fun x89 =>
      (A.guard x81 true (A.not x89) (some (AV.tup []))).bind fun x90 =>
      (A.pick x81 x90 (AV.bool false)).bind fun x91 =>
      A.cond x91 (
       some (AX.ret, [(v18.getD 0 AV.undef), (AV.int .i64 8), (v18.getD 2 AV.undef)], c29)) (
       (A.add (v18.getD 2 AV.undef) (AV.int .i64 1)).bind fun x92 =>
       some (AX.normal, [(v18.getD 0 AV.undef), (v18.getD 1 AV.undef), x92], c29)))) (
     some (AX.exit 0, [(v18.getD 0 AV.undef), (v18.getD 1 AV.undef), (v18.getD 2 AV.undef)], s19))) [(AV.lbx c1), (AV.int .i64 0), (AV.int .i64 0)] r15.2).bind fun r93 =>
  bif r93.1 == AX.exit 0 then (
   A.fin σ (AV.int .i64 0) r93.2.2) else
  bif r93.1 == AX.ret then (
   A.fin σ (r93.2.1.getD 1 AV.undef) r93.2.2) else
  none)
noncomputable def m_stamp_CheckEvents : List AV → Heap → Option (AV × Heap) := A.wrap true [(.a [(.s 3), (.s 4), (.s 3), (.s 2), (.s 3)]), .k, (.s 6)] .k (A.ar3 r_stamp_CheckEvents)
noncomputable def r_stamp_due (a0 a1 a2 a3 a4 : AV) (σ : Heap) : Option (AV × Heap) :=
 (A.cells 5 a0).bind fun c1 =>
 (A.partA 0 5 c1).bind fun x2 =>
 (m_stamp_CheckEvents [x2, a1, a2] σ).bind fun r3 =>
 (A.leq (AV.int .i64 0) a3).bind fun x4 =>
 (A.guard x4 true (some a3) (some (AV.tup []))).bind fun x5 =>
 (A.guard x4 true (some a4) (some (AV.tup []))).bind fun x6 =>
 (A.guard x4 true (A.leq x5 x6) (some (AV.tup []))).bind fun x7 =>
 (A.pick x4 x7 (AV.bool false)).bind fun x8 =>
 (A.guard x8 true (some a4) (some (AV.tup []))).bind fun x9 =>
 (A.guard x8 true (some a1) (some (AV.tup []))).bind fun x10 =>
 (A.guard x8 true (A.quiet (m_stamp_day [x10] r3.2) r3.2) (some (AV.tup []))).bind fun x11 =>
 (A.guard x8 true (A.leq x9 x11) (some (AV.tup []))).bind fun x12 =>
 (A.pick x8 x12 (AV.bool false)).bind fun x13 =>
 (A.not x13).bind fun x14 =>
 (m_word_When [x14, (AV.int .i64 1)] r3.2).bind fun r15 =>
 ((((A.cell r3.1).bind fun v => some [v]).bind fun c16 => (A.splice 0 c16 [(AV.int .i64 0), (AV.int .i64 0)]).bind fun c17 => ((A.cell r15.1).bind fun v => some [v]).bind fun c18 => (A.splice 1 c18 c17).bind fun c19 => some c19).bind fun cs => some (AV.sl 1 (chunks 1 2 cs))).bind fun x20 =>
 (m_word_First [x20] r15.2).bind fun r21 =>
 (A.neq .i r21.1 (AV.int .i64 0)).bind fun x22 =>
 A.cond x22 (
  A.fin σ (AV.tup [AV.nsl, r21.1]) r21.2) (
  (A.lenS a2).bind fun x23 =>
  (A.loop (fun v24 s25 =>
    (A.lss (v24.getD 1 AV.undef) x23).bind fun x27 =>
    A.cond x27 (
     (A.iaddr 6 a2 (v24.getD 1 AV.undef)).bind fun x28 =>
     ((A.deref x28 s25).bind fun c29 => A.partA 0 6 c29).bind fun x30 =>
     (A.cells 6 x30).bind fun c31 =>
     (A.splice 0 c31 [(AV.int .i64 0), (AV.int .i64 0), (AV.int .i64 0), (AV.int .i64 0), (AV.int .i64 0), (AV.int .i64 0)]).bind fun c32 =>
     (A.part1 0 c32).bind fun x33 =>
     (A.leq a3 x33).bind fun x34 =>
     (A.guard x34 true (A.part1 0 c32) (some (AV.tup []))).bind fun x35 =>
     (A.guard x34 true (some a4) (some (AV.tup []))).bind fun x36 =>
     (A.guard x34 true (A.lss x35 x36) (some (AV.tup []))).bind fun x37 =>
     (A.pick x34 x37 (AV.bool false)).bind fun x38 =>
     (A.cond x38 (
      (A.partA 0 6 c32).bind fun x40 =>
      (((A.cells 6 x40).bind fun c41 => (A.splice 0 c41 [(AV.int .i64 0), (AV.int .i64 0), (AV.int .i64 0), (AV.int .i64 0), (AV.int .i64 0), (AV.int .i64 0)]).bind fun c42 => some c42).bind fun cs => some (AV.sl 6 (chunks 6 1 cs))).bind fun x43 =>
      (A.append 6 (140737488355328 / 48) (v24.getD 0 AV.undef) x43 s25).bind fun r44 =>
      some ([r44.1], r44.2)) (
      some ([(v24.getD 0 AV.undef)], s25))).bind fun r39 =>
     (A.add (v24.getD 1 AV.undef) (AV.int .i64 1)).bind fun x45 =>
     some (AX.normal, [(r39.1.getD 0 AV.undef), x45], r39.2)) (
     some (AX.exit 0, [(v24.getD 0 AV.undef), (v24.getD 1 AV.undef)], s25))) [AV.nsl, (AV.int .i64 0)] r21.2).bind fun r46 =>
  bif r46.1 == AX.exit 0 then (
   A.fin σ (AV.tup [(r46.2.1.getD 0 AV.undef), (AV.int .i64 0)]) r46.2.2) else
  none)
noncomputable def m_stamp_due : List AV → Heap → Option (AV × Heap) := A.wrap true [(.a [(.s 3), (.s 4), (.s 3), (.s 2), (.s 3)]), .k, (.s 6)] (.t [(.s 6), .k]) (A.ar5 r_stamp_due)
noncomputable def r_stamp_Due (a0 a1 a2 a3 a4 : AV) (σ : Heap) : Option (AV × Heap) :=
 (A.cells 5 a0).bind fun c1 =>
 (A.partA 0 5 c1).bind fun x2 =>
 (m_stamp_due [x2, a1, a2, a3, a4] σ).bind fun r3 =>
 (A.ext 0 r3.1).bind fun x4 =>
 (A.ext 1 r3.1).bind fun x5 =>
 A.fin σ (AV.tup [x4, x5]) r3.2
noncomputable def m_stamp_Due : List AV → Heap → Option (AV × Heap) := A.wrap true [(.a [(.s 3), (.s 4), (.s 3), (.s 2), (.s 3)]), .k, (.s 6)] (.t [(.s 6), .k]) (A.ar5 r_stamp_Due)
noncomputable def r_stamp_Day (a0 : AV) (σ : Heap) : Option (AV × Heap) :=
 (m_stamp_mode [a0] σ).bind fun r1 =>
 (A.neq .i r1.1 (AV.int .i64 0)).bind fun x2 =>
 A.cond x2 (
  A.fin σ (AV.tup [(AV.int .i64 0), r1.1]) r1.2) (
  (m_stamp_day [a0] r1.2).bind fun r3 =>
  A.fin σ (AV.tup [r3.1, (AV.int .i64 0)]) r3.2)
noncomputable def m_stamp_Day : List AV → Heap → Option (AV × Heap) := A.wrap true [] .k (A.ar1 r_stamp_Day)
end Go.Proofs.Ytohbeolimnpehaa

namespace Go.Proofs.Ytohbeolimnpehaa
set_option linter.unusedSectionVars false
set_option linter.unusedSimpArgs false
set_option linter.unusedVariables false
set_option maxRecDepth 100000
noncomputable def r_W8_StampDueIsCut (a0 a1 a2 a3 a4 a5 : AV) (σ : Heap) : Option (AV × Heap) :=
 (A.cells 5 a0).bind fun c1 =>
 (A.partA 0 5 c1).bind fun x2 =>
 (m_stamp_Due [x2, a1, a2, a3, a4] σ).bind fun r3 =>
 (A.ext 0 r3.1).bind fun x4 =>
 (A.ext 1 r3.1).bind fun x5 =>
 (A.partA 0 5 c1).bind fun x6 =>
 (m_stamp_Due [x6, a1, a2, a4, a5] r3.2).bind fun r7 =>
 (A.ext 0 r7.1).bind fun x8 =>
 (A.ext 1 r7.1).bind fun x9 =>
 (A.partA 0 5 c1).bind fun x10 =>
 (m_stamp_Due [x10, a1, a2, a3, a5] r7.2).bind fun r11 =>
 (A.ext 0 r11.1).bind fun x12 =>
 (A.ext 1 r11.1).bind fun x13 =>
 (A.neq .i x5 (AV.int .i64 0)).bind fun x14 =>
 (A.guard x14 false (some x9) (some (AV.tup []))).bind fun x15 =>
 (A.guard x14 false (A.neq .i x15 (AV.int .i64 0)) (some (AV.tup []))).bind fun x16 =>
 (A.pick x14 (AV.bool true) x16).bind fun x17 =>
 A.cond x17 (
  A.fin σ (AV.bool true) r11.2) (
  (m_stamp_Day [a1] r11.2).bind fun r18 =>
  (A.ext 0 r18.1).bind fun x19 =>
  (A.ext 1 r18.1).bind fun x20 =>
  (A.partA 0 5 c1).bind fun x21 =>
  (m_stamp_Due [x21, a1, a2, (AV.int .i64 0), x19] r18.2).bind fun r22 =>
  (A.ext 0 r22.1).bind fun x23 =>
  (A.ext 1 r22.1).bind fun x24 =>
  (A.eql .i x13 (AV.int .i64 0)).bind fun x25 =>
  (A.guard x25 true (some x4) (some (AV.tup []))).bind fun x26 =>
  (A.guard x25 true (some x8) (some (AV.tup []))).bind fun x27 =>
  (A.guard x25 true ((((A.cell x26).bind fun v => some [v]).bind fun c28 => (A.splice 0 c28 [AV.nsl, AV.nsl]).bind fun c29 => ((A.cell x27).bind fun v => some [v]).bind fun c30 => (A.splice 1 c30 c29).bind fun c31 => some c31).bind fun cs => some (AV.sl 1 (chunks 1 2 cs))) (some (AV.tup []))).bind fun x32 =>
  (A.guard x25 true (A.quiet (m_slices_Concat_api_Event [x32] r22.2) r22.2) (some (AV.tup []))).bind fun x33 =>
  (A.guard x25 true (some x12) (some (AV.tup []))).bind fun x34 =>
  (A.guard x25 true (A.quiet (m_slices_Equal_api_Event [x33, x34] r22.2) r22.2) (some (AV.tup []))).bind fun x35 =>
  (A.pick x25 x35 (AV.bool false)).bind fun x36 =>
  (A.guard x36 true (some x24) (some (AV.tup []))).bind fun x37 =>
  (A.guard x36 true (A.eql .i x37 (AV.int .i64 0)) (some (AV.tup []))).bind fun x38 =>
  (A.pick x36 x38 (AV.bool false)).bind fun x39 =>
  (A.guard x39 true (some x23) (some (AV.tup []))).bind fun x40 =>
  (A.guard x39 true (some a2) (some (AV.tup []))).bind fun x41 =>
  (A.guard x39 true (A.quiet (m_slices_Equal_api_Event [x40, x41] r22.2) r22.2) (some (AV.tup []))).bind fun x42 =>
  (A.pick x39 x42 (AV.bool false)).bind fun x43 =>
  A.fin σ x43 r22.2)
noncomputable def m_W8_StampDueIsCut : List AV → Heap → Option (AV × Heap) := A.wrap true [(.a [(.s 3), (.s 4), (.s 3), (.s 2), (.s 3)]), .k, (.s 6)] .k (A.ar6 r_W8_StampDueIsCut)
end Go.Proofs.Ytohbeolimnpehaa

namespace Go.Proofs.Ytohbeolimnpehaa
set_option linter.unusedSectionVars false
set_option linter.unusedSimpArgs false
open Go.RowKit
set_option linter.unusedVariables false
theorem ACalls.same {P : Program} {nm : List Nat} {f : FuncId} {args : List AV} {σ : Heap} {r : AV} (hc : ∀ us w, (callFunc f us).run P w = .ok (.enter f us) w)
  (h : ∀ (c : RC) (vs : Array Value) (w : World), RepL c args vs.toList → Calls P f vs w fun e w' => ∃ v, e = .returned v ∧ Below w.heap.size w w' ∧ ∀ c', Rep c' r v) : ACalls P nm f args σ r σ := by
 refine .inl ⟨f, hc, fun z vs e1 e2 hh ha => (h _ vs z.w ha).mono ?_⟩
 rintro e w' ⟨v, k1, k2, k3⟩
 have ho : Out z z.w z.E := ⟨rfl, rfl, rfl, Nat.le_refl _, fun _ _ _ => rfl, fun i p hp => .inr ⟨p, hp, rfl⟩, fun i p hp => ⟨p, hp, .inl rfl⟩, e2, fun p hp => hh.lt hp⟩
 exact ⟨v, z.E, k1, ho.grow k2, hh.mono (grow_ext k2) rfl (fun p hp => k2.block _ (hh.lt hp)), k3 _⟩
theorem repL2 {c : RC} {a b : AV} {vs : Array Value} (h : RepL c [a, b] vs.toList) : ∃ v u, vs = #[v, u] ∧ Rep c a v ∧ Rep c b u := by
 simp only [RepL] at h
 obtain ⟨v, vs', e, h1, u, vs2, e2, h2, e3⟩ := h
 refine ⟨v, u, ?_, h1, h2⟩
 subst e3; subst e2
 cases vs; simp at e; simp [e]
theorem s_strings_Compare : Sound Try.prog nmT 77 m_strings_Compare := by
 intro args σ r σ' h
 unfold m_strings_Compare A.ar2 at h
 split at h
 ·simp only at h
  split at h
  ·simp only [Option.some.injEq, Prod.mk.injEq] at h
   obtain ⟨rfl, rfl⟩ := h
   refine ACalls.same Try.call77 fun c vs w hr => ?_
   obtain ⟨v, u, rfl, h1, h2⟩ := repL2 hr
   simp only [Rep] at h1 h2
   subst h1 h2
   refine (Try.strings_Compare _ _ w).mono ?_
   rintro e w' ⟨rfl, rfl⟩
   exact ⟨_, rfl, Below.refl _ _, fun c' => by simp [Rep]⟩
  ·cases h
 ·cases h
end Go.Proofs.Ytohbeolimnpehaa

namespace Go.Proofs.Ytohbeolimnpehaa
set_option linter.unusedSectionVars false
set_option maxRecDepth 100000
set_option linter.unusedVariables false
set_option linter.unusedSimpArgs false
noncomputable def x_word_Row : Fx := ⟨Try.prog, nmT, A.tab (fun _ _ => none) [], (fun _ _ _ => none), [], [], 35, []⟩
theorem w_word_Row : Sound Try.prog nmT 94 (A.wrap true [] .k (A.ar1 (r_word_Row))) :=
 Sound.wrap (Sound.run1 (X := x_word_Row) (fn := Try.f94) (ann := (.s .n (.s (.s .n (.b (.l [2, 7] [.exit 0, .ret] (.s .n (.s (.j .n .n) (.s (.b (.s .n (.s .n (.s .n (.j (.s .n .n) .n))))) .n)))))) (.s .n .n)))) .F trivial (Snd.of rfl All.nil (fun _ => Sound.none)) Try.func94 Try.call94 (fun a0 σ => by kernel_rfl)) _ _ _ rfl rfl
theorem s_word_Row : Sound Try.prog nmT 94 m_word_Row := w_word_Row
noncomputable def x_word_Name : Fx := ⟨Try.prog, nmT, A.tab (fun _ _ => none) [(94, m_word_Row)], (fun _ _ _ => none), [], [], 20, []⟩
theorem w_word_Name : Sound Try.prog nmT 87 (A.wrap true [] .k (A.ar1 (r_word_Name))) :=
 Sound.wrap (Sound.run1 (X := x_word_Name) (fn := Try.f87) (ann := (.s .n (.s .n .n))) .F trivial (Snd.of rfl (All.cons s_word_Row All.nil) (fun _ => Sound.none)) Try.func87 Try.call87 (fun a0 σ => by kernel_rfl)) _ _ _ rfl rfl
theorem s_word_Name : Sound Try.prog nmT 87 m_word_Name := w_word_Name
noncomputable def x_word_Within : Fx := ⟨Try.prog, nmT, A.tab (fun _ _ => none) [], (fun _ _ _ => none), [], [], 15, []⟩
theorem w_word_Within : Sound Try.prog nmT 26 (A.wrap true [] .k (A.ar3 (r_word_Within))) :=
 Sound.wrap (Sound.run3 (X := x_word_Within) (fn := Try.f26) (ann := (.s .n (.s .n .n))) .F trivial (Snd.of rfl All.nil (fun _ => Sound.none)) Try.func26 Try.call26 (fun a0 a1 a2 σ => by kernel_rfl)) _ _ _ rfl rfl
theorem s_word_Within : Sound Try.prog nmT 26 m_word_Within := w_word_Within
noncomputable def x_fixture_isLevel : Fx := ⟨Try.prog, nmT, A.tab (fun _ _ => none) [(26, m_word_Within)], (fun _ _ _ => none), [], [], 5, []⟩
theorem w_fixture_isLevel : Sound Try.prog nmT 91 (A.wrap true [] .k (A.ar1 (r_fixture_isLevel))) :=
 Sound.wrap (Sound.run1 (X := x_fixture_isLevel) (fn := Try.f91) (ann := (.s .n (.s .n .n))) .F trivial (Snd.of rfl (All.cons s_word_Within All.nil) (fun _ => Sound.none)) Try.func91 Try.call91 (fun a0 σ => by kernel_rfl)) _ _ _ rfl rfl
theorem s_fixture_isLevel : Sound Try.prog nmT 91 m_fixture_isLevel := w_fixture_isLevel
noncomputable def x_fixture_checkRanges : Fx := ⟨Try.prog, nmT, A.tab (fun _ _ => none) [(91, m_fixture_isLevel), (87, m_word_Name)], (fun _ _ _ => none), [5], [], 63, []⟩
theorem w_fixture_checkRanges : Sound Try.prog nmT 92 (A.wrap true [(.s 3)] .k (A.ar1 (r_fixture_checkRanges))) :=
 Sound.wrap (Sound.run1 (X := x_fixture_checkRanges) (fn := Try.f92) (ann := (.s .n (.s (.s .n (.j (.s .n .n) .n)) (.s .n (.s (.s .n (.b (.l [2, 12] [.exit 0, .ret] (.s .n (.s (.j .n .n) (.s (.b (.s .n (.s (.b (.s .n (.j (.s .n .n) (.s .n (.j (.s .n .n) (.s .n (.j (.s .n .n) (.s .n (.j (.s .n .n) .n))))))))) .n))) .n)))))) (.s .n .n)))))) .F trivial (Snd.of rfl (All.cons s_fixture_isLevel (All.cons s_word_Name All.nil)) (fun _ => Sound.none)) Try.func92 Try.call92 (fun a0 σ => by kernel_rfl)) _ _ _ rfl rfl
theorem s_fixture_checkRanges : Sound Try.prog nmT 92 m_fixture_checkRanges := w_fixture_checkRanges
noncomputable def x_fixture_CheckProfile : Fx := ⟨Try.prog, nmT, A.tab (fun _ _ => none) [(87, m_word_Name), (26, m_word_Within), (91, m_fixture_isLevel), (92, m_fixture_checkRanges)], (fun _ _ _ => none), [1, 6], [], 115, []⟩
theorem w_fixture_CheckProfile : Sound Try.prog nmT 83 (A.wrap true [(.a [.k, .k, (.s 7)])] .k (A.ar1 (r_fixture_CheckProfile))) :=
 Sound.wrap (Sound.run1 (X := x_fixture_CheckProfile) (fn := Try.f83) (ann := (.s .n (.s (.b (.s .n (.j (.s .n .n) (.s .n (.j (.s .n .n) (.s .n (.j (.s .n .n) (.s .n (.j (.s .n .n) .n))))))))) (.s .n (.s (.s .n (.b (.l [1, 2, 33] [.exit 1, .ret] (.s .n (.s (.j .n .n) (.s (.b (.s .n (.s (.b (.s .n (.j (.s .n .n) (.s .n (.j (.s .n .n) (.s .n (.j (.s .n .n) (.s .n (.j (.s .n .n) (.s .n (.j (.s .n .n) .n))))))))))) (.s (.s .n (.s .n (.j (.s .n .n) .n))) (.s .n (.s .n (.c [1] .n .n))))))) .n)))))) (.s .n .n)))))) .F trivial (Snd.of rfl (All.cons s_word_Name (All.cons s_word_Within (All.cons s_fixture_isLevel (All.cons s_fixture_checkRanges All.nil)))) (fun _ => Sound.none)) Try.func83 Try.call83 (fun a0 σ => by kernel_rfl)) _ _ _ rfl rfl
theorem s_fixture_CheckProfile : Sound Try.prog nmT 83 m_fixture_CheckProfile := w_fixture_CheckProfile
noncomputable def x_fixture_CheckLibrary : Fx := ⟨Try.prog, nmT, A.tab (fun _ _ => none) [(83, m_fixture_CheckProfile)], (fun _ _ _ => none), [5], [], 30, []⟩
theorem w_fixture_CheckLibrary : Sound Try.prog nmT 72 (A.wrap true [(.s 3)] .k (A.ar1 (r_fixture_CheckLibrary))) :=
 Sound.wrap (Sound.run1 (X := x_fixture_CheckLibrary) (fn := Try.f72) (ann := (.s .n (.s (.s .n (.j (.s .n .n) .n)) (.s .n (.s (.s .n (.b (.l [2, 13] [.exit 0, .ret] (.s .n (.s (.j .n .n) (.s (.b (.s .n (.s (.s .n (.s .n (.j (.s .n .n) .n))) (.s (.s .n (.j (.s .n .n) .n)) .n)))) .n)))))) (.s .n .n)))))) .F trivial (Snd.of rfl (All.cons s_fixture_CheckProfile All.nil) (fun _ => Sound.none)) Try.func72 Try.call72 (fun a0 σ => by kernel_rfl)) _ _ _ rfl rfl
theorem s_fixture_CheckLibrary : Sound Try.prog nmT 72 m_fixture_CheckLibrary := w_fixture_CheckLibrary
noncomputable def x_slices_IndexFunc_api_Profile (dyn : Nat → List AV → Heap → Option (AV × Heap)) : Fx := ⟨Try.prog, nmT, A.tab (fun _ _ => none) [], dyn, [], [], 19, []⟩
theorem w_slices_IndexFunc_api_Profile (dyn : Nat → List AV → Heap → Option (AV × Heap)) (hd : ∀ f, Sound Try.prog nmT f (dyn (nmT.getD f 0))) : Sound Try.prog nmT 84 (A.wrap true [(.s 3)] .k (A.ar2 (r_slices_IndexFunc_api_Profile dyn))) :=
 Sound.wrap (Sound.run2 (X := x_slices_IndexFunc_api_Profile dyn) (fn := Try.f84) (ann := (.s .n (.s (.s .n (.b (.l [4, 8] [.exit 0, .ret] (.s .n (.s (.j .n .n) (.s (.b (.s .n (.s .n (.j (.s .n .n) .n)))) .n)))))) (.s .n .n)))) .F trivial (Snd.of rfl All.nil (hd)) Try.func84 Try.call84 (fun a0 a1 σ => by kernel_rfl)) _ _ _ rfl rfl
theorem s_slices_IndexFunc_api_Profile (dyn : Nat → List AV → Heap → Option (AV × Heap)) (hd : ∀ f, Sound Try.prog nmT f (dyn (nmT.getD f 0))) : Sound Try.prog nmT 84 (m_slices_IndexFunc_api_Profile dyn) := w_slices_IndexFunc_api_Profile dyn hd
noncomputable def x_fixture_profile_fn1 : Fx := ⟨Try.prog, nmT, A.tab (fun _ _ => none) [], (fun _ _ _ => none), [2], [], 8, []⟩
theorem w_fixture_profile_fn1 : Sound Try.prog nmT 85 (A.wrap true [(.a [.k, .k, (.s 7)])] .k (A.ar2 (r_fixture_profile_fn1))) :=
 Sound.wrap (Sound.run2 (X := x_fixture_profile_fn1) (fn := Try.f85) (ann := (.s .n (.s .n .n))) .F trivial (Snd.of rfl All.nil (fun _ => Sound.none)) Try.func85 Try.call85 (fun a0 a1 σ => by kernel_rfl)) _ _ _ rfl rfl
theorem s_fixture_profile_fn1 : Sound Try.prog nmT 85 m_fixture_profile_fn1 := w_fixture_profile_fn1
noncomputable def x_fixture_profile : Fx := ⟨Try.prog, nmT, A.tab (fun _ _ => none) [(84, m_slices_IndexFunc_api_Profile (A.tab (fun _ _ => none) [(64, m_fixture_profile_fn1), (64, m_fixture_profile_fn1)]))], (A.tab (fun _ _ => none) [(64, m_fixture_profile_fn1), (64, m_fixture_profile_fn1)]), [4], [], 17, []⟩
theorem w_fixture_profile : Sound Try.prog nmT 73 (A.wrap true [(.s 3)] (.t [(.a [.k, .k, (.e 7 [.k, .k, .k, .k, .k, .k, (.s 3)])]), .k]) (A.ar2 (r_fixture_profile))) :=
 Sound.wrap (Sound.run2 (X := x_fixture_profile) (fn := Try.f73) (ann := (.s .n (.s .n (.s (.s .n (.j (.s .n .n) .n)) (.s .n .n))))) .F trivial (Snd.of rfl (All.cons (s_slices_IndexFunc_api_Profile _ (dyn_of (DAll.cons (nm_sound s_fixture_profile_fn1 (by kernel_rfl) rfl) (DAll.cons (nm_sound s_fixture_profile_fn1 (by kernel_rfl) rfl) DAll.nil)))) All.nil) (dyn_of (DAll.cons (nm_sound s_fixture_profile_fn1 (by kernel_rfl) rfl) (DAll.cons (nm_sound s_fixture_profile_fn1 (by kernel_rfl) rfl) DAll.nil)))) Try.func73 Try.call73 (fun a0 a1 σ => by kernel_rfl)) _ _ _ rfl rfl
theorem s_fixture_profile : Sound Try.prog nmT 73 m_fixture_profile := w_fixture_profile
noncomputable def x_fixture_slots_free : Fx := ⟨Try.prog, nmT, A.tab (fun _ _ => none) [], (fun _ _ _ => none), [], [], 32, []⟩
theorem w_fixture_slots_free : Sound Try.prog nmT 74 (A.wrap true [] .k (A.ar3 (r_fixture_slots_free))) :=
 Sound.wrap (Sound.run3 (X := x_fixture_slots_free) (fn := Try.f74) (ann := (.s .n (.s (.s .n (.j (.s .n .n) .n)) (.s (.s .n (.b (.l [6, 7] [.exit 0, .ret] (.s (.s .n (.j .n .n)) (.s (.b (.s .n (.j (.s .n .n) .n))) .n))))) (.s .n .n))))) .F trivial (Snd.of rfl All.nil (fun _ => Sound.none)) Try.func74 Try.call74 (fun a0 a1 a2 σ => by kernel_rfl)) _ _ _ rfl rfl
theorem s_fixture_slots_free : Sound Try.prog nmT 74 m_fixture_slots_free := w_fixture_slots_free
noncomputable def x_fixture_take : Fx := ⟨Try.prog, nmT, A.tab (fun _ _ => none) [], (fun _ _ _ => none), [4], [15], 33, []⟩
theorem w_fixture_take : Sound Try.prog nmT 75 (A.wrap false [] .k (A.ar3 (r_fixture_take))) :=
 Sound.wrap (Sound.run3 (X := x_fixture_take) (fn := Try.f75) (ann := (.s .n (.s (.s .n (.c [4] .n .n)) (.s .n (.b (.l [4, 6] [.exit 0] (.s (.s .n (.j .n .n)) (.s (.b .n) .n)))))))) .K trivial (Snd.of rfl All.nil (fun _ => Sound.none)) Try.func75 Try.call75 (fun a0 a1 a2 σ => by kernel_rfl)) _ _ _ rfl rfl
theorem s_fixture_take : Sound Try.prog nmT 75 m_fixture_take := w_fixture_take
noncomputable def x_fixture_CheckRig : Fx := ⟨Try.prog, nmT, A.tab (fun _ _ => none) [(72, m_fixture_CheckLibrary), (26, m_word_Within), (73, m_fixture_profile), (74, m_fixture_slots_free), (75, m_fixture_take)], (fun _ _ _ => none), [1, 6, 7], [], 91, []⟩
theorem w_fixture_CheckRig : Sound Try.prog nmT 53 (A.wrap true [(.a [(.s 3), (.s 4)])] .k (A.ar1 (r_fixture_CheckRig))) :=
 Sound.wrap (Sound.run1 (X := x_fixture_CheckRig) (fn := Try.f53) (ann := (.s .n (.s (.s .n (.s .n (.j (.s .n .n) .n))) (.s (.s .n (.j (.s .n .n) .n)) (.s .n (.s (.s .n (.b (.l [1, 2, 23] [.exit 0, .ret] (.s .n (.s (.j .n .n) (.s (.b (.s .n (.s (.s .n (.j (.s .n .n) .n)) (.s (.s .n (.j (.s .n .n) .n)) (.s .n (.s (.s .n (.j (.s .n .n) .n)) (.s (.s .n (.j (.s .n .n) .n)) (.s (.s .n (.j (.s .n .n) .n)) .n)))))))) .n)))))) (.s .n .n))))))) .F trivial (Snd.of rfl (All.cons s_fixture_CheckLibrary (All.cons s_word_Within (All.cons s_fixture_profile (All.cons s_fixture_slots_free (All.cons s_fixture_take All.nil))))) (fun _ => Sound.none)) Try.func53 Try.call53 (fun a0 σ => by kernel_rfl)) _ _ _ rfl rfl
theorem s_fixture_CheckRig : Sound Try.prog nmT 53 m_fixture_CheckRig := w_fixture_CheckRig
noncomputable def x_word_When : Fx := ⟨Try.prog, nmT, A.tab (fun _ _ => none) [], (fun _ _ _ => none), [], [], 7, []⟩
theorem w_word_When : Sound Try.prog nmT 18 (A.wrap true [] .k (A.ar2 (r_word_When))) :=
 Sound.wrap (Sound.run2 (X := x_word_When) (fn := Try.f18) (ann := (.s .n (.s (.s .n (.j (.s .n .n) .n)) (.s .n .n)))) .F trivial (Snd.of rfl All.nil (fun _ => Sound.none)) Try.func18 Try.call18 (fun a0 a1 σ => by kernel_rfl)) _ _ _ rfl rfl
theorem s_word_When : Sound Try.prog nmT 18 m_word_When := w_word_When
noncomputable def x_word_First : Fx := ⟨Try.prog, nmT, A.tab (fun _ _ => none) [], (fun _ _ _ => none), [], [], 15, []⟩
theorem w_word_First : Sound Try.prog nmT 16 (A.wrap true [(.s 1)] .k (A.ar1 (r_word_First))) :=
 Sound.wrap (Sound.run1 (X := x_word_First) (fn := Try.f16) (ann := (.s .n (.s (.s .n (.b (.l [2, 7] [.exit 0, .ret] (.s .n (.s (.j .n .n) (.s (.b (.s .n (.s .n (.j (.s .n .n) .n)))) .n)))))) (.s .n .n)))) .F trivial (Snd.of rfl All.nil (fun _ => Sound.none)) Try.func16 Try.call16 (fun a0 σ => by kernel_rfl)) _ _ _ rfl rfl
theorem s_word_First : Sound Try.prog nmT 16 m_word_First := w_word_First
noncomputable def x_fixture_Keys : Fx := ⟨Try.prog, nmT, A.tab (fun _ _ => none) [(53, m_fixture_CheckRig), (73, m_fixture_profile)], (fun _ _ _ => none), [1, 7, 8, 11], [], 50, []⟩
theorem w_fixture_Keys : Sound Try.prog nmT 59 (A.wrap true [(.a [(.s 3), (.s 4)])] (.t [(.s 2), .k]) (A.ar1 (r_fixture_Keys))) :=
 Sound.wrap (Sound.run1 (X := x_fixture_Keys) (fn := Try.f59) (ann := (.s .n (.s (.s .n (.s .n (.j (.s .n .n) .n))) (.s .n (.s (.s .n (.b (.l [1, 5, 20] [.exit 0] (.s .n (.s (.j .n .n) (.s (.b (.s .n (.s .n (.s .n (.b (.l [1, 5, 7, 35] [.exit 2] (.s .n (.s (.j .n .n) (.s (.b (.s .n .n)) .n))))))))) .n)))))) (.s .n .n)))))) .F trivial (Snd.of rfl (All.cons s_fixture_CheckRig (All.cons s_fixture_profile All.nil)) (fun _ => Sound.none)) Try.func59 Try.call59 (fun a0 σ => by kernel_rfl)) _ _ _ rfl rfl
theorem s_fixture_Keys : Sound Try.prog nmT 59 m_fixture_Keys := w_fixture_Keys
noncomputable def x_pick_keys : Fx := ⟨Try.prog, nmT, A.tab (fun _ _ => none) [(59, m_fixture_Keys)], (fun _ _ _ => none), [1, 7], [], 24, []⟩
theorem w_pick_keys : Sound Try.prog nmT 54 (A.wrap true [(.a [(.s 3), (.s 4)])] .k (A.ar1 (r_pick_keys))) :=
 Sound.wrap (Sound.run1 (X := x_pick_keys) (fn := Try.f54) (ann := (.s .n (.s .n (.s .n (.s (.s .n (.b (.l [16] [.exit 0] (.s .n (.s (.j .n .n) (.s (.b (.s .n .n)) .n)))))) (.s .n .n)))))) .F trivial (Snd.of rfl (All.cons s_fixture_Keys All.nil) (fun _ => Sound.none)) Try.func54 Try.call54 (fun a0 σ => by kernel_rfl)) _ _ _ rfl rfl
theorem s_pick_keys : Sound Try.prog nmT 54 m_pick_keys := w_pick_keys
noncomputable def x_word_Title : Fx := ⟨Try.prog, nmT, A.tab (fun _ _ => none) [], (fun _ _ _ => none), [], [], 40, []⟩
theorem w_word_Title : Sound Try.prog nmT 76 (A.wrap true [] .k (A.ar1 (r_word_Title))) :=
 Sound.wrap (Sound.run1 (X := x_word_Title) (fn := Try.f76) (ann := (.s .n (.s (.s .n (.b (.l [2, 6] [.exit 0, .ret] (.s .n (.s (.j .n .n) (.s (.b (.s .n (.s .n (.j (.s .n .n) .n)))) .n)))))) (.s .n .n)))) .F trivial (Snd.of rfl All.nil (fun _ => Sound.none)) Try.func76 Try.call76 (fun a0 σ => by kernel_rfl)) _ _ _ rfl rfl
theorem s_word_Title : Sound Try.prog nmT 76 m_word_Title := w_word_Title
noncomputable def x_pick_blank : Fx := ⟨Try.prog, nmT, A.tab (fun _ _ => none) [(76, m_word_Title)], (fun _ _ _ => none), [], [], 9, []⟩
theorem w_pick_blank : Sound Try.prog nmT 55 (A.wrap true [] .k (A.ar1 (r_pick_blank))) :=
 Sound.wrap (Sound.run1 (X := x_pick_blank) (fn := Try.f55) (ann := (.s .n (.s .n .n))) .F trivial (Snd.of rfl (All.cons s_word_Title All.nil) (fun _ => Sound.none)) Try.func55 Try.call55 (fun a0 σ => by kernel_rfl)) _ _ _ rfl rfl
theorem s_pick_blank : Sound Try.prog nmT 55 m_pick_blank := w_pick_blank
noncomputable def x_pick_isLevel : Fx := ⟨Try.prog, nmT, A.tab (fun _ _ => none) [(26, m_word_Within)], (fun _ _ _ => none), [], [], 5, []⟩
theorem w_pick_isLevel : Sound Try.prog nmT 56 (A.wrap true [] .k (A.ar1 (r_pick_isLevel))) :=
 Sound.wrap (Sound.run1 (X := x_pick_isLevel) (fn := Try.f56) (ann := (.s .n (.s .n .n))) .F trivial (Snd.of rfl (All.cons s_word_Within All.nil) (fun _ => Sound.none)) Try.func56 Try.call56 (fun a0 σ => by kernel_rfl)) _ _ _ rfl rfl
theorem s_pick_isLevel : Sound Try.prog nmT 56 m_pick_isLevel := w_pick_isLevel
noncomputable def x_pick_before : Fx := ⟨Try.prog, nmT, A.tab (fun _ _ => none) [(77, m_strings_Compare)], (fun _ _ _ => none), [2, 3], [], 21, []⟩
theorem w_pick_before : Sound Try.prog nmT 57 (A.wrap true [] .k (A.ar2 (r_pick_before))) :=
 Sound.wrap (Sound.run2 (X := x_pick_before) (fn := Try.f57) (ann := (.s .n (.s (.s .n (.j (.s .n .n) .n)) (.s .n .n)))) .F trivial (Snd.of rfl (All.cons s_strings_Compare All.nil) (fun _ => Sound.none)) Try.func57 Try.call57 (fun a0 a1 σ => by kernel_rfl)) _ _ _ rfl rfl
theorem s_pick_before : Sound Try.prog nmT 57 m_pick_before := w_pick_before
noncomputable def x_pick_CheckPresets : Fx := ⟨Try.prog, nmT, A.tab (fun _ _ => none) [(53, m_fixture_CheckRig), (18, m_word_When), (16, m_word_First), (54, m_pick_keys), (26, m_word_Within), (55, m_pick_blank), (56, m_pick_isLevel), (57, m_pick_before)], (fun _ _ _ => none), [2, 8, 10], [], 97, []⟩
theorem w_pick_CheckPresets : Sound Try.prog nmT 39 (A.wrap true [(.a [(.s 3), (.s 4)]), (.s 3)] .k (A.ar2 (r_pick_CheckPresets))) :=
 Sound.wrap (Sound.run2 (X := x_pick_CheckPresets) (fn := Try.f39) (ann := (.s .n (.s (.s .n (.s .n (.j (.s .n .n) .n))) (.s .n (.s (.s .n (.b (.l [4, 26] [.exit 0, .ret] (.s .n (.s (.j .n .n) (.s (.b (.s .n (.s (.b (.s .n (.j (.s .n .n) (.s .n (.j (.s .n .n) (.s .n (.j (.s .n .n) (.s .n (.j (.s .n .n) .n))))))))) (.s .n (.b (.l [4, 8, 63] [.exit 3, .ret] (.s .n (.s (.j .n .n) (.s (.b (.s .n (.b (.s .n (.j (.s .n .n) (.s .n (.j (.s .n .n) (.s .n (.j (.s .n .n) .n))))))))) .n))))))))) .n)))))) (.s .n .n)))))) .F trivial (Snd.of rfl (All.cons s_fixture_CheckRig (All.cons s_word_When (All.cons s_word_First (All.cons s_pick_keys (All.cons s_word_Within (All.cons s_pick_blank (All.cons s_pick_isLevel (All.cons s_pick_before All.nil)))))))) (fun _ => Sound.none)) Try.func39 Try.call39 (fun a0 a1 σ => by kernel_rfl)) _ _ _ rfl rfl
theorem s_pick_CheckPresets : Sound Try.prog nmT 39 m_pick_CheckPresets := w_pick_CheckPresets
noncomputable def x_cue_isTime : Fx := ⟨Try.prog, nmT, A.tab (fun _ _ => none) [(26, m_word_Within)], (fun _ _ _ => none), [], [], 5, []⟩
theorem w_cue_isTime : Sound Try.prog nmT 78 (A.wrap true [] .k (A.ar1 (r_cue_isTime))) :=
 Sound.wrap (Sound.run1 (X := x_cue_isTime) (fn := Try.f78) (ann := (.s .n (.s .n .n))) .F trivial (Snd.of rfl (All.cons s_word_Within All.nil) (fun _ => Sound.none)) Try.func78 Try.call78 (fun a0 σ => by kernel_rfl)) _ _ _ rfl rfl
theorem s_cue_isTime : Sound Try.prog nmT 78 m_cue_isTime := w_cue_isTime
noncomputable def x_level_CheckCurve : Fx := ⟨Try.prog, nmT, A.tab (fun _ _ => none) [(26, m_word_Within), (18, m_word_When)], (fun _ _ _ => none), [1, 5], [], 90, []⟩
theorem w_level_CheckCurve : Sound Try.prog nmT 79 (A.wrap true [(.a [.k, (.s 2)])] .k (A.ar1 (r_level_CheckCurve))) :=
 Sound.wrap (Sound.run1 (X := x_level_CheckCurve) (fn := Try.f79) (ann := (.s .n (.s (.s .n (.j (.s .n .n) .n)) (.s .n (.s (.s .n (.j (.s .n .n) .n)) (.s (.s .n (.j (.s .n .n) .n)) (.s (.s .n (.j (.s .n .n) .n)) (.s (.s .n (.b (.l [2, 28] [.exit 0, .ret] (.s .n (.s (.j .n .n) (.s (.b (.s .n (.s .n (.j (.s .n .n) .n)))) .n)))))) (.s (.s .n (.j (.s .n .n) .n)) (.s (.s .n (.b (.l [2, 6] [.exit 2, .ret] (.s (.s .n (.j .n .n)) (.s (.b (.s .n (.j (.s .n .n) .n))) .n))))) (.s .n .n))))))))))) .F trivial (Snd.of rfl (All.cons s_word_Within (All.cons s_word_When All.nil)) (fun _ => Sound.none)) Try.func79 Try.call79 (fun a0 σ => by kernel_rfl)) _ _ _ rfl rfl
theorem s_level_CheckCurve : Sound Try.prog nmT 79 m_level_CheckCurve := w_level_CheckCurve
noncomputable def x_cue_compare : Fx := ⟨Try.prog, nmT, A.tab (fun _ _ => none) [(77, m_strings_Compare)], (fun _ _ _ => none), [2, 3], [], 20, []⟩
theorem w_cue_compare : Sound Try.prog nmT 88 (A.wrap true [] .k (A.ar2 (r_cue_compare))) :=
 Sound.wrap (Sound.run2 (X := x_cue_compare) (fn := Try.f88) (ann := (.s .n (.s (.s .n (.j (.s (.s .n (.j (.s .n .n) .n)) (.s .n .n)) .n)) (.s .n .n)))) .F trivial (Snd.of rfl (All.cons s_strings_Compare All.nil) (fun _ => Sound.none)) Try.func88 Try.call88 (fun a0 a1 σ => by kernel_rfl)) _ _ _ rfl rfl
theorem s_cue_compare : Sound Try.prog nmT 88 m_cue_compare := w_cue_compare
noncomputable def x_cue_checkMoves : Fx := ⟨Try.prog, nmT, A.tab (fun _ _ => none) [(26, m_word_Within), (87, m_word_Name), (78, m_cue_isTime), (88, m_cue_compare)], (fun _ _ _ => none), [4], [], 99, []⟩
theorem w_cue_checkMoves : Sound Try.prog nmT 80 (A.wrap true [(.s 8)] .k (A.ar1 (r_cue_checkMoves))) :=
 Sound.wrap (Sound.run1 (X := x_cue_checkMoves) (fn := Try.f80) (ann := (.s .n (.s (.s .n (.b (.l [2, 7] [.exit 0, .ret] (.s .n (.s (.j .n .n) (.s (.b (.s .n (.b (.s .n (.j (.s .n .n) (.s .n (.j (.s .n .n) (.s .n (.j (.s .n .n) (.s .n (.j (.s .n .n) (.s .n (.j (.s .n .n) (.s .n (.j (.s .n .n) (.s .n (.j (.s .n .n) .n))))))))))))))))) .n)))))) (.s .n .n)))) .F trivial (Snd.of rfl (All.cons s_word_Within (All.cons s_word_Name (All.cons s_cue_isTime (All.cons s_cue_compare All.nil)))) (fun _ => Sound.none)) Try.func80 Try.call80 (fun a0 σ => by kernel_rfl)) _ _ _ rfl rfl
theorem s_cue_checkMoves : Sound Try.prog nmT 80 m_cue_checkMoves := w_cue_checkMoves
noncomputable def x_cue_form : Fx := ⟨Try.prog, nmT, A.tab (fun _ _ => none) [(26, m_word_Within), (76, m_word_Title), (78, m_cue_isTime), (79, m_level_CheckCurve), (80, m_cue_checkMoves), (18, m_word_When)], (fun _ _ _ => none), [5], [], 101, []⟩
theorem w_cue_form : Sound Try.prog nmT 58 (A.wrap true [(.e 11 [.k, .k, .k, .k, .k, .k, .k, (.s 2), .k, .k, (.s 8)])] .k (A.ar1 (r_cue_form))) :=
 Sound.wrap (Sound.run1 (X := x_cue_form) (fn := Try.f58) (ann := (.s .n (.s (.s .n (.j (.s .n .n) .n)) (.s .n (.s (.s .n (.b (.l [2, 3, 13] [.exit 0, .ret] (.s .n (.s (.j .n .n) (.s (.b (.s .n (.s (.b (.s .n (.j (.s .n .n) (.s .n (.j (.s .n .n) (.s .n (.j (.s .n .n) (.s .n (.j (.s .n .n) .n))))))))) (.s (.s .n (.s .n (.j (.s .n .n) .n))) (.s (.s .n (.j (.s .n .n) .n)) (.s (.s .n (.s .n (.j (.s .n .n) .n))) .n)))))) .n)))))) (.s .n .n)))))) .F trivial (Snd.of rfl (All.cons s_word_Within (All.cons s_word_Title (All.cons s_cue_isTime (All.cons s_level_CheckCurve (All.cons s_cue_checkMoves (All.cons s_word_When All.nil)))))) (fun _ => Sound.none)) Try.func58 Try.call58 (fun a0 σ => by kernel_rfl)) _ _ _ rfl rfl
theorem s_cue_form : Sound Try.prog nmT 58 m_cue_form := w_cue_form
noncomputable def x_pick_Level : Fx := ⟨Try.prog, nmT, A.tab (fun _ _ => none) [(56, m_pick_isLevel)], (fun _ _ _ => none), [4, 5, 9, 11], [], 55, []⟩
theorem w_pick_Level : Sound Try.prog nmT 60 (A.wrap true [(.s 3)] .k (A.ar3 (r_pick_Level))) :=
 Sound.wrap (Sound.run3 (X := x_pick_Level) (fn := Try.f60) (ann := (.s .n (.s (.s .n (.j (.s .n .n) .n)) (.s (.s .n (.j (.s .n .n) .n)) (.s (.s .n (.j (.s .n .n) .n)) (.s (.s .n (.b (.l [4, 5, 6, 7, 31] [.exit 0, .ret] (.s .n (.s (.j .n .n) (.s (.b (.s .n (.s (.s .n (.j .n .n)) (.s (.s .n (.b (.l [4, 6, 7, 43] [.exit 2, .ret] (.s .n (.s (.j .n .n) (.s (.b (.s .n (.s .n (.j (.s .n .n) .n)))) .n)))))) .n)))) .n)))))) (.s .n .n))))))) .F trivial (Snd.of rfl (All.cons s_pick_isLevel All.nil) (fun _ => Sound.none)) Try.func60 Try.call60 (fun a0 a1 a2 σ => by kernel_rfl)) _ _ _ rfl rfl
theorem s_pick_Level : Sound Try.prog nmT 60 m_pick_Level := w_pick_Level
noncomputable def x_cue_CheckList : Fx := ⟨Try.prog, nmT, A.tab (fun _ _ => none) [(39, m_pick_CheckPresets), (58, m_cue_form), (16, m_word_First), (59, m_fixture_Keys), (60, m_pick_Level)], (fun _ _ _ => none), [3, 12, 14, 16], [], 76, []⟩
theorem w_cue_CheckList : Sound Try.prog nmT 40 (A.wrap true [(.a [(.e 3 [.k, .k, (.e 7 [.k, .k, .k, .k, .k, .k, (.s 3)])]), (.s 4)]), (.e 3 [.k, .k, (.s 3)]), (.e 11 [.k, .k, .k, .k, .k, .k, .k, (.s 2), .k, .k, (.s 8)])] .k (A.ar3 (r_cue_CheckList))) :=
 Sound.wrap (Sound.run3 (X := x_cue_CheckList) (fn := Try.f40) (ann := (.s .n (.s (.s .n (.s .n (.j (.s .n .n) .n))) (.s .n (.s .n (.s (.s .n (.b (.l [37] [.exit 0] (.s .n (.s (.j .n .n) (.s (.b (.s .n .n)) .n)))))) (.s (.s .n (.b (.l [6, 46] [.exit 2, .ret] (.s .n (.s (.j .n .n) (.s (.b (.s .n (.s .n (.b (.l [6, 53] [.exit 4, .ret] (.s .n (.s (.j .n .n) (.s (.b (.s .n (.s (.s .n (.j (.s .n .n) .n)) (.s .n (.s .n (.j (.s .n .n) .n)))))) .n)))))))) .n)))))) (.s .n .n)))))))) .F trivial (Snd.of rfl (All.cons s_pick_CheckPresets (All.cons s_cue_form (All.cons s_word_First (All.cons s_fixture_Keys (All.cons s_pick_Level All.nil))))) (fun _ => Sound.none)) Try.func40 Try.call40 (fun a0 a1 a2 σ => by kernel_rfl)) _ _ _ rfl rfl
theorem s_cue_CheckList : Sound Try.prog nmT 40 m_cue_CheckList := w_cue_CheckList
noncomputable def x_slices_IndexFunc_api_List (dyn : Nat → List AV → Heap → Option (AV × Heap)) : Fx := ⟨Try.prog, nmT, A.tab (fun _ _ => none) [], dyn, [], [], 19, []⟩
theorem w_slices_IndexFunc_api_List (dyn : Nat → List AV → Heap → Option (AV × Heap)) (hd : ∀ f, Sound Try.prog nmT f (dyn (nmT.getD f 0))) : Sound Try.prog nmT 61 (A.wrap true [(.s 2)] .k (A.ar2 (r_slices_IndexFunc_api_List dyn))) :=
 Sound.wrap (Sound.run2 (X := x_slices_IndexFunc_api_List dyn) (fn := Try.f61) (ann := (.s .n (.s (.s .n (.b (.l [4, 8] [.exit 0, .ret] (.s .n (.s (.j .n .n) (.s (.b (.s .n (.s .n (.j (.s .n .n) .n)))) .n)))))) (.s .n .n)))) .F trivial (Snd.of rfl All.nil (hd)) Try.func61 Try.call61 (fun a0 a1 σ => by kernel_rfl)) _ _ _ rfl rfl
theorem s_slices_IndexFunc_api_List (dyn : Nat → List AV → Heap → Option (AV × Heap)) (hd : ∀ f, Sound Try.prog nmT f (dyn (nmT.getD f 0))) : Sound Try.prog nmT 61 (m_slices_IndexFunc_api_List dyn) := w_slices_IndexFunc_api_List dyn hd
noncomputable def x_play_list_fn1 : Fx := ⟨Try.prog, nmT, A.tab (fun _ _ => none) [], (fun _ _ _ => none), [2], [], 8, []⟩
theorem w_play_list_fn1 : Sound Try.prog nmT 62 (A.wrap true [(.a [.k, (.s 11)])] .k (A.ar2 (r_play_list_fn1))) :=
 Sound.wrap (Sound.run2 (X := x_play_list_fn1) (fn := Try.f62) (ann := (.s .n (.s .n .n))) .F trivial (Snd.of rfl All.nil (fun _ => Sound.none)) Try.func62 Try.call62 (fun a0 a1 σ => by kernel_rfl)) _ _ _ rfl rfl
theorem s_play_list_fn1 : Sound Try.prog nmT 62 m_play_list_fn1 := w_play_list_fn1
noncomputable def x_play_list : Fx := ⟨Try.prog, nmT, A.tab (fun _ _ => none) [(61, m_slices_IndexFunc_api_List (A.tab (fun _ _ => none) [(127, m_play_list_fn1), (127, m_play_list_fn1)]))], (A.tab (fun _ _ => none) [(127, m_play_list_fn1), (127, m_play_list_fn1)]), [2, 4], [], 19, []⟩
theorem w_play_list : Sound Try.prog nmT 41 (A.wrap true [(.a [(.s 3), (.s 4), (.s 3), (.s 2), (.s 3)])] (.t [(.a [.k, (.e 11 [.k, .k, .k, .k, .k, .k, .k, (.s 2), .k, .k, (.s 8)])]), .k]) (A.ar2 (r_play_list))) :=
 Sound.wrap (Sound.run2 (X := x_play_list) (fn := Try.f41) (ann := (.s .n (.s .n (.s (.s .n (.j (.s .n .n) .n)) (.s .n .n))))) .F trivial (Snd.of rfl (All.cons (s_slices_IndexFunc_api_List _ (dyn_of (DAll.cons (nm_sound s_play_list_fn1 (by kernel_rfl) rfl) (DAll.cons (nm_sound s_play_list_fn1 (by kernel_rfl) rfl) DAll.nil)))) All.nil) (dyn_of (DAll.cons (nm_sound s_play_list_fn1 (by kernel_rfl) rfl) (DAll.cons (nm_sound s_play_list_fn1 (by kernel_rfl) rfl) DAll.nil)))) Try.func41 Try.call41 (fun a0 a1 σ => by kernel_rfl)) _ _ _ rfl rfl
theorem s_play_list : Sound Try.prog nmT 41 m_play_list := w_play_list
noncomputable def x_play_CheckSetup : Fx := ⟨Try.prog, nmT, A.tab (fun _ _ => none) [(39, m_pick_CheckPresets), (18, m_word_When), (16, m_word_First), (26, m_word_Within), (40, m_cue_CheckList), (41, m_play_list)], (fun _ _ _ => none), [1, 5, 8, 9], [], 107, []⟩
theorem w_play_CheckSetup : Sound Try.prog nmT 25 (A.wrap true [(.a [(.s 3), (.s 4), (.s 3), (.s 2), (.s 3)])] .k (A.ar1 (r_play_CheckSetup))) :=
 Sound.wrap (Sound.run1 (X := x_play_CheckSetup) (fn := Try.f25) (ann := (.s .n (.s (.s .n (.s .n (.j (.s .n .n) .n))) (.s (.s .n (.b (.l [1, 2, 29] [.exit 0, .ret] (.s .n (.s (.j .n .n) (.s (.b (.s .n (.s (.s .n (.j (.s .n .n) .n)) (.s (.s .n (.j (.s .n .n) .n)) (.s .n (.s .n (.j (.s .n .n) .n))))))) .n)))))) (.s (.s .n (.j (.s .n .n) .n)) (.s (.s .n (.b (.l [1, 2, 70] [.exit 2, .ret] (.s .n (.s (.j .n .n) (.s (.b (.s .n (.s (.s .n (.j (.s .n .n) .n)) (.s (.s .n (.j (.s .n .n) .n)) (.s (.s .n (.s .n (.j (.s .n .n) .n))) (.s .n (.j (.s .n .n) .n))))))) .n)))))) (.s .n .n))))))) .F trivial (Snd.of rfl (All.cons s_pick_CheckPresets (All.cons s_word_When (All.cons s_word_First (All.cons s_word_Within (All.cons s_cue_CheckList (All.cons s_play_list All.nil)))))) (fun _ => Sound.none)) Try.func25 Try.call25 (fun a0 σ => by kernel_rfl)) _ _ _ rfl rfl
theorem s_play_CheckSetup : Sound Try.prog nmT 25 m_play_CheckSetup := w_play_CheckSetup
noncomputable def x_stamp_speed : Fx := ⟨Try.prog, nmT, A.tab (fun _ _ => none) [], (fun _ _ _ => none), [], [], 13, []⟩
theorem w_stamp_speed : Sound Try.prog nmT 24 (A.wrap true [] .k (A.ar1 (r_stamp_speed))) :=
 Sound.wrap (Sound.run1 (X := x_stamp_speed) (fn := Try.f24) (ann := (.s .n (.s (.s .n (.b (.s (.s .n (.c [6] .n (.s .n (.c [6] .n .n)))) (.j (.s .n .n) (.s .n (.j (.s .n .n) .n)))))) (.s .n .n)))) .F trivial (Snd.of rfl All.nil (fun _ => Sound.none)) Try.func24 Try.call24 (fun a0 σ => by kernel_rfl)) _ _ _ rfl rfl
theorem s_stamp_speed : Sound Try.prog nmT 24 m_stamp_speed := w_stamp_speed
noncomputable def x_stamp_mode : Fx := ⟨Try.prog, nmT, A.tab (fun _ _ => none) [(24, m_stamp_speed), (18, m_word_When)], (fun _ _ _ => none), [], [], 15, []⟩
theorem w_stamp_mode : Sound Try.prog nmT 13 (A.wrap true [] .k (A.ar1 (r_stamp_mode))) :=
 Sound.wrap (Sound.run1 (X := x_stamp_mode) (fn := Try.f13) (ann := (.s .n (.s .n (.s .n .n)))) .F trivial (Snd.of rfl (All.cons s_stamp_speed (All.cons s_word_When All.nil)) (fun _ => Sound.none)) Try.func13 Try.call13 (fun a0 σ => by kernel_rfl)) _ _ _ rfl rfl
theorem s_stamp_mode : Sound Try.prog nmT 13 m_stamp_mode := w_stamp_mode
noncomputable def x_stamp_day : Fx := ⟨Try.prog, nmT, A.tab (fun _ _ => none) [], (fun _ _ _ => none), [], [], 7, []⟩
theorem w_stamp_day : Sound Try.prog nmT 14 (A.wrap true [] .k (A.ar1 (r_stamp_day))) :=
 Sound.wrap (Sound.run1 (X := x_stamp_day) (fn := Try.f14) (ann := (.s .n (.s (.s .n (.j (.s .n .n) .n)) (.s .n .n)))) .F trivial (Snd.of rfl All.nil (fun _ => Sound.none)) Try.func14 Try.call14 (fun a0 σ => by kernel_rfl)) _ _ _ rfl rfl
theorem s_stamp_day : Sound Try.prog nmT 14 m_stamp_day := w_stamp_day
noncomputable def x_play_CheckFields : Fx := ⟨Try.prog, nmT, A.tab (fun _ _ => none) [(26, m_word_Within)], (fun _ _ _ => none), [1], [], 53, []⟩
theorem w_play_CheckFields : Sound Try.prog nmT 27 (A.wrap true [] .k (A.ar1 (r_play_CheckFields))) :=
 Sound.wrap (Sound.run1 (X := x_play_CheckFields) (fn := Try.f27) (ann := (.s .n (.s (.s .n (.j (.s .n .n) .n)) (.s .n (.s .n (.s (.s .n (.j (.s .n .n) .n)) (.s .n .n))))))) .F trivial (Snd.of rfl (All.cons s_word_Within All.nil) (fun _ => Sound.none)) Try.func27 Try.call27 (fun a0 σ => by kernel_rfl)) _ _ _ rfl rfl
theorem s_play_CheckFields : Sound Try.prog nmT 27 m_play_CheckFields := w_play_CheckFields
noncomputable def x_slices_IndexFunc_api_Playback (dyn : Nat → List AV → Heap → Option (AV × Heap)) : Fx := ⟨Try.prog, nmT, A.tab (fun _ _ => none) [], dyn, [], [], 19, []⟩
theorem w_slices_IndexFunc_api_Playback (dyn : Nat → List AV → Heap → Option (AV × Heap)) (hd : ∀ f, Sound Try.prog nmT f (dyn (nmT.getD f 0))) : Sound Try.prog nmT 63 (A.wrap true [(.s 3)] .k (A.ar2 (r_slices_IndexFunc_api_Playback dyn))) :=
 Sound.wrap (Sound.run2 (X := x_slices_IndexFunc_api_Playback dyn) (fn := Try.f63) (ann := (.s .n (.s (.s .n (.b (.l [4, 8] [.exit 0, .ret] (.s .n (.s (.j .n .n) (.s (.b (.s .n (.s .n (.j (.s .n .n) .n)))) .n)))))) (.s .n .n)))) .F trivial (Snd.of rfl All.nil (hd)) Try.func63 Try.call63 (fun a0 a1 σ => by kernel_rfl)) _ _ _ rfl rfl
theorem s_slices_IndexFunc_api_Playback (dyn : Nat → List AV → Heap → Option (AV × Heap)) (hd : ∀ f, Sound Try.prog nmT f (dyn (nmT.getD f 0))) : Sound Try.prog nmT 63 (m_slices_IndexFunc_api_Playback dyn) := w_slices_IndexFunc_api_Playback dyn hd
noncomputable def x_slices_ContainsFunc_api_Playback (dyn : Nat → List AV → Heap → Option (AV × Heap)) : Fx := ⟨Try.prog, nmT, A.tab (fun _ _ => none) [(63, m_slices_IndexFunc_api_Playback dyn)], dyn, [], [], 9, []⟩
theorem w_slices_ContainsFunc_api_Playback (dyn : Nat → List AV → Heap → Option (AV × Heap)) (hd : ∀ f, Sound Try.prog nmT f (dyn (nmT.getD f 0))) : Sound Try.prog nmT 42 (A.wrap true [(.s 3)] .k (A.ar2 (r_slices_ContainsFunc_api_Playback dyn))) :=
 Sound.wrap (Sound.run2 (X := x_slices_ContainsFunc_api_Playback dyn) (fn := Try.f42) (ann := (.s .n (.s .n .n))) .F trivial (Snd.of rfl (All.cons (s_slices_IndexFunc_api_Playback dyn hd) All.nil) (hd)) Try.func42 Try.call42 (fun a0 a1 σ => by kernel_rfl)) _ _ _ rfl rfl
theorem s_slices_ContainsFunc_api_Playback (dyn : Nat → List AV → Heap → Option (AV × Heap)) (hd : ∀ f, Sound Try.prog nmT f (dyn (nmT.getD f 0))) : Sound Try.prog nmT 42 (m_slices_ContainsFunc_api_Playback dyn) := w_slices_ContainsFunc_api_Playback dyn hd
noncomputable def x_play_CheckRanges_fn1 : Fx := ⟨Try.prog, nmT, A.tab (fun _ _ => none) [], (fun _ _ _ => none), [2], [], 9, []⟩
theorem w_play_CheckRanges_fn1 : Sound Try.prog nmT 43 (A.wrap true [] .k (A.ar2 (r_play_CheckRanges_fn1))) :=
 Sound.wrap (Sound.run2 (X := x_play_CheckRanges_fn1) (fn := Try.f43) (ann := (.s .n (.s .n .n))) .F trivial (Snd.of rfl All.nil (fun _ => Sound.none)) Try.func43 Try.call43 (fun a0 a1 σ => by kernel_rfl)) _ _ _ rfl rfl
theorem s_play_CheckRanges_fn1 : Sound Try.prog nmT 43 m_play_CheckRanges_fn1 := w_play_CheckRanges_fn1
end Go.Proofs.Ytohbeolimnpehaa

namespace Go.Proofs.Ytohbeolimnpehaa
set_option linter.unusedSectionVars false
set_option maxRecDepth 100000
set_option linter.unusedVariables false
set_option linter.unusedSimpArgs false
noncomputable def x_play_CheckRanges : Fx := ⟨Try.prog, nmT, A.tab (fun _ _ => none) [(42, m_slices_ContainsFunc_api_Playback (A.tab (fun _ _ => none) [(152, m_play_CheckRanges_fn1), (152, m_play_CheckRanges_fn1)])), (26, m_word_Within), (18, m_word_When)], (A.tab (fun _ _ => none) [(152, m_play_CheckRanges_fn1), (152, m_play_CheckRanges_fn1)]), [2], [], 36, []⟩
theorem w_play_CheckRanges : Sound Try.prog nmT 28 (A.wrap true [(.a [(.s 3), (.s 4), (.s 3), (.s 2), (.s 3)])] .k (A.ar2 (r_play_CheckRanges))) :=
 Sound.wrap (Sound.run2 (X := x_play_CheckRanges) (fn := Try.f28) (ann := (.s .n (.s .n (.s (.s .n (.j (.s .n .n) .n)) (.s .n (.s (.s .n (.b (.s .n (.c [6] .n (.s .n (.c [6] .n .n)))))) (.s .n .n))))))) .F trivial (Snd.of rfl (All.cons (s_slices_ContainsFunc_api_Playback _ (dyn_of (DAll.cons (nm_sound s_play_CheckRanges_fn1 (by kernel_rfl) rfl) (DAll.cons (nm_sound s_play_CheckRanges_fn1 (by kernel_rfl) rfl) DAll.nil)))) (All.cons s_word_Within (All.cons s_word_When All.nil))) (dyn_of (DAll.cons (nm_sound s_play_CheckRanges_fn1 (by kernel_rfl) rfl) (DAll.cons (nm_sound s_play_CheckRanges_fn1 (by kernel_rfl) rfl) DAll.nil)))) Try.func28 Try.call28 (fun a0 a1 σ => by kernel_rfl)) _ _ _ rfl rfl
theorem s_play_CheckRanges : Sound Try.prog nmT 28 m_play_CheckRanges := w_play_CheckRanges
noncomputable def x_stamp_cuesOf : Fx := ⟨Try.prog, nmT, A.tab (fun _ _ => none) [], (fun _ _ _ => none), [2, 6, 8], [], 38, []⟩
theorem w_stamp_cuesOf : Sound Try.prog nmT 30 (A.wrap true [(.a [(.s 3), (.s 4), (.s 3), (.s 2), (.s 3)])] (.e 11 [.k, .k, .k, .k, .k, .k, .k, (.s 2), .k, .k, (.s 8)]) (A.ar2 (r_stamp_cuesOf))) :=
 Sound.wrap (Sound.run2 (X := x_stamp_cuesOf) (fn := Try.f30) (ann := (.s .n (.s (.s .n (.b (.l [2, 4, 12] [.exit 0, .ret] (.s .n (.s (.j .n .n) (.s (.b (.s .n (.s .n (.b (.l [2, 4, 6, 19] [.exit 2, .ret] (.s .n (.s (.j .n .n) (.s (.b (.s .n (.s .n (.j (.s .n .n) .n)))) .n)))))))) .n)))))) (.s .n .n)))) .F trivial (Snd.of rfl All.nil (fun _ => Sound.none)) Try.func30 Try.call30 (fun a0 a1 σ => by kernel_rfl)) _ _ _ rfl rfl
theorem s_stamp_cuesOf : Sound Try.prog nmT 30 m_stamp_cuesOf := w_stamp_cuesOf
noncomputable def x_slices_IndexFunc_api_Cue (dyn : Nat → List AV → Heap → Option (AV × Heap)) : Fx := ⟨Try.prog, nmT, A.tab (fun _ _ => none) [], dyn, [], [], 19, []⟩
theorem w_slices_IndexFunc_api_Cue (dyn : Nat → List AV → Heap → Option (AV × Heap)) (hd : ∀ f, Sound Try.prog nmT f (dyn (nmT.getD f 0))) : Sound Try.prog nmT 44 (A.wrap true [(.s 11)] .k (A.ar2 (r_slices_IndexFunc_api_Cue dyn))) :=
 Sound.wrap (Sound.run2 (X := x_slices_IndexFunc_api_Cue dyn) (fn := Try.f44) (ann := (.s .n (.s (.s .n (.b (.l [4, 8] [.exit 0, .ret] (.s .n (.s (.j .n .n) (.s (.b (.s .n (.s .n (.j (.s .n .n) .n)))) .n)))))) (.s .n .n)))) .F trivial (Snd.of rfl All.nil (hd)) Try.func44 Try.call44 (fun a0 a1 σ => by kernel_rfl)) _ _ _ rfl rfl
theorem s_slices_IndexFunc_api_Cue (dyn : Nat → List AV → Heap → Option (AV × Heap)) (hd : ∀ f, Sound Try.prog nmT f (dyn (nmT.getD f 0))) : Sound Try.prog nmT 44 (m_slices_IndexFunc_api_Cue dyn) := w_slices_IndexFunc_api_Cue dyn hd
noncomputable def x_slices_ContainsFunc_api_Cue (dyn : Nat → List AV → Heap → Option (AV × Heap)) : Fx := ⟨Try.prog, nmT, A.tab (fun _ _ => none) [(44, m_slices_IndexFunc_api_Cue dyn)], dyn, [], [], 9, []⟩
theorem w_slices_ContainsFunc_api_Cue (dyn : Nat → List AV → Heap → Option (AV × Heap)) (hd : ∀ f, Sound Try.prog nmT f (dyn (nmT.getD f 0))) : Sound Try.prog nmT 29 (A.wrap true [(.s 11)] .k (A.ar2 (r_slices_ContainsFunc_api_Cue dyn))) :=
 Sound.wrap (Sound.run2 (X := x_slices_ContainsFunc_api_Cue dyn) (fn := Try.f29) (ann := (.s .n (.s .n .n))) .F trivial (Snd.of rfl (All.cons (s_slices_IndexFunc_api_Cue dyn hd) All.nil) (hd)) Try.func29 Try.call29 (fun a0 a1 σ => by kernel_rfl)) _ _ _ rfl rfl
theorem s_slices_ContainsFunc_api_Cue (dyn : Nat → List AV → Heap → Option (AV × Heap)) (hd : ∀ f, Sound Try.prog nmT f (dyn (nmT.getD f 0))) : Sound Try.prog nmT 29 (m_slices_ContainsFunc_api_Cue dyn) := w_slices_ContainsFunc_api_Cue dyn hd
noncomputable def x_stamp_CheckEvents_fn1 : Fx := ⟨Try.prog, nmT, A.tab (fun _ _ => none) [], (fun _ _ _ => none), [2], [], 9, []⟩
theorem w_stamp_CheckEvents_fn1 : Sound Try.prog nmT 31 (A.wrap true [(.a [.k, .k, .k, .k, .k, .k, .k, (.s 2), .k, .k, (.s 8)])] .k (A.ar2 (r_stamp_CheckEvents_fn1))) :=
 Sound.wrap (Sound.run2 (X := x_stamp_CheckEvents_fn1) (fn := Try.f31) (ann := (.s .n (.s .n .n))) .F trivial (Snd.of rfl All.nil (fun _ => Sound.none)) Try.func31 Try.call31 (fun a0 a1 σ => by kernel_rfl)) _ _ _ rfl rfl
theorem s_stamp_CheckEvents_fn1 : Sound Try.prog nmT 31 m_stamp_CheckEvents_fn1 := w_stamp_CheckEvents_fn1
noncomputable def x_stamp_CheckEvents : Fx := ⟨Try.prog, nmT, A.tab (fun _ _ => none) [(25, m_play_CheckSetup), (13, m_stamp_mode), (18, m_word_When), (16, m_word_First), (14, m_stamp_day), (26, m_word_Within), (27, m_play_CheckFields), (28, m_play_CheckRanges), (30, m_stamp_cuesOf), (29, m_slices_ContainsFunc_api_Cue (A.tab (fun _ _ => none) [(157, m_stamp_CheckEvents_fn1), (157, m_stamp_CheckEvents_fn1)]))], (A.tab (fun _ _ => none) [(157, m_stamp_CheckEvents_fn1), (157, m_stamp_CheckEvents_fn1)]), [3, 9], [10], 86, []⟩
theorem w_stamp_CheckEvents : Sound Try.prog nmT 17 (A.wrap true [(.a [(.s 3), (.s 4), (.s 3), (.s 2), (.s 3)]), .k, (.s 6)] .k (A.ar3 (r_stamp_CheckEvents))) :=
 Sound.wrap (Sound.run3 (X := x_stamp_CheckEvents) (fn := Try.f17) (ann := (.s .n (.s (.s .n (.s .n (.j (.s .n .n) .n))) (.s (.s .n (.b (.l [3, 6, 27] [.exit 0, .ret] (.s .n (.s (.j .n .n) (.s (.b (.s .n (.s .n (.s .n (.s .n (.s (.s .n (.j (.s .n .n) .n)) (.s .n (.j (.s .n .n) .n)))))))) .n)))))) (.s .n .n))))) .F trivial (Snd.of rfl (All.cons s_play_CheckSetup (All.cons s_stamp_mode (All.cons s_word_When (All.cons s_word_First (All.cons s_stamp_day (All.cons s_word_Within (All.cons s_play_CheckFields (All.cons s_play_CheckRanges (All.cons s_stamp_cuesOf (All.cons (s_slices_ContainsFunc_api_Cue _ (dyn_of (DAll.cons (nm_sound s_stamp_CheckEvents_fn1 (by kernel_rfl) rfl) (DAll.cons (nm_sound s_stamp_CheckEvents_fn1 (by kernel_rfl) rfl) DAll.nil)))) All.nil)))))))))) (dyn_of (DAll.cons (nm_sound s_stamp_CheckEvents_fn1 (by kernel_rfl) rfl) (DAll.cons (nm_sound s_stamp_CheckEvents_fn1 (by kernel_rfl) rfl) DAll.nil)))) Try.func17 Try.call17 (fun a0 a1 a2 σ => by kernel_rfl)) _ _ _ rfl rfl
theorem s_stamp_CheckEvents : Sound Try.prog nmT 17 m_stamp_CheckEvents := w_stamp_CheckEvents
noncomputable def x_stamp_due : Fx := ⟨Try.prog, nmT, A.tab (fun _ _ => none) [(17, m_stamp_CheckEvents), (14, m_stamp_day), (18, m_word_When), (16, m_word_First)], (fun _ _ _ => none), [5, 15], [], 62, []⟩
theorem w_stamp_due : Sound Try.prog nmT 10 (A.wrap true [(.a [(.s 3), (.s 4), (.s 3), (.s 2), (.s 3)]), .k, (.s 6)] (.t [(.s 6), .k]) (A.ar5 (r_stamp_due))) :=
 Sound.wrap (Sound.run5 (X := x_stamp_due) (fn := Try.f10) (ann := (.s .n (.s (.s .n (.s .n (.j (.s .n .n) .n))) (.s .n (.s (.s .n (.b (.l [13, 42] [.exit 0] (.s .n (.s (.j .n .n) (.s (.b (.s .n (.s .n (.c [13] .n .n)))) .n)))))) (.s .n .n)))))) .F trivial (Snd.of rfl (All.cons s_stamp_CheckEvents (All.cons s_stamp_day (All.cons s_word_When (All.cons s_word_First All.nil)))) (fun _ => Sound.none)) Try.func10 Try.call10 (fun a0 a1 a2 a3 a4 σ => by kernel_rfl)) _ _ _ rfl rfl
theorem s_stamp_due : Sound Try.prog nmT 10 m_stamp_due := w_stamp_due
noncomputable def x_stamp_Due : Fx := ⟨Try.prog, nmT, A.tab (fun _ _ => none) [(10, m_stamp_due)], (fun _ _ _ => none), [5], [], 20, []⟩
theorem w_stamp_Due : Sound Try.prog nmT 5 (A.wrap true [(.a [(.s 3), (.s 4), (.s 3), (.s 2), (.s 3)]), .k, (.s 6)] (.t [(.s 6), .k]) (A.ar5 (r_stamp_Due))) :=
 Sound.wrap (Sound.run5 (X := x_stamp_Due) (fn := Try.f5) (ann := (.s .n (.s .n .n))) .F trivial (Snd.of rfl (All.cons s_stamp_due All.nil) (fun _ => Sound.none)) Try.func5 Try.call5 (fun a0 a1 a2 a3 a4 σ => by kernel_rfl)) _ _ _ rfl rfl
theorem s_stamp_Due : Sound Try.prog nmT 5 m_stamp_Due := w_stamp_Due
noncomputable def x_stamp_Day : Fx := ⟨Try.prog, nmT, A.tab (fun _ _ => none) [(13, m_stamp_mode), (14, m_stamp_day)], (fun _ _ _ => none), [], [], 12, []⟩
theorem w_stamp_Day : Sound Try.prog nmT 8 (A.wrap true [] .k (A.ar1 (r_stamp_Day))) :=
 Sound.wrap (Sound.run1 (X := x_stamp_Day) (fn := Try.f8) (ann := (.s .n (.s (.s .n (.s .n (.j (.s .n .n) .n))) (.s .n .n)))) .F trivial (Snd.of rfl (All.cons s_stamp_mode (All.cons s_stamp_day All.nil)) (fun _ => Sound.none)) Try.func8 Try.call8 (fun a0 σ => by kernel_rfl)) _ _ _ rfl rfl
theorem s_stamp_Day : Sound Try.prog nmT 8 m_stamp_Day := w_stamp_Day
noncomputable def x_slices_Grow_api_Event : Fx := ⟨Try.prog, nmT, A.tab (fun _ _ => none) [], (fun _ _ _ => none), [], [], 27, []⟩
theorem w_slices_Grow_api_Event : Sound Try.prog nmT 15 (A.wrap false [] .k (A.ar2 (r_slices_Grow_api_Event))) :=
 Sound.wrap (Sound.run2 (X := x_slices_Grow_api_Event) (fn := Try.f15) (ann := (.s .n (.s (.s .n (.c [] .n .n)) (.s (.s .n (.s .n (.c [0] .n .n))) (.s .n .n))))) .K trivial (Snd.of rfl All.nil (fun _ => Sound.none)) Try.func15 Try.call15 (fun a0 a1 σ => by kernel_rfl)) _ _ _ rfl rfl
theorem s_slices_Grow_api_Event : Sound Try.prog nmT 15 m_slices_Grow_api_Event := w_slices_Grow_api_Event
noncomputable def x_slices_Concat_api_Event : Fx := ⟨Try.prog, nmT, A.tab (fun _ _ => none) [(15, m_slices_Grow_api_Event)], (fun _ _ _ => none), [], [], 36, []⟩
theorem w_slices_Concat_api_Event : Sound Try.prog nmT 9 (A.wrap true [(.s 1)] (.s 6) (A.ar1 (r_slices_Concat_api_Event))) :=
 Sound.wrap (Sound.run1 (X := x_slices_Concat_api_Event) (fn := Try.f9) (ann := (.s .n (.s .n (.s (.s .n (.b (.l [3, 11] [.exit 0] (.s .n (.s (.j .n .n) (.s (.b (.s .n (.s .n (.s .n (.c [] .n .n))))) .n)))))) (.s .n (.s (.s .n (.b (.l [6, 27] [.exit 2] (.s .n (.s (.j .n .n) (.s (.b (.s .n .n)) .n)))))) (.s .n .n))))))) .F trivial (Snd.of rfl (All.cons s_slices_Grow_api_Event All.nil) (fun _ => Sound.none)) Try.func9 Try.call9 (fun a0 σ => by kernel_rfl)) _ _ _ rfl rfl
theorem s_slices_Concat_api_Event : Sound Try.prog nmT 9 m_slices_Concat_api_Event := w_slices_Concat_api_Event
noncomputable def x_slices_Equal_api_Event : Fx := ⟨Try.prog, nmT, A.tab (fun _ _ => none) [], (fun _ _ _ => none), [], [], 26, []⟩
theorem w_slices_Equal_api_Event : Sound Try.prog nmT 7 (A.wrap true [(.s 6), (.s 6)] .k (A.ar2 (r_slices_Equal_api_Event))) :=
 Sound.wrap (Sound.run2 (X := x_slices_Equal_api_Event) (fn := Try.f7) (ann := (.s .n (.s (.s .n (.j (.s .n .n) .n)) (.s (.s .n (.b (.l [4, 13] [.exit 0, .ret] (.s .n (.s (.j .n .n) (.s (.b (.s .n (.s .n (.j (.s .n .n) .n)))) .n)))))) (.s .n .n))))) .F trivial (Snd.of rfl All.nil (fun _ => Sound.none)) Try.func7 Try.call7 (fun a0 a1 σ => by kernel_rfl)) _ _ _ rfl rfl
theorem s_slices_Equal_api_Event : Sound Try.prog nmT 7 m_slices_Equal_api_Event := w_slices_Equal_api_Event
noncomputable def x_W8_StampDueIsCut : Fx := ⟨Try.prog, nmT, A.tab (fun _ _ => none) [(5, m_stamp_Due), (8, m_stamp_Day), (9, m_slices_Concat_api_Event), (7, m_slices_Equal_api_Event)], (fun _ _ _ => none), [6], [], 88, []⟩
theorem w_W8_StampDueIsCut : Sound Try.prog nmT 4 (A.wrap true [(.a [(.s 3), (.s 4), (.s 3), (.s 2), (.s 3)]), .k, (.s 6)] .k (A.ar6 (r_W8_StampDueIsCut))) :=
 Sound.wrap (Sound.run6 (X := x_W8_StampDueIsCut) (fn := Try.f4) (ann := (.s .n (.s .n (.s .n (.s .n (.s (.s .n (.j (.s .n .n) .n)) (.s .n (.s .n (.s .n .n))))))))) .F trivial (Snd.of rfl (All.cons s_stamp_Due (All.cons s_stamp_Day (All.cons s_slices_Concat_api_Event (All.cons s_slices_Equal_api_Event All.nil)))) (fun _ => Sound.none)) Try.func4 Try.call4 (fun a0 a1 a2 a3 a4 a5 σ => by kernel_rfl)) _ _ _ rfl rfl
theorem s_W8_StampDueIsCut : Sound Try.prog nmT 4 m_W8_StampDueIsCut := w_W8_StampDueIsCut
end Go.Proofs.Ytohbeolimnpehaa

namespace Go.Proofs.Ytohbeolimnpehaa
set_option linter.unusedSectionVars false
set_option linter.unusedVariables false
set_option linter.unusedSimpArgs false

theorem bq (s t : ByteArray) : (s == t) = decide (s = t) := by
 obtain ⟨a⟩ := s
 obtain ⟨b⟩ := t
 show (a == b) = _
 rw [Bool.eq_iff_iff]
 simp
section
variable {α β : Type}
theorem cT (t e : Option α) : A.cond (.bool true) t e = t := rfl
theorem cF (t e : Option α) : A.cond (.bool false) t e = e := rfl
theorem gTT (e d : Option α) : A.guard (.bool true) true e d = e := rfl
theorem gTF (e d : Option α) : A.guard (.bool true) false e d = d := rfl
theorem gFT (e d : Option α) : A.guard (.bool false) true e d = d := rfl
theorem gFF (e d : Option α) : A.guard (.bool false) false e d = e := rfl
theorem pT (x y : AV) : A.pick (.bool true) x y = some x := rfl
theorem pF (x y : AV) : A.pick (.bool false) x y = some y := rfl
theorem gDp {p : Prop} [Decidable p] {w : Bool} {e d : Option α} {f : α → Option β} : (A.guard (.bool (decide p)) w e d).bind f = if p then (A.guard (.bool true) w e d).bind f else (A.guard (.bool false) w e d).bind f := by by_cases h : p <;> simp [h]
theorem gDb {b w : Bool} {e d : Option α} {f : α → Option β} : (A.guard (.bool b) w e d).bind f = match b with | true => (A.guard (.bool true) w e d).bind f | false => (A.guard (.bool false) w e d).bind f := by cases b <;> rfl
theorem cDp {p : Prop} [Decidable p] {t e : Option α} : A.cond (.bool (decide p)) t e = if p then t else e := by by_cases h : p <;> simp [h, A.cond]
theorem cDnp {p : Prop} [Decidable p] {t e : Option α} : A.cond (.bool (!decide p)) t e = if p then e else t := by by_cases h : p <;> simp [h, A.cond]
theorem cDn {b : Bool} {t e : Option α} : A.cond (.bool (!b)) t e = match b with | true => e | false => t := by cases b <;> rfl
theorem cDb {b : Bool} {t e : Option α} : A.cond (.bool b) t e = match b with | true => t | false => e := by cases b <;> rfl
theorem gN (w : Bool) (e d : Option α) : A.guard (.tup []) w e d = d := rfl
theorem xN (a b : AX) : (a == b) = decide (a = b) := by rw [Bool.eq_iff_iff]; simp
end
section
variable (k : IntKind) (a b : Int) (p q : Prop) [Decidable p] [Decidable q] (s t : ByteArray) (x y : AV) (σ : Heap) (cs : List AV)
theorem aAdd : A.add (.int .i64 a) (.int .i64 b) = some (.int .i64 (IntKind.i64.wrap (a + b))) := rfl
theorem aSub : A.sub (.int .i64 a) (.int .i64 b) = some (.int .i64 (IntKind.i64.wrap (a - b))) := rfl
theorem aMul : A.mul (.int .i64 a) (.int .i64 b) = some (.int .i64 (IntKind.i64.wrap (a * b))) := rfl
theorem aLss : A.lss (.int .i64 a) (.int .i64 b) = some (.bool (decide (a < b))) := rfl
theorem aLeq : A.leq (.int .i64 a) (.int .i64 b) = some (.bool (decide (a ≤ b))) := rfl
theorem aGtr : A.gtr (.int .i64 a) (.int .i64 b) = some (.bool (decide (b < a))) := rfl
theorem aGeq : A.geq (.int .i64 a) (.int .i64 b) = some (.bool (decide (b ≤ a))) := rfl
theorem aLss8 : A.lss (.int .u8 a) (.int .u8 b) = some (.bool (decide (a < b))) := rfl
theorem aLeq8 : A.leq (.int .u8 a) (.int .u8 b) = some (.bool (decide (a ≤ b))) := rfl
theorem aGtr8 : A.gtr (.int .u8 a) (.int .u8 b) = some (.bool (decide (b < a))) := rfl
theorem aGeq8 : A.geq (.int .u8 a) (.int .u8 b) = some (.bool (decide (b ≤ a))) := rfl
theorem aEq : A.eql .i (.int k a) (.int k b) = some (.bool (decide (a = b))) := by
 simp only [A.eql, A.eqK, A.eqI, if_true, Option.map_some]; congr 2
theorem aNe : A.neq .i (.int k a) (.int k b) = some (.bool (decide (¬ a = b))) := by
 simp only [A.neq, A.eqK, A.eqI, if_true, Option.map_some]
 congr 2
 rw [Bool.eq_iff_iff]; simp
theorem aEqZ : A.eql .z (.str s) (.str t) = some (.bool (decide (s = t))) := by
 simp only [A.eql, A.eqK, A.eqZ, Option.map_some, bq]
theorem aNeZ : A.neq .z (.str s) (.str t) = some (.bool (decide (¬ s = t))) := by
 simp only [A.neq, A.eqK, A.eqZ, Option.map_some, bq]; simp
theorem aNot (b : Bool) : A.not (.bool b) = some (.bool (!b)) := rfl
theorem aNotD : A.not (.bool (decide p)) = some (.bool (decide (¬ p))) := by simp [A.not]
theorem aLb : A.lb (.lbx cs) = some cs := rfl
theorem aExt0 (l : List AV) : A.ext 0 (.tup (x :: l)) = some x := rfl
theorem aExt1 (x0 x : AV) (l : List AV) : A.ext 1 (.tup (x0 :: x :: l)) = some x := rfl
theorem aExt2 (x0 x1 x : AV) (l : List AV) : A.ext 2 (.tup (x0 :: x1 :: x :: l)) = some x := rfl
theorem aExt3 (x0 x1 x2 x : AV) (l : List AV) : A.ext 3 (.tup (x0 :: x1 :: x2 :: x :: l)) = some x := rfl
theorem aDe : A.deref (.rp cs) σ = some cs := rfl
theorem aFa (o : Nat) : A.faddr o (.rp cs) = some (.rp (cs.drop o)) := rfl
theorem aLenZ : A.lenZ (.str s) = some (.int .i64 s.size) := rfl
theorem aCI (n : Int) : A.cell (.int k n) = some (.int k n) := rfl
theorem aCB (b : Bool) : A.cell (.bool b) = some (.bool b) := rfl
theorem aCS : A.cell (.str s) = some (.str s) := rfl
theorem aCSl (sz : Nat) (es : List (List AV)) : A.cell (.sl sz es) = some (.sl sz es) := rfl
theorem p1D (o k : Nat) : A.part1 o (cs.drop k) = A.part1 (k + o) cs := by simp [A.part1, List.getElem?_drop]
end
theorem gd0 (a d : AV) (l : List AV) : (a :: l).getD 0 d = a := rfl
theorem gd1 (a b d : AV) (l : List AV) : (b :: a :: l).getD 1 d = a := rfl
theorem gd2 (a b c d : AV) (l : List AV) : (b :: c :: a :: l).getD 2 d = a := rfl
theorem gd3 (a b c e d : AV) (l : List AV) : (b :: c :: e :: a :: l).getD 3 d = a := rfl
theorem gd4 (a b c e f d : AV) (l : List AV) : (b :: c :: e :: f :: a :: l).getD 4 d = a := rfl
theorem gd5 (a b c e f g d : AV) (l : List AV) : (b :: c :: e :: f :: g :: a :: l).getD 5 d = a := rfl
theorem gd6 (a b c e f g h d : AV) (l : List AV) : (b :: c :: e :: f :: g :: h :: a :: l).getD 6 d = a := rfl
theorem gd7 (a b c e f g h i d : AV) (l : List AV) : (b :: c :: e :: f :: g :: h :: i :: a :: l).getD 7 d = a := rfl
theorem gd8 (a b c e f g h i j d : AV) (l : List AV) : (b :: c :: e :: f :: g :: h :: i :: j :: a :: l).getD 8 d = a := rfl
theorem wrap64 {n : Int} (h : inI n) : IntKind.i64.wrap n = n := IntWalk.i64_in n h
theorem wrap_eq {ro : Bool} {ain : List Sh} {rout : Sh} {r : List AV → Heap → Option (AV × Heap)} {args : List AV} {σ σ' : Heap} {v v' : AV} (h : args.any A.own = false) (e : r (A.nnL ain args) σ = some (v, σ')) (hv : A.nn rout v = v') : A.wrap ro ain rout r args σ = some (v', σ') := by
 unfold A.wrap
 rw [h, Bool.and_false, cond_false, e]
 simp [hv]
theorem scal2_shift {v : AV} (n : Nat) (h : A.scal2 v = true) : A.fresh v = true ∧ A.shift n v = v := by
 cases v <;> first | exact ⟨h, rfl⟩ | cases h
theorem scal_shift {v : AV} (n : Nat) (h : A.scal v = true) : A.freshT v = true ∧ A.shiftT n v = v := by
 have key : (∀ vs, v ≠ .tup vs) → A.freshT v = true ∧ A.shiftT n v = v := by
  intro k
  have := scal2_shift (v := v) n
  cases v <;> first | exact absurd rfl (k _) | exact this h
 by_cases ht : ∃ vs, v = .tup vs
 ·obtain ⟨vs, rfl⟩ := ht
  simp only [A.scal, List.all_eq_true] at h
  refine ⟨by simp only [A.freshT, List.all_eq_true]; exact fun x hx => (scal2_shift n (h x hx)).1, ?_⟩
  simp only [A.shiftT]
  congr 1
  calc vs.map (A.shift n) = vs.map id := List.map_congr_left fun x hx => (scal2_shift n (h x hx)).2
   _ = vs := List.map_id vs
 ·exact key fun vs e => ht ⟨vs, e⟩
theorem wrap_own {ain : List Sh} {rout : Sh} {r : List AV → Heap → Option (AV × Heap)} {args args' : List AV} {σ : Heap} {v : AV} (h : args.any A.own = true) (hz : A.frzL σ 0 8 args = some args') (ho : args'.any A.own = false) (e : A.wrap true ain rout r args' [] = some (v, [])) (hs : A.scal v = true) : A.wrap true ain rout r args σ = some (v, σ) := by
 unfold A.wrap at e ⊢
 rw [ho, Bool.and_false, cond_false] at e
 obtain ⟨⟨q1, q2⟩, e1, e2⟩ := Option.map_eq_some_iff.1 e
 simp only [Prod.mk.injEq] at e2
 obtain ⟨rfl, rfl⟩ := e2
 rw [h, Bool.and_self, cond_true, hz]
 simp [e1, (scal_shift σ.length hs).1, (scal_shift σ.length hs).2]
theorem fin_same (σ : Heap) (r : AV) : A.fin σ r σ = some (r, σ) := by simp [A.fin]
theorem frz_scal1 (σ : Heap) (n d : Nat) {a : AV} (h : A.scal1 a = true) : A.frz σ n d a = some a := by
 cases a <;> simp only [A.scal1] at h <;> first | (cases h; done) | skip
 case sl sz es => cases es with
  | nil => cases d <;> simp [A.frz, A.frzLL]
  | cons _ _ => simp at h
 all_goals cases d <;> simp [A.frz]
theorem frzL_scal1 (σ : Heap) (n d : Nat) : ∀ {l : List AV}, l.all A.scal1 = true → A.frzL σ n d l = some l
 | [], _ => by simp [A.frzL]
 | a :: l, h => by
  simp only [List.all_cons, Bool.and_eq_true] at h
  simp [A.frzL, frz_scal1 σ n d h.1, frzL_scal1 σ n d h.2]
theorem frz_scal2 (σ : Heap) (n d : Nat) {a : AV} (h : A.scal2 a = true) : A.frz σ n d a = some a := by
 unfold A.scal2 at h
 split at h
 ·cases d <;> simp [A.frz, frzL_scal1 σ n _ h]
 ·exact frz_scal1 σ n d h
theorem frzL_scal2 (σ : Heap) (n d : Nat) : ∀ {l : List AV}, l.all A.scal2 = true → A.frzL σ n d l = some l
 | [], _ => by simp [A.frzL]
 | a :: l, h => by
  simp only [List.all_cons, Bool.and_eq_true] at h
  simp [A.frzL, frz_scal2 σ n d h.1, frzL_scal2 σ n d h.2]
theorem frz_scal (σ : Heap) (n d : Nat) {a : AV} (h : A.scal a = true) : A.frz σ n d a = some a := by
 unfold A.scal at h
 split at h
 ·cases d <;> simp [A.frz, frzL_scal2 σ n _ h]
 ·exact frz_scal2 σ n d h
theorem fin_scal (σ bs : Heap) {r : AV} (h : A.scal r = true) : A.fin σ r (σ ++ bs) = some (r, σ) := by
 unfold A.fin
 split
 ·rfl
 ·rw [if_pos (by simp), frz_scal _ _ _ h]; rfl
theorem fin_int (σ bs : Heap) (k : IntKind) (n : Int) : A.fin σ (.int k n) (σ ++ bs) = some (.int k n, σ) := fin_scal σ bs rfl
theorem fin_bool (σ bs : Heap) (b : Bool) : A.fin σ (.bool b) (σ ++ bs) = some (.bool b, σ) := fin_scal σ bs rfl
theorem fin_str (σ bs : Heap) (s : ByteArray) : A.fin σ (.str s) (σ ++ bs) = some (.str s, σ) := fin_scal σ bs rfl
theorem fin_unit (σ bs : Heap) : A.fin σ (.tup []) (σ ++ bs) = some (.tup [], σ) := fin_scal σ bs rfl
theorem hat (σ bs : Heap) (j : Nat) : (σ ++ bs)[σ.length + j]? = bs[j]? := by rw [List.getElem?_append_right (by omega)]; congr 1; omega
theorem hat0 (σ bs : Heap) : (σ ++ bs)[σ.length]? = bs[0]? := by rw [List.getElem?_append_right (Nat.le_refl _), Nat.sub_self]
theorem hset (σ bs : Heap) (j : Nat) (b : Blk) : (σ ++ bs).set (σ.length + j) b = σ ++ bs.set j b := by rw [List.set_append_right _ _ (by omega)]; congr 2; omega
theorem hset0 (σ bs : Heap) (b : Blk) : (σ ++ bs).set σ.length b = σ ++ bs.set 0 b := by rw [List.set_append_right _ _ (Nat.le_refl _), Nat.sub_self]
section
variable {α : Type} (sz : Nat) (c : α → List AV) (l : List α)
theorem lenS_sl : A.lenS (sl sz c l) = some (.int .i64 l.length) := by simp [sl, A.lenS]
theorem iaddr_sl {k : Nat} {x : α} (h : l[k]? = some x) : A.iaddr sz (sl sz c l) (.int .i64 (k : Int)) = some (.rp (c x)) := by
 have hk : k < l.length := (List.getElem?_eq_some_iff.1 h).1
 have hx : l[k] = x := (List.getElem?_eq_some_iff.1 h).2
 simp [A.iaddr, sl, A.idx, hk, hx]
theorem iaddr_int {i : Int} {x : α} (h0 : 0 ≤ i) (h : l[i.toNat]? = some x) : A.iaddr sz (sl sz c l) (.int .i64 i) = some (.rp (c x)) := by
 have := iaddr_sl sz c l h
 rwa [Int.toNat_of_nonneg h0] at this
end
inductive Rd (S R : Type) where
 | go (s : S)
 | out (r : R)
def Rd.el {S R γ : Type} (x : Rd S R) (f : S → γ) (g : R → γ) : γ := match x with | .go s => f s | .out r => g r
theorem el_go {S R γ : Type} (s : S) (f : S → γ) (g : R → γ) : (Rd.go s : Rd S R).el f g = f s := rfl
theorem el_out {S R γ : Type} (r : R) (f : S → γ) (g : R → γ) : (Rd.out r : Rd S R).el f g = g r := rfl
theorem el_ite {S R γ : Type} {p : Prop} [Decidable p] (x y : Rd S R) (f : S → γ) (g : R → γ) : (if p then x else y).el f g = if p then x.el f g else y.el f g := by split <;> rfl
def runP {α S R : Type} (body : List α → α → S → Rd S R) : List α → List α → S → Rd S R
 | _, [], s => .go s
 | pre, x :: l, s => match body pre x s with | .go s' => runP body (pre ++ [x]) l s' | .out r => .out r
theorem iter_loop {f : List AV → Heap → Option (AX × List AV × Heap)} {v : List AV} {σ : Heap} : ∀ {n m : Nat} {r r' : AX × List AV × Heap}, A.iter f n v σ = some r → A.iter f m v σ = some r' → r = r' := by
 intro n
 induction n generalizing v σ with
 | zero => intro m r r' h; cases h
 | succ n ih =>
  intro m r r' h1 h2
  cases m with
  | zero => cases h2
  | succ m =>
   simp only [A.iter] at h1 h2
   cases hf : f v σ with
   | none => rw [hf] at h1; cases h1
   | some q =>
    rw [hf] at h1 h2
    simp only [Option.bind_some] at h1 h2
    obtain ⟨e, v', σ'⟩ := q
    cases e with
    | normal => exact ih h1 h2
    | exit i => simp only at h1 h2; rw [h1] at h2; injection h2
    | ret => simp only at h1 h2; rw [h1] at h2; injection h2
theorem loop_of_iter {f : List AV → Heap → Option (AX × List AV × Heap)} {v : List AV} {σ : Heap} {n : Nat} {r : AX × List AV × Heap} (h : A.iter f n v σ = some r) : A.loop f v σ = some r := by
 have hex : ∃ n r, A.iter f n v σ = some r := ⟨n, r, h⟩
 unfold A.loop
 rw [dif_pos hex]
 exact congrArg some (iter_loop (Classical.choose_spec (Classical.choose_spec hex)) h)
theorem loop_step {f : List AV → Heap → Option (AX × List AV × Heap)} {v v' : List AV} {σ σ' : Heap} {r : AX × List AV × Heap} (h : f v σ = some (.normal, v', σ')) (k : ∃ n, A.iter f n v' σ' = some r) : ∃ n, A.iter f n v σ = some r := by
 obtain ⟨n, k⟩ := k
 exact ⟨n + 1, by simp [A.iter, h, k]⟩
theorem loop_done {f : List AV → Heap → Option (AX × List AV × Heap)} {v : List AV} {σ : Heap} {r : AX × List AV × Heap} (h : f v σ = some r) (hr : r.1 ≠ .normal) : ∃ n, A.iter f n v σ = some r := by
 obtain ⟨e, v', σ'⟩ := r
 refine ⟨1, ?_⟩
 cases e <;> first | (simp [A.iter, h]; done) | exact absurd rfl hr
theorem loop_pre {α S R γ : Type} {f : List AV → Heap → Option (AX × List AV × Heap)} (l : List α) (body : List α → α → S → Rd S R) (st : List α → S → List AV) (hp : List α → S → Heap)
  (fin : S → AX × List AV × Heap) (out : List α → S → R → AX × List AV × Heap) (P : List α → S → Prop) (s0 : S) {k : AX × List AV × Heap → Option γ} (K1 : S → Option γ) (K2 : R → Option γ)
  (hstep : ∀ pre x rest s, l = pre ++ x :: rest → P pre s → f (st pre s) (hp pre s) = some ((body pre x s).el (fun s' => (.normal, st (pre ++ [x]) s', hp (pre ++ [x]) s')) (fun r => out pre s r)))
  (hend : ∀ s, P l s → f (st l s) (hp l s) = some (fin s)) (h0 : P [] s0)
  (hP : ∀ pre x rest s s', l = pre ++ x :: rest → P pre s → body pre x s = .go s' → P (pre ++ [x]) s')
  (hk1 : ∀ s, P l s → k (fin s) = K1 s) (hk2 : ∀ pre x rest s r, l = pre ++ x :: rest → P pre s → body pre x s = .out r → k (out pre s r) = K2 r)
  (hfin : ∀ s, (fin s).1 ≠ .normal := by intros; simp) (hout : ∀ pre s r, (out pre s r).1 ≠ .normal := by intros; simp) {v : List AV} {σ : Heap} (hv : v = st [] s0 := by rfl) (hσ : σ = hp [] s0 := by rfl) :
  (A.loop f v σ).bind k = (runP body [] l s0).el K1 K2 := by
 have key : ∀ (rest pre : List α) (s : S), l = pre ++ rest → P pre s → ∃ q, (∃ n, A.iter f n (st pre s) (hp pre s) = some q) ∧ k q = (runP body pre rest s).el K1 K2 := by
  intro rest
  induction rest with
  | nil =>
   intro pre s hl hp'
   rw [List.append_nil] at hl
   subst hl
   exact ⟨fin s, loop_done (hend s hp') (hfin s), by rw [runP, el_go, hk1 s hp']⟩
  | cons x rest ih =>
   intro pre s hl hp'
   have h := hstep pre x rest s hl hp'
   rw [runP]
   cases hb : body pre x s with
   | go s' =>
    rw [hb] at h
    obtain ⟨q, h1, h2⟩ := ih (pre ++ [x]) s' (by simpa using hl) (hP pre x rest s s' hl hp' hb)
    exact ⟨q, loop_step h h1, h2⟩
   | out r =>
    rw [hb] at h
    exact ⟨out pre s r, loop_done h (hout pre s r), by rw [el_out, hk2 pre x rest s r hl hp' hb]⟩
 obtain ⟨q, ⟨n, h1⟩, h2⟩ := key l [] s0 rfl h0
 rw [hv, hσ, loop_of_iter h1, Option.bind_some, h2]
theorem runP_fault {α : Type} {body : List α → α → Unit → Rd Unit Int} {chk : List α → List α → Int} (h0 : ∀ pre, chk pre [] = 0) (h : ∀ pre x rest, chk pre (x :: rest) = (body pre x ()).el (fun _ => chk (pre ++ [x]) rest) (fun r => r)) {γ : Type} (K : Int → γ) :
  ∀ (l pre : List α), (runP body pre l ()).el (fun _ => K 0) K = K (chk pre l)
 | [], pre => by rw [runP, h0]; rfl
 | x :: l, pre => by
  rw [runP, h]
  cases body pre x () with
  | go s => exact runP_fault h0 h K l (pre ++ [x])
  | out r => rfl
theorem pre_get {α : Type} {l pre rest : List α} {x : α} (h : l = pre ++ x :: rest) : l[pre.length]? = some x := by rw [h]; simp
theorem pre_lt {α : Type} {l pre rest : List α} {x : α} (h : l = pre ++ x :: rest) : pre.length < l.length := by rw [h]; simp
theorem pre_last {α : Type} {l pre rest : List α} {x : α} (h : l = pre ++ x :: rest) (h0 : 0 < pre.length) : ∃ y, pre.getLast? = some y ∧ l[pre.length - 1]? = some y := by
 cases hp : pre.getLast? with
 | none => rw [List.getLast?_eq_none_iff] at hp; subst hp; simp at h0
 | some y =>
  refine ⟨y, rfl, ?_⟩
  rw [h, List.getElem?_append_left (by omega), ← hp, List.getLast?_eq_getElem?]
theorem all_loop {γ : Type} {p : UInt8 → Bool} {f : List AV → Heap → Option (AX × List AV × Heap)} (s : ByteArray) {σ : Heap} {k : AX × List AV × Heap → Option γ} (K2 : Option γ)
  (hstep : ∀ (i : Nat) (c : UInt8), i < s.size → A.sidx (.str s) (.int .i64 (i : Int)) = some (.int .u8 c.toNat) → f [.bool false, .int .i64 (i : Int)] σ = if p c = true then some (.normal, [.bool false, .int .i64 ((i : Int) + 1)], σ) else some (.ret, [.bool false, .int .i64 (i : Int)], σ))
  (hend : f [.bool false, .int .i64 (s.size : Int)] σ = some (.exit 0, [.bool false, .int .i64 (s.size : Int)], σ)) (hk2 : ∀ i : Int, k (.ret, [.bool false, .int .i64 i], σ) = K2) :
  (A.loop f [.bool false, .int .i64 0] σ).bind k = if s.data.toList.all p = true then k (.exit 0, [.bool false, .int .i64 (s.size : Int)], σ) else K2 := by
 have hsz : s.data.toList.length = s.size := rfl
 refine (loop_pre (S := Unit) (R := Unit) s.data.toList (fun _ c _ => if p c = true then .go () else .out ()) (fun pre _ => [.bool false, .int .i64 (pre.length : Int)]) (fun _ _ => σ) (fun _ => (.exit 0, [.bool false, .int .i64 (s.size : Int)], σ)) (fun pre _ _ => (.ret, [.bool false, .int .i64 (pre.length : Int)], σ)) (fun _ _ => True) ()
  (fun _ => k (.exit 0, [.bool false, .int .i64 (s.size : Int)], σ)) (fun _ => K2) ?_ ?_ trivial (fun _ _ _ _ _ _ _ _ => trivial) (fun _ _ => rfl) (fun _ _ _ _ _ _ _ _ => hk2 _)).trans ?_
 ·intro pre c rest u hl _
  have hlt := pre_lt hl
  have hc := pre_get hl
  rw [hsz] at hlt
  have hsi : A.sidx (.str s) (.int .i64 (pre.length : Int)) = some (.int .u8 c.toNat) := by
   have h2 : s[pre.length] = c := (List.getElem?_eq_some_iff.1 hc).2
   simp [A.sidx, A.idx, hlt, h2]
  rw [hstep pre.length c hlt hsi]
  cases p c <;> simp [Rd.el]
 ·intro u _; rw [hsz]; exact hend
 ·have key : ∀ (l pre : List UInt8), (runP (fun (_ : List UInt8) c (_ : Unit) => if p c = true then (Rd.go () : Rd Unit Unit) else .out ()) pre l ()).el (fun _ => k (.exit 0, [.bool false, .int .i64 (s.size : Int)], σ)) (fun _ => K2) = if l.all p = true then k (.exit 0, [.bool false, .int .i64 (s.size : Int)], σ) else K2 := by
   intro l
   induction l with
   | nil => intro pre; simp [runP, Rd.el]
   | cons c l ih =>
    intro pre
    rw [runP]
    cases hc : p c
    ·simp [hc, Rd.el]
    ·simp only [if_true]
     rw [ih]
     simp [hc]
  exact key s.data.toList []
section
variable {α : Type} (g : α → ByteArray) (gi : α → Int) (v : α → AV)
theorem find_z (k : ByteArray) : ∀ (l : List α), A.find .z (.str k) (l.map fun x => (AV.str (g x), v x)) = some ((l.find? fun x => decide (k = g x)).map v)
 | [] => rfl
 | x :: l => by
  simp only [List.map_cons, A.find, A.eqK, A.eqZ, Option.bind_some, List.find?]
  by_cases h : k = g x
  ·rw [bq]; simp [h]
  ·rw [bq]; simp [h, find_z k l]
theorem find_i (kk : IntKind) (k : Int) : ∀ (l : List α), A.find .i (.int kk k) (l.map fun x => (AV.int kk (gi x), v x)) = some ((l.find? fun x => decide (k = gi x)).map v)
 | [] => rfl
 | x :: l => by
  simp only [List.map_cons, A.find, A.eqK, A.eqI, if_true, Option.bind_some, List.find?]
  by_cases h : k = gi x
  ·have : (k == gi x) = true := by simpa using h
   simp [this, h]
  ·have : (k == gi x) = false := by simpa using h
   simp [this, h, find_i kk k l]
theorem upd_z {k : ByteArray} {w : AV} : ∀ {l : List α}, (∀ x ∈ l, g x ≠ k) → A.upd .z (.str k) w (l.map fun x => (AV.str (g x), v x)) = some ((l.map fun x => (AV.str (g x), v x)) ++ [(.str k, w)])
 | [], _ => rfl
 | x :: l, h => by
  have h1 : (k == g x) = false := by rw [bq]; exact decide_eq_false fun e : k = g x => h x (by simp) e.symm
  simp only [List.map_cons, A.upd, A.eqK, A.eqZ, Option.bind_some, h1, cond_false]
  rw [upd_z (fun y hy => h y (by simp [hy]))]
  rfl
theorem upd_i {kk : IntKind} {k : Int} {w : AV} : ∀ {l : List α}, (∀ x ∈ l, gi x ≠ k) → A.upd .i (.int kk k) w (l.map fun x => (AV.int kk (gi x), v x)) = some ((l.map fun x => (AV.int kk (gi x), v x)) ++ [(.int kk k, w)])
 | [], _ => rfl
 | x :: l, h => by
  have h1 : (k == gi x) = false := by simpa using fun e : k = gi x => h x (by simp) e.symm
  simp only [List.map_cons, A.upd, A.eqK, A.eqI, if_true, Option.bind_some, h1, cond_false]
  rw [upd_i (fun y hy => h y (by simp [hy]))]
  rfl
end
theorem look_at (e : A.EK) {k z : AV} {σ : Heap} {id : Nat} {es : List (AV × AV)} (hk : A.keyOk e k = true) (h : σ[id]? = some (.map es)) : A.look e (.om id) k z σ = (A.find e k es).map fun r => r.getD z := by
 simp [A.look, hk, A.entries, h]
theorem mupd_at (e : A.EK) {k w : AV} {σ : Heap} {id : Nat} {es : List (AV × AV)} (hk : A.keyOk e k = true) (h : σ[id]? = some (.map es)) : A.mupd e (.om id) k w σ = (A.upd e k w es).map fun es => σ.set id (.map es) := by
 simp [A.mupd, hk, h]
theorem len_snoc {α : Type} (l : List α) (x : α) : (((l ++ [x]).length : Nat) : Int) = (l.length : Int) + 1 := by simp
theorem iaddr_pred {α : Type} (sz : Nat) (c : α → List AV) (l : List α) {k : Nat} {x : α} (h0 : 0 < k) (h : l[k - 1]? = some x) : A.iaddr sz (sl sz c l) (.int .i64 ((k : Int) - 1)) = some (.rp (c x)) := by
 have := iaddr_sl sz c l h
 rwa [show ((k - 1 : Nat) : Int) = (k : Int) - 1 by omega] at this
def setZ {α : Type} (g : α → ByteArray) (l : List α) : List (AV × AV) := l.map fun x => (AV.str (g x), AV.bool true)
def setI {α : Type} (g : α → Int) (l : List α) : List (AV × AV) := l.map fun x => (AV.int .i64 (g x), AV.bool true)
theorem any_find {α : Type} (p : α → Bool) : ∀ (l : List α), ((l.find? p).map fun _ => AV.bool true).getD (AV.bool false) = AV.bool (l.any p)
 | [] => rfl
 | x :: l => by
  simp only [List.find?, List.any_cons]
  cases h : p x
  ·simpa using any_find p l
  ·rfl
theorem setZ_find {α : Type} (g : α → ByteArray) (k : ByteArray) (l : List α) : (A.find .z (.str k) (setZ g l)).map (fun r => r.getD (.bool false)) = some (.bool (memB k (l.map g))) := by
 unfold setZ
 rw [find_z g (fun _ => AV.bool true) k l, Option.map_some, any_find]
 refine congrArg some (congrArg AV.bool ?_)
 rw [Bool.eq_iff_iff, memB_iff]
 simp only [List.any_eq_true, decide_eq_true_eq, List.mem_map]
 exact ⟨fun ⟨x, h, e⟩ => ⟨x, h, e.symm⟩, fun ⟨x, h, e⟩ => ⟨x, h, e.symm⟩⟩
theorem setI_find {α : Type} (g : α → Int) (k : Int) (l : List α) : (A.find .i (.int .i64 k) (setI g l)).map (fun r => r.getD (.bool false)) = some (.bool (memB k (l.map g))) := by
 unfold setI
 rw [find_i g (fun _ => AV.bool true) .i64 k l, Option.map_some, any_find]
 refine congrArg some (congrArg AV.bool ?_)
 rw [Bool.eq_iff_iff, memB_iff]
 simp only [List.any_eq_true, decide_eq_true_eq, List.mem_map]
 exact ⟨fun ⟨x, h, e⟩ => ⟨x, h, e.symm⟩, fun ⟨x, h, e⟩ => ⟨x, h, e.symm⟩⟩
section
variable {α : Type} (g : α → ByteArray) (gi : α → Int) (l : List α) (k : ByteArray) (n : Int) (σ bs : Heap) (b0 : Blk)
theorem setZ_look0 : A.look .z (.om σ.length) (.str k) (.bool false) (σ ++ Blk.map (setZ g l) :: bs) = some (.bool (memB k (l.map g))) := by
 rw [look_at .z rfl (by rw [hat0]; rfl), setZ_find]
theorem setI_look0 : A.look .i (.om σ.length) (.int .i64 n) (.bool false) (σ ++ Blk.map (setI gi l) :: bs) = some (.bool (memB n (l.map gi))) := by
 rw [look_at .i rfl (by rw [hat0]; rfl), setI_find]
theorem setZ_look1 : A.look .z (.om (σ.length + 1)) (.str k) (.bool false) (σ ++ b0 :: Blk.map (setZ g l) :: bs) = some (.bool (memB k (l.map g))) := by
 rw [look_at .z rfl (by rw [hat]; rfl), setZ_find]
theorem setI_look1 : A.look .i (.om (σ.length + 1)) (.int .i64 n) (.bool false) (σ ++ b0 :: Blk.map (setI gi l) :: bs) = some (.bool (memB n (l.map gi))) := by
 rw [look_at .i rfl (by rw [hat]; rfl), setI_find]
theorem setZ_upd0 (h : memB k (l.map g) = false) : A.mupd .z (.om σ.length) (.str k) (.bool true) (σ ++ Blk.map (setZ g l) :: bs) = some (σ ++ Blk.map (setZ g l ++ [(.str k, .bool true)]) :: bs) := by
 rw [mupd_at .z rfl (by rw [hat0]; rfl), setZ, upd_z g _ (fun x hx e => memB_false.1 h (by rw [← e]; exact List.mem_map_of_mem hx)), Option.map_some, hset0]; rfl
theorem setI_upd0 (h : memB n (l.map gi) = false) : A.mupd .i (.om σ.length) (.int .i64 n) (.bool true) (σ ++ Blk.map (setI gi l) :: bs) = some (σ ++ Blk.map (setI gi l ++ [(.int .i64 n, .bool true)]) :: bs) := by
 rw [mupd_at .i rfl (by rw [hat0]; rfl), setI, upd_i gi _ (fun x hx e => memB_false.1 h (by rw [← e]; exact List.mem_map_of_mem hx)), Option.map_some, hset0]; rfl
theorem setZ_upd1 (h : memB k (l.map g) = false) : A.mupd .z (.om (σ.length + 1)) (.str k) (.bool true) (σ ++ b0 :: Blk.map (setZ g l) :: bs) = some (σ ++ b0 :: Blk.map (setZ g l ++ [(.str k, .bool true)]) :: bs) := by
 rw [mupd_at .z rfl (by rw [hat]; rfl), setZ, upd_z g _ (fun x hx e => memB_false.1 h (by rw [← e]; exact List.mem_map_of_mem hx)), Option.map_some, hset]; rfl
theorem setI_upd1 (h : memB n (l.map gi) = false) : A.mupd .i (.om (σ.length + 1)) (.int .i64 n) (.bool true) (σ ++ b0 :: Blk.map (setI gi l) :: bs) = some (σ ++ b0 :: Blk.map (setI gi l ++ [(.int .i64 n, .bool true)]) :: bs) := by
 rw [mupd_at .i rfl (by rw [hat]; rfl), setI, upd_i gi _ (fun x hx e => memB_false.1 h (by rw [← e]; exact List.mem_map_of_mem hx)), Option.map_some, hset]; rfl
end
theorem setZ_snoc {α : Type} (g : α → ByteArray) (l : List α) (x : α) : setZ g (l ++ [x]) = setZ g l ++ [(.str (g x), .bool true)] := by simp [setZ]
theorem quiet_same (σ : Heap) (v : AV) : A.quiet (some (v, σ)) σ = some v := by simp [A.quiet]
def Fz (a : AV) : Prop := ∀ σ n d, A.frz σ n d a = some a
def FzL (l : List AV) : Prop := ∀ σ n d, A.frzL σ n d l = some l
theorem fz_int (k : IntKind) (n : Int) : Fz (.int k n) := fun _ _ d => by cases d <;> simp [A.frz]
theorem fz_bool (b : Bool) : Fz (.bool b) := fun _ _ d => by cases d <;> simp [A.frz]
theorem fz_str (s : ByteArray) : Fz (.str s) := fun _ _ d => by cases d <;> simp [A.frz]
theorem fz_nsl : Fz .nsl := fun _ _ d => by cases d <;> simp [A.frz]
theorem fz_agg {l : List AV} (h : FzL l) : Fz (.agg l) := fun σ n d => by cases d <;> simp [A.frz, h σ n]
theorem fzL_nil : FzL [] := fun _ _ _ => by simp [A.frzL]
theorem fzL_cons {a : AV} {l : List AV} (h : Fz a) (k : FzL l) : FzL (a :: l) := fun σ n d => by simp [A.frzL, h σ n d, k σ n d]
theorem fz_sl {α : Type} {sz : Nat} {c : α → List AV} (h : ∀ x, FzL (c x)) (l : List α) : Fz (sl sz c l) := by
 intro σ n d
 have : A.frzLL σ n d (l.map c) = some (l.map c) := by
  induction l with
  | nil => simp [A.frzLL]
  | cons x l ih => simp [A.frzLL, h x σ n d, ih]
 cases d <;> simp [sl, A.frz, this]
theorem fzLL {α : Type} {c : α → List AV} (h : ∀ x, FzL (c x)) (l : List α) (σ : Heap) (n d : Nat) : A.frzLL σ n d (l.map c) = some (l.map c) := by
 induction l with
 | nil => simp [A.frzLL]
 | cons x l ih => simp [A.frzLL, h x σ n d, ih]
def ownV {α : Type} (id sz : Nat) (l : List α) : AV := if l = [] then .nsl else .os id l.length sz 0 l.length
def ownB {α : Type} (sz : Nat) (c : α → List AV) (l : List α) : Heap := if l = [] then [] else [.arr l.length sz (l.map c)]
theorem ownB_nil {α : Type} (sz : Nat) (c : α → List AV) : ownB sz c [] = [] := rfl
theorem own_append {α : Type} {sz most : Nat} (c : α → List AV) (l : List α) (x : α) (σ : Heap) (h : l.length + 1 ≤ most) : A.append sz most (ownV σ.length sz l) (.sl sz [c x]) (σ ++ ownB sz c l) = some (ownV σ.length sz (l ++ [x]), σ ++ ownB sz c (l ++ [x])) := by
 unfold ownV ownB
 cases l with
 | nil =>
  have h1 : 1 ≤ most := by simpa using h
  simp [A.append, A.appendL, A.elems, h1]
 | cons y l =>
  have h1 : l.length + 1 + 1 ≤ most := by simpa using h
  simp [A.append, A.appendL, A.elems, h1, hat0, hset0, Nat.add_assoc, List.take_of_length_le]
theorem own_frz {α : Type} {sz : Nat} {c : α → List AV} (hc : ∀ x, FzL (c x)) (l : List α) (σ : Heap) (d : Nat) : A.frz (σ ++ ownB sz c l) σ.length (d + 1) (ownV σ.length sz l) = some (if l = [] then .nsl else sl sz c l) := by
 unfold ownV ownB
 split
 ·simp [A.frz]
 ·rename_i hl
  simp only [A.frz, Nat.lt_irrefl, if_false, hat0, List.getElem?_cons_zero]
  rw [if_pos (by simp)]
  have e : (List.take l.length (List.drop 0 (l.map c))) = l.map c := by simp [List.take_of_length_le]
  rw [e, frzLL_eq, fzLL hc]
  rfl
theorem fin_own2 {α : Type} {sz : Nat} {c : α → List AV} (hc : ∀ x, FzL (c x)) (l : List α) (k : IntKind) (n : Int) (σ : Heap) : A.fin σ (.tup [ownV σ.length sz l, .int k n]) (σ ++ ownB sz c l) = some (.tup [if l = [] then .nsl else sl sz c l, .int k n], σ) := by
 unfold A.fin
 split
 ·rename_i h
  have : ownB sz c l = [] := by simpa using h
  have hl : l = [] := by
   unfold ownB at this
   split at this
   ·assumption
   ·cases this
  subst hl; rfl
 ·rw [if_pos (by simp)]
  have : A.frz (σ ++ ownB sz c l) σ.length 8 (.tup [ownV σ.length sz l, .int k n]) = some (.tup [if l = [] then .nsl else sl sz c l, .int k n]) := by
   simp only [A.frz, A.frzL, own_frz hc, fz_int k n _ _ _, Option.bind_some, Option.map_some]
  rw [this]; rfl
theorem nn_own {α : Type} (sz : Nat) (c : α → List AV) (l : List α) : A.nn (.s sz) (if l = [] then .nsl else sl sz c l) = sl sz c l := by
 split
 ·rename_i h; subst h; rfl
 ·rfl
def idxI {α : Type} (p : α → Bool) (l : List α) : Int := match l.findIdx? p with | some i => i | none => -1
theorem idxI_cases {α : Type} (p : α → Bool) (l : List α) : (idxI p l = -1 ∧ (∀ x ∈ l, p x = false) ∧ l.find? p = none) ∨ ∃ (k : Nat) (x : α), l[k]? = some x ∧ p x = true ∧ idxI p l = k ∧ l.find? p = some x ∧ ∀ (j : Nat) (y : α), j < k → l[j]? = some y → p y = false := by
 induction l with
 | nil => left; exact ⟨rfl, by simp, rfl⟩
 | cons x l ih =>
  cases h : p x
  ·rcases ih with ⟨h1, h2, h3⟩ | ⟨k, y, h1, h2, h3, h4, h5⟩
   ·left
    refine ⟨?_, ?_, ?_⟩
    ·unfold idxI at h1 ⊢
     rw [List.findIdx?_cons, h]
     cases hf : l.findIdx? p with
     | none => simp
     | some i => rw [hf] at h1; simp at h1
    ·intro y hy
     rcases List.mem_cons.1 hy with rfl | hy
     ·exact h
     ·exact h2 y hy
    ·simp [List.find?, h, h3]
   ·right
    refine ⟨k + 1, y, by simpa using h1, h2, ?_, by simp [List.find?, h, h4], ?_⟩
    ·unfold idxI at h3 ⊢
     rw [List.findIdx?_cons, h]
     cases hf : l.findIdx? p with
     | none => rw [hf] at h3; simp at h3
     | some i => rw [hf] at h3; simp at h3 ⊢; omega
    ·intro j z hj hz
     cases j with
     | zero => simp at hz; subst hz; exact h
     | succ j => exact h5 j z (by omega) (by simpa using hz)
  ·right
   refine ⟨0, x, rfl, h, ?_, by simp [List.find?, h], by intro j y hj; omega⟩
   unfold idxI
   rw [List.findIdx?_cons, h]; rfl
theorem idxI_run {α : Type} {γ : Type} (p : α → Bool) (K1 : Option γ) (K2 : Int → Option γ) : ∀ (l pre : List α), (∀ x ∈ pre, p x = false) → (runP (fun pre x (_ : Unit) => if p x = true then (Rd.out (pre.length : Int) : Rd Unit Int) else .go ()) pre l ()).el (fun _ => K1) K2 = if idxI p (pre ++ l) = -1 then K1 else K2 (idxI p (pre ++ l))
 | [], pre, h => by
  have : idxI p (pre ++ []) = -1 := by
   rcases idxI_cases p (pre ++ []) with h1 | ⟨k, x, h1, h2, _⟩
   ·exact h1.1
   ·have := h x (by have := List.mem_of_getElem? h1; simpa using this)
    rw [h2] at this; cases this
  rw [runP, el_go, if_pos this]
 | x :: l, pre, h => by
  rw [runP]
  cases hx : p x
  ·simp only [Bool.false_eq_true, if_false]
   have := idxI_run p K1 K2 l (pre ++ [x]) (fun y hy => by
    rcases List.mem_append.1 hy with hy | hy
    ·exact h y hy
    ·simp at hy; subst hy; exact hx)
   simpa using this
  ·simp only [if_true, el_out]
   have : idxI p (pre ++ x :: l) = pre.length := by
    rcases idxI_cases p (pre ++ x :: l) with h1 | ⟨k, y, h1, h2, h3, _, h5⟩
    ·have := h1.2.1 x (by simp); rw [hx] at this; cases this
    ·rw [h3]
     rcases Nat.lt_trichotomy k pre.length with hk | hk | hk
     ·rw [List.getElem?_append_left hk] at h1
      have := h y (List.mem_of_getElem? h1); rw [h2] at this; cases this
     ·omega
     ·have := h5 pre.length x hk (by simp); rw [hx] at this; cases this
   rw [this, if_neg (by omega)]
theorem runP_any {α R γ : Type} (p : α → Bool) (r : R) (K1 : Unit → γ) (K2 : R → γ) : ∀ (l pre : List α), (runP (fun _ x (_ : Unit) => if p x = true then (Rd.out r : Rd Unit R) else .go ()) pre l ()).el K1 K2 = if l.any p = true then K2 r else K1 ()
 | [], pre => by simp [runP, Rd.el]
 | x :: l, pre => by
  rw [runP]
  cases h : p x
  ·simp only [Bool.false_eq_true, if_false]
   rw [runP_any p r K1 K2 l (pre ++ [x])]
   simp [h]
  ·simp [h, Rd.el]
theorem setI_fold (l : List Int) (n : Int) : setI id l ++ [(.int .i64 n, .bool true)] = setI id (l ++ [n]) := by simp [setI]
theorem memB_snoc {κ : Type} [DecidableEq κ] (k x : κ) (S : List κ) : memB k (S ++ [x]) = (memB k S || decide (x = k)) := by simp [memB]
theorem nn_e {α : Type} {sz : Nat} {c : α → List AV} {sh : List Sh} (h : ∀ x, A.nnL sh (c x) = c x) (l : List α) : A.nn (.e sz sh) (sl sz c l) = sl sz c l := by
 simp only [sl, A.nn, List.map_map]
 congr 1
 exact List.map_congr_left fun x _ => h x
theorem nn_eNil (sz : Nat) (sh : List Sh) : A.nn (.e sz sh) .nsl = .sl sz [] := by simp [A.nn]
theorem loop_any {α γ : Type} {f : List AV → Heap → Option (AX × List AV × Heap)} (l : List α) (p : α → Bool) (vs : Nat → List AV) (σ : Heap) (fin : AX × List AV × Heap) (ret : Nat → AX × List AV × Heap) {k : AX × List AV × Heap → Option γ} (K1 K2 : Option γ)
  (hstep : ∀ (i : Nat) (x : α), l[i]? = some x → f (vs i) σ = if p x = true then some (ret i) else some (.normal, vs (i + 1), σ)) (hend : f (vs l.length) σ = some fin) (hk1 : k fin = K1) (hk2 : ∀ i, k (ret i) = K2)
  (hfin : fin.1 ≠ .normal := by simp) (hret : ∀ i, (ret i).1 ≠ .normal := by intros; simp) {v : List AV} {σ' : Heap} (hv : v = vs 0 := by rfl) (hσ : σ' = σ := by rfl) :
  (A.loop f v σ').bind k = if l.any p = true then K2 else K1 := by
 subst hv hσ
 refine (loop_pre (S := Unit) (R := Unit) l (fun _ x _ => if p x = true then .out () else .go ()) (fun pre _ => vs pre.length) (fun _ _ => σ') (fun _ => fin) (fun pre _ _ => ret pre.length) (fun _ _ => True) () (fun _ => K1) (fun _ => K2)
  ?_ (fun _ _ => hend) trivial (fun _ _ _ _ _ _ _ _ => trivial) (fun _ _ => hk1) (fun _ _ _ _ _ _ _ _ => hk2 _) (fun _ => hfin) (fun _ _ _ => hret _)).trans (runP_any p () _ _ l [])
 intro pre x rest u hl _
 rw [hstep pre.length x (pre_get hl)]
 cases p x <;> simp [Rd.el]
theorem iaddr_at {α : Type} (sz : Nat) (c : α → List AV) {l : List α} {k : Nat} {x : α} (h : l[k]? = some x) : A.iaddr sz (sl sz c l) (.int .i64 (k : Int)) = some (.rp (c x)) ∧ (k : Int) < (l.length : Int) ∧ (l.length ≤ mxl → IntKind.i64.wrap ((k : Int) + 1) = (k : Int) + 1) :=
 ⟨iaddr_sl sz c l h, by have := (List.getElem?_eq_some_iff.1 h).1; omega, fun hl => wrap64 (by have := (List.getElem?_eq_some_iff.1 h).1; unfold inI; unfold mxl at hl; omega)⟩
theorem loop_find {α γ : Type} {f : List AV → Heap → Option (AX × List AV × Heap)} (l : List α) (p : α → Bool) (vs : Nat → List AV) (σ : Heap) (fin : AX × List AV × Heap) (ret : Nat → α → AX × List AV × Heap) {k : AX × List AV × Heap → Option γ} (K1 : Option γ) (K2 : α → Option γ)
  (hstep : ∀ (i : Nat) (x : α), l[i]? = some x → f (vs i) σ = if p x = true then some (ret i x) else some (.normal, vs (i + 1), σ)) (hend : f (vs l.length) σ = some fin) (hk1 : k fin = K1) (hk2 : ∀ i x, k (ret i x) = K2 x)
  (hfin : fin.1 ≠ .normal := by simp) (hret : ∀ i x, (ret i x).1 ≠ .normal := by intros; simp) {v : List AV} {σ' : Heap} (hv : v = vs 0 := by rfl) (hσ : σ' = σ := by rfl) :
  (A.loop f v σ').bind k = (l.find? p).elim K1 K2 := by
 subst hv hσ
 have run : ∀ (l pre : List α), (runP (fun _ x (_ : Unit) => if p x = true then (Rd.out x : Rd Unit α) else .go ()) pre l ()).el (fun _ => K1) K2 = (l.find? p).elim K1 K2 := by
  intro l
  induction l with
  | nil => intro pre; rfl
  | cons x l ih =>
   intro pre
   rw [runP]
   cases h : p x
   ·simp only [Bool.false_eq_true, if_false]
    rw [ih, List.find?_cons, h]
   ·simp [h, Rd.el]
 refine (loop_pre (S := Unit) (R := α) l (fun _ x _ => if p x = true then .out x else .go ()) (fun pre _ => vs pre.length) (fun _ _ => σ') (fun _ => fin) (fun pre _ x => ret pre.length x) (fun _ _ => True) () (fun _ => K1) K2
  ?_ (fun _ _ => hend) trivial (fun _ _ _ _ _ _ _ _ => trivial) (fun _ _ => hk1) (fun _ _ _ _ _ _ _ _ => hk2 _ _) (fun _ => hfin) (fun _ _ _ => hret _ _)).trans (run l [])
 intro pre x rest u hl _
 rw [hstep pre.length x (pre_get hl)]
 cases p x <;> simp [Rd.el]
theorem hend_lss {α : Type} (n : Int) (B : AV → Option α) (s : Option α) : ((A.lss (.int .i64 n) (.int .i64 n)).bind fun x => A.cond x (B x) s) = s := by
 simp only [aLss, Int.lt_irrefl, Option.bind_some, decide_false, cF]
section
variable {α β : Type}
theorem cond_lazy {c c' : AV} (h : c = c') (t e : Option α) : A.cond c t e = A.cond c' t e := by rw [h]
theorem guard_lazy {c c' : AV} (h : c = c') (w : Bool) (e d : Option α) : A.guard c w e d = A.guard c' w e d := by rw [h]
theorem bind_lazy {x y : Option α} (h : x = y) (f : α → Option β) : x.bind f = y.bind f := by rw [h]
attribute [congr] cond_lazy guard_lazy bind_lazy
end
theorem MSb : type_of% @Option.bind_some.{0,0} ∧ type_of% @Option.map_some.{0,0} ∧ type_of% @cT ∧ type_of% @cF ∧ type_of% @gTT ∧ type_of% @gTF ∧ type_of% @gFT ∧ type_of% @gFF ∧ type_of% @gN ∧ type_of% @pT ∧ type_of% @pF ∧ type_of% @cond_true.{1} ∧ type_of% @cond_false.{1} ∧ type_of% @xN ∧ type_of% @aAdd ∧ type_of% @aSub ∧ type_of% @aMul ∧ type_of% @aLss ∧ type_of% @aLeq ∧ type_of% @aGtr ∧ type_of% @aGeq ∧ type_of% @aLss8 ∧ type_of% @aLeq8 ∧ type_of% @aGtr8 ∧ type_of% @aGeq8 ∧ type_of% @aEq ∧ type_of% @aNe ∧ type_of% @aEqZ ∧ type_of% @aNeZ ∧ type_of% @aNot ∧ type_of% @aNotD ∧ type_of% @aLb ∧ type_of% @aExt0 ∧ type_of% @aExt1 ∧ type_of% @aExt2 ∧ type_of% @aExt3 ∧ type_of% @aDe ∧ type_of% @aFa ∧ type_of% @aLenZ ∧ type_of% @aCI ∧ type_of% @aCB ∧ type_of% @aCS ∧ type_of% @aCSl ∧ type_of% @p1D ∧ type_of% @gd0 ∧ type_of% @gd1 ∧ type_of% @gd2 ∧ type_of% @gd3 ∧ type_of% @gd4 ∧ type_of% @gd5 ∧ type_of% @gd6 ∧ type_of% @gd7 ∧ type_of% @gd8 ∧ type_of% @fin_same ∧ type_of% @fin_int ∧ type_of% @fin_bool ∧ type_of% @fin_str ∧ type_of% @fin_unit ∧ type_of% @lenS_sl ∧ type_of% @ite_true.{1} ∧ type_of% @ite_false.{1} ∧ type_of% @if_true.{1} ∧ type_of% @if_false.{1} ∧ type_of% @Bool.false_eq_true ∧ type_of% @not_true_eq_false ∧ type_of% @not_false_eq_true ∧ type_of% @decide_true ∧ type_of% @decide_false ∧ type_of% @Bool.not_true ∧ type_of% @Bool.not_false ∧ type_of% @List.append_assoc.{0} ∧ type_of% @List.cons_append.{0} ∧ type_of% @List.nil_append.{0} ∧ type_of% @List.drop_zero.{0} ∧ type_of% @p1_cInt ∧ type_of% @p1_cStr ∧ type_of% @len_snoc ∧ type_of% @Int.natCast_add ∧ type_of% @Int.cast_ofNat_Int ∧ type_of% @quiet_same ∧ type_of% @el_go ∧ type_of% @el_out ∧ type_of% @el_ite ∧ type_of% @setZ_look0 ∧ type_of% @setI_look0 ∧ type_of% @setZ_look1 ∧ type_of% @setI_look1 ∧ type_of% @setZ_snoc ∧ type_of% @setZ_upd0 ∧ type_of% @setI_upd0 ∧ type_of% @setZ_upd1 ∧ type_of% @setI_upd1 ∧ type_of% @true_and ∧ type_of% @and_true ∧ type_of% @false_and ∧ type_of% @and_false ∧ type_of% @true_or ∧ type_of% @or_true ∧ type_of% @false_or ∧ type_of% @or_false ∧ type_of% @Option.getD_some.{0} ∧ type_of% @Option.getD_none.{0} ∧ type_of% @List.length_append.{0} ∧ type_of% @List.length_cons.{0} ∧ type_of% @List.length_nil.{0} ∧ type_of% @Nat.zero_add ∧ type_of% @Nat.add_zero :=
 ⟨@Option.bind_some.{0,0}, @Option.map_some.{0,0}, @cT, @cF, @gTT, @gTF, @gFT, @gFF, @gN, @pT, @pF, @cond_true.{1}, @cond_false.{1}, @xN, @aAdd, @aSub, @aMul, @aLss, @aLeq, @aGtr, @aGeq, @aLss8, @aLeq8, @aGtr8, @aGeq8, @aEq, @aNe, @aEqZ, @aNeZ, @aNot, @aNotD, @aLb, @aExt0, @aExt1, @aExt2, @aExt3, @aDe, @aFa, @aLenZ, @aCI, @aCB, @aCS, @aCSl, @p1D, @gd0, @gd1, @gd2, @gd3, @gd4, @gd5, @gd6, @gd7, @gd8, @fin_same, @fin_int, @fin_bool, @fin_str, @fin_unit, @lenS_sl, @ite_true.{1}, @ite_false.{1}, @if_true.{1}, @if_false.{1}, @Bool.false_eq_true, @not_true_eq_false, @not_false_eq_true, @decide_true, @decide_false, @Bool.not_true, @Bool.not_false, @List.append_assoc.{0}, @List.cons_append.{0}, @List.nil_append.{0}, @List.drop_zero.{0}, @p1_cInt, @p1_cStr, @len_snoc, @Int.natCast_add, @Int.cast_ofNat_Int, @quiet_same, @el_go, @el_out, @el_ite, @setZ_look0, @setI_look0, @setZ_look1, @setI_look1, @setZ_snoc, @setZ_upd0, @setI_upd0, @setZ_upd1, @setI_upd1, @true_and, @and_true, @false_and, @and_false, @true_or, @or_true, @false_or, @or_false, @Option.getD_some.{0}, @Option.getD_none.{0}, @List.length_append.{0}, @List.length_cons.{0}, @List.length_nil.{0}, @Nat.zero_add, @Nat.add_zero⟩
end Go.Proofs.Ytohbeolimnpehaa

namespace Go.Proofs.Ytohbeolimnpehaa
set_option linter.unusedSectionVars false
set_option linter.unusedSimpArgs false
set_option linter.unusedVariables false
theorem fz_cPoint (x : PointD) : FzL (cPoint x) := (fzL_cons (fz_int _ _) (fzL_cons (fz_int _ _) fzL_nil))
theorem fz_cKey (x : KeyD) : FzL (cKey x) := (fzL_cons (fz_int _ _) (fzL_cons (fz_str _) fzL_nil))
theorem fz_cMove (x : MoveD) : FzL (cMove x) := (fzL_cons (fz_int _ _) (fzL_cons (fz_str _) (fzL_cons (fz_int _ _) (fzL_cons (fz_int _ _) (fzL_cons (fz_bool _) (fzL_cons (fz_bool _) (fzL_cons (fz_int _ _) (fzL_cons (fz_int _ _) fzL_nil))))))))
theorem fz_cCue (x : CueD) : FzL (cCue x) := (fzL_cons (fz_int _ _) (fzL_cons (fz_str _) (fzL_cons (fz_int _ _) (fzL_cons (fz_int _ _) (fzL_cons (fz_int _ _) (fzL_cons (fz_int _ _) (fzL_cons (fz_int _ _) (fzL_cons (fz_sl fz_cPoint _) (fzL_cons (fz_bool _) (fzL_cons (fz_int _ _) (fzL_cons (fz_sl fz_cMove _) fzL_nil)))))))))))
theorem fz_cAction (x : ActionD) : FzL (cAction x) := (fzL_cons (fz_int _ _) (fzL_cons (fz_int _ _) (fzL_cons (fz_int _ _) (fzL_cons (fz_int _ _) (fzL_cons (fz_int _ _) fzL_nil)))))
theorem fz_cEvent (x : EventD) : FzL (cEvent x) := (fzL_cons (fz_int _ _) (fzL_cons (fz_int _ _) (fzL_cons (fz_int _ _) (fzL_cons (fz_int _ _) (fzL_cons (fz_int _ _) (fzL_cons (fz_int _ _) fzL_nil))))))
end Go.Proofs.Ytohbeolimnpehaa

namespace Go.Proofs.Ytohbeolimnpehaa
set_option linter.unusedSectionVars false
set_option linter.unusedVariables false
set_option linter.unusedSimpArgs false
instance : Inhabited ByteArray := ⟨⟨#[]⟩⟩
instance : Inhabited PointD := ⟨⟨0, 0⟩⟩
instance : Inhabited CurveD := ⟨⟨0, []⟩⟩
instance : Inhabited FadeD := ⟨⟨0, 0, 0, 0, 0, ⟨0, []⟩⟩⟩
instance : Inhabited ChangeD := ⟨⟨0, 0⟩⟩
instance : Inhabited RangeD := ⟨⟨0, 0, ⟨#[]⟩⟩⟩
instance : Inhabited ParamD := ⟨⟨⟨#[]⟩, 0, 0, 0, 0, false, []⟩⟩
instance : Inhabited ProfileD := ⟨⟨⟨#[]⟩, 0, []⟩⟩
instance : Inhabited UnitD := ⟨⟨0, ⟨#[]⟩, 0, 0⟩⟩
instance : Inhabited RigD := ⟨⟨[], []⟩⟩
instance : Inhabited KeyD := ⟨⟨0, ⟨#[]⟩⟩⟩
theorem eqk_Key (a b : KeyD) : A.eqK (.s [0, 2]) (.agg (cKey a)) (.agg (cKey b)) = some (decide (a = b)) := by
 obtain ⟨x1, x2⟩ := a
 obtain ⟨x101, x102⟩ := b
 simp only [A.eqK, cKey, A.eqAll, A.eqC, A.eqI, A.eqB, A.eqZ, if_true, Option.bind_some, Option.map_some, bq]
 congr 1
 rw [Bool.eq_iff_iff]
 simp [and_assoc]
theorem eq_Key (a b : KeyD) : A.eql (.s [0, 2]) (.agg (cKey a)) (.agg (cKey b)) = some (.bool (decide (a = b))) := by rw [A.eql, eqk_Key]; rfl
instance : Inhabited SettingD := ⟨⟨⟨0, ⟨#[]⟩⟩, 0⟩⟩
instance : Inhabited PresetD := ⟨⟨0, ⟨#[]⟩, []⟩⟩
instance : Inhabited FanD := ⟨⟨[], 0, 0⟩⟩
instance : Inhabited ValueD := ⟨⟨0, 0⟩⟩
theorem eqk_Value (a b : ValueD) : A.eqK (.s [0, 0]) (.agg (cValue a)) (.agg (cValue b)) = some (decide (a = b)) := by
 obtain ⟨x1, x2⟩ := a
 obtain ⟨x101, x102⟩ := b
 simp only [A.eqK, cValue, A.eqAll, A.eqC, A.eqI, A.eqB, A.eqZ, if_true, Option.bind_some, Option.map_some, bq]
 congr 1
 rw [Bool.eq_iff_iff]
 simp [and_assoc]
theorem ne_Value (a b : ValueD) : A.neq (.s [0, 0]) (.agg (cValue a)) (.agg (cValue b)) = some (.bool (decide (¬ (a = b)))) := by rw [A.neq, eqk_Value, Option.map_some, decide_not]
instance : Inhabited MoveD := ⟨⟨⟨0, ⟨#[]⟩⟩, ⟨0, 0⟩, false, false, 0, 0⟩⟩
instance : Inhabited CueD := ⟨⟨0, ⟨#[]⟩, 0, 0, 0, 0, ⟨0, []⟩, false, 0, []⟩⟩
instance : Inhabited EntryD := ⟨⟨⟨0, ⟨#[]⟩⟩, ⟨0, 0⟩, 0⟩⟩
instance : Inhabited MarkD := ⟨⟨0, 0, 0⟩⟩
instance : Inhabited ListD := ⟨⟨0, []⟩⟩
instance : Inhabited PlaybackD := ⟨⟨0, 0, 0⟩⟩
instance : Inhabited SetupD := ⟨⟨⟨[], []⟩, [], [], []⟩⟩
instance : Inhabited ActionD := ⟨⟨0, 0, 0, 0, 0⟩⟩
instance : Inhabited EventD := ⟨⟨0, ⟨0, 0, 0, 0, 0⟩⟩⟩
theorem eqk_Event (a b : EventD) : A.eqK (.s [0, 0, 0, 0, 0, 0]) (.agg (cEvent a)) (.agg (cEvent b)) = some (decide (a = b)) := by
 obtain ⟨x1, ⟨x2, x3, x4, x5, x6⟩⟩ := a
 obtain ⟨x101, ⟨x102, x103, x104, x105, x106⟩⟩ := b
 simp only [A.eqK, cEvent, A.eqAll, A.eqC, A.eqI, A.eqB, A.eqZ, if_true, Option.bind_some, Option.map_some, bq]
 congr 1
 rw [Bool.eq_iff_iff]
 simp [and_assoc]
theorem ne_Event (a b : EventD) : A.neq (.s [0, 0, 0, 0, 0, 0]) (.agg (cEvent a)) (.agg (cEvent b)) = some (.bool (decide (¬ (a = b)))) := by rw [A.neq, eqk_Event, Option.map_some, decide_not]
instance : Inhabited StampD := ⟨⟨0, 0, 0, 0⟩⟩
instance : Inhabited RunD := ⟨⟨⟨0, ⟨#[]⟩⟩, ⟨0, 0, 0, 0, 0, ⟨0, []⟩⟩, 0, false⟩⟩
instance : Inhabited StandingD := ⟨⟨0, 0, 0, false, 0, []⟩⟩
instance : Inhabited EffectStepD := ⟨⟨0, 0, 0⟩⟩
instance : Inhabited EffectD := ⟨⟨0, 0, 0, 0, 0, 0, false, false, []⟩⟩
instance : Inhabited RateD := ⟨⟨0, 0⟩⟩
instance : Inhabited RunningD := ⟨⟨⟨0, 0, 0, 0, 0, 0, false, false, []⟩, [], 0, [], 0, 0, 0⟩⟩
end Go.Proofs.Ytohbeolimnpehaa

namespace Go.Proofs.Ytohbeolimnpehaa
set_option linter.unusedSectionVars false
set_option linter.unusedVariables false
set_option linter.unusedSimpArgs false
def Rf {β τ : Type} (M : Option β) (T : Option τ) (Q : τ → β → Prop) : Prop := ∀ t, T = some t → ∃ b, M = some b ∧ Q t b
section
variable {α β ω τ ζ : Type}
theorem rf_s {M0 : Option α} {K : α → Option β} {T : Option τ} {Q : τ → β → Prop} (a : α) (h : M0 = some a) (k : Rf (K a) T Q) : Rf (M0.bind K) T Q := by
 intro t ht; obtain ⟨b, h1, h2⟩ := k t ht; exact ⟨b, by rw [h]; exact h1, h2⟩
theorem rf_o {M0 : Option α} {K : α → Option β} {o : Option ω} {K' : ω → Option τ} {Q : τ → β → Prop} (e : ω → α) (h : ∀ t, o = some t → M0 = some (e t)) (k : ∀ t, o = some t → Rf (K (e t)) (K' t) Q) : Rf (M0.bind K) (o.bind K') Q := by
 intro t ht
 obtain ⟨x, h1, h2⟩ := Option.bind_eq_some_iff.1 ht
 obtain ⟨b, h3, h4⟩ := k x h1 t h2
 exact ⟨b, by rw [h x h1]; exact h3, h4⟩
theorem rf_b {M0 : Option α} {K : α → Option β} {o : Option ω} {K' : ω → Option τ} {Q : τ → β → Prop} (Q0 : ω → α → Prop) (h : Rf M0 o Q0) (k : ∀ t a, Q0 t a → Rf (K a) (K' t) Q) : Rf (M0.bind K) (o.bind K') Q := by
 intro t ht
 obtain ⟨x, h1, h2⟩ := Option.bind_eq_some_iff.1 ht
 obtain ⟨a, h3, h4⟩ := h x h1
 obtain ⟨b, h5, h6⟩ := k x a h4 t h2
 exact ⟨b, by rw [h3]; exact h5, h6⟩
theorem rf_ret {t : τ} {b : β} {Q : τ → β → Prop} (h : Q t b) : Rf (some b) (some t) Q := by
 intro u hu; cases hu; exact ⟨b, rfl, h⟩
theorem rf_fin {M : Option β} {t : τ} {Q : τ → β → Prop} (b : β) (e : M = some b) (h : Q t b) : Rf M (some t) Q := by
 rw [e]; exact rf_ret h
theorem rf_none {M : Option β} {Q : τ → β → Prop} : Rf M (none : Option τ) Q := by intro u hu; cases hu
theorem rf_tq {M : Option β} {p : Prop} [Decidable p] {T : Option τ} {Q : τ → β → Prop} (h : p → Rf M T Q) : Rf M (if p then T else none) Q := by
 split
 ·exact h ‹_›
 ·exact rf_none
theorem rf_c {p : Prop} [Decidable p] {X Y : Option β} {X' Y' : Option τ} {Q : τ → β → Prop} (h1 : p → Rf X X' Q) (h2 : ¬ p → Rf Y Y' Q) : Rf (A.cond (.bool (decide p)) X Y) (if p then X' else Y') Q := by
 by_cases h : p
 ·simp only [h, decide_true, if_true]; exact h1 h
 ·simp only [h, decide_false, if_false]; exact h2 h
theorem rf_cb {c : Bool} {X Y : Option β} {X' Y' : Option τ} {Q : τ → β → Prop} (h1 : c = true → Rf X X' Q) (h2 : c = false → Rf Y Y' Q) : Rf (A.cond (.bool c) X Y) (if c = true then X' else Y') Q := by
 cases c
 ·exact h2 rfl
 ·exact h1 rfl
theorem rf_ct {X Y : Option β} {T : Option τ} {Q : τ → β → Prop} (h : Rf X T Q) : Rf (A.cond (.bool true) X Y) T Q := h
theorem rf_cf {X Y : Option β} {T : Option τ} {Q : τ → β → Prop} (h : Rf Y T Q) : Rf (A.cond (.bool false) X Y) T Q := h
theorem rf_bt {c : Bool} {X Y : Option β} {T : Option τ} {Q : τ → β → Prop} (e : c = true) (h : Rf X T Q) : Rf (bif c then X else Y) T Q := by rw [e]; exact h
theorem rf_bf {c : Bool} {X Y : Option β} {T : Option τ} {Q : τ → β → Prop} (e : c = false) (h : Rf Y T Q) : Rf (bif c then X else Y) T Q := by rw [e]; exact h
def gv {α : Type} (g : Bool) (e : α → AV) (t : α) : AV := bif g then e t else .tup []
end
inductive Lr (S B R : Type) where
 | go (s : S)
 | brk (b : B)
 | ret (r : R)
def forL {α S B R : Type} (body : Nat → α → S → Option (Lr S B R)) (fin : S → Option B) : List α → Nat → S → Option (B ⊕ R)
 | [], _, s => (fin s).map .inl
 | x :: l, i, s => (body i x s).bind fun q => match q with | .go s' => forL body fin l (i + 1) s' | .brk b => some (.inl b) | .ret r => some (.inr r)
def forE {α S B R γ : Type} (l : List α) (body : Nat → α → S → Option (Lr S B R)) (fin : S → Option B) (s : S) (K1 : B → Option γ) (K2 : R → Option γ) : Option γ :=
 if l.length ≤ mxl then (forL body fin l 0 s).bind fun q => q.elim K1 K2 else none
section
variable {α S B R β τ : Type}
abbrev LS := AX × List AV × Heap
def Rnd (I : S → List AV → Heap → Prop) (QB : B → LS → Prop) (QR : R → LS → Prop) (t : Lr S B R) (q : LS) : Prop := match t with
 | .go s => q.1 = .normal ∧ I s q.2.1 q.2.2
 | .brk b => q.1 ≠ .normal ∧ QB b q
 | .ret r => q.1 ≠ .normal ∧ QR r q
theorem rnd_go {I : S → List AV → Heap → Prop} {QB : B → LS → Prop} {QR : R → LS → Prop} {s : S} {v : List AV} {σ : Heap} (h : I s v σ) : Rnd I QB QR (.go s) (.normal, v, σ) := ⟨rfl, h⟩
theorem rnd_brk {I : S → List AV → Heap → Prop} {QB : B → LS → Prop} {QR : R → LS → Prop} {b : B} {q : LS} (n : q.1 ≠ .normal) (h : QB b q) : Rnd I QB QR (.brk b) q := ⟨n, h⟩
theorem rnd_ret {I : S → List AV → Heap → Prop} {QB : B → LS → Prop} {QR : R → LS → Prop} {r : R} {q : LS} (n : q.1 ≠ .normal) (h : QR r q) : Rnd I QB QR (.ret r) q := ⟨n, h⟩
theorem rf_for {f : List AV → Heap → Option LS} {K : LS → Option β} {Q : τ → β → Prop} {l : List α} {body : Nat → α → S → Option (Lr S B R)} {fin : S → Option B} {s0 : S} {K1 : B → Option τ} {K2 : R → Option τ} {v0 : List AV} {σ0 : Heap}
  (I : Nat → S → List AV → Heap → Prop) (QB : B → LS → Prop) (QR : R → LS → Prop)
  (hstep : l.length ≤ mxl → ∀ i x s v σ, l[i]? = some x → I i s v σ → Rf (f v σ) (body i x s) (Rnd (I (i + 1)) QB QR))
  (hend : l.length ≤ mxl → ∀ s v σ, I l.length s v σ → Rf (f v σ) (fin s) (fun b q => q.1 ≠ .normal ∧ QB b q))
  (h0 : I 0 s0 v0 σ0) (k1 : l.length ≤ mxl → ∀ b q, QB b q → Rf (K q) (K1 b) Q) (k2 : l.length ≤ mxl → ∀ r q, QR r q → Rf (K q) (K2 r) Q) :
  Rf ((A.loop f v0 σ0).bind K) (forE l body fin s0 K1 K2) Q := by
 unfold forE
 refine rf_tq fun hl => ?_
 have hstep := hstep hl
 have hend := hend hl
 have key : ∀ (rest pre : List α) (s : S) (v : List AV) (σ : Heap), l = pre ++ rest → I pre.length s v σ → ∀ t, forL body fin rest pre.length s = some t → ∃ q, (∃ n, A.iter f n v σ = some q) ∧ (match t with | .inl b => QB b q | .inr r => QR r q) := by
  intro rest
  induction rest with
  | nil =>
   intro pre s v σ hl hI t ht
   rw [List.append_nil] at hl
   subst hl
   simp only [forL] at ht
   obtain ⟨b, hb, rfl⟩ := Option.map_eq_some_iff.1 ht
   obtain ⟨q, h1, h2, h3⟩ := hend s v σ hI b hb
   exact ⟨q, loop_done h1 h2, h3⟩
  | cons x rest ih =>
   intro pre s v σ hl hI t ht
   simp only [forL] at ht
   obtain ⟨y, hy, h2⟩ := Option.bind_eq_some_iff.1 ht
   obtain ⟨q, h3, h4⟩ := hstep pre.length x s v σ (by rw [hl]; simp) hI y hy
   obtain ⟨e, v', σ'⟩ := q
   cases y with
   | go s' =>
    obtain ⟨rfl, hI'⟩ := h4
    obtain ⟨q, h5, h6⟩ := ih (pre ++ [x]) s' v' σ' (by simpa using hl) (by simpa using hI') t (by simpa using h2)
    exact ⟨q, loop_step h3 h5, h6⟩
   | brk b => simp only [Option.some.injEq] at h2; subst h2; exact ⟨_, loop_done h3 h4.1, h4.2⟩
   | ret b => simp only [Option.some.injEq] at h2; subst h2; exact ⟨_, loop_done h3 h4.1, h4.2⟩
 intro t ht
 obtain ⟨y, hy, h2⟩ := Option.bind_eq_some_iff.1 ht
 obtain ⟨q, ⟨n, hn⟩, h3⟩ := key l [] s0 v0 σ0 rfl h0 y hy
 cases y with
 | inl b => obtain ⟨z, h4, h5⟩ := k1 hl b q h3 t h2; exact ⟨z, by rw [loop_of_iter hn]; exact h4, h5⟩
 | inr b => obtain ⟨z, h4, h5⟩ := k2 hl b q h3 t h2; exact ⟨z, by rw [loop_of_iter hn]; exact h4, h5⟩
theorem ix_lt {l : List α} {i : Nat} {x : α} (h : l[i]? = some x) : A.lss (.int .i64 (i : Int)) (.int .i64 (l.length : Int)) = some (.bool true) := by
 have := (List.getElem?_eq_some_iff.1 h).1
 rw [aLss]; simp; omega
theorem ix_end (l : List α) : A.lss (.int .i64 (l.length : Int)) (.int .i64 (l.length : Int)) = some (.bool false) := by rw [aLss]; simp
theorem ix_inc {l : List α} {i : Nat} {x : α} (h : l[i]? = some x) (hl : l.length ≤ mxl) : A.add (.int .i64 (i : Int)) (.int .i64 1) = some (.int .i64 ((i + 1 : Nat) : Int)) := by
 have := (List.getElem?_eq_some_iff.1 h).1
 rw [aAdd, wrap64 (by unfold inI; unfold mxl at hl; omega)]
 simp
def tIx (l : List α) (i : Int) : Option α := if 0 ≤ i then l[i.toNat]? else none
theorem ix_at {sz : Nat} {c : α → List AV} {l : List α} {i : Int} {x : α} (h : tIx l i = some x) : A.iaddr sz (sl sz c l) (.int .i64 i) = some (.rp (c x)) := by
 unfold tIx at h
 split at h
 ·exact iaddr_int sz c l ‹_› h
 ·cases h
theorem ix_for {sz : Nat} {c : α → List AV} {l : List α} {i : Nat} {x : α} (h : l[i]? = some x) : A.iaddr sz (sl sz c l) (.int .i64 (i : Int)) = some (.rp (c x)) := iaddr_sl sz c l h
end
theorem quiet_of {M : Option (AV × Heap)} {v : AV} {σ : Heap} (h : M = some (v, σ)) : A.quiet M σ = some v := by rw [h, quiet_same]
noncomputable def tq {α : Type} (p : Prop) (x : α) : Option α := open Classical in if p then some x else none
theorem tq_pos {α : Type} {p : Prop} {x : α} (h : p) : tq p x = some x := if_pos h
theorem tq_of {α β : Type} {p : Prop} {x r : α} {M : Option β} {e : α → β} (h : p → M = some (e x)) (k : tq p x = some r) : M = some (e r) := by
 unfold tq at k
 split at k
 ·rename_i hp; injection k with k; subst k; exact h hp
 ·cases k
theorem pk_and (b t : Bool) : A.pick (.bool b) (bif b then .bool t else .tup []) (.bool false) = some (.bool (b && t)) := by cases b <;> rfl
theorem pk_or (b t : Bool) : A.pick (.bool b) (.bool true) (bif !b then .bool t else .tup []) = some (.bool (b || t)) := by cases b <;> rfl
section
variable {α β ω τ : Type} {G b : Bool} {M0 : Option AV} {K : AV → Option β} {T : Option τ} {K' : ω → Option τ} {o : Option ω} {Q : τ → β → Prop}
theorem rf_gt (a : AV) (h : b = true → M0 = some a) (k : Rf (K (bif b then a else .tup [])) T Q) : Rf ((A.guard (.bool b) true M0 (some (.tup []))).bind K) T Q := by
 refine rf_s _ ?_ k
 cases b <;> simp_all [A.guard]
theorem rf_gf (a : AV) (h : (!b) = true → M0 = some a) (k : Rf (K (bif !b then a else .tup [])) T Q) : Rf ((A.guard (.bool b) false M0 (some (.tup []))).bind K) T Q := by
 refine rf_s _ ?_ k
 cases b <;> simp_all [A.guard]
theorem rf_ggt (a : AV) (h : (G && b) = true → M0 = some a) (k : Rf (K (bif G && b then a else .tup [])) T Q) : Rf ((A.guard (bif G then .bool b else .tup []) true M0 (some (.tup []))).bind K) T Q := by
 refine rf_s _ ?_ k
 cases G <;> cases b <;> simp_all [A.guard]
theorem rf_ggf (a : AV) (h : (G && !b) = true → M0 = some a) (k : Rf (K (bif G && !b then a else .tup [])) T Q) : Rf ((A.guard (bif G then .bool b else .tup []) false M0 (some (.tup []))).bind K) T Q := by
 refine rf_s _ ?_ k
 cases G <;> cases b <;> simp_all [A.guard]
theorem rf_go {g : Bool} {M : Option AV} {d : ω} (e : ω → AV) (hM : M = bif g then M0 else some (.tup [])) (h : g = true → ∀ t, o = some t → M0 = some (e t)) (k : ∀ t, (g = true → o = some t) → Rf (K (bif g then e t else .tup [])) (K' t) Q) : Rf (M.bind K) ((if g = true then o else some d).bind K') Q := by
 subst hM
 cases g
 ·exact k d (by simp)
 ·intro t ht
  simp only [if_true] at ht
  obtain ⟨x, h1, h2⟩ := Option.bind_eq_some_iff.1 ht
  obtain ⟨y, h3, h4⟩ := k x (fun _ => h1) t h2
  refine ⟨y, ?_, h4⟩
  simp only [cond_true, h rfl x h1, Option.bind_some]
  exact h3
theorem rf_gto {d : ω} (e : ω → AV) (h : b = true → ∀ t, o = some t → M0 = some (e t)) (k : ∀ t, (b = true → o = some t) → Rf (K (bif b then e t else .tup [])) (K' t) Q) : Rf ((A.guard (.bool b) true M0 (some (.tup []))).bind K) ((if b = true then o else some d).bind K') Q := rf_go e (by cases b <;> rfl) h k
end
theorem wrap_nn {ro : Bool} {ain : List Sh} {rout : Sh} {r : List AV → Heap → Option (AV × Heap)} {args args' : List AV} {σ : Heap} (hn : A.nnL ain args = A.nnL ain args') (h1 : args.any A.own = false) (h2 : args'.any A.own = false) : A.wrap ro ain rout r args σ = A.wrap ro ain rout r args' σ := by
 unfold A.wrap
 rw [h1, h2, hn, Bool.and_false, cond_false, cond_false]
theorem rf_wrap {τ : Type} {ro : Bool} {ain : List Sh} {rout : Sh} {r : List AV → Heap → Option (AV × Heap)} {args args' : List AV} {σ : Heap} {T : Option τ} {enc : τ → AV} (hn : A.nnL ain args = args') (h : args.any A.own = false) (e : Rf (r args' σ) T (fun t b => A.nn rout b.1 = enc t ∧ b.2 = σ)) : ∀ t, T = some t → A.wrap ro ain rout r args σ = some (enc t, σ) := by
 intro t ht
 obtain ⟨⟨v, σ'⟩, h1, h2, h3⟩ := e t ht
 simp only at h2 h3
 subst h3
 exact wrap_eq h (by rw [hn]; exact h1) h2
theorem rf_wrap1 {τ : Type} {ro : Bool} {ain : List Sh} {rout : Sh} {f : AV → Heap → Option (AV × Heap)} {x0 y0 : AV} {σ : Heap} {T : Option τ} {enc : τ → AV} (hn : A.nnL ain [x0] = [y0]) (h : ([x0] : List AV).any A.own = false) (e : Rf (f y0 σ) T (fun t b => A.nn rout b.1 = enc t ∧ b.2 = σ)) : ∀ t, T = some t → A.wrap ro ain rout (A.ar1 f) [x0] σ = some (enc t, σ) := rf_wrap hn h e
theorem rf_wrap2 {τ : Type} {ro : Bool} {ain : List Sh} {rout : Sh} {f : AV → AV → Heap → Option (AV × Heap)} {x0 x1 y0 y1 : AV} {σ : Heap} {T : Option τ} {enc : τ → AV} (hn : A.nnL ain [x0, x1] = [y0, y1]) (h : ([x0, x1] : List AV).any A.own = false) (e : Rf (f y0 y1 σ) T (fun t b => A.nn rout b.1 = enc t ∧ b.2 = σ)) : ∀ t, T = some t → A.wrap ro ain rout (A.ar2 f) [x0, x1] σ = some (enc t, σ) := rf_wrap hn h e
theorem rf_wrap3 {τ : Type} {ro : Bool} {ain : List Sh} {rout : Sh} {f : AV → AV → AV → Heap → Option (AV × Heap)} {x0 x1 x2 y0 y1 y2 : AV} {σ : Heap} {T : Option τ} {enc : τ → AV} (hn : A.nnL ain [x0, x1, x2] = [y0, y1, y2]) (h : ([x0, x1, x2] : List AV).any A.own = false) (e : Rf (f y0 y1 y2 σ) T (fun t b => A.nn rout b.1 = enc t ∧ b.2 = σ)) : ∀ t, T = some t → A.wrap ro ain rout (A.ar3 f) [x0, x1, x2] σ = some (enc t, σ) := rf_wrap hn h e
theorem rf_wrap5 {τ : Type} {ro : Bool} {ain : List Sh} {rout : Sh} {f : AV → AV → AV → AV → AV → Heap → Option (AV × Heap)} {x0 x1 x2 x3 x4 y0 y1 y2 y3 y4 : AV} {σ : Heap} {T : Option τ} {enc : τ → AV} (hn : A.nnL ain [x0, x1, x2, x3, x4] = [y0, y1, y2, y3, y4]) (h : ([x0, x1, x2, x3, x4] : List AV).any A.own = false) (e : Rf (f y0 y1 y2 y3 y4 σ) T (fun t b => A.nn rout b.1 = enc t ∧ b.2 = σ)) : ∀ t, T = some t → A.wrap ro ain rout (A.ar5 f) [x0, x1, x2, x3, x4] σ = some (enc t, σ) := rf_wrap hn h e
end Go.Proofs.Ytohbeolimnpehaa

