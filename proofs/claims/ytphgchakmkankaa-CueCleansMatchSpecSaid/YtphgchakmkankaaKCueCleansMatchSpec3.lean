/- Parts of the proof of CueCleansMatchSpec, in order. -/
import Derived.Orders
import Derived.Below
import Derived.WalkKit
import Derived.Laws.StructEq
import Derived.Laws.Append
import Derived.Laws.AppendOwn
import Derived.IntWalk
import Derived.Lib.Bytealg
import Derived.Sort.Defs
import Derived.Lib.BitFns
import Derived.Test.YtphgchakmkankaaKCueCleansMatchSpec2
namespace Go.Proofs.Ytphgchakmkankaa
set_option linter.unusedSectionVars false
open Go.RowKit
set_option linter.unusedVariables false
set_option linter.unusedSimpArgs false

inductive Sh where
 | k
 | s (sz : Nat)
 | e (sz : Nat) (l : List Sh)
 | a (l : List Sh)
 | t (l : List Sh)
namespace A
set_option linter.unusedSectionVars false
mutual
def nn : Sh → AV → AV
 | .k, v => v
 | .s sz, v => match v with | .nsl => .sl sz [] | .ez => .sl sz [] | v => v
 | .e sz l, v => match v with | .nsl => .sl sz [] | .ez => .sl sz [] | .sl sz' es => .sl sz' (es.map (nnL l)) | v => v
 | .a l, v => match v with | .agg cs => .agg (nnL l cs) | v => v
 | .t l, v => match v with | .tup vs => .tup (nnL l vs) | v => v
def nnL : List Sh → List AV → List AV
 | [], vs => vs
 | s :: ss, vs => match vs with | [] => [] | v :: vs => nn s v :: nnL ss vs
end
def own1 : AV → Bool
 | .os .. => true
 | .op .. => true
 | .oe .. => true
 | .om .. => true
 | _ => false
def own : AV → Bool
 | .agg cs => cs.any own1
 | v => own1 v
def scal1 : AV → Bool
 | .int .. => true
 | .bool .. => true
 | .str .. => true
 | .np => true
 | .nsl => true
 | .ez => true
 | .nm => true
 | .nfn => true
 | .sl _ [] => true
 | _ => false
def scal2 : AV → Bool
 | .agg cs => cs.all scal1
 | v => scal1 v
def scal : AV → Bool
 | .tup vs => vs.all scal2
 | v => scal2 v
def fresh (v : AV) : Bool := match v with
 | .os .. => true
 | .om _ => true
 | v => scal2 v
def freshT : AV → Bool
 | .tup vs => vs.all fresh
 | v => fresh v
def freshB : Blk → Bool
 | .box cs => cs.all scal1
 | .arr _ _ es => es.all fun e => e.all scal1
 | .map es => es.all fun p => scal2 p.1 && scal2 p.2
 | _ => false
def shift (n : Nat) (v : AV) : AV := match v with
 | .os id g sz off len => .os (id + n) g sz off len
 | .om id => .om (id + n)
 | v => v
def shiftT (n : Nat) : AV → AV
 | .tup vs => .tup (vs.map (shift n))
 | v => shift n v
noncomputable def wrap (ro : Bool) (ain : List Sh) (rout : Sh) (r : List AV → Heap → Option (AV × Heap)) (args : List AV) (σ : Heap) : Option (AV × Heap) :=
 bif ro && args.any own then
  (frzL σ 0 8 args).bind fun args => (r (nnL ain args) []).bind fun q => bif freshT (nn rout q.1) && q.2.all freshB then some (shiftT σ.length (nn rout q.1), σ ++ q.2) else none
 else (r (nnL ain args) σ).map fun q => (nn rout q.1, q.2)
noncomputable def finC (sh : Sh) (m : List AV → Heap → Option (AV × Heap)) (args : List AV) (σ : Heap) : Option (AV × Heap) := (m args σ).bind fun p => (fin σ p.1 p.2).map fun q => (nn sh q.1, q.2)
noncomputable def cloneZ (m : List AV → Heap → Option (AV × Heap)) (args : List AV) (σ : Heap) : Option (AV × Heap) := match args with
 | [.sl _ []] => some (.ez, σ)
 | [.nsl] => some (.ez, σ)
 | [.ez] => some (.ez, σ)
 | _ => m args σ
end A

def Sound (P : Program) (nm : List Nat) (f : FuncId) (m : List AV → Heap → Option (AV × Heap)) : Prop := ∀ args σ r σ', m args σ = some (r, σ') → ACalls P nm f args σ r σ'
section
variable {P : Program} {nm : List Nat} {f : FuncId} {c c' : RC}
theorem nsl_sl {v : Value} (sz : Nat) (hsz : 0 < sz) (h : Rep c .nsl v) : Rep c (.sl sz []) v := by
 simp only [Rep] at h ⊢
 subst h
 exact ⟨none, 0, rfl, Nat.le_refl _, hsz, .inl trivial⟩
theorem ez_sl {v : Value} (sz : Nat) (hsz : 0 < sz) (h : Rep c .ez v) : Rep c (.sl sz []) v := by
 simp only [Rep] at h ⊢
 obtain ⟨a, rfl⟩ := h
 exact ⟨a, 0, rfl, Nat.le_refl _, hsz, .inl trivial⟩
mutual
def Sh.ok : Sh → Bool
 | .k => true
 | .s sz => Nat.blt 0 sz
 | .e sz l => Nat.blt 0 sz && Sh.okL l
 | .a l => Sh.okL l
 | .t l => Sh.okL l
def Sh.okL : List Sh → Bool
 | [] => true
 | x :: l => x.ok && Sh.okL l
end
theorem nnL_len : ∀ (l : List Sh) (cs : List AV), (A.nnL l cs).length = cs.length
 | [], cs => by simp [A.nnL]
 | _ :: _, [] => by simp [A.nnL]
 | o :: l, v :: cs => by simp [A.nnL, nnL_len l cs]
mutual
theorem nn_rep : ∀ (s : Sh) (a : AV) (v : Value), s.ok = true → Rep c a v → Rep c (A.nn s a) v
 | .k, a, v, _, h => by simpa [A.nn] using h
 | .s sz, a, v, ho, h => by
  cases a <;> simp only [A.nn] <;> first | exact h | exact nsl_sl sz (by simpa [Sh.ok] using ho) h | exact ez_sl sz (by simpa [Sh.ok] using ho) h
 | .e sz l, a, v, ho, h => by
  simp only [Sh.ok, Bool.and_eq_true] at ho
  cases a <;> simp only [A.nn] <;> first | exact h | exact nsl_sl sz (by simpa using ho.1) h | exact ez_sl sz (by simpa using ho.1) h | skip
  simp only [Rep] at h ⊢
  obtain ⟨a, cap, e, h1, h2, h3⟩ := h
  refine ⟨a, cap, by rw [List.length_map]; exact e, by rw [List.length_map]; exact h1, h2, ?_⟩
  rcases h3 with h3 | ⟨b, off, e1, e2, e3, e4⟩
  ·left; rw [h3]; rfl
  ·right; exact ⟨b, off, e1, e2, e3, nnL_es l ho.2 _ _ e4⟩
 | .a l, a, v, ho, h => by
  simp only [Sh.ok] at ho
  cases a <;> simp only [A.nn] <;> first | exact h | skip
  simp only [Rep] at h ⊢
  obtain ⟨vs, e, h1, h2⟩ := h
  exact ⟨vs, e, nnL_rep l _ _ ho h1, h2⟩
 | .t ss, a, v, ho, h => by
  simp only [Sh.ok] at ho
  cases a <;> simp only [A.nn] <;> first | exact h | skip
  simp only [Rep] at h ⊢
  obtain ⟨vs, e, h1⟩ := h
  exact ⟨vs, e, nnL_rep ss _ _ ho h1⟩
theorem nnL_rep : ∀ (ss : List Sh) (l : List AV) (vs : List Value), Sh.okL ss = true → RepL c l vs → RepL c (A.nnL ss l) vs
 | [], l, vs, _, h => by simpa [A.nnL] using h
 | _ :: _, [], vs, _, h => by simpa [A.nnL] using h
 | s :: ss, a :: l, vs, ho, h => by
  simp only [Sh.okL, Bool.and_eq_true] at ho
  simp only [A.nnL, RepL] at h ⊢
  obtain ⟨v, vs', e, h1, h2⟩ := h
  exact ⟨v, vs', e, nn_rep s a v ho.1 h1, nnL_rep ss l vs' ho.2 h2⟩
theorem nnL_cs {b : Nat} : ∀ (l : List Sh) (cs : List AV) (off : Nat), Sh.okL l = true → RepCs c b off cs → RepCs c b off (A.nnL l cs)
 | [], cs, off, _, h => by simpa [A.nnL] using h
 | _ :: _, [], off, _, h => by simpa [A.nnL] using h
 | o :: l, a :: cs, off, ho, h => by
  simp only [Sh.okL, Bool.and_eq_true] at ho
  simp only [A.nnL, RepCs] at h ⊢
  obtain ⟨⟨v, h1, h2, h3⟩, h4⟩ := h
  exact ⟨⟨v, h1, h2, nn_rep o a v ho.1 h3⟩, nnL_cs l cs (off + 1) ho.2 h4⟩
theorem nnL_es {sz b : Nat} (l : List Sh) (hl : Sh.okL l = true) : ∀ (es : List (List AV)) (off : Nat), RepEs c sz b off es → RepEs c sz b off (es.map (A.nnL l))
 | [], off, h => by simp [RepEs]
 | e :: es, off, h => by
  simp only [List.map_cons, RepEs] at h ⊢
  exact ⟨by rw [nnL_len]; exact h.1, nnL_cs l e off hl h.2.1, nnL_es l hl es _ h.2.2⟩
end
theorem scal1_rep : ∀ {a : AV} {v : Value}, A.scal1 a = true → Rep c a v → Rep c' a v := by
 intro a v h r
 cases a <;> simp only [A.scal1] at h <;> first | (cases h; done) | skip
 case sl sz es =>
  cases es with
  | nil =>
   simp only [Rep] at r ⊢
   obtain ⟨q, cap, e, h1, h2, _⟩ := r
   exact ⟨q, cap, e, h1, h2, .inl trivial⟩
  | cons _ _ => simp at h
 all_goals simpa [Rep] using r
theorem scal1L_rep : ∀ {l : List AV} {vs : List Value}, l.all A.scal1 = true → RepL c l vs → RepL c' l vs
 | [], vs, _, r => by simpa [RepL] using r
 | a :: l, vs, h, r => by
  simp only [List.all_cons, Bool.and_eq_true] at h
  simp only [RepL] at r ⊢
  obtain ⟨v, vs', e, h1, h2⟩ := r
  exact ⟨v, vs', e, scal1_rep h.1 h1, scal1L_rep h.2 h2⟩
theorem scal2_rep {a : AV} {v : Value} (h : A.scal2 a = true) (r : Rep c a v) : Rep c' a v := by
 unfold A.scal2 at h
 split at h
 ·simp only [Rep] at r ⊢
  obtain ⟨vs, e, h1, h2⟩ := r
  exact ⟨vs, e, scal1L_rep h h1, h2⟩
 ·exact scal1_rep h r
theorem ACalls.conv {args args' : List AV} {σ σ' : Heap} {r r' : AV} (h : ACalls P nm f args' σ r σ') (ha : ∀ c vs, RepL c args vs → RepL c args' vs) (hr : ∀ c v, Rep c r v → Rep c r' v) : ACalls P nm f args σ r' σ' := by
 rcases h with ⟨g, h1, h2⟩ | h
 ·refine .inl ⟨g, h1, fun z vs e1 e2 e3 e4 => (h2 z vs e1 e2 e3 (ha _ _ e4)).mono ?_⟩
  rintro e w' ⟨v, E', k1, k2, k3, k4⟩
  exact ⟨v, E', k1, k2, k3, hr _ _ k4⟩
 ·refine .inr fun z vs e1 e2 e3 e4 => ?_
  obtain ⟨v, w', E', k1, k2, k3, k4⟩ := h z vs e1 e2 e3 (ha _ _ e4)
  exact ⟨v, w', E', k1, k2, k3, hr _ _ k4⟩
theorem shift_rep {z0 z : Z} {w' : World} {E' : List Pl} {n : Nat} (hn : n = z.E.length) {a : AV} {v : Value} (h : A.fresh a = true) (r : Rep (ctx z0 w' E' nopb) a v) : Rep (ctx z w' (z.E ++ E') nopb) (A.shift n a) v := by
 have key : ∀ (id : Nat) (p : Pl), E'[id]? = some p → (z.E ++ E')[id + n]? = some p := fun id p hp => by
  rw [List.getElem?_append_right (by omega), hn, Nat.add_sub_cancel]; exact hp
 unfold A.fresh at h
 unfold A.shift
 split at h
 ·simp only [Rep] at r ⊢
  obtain ⟨hg, p, h1, h2, r⟩ := r
  exact ⟨hg, p, key _ _ h1, h2, r⟩
 ·simp only [Rep] at r ⊢
  obtain ⟨p, h1, h2, r⟩ := r
  exact ⟨p, key _ _ h1, h2, r⟩
 ·exact scal2_rep h r
theorem shiftT_rep' {z0 z : Z} {w' : World} {E' : List Pl} {n : Nat} (hn : n = z.E.length) {vs : List AV} {v : Value} (h : vs.all A.fresh = true) (r : Rep (ctx z0 w' E' nopb) (.tup vs) v) : Rep (ctx z w' (z.E ++ E') nopb) (A.shiftT n (.tup vs)) v := by
 simp only [Rep, A.shiftT] at r ⊢
 obtain ⟨us, rfl, r⟩ := r
 refine ⟨us, rfl, ?_⟩
 generalize us.toList = us' at r ⊢
 induction vs generalizing us' with
 | nil => simpa [RepL] using r
 | cons x l ih =>
  simp only [List.all_cons, Bool.and_eq_true] at h
  simp only [RepL, List.map_cons] at r ⊢
  obtain ⟨v, vs', e, h1, h2⟩ := r
  exact ⟨v, vs', e, shift_rep hn h.1 h1, ih h.2 _ h2⟩
theorem shiftT_rep {z0 z : Z} {w' : World} {E' : List Pl} {n : Nat} (hn : n = z.E.length) {a : AV} {v : Value} (h : A.freshT a = true) (r : Rep (ctx z0 w' E' nopb) a v) : Rep (ctx z w' (z.E ++ E') nopb) (A.shiftT n a) v := by
 by_cases ht : ∃ vs, a = .tup vs
 ·obtain ⟨vs, rfl⟩ := ht
  exact shiftT_rep' hn h r
 ·have e1 : A.freshT a = A.fresh a := by cases a <;> first | rfl | exact absurd ⟨_, rfl⟩ ht
  have e2 : A.shiftT n a = A.shift n a := by cases a <;> first | rfl | exact absurd ⟨_, rfl⟩ ht
  rw [e1] at h
  rw [e2]
  exact shift_rep hn h r
theorem scal1Cs_rep {b : Nat} : ∀ {l : List AV} {off : Nat}, l.all A.scal1 = true → c'.w = c.w → RepCs c b off l → RepCs c' b off l
 | [], off, _, _, _ => by simp [RepCs]
 | a :: l, off, h, hw, r => by
  simp only [List.all_cons, Bool.and_eq_true] at h
  simp only [RepCs] at r ⊢
  obtain ⟨⟨v, h1, h2, h3⟩, h4⟩ := r
  exact ⟨⟨v, by rw [hw]; exact h1, h2, scal1_rep h.1 h3⟩, scal1Cs_rep h.2 hw h4⟩
theorem scal1Es_rep {sz b : Nat} : ∀ {l : List (List AV)} {off : Nat}, (l.all fun e => e.all A.scal1) = true → c'.w = c.w → RepEs c sz b off l → RepEs c' sz b off l
 | [], off, _, _, _ => by simp [RepEs]
 | a :: l, off, h, hw, r => by
  simp only [List.all_cons, Bool.and_eq_true] at h
  simp only [RepEs] at r ⊢
  obtain ⟨h1, h2, h3⟩ := r
  exact ⟨h1, scal1Cs_rep h.1 hw h2, scal1Es_rep h.2 hw h3⟩
theorem scal2M_rep : ∀ {l : List (AV × AV)} {es : List MapEntry}, (l.all fun p => A.scal2 p.1 && A.scal2 p.2) = true → RepM c l es → RepM c' l es
 | [], es, _, r => by simpa [RepM] using r
 | (k, v) :: l, es, h, r => by
  simp only [List.all_cons, Bool.and_eq_true] at h
  simp only [RepM] at r ⊢
  obtain ⟨e, es', h1, h2, h3, h4⟩ := r
  exact ⟨e, es', h1, scal2_rep h.1.1 h2, scal2_rep h.1.2 h3, scal2M_rep h.2 h4⟩
theorem freshB_rep {p : Pl} {x : Blk} (h : A.freshB x = true) (hw : c'.w = c.w) (r : BlkAt c p x) : BlkAt c' p x := by
 cases x with
 | box cs =>
  obtain ⟨h1, ⟨⟨arr, t, h2, h3⟩, h4⟩⟩ := r
  exact ⟨h1, ⟨arr, t, by rw [hw]; exact h2, h3⟩, scal1Cs_rep h hw h4⟩
 | arr g sz es =>
  obtain ⟨h1, h2, h3, h4, ⟨arr, t, h5, h6⟩, h7, h8, h9⟩ := r
  exact ⟨h1, h2, h3, h4, ⟨arr, t, by rw [hw]; exact h5, h6⟩, h7, scal1Es_rep h hw h8, fun arr t fz e => h9 arr t fz (by rw [← hw]; exact e)⟩
 | map es =>
  obtain ⟨h1, ents, clock, h2, hwf, h3⟩ := r
  exact ⟨h1, ents, clock, by rw [hw]; exact h2, hwf, scal2M_rep h h3⟩
 | arrF g sz es => cases h
 | it cur left => cases h
theorem lent_out {z : Z} {σ σ' : Heap} {r : AV} {v : Value} {w' : World} {E' : List Pl} (e2 : ∀ b, z.X b → b < z.w.heap.size) (hh : HeapRel (ctx z z.w z.E nopb) σ) (hv : A.freshT r = true) (hb : σ'.all A.freshB = true)
  (k2 : Out ⟨z.w, [], fun _ => False, z.nm⟩ w' E') (k3 : HeapRel (ctx ⟨z.w, [], fun _ => False, z.nm⟩ w' E' nopb) σ') (k4 : Rep (ctx ⟨z.w, [], fun _ => False, z.nm⟩ w' E' nopb) r v) :
  ∃ E'', Out z w' E'' ∧ HeapRel (ctx z w' E'' nopb) (σ ++ σ') ∧ Rep (ctx z w' E'' nopb) (A.shiftT σ.length r) v := by
 have hlen : z.E.length = σ.length := hh.len
 have hlen' : E'.length = σ'.length := k3.len
 have hst : ∀ b, b < z.w.heap.size → w'.heap[b]? = z.w.heap[b]? := fun b hb => k2.stay b hb (fun p hp => by cases hp)
 have hlt : ∀ p ∈ z.E, p.b < z.w.heap.size := fun p hp => hh.lt hp
 have hfr : ∀ p ∈ E', z.w.heap.size ≤ p.b := fun p hp => by
  rcases k2.fresh p hp with k | ⟨q, hq, _⟩
  ·exact k
  ·cases hq
 have hx : Ext (ctx z z.w z.E nopb) (ctx z w' (z.E ++ E') nopb) := by
  refine ⟨k2.size, fun b hb hn => ⟨hst b hb, ?_⟩, fun i p hp => ⟨p, ?_, .inl rfl⟩, rfl⟩
  ·rintro (k | ⟨p, hp, k⟩ | ⟨i, k⟩)
   ·exact hn (.inl k)
   ·rcases List.mem_append.1 hp with hp | hp
    ·exact hn (.inr (.inl ⟨p, hp, k⟩))
    ·have := hfr p hp; simp only [ctx] at hb; omega
   ·cases k
  ·simp only [ctx] at hp ⊢
   rw [List.getElem?_append_left (List.getElem?_eq_some_iff.1 hp).1]; exact hp
 have key : ∀ (i : Nat) (p : Pl), (z.E ++ E')[i]? = some p → (i < z.E.length ∧ z.E[i]? = some p) ∨ (z.E.length ≤ i ∧ E'[i - z.E.length]? = some p) := fun i p hp => by
  by_cases hi : i < z.E.length
  ·rw [List.getElem?_append_left hi] at hp; exact .inl ⟨hi, hp⟩
  ·rw [List.getElem?_append_right (by omega)] at hp; exact .inr ⟨by omega, hp⟩
 refine ⟨z.E ++ E', ⟨k2.os, k2.tape, k2.output, k2.size, fun b hb _ => hst b hb, fun i p hp => ?_, fun i p hp => ⟨p, ?_, .inl rfl⟩, e2, hlt⟩, ⟨by simp [ctx, hlen, hlen'], fun i j p q hp hq e => ?_, fun i p x hp hxx => ?_⟩, shiftT_rep hlen.symm hv k4⟩
 ·rcases key i p hp with ⟨_, k⟩ | ⟨_, k⟩
  ·exact .inr ⟨p, k, rfl⟩
  ·exact .inl (hfr p (List.mem_of_getElem? k))
 ·rw [List.getElem?_append_left (List.getElem?_eq_some_iff.1 hp).1]; exact hp
 ·simp only [ctx] at hp hq
  rcases key i p hp with ⟨i1, k⟩ | ⟨i1, k⟩ <;> rcases key j q hq with ⟨j1, m⟩ | ⟨j1, m⟩
  ·exact hh.inj i j p q k m e
  ·have := hlt p (List.mem_of_getElem? k); have := hfr q (List.mem_of_getElem? m); omega
  ·have := hlt q (List.mem_of_getElem? m); have := hfr p (List.mem_of_getElem? k); omega
  ·have := k3.inj _ _ p q k m e; omega
 ·simp only [ctx] at hp
  rcases key i p hp with ⟨i1, k⟩ | ⟨i1, k⟩
  ·rw [List.getElem?_append_left (by omega)] at hxx
   exact (hh.blk i p x k hxx).mono hx (hst _ (hlt p (List.mem_of_getElem? k)))
  ·rw [List.getElem?_append_right (by omega), ← hlen] at hxx
   exact freshB_rep (c := ctx ⟨z.w, [], fun _ => False, z.nm⟩ w' E' nopb) (List.all_eq_true.1 hb x (List.mem_of_getElem? hxx)) rfl (k3.blk _ p x k hxx)
theorem ACalls.lent {args args' : List AV} {σ σ' : Heap} {r : AV} (h : ACalls P nm f args' [] r σ') (ha : A.frzL σ 0 8 args = some args') (hv : A.freshT r = true) (hb : σ'.all A.freshB = true) : ACalls P nm f args σ (A.shiftT σ.length r) (σ ++ σ') := by
 have hX : ∀ (z : Z) b, ¬ (ctx ⟨z.w, [], fun _ => False, z.nm⟩ z.w [] nopb).X b := by
  rintro z b (k | ⟨p, hp, _⟩ | ⟨i, k⟩)
  ·exact k.elim
  ·cases hp
  ·cases k
 have hcold : ∀ (z : Z), HeapRel (ctx z z.w z.E nopb) σ → Cold (ctx z z.w z.E nopb) (ctx ⟨z.w, [], fun _ => False, z.nm⟩ z.w [] nopb) σ 0 := fun z hh =>
  ⟨rfl, rfl, fun b k => (hX z b k).elim, fun id p k => absurd k (Nat.not_lt_zero _), hh, fun id p _ _ => hX z _⟩
 have h0 : ∀ (z : Z), HeapRel (ctx ⟨z.w, [], fun _ => False, z.nm⟩ z.w [] nopb) [] := fun z => by
  refine ⟨rfl, fun i j p q hp => ?_, fun i p x hp => ?_⟩
  ·simp [ctx] at hp
  ·simp [ctx] at hp
 rcases h with ⟨g, h1, h2⟩ | h2
 ·refine .inl ⟨g, h1, fun z vs e1 e2 hh e4 => ?_⟩
  have ha' : RepL (ctx ⟨z.w, [], fun _ => False, z.nm⟩ z.w [] nopb) args' vs.toList := frzL_rep (hcold z hh) 8 (fun av av' v _ e r => frz_all (hcold z hh) 8 _ _ _ e r) _ _ _ ha e4
  refine (h2 ⟨z.w, [], fun _ => False, z.nm⟩ vs e1 (fun b k => k.elim) (h0 z) ha').mono ?_
  rintro e w' ⟨v, E', k1, k2, k3, k4⟩
  obtain ⟨E'', q1, q2, q3⟩ := lent_out e2 hh hv hb k2 k3 k4
  exact ⟨v, E'', k1, q1, q2, q3⟩
 ·refine .inr fun z vs e1 e2 hh e4 => ?_
  have ha' : RepL (ctx ⟨z.w, [], fun _ => False, z.nm⟩ z.w [] nopb) args' vs.toList := frzL_rep (hcold z hh) 8 (fun av av' v _ e r => frz_all (hcold z hh) 8 _ _ _ e r) _ _ _ ha e4
  obtain ⟨v, w', E', k1, k2, k3, k4⟩ := h2 ⟨z.w, [], fun _ => False, z.nm⟩ vs e1 (fun b k => k.elim) (h0 z) ha'
  obtain ⟨E'', q1, q2, q3⟩ := lent_out e2 hh hv hb k2 k3 k4
  exact ⟨v, w', E'', k1, q1, q2, q3⟩
theorem fin_out {z : Z} {w' : World} {E' : List Pl} {σ σ1 σ' : Heap} {x r : AV} {v : Value} (hh : HeapRel (ctx z z.w z.E nopb) σ) (hlt : ∀ b, z.X b → b < z.w.heap.size) (ho : Out z w' E') (hr : HeapRel (ctx z w' E' nopb) σ1) (rv : Rep (ctx z w' E' nopb) x v) (k3 : A.fin σ x σ1 = some (r, σ')) :
  ∃ E'', Out z w' E'' ∧ HeapRel (ctx z w' E'' nopb) σ' ∧ Rep (ctx z w' E'' nopb) r v := by
 unfold A.fin at k3
 split at k3
 ·rename_i he
  simp only [Option.some.injEq, Prod.mk.injEq] at k3
  obtain ⟨rfl, rfl⟩ := k3
  exact ⟨E', ho, by rw [← he]; exact hr, rv⟩
 ·split at k3
  ·rename_i he
   obtain ⟨r', k6, k7⟩ := Option.map_eq_some_iff.1 k3
   simp only [Prod.mk.injEq] at k7
   obtain ⟨rfl, rfl⟩ := k7
   have hlen := hr.len
   simp only [ctx] at hlen
   have hzl : z.E.length = σ.length := hh.len
   have hle2 : σ.length ≤ σ1.length := by
    have := congrArg List.length he
    simp at this; omega
   have htk : ∀ (id : Nat) (p : Pl), id < σ.length → E'[id]? = some p → (E'.take σ.length)[id]? = some p := fun id p hlt' hp => by rw [List.getElem?_take_of_lt hlt']; exact hp
   have htk2 : ∀ (id : Nat) (p : Pl), (E'.take σ.length)[id]? = some p → id < σ.length ∧ E'[id]? = some p := fun id p hp => by
    rw [List.getElem?_take] at hp
    split at hp
    ·exact ⟨by assumption, hp⟩
    ·cases hp
   have hcold : Cold (ctx z w' E' nopb) (ctx z w' (E'.take σ.length) nopb) σ1 σ.length := by
    refine ⟨rfl, rfl, fun b k => ?_, htk, hr, fun id p hge hp k => ?_⟩
    ·rcases k with k | ⟨p, hp, k⟩ | ⟨i, k⟩
     ·exact .inl k
     ·exact .inr (.inl ⟨p, List.mem_of_mem_take hp, k⟩)
     ·cases k
    ·rcases k with k | ⟨q, hq, k⟩ | ⟨i, k⟩
     ·have hb := hlt _ k
      rcases ho.fresh' id p hp with e | ⟨q, hq, _⟩
      ·omega
      ·rw [List.getElem?_eq_none (by omega)] at hq; cases hq
     ·obtain ⟨j, hj, rfl⟩ := List.mem_iff_getElem.1 hq
      obtain ⟨h1, h2⟩ := htk2 j _ (List.getElem?_eq_getElem hj)
      have := hr.inj j id _ p h2 hp k
      omega
     ·cases k
   have heq : ∀ (id : Nat), id < σ.length → σ[id]? = σ1[id]? := fun id hlt' => by
    have h1 : (List.take σ.length σ1)[id]? = σ1[id]? := List.getElem?_take_of_lt hlt'
    rw [he] at h1; exact h1
   have held : Eld (ctx z z.w z.E nopb) (ctx z w' E' nopb) (ctx z w' (E'.take σ.length) nopb) :=
    ⟨rfl, rfl, hcold.X, fun id p0 p e0 e1 => htk id p (by have := (List.getElem?_eq_some_iff.1 e0).1; simp only [ctx] at this; omega) e1⟩
   refine ⟨E'.take σ.length, ?_, ?_, frz_all hcold 8 _ _ _ k6 rv⟩
   ·have o := ho
    exact ⟨o.os, o.tape, o.output, o.size, o.stay, fun i p hp => o.fresh' i p (htk2 i p hp).2, fun i p hp => by
     obtain ⟨p', m1, m2⟩ := o.env i p hp
     exact ⟨p', htk i p' (by have := (List.getElem?_eq_some_iff.1 hp).1; omega) m1, m2⟩, o.lt, o.mine⟩
   ·refine ⟨by simp only [ctx, List.length_take]; omega, fun i j p q hp hq e => hr.inj i j p q (htk2 i p hp).2 (htk2 j q hq).2 e, fun i p x hp hx => ?_⟩
    obtain ⟨hi, hp2⟩ := htk2 i p hp
    have hz0 : z.E[i]? = some z.E[i] := List.getElem?_eq_getElem (by omega)
    exact eldB_rep held (hh.blk i _ x hz0 hx) (hr.blk i p x hp2 (by rw [← heq i hi]; exact hx))
  ·cases k3
theorem Sound.finC {m : List AV → Heap → Option (AV × Heap)} (h : Sound P nm f m) (sh : Sh) (hs : sh.ok = true) : Sound P nm f (A.finC sh m) := by
 intro args σ r σ' e
 unfold A.finC at e
 obtain ⟨⟨x, σ1⟩, e1, e2⟩ := Option.bind_eq_some_iff.1 e
 obtain ⟨⟨y, σ2⟩, e3, e4⟩ := Option.map_eq_some_iff.1 e2
 simp only [Prod.mk.injEq] at e4
 obtain ⟨rfl, rfl⟩ := e4
 rcases h _ _ _ _ e1 with ⟨g, h1, h2⟩ | h2
 ·refine .inl ⟨g, h1, fun z vs k1 k2 hh k4 => ?_⟩
  refine (h2 z vs k1 k2 hh k4).mono ?_
  rintro e w' ⟨v, E', q1, q2, q3, q4⟩
  obtain ⟨E'', p1, p2, p3⟩ := fin_out hh k2 q2 q3 q4 e3
  exact ⟨v, E'', q1, p1, p2, nn_rep _ _ _ hs p3⟩
 ·refine .inr fun z vs k1 k2 hh k4 => ?_
  obtain ⟨v, w', E', q1, q2, q3, q4⟩ := h2 z vs k1 k2 hh k4
  obtain ⟨E'', p1, p2, p3⟩ := fin_out hh k2 q2 q3 q4 e3
  exact ⟨v, w', E'', q1, p1, p2, nn_rep _ _ _ hs p3⟩
theorem Sound.wrap {r : List AV → Heap → Option (AV × Heap)} (h : Sound P nm f r) (ro : Bool) (ain : List Sh) (rout : Sh) (hi : Sh.okL ain = true) (ho : rout.ok = true) : Sound P nm f (A.wrap ro ain rout r) := by
 intro args σ v σ' e
 unfold A.wrap at e
 cases hc : (ro && args.any A.own)
 ·rw [hc] at e
  simp only [cond_false] at e
  obtain ⟨q, e1, e2⟩ := Option.map_eq_some_iff.1 e
  injection e2 with e2 e3
  subst e2 e3
  exact (h _ _ _ _ e1).conv (fun c vs k => nnL_rep _ _ _ hi k) (fun c v k => nn_rep _ _ _ ho k)
 ·rw [hc] at e
  simp only [cond_true] at e
  obtain ⟨args', e1, e2⟩ := Option.bind_eq_some_iff.1 e
  obtain ⟨q, e3, e4⟩ := Option.bind_eq_some_iff.1 e2
  obtain ⟨q1, q2⟩ := q
  simp only at e4
  cases hs : (A.freshT (A.nn rout q1) && q2.all A.freshB)
  ·rw [hs] at e4; cases e4
  ·rw [hs] at e4
   simp only [cond_true, Option.some.injEq, Prod.mk.injEq] at e4
   obtain ⟨rfl, rfl⟩ := e4
   simp only [Bool.and_eq_true] at hs
   exact ((h _ _ _ _ e3).conv (args := args') (fun c vs k => nnL_rep _ _ _ hi k) (fun c v k => nn_rep _ _ _ ho k)).lent e1 hs.1 hs.2
end
theorem Snd.of {X : Fx} {t : List (FuncId × (List AV → Heap → Option (AV × Heap)))} (hc : X.call = A.tab (fun _ _ => none) t) (ht : ∀ p ∈ t, Sound X.P X.nm p.1 p.2) (hd : ∀ f, Sound X.P X.nm f (X.dyn (X.nm.getD f 0))) : Snd X := by
 refine ⟨fun f args σ r σ' h => ?_, fun f => hd f⟩
 rw [hc] at h
 clear hc
 induction t with
 | nil => cases h
 | cons p t ih =>
  obtain ⟨m, x⟩ := p
  simp only [A.tab] at h
  cases hm : (f == m)
  ·rw [hm] at h; exact ih (fun p hp => ht p (List.mem_cons_of_mem _ hp)) h
  ·rw [hm] at h
   have : f = m := by simpa using hm
   subst this
   exact ht (f, x) (List.mem_cons_self) _ _ _ _ h
theorem Sound.none {P : Program} {nm : List Nat} {f : FuncId} : Sound P nm f (fun _ _ => Option.none) := fun _ _ _ _ h => by cases h
theorem All.nil {P : Program} {nm : List Nat} : ∀ p ∈ ([] : List (FuncId × (List AV → Heap → Option (AV × Heap)))), Sound P nm p.1 p.2 := fun _ h => by cases h
theorem All.cons {P : Program} {nm : List Nat} {f : FuncId} {m : List AV → Heap → Option (AV × Heap)} {l : List (FuncId × (List AV → Heap → Option (AV × Heap)))} (h : Sound P nm f m) (t : ∀ p ∈ l, Sound P nm p.1 p.2) : ∀ p ∈ (f, m) :: l, Sound P nm p.1 p.2 :=
 fun p hp => by rcases List.mem_cons.1 hp with rfl | hp; exact h; exact t p hp
theorem DAll.nil {P : Program} {nm : List Nat} : ∀ p ∈ ([] : List (Nat × (List AV → Heap → Option (AV × Heap)))), ∀ f, nm.getD f 0 = p.1 → Sound P nm f p.2 := fun _ h => by cases h
theorem DAll.cons {P : Program} {nm : List Nat} {k : Nat} {m : List AV → Heap → Option (AV × Heap)} {l : List (Nat × (List AV → Heap → Option (AV × Heap)))} (h : ∀ f, nm.getD f 0 = k → Sound P nm f m) (t : ∀ p ∈ l, ∀ f, nm.getD f 0 = p.1 → Sound P nm f p.2) : ∀ p ∈ (k, m) :: l, ∀ f, nm.getD f 0 = p.1 → Sound P nm f p.2 :=
 fun p hp => by rcases List.mem_cons.1 hp with rfl | hp; exact h; exact t p hp
theorem dyn_of {P : Program} {nm : List Nat} {t : List (Nat × (List AV → Heap → Option (AV × Heap)))} (ht : ∀ p ∈ t, ∀ f, nm.getD f 0 = p.1 → Sound P nm f p.2) (f : FuncId) : Sound P nm f (A.tab (fun _ _ => Option.none) t (nm.getD f 0)) := by
 induction t with
 | nil => exact Sound.none
 | cons p t ih =>
  obtain ⟨k, x⟩ := p
  simp only [A.tab]
  cases hm : (nm.getD f 0 == k)
  ·exact ih (fun p hp => ht p (List.mem_cons_of_mem _ hp))
  ·exact ht (k, x) List.mem_cons_self f (by simpa using hm)
theorem nm_one {nm : List Nat} {k g : Nat} (h : (nm.zipIdx.filter fun p => p.1 == k) = [(k, g)]) (hk : (0 == k) = false) {f : Nat} (hf : nm.getD f 0 = k) : f = g := by
 have hlt : f < nm.length := by
  rcases Nat.lt_or_ge f nm.length with e | e
  ·exact e
  ·simp only [List.getD, List.getElem?_eq_none e, Option.getD_none] at hf; subst hf; simp at hk
 have : (k, f) ∈ nm.zipIdx.filter fun p => p.1 == k := by
  refine List.mem_filter.2 ⟨List.mem_iff_getElem?.2 ⟨f, ?_⟩, by simp⟩
  simp only [List.getD] at hf
  rw [List.getElem?_eq_getElem hlt] at hf
  simp [List.getElem?_eq_getElem hlt, ← hf]
 rw [h] at this
 simpa using this
theorem nm_sound {P : Program} {nm : List Nat} {k g : Nat} {m : List AV → Heap → Option (AV × Heap)} (hs : Sound P nm g m) (h : (nm.zipIdx.filter fun p => p.1 == k) = [(k, g)]) (hk : (0 == k) = false) : ∀ f, nm.getD f 0 = k → Sound P nm f m :=
 fun f hf => by have e := nm_one h hk hf; subst e; exact hs
def fuel (F : (Nat → List AV → Heap → Option (AV × Heap)) → List (Nat × (List AV → Heap → Option (AV × Heap)))) : Nat → Nat → List AV → Heap → Option (AV × Heap)
 | 0, _ => fun _ _ => none
 | n + 1, k => A.tab (fun _ _ => none) (F (fuel F n)) k
namespace A
set_option linter.unusedSectionVars false
def ar1 (f : AV → Heap → Option (AV × Heap)) : List AV → Heap → Option (AV × Heap)
 | [x0], σ => f x0 σ
 | _, _ => none
def ar2 (f : AV → AV → Heap → Option (AV × Heap)) : List AV → Heap → Option (AV × Heap)
 | [x0, x1], σ => f x0 x1 σ
 | _, _ => none
def ar3 (f : AV → AV → AV → Heap → Option (AV × Heap)) : List AV → Heap → Option (AV × Heap)
 | [x0, x1, x2], σ => f x0 x1 x2 σ
 | _, _ => none
end A
section
variable {X : Fx} {f : FuncId} {fn : Func} {ann : Ann}
theorem Sound.run1 {m : AV → Heap → Option (AV × Heap)} (keep : Back) (hkeep : keep.Ok) (hs : Snd X) (hf : X.P.funcs[f]? = some fn) (hc : ∀ aas w, (callFunc f aas).run X.P w = .ok (.enter f aas) w) (he : ∀ (x0 : AV) (σ : Heap), runA X keep ann fn [x0] σ = m x0 σ) : Sound X.P X.nm f (A.ar1 m) := by
 intro args σ r σ' h
 unfold A.ar1 at h
 split at h
 ·exact runA_sound hs hkeep hf hc ((he _ _).trans h)
 ·cases h
theorem Sound.run2 {m : AV → AV → Heap → Option (AV × Heap)} (keep : Back) (hkeep : keep.Ok) (hs : Snd X) (hf : X.P.funcs[f]? = some fn) (hc : ∀ aas w, (callFunc f aas).run X.P w = .ok (.enter f aas) w) (he : ∀ (x0 x1 : AV) (σ : Heap), runA X keep ann fn [x0, x1] σ = m x0 x1 σ) : Sound X.P X.nm f (A.ar2 m) := by
 intro args σ r σ' h
 unfold A.ar2 at h
 split at h
 ·exact runA_sound hs hkeep hf hc ((he _ _ _).trans h)
 ·cases h
theorem Sound.run3 {m : AV → AV → AV → Heap → Option (AV × Heap)} (keep : Back) (hkeep : keep.Ok) (hs : Snd X) (hf : X.P.funcs[f]? = some fn) (hc : ∀ aas w, (callFunc f aas).run X.P w = .ok (.enter f aas) w) (he : ∀ (x0 x1 x2 : AV) (σ : Heap), runA X keep ann fn [x0, x1, x2] σ = m x0 x1 x2 σ) : Sound X.P X.nm f (A.ar3 m) := by
 intro args σ r σ' h
 unfold A.ar3 at h
 split at h
 ·exact runA_sound hs hkeep hf hc ((he _ _ _ _).trans h)
 ·cases h
end
end Go.Proofs.Ytphgchakmkankaa

namespace Go.Proofs.Ytphgchakmkankaa
set_option linter.unusedSectionVars false
set_option linter.unusedVariables false
set_option linter.unusedSimpArgs false
abbrev inI (n : Int) : Prop := -9223372036854775808 ≤ n ∧ n ≤ 9223372036854775807
abbrev mxl : Nat := 9223372036854775807
def memB {κ : Type} [DecidableEq κ] (k : κ) (S : List κ) : Bool := S.any fun x => decide (x = k)
theorem memB_iff {κ : Type} [DecidableEq κ] {k : κ} {S : List κ} : memB k S = true ↔ k ∈ S := by
 simp only [memB, List.any_eq_true, decide_eq_true_eq]
 exact ⟨fun ⟨x, h, e⟩ => e ▸ h, fun h => ⟨k, h, rfl⟩⟩
theorem memB_false {κ : Type} [DecidableEq κ] {k : κ} {S : List κ} : memB k S = false ↔ k ∉ S := by
 rw [← memB_iff]; simp
def cInt (n : Int) : List AV := [.int .i64 n]
def cStr (s : ByteArray) : List AV := [.str s]
def sl {α : Type} (sz : Nat) (c : α → List AV) (l : List α) : AV := .sl sz (l.map c)
def okL {α : Type} (p : α → Prop) (l : List α) : Prop := l.length ≤ mxl ∧ ∀ x ∈ l, p x
def okS (s : ByteArray) : Prop := s.size ≤ mxl
theorem p1_cInt (n : Int) : A.part1 0 (cInt n) = some (.int .i64 n) := rfl
theorem p1_cStr (s : ByteArray) : A.part1 0 (cStr s) = some (.str s) := rfl

structure PointD where
 time : Int
 way : Int
deriving DecidableEq
def cPoint (x : PointD) : List AV := [.int .i64 x.time, .int .i64 x.way]
theorem cPoint_len (x : PointD) : (cPoint x).length = 2 := rfl
def okPoint (x : PointD) : Prop := inI x.time ∧ inI x.way
theorem p1_cPoint_0 (x : PointD) : A.part1 0 (cPoint x) = some (.int .i64 x.time) := rfl
theorem p1_cPoint_1 (x : PointD) : A.part1 1 (cPoint x) = some (.int .i64 x.way) := rfl
theorem pA_cPoint (x : PointD) : A.partA 0 2 (cPoint x) = some (.agg (cPoint x)) := rfl
theorem ce_cPoint (x : PointD) : A.cells 2 (.agg (cPoint x)) = some (cPoint x) := rfl
theorem sp_cPoint (x : PointD) (l : List AV) (h : l.length = 2) : A.splice 0 (cPoint x) l = some (cPoint x) := by
 simp [A.splice, cPoint_len, h]
structure CurveD where
 kind : Int
 points : (List PointD)
def cCurve (x : CurveD) : List AV := [.int .i64 x.kind, sl 2 cPoint x.points]
theorem cCurve_len (x : CurveD) : (cCurve x).length = 2 := rfl
def okCurve (x : CurveD) : Prop := inI x.kind ∧ (okL okPoint) x.points
theorem p1_cCurve_0 (x : CurveD) : A.part1 0 (cCurve x) = some (.int .i64 x.kind) := rfl
theorem p1_cCurve_1 (x : CurveD) : A.part1 1 (cCurve x) = some (sl 2 cPoint x.points) := rfl
theorem pA_cCurve (x : CurveD) : A.partA 0 2 (cCurve x) = some (.agg (cCurve x)) := rfl
theorem ce_cCurve (x : CurveD) : A.cells 2 (.agg (cCurve x)) = some (cCurve x) := rfl
theorem sp_cCurve (x : CurveD) (l : List AV) (h : l.length = 2) : A.splice 0 (cCurve x) l = some (cCurve x) := by
 simp [A.splice, cCurve_len, h]
structure FadeD where
 frm : Int
 to : Int
 start : Int
 delay : Int
 time : Int
 curve : CurveD
structure ChangeD where
 time : Int
 level : Int
deriving DecidableEq
structure RangeD where
 low : Int
 high : Int
 name : ByteArray
deriving DecidableEq
structure ParamD where
 name : ByteArray
 group : Int
 att : Int
 fine : Int
 default : Int
 snap : Bool
 ranges : (List RangeD)
structure ProfileD where
 name : ByteArray
 size : Int
 params : (List ParamD)
structure UnitD where
 number : Int
 profile : ByteArray
 univ : Int
 address : Int
deriving DecidableEq
structure RigD where
 library : (List ProfileD)
 units : (List UnitD)
structure KeyD where
 unit : Int
 param : ByteArray
deriving DecidableEq
def cKey (x : KeyD) : List AV := [.int .i64 x.unit, .str x.param]
def okKey (x : KeyD) : Prop := inI x.unit ∧ okS x.param
structure SettingD where
 key : KeyD
 level : Int
deriving DecidableEq
structure PresetD where
 number : Int
 title : ByteArray
 settings : (List SettingD)
structure FanD where
 corners : (List Int)
 block : Int
 wings : Int
structure ValueD where
 level : Int
 preset : Int
deriving DecidableEq
def cValue (x : ValueD) : List AV := [.int .i64 x.level, .int .i64 x.preset]
def okValue (x : ValueD) : Prop := inI x.level ∧ inI x.preset
structure MoveD where
 key : KeyD
 value : ValueD
 release : Bool
 timed : Bool
 delay : Int
 time : Int
deriving DecidableEq
def cMove (x : MoveD) : List AV := [.int .i64 x.key.unit, .str x.key.param, .int .i64 x.value.level, .int .i64 x.value.preset, .bool x.release, .bool x.timed, .int .i64 x.delay, .int .i64 x.time]
theorem cMove_len (x : MoveD) : (cMove x).length = 8 := rfl
def okMove (x : MoveD) : Prop := okKey x.key ∧ okValue x.value ∧ inI x.delay ∧ inI x.time
theorem p1_cMove_0 (x : MoveD) : A.part1 0 (cMove x) = some (.int .i64 x.key.unit) := rfl
theorem p1_cMove_1 (x : MoveD) : A.part1 1 (cMove x) = some (.str x.key.param) := rfl
theorem p1_cMove_2 (x : MoveD) : A.part1 2 (cMove x) = some (.int .i64 x.value.level) := rfl
theorem p1_cMove_3 (x : MoveD) : A.part1 3 (cMove x) = some (.int .i64 x.value.preset) := rfl
theorem p1_cMove_4 (x : MoveD) : A.part1 4 (cMove x) = some (.bool x.release) := rfl
theorem p1_cMove_5 (x : MoveD) : A.part1 5 (cMove x) = some (.bool x.timed) := rfl
theorem p1_cMove_6 (x : MoveD) : A.part1 6 (cMove x) = some (.int .i64 x.delay) := rfl
theorem p1_cMove_7 (x : MoveD) : A.part1 7 (cMove x) = some (.int .i64 x.time) := rfl
theorem pA_cMove_key (x : MoveD) : A.partA 0 2 (cMove x) = some (.agg (cKey x.key)) := rfl
theorem pA_cMove_value (x : MoveD) : A.partA 2 2 (cMove x) = some (.agg (cValue x.value)) := rfl
theorem pA_cMove (x : MoveD) : A.partA 0 8 (cMove x) = some (.agg (cMove x)) := rfl
theorem ce_cMove (x : MoveD) : A.cells 8 (.agg (cMove x)) = some (cMove x) := rfl
theorem sp_cMove (x : MoveD) (l : List AV) (h : l.length = 8) : A.splice 0 (cMove x) l = some (cMove x) := by
 simp [A.splice, cMove_len, h]
structure CueD where
 number : Int
 title : ByteArray
 delay : Int
 up : Int
 down : Int
 other : Int
 curve : CurveD
 block : Bool
 follow : Int
 moves : (List MoveD)
def cCue (x : CueD) : List AV := [.int .i64 x.number, .str x.title, .int .i64 x.delay, .int .i64 x.up, .int .i64 x.down, .int .i64 x.other, .int .i64 x.curve.kind, sl 2 cPoint x.curve.points, .bool x.block, .int .i64 x.follow, sl 8 cMove x.moves]
theorem cCue_len (x : CueD) : (cCue x).length = 11 := rfl
def okCue (x : CueD) : Prop := inI x.number ∧ okS x.title ∧ inI x.delay ∧ inI x.up ∧ inI x.down ∧ inI x.other ∧ okCurve x.curve ∧ inI x.follow ∧ (okL okMove) x.moves
theorem pA_cCue (x : CueD) : A.partA 0 11 (cCue x) = some (.agg (cCue x)) := rfl
theorem ce_cCue (x : CueD) : A.cells 11 (.agg (cCue x)) = some (cCue x) := rfl
theorem sp_cCue (x : CueD) (l : List AV) (h : l.length = 11) : A.splice 0 (cCue x) l = some (cCue x) := by
 simp [A.splice, cCue_len, h]
structure EntryD where
 key : KeyD
 value : ValueD
 cue : Int
deriving DecidableEq
def cEntry (x : EntryD) : List AV := [.int .i64 x.key.unit, .str x.key.param, .int .i64 x.value.level, .int .i64 x.value.preset, .int .i64 x.cue]
theorem cEntry_len (x : EntryD) : (cEntry x).length = 5 := rfl
theorem sp_cEntry (x : EntryD) (l : List AV) (h : l.length = 5) : A.splice 0 (cEntry x) l = some (cEntry x) := by
 simp [A.splice, cEntry_len, h]
structure MarkD where
 unit : Int
 frm : Int
 to : Int
deriving DecidableEq
structure ListD where
 number : Int
 cues : (List CueD)
structure PlaybackD where
 number : Int
 list : Int
 priority : Int
deriving DecidableEq
structure SetupD where
 rig : RigD
 presets : (List PresetD)
 lists : (List ListD)
 playbacks : (List PlaybackD)
structure ActionD where
 time : Int
 kind : Int
 playback : Int
 cue : Int
 level : Int
deriving DecidableEq
structure EventD where
 att : Int
 action : ActionD
deriving DecidableEq
structure StampD where
 hours : Int
 minutes : Int
 seconds : Int
 frames : Int
deriving DecidableEq
structure RunD where
 key : KeyD
 fade : FadeD
 claim : Int
 ending : Bool
structure StandingD where
 playback : Int
 cue : Int
 fader : Int
 paused : Bool
 follow : Int
 runs : (List RunD)
structure EffectStepD where
 level : Int
 hold : Int
 fade : Int
deriving DecidableEq
structure EffectD where
 form : Int
 low : Int
 high : Int
 cycle : Int
 width : Int
 spread : Int
 back : Bool
 relative : Bool
 steps : (List EffectStepD)
structure RateD where
 time : Int
 percent : Int
deriving DecidableEq
structure RunningD where
 effect : EffectD
 keys : (List KeyD)
 start : Int
 rates : (List RateD)
 inn : Int
 fin : Int
 out : Int
end Go.Proofs.Ytphgchakmkankaa

namespace Go.Proofs.Ytphgchakmkankaa
set_option linter.unusedSectionVars false
set_option linter.unusedVariables false
set_option linter.unusedSimpArgs false

theorem bq (s t : ByteArray) : (s == t) = decide (s = t) := by
 obtain ⟨a⟩ := s
 obtain ⟨b⟩ := t
 show (a == b) = _
 rw [Bool.eq_iff_iff]
 simp
section
variable {α β : Type}
theorem cT (t e : Option α) : A.cond (.bool true) t e = t := rfl
theorem cF (t e : Option α) : A.cond (.bool false) t e = e := rfl
theorem gTT (e d : Option α) : A.guard (.bool true) true e d = e := rfl
theorem gTF (e d : Option α) : A.guard (.bool true) false e d = d := rfl
theorem gFT (e d : Option α) : A.guard (.bool false) true e d = d := rfl
theorem gFF (e d : Option α) : A.guard (.bool false) false e d = e := rfl
theorem pT (x y : AV) : A.pick (.bool true) x y = some x := rfl
theorem pF (x y : AV) : A.pick (.bool false) x y = some y := rfl
theorem gDp {p : Prop} [Decidable p] {w : Bool} {e d : Option α} {f : α → Option β} : (A.guard (.bool (decide p)) w e d).bind f = if p then (A.guard (.bool true) w e d).bind f else (A.guard (.bool false) w e d).bind f := by by_cases h : p <;> simp [h]
theorem gDb {b w : Bool} {e d : Option α} {f : α → Option β} : (A.guard (.bool b) w e d).bind f = match b with | true => (A.guard (.bool true) w e d).bind f | false => (A.guard (.bool false) w e d).bind f := by cases b <;> rfl
theorem cDp {p : Prop} [Decidable p] {t e : Option α} : A.cond (.bool (decide p)) t e = if p then t else e := by by_cases h : p <;> simp [h, A.cond]
theorem cDnp {p : Prop} [Decidable p] {t e : Option α} : A.cond (.bool (!decide p)) t e = if p then e else t := by by_cases h : p <;> simp [h, A.cond]
theorem cDn {b : Bool} {t e : Option α} : A.cond (.bool (!b)) t e = match b with | true => e | false => t := by cases b <;> rfl
theorem cDb {b : Bool} {t e : Option α} : A.cond (.bool b) t e = match b with | true => t | false => e := by cases b <;> rfl
theorem gN (w : Bool) (e d : Option α) : A.guard (.tup []) w e d = d := rfl
theorem xN (a b : AX) : (a == b) = decide (a = b) := by rw [Bool.eq_iff_iff]; simp
end
section
variable (k : IntKind) (a b : Int) (p q : Prop) [Decidable p] [Decidable q] (s t : ByteArray) (x y : AV) (σ : Heap) (cs : List AV)
theorem aAdd : A.add (.int .i64 a) (.int .i64 b) = some (.int .i64 (IntKind.i64.wrap (a + b))) := rfl
theorem aSub : A.sub (.int .i64 a) (.int .i64 b) = some (.int .i64 (IntKind.i64.wrap (a - b))) := rfl
theorem aMul : A.mul (.int .i64 a) (.int .i64 b) = some (.int .i64 (IntKind.i64.wrap (a * b))) := rfl
theorem aLss : A.lss (.int .i64 a) (.int .i64 b) = some (.bool (decide (a < b))) := rfl
theorem aLeq : A.leq (.int .i64 a) (.int .i64 b) = some (.bool (decide (a ≤ b))) := rfl
theorem aGtr : A.gtr (.int .i64 a) (.int .i64 b) = some (.bool (decide (b < a))) := rfl
theorem aGeq : A.geq (.int .i64 a) (.int .i64 b) = some (.bool (decide (b ≤ a))) := rfl
theorem aLss8 : A.lss (.int .u8 a) (.int .u8 b) = some (.bool (decide (a < b))) := rfl
theorem aLeq8 : A.leq (.int .u8 a) (.int .u8 b) = some (.bool (decide (a ≤ b))) := rfl
theorem aGtr8 : A.gtr (.int .u8 a) (.int .u8 b) = some (.bool (decide (b < a))) := rfl
theorem aGeq8 : A.geq (.int .u8 a) (.int .u8 b) = some (.bool (decide (b ≤ a))) := rfl
theorem aEq : A.eql .i (.int k a) (.int k b) = some (.bool (decide (a = b))) := by
 simp only [A.eql, A.eqK, A.eqI, if_true, Option.map_some]; congr 2
theorem aNe : A.neq .i (.int k a) (.int k b) = some (.bool (decide (¬ a = b))) := by
 simp only [A.neq, A.eqK, A.eqI, if_true, Option.map_some]
 congr 2
 rw [Bool.eq_iff_iff]; simp
theorem aEqZ : A.eql .z (.str s) (.str t) = some (.bool (decide (s = t))) := by
 simp only [A.eql, A.eqK, A.eqZ, Option.map_some, bq]
theorem aNeZ : A.neq .z (.str s) (.str t) = some (.bool (decide (¬ s = t))) := by
 simp only [A.neq, A.eqK, A.eqZ, Option.map_some, bq]; simp
theorem aNot (b : Bool) : A.not (.bool b) = some (.bool (!b)) := rfl
theorem aNotD : A.not (.bool (decide p)) = some (.bool (decide (¬ p))) := by simp [A.not]
theorem aLb : A.lb (.lbx cs) = some cs := rfl
theorem aExt0 (l : List AV) : A.ext 0 (.tup (x :: l)) = some x := rfl
theorem aExt1 (x0 x : AV) (l : List AV) : A.ext 1 (.tup (x0 :: x :: l)) = some x := rfl
theorem aExt2 (x0 x1 x : AV) (l : List AV) : A.ext 2 (.tup (x0 :: x1 :: x :: l)) = some x := rfl
theorem aExt3 (x0 x1 x2 x : AV) (l : List AV) : A.ext 3 (.tup (x0 :: x1 :: x2 :: x :: l)) = some x := rfl
theorem aDe : A.deref (.rp cs) σ = some cs := rfl
theorem aFa (o : Nat) : A.faddr o (.rp cs) = some (.rp (cs.drop o)) := rfl
theorem aLenZ : A.lenZ (.str s) = some (.int .i64 s.size) := rfl
theorem aCI (n : Int) : A.cell (.int k n) = some (.int k n) := rfl
theorem aCB (b : Bool) : A.cell (.bool b) = some (.bool b) := rfl
theorem aCS : A.cell (.str s) = some (.str s) := rfl
theorem aCSl (sz : Nat) (es : List (List AV)) : A.cell (.sl sz es) = some (.sl sz es) := rfl
theorem p1D (o k : Nat) : A.part1 o (cs.drop k) = A.part1 (k + o) cs := by simp [A.part1, List.getElem?_drop]
end
theorem gd0 (a d : AV) (l : List AV) : (a :: l).getD 0 d = a := rfl
theorem gd1 (a b d : AV) (l : List AV) : (b :: a :: l).getD 1 d = a := rfl
theorem gd2 (a b c d : AV) (l : List AV) : (b :: c :: a :: l).getD 2 d = a := rfl
theorem gd3 (a b c e d : AV) (l : List AV) : (b :: c :: e :: a :: l).getD 3 d = a := rfl
theorem gd4 (a b c e f d : AV) (l : List AV) : (b :: c :: e :: f :: a :: l).getD 4 d = a := rfl
theorem gd5 (a b c e f g d : AV) (l : List AV) : (b :: c :: e :: f :: g :: a :: l).getD 5 d = a := rfl
theorem gd6 (a b c e f g h d : AV) (l : List AV) : (b :: c :: e :: f :: g :: h :: a :: l).getD 6 d = a := rfl
theorem gd7 (a b c e f g h i d : AV) (l : List AV) : (b :: c :: e :: f :: g :: h :: i :: a :: l).getD 7 d = a := rfl
theorem gd8 (a b c e f g h i j d : AV) (l : List AV) : (b :: c :: e :: f :: g :: h :: i :: j :: a :: l).getD 8 d = a := rfl
theorem wrap64 {n : Int} (h : inI n) : IntKind.i64.wrap n = n := IntWalk.i64_in n h
theorem wrap_eq {ro : Bool} {ain : List Sh} {rout : Sh} {r : List AV → Heap → Option (AV × Heap)} {args : List AV} {σ σ' : Heap} {v v' : AV} (h : args.any A.own = false) (e : r (A.nnL ain args) σ = some (v, σ')) (hv : A.nn rout v = v') : A.wrap ro ain rout r args σ = some (v', σ') := by
 unfold A.wrap
 rw [h, Bool.and_false, cond_false, e]
 simp [hv]
theorem scal2_shift {v : AV} (n : Nat) (h : A.scal2 v = true) : A.fresh v = true ∧ A.shift n v = v := by
 cases v <;> first | exact ⟨h, rfl⟩ | cases h
theorem scal_shift {v : AV} (n : Nat) (h : A.scal v = true) : A.freshT v = true ∧ A.shiftT n v = v := by
 have key : (∀ vs, v ≠ .tup vs) → A.freshT v = true ∧ A.shiftT n v = v := by
  intro k
  have := scal2_shift (v := v) n
  cases v <;> first | exact absurd rfl (k _) | exact this h
 by_cases ht : ∃ vs, v = .tup vs
 ·obtain ⟨vs, rfl⟩ := ht
  simp only [A.scal, List.all_eq_true] at h
  refine ⟨by simp only [A.freshT, List.all_eq_true]; exact fun x hx => (scal2_shift n (h x hx)).1, ?_⟩
  simp only [A.shiftT]
  congr 1
  calc vs.map (A.shift n) = vs.map id := List.map_congr_left fun x hx => (scal2_shift n (h x hx)).2
   _ = vs := List.map_id vs
 ·exact key fun vs e => ht ⟨vs, e⟩
theorem wrap_own {ain : List Sh} {rout : Sh} {r : List AV → Heap → Option (AV × Heap)} {args args' : List AV} {σ : Heap} {v : AV} (h : args.any A.own = true) (hz : A.frzL σ 0 8 args = some args') (ho : args'.any A.own = false) (e : A.wrap true ain rout r args' [] = some (v, [])) (hs : A.scal v = true) : A.wrap true ain rout r args σ = some (v, σ) := by
 unfold A.wrap at e ⊢
 rw [ho, Bool.and_false, cond_false] at e
 obtain ⟨⟨q1, q2⟩, e1, e2⟩ := Option.map_eq_some_iff.1 e
 simp only [Prod.mk.injEq] at e2
 obtain ⟨rfl, rfl⟩ := e2
 rw [h, Bool.and_self, cond_true, hz]
 simp [e1, (scal_shift σ.length hs).1, (scal_shift σ.length hs).2]
theorem fin_same (σ : Heap) (r : AV) : A.fin σ r σ = some (r, σ) := by simp [A.fin]
theorem frz_scal1 (σ : Heap) (n d : Nat) {a : AV} (h : A.scal1 a = true) : A.frz σ n d a = some a := by
 cases a <;> simp only [A.scal1] at h <;> first | (cases h; done) | skip
 case sl sz es => cases es with
  | nil => cases d <;> simp [A.frz, A.frzLL]
  | cons _ _ => simp at h
 all_goals cases d <;> simp [A.frz]
theorem frzL_scal1 (σ : Heap) (n d : Nat) : ∀ {l : List AV}, l.all A.scal1 = true → A.frzL σ n d l = some l
 | [], _ => by simp [A.frzL]
 | a :: l, h => by
  simp only [List.all_cons, Bool.and_eq_true] at h
  simp [A.frzL, frz_scal1 σ n d h.1, frzL_scal1 σ n d h.2]
theorem frz_scal2 (σ : Heap) (n d : Nat) {a : AV} (h : A.scal2 a = true) : A.frz σ n d a = some a := by
 unfold A.scal2 at h
 split at h
 ·cases d <;> simp [A.frz, frzL_scal1 σ n _ h]
 ·exact frz_scal1 σ n d h
theorem frzL_scal2 (σ : Heap) (n d : Nat) : ∀ {l : List AV}, l.all A.scal2 = true → A.frzL σ n d l = some l
 | [], _ => by simp [A.frzL]
 | a :: l, h => by
  simp only [List.all_cons, Bool.and_eq_true] at h
  simp [A.frzL, frz_scal2 σ n d h.1, frzL_scal2 σ n d h.2]
theorem frz_scal (σ : Heap) (n d : Nat) {a : AV} (h : A.scal a = true) : A.frz σ n d a = some a := by
 unfold A.scal at h
 split at h
 ·cases d <;> simp [A.frz, frzL_scal2 σ n _ h]
 ·exact frz_scal2 σ n d h
theorem fin_scal (σ bs : Heap) {r : AV} (h : A.scal r = true) : A.fin σ r (σ ++ bs) = some (r, σ) := by
 unfold A.fin
 split
 ·rfl
 ·rw [if_pos (by simp), frz_scal _ _ _ h]; rfl
theorem fin_int (σ bs : Heap) (k : IntKind) (n : Int) : A.fin σ (.int k n) (σ ++ bs) = some (.int k n, σ) := fin_scal σ bs rfl
theorem fin_bool (σ bs : Heap) (b : Bool) : A.fin σ (.bool b) (σ ++ bs) = some (.bool b, σ) := fin_scal σ bs rfl
theorem fin_str (σ bs : Heap) (s : ByteArray) : A.fin σ (.str s) (σ ++ bs) = some (.str s, σ) := fin_scal σ bs rfl
theorem fin_unit (σ bs : Heap) : A.fin σ (.tup []) (σ ++ bs) = some (.tup [], σ) := fin_scal σ bs rfl
theorem hat (σ bs : Heap) (j : Nat) : (σ ++ bs)[σ.length + j]? = bs[j]? := by rw [List.getElem?_append_right (by omega)]; congr 1; omega
theorem hat0 (σ bs : Heap) : (σ ++ bs)[σ.length]? = bs[0]? := by rw [List.getElem?_append_right (Nat.le_refl _), Nat.sub_self]
theorem hset (σ bs : Heap) (j : Nat) (b : Blk) : (σ ++ bs).set (σ.length + j) b = σ ++ bs.set j b := by rw [List.set_append_right _ _ (by omega)]; congr 2; omega
theorem hset0 (σ bs : Heap) (b : Blk) : (σ ++ bs).set σ.length b = σ ++ bs.set 0 b := by rw [List.set_append_right _ _ (Nat.le_refl _), Nat.sub_self]
section
variable {α : Type} (sz : Nat) (c : α → List AV) (l : List α)
theorem lenS_sl : A.lenS (sl sz c l) = some (.int .i64 l.length) := by simp [sl, A.lenS]
theorem iaddr_sl {k : Nat} {x : α} (h : l[k]? = some x) : A.iaddr sz (sl sz c l) (.int .i64 (k : Int)) = some (.rp (c x)) := by
 have hk : k < l.length := (List.getElem?_eq_some_iff.1 h).1
 have hx : l[k] = x := (List.getElem?_eq_some_iff.1 h).2
 simp [A.iaddr, sl, A.idx, hk, hx]
theorem iaddr_int {i : Int} {x : α} (h0 : 0 ≤ i) (h : l[i.toNat]? = some x) : A.iaddr sz (sl sz c l) (.int .i64 i) = some (.rp (c x)) := by
 have := iaddr_sl sz c l h
 rwa [Int.toNat_of_nonneg h0] at this
end
inductive Rd (S R : Type) where
 | go (s : S)
 | out (r : R)
def Rd.el {S R γ : Type} (x : Rd S R) (f : S → γ) (g : R → γ) : γ := match x with | .go s => f s | .out r => g r
theorem el_go {S R γ : Type} (s : S) (f : S → γ) (g : R → γ) : (Rd.go s : Rd S R).el f g = f s := rfl
theorem el_out {S R γ : Type} (r : R) (f : S → γ) (g : R → γ) : (Rd.out r : Rd S R).el f g = g r := rfl
theorem el_ite {S R γ : Type} {p : Prop} [Decidable p] (x y : Rd S R) (f : S → γ) (g : R → γ) : (if p then x else y).el f g = if p then x.el f g else y.el f g := by split <;> rfl
def runP {α S R : Type} (body : List α → α → S → Rd S R) : List α → List α → S → Rd S R
 | _, [], s => .go s
 | pre, x :: l, s => match body pre x s with | .go s' => runP body (pre ++ [x]) l s' | .out r => .out r
theorem iter_loop {f : List AV → Heap → Option (AX × List AV × Heap)} {v : List AV} {σ : Heap} : ∀ {n m : Nat} {r r' : AX × List AV × Heap}, A.iter f n v σ = some r → A.iter f m v σ = some r' → r = r' := by
 intro n
 induction n generalizing v σ with
 | zero => intro m r r' h; cases h
 | succ n ih =>
  intro m r r' h1 h2
  cases m with
  | zero => cases h2
  | succ m =>
   simp only [A.iter] at h1 h2
   cases hf : f v σ with
   | none => rw [hf] at h1; cases h1
   | some q =>
    rw [hf] at h1 h2
    simp only [Option.bind_some] at h1 h2
    obtain ⟨e, v', σ'⟩ := q
    cases e with
    | normal => exact ih h1 h2
    | exit i => simp only at h1 h2; rw [h1] at h2; injection h2
    | ret => simp only at h1 h2; rw [h1] at h2; injection h2
theorem loop_of_iter {f : List AV → Heap → Option (AX × List AV × Heap)} {v : List AV} {σ : Heap} {n : Nat} {r : AX × List AV × Heap} (h : A.iter f n v σ = some r) : A.loop f v σ = some r := by
 have hex : ∃ n r, A.iter f n v σ = some r := ⟨n, r, h⟩
 unfold A.loop
 rw [dif_pos hex]
 exact congrArg some (iter_loop (Classical.choose_spec (Classical.choose_spec hex)) h)
theorem loop_step {f : List AV → Heap → Option (AX × List AV × Heap)} {v v' : List AV} {σ σ' : Heap} {r : AX × List AV × Heap} (h : f v σ = some (.normal, v', σ')) (k : ∃ n, A.iter f n v' σ' = some r) : ∃ n, A.iter f n v σ = some r := by
 obtain ⟨n, k⟩ := k
 exact ⟨n + 1, by simp [A.iter, h, k]⟩
theorem loop_done {f : List AV → Heap → Option (AX × List AV × Heap)} {v : List AV} {σ : Heap} {r : AX × List AV × Heap} (h : f v σ = some r) (hr : r.1 ≠ .normal) : ∃ n, A.iter f n v σ = some r := by
 obtain ⟨e, v', σ'⟩ := r
 refine ⟨1, ?_⟩
 cases e <;> first | (simp [A.iter, h]; done) | exact absurd rfl hr
theorem loop_pre {α S R γ : Type} {f : List AV → Heap → Option (AX × List AV × Heap)} (l : List α) (body : List α → α → S → Rd S R) (st : List α → S → List AV) (hp : List α → S → Heap)
  (fin : S → AX × List AV × Heap) (out : List α → S → R → AX × List AV × Heap) (P : List α → S → Prop) (s0 : S) {k : AX × List AV × Heap → Option γ} (K1 : S → Option γ) (K2 : R → Option γ)
  (hstep : ∀ pre x rest s, l = pre ++ x :: rest → P pre s → f (st pre s) (hp pre s) = some ((body pre x s).el (fun s' => (.normal, st (pre ++ [x]) s', hp (pre ++ [x]) s')) (fun r => out pre s r)))
  (hend : ∀ s, P l s → f (st l s) (hp l s) = some (fin s)) (h0 : P [] s0)
  (hP : ∀ pre x rest s s', l = pre ++ x :: rest → P pre s → body pre x s = .go s' → P (pre ++ [x]) s')
  (hk1 : ∀ s, P l s → k (fin s) = K1 s) (hk2 : ∀ pre x rest s r, l = pre ++ x :: rest → P pre s → body pre x s = .out r → k (out pre s r) = K2 r)
  (hfin : ∀ s, (fin s).1 ≠ .normal := by intros; simp) (hout : ∀ pre s r, (out pre s r).1 ≠ .normal := by intros; simp) {v : List AV} {σ : Heap} (hv : v = st [] s0 := by rfl) (hσ : σ = hp [] s0 := by rfl) :
  (A.loop f v σ).bind k = (runP body [] l s0).el K1 K2 := by
 have key : ∀ (rest pre : List α) (s : S), l = pre ++ rest → P pre s → ∃ q, (∃ n, A.iter f n (st pre s) (hp pre s) = some q) ∧ k q = (runP body pre rest s).el K1 K2 := by
  intro rest
  induction rest with
  | nil =>
   intro pre s hl hp'
   rw [List.append_nil] at hl
   subst hl
   exact ⟨fin s, loop_done (hend s hp') (hfin s), by rw [runP, el_go, hk1 s hp']⟩
  | cons x rest ih =>
   intro pre s hl hp'
   have h := hstep pre x rest s hl hp'
   rw [runP]
   cases hb : body pre x s with
   | go s' =>
    rw [hb] at h
    obtain ⟨q, h1, h2⟩ := ih (pre ++ [x]) s' (by simpa using hl) (hP pre x rest s s' hl hp' hb)
    exact ⟨q, loop_step h h1, h2⟩
   | out r =>
    rw [hb] at h
    exact ⟨out pre s r, loop_done h (hout pre s r), by rw [el_out, hk2 pre x rest s r hl hp' hb]⟩
 obtain ⟨q, ⟨n, h1⟩, h2⟩ := key l [] s0 rfl h0
 rw [hv, hσ, loop_of_iter h1, Option.bind_some, h2]
theorem pre_get {α : Type} {l pre rest : List α} {x : α} (h : l = pre ++ x :: rest) : l[pre.length]? = some x := by rw [h]; simp
theorem pre_lt {α : Type} {l pre rest : List α} {x : α} (h : l = pre ++ x :: rest) : pre.length < l.length := by rw [h]; simp
theorem all_loop {γ : Type} {p : UInt8 → Bool} {f : List AV → Heap → Option (AX × List AV × Heap)} (s : ByteArray) {σ : Heap} {k : AX × List AV × Heap → Option γ} (K2 : Option γ)
  (hstep : ∀ (i : Nat) (c : UInt8), i < s.size → A.sidx (.str s) (.int .i64 (i : Int)) = some (.int .u8 c.toNat) → f [.bool false, .int .i64 (i : Int)] σ = if p c = true then some (.normal, [.bool false, .int .i64 ((i : Int) + 1)], σ) else some (.ret, [.bool false, .int .i64 (i : Int)], σ))
  (hend : f [.bool false, .int .i64 (s.size : Int)] σ = some (.exit 0, [.bool false, .int .i64 (s.size : Int)], σ)) (hk2 : ∀ i : Int, k (.ret, [.bool false, .int .i64 i], σ) = K2) :
  (A.loop f [.bool false, .int .i64 0] σ).bind k = if s.data.toList.all p = true then k (.exit 0, [.bool false, .int .i64 (s.size : Int)], σ) else K2 := by
 have hsz : s.data.toList.length = s.size := rfl
 refine (loop_pre (S := Unit) (R := Unit) s.data.toList (fun _ c _ => if p c = true then .go () else .out ()) (fun pre _ => [.bool false, .int .i64 (pre.length : Int)]) (fun _ _ => σ) (fun _ => (.exit 0, [.bool false, .int .i64 (s.size : Int)], σ)) (fun pre _ _ => (.ret, [.bool false, .int .i64 (pre.length : Int)], σ)) (fun _ _ => True) ()
  (fun _ => k (.exit 0, [.bool false, .int .i64 (s.size : Int)], σ)) (fun _ => K2) ?_ ?_ trivial (fun _ _ _ _ _ _ _ _ => trivial) (fun _ _ => rfl) (fun _ _ _ _ _ _ _ _ => hk2 _)).trans ?_
 ·intro pre c rest u hl _
  have hlt := pre_lt hl
  have hc := pre_get hl
  rw [hsz] at hlt
  have hsi : A.sidx (.str s) (.int .i64 (pre.length : Int)) = some (.int .u8 c.toNat) := by
   have h2 : s[pre.length] = c := (List.getElem?_eq_some_iff.1 hc).2
   simp [A.sidx, A.idx, hlt, h2]
  rw [hstep pre.length c hlt hsi]
  cases p c <;> simp [Rd.el]
 ·intro u _; rw [hsz]; exact hend
 ·have key : ∀ (l pre : List UInt8), (runP (fun (_ : List UInt8) c (_ : Unit) => if p c = true then (Rd.go () : Rd Unit Unit) else .out ()) pre l ()).el (fun _ => k (.exit 0, [.bool false, .int .i64 (s.size : Int)], σ)) (fun _ => K2) = if l.all p = true then k (.exit 0, [.bool false, .int .i64 (s.size : Int)], σ) else K2 := by
   intro l
   induction l with
   | nil => intro pre; simp [runP, Rd.el]
   | cons c l ih =>
    intro pre
    rw [runP]
    cases hc : p c
    ·simp [hc, Rd.el]
    ·simp only [if_true]
     rw [ih]
     simp [hc]
  exact key s.data.toList []
section
variable {α : Type} (g : α → ByteArray) (gi : α → Int) (v : α → AV)
theorem find_z (k : ByteArray) : ∀ (l : List α), A.find .z (.str k) (l.map fun x => (AV.str (g x), v x)) = some ((l.find? fun x => decide (k = g x)).map v)
 | [] => rfl
 | x :: l => by
  simp only [List.map_cons, A.find, A.eqK, A.eqZ, Option.bind_some, List.find?]
  by_cases h : k = g x
  ·rw [bq]; simp [h]
  ·rw [bq]; simp [h, find_z k l]
theorem find_i (kk : IntKind) (k : Int) : ∀ (l : List α), A.find .i (.int kk k) (l.map fun x => (AV.int kk (gi x), v x)) = some ((l.find? fun x => decide (k = gi x)).map v)
 | [] => rfl
 | x :: l => by
  simp only [List.map_cons, A.find, A.eqK, A.eqI, if_true, Option.bind_some, List.find?]
  by_cases h : k = gi x
  ·have : (k == gi x) = true := by simpa using h
   simp [this, h]
  ·have : (k == gi x) = false := by simpa using h
   simp [this, h, find_i kk k l]
theorem upd_z {k : ByteArray} {w : AV} : ∀ {l : List α}, (∀ x ∈ l, g x ≠ k) → A.upd .z (.str k) w (l.map fun x => (AV.str (g x), v x)) = some ((l.map fun x => (AV.str (g x), v x)) ++ [(.str k, w)])
 | [], _ => rfl
 | x :: l, h => by
  have h1 : (k == g x) = false := by rw [bq]; exact decide_eq_false fun e : k = g x => h x (by simp) e.symm
  simp only [List.map_cons, A.upd, A.eqK, A.eqZ, Option.bind_some, h1, cond_false]
  rw [upd_z (fun y hy => h y (by simp [hy]))]
  rfl
theorem upd_i {kk : IntKind} {k : Int} {w : AV} : ∀ {l : List α}, (∀ x ∈ l, gi x ≠ k) → A.upd .i (.int kk k) w (l.map fun x => (AV.int kk (gi x), v x)) = some ((l.map fun x => (AV.int kk (gi x), v x)) ++ [(.int kk k, w)])
 | [], _ => rfl
 | x :: l, h => by
  have h1 : (k == gi x) = false := by simpa using fun e : k = gi x => h x (by simp) e.symm
  simp only [List.map_cons, A.upd, A.eqK, A.eqI, if_true, Option.bind_some, h1, cond_false]
  rw [upd_i (fun y hy => h y (by simp [hy]))]
  rfl
end
theorem look_at (e : A.EK) {k z : AV} {σ : Heap} {id : Nat} {es : List (AV × AV)} (hk : A.keyOk e k = true) (h : σ[id]? = some (.map es)) : A.look e (.om id) k z σ = (A.find e k es).map fun r => r.getD z := by
 simp [A.look, hk, A.entries, h]
theorem mupd_at (e : A.EK) {k w : AV} {σ : Heap} {id : Nat} {es : List (AV × AV)} (hk : A.keyOk e k = true) (h : σ[id]? = some (.map es)) : A.mupd e (.om id) k w σ = (A.upd e k w es).map fun es => σ.set id (.map es) := by
 simp [A.mupd, hk, h]
theorem len_snoc {α : Type} (l : List α) (x : α) : (((l ++ [x]).length : Nat) : Int) = (l.length : Int) + 1 := by simp
theorem iaddr_pred {α : Type} (sz : Nat) (c : α → List AV) (l : List α) {k : Nat} {x : α} (h0 : 0 < k) (h : l[k - 1]? = some x) : A.iaddr sz (sl sz c l) (.int .i64 ((k : Int) - 1)) = some (.rp (c x)) := by
 have := iaddr_sl sz c l h
 rwa [show ((k - 1 : Nat) : Int) = (k : Int) - 1 by omega] at this
def setZ {α : Type} (g : α → ByteArray) (l : List α) : List (AV × AV) := l.map fun x => (AV.str (g x), AV.bool true)
def setI {α : Type} (g : α → Int) (l : List α) : List (AV × AV) := l.map fun x => (AV.int .i64 (g x), AV.bool true)
theorem any_find {α : Type} (p : α → Bool) : ∀ (l : List α), ((l.find? p).map fun _ => AV.bool true).getD (AV.bool false) = AV.bool (l.any p)
 | [] => rfl
 | x :: l => by
  simp only [List.find?, List.any_cons]
  cases h : p x
  ·simpa using any_find p l
  ·rfl
theorem setZ_find {α : Type} (g : α → ByteArray) (k : ByteArray) (l : List α) : (A.find .z (.str k) (setZ g l)).map (fun r => r.getD (.bool false)) = some (.bool (memB k (l.map g))) := by
 unfold setZ
 rw [find_z g (fun _ => AV.bool true) k l, Option.map_some, any_find]
 refine congrArg some (congrArg AV.bool ?_)
 rw [Bool.eq_iff_iff, memB_iff]
 simp only [List.any_eq_true, decide_eq_true_eq, List.mem_map]
 exact ⟨fun ⟨x, h, e⟩ => ⟨x, h, e.symm⟩, fun ⟨x, h, e⟩ => ⟨x, h, e.symm⟩⟩
theorem setI_find {α : Type} (g : α → Int) (k : Int) (l : List α) : (A.find .i (.int .i64 k) (setI g l)).map (fun r => r.getD (.bool false)) = some (.bool (memB k (l.map g))) := by
 unfold setI
 rw [find_i g (fun _ => AV.bool true) .i64 k l, Option.map_some, any_find]
 refine congrArg some (congrArg AV.bool ?_)
 rw [Bool.eq_iff_iff, memB_iff]
 simp only [List.any_eq_true, decide_eq_true_eq, List.mem_map]
 exact ⟨fun ⟨x, h, e⟩ => ⟨x, h, e.symm⟩, fun ⟨x, h, e⟩ => ⟨x, h, e.symm⟩⟩
section
variable {α : Type} (g : α → ByteArray) (gi : α → Int) (l : List α) (k : ByteArray) (n : Int) (σ bs : Heap) (b0 : Blk)
theorem setZ_look0 : A.look .z (.om σ.length) (.str k) (.bool false) (σ ++ Blk.map (setZ g l) :: bs) = some (.bool (memB k (l.map g))) := by
 rw [look_at .z rfl (by rw [hat0]; rfl), setZ_find]
theorem setI_look0 : A.look .i (.om σ.length) (.int .i64 n) (.bool false) (σ ++ Blk.map (setI gi l) :: bs) = some (.bool (memB n (l.map gi))) := by
 rw [look_at .i rfl (by rw [hat0]; rfl), setI_find]
theorem setZ_look1 : A.look .z (.om (σ.length + 1)) (.str k) (.bool false) (σ ++ b0 :: Blk.map (setZ g l) :: bs) = some (.bool (memB k (l.map g))) := by
 rw [look_at .z rfl (by rw [hat]; rfl), setZ_find]
theorem setI_look1 : A.look .i (.om (σ.length + 1)) (.int .i64 n) (.bool false) (σ ++ b0 :: Blk.map (setI gi l) :: bs) = some (.bool (memB n (l.map gi))) := by
 rw [look_at .i rfl (by rw [hat]; rfl), setI_find]
theorem setZ_upd0 (h : memB k (l.map g) = false) : A.mupd .z (.om σ.length) (.str k) (.bool true) (σ ++ Blk.map (setZ g l) :: bs) = some (σ ++ Blk.map (setZ g l ++ [(.str k, .bool true)]) :: bs) := by
 rw [mupd_at .z rfl (by rw [hat0]; rfl), setZ, upd_z g _ (fun x hx e => memB_false.1 h (by rw [← e]; exact List.mem_map_of_mem hx)), Option.map_some, hset0]; rfl
theorem setI_upd0 (h : memB n (l.map gi) = false) : A.mupd .i (.om σ.length) (.int .i64 n) (.bool true) (σ ++ Blk.map (setI gi l) :: bs) = some (σ ++ Blk.map (setI gi l ++ [(.int .i64 n, .bool true)]) :: bs) := by
 rw [mupd_at .i rfl (by rw [hat0]; rfl), setI, upd_i gi _ (fun x hx e => memB_false.1 h (by rw [← e]; exact List.mem_map_of_mem hx)), Option.map_some, hset0]; rfl
theorem setZ_upd1 (h : memB k (l.map g) = false) : A.mupd .z (.om (σ.length + 1)) (.str k) (.bool true) (σ ++ b0 :: Blk.map (setZ g l) :: bs) = some (σ ++ b0 :: Blk.map (setZ g l ++ [(.str k, .bool true)]) :: bs) := by
 rw [mupd_at .z rfl (by rw [hat]; rfl), setZ, upd_z g _ (fun x hx e => memB_false.1 h (by rw [← e]; exact List.mem_map_of_mem hx)), Option.map_some, hset]; rfl
theorem setI_upd1 (h : memB n (l.map gi) = false) : A.mupd .i (.om (σ.length + 1)) (.int .i64 n) (.bool true) (σ ++ b0 :: Blk.map (setI gi l) :: bs) = some (σ ++ b0 :: Blk.map (setI gi l ++ [(.int .i64 n, .bool true)]) :: bs) := by
 rw [mupd_at .i rfl (by rw [hat]; rfl), setI, upd_i gi _ (fun x hx e => memB_false.1 h (by rw [← e]; exact List.mem_map_of_mem hx)), Option.map_some, hset]; rfl
end
theorem setZ_snoc {α : Type} (g : α → ByteArray) (l : List α) (x : α) : setZ g (l ++ [x]) = setZ g l ++ [(.str (g x), .bool true)] := by simp [setZ]
theorem quiet_same (σ : Heap) (v : AV) : A.quiet (some (v, σ)) σ = some v := by simp [A.quiet]
def Fz (a : AV) : Prop := ∀ σ n d, A.frz σ n d a = some a
def FzL (l : List AV) : Prop := ∀ σ n d, A.frzL σ n d l = some l
theorem fz_int (k : IntKind) (n : Int) : Fz (.int k n) := fun _ _ d => by cases d <;> simp [A.frz]
theorem fz_bool (b : Bool) : Fz (.bool b) := fun _ _ d => by cases d <;> simp [A.frz]
theorem fz_str (s : ByteArray) : Fz (.str s) := fun _ _ d => by cases d <;> simp [A.frz]
theorem fz_agg {l : List AV} (h : FzL l) : Fz (.agg l) := fun σ n d => by cases d <;> simp [A.frz, h σ n]
theorem fzL_nil : FzL [] := fun _ _ _ => by simp [A.frzL]
theorem fzL_cons {a : AV} {l : List AV} (h : Fz a) (k : FzL l) : FzL (a :: l) := fun σ n d => by simp [A.frzL, h σ n d, k σ n d]
theorem fz_sl {α : Type} {sz : Nat} {c : α → List AV} (h : ∀ x, FzL (c x)) (l : List α) : Fz (sl sz c l) := by
 intro σ n d
 have : A.frzLL σ n d (l.map c) = some (l.map c) := by
  induction l with
  | nil => simp [A.frzLL]
  | cons x l ih => simp [A.frzLL, h x σ n d, ih]
 cases d <;> simp [sl, A.frz, this]
theorem fzLL {α : Type} {c : α → List AV} (h : ∀ x, FzL (c x)) (l : List α) (σ : Heap) (n d : Nat) : A.frzLL σ n d (l.map c) = some (l.map c) := by
 induction l with
 | nil => simp [A.frzLL]
 | cons x l ih => simp [A.frzLL, h x σ n d, ih]
def idxI {α : Type} (p : α → Bool) (l : List α) : Int := match l.findIdx? p with | some i => i | none => -1
theorem idxI_cases {α : Type} (p : α → Bool) (l : List α) : (idxI p l = -1 ∧ (∀ x ∈ l, p x = false) ∧ l.find? p = none) ∨ ∃ (k : Nat) (x : α), l[k]? = some x ∧ p x = true ∧ idxI p l = k ∧ l.find? p = some x ∧ ∀ (j : Nat) (y : α), j < k → l[j]? = some y → p y = false := by
 induction l with
 | nil => left; exact ⟨rfl, by simp, rfl⟩
 | cons x l ih =>
  cases h : p x
  ·rcases ih with ⟨h1, h2, h3⟩ | ⟨k, y, h1, h2, h3, h4, h5⟩
   ·left
    refine ⟨?_, ?_, ?_⟩
    ·unfold idxI at h1 ⊢
     rw [List.findIdx?_cons, h]
     cases hf : l.findIdx? p with
     | none => simp
     | some i => rw [hf] at h1; simp at h1
    ·intro y hy
     rcases List.mem_cons.1 hy with rfl | hy
     ·exact h
     ·exact h2 y hy
    ·simp [List.find?, h, h3]
   ·right
    refine ⟨k + 1, y, by simpa using h1, h2, ?_, by simp [List.find?, h, h4], ?_⟩
    ·unfold idxI at h3 ⊢
     rw [List.findIdx?_cons, h]
     cases hf : l.findIdx? p with
     | none => rw [hf] at h3; simp at h3
     | some i => rw [hf] at h3; simp at h3 ⊢; omega
    ·intro j z hj hz
     cases j with
     | zero => simp at hz; subst hz; exact h
     | succ j => exact h5 j z (by omega) (by simpa using hz)
  ·right
   refine ⟨0, x, rfl, h, ?_, by simp [List.find?, h], by intro j y hj; omega⟩
   unfold idxI
   rw [List.findIdx?_cons, h]; rfl
theorem idxI_run {α : Type} {γ : Type} (p : α → Bool) (K1 : Option γ) (K2 : Int → Option γ) : ∀ (l pre : List α), (∀ x ∈ pre, p x = false) → (runP (fun pre x (_ : Unit) => if p x = true then (Rd.out (pre.length : Int) : Rd Unit Int) else .go ()) pre l ()).el (fun _ => K1) K2 = if idxI p (pre ++ l) = -1 then K1 else K2 (idxI p (pre ++ l))
 | [], pre, h => by
  have : idxI p (pre ++ []) = -1 := by
   rcases idxI_cases p (pre ++ []) with h1 | ⟨k, x, h1, h2, _⟩
   ·exact h1.1
   ·have := h x (by have := List.mem_of_getElem? h1; simpa using this)
    rw [h2] at this; cases this
  rw [runP, el_go, if_pos this]
 | x :: l, pre, h => by
  rw [runP]
  cases hx : p x
  ·simp only [Bool.false_eq_true, if_false]
   have := idxI_run p K1 K2 l (pre ++ [x]) (fun y hy => by
    rcases List.mem_append.1 hy with hy | hy
    ·exact h y hy
    ·simp at hy; subst hy; exact hx)
   simpa using this
  ·simp only [if_true, el_out]
   have : idxI p (pre ++ x :: l) = pre.length := by
    rcases idxI_cases p (pre ++ x :: l) with h1 | ⟨k, y, h1, h2, h3, _, h5⟩
    ·have := h1.2.1 x (by simp); rw [hx] at this; cases this
    ·rw [h3]
     rcases Nat.lt_trichotomy k pre.length with hk | hk | hk
     ·rw [List.getElem?_append_left hk] at h1
      have := h y (List.mem_of_getElem? h1); rw [h2] at this; cases this
     ·omega
     ·have := h5 pre.length x hk (by simp); rw [hx] at this; cases this
   rw [this, if_neg (by omega)]
theorem runP_any {α R γ : Type} (p : α → Bool) (r : R) (K1 : Unit → γ) (K2 : R → γ) : ∀ (l pre : List α), (runP (fun _ x (_ : Unit) => if p x = true then (Rd.out r : Rd Unit R) else .go ()) pre l ()).el K1 K2 = if l.any p = true then K2 r else K1 ()
 | [], pre => by simp [runP, Rd.el]
 | x :: l, pre => by
  rw [runP]
  cases h : p x
  ·simp only [Bool.false_eq_true, if_false]
   rw [runP_any p r K1 K2 l (pre ++ [x])]
   simp [h]
  ·simp [h, Rd.el]
theorem sliceS_take {α : Type} (sz : Nat) (c : α → List AV) (l : List α) {k : Nat} (h : k ≤ l.length) {σ : Heap} : A.sliceS sz (sl sz c l) none (some (.int .i64 (k : Int))) σ = some (sl sz c (l.take k)) := by
 simp [A.sliceS, sl, A.bound, h, List.map_take]
theorem nn_e {α : Type} {sz : Nat} {c : α → List AV} {sh : List Sh} (h : ∀ x, A.nnL sh (c x) = c x) (l : List α) : A.nn (.e sz sh) (sl sz c l) = sl sz c l := by
 simp only [sl, A.nn, List.map_map]
 congr 1
 exact List.map_congr_left fun x _ => h x
theorem loop_any {α γ : Type} {f : List AV → Heap → Option (AX × List AV × Heap)} (l : List α) (p : α → Bool) (vs : Nat → List AV) (σ : Heap) (fin : AX × List AV × Heap) (ret : Nat → AX × List AV × Heap) {k : AX × List AV × Heap → Option γ} (K1 K2 : Option γ)
  (hstep : ∀ (i : Nat) (x : α), l[i]? = some x → f (vs i) σ = if p x = true then some (ret i) else some (.normal, vs (i + 1), σ)) (hend : f (vs l.length) σ = some fin) (hk1 : k fin = K1) (hk2 : ∀ i, k (ret i) = K2)
  (hfin : fin.1 ≠ .normal := by simp) (hret : ∀ i, (ret i).1 ≠ .normal := by intros; simp) {v : List AV} {σ' : Heap} (hv : v = vs 0 := by rfl) (hσ : σ' = σ := by rfl) :
  (A.loop f v σ').bind k = if l.any p = true then K2 else K1 := by
 subst hv hσ
 refine (loop_pre (S := Unit) (R := Unit) l (fun _ x _ => if p x = true then .out () else .go ()) (fun pre _ => vs pre.length) (fun _ _ => σ') (fun _ => fin) (fun pre _ _ => ret pre.length) (fun _ _ => True) () (fun _ => K1) (fun _ => K2)
  ?_ (fun _ _ => hend) trivial (fun _ _ _ _ _ _ _ _ => trivial) (fun _ _ => hk1) (fun _ _ _ _ _ _ _ _ => hk2 _) (fun _ => hfin) (fun _ _ _ => hret _)).trans (runP_any p () _ _ l [])
 intro pre x rest u hl _
 rw [hstep pre.length x (pre_get hl)]
 cases p x <;> simp [Rd.el]
theorem iaddr_at {α : Type} (sz : Nat) (c : α → List AV) {l : List α} {k : Nat} {x : α} (h : l[k]? = some x) : A.iaddr sz (sl sz c l) (.int .i64 (k : Int)) = some (.rp (c x)) ∧ (k : Int) < (l.length : Int) ∧ (l.length ≤ mxl → IntKind.i64.wrap ((k : Int) + 1) = (k : Int) + 1) :=
 ⟨iaddr_sl sz c l h, by have := (List.getElem?_eq_some_iff.1 h).1; omega, fun hl => wrap64 (by have := (List.getElem?_eq_some_iff.1 h).1; unfold inI; unfold mxl at hl; omega)⟩
theorem hend_lss {α : Type} (n : Int) (B : AV → Option α) (s : Option α) : ((A.lss (.int .i64 n) (.int .i64 n)).bind fun x => A.cond x (B x) s) = s := by
 simp only [aLss, Int.lt_irrefl, Option.bind_some, decide_false, cF]
section
variable {α β : Type}
theorem cond_lazy {c c' : AV} (h : c = c') (t e : Option α) : A.cond c t e = A.cond c' t e := by rw [h]
theorem guard_lazy {c c' : AV} (h : c = c') (w : Bool) (e d : Option α) : A.guard c w e d = A.guard c' w e d := by rw [h]
theorem bind_lazy {x y : Option α} (h : x = y) (f : α → Option β) : x.bind f = y.bind f := by rw [h]
attribute [congr] cond_lazy guard_lazy bind_lazy
end
theorem MSb : type_of% @Option.bind_some.{0,0} ∧ type_of% @Option.map_some.{0,0} ∧ type_of% @cT ∧ type_of% @cF ∧ type_of% @gTT ∧ type_of% @gTF ∧ type_of% @gFT ∧ type_of% @gFF ∧ type_of% @gN ∧ type_of% @pT ∧ type_of% @pF ∧ type_of% @cond_true.{1} ∧ type_of% @cond_false.{1} ∧ type_of% @xN ∧ type_of% @aAdd ∧ type_of% @aSub ∧ type_of% @aMul ∧ type_of% @aLss ∧ type_of% @aLeq ∧ type_of% @aGtr ∧ type_of% @aGeq ∧ type_of% @aLss8 ∧ type_of% @aLeq8 ∧ type_of% @aGtr8 ∧ type_of% @aGeq8 ∧ type_of% @aEq ∧ type_of% @aNe ∧ type_of% @aEqZ ∧ type_of% @aNeZ ∧ type_of% @aNot ∧ type_of% @aNotD ∧ type_of% @aLb ∧ type_of% @aExt0 ∧ type_of% @aExt1 ∧ type_of% @aExt2 ∧ type_of% @aExt3 ∧ type_of% @aDe ∧ type_of% @aFa ∧ type_of% @aLenZ ∧ type_of% @aCI ∧ type_of% @aCB ∧ type_of% @aCS ∧ type_of% @aCSl ∧ type_of% @p1D ∧ type_of% @gd0 ∧ type_of% @gd1 ∧ type_of% @gd2 ∧ type_of% @gd3 ∧ type_of% @gd4 ∧ type_of% @gd5 ∧ type_of% @gd6 ∧ type_of% @gd7 ∧ type_of% @gd8 ∧ type_of% @fin_same ∧ type_of% @fin_int ∧ type_of% @fin_bool ∧ type_of% @fin_str ∧ type_of% @fin_unit ∧ type_of% @lenS_sl ∧ type_of% @ite_true.{1} ∧ type_of% @ite_false.{1} ∧ type_of% @if_true.{1} ∧ type_of% @if_false.{1} ∧ type_of% @Bool.false_eq_true ∧ type_of% @not_true_eq_false ∧ type_of% @not_false_eq_true ∧ type_of% @decide_true ∧ type_of% @decide_false ∧ type_of% @Bool.not_true ∧ type_of% @Bool.not_false ∧ type_of% @List.append_assoc.{0} ∧ type_of% @List.cons_append.{0} ∧ type_of% @List.nil_append.{0} ∧ type_of% @List.drop_zero.{0} ∧ type_of% @p1_cInt ∧ type_of% @p1_cStr ∧ type_of% @len_snoc ∧ type_of% @Int.natCast_add ∧ type_of% @Int.cast_ofNat_Int ∧ type_of% @quiet_same ∧ type_of% @el_go ∧ type_of% @el_out ∧ type_of% @el_ite ∧ type_of% @setZ_look0 ∧ type_of% @setI_look0 ∧ type_of% @setZ_look1 ∧ type_of% @setI_look1 ∧ type_of% @setZ_snoc ∧ type_of% @setZ_upd0 ∧ type_of% @setI_upd0 ∧ type_of% @setZ_upd1 ∧ type_of% @setI_upd1 ∧ type_of% @true_and ∧ type_of% @and_true ∧ type_of% @false_and ∧ type_of% @and_false ∧ type_of% @true_or ∧ type_of% @or_true ∧ type_of% @false_or ∧ type_of% @or_false ∧ type_of% @Option.getD_some.{0} ∧ type_of% @Option.getD_none.{0} ∧ type_of% @List.length_append.{0} ∧ type_of% @List.length_cons.{0} ∧ type_of% @List.length_nil.{0} ∧ type_of% @Nat.zero_add ∧ type_of% @Nat.add_zero :=
 ⟨@Option.bind_some.{0,0}, @Option.map_some.{0,0}, @cT, @cF, @gTT, @gTF, @gFT, @gFF, @gN, @pT, @pF, @cond_true.{1}, @cond_false.{1}, @xN, @aAdd, @aSub, @aMul, @aLss, @aLeq, @aGtr, @aGeq, @aLss8, @aLeq8, @aGtr8, @aGeq8, @aEq, @aNe, @aEqZ, @aNeZ, @aNot, @aNotD, @aLb, @aExt0, @aExt1, @aExt2, @aExt3, @aDe, @aFa, @aLenZ, @aCI, @aCB, @aCS, @aCSl, @p1D, @gd0, @gd1, @gd2, @gd3, @gd4, @gd5, @gd6, @gd7, @gd8, @fin_same, @fin_int, @fin_bool, @fin_str, @fin_unit, @lenS_sl, @ite_true.{1}, @ite_false.{1}, @if_true.{1}, @if_false.{1}, @Bool.false_eq_true, @not_true_eq_false, @not_false_eq_true, @decide_true, @decide_false, @Bool.not_true, @Bool.not_false, @List.append_assoc.{0}, @List.cons_append.{0}, @List.nil_append.{0}, @List.drop_zero.{0}, @p1_cInt, @p1_cStr, @len_snoc, @Int.natCast_add, @Int.cast_ofNat_Int, @quiet_same, @el_go, @el_out, @el_ite, @setZ_look0, @setI_look0, @setZ_look1, @setI_look1, @setZ_snoc, @setZ_upd0, @setI_upd0, @setZ_upd1, @setI_upd1, @true_and, @and_true, @false_and, @and_false, @true_or, @or_true, @false_or, @or_false, @Option.getD_some.{0}, @Option.getD_none.{0}, @List.length_append.{0}, @List.length_cons.{0}, @List.length_nil.{0}, @Nat.zero_add, @Nat.add_zero⟩
end Go.Proofs.Ytphgchakmkankaa

namespace Go.Proofs.Ytphgchakmkankaa
set_option linter.unusedSectionVars false
set_option linter.unusedSimpArgs false
set_option linter.unusedVariables false
theorem fz_cPoint (x : PointD) : FzL (cPoint x) := (fzL_cons (fz_int _ _) (fzL_cons (fz_int _ _) fzL_nil))
theorem fz_cKey (x : KeyD) : FzL (cKey x) := (fzL_cons (fz_int _ _) (fzL_cons (fz_str _) fzL_nil))
theorem fz_cMove (x : MoveD) : FzL (cMove x) := (fzL_cons (fz_int _ _) (fzL_cons (fz_str _) (fzL_cons (fz_int _ _) (fzL_cons (fz_int _ _) (fzL_cons (fz_bool _) (fzL_cons (fz_bool _) (fzL_cons (fz_int _ _) (fzL_cons (fz_int _ _) fzL_nil))))))))
theorem fz_cCue (x : CueD) : FzL (cCue x) := (fzL_cons (fz_int _ _) (fzL_cons (fz_str _) (fzL_cons (fz_int _ _) (fzL_cons (fz_int _ _) (fzL_cons (fz_int _ _) (fzL_cons (fz_int _ _) (fzL_cons (fz_int _ _) (fzL_cons (fz_sl fz_cPoint _) (fzL_cons (fz_bool _) (fzL_cons (fz_int _ _) (fzL_cons (fz_sl fz_cMove _) fzL_nil)))))))))))
theorem fz_cEntry (x : EntryD) : FzL (cEntry x) := (fzL_cons (fz_int _ _) (fzL_cons (fz_str _) (fzL_cons (fz_int _ _) (fzL_cons (fz_int _ _) (fzL_cons (fz_int _ _) fzL_nil)))))
end Go.Proofs.Ytphgchakmkankaa

namespace Go.Proofs.Ytphgchakmkankaa
set_option linter.unusedSectionVars false
set_option linter.unusedVariables false
set_option linter.unusedSimpArgs false
instance : Inhabited ByteArray := ⟨⟨#[]⟩⟩
instance : Inhabited PointD := ⟨⟨0, 0⟩⟩
theorem eqk_Point (a b : PointD) : A.eqK (.s [0, 0]) (.agg (cPoint a)) (.agg (cPoint b)) = some (decide (a = b)) := by
 obtain ⟨x1, x2⟩ := a
 obtain ⟨x101, x102⟩ := b
 simp only [A.eqK, cPoint, A.eqAll, A.eqC, A.eqI, A.eqB, A.eqZ, if_true, Option.bind_some, Option.map_some, bq]
 congr 1
 rw [Bool.eq_iff_iff]
 simp [and_assoc]
theorem ne_Point (a b : PointD) : A.neq (.s [0, 0]) (.agg (cPoint a)) (.agg (cPoint b)) = some (.bool (decide (¬ (a = b)))) := by rw [A.neq, eqk_Point, Option.map_some, decide_not]
instance : Inhabited CurveD := ⟨⟨0, []⟩⟩
instance : Inhabited FadeD := ⟨⟨0, 0, 0, 0, 0, ⟨0, []⟩⟩⟩
instance : Inhabited ChangeD := ⟨⟨0, 0⟩⟩
instance : Inhabited RangeD := ⟨⟨0, 0, ⟨#[]⟩⟩⟩
instance : Inhabited ParamD := ⟨⟨⟨#[]⟩, 0, 0, 0, 0, false, []⟩⟩
instance : Inhabited ProfileD := ⟨⟨⟨#[]⟩, 0, []⟩⟩
instance : Inhabited UnitD := ⟨⟨0, ⟨#[]⟩, 0, 0⟩⟩
instance : Inhabited RigD := ⟨⟨[], []⟩⟩
instance : Inhabited KeyD := ⟨⟨0, ⟨#[]⟩⟩⟩
theorem eqk_Key (a b : KeyD) : A.eqK (.s [0, 2]) (.agg (cKey a)) (.agg (cKey b)) = some (decide (a = b)) := by
 obtain ⟨x1, x2⟩ := a
 obtain ⟨x101, x102⟩ := b
 simp only [A.eqK, cKey, A.eqAll, A.eqC, A.eqI, A.eqB, A.eqZ, if_true, Option.bind_some, Option.map_some, bq]
 congr 1
 rw [Bool.eq_iff_iff]
 simp [and_assoc]
theorem eq_Key (a b : KeyD) : A.eql (.s [0, 2]) (.agg (cKey a)) (.agg (cKey b)) = some (.bool (decide (a = b))) := by rw [A.eql, eqk_Key]; rfl
instance : Inhabited SettingD := ⟨⟨⟨0, ⟨#[]⟩⟩, 0⟩⟩
instance : Inhabited PresetD := ⟨⟨0, ⟨#[]⟩, []⟩⟩
instance : Inhabited FanD := ⟨⟨[], 0, 0⟩⟩
instance : Inhabited ValueD := ⟨⟨0, 0⟩⟩
theorem eqk_Value (a b : ValueD) : A.eqK (.s [0, 0]) (.agg (cValue a)) (.agg (cValue b)) = some (decide (a = b)) := by
 obtain ⟨x1, x2⟩ := a
 obtain ⟨x101, x102⟩ := b
 simp only [A.eqK, cValue, A.eqAll, A.eqC, A.eqI, A.eqB, A.eqZ, if_true, Option.bind_some, Option.map_some, bq]
 congr 1
 rw [Bool.eq_iff_iff]
 simp [and_assoc]
theorem eq_Value (a b : ValueD) : A.eql (.s [0, 0]) (.agg (cValue a)) (.agg (cValue b)) = some (.bool (decide (a = b))) := by rw [A.eql, eqk_Value]; rfl
theorem ne_Value (a b : ValueD) : A.neq (.s [0, 0]) (.agg (cValue a)) (.agg (cValue b)) = some (.bool (decide (¬ (a = b)))) := by rw [A.neq, eqk_Value, Option.map_some, decide_not]
instance : Inhabited MoveD := ⟨⟨⟨0, ⟨#[]⟩⟩, ⟨0, 0⟩, false, false, 0, 0⟩⟩
theorem eqk_Move (a b : MoveD) : A.eqK (.s [0, 2, 0, 0, 1, 1, 0, 0]) (.agg (cMove a)) (.agg (cMove b)) = some (decide (a = b)) := by
 obtain ⟨⟨x1, x2⟩, ⟨x3, x4⟩, x5, x6, x7, x8⟩ := a
 obtain ⟨⟨x101, x102⟩, ⟨x103, x104⟩, x105, x106, x107, x108⟩ := b
 simp only [A.eqK, cMove, A.eqAll, A.eqC, A.eqI, A.eqB, A.eqZ, if_true, Option.bind_some, Option.map_some, bq]
 congr 1
 rw [Bool.eq_iff_iff]
 simp [and_assoc]
theorem ne_Move (a b : MoveD) : A.neq (.s [0, 2, 0, 0, 1, 1, 0, 0]) (.agg (cMove a)) (.agg (cMove b)) = some (.bool (decide (¬ (a = b)))) := by rw [A.neq, eqk_Move, Option.map_some, decide_not]
instance : Inhabited CueD := ⟨⟨0, ⟨#[]⟩, 0, 0, 0, 0, ⟨0, []⟩, false, 0, []⟩⟩
instance : Inhabited EntryD := ⟨⟨⟨0, ⟨#[]⟩⟩, ⟨0, 0⟩, 0⟩⟩
instance : Inhabited MarkD := ⟨⟨0, 0, 0⟩⟩
instance : Inhabited ListD := ⟨⟨0, []⟩⟩
instance : Inhabited PlaybackD := ⟨⟨0, 0, 0⟩⟩
instance : Inhabited SetupD := ⟨⟨⟨[], []⟩, [], [], []⟩⟩
instance : Inhabited ActionD := ⟨⟨0, 0, 0, 0, 0⟩⟩
instance : Inhabited EventD := ⟨⟨0, ⟨0, 0, 0, 0, 0⟩⟩⟩
instance : Inhabited StampD := ⟨⟨0, 0, 0, 0⟩⟩
instance : Inhabited RunD := ⟨⟨⟨0, ⟨#[]⟩⟩, ⟨0, 0, 0, 0, 0, ⟨0, []⟩⟩, 0, false⟩⟩
instance : Inhabited StandingD := ⟨⟨0, 0, 0, false, 0, []⟩⟩
instance : Inhabited EffectStepD := ⟨⟨0, 0, 0⟩⟩
instance : Inhabited EffectD := ⟨⟨0, 0, 0, 0, 0, 0, false, false, []⟩⟩
instance : Inhabited RateD := ⟨⟨0, 0⟩⟩
instance : Inhabited RunningD := ⟨⟨⟨0, 0, 0, 0, 0, 0, false, false, []⟩, [], 0, [], 0, 0, 0⟩⟩
end Go.Proofs.Ytphgchakmkankaa

namespace Go.Proofs.Ytphgchakmkankaa
set_option linter.unusedSectionVars false
set_option linter.unusedVariables false
set_option linter.unusedSimpArgs false
def Rf {β τ : Type} (M : Option β) (T : Option τ) (Q : τ → β → Prop) : Prop := ∀ t, T = some t → ∃ b, M = some b ∧ Q t b
section
variable {α β ω τ ζ : Type}
theorem rf_s {M0 : Option α} {K : α → Option β} {T : Option τ} {Q : τ → β → Prop} (a : α) (h : M0 = some a) (k : Rf (K a) T Q) : Rf (M0.bind K) T Q := by
 intro t ht; obtain ⟨b, h1, h2⟩ := k t ht; exact ⟨b, by rw [h]; exact h1, h2⟩
theorem rf_o {M0 : Option α} {K : α → Option β} {o : Option ω} {K' : ω → Option τ} {Q : τ → β → Prop} (e : ω → α) (h : ∀ t, o = some t → M0 = some (e t)) (k : ∀ t, o = some t → Rf (K (e t)) (K' t) Q) : Rf (M0.bind K) (o.bind K') Q := by
 intro t ht
 obtain ⟨x, h1, h2⟩ := Option.bind_eq_some_iff.1 ht
 obtain ⟨b, h3, h4⟩ := k x h1 t h2
 exact ⟨b, by rw [h x h1]; exact h3, h4⟩
theorem rf_b {M0 : Option α} {K : α → Option β} {o : Option ω} {K' : ω → Option τ} {Q : τ → β → Prop} (Q0 : ω → α → Prop) (h : Rf M0 o Q0) (k : ∀ t a, Q0 t a → Rf (K a) (K' t) Q) : Rf (M0.bind K) (o.bind K') Q := by
 intro t ht
 obtain ⟨x, h1, h2⟩ := Option.bind_eq_some_iff.1 ht
 obtain ⟨a, h3, h4⟩ := h x h1
 obtain ⟨b, h5, h6⟩ := k x a h4 t h2
 exact ⟨b, by rw [h3]; exact h5, h6⟩
theorem rf_ret {t : τ} {b : β} {Q : τ → β → Prop} (h : Q t b) : Rf (some b) (some t) Q := by
 intro u hu; cases hu; exact ⟨b, rfl, h⟩
theorem rf_fin {M : Option β} {t : τ} {Q : τ → β → Prop} (b : β) (e : M = some b) (h : Q t b) : Rf M (some t) Q := by
 rw [e]; exact rf_ret h
theorem rf_none {M : Option β} {Q : τ → β → Prop} : Rf M (none : Option τ) Q := by intro u hu; cases hu
theorem rf_tq {M : Option β} {p : Prop} [Decidable p] {T : Option τ} {Q : τ → β → Prop} (h : p → Rf M T Q) : Rf M (if p then T else none) Q := by
 split
 ·exact h ‹_›
 ·exact rf_none
theorem rf_c {p : Prop} [Decidable p] {X Y : Option β} {X' Y' : Option τ} {Q : τ → β → Prop} (h1 : p → Rf X X' Q) (h2 : ¬ p → Rf Y Y' Q) : Rf (A.cond (.bool (decide p)) X Y) (if p then X' else Y') Q := by
 by_cases h : p
 ·simp only [h, decide_true, if_true]; exact h1 h
 ·simp only [h, decide_false, if_false]; exact h2 h
theorem rf_cb {c : Bool} {X Y : Option β} {X' Y' : Option τ} {Q : τ → β → Prop} (h1 : c = true → Rf X X' Q) (h2 : c = false → Rf Y Y' Q) : Rf (A.cond (.bool c) X Y) (if c = true then X' else Y') Q := by
 cases c
 ·exact h2 rfl
 ·exact h1 rfl
theorem rf_ct {X Y : Option β} {T : Option τ} {Q : τ → β → Prop} (h : Rf X T Q) : Rf (A.cond (.bool true) X Y) T Q := h
theorem rf_cf {X Y : Option β} {T : Option τ} {Q : τ → β → Prop} (h : Rf Y T Q) : Rf (A.cond (.bool false) X Y) T Q := h
theorem rf_bt {c : Bool} {X Y : Option β} {T : Option τ} {Q : τ → β → Prop} (e : c = true) (h : Rf X T Q) : Rf (bif c then X else Y) T Q := by rw [e]; exact h
theorem rf_bf {c : Bool} {X Y : Option β} {T : Option τ} {Q : τ → β → Prop} (e : c = false) (h : Rf Y T Q) : Rf (bif c then X else Y) T Q := by rw [e]; exact h
def gv {α : Type} (g : Bool) (e : α → AV) (t : α) : AV := bif g then e t else .tup []
end
inductive Lr (S B R : Type) where
 | go (s : S)
 | brk (b : B)
 | ret (r : R)
def forL {α S B R : Type} (body : Nat → α → S → Option (Lr S B R)) (fin : S → Option B) : List α → Nat → S → Option (B ⊕ R)
 | [], _, s => (fin s).map .inl
 | x :: l, i, s => (body i x s).bind fun q => match q with | .go s' => forL body fin l (i + 1) s' | .brk b => some (.inl b) | .ret r => some (.inr r)
def forE {α S B R γ : Type} (l : List α) (body : Nat → α → S → Option (Lr S B R)) (fin : S → Option B) (s : S) (K1 : B → Option γ) (K2 : R → Option γ) : Option γ :=
 if l.length ≤ mxl then (forL body fin l 0 s).bind fun q => q.elim K1 K2 else none
def itL {S B R : Type} (body : S → Option (Lr S B R)) : Nat → S → Option (B ⊕ R)
 | 0, _ => none
 | n + 1, s => (body s).bind fun q => match q with | .go s' => itL body n s' | .brk b => some (.inl b) | .ret r => some (.inr r)
noncomputable def whL {S B R : Type} (body : S → Option (Lr S B R)) (s : S) : Option (B ⊕ R) := open Classical in if h : ∃ n r, itL body n s = some r then some (Classical.choose (Classical.choose_spec h)) else none
noncomputable def whE {S B R γ : Type} (body : S → Option (Lr S B R)) (s : S) (K1 : B → Option γ) (K2 : R → Option γ) : Option γ := (whL body s).bind fun q => q.elim K1 K2
theorem itL_one {S B R : Type} {body : S → Option (Lr S B R)} : ∀ {n m : Nat} {s : S} {r r' : B ⊕ R}, itL body n s = some r → itL body m s = some r' → r = r' := by
 intro n
 induction n with
 | zero => intro m s r r' h; cases h
 | succ n ih =>
  intro m s r r' h1 h2
  cases m with
  | zero => cases h2
  | succ m =>
   simp only [itL] at h1 h2
   cases hf : body s with
   | none => rw [hf] at h1; cases h1
   | some q =>
    rw [hf] at h1 h2
    simp only [Option.bind_some] at h1 h2
    cases q with
    | go s' => exact ih h1 h2
    | brk b => simp only at h1 h2; rw [h1] at h2; injection h2
    | ret b => simp only at h1 h2; rw [h1] at h2; injection h2
theorem whL_of {S B R : Type} {body : S → Option (Lr S B R)} {n : Nat} {s : S} {r : B ⊕ R} (h : itL body n s = some r) : whL body s = some r := by
 have hex : ∃ n r, itL body n s = some r := ⟨n, r, h⟩
 unfold whL
 rw [dif_pos hex]
 exact congrArg some (itL_one (Classical.choose_spec (Classical.choose_spec hex)) h)
theorem whL_it {S B R : Type} {body : S → Option (Lr S B R)} {s : S} {r : B ⊕ R} (h : whL body s = some r) : ∃ n, itL body n s = some r := by
 unfold whL at h
 split at h
 ·rename_i hx
  injection h with h
  subst h
  exact ⟨_, Classical.choose_spec (Classical.choose_spec hx)⟩
 ·cases h
theorem whL_step {S B R : Type} (body : S → Option (Lr S B R)) (s : S) : whL body s = (body s).bind fun q => match q with | .go s' => whL body s' | .brk b => some (.inl b) | .ret r => some (.inr r) := by
 cases hf : body s with
 | none =>
  rw [Option.bind_none]
  unfold whL
  rw [dif_neg]
  rintro ⟨n, r, h⟩
  cases n with
  | zero => cases h
  | succ n => simp [itL, hf] at h
 | some q =>
  rw [Option.bind_some]
  cases q with
  | brk b => exact whL_of (n := 1) (by simp [itL, hf])
  | ret b => exact whL_of (n := 1) (by simp [itL, hf])
  | go s' =>
   show whL body s = whL body s'
   cases h : whL body s' with
   | some r =>
    obtain ⟨n, hn⟩ := whL_it h
    exact whL_of (n := n + 1) (by simp [itL, hf, hn])
   | none =>
    cases h2 : whL body s with
    | none => rfl
    | some r =>
     obtain ⟨n, hn⟩ := whL_it h2
     cases n with
     | zero => cases hn
     | succ n =>
      simp only [itL, hf, Option.bind_some] at hn
      rw [whL_of hn] at h; cases h
section
variable {α S B R β τ : Type}
abbrev LS := AX × List AV × Heap
def Rnd (I : S → List AV → Heap → Prop) (QB : B → LS → Prop) (QR : R → LS → Prop) (t : Lr S B R) (q : LS) : Prop := match t with
 | .go s => q.1 = .normal ∧ I s q.2.1 q.2.2
 | .brk b => q.1 ≠ .normal ∧ QB b q
 | .ret r => q.1 ≠ .normal ∧ QR r q
theorem rnd_go {I : S → List AV → Heap → Prop} {QB : B → LS → Prop} {QR : R → LS → Prop} {s : S} {v : List AV} {σ : Heap} (h : I s v σ) : Rnd I QB QR (.go s) (.normal, v, σ) := ⟨rfl, h⟩
theorem rnd_brk {I : S → List AV → Heap → Prop} {QB : B → LS → Prop} {QR : R → LS → Prop} {b : B} {q : LS} (n : q.1 ≠ .normal) (h : QB b q) : Rnd I QB QR (.brk b) q := ⟨n, h⟩
theorem rnd_ret {I : S → List AV → Heap → Prop} {QB : B → LS → Prop} {QR : R → LS → Prop} {r : R} {q : LS} (n : q.1 ≠ .normal) (h : QR r q) : Rnd I QB QR (.ret r) q := ⟨n, h⟩
theorem rf_for {f : List AV → Heap → Option LS} {K : LS → Option β} {Q : τ → β → Prop} {l : List α} {body : Nat → α → S → Option (Lr S B R)} {fin : S → Option B} {s0 : S} {K1 : B → Option τ} {K2 : R → Option τ} {v0 : List AV} {σ0 : Heap}
  (I : Nat → S → List AV → Heap → Prop) (QB : B → LS → Prop) (QR : R → LS → Prop)
  (hstep : l.length ≤ mxl → ∀ i x s v σ, l[i]? = some x → I i s v σ → Rf (f v σ) (body i x s) (Rnd (I (i + 1)) QB QR))
  (hend : l.length ≤ mxl → ∀ s v σ, I l.length s v σ → Rf (f v σ) (fin s) (fun b q => q.1 ≠ .normal ∧ QB b q))
  (h0 : I 0 s0 v0 σ0) (k1 : l.length ≤ mxl → ∀ b q, QB b q → Rf (K q) (K1 b) Q) (k2 : l.length ≤ mxl → ∀ r q, QR r q → Rf (K q) (K2 r) Q) :
  Rf ((A.loop f v0 σ0).bind K) (forE l body fin s0 K1 K2) Q := by
 unfold forE
 refine rf_tq fun hl => ?_
 have hstep := hstep hl
 have hend := hend hl
 have key : ∀ (rest pre : List α) (s : S) (v : List AV) (σ : Heap), l = pre ++ rest → I pre.length s v σ → ∀ t, forL body fin rest pre.length s = some t → ∃ q, (∃ n, A.iter f n v σ = some q) ∧ (match t with | .inl b => QB b q | .inr r => QR r q) := by
  intro rest
  induction rest with
  | nil =>
   intro pre s v σ hl hI t ht
   rw [List.append_nil] at hl
   subst hl
   simp only [forL] at ht
   obtain ⟨b, hb, rfl⟩ := Option.map_eq_some_iff.1 ht
   obtain ⟨q, h1, h2, h3⟩ := hend s v σ hI b hb
   exact ⟨q, loop_done h1 h2, h3⟩
  | cons x rest ih =>
   intro pre s v σ hl hI t ht
   simp only [forL] at ht
   obtain ⟨y, hy, h2⟩ := Option.bind_eq_some_iff.1 ht
   obtain ⟨q, h3, h4⟩ := hstep pre.length x s v σ (by rw [hl]; simp) hI y hy
   obtain ⟨e, v', σ'⟩ := q
   cases y with
   | go s' =>
    obtain ⟨rfl, hI'⟩ := h4
    obtain ⟨q, h5, h6⟩ := ih (pre ++ [x]) s' v' σ' (by simpa using hl) (by simpa using hI') t (by simpa using h2)
    exact ⟨q, loop_step h3 h5, h6⟩
   | brk b => simp only [Option.some.injEq] at h2; subst h2; exact ⟨_, loop_done h3 h4.1, h4.2⟩
   | ret b => simp only [Option.some.injEq] at h2; subst h2; exact ⟨_, loop_done h3 h4.1, h4.2⟩
 intro t ht
 obtain ⟨y, hy, h2⟩ := Option.bind_eq_some_iff.1 ht
 obtain ⟨q, ⟨n, hn⟩, h3⟩ := key l [] s0 v0 σ0 rfl h0 y hy
 cases y with
 | inl b => obtain ⟨z, h4, h5⟩ := k1 hl b q h3 t h2; exact ⟨z, by rw [loop_of_iter hn]; exact h4, h5⟩
 | inr b => obtain ⟨z, h4, h5⟩ := k2 hl b q h3 t h2; exact ⟨z, by rw [loop_of_iter hn]; exact h4, h5⟩
theorem rf_wh {f : List AV → Heap → Option LS} {K : LS → Option β} {Q : τ → β → Prop} {body : S → Option (Lr S B R)} {s0 : S} {K1 : B → Option τ} {K2 : R → Option τ} {v0 : List AV} {σ0 : Heap}
  (I : S → List AV → Heap → Prop) (QB : B → LS → Prop) (QR : R → LS → Prop)
  (hstep : ∀ s v σ, I s v σ → Rf (f v σ) (body s) (Rnd I QB QR))
  (h0 : I s0 v0 σ0) (k1 : ∀ b q, QB b q → Rf (K q) (K1 b) Q) (k2 : ∀ r q, QR r q → Rf (K q) (K2 r) Q) :
  Rf ((A.loop f v0 σ0).bind K) (whE body s0 K1 K2) Q := by
 have key : ∀ (n : Nat) (s : S) (v : List AV) (σ : Heap), I s v σ → ∀ t, itL body n s = some t → ∃ q, (∃ n, A.iter f n v σ = some q) ∧ (match t with | .inl b => QB b q | .inr r => QR r q) := by
  intro n
  induction n with
  | zero => intro s v σ hI t ht; cases ht
  | succ n ih =>
   intro s v σ hI t ht
   simp only [itL] at ht
   obtain ⟨y, hy, h2⟩ := Option.bind_eq_some_iff.1 ht
   obtain ⟨q, h3, h4⟩ := hstep s v σ hI y hy
   obtain ⟨e, v', σ'⟩ := q
   cases y with
   | go s' =>
    obtain ⟨rfl, hI'⟩ := h4
    obtain ⟨q, h5, h6⟩ := ih s' v' σ' hI' t h2
    exact ⟨q, loop_step h3 h5, h6⟩
   | brk b => simp only [Option.some.injEq] at h2; subst h2; exact ⟨_, loop_done h3 h4.1, h4.2⟩
   | ret b => simp only [Option.some.injEq] at h2; subst h2; exact ⟨_, loop_done h3 h4.1, h4.2⟩
 intro t ht
 obtain ⟨y, hy, h2⟩ := Option.bind_eq_some_iff.1 ht
 obtain ⟨n, hn⟩ := whL_it hy
 obtain ⟨q, ⟨m, hm⟩, h3⟩ := key n s0 v0 σ0 h0 y hn
 cases y with
 | inl b => obtain ⟨z, h4, h5⟩ := k1 b q h3 t h2; exact ⟨z, by rw [loop_of_iter hm]; exact h4, h5⟩
 | inr b => obtain ⟨z, h4, h5⟩ := k2 b q h3 t h2; exact ⟨z, by rw [loop_of_iter hm]; exact h4, h5⟩
theorem ix_lt {l : List α} {i : Nat} {x : α} (h : l[i]? = some x) : A.lss (.int .i64 (i : Int)) (.int .i64 (l.length : Int)) = some (.bool true) := by
 have := (List.getElem?_eq_some_iff.1 h).1
 rw [aLss]; simp; omega
theorem ix_end (l : List α) : A.lss (.int .i64 (l.length : Int)) (.int .i64 (l.length : Int)) = some (.bool false) := by rw [aLss]; simp
theorem ix_inc {l : List α} {i : Nat} {x : α} (h : l[i]? = some x) (hl : l.length ≤ mxl) : A.add (.int .i64 (i : Int)) (.int .i64 1) = some (.int .i64 ((i + 1 : Nat) : Int)) := by
 have := (List.getElem?_eq_some_iff.1 h).1
 rw [aAdd, wrap64 (by unfold inI; unfold mxl at hl; omega)]
 simp
def tIx (l : List α) (i : Int) : Option α := if 0 ≤ i then l[i.toNat]? else none
theorem ix_at {sz : Nat} {c : α → List AV} {l : List α} {i : Int} {x : α} (h : tIx l i = some x) : A.iaddr sz (sl sz c l) (.int .i64 i) = some (.rp (c x)) := by
 unfold tIx at h
 split at h
 ·exact iaddr_int sz c l ‹_› h
 ·cases h
theorem ix_for {sz : Nat} {c : α → List AV} {l : List α} {i : Nat} {x : α} (h : l[i]? = some x) : A.iaddr sz (sl sz c l) (.int .i64 (i : Int)) = some (.rp (c x)) := iaddr_sl sz c l h
end
theorem quiet_of {M : Option (AV × Heap)} {v : AV} {σ : Heap} (h : M = some (v, σ)) : A.quiet M σ = some v := by rw [h, quiet_same]
noncomputable def tq {α : Type} (p : Prop) (x : α) : Option α := open Classical in if p then some x else none
theorem tq_pos {α : Type} {p : Prop} {x : α} (h : p) : tq p x = some x := if_pos h
theorem tq_of {α β : Type} {p : Prop} {x r : α} {M : Option β} {e : α → β} (h : p → M = some (e x)) (k : tq p x = some r) : M = some (e r) := by
 unfold tq at k
 split at k
 ·rename_i hp; injection k with k; subst k; exact h hp
 ·cases k
theorem pk_and (b t : Bool) : A.pick (.bool b) (bif b then .bool t else .tup []) (.bool false) = some (.bool (b && t)) := by cases b <;> rfl
theorem pk_or (b t : Bool) : A.pick (.bool b) (.bool true) (bif !b then .bool t else .tup []) = some (.bool (b || t)) := by cases b <;> rfl
section
variable {α β ω τ : Type} {G b : Bool} {M0 : Option AV} {K : AV → Option β} {T : Option τ} {K' : ω → Option τ} {o : Option ω} {Q : τ → β → Prop}
theorem rf_gt (a : AV) (h : b = true → M0 = some a) (k : Rf (K (bif b then a else .tup [])) T Q) : Rf ((A.guard (.bool b) true M0 (some (.tup []))).bind K) T Q := by
 refine rf_s _ ?_ k
 cases b <;> simp_all [A.guard]
theorem rf_gf (a : AV) (h : (!b) = true → M0 = some a) (k : Rf (K (bif !b then a else .tup [])) T Q) : Rf ((A.guard (.bool b) false M0 (some (.tup []))).bind K) T Q := by
 refine rf_s _ ?_ k
 cases b <;> simp_all [A.guard]
theorem rf_ggt (a : AV) (h : (G && b) = true → M0 = some a) (k : Rf (K (bif G && b then a else .tup [])) T Q) : Rf ((A.guard (bif G then .bool b else .tup []) true M0 (some (.tup []))).bind K) T Q := by
 refine rf_s _ ?_ k
 cases G <;> cases b <;> simp_all [A.guard]
theorem rf_ggf (a : AV) (h : (G && !b) = true → M0 = some a) (k : Rf (K (bif G && !b then a else .tup [])) T Q) : Rf ((A.guard (bif G then .bool b else .tup []) false M0 (some (.tup []))).bind K) T Q := by
 refine rf_s _ ?_ k
 cases G <;> cases b <;> simp_all [A.guard]
theorem rf_go {g : Bool} {M : Option AV} {d : ω} (e : ω → AV) (hM : M = bif g then M0 else some (.tup [])) (h : g = true → ∀ t, o = some t → M0 = some (e t)) (k : ∀ t, (g = true → o = some t) → Rf (K (bif g then e t else .tup [])) (K' t) Q) : Rf (M.bind K) ((if g = true then o else some d).bind K') Q := by
 subst hM
 cases g
 ·exact k d (by simp)
 ·intro t ht
  simp only [if_true] at ht
  obtain ⟨x, h1, h2⟩ := Option.bind_eq_some_iff.1 ht
  obtain ⟨y, h3, h4⟩ := k x (fun _ => h1) t h2
  refine ⟨y, ?_, h4⟩
  simp only [cond_true, h rfl x h1, Option.bind_some]
  exact h3
theorem rf_gto {d : ω} (e : ω → AV) (h : b = true → ∀ t, o = some t → M0 = some (e t)) (k : ∀ t, (b = true → o = some t) → Rf (K (bif b then e t else .tup [])) (K' t) Q) : Rf ((A.guard (.bool b) true M0 (some (.tup []))).bind K) ((if b = true then o else some d).bind K') Q := rf_go e (by cases b <;> rfl) h k
theorem aEqB (b c : Bool) : A.eql .b (.bool b) (.bool c) = some (.bool (decide (b = c))) := by cases b <;> cases c <;> rfl
theorem aNeB (b c : Bool) : A.neq .b (.bool b) (.bool c) = some (.bool (decide (¬ (b = c)))) := by cases b <;> cases c <;> rfl
end
theorem wrap_nn {ro : Bool} {ain : List Sh} {rout : Sh} {r : List AV → Heap → Option (AV × Heap)} {args args' : List AV} {σ : Heap} (hn : A.nnL ain args = A.nnL ain args') (h1 : args.any A.own = false) (h2 : args'.any A.own = false) : A.wrap ro ain rout r args σ = A.wrap ro ain rout r args' σ := by
 unfold A.wrap
 rw [h1, h2, hn, Bool.and_false, cond_false, cond_false]
theorem rf_wrap {τ : Type} {ro : Bool} {ain : List Sh} {rout : Sh} {r : List AV → Heap → Option (AV × Heap)} {args args' : List AV} {σ : Heap} {T : Option τ} {enc : τ → AV} (hn : A.nnL ain args = args') (h : args.any A.own = false) (e : Rf (r args' σ) T (fun t b => A.nn rout b.1 = enc t ∧ b.2 = σ)) : ∀ t, T = some t → A.wrap ro ain rout r args σ = some (enc t, σ) := by
 intro t ht
 obtain ⟨⟨v, σ'⟩, h1, h2, h3⟩ := e t ht
 simp only at h2 h3
 subst h3
 exact wrap_eq h (by rw [hn]; exact h1) h2
theorem rf_wrap1 {τ : Type} {ro : Bool} {ain : List Sh} {rout : Sh} {f : AV → Heap → Option (AV × Heap)} {x0 y0 : AV} {σ : Heap} {T : Option τ} {enc : τ → AV} (hn : A.nnL ain [x0] = [y0]) (h : ([x0] : List AV).any A.own = false) (e : Rf (f y0 σ) T (fun t b => A.nn rout b.1 = enc t ∧ b.2 = σ)) : ∀ t, T = some t → A.wrap ro ain rout (A.ar1 f) [x0] σ = some (enc t, σ) := rf_wrap hn h e
theorem rf_wrap2 {τ : Type} {ro : Bool} {ain : List Sh} {rout : Sh} {f : AV → AV → Heap → Option (AV × Heap)} {x0 x1 y0 y1 : AV} {σ : Heap} {T : Option τ} {enc : τ → AV} (hn : A.nnL ain [x0, x1] = [y0, y1]) (h : ([x0, x1] : List AV).any A.own = false) (e : Rf (f y0 y1 σ) T (fun t b => A.nn rout b.1 = enc t ∧ b.2 = σ)) : ∀ t, T = some t → A.wrap ro ain rout (A.ar2 f) [x0, x1] σ = some (enc t, σ) := rf_wrap hn h e
end Go.Proofs.Ytphgchakmkankaa

namespace Go.Proofs.Ytphgchakmkankaa
set_option linter.unusedSectionVars false
set_option linter.unusedVariables false
set_option linter.unusedSimpArgs false
inductive Ct where
 | s (sz : Nat) (es : List (List AV))
 | m (es : List (AV × AV))
 | b (cs : List AV)
def idOf : AV → Option Nat
 | .os id _ _ _ _ => some id
 | .om id => some id
 | .op id _ => some id
 | _ => none
def Own (n : Nat) (σ : Heap) (p : AV × Ct) : Prop := match p.2 with
 | .s sz es => (p.1 = .nsl ∧ es = []) ∨ ∃ id g off a, p.1 = .os id g sz off es.length ∧ n ≤ id ∧ σ[id]? = some (.arr g sz a) ∧ off ≤ a.length ∧ a.drop off = es
 | .m es => ∃ id, p.1 = .om id ∧ n ≤ id ∧ σ[id]? = some (.map es)
 | .b cs => ∃ id, p.1 = .op id 0 ∧ n ≤ id ∧ σ[id]? = some (.box cs)
structure Hp (σ0 σ : Heap) (L : List (AV × Ct)) : Prop where
 pre : ∃ bs, σ = σ0 ++ bs
 own : ∀ (i : Nat) p, L[i]? = some p → Own σ0.length σ p
 sep : ∀ (i j : Nat) p q a, L[i]? = some p → L[j]? = some q → idOf p.1 = some a → idOf q.1 = some a → i = j
section
variable {σ0 σ σ' : Heap} {L : List (AV × Ct)} {n : Nat}
theorem hp_nil (σ : Heap) : Hp σ σ [] := ⟨⟨[], by simp⟩, by simp, by simp⟩
theorem own_lt {p : AV × Ct} {a : Nat} (h : Own n σ p) (e : idOf p.1 = some a) : n ≤ a ∧ a < σ.length := by
 obtain ⟨v, c⟩ := p
 cases c with
 | s sz es =>
  rcases h with ⟨h1, _⟩ | ⟨id, g, off, x, h1, h2, h3, _⟩
  ·simp only at h1; subst h1; cases e
  ·simp only at h1; subst h1; injection e with e; subst e; exact ⟨h2, (List.getElem?_eq_some_iff.1 h3).1⟩
 | m es => obtain ⟨id, h1, h2, h3⟩ := h; simp only at h1; subst h1; injection e with e; subst e; exact ⟨h2, (List.getElem?_eq_some_iff.1 h3).1⟩
 | b es => obtain ⟨id, h1, h2, h3⟩ := h; simp only at h1; subst h1; injection e with e; subst e; exact ⟨h2, (List.getElem?_eq_some_iff.1 h3).1⟩
theorem own_mono {p : AV × Ct} (h : Own n σ p) (k : ∀ a, idOf p.1 = some a → σ'[a]? = σ[a]?) : Own n σ' p := by
 obtain ⟨v, c⟩ := p
 cases c with
 | s sz es =>
  rcases h with h | ⟨id, g, off, x, h1, h2, h3, h4⟩
  ·exact .inl h
  ·simp only at h1; subst h1; exact .inr ⟨id, g, off, x, rfl, h2, by rw [k id rfl]; exact h3, h4⟩
 | m es => obtain ⟨id, h1, h2, h3⟩ := h; simp only at h1; subst h1; exact ⟨id, rfl, h2, by rw [k id rfl]; exact h3⟩
 | b es => obtain ⟨id, h1, h2, h3⟩ := h; simp only at h1; subst h1; exact ⟨id, rfl, h2, by rw [k id rfl]; exact h3⟩
theorem pre_set (h : ∃ bs, σ = σ0 ++ bs) {id : Nat} (hn : σ0.length ≤ id) (b : Blk) : ∃ bs, σ.set id b = σ0 ++ bs := by
 obtain ⟨bs, rfl⟩ := h
 exact ⟨bs.set (id - σ0.length) b, by rw [List.set_append_right _ _ hn]⟩
theorem hp_set (H : Hp σ0 σ L) {k id : Nat} {h h' : AV} {c c' : Ct} {b : Blk} (hk : L[k]? = some (h, c)) (hi : idOf h = some id) (hi' : idOf h' = some id) (ho : Own σ0.length (σ.set id b) (h', c')) : Hp σ0 (σ.set id b) (L.set k (h', c')) := by
 have hid := own_lt (H.own k _ hk) hi
 have hkl := (List.getElem?_eq_some_iff.1 hk).1
 refine ⟨pre_set H.pre hid.1 b, fun i p hp => ?_, fun i j p q a hp hq e1 e2 => ?_⟩
 ·rw [List.getElem?_set] at hp
  split at hp
  ·rename_i e; subst e; simp [hkl] at hp; subst hp; exact ho
  ·rename_i e
   refine own_mono (H.own i p hp) fun a ha => ?_
   rw [List.getElem?_set]
   split
   ·rename_i e'; subst e'; exact absurd (H.sep k i _ _ id hk hp hi ha) e
   ·rfl
 ·have key : ∀ (i : Nat) (p : AV × Ct), (L.set k (h', c'))[i]? = some p → idOf p.1 = some a → ∃ p', L[i]? = some p' ∧ idOf p'.1 = some a := by
   intro i p hp e
   rw [List.getElem?_set] at hp
   split at hp
   ·rename_i e'; subst e'; simp [hkl] at hp; subst hp; exact ⟨_, hk, by rw [hi]; rw [hi'] at e; exact e⟩
   ·exact ⟨p, hp, e⟩
  obtain ⟨p', hp', e1'⟩ := key i p hp e1
  obtain ⟨q', hq', e2'⟩ := key j q hq e2
  exact H.sep i j p' q' a hp' hq' e1' e2'
theorem hp_push (H : Hp σ0 σ L) {h' : AV} {c' : Ct} {b : Blk} (hi' : idOf h' = some σ.length) (ho : Own σ0.length (σ ++ [b]) (h', c')) : Hp σ0 (σ ++ [b]) (L ++ [(h', c')]) := by
 refine ⟨?_, fun i p hp => ?_, fun i j p q a hp hq e1 e2 => ?_⟩
 ·obtain ⟨bs, rfl⟩ := H.pre; exact ⟨bs ++ [b], by simp⟩
 ·rw [List.getElem?_append] at hp
  split at hp
  ·refine own_mono (H.own i p hp) fun a ha => ?_
   have := (own_lt (H.own i p hp) ha).2
   rw [List.getElem?_append_left this]
  ·have hp' := (List.getElem?_eq_some_iff.1 hp).2
   simp at hp'; subst hp'; exact ho
 ·have key : ∀ (i : Nat) (p : AV × Ct), (L ++ [(h', c')])[i]? = some p → idOf p.1 = some a → (i = L.length ∧ a = σ.length) ∨ (L[i]? = some p ∧ a < σ.length) := by
   intro i p hp e
   rw [List.getElem?_append] at hp
   split at hp
   ·exact .inr ⟨hp, (own_lt (H.own i p hp) e).2⟩
   ·obtain ⟨h1, h2⟩ := List.getElem?_eq_some_iff.1 hp
    simp at h1 h2; subst h2; rw [hi'] at e; injection e with e; exact .inl ⟨by omega, e.symm⟩
  rcases key i p hp e1 with ⟨a1, a2⟩ | ⟨a1, a2⟩ <;> rcases key j q hq e2 with ⟨b1, b2⟩ | ⟨b1, b2⟩
  ·omega
  ·omega
  ·omega
  ·exact H.sep i j p q a a1 b1 e1 e2
theorem hp_om (H : Hp σ0 σ L) : Hp σ0 (σ ++ [.map []]) (L ++ [(.om σ.length, .m [])]) := by
 have hl : σ0.length ≤ σ.length := by obtain ⟨bs, rfl⟩ := H.pre; simp
 exact hp_push H rfl ⟨σ.length, rfl, hl, by simp⟩
theorem hp_mupd (H : Hp σ0 σ L) {k : Nat} {h key v : AV} {ek : A.EK} {es es' : List (AV × AV)} (hk : L[k]? = some (h, .m es)) (hok : A.keyOk ek key = true) (he : A.upd ek key v es = some es') : ∃ σ', A.mupd ek h key v σ = some σ' ∧ Hp σ0 σ' (L.set k (h, .m es')) := by
 obtain ⟨id, h1, h2, h3⟩ := H.own k _ hk
 simp only at h1 h3
 subst h1
 have hid := (List.getElem?_eq_some_iff.1 h3).1
 exact ⟨σ.set id (.map es'), by simp [A.mupd, hok, h3, he], hp_set H hk rfl rfl ⟨id, rfl, h2, by simp [hid]⟩⟩
theorem hp_mdel (H : Hp σ0 σ L) {k : Nat} {h key : AV} {ek : A.EK} {es es' : List (AV × AV)} (hk : L[k]? = some (h, .m es)) (hok : A.keyOk ek key = true) (he : A.del ek key es = some es') : ∃ σ', A.mdel ek h key σ = some σ' ∧ Hp σ0 σ' (L.set k (h, .m es')) := by
 obtain ⟨id, h1, h2, h3⟩ := H.own k _ hk
 simp only at h1 h3
 subst h1
 have hid := (List.getElem?_eq_some_iff.1 h3).1
 exact ⟨σ.set id (.map es'), by simp [A.mdel, hok, h3, he], hp_set H hk rfl rfl ⟨id, rfl, h2, by simp [hid]⟩⟩
def Fzv (σ0 σ : Heap) (r r' : AV) : Prop := (∀ d, A.frz σ σ0.length (d + 1) r = some r') ∧ (σ = σ0 → r' = r)
theorem nn_t1 {s1 : Sh} {v1 w1 : AV} {ss : List Sh} {vs ws : List AV} (h1 : A.nn s1 v1 = w1) (h2 : A.nnL ss vs = ws) : A.nnL (s1 :: ss) (v1 :: vs) = w1 :: ws := by simp only [A.nnL, h1, h2]
theorem nn_t0 : A.nnL [] [] = [] := by simp [A.nnL]
theorem nn_a {ss : List Sh} {vs ws : List AV} (h : A.nnL ss vs = ws) : A.nn (.a ss) (.agg vs) = .agg ws := by simp only [A.nn, h]
theorem frzM_fz (d : Nat) : ∀ {es : List (AV × AV)}, (∀ p ∈ es, Fz p.1 ∧ Fz p.2) → A.frzM' σ n d es = some es
 | [], _ => by simp [A.frzM']
 | (k, v) :: es, h => by
  have h1 := h (k, v) (by simp)
  simp only [A.frzM', h1.1 σ n d, h1.2 σ n d, Option.bind_some, frzM_fz d (es := es) (fun p hp => h p (by simp [hp])), Option.map_some]
theorem fzv_om (H : Hp σ0 σ L) {k : Nat} {h : AV} {es : List (AV × AV)} (hk : L[k]? = some (h, .m es)) (hc : ∀ p ∈ es, Fz p.1 ∧ Fz p.2) : Fzv σ0 σ h (.fm es) := by
 obtain ⟨id, h1, h2, h3⟩ := H.own k _ hk
 simp only at h1 h3
 subst h1
 refine ⟨fun d => ?_, fun e => ?_⟩
 ·simp only [A.frz, Nat.not_lt.2 h2, if_false, h3, frzM_fz d hc, Option.map_some]
 ·subst e
  have := (List.getElem?_eq_some_iff.1 h3).1
  omega
theorem hp_fin (H : Hp σ0 σ L) {r r' : AV} (h : Fzv σ0 σ r r') : A.fin σ0 r σ = some (r', σ0) := by
 obtain ⟨bs, hb⟩ := H.pre
 subst hb
 by_cases hbs : bs = []
 ·subst hbs
  rw [List.append_nil] at h ⊢
  rw [fin_same, h.2 rfl]
 ·unfold A.fin
  rw [if_neg (by simpa using hbs), if_pos (by simp), h.1 7]; rfl
end
section
variable {κ ν : Type} [DecidableEq κ]
def tfind (k : κ) : List (κ × ν) → Option ν
 | [] => none
 | (k', v) :: r => if k = k' then some v else tfind k r
def tupd (k : κ) (v : ν) : List (κ × ν) → List (κ × ν)
 | [] => [(k, v)]
 | (k', v') :: r => if k = k' then (k, v) :: r else (k', v') :: tupd k v r
def tdel (k : κ) : List (κ × ν) → List (κ × ν)
 | [] => []
 | (k', v') :: r => if k = k' then r else (k', v') :: tdel k r
variable {ek : A.EK} {eK : κ → AV} {eV : ν → AV} (hq : ∀ a b, A.eqK ek (eK a) (eK b) = some (decide (a = b)))
include hq
theorem find_t (k : κ) : ∀ l : List (κ × ν), A.find ek (eK k) (l.map fun p => (eK p.1, eV p.2)) = some ((tfind k l).map eV)
 | [] => rfl
 | (k', v) :: r => by
  simp only [List.map_cons, A.find, hq, Option.bind_some, tfind]
  by_cases h : k = k'
  ·simp [h]
  ·simp [h, find_t k r]
theorem upd_t (k : κ) (v : ν) : ∀ l : List (κ × ν), A.upd ek (eK k) (eV v) (l.map fun p => (eK p.1, eV p.2)) = some ((tupd k v l).map fun p => (eK p.1, eV p.2))
 | [] => rfl
 | (k', v') :: r => by
  simp only [List.map_cons, A.upd, hq, Option.bind_some, tupd]
  by_cases h : k = k'
  ·simp [h]
  ·simp [h, upd_t k v r]
theorem del_t (k : κ) : ∀ l : List (κ × ν), A.del ek (eK k) (l.map fun p => (eK p.1, eV p.2)) = some ((tdel k l).map fun p => (eK p.1, eV p.2))
 | [] => rfl
 | (k', v') :: r => by
  simp only [List.map_cons, A.del, hq, Option.bind_some, tdel]
  by_cases h : k = k'
  ·simp [h]
  ·simp [h, del_t k r]
end
theorem getD_map {α : Type} (o : Option α) (f : α → AV) (d : α) : (o.map f).getD (f d) = f (o.getD d) := by cases o <;> rfl
theorem isSome_map {α : Type} (o : Option α) (f : α → AV) : (o.map f).isSome = o.isSome := by cases o <;> rfl
def fmE {κ ν : Type} (eK : κ → AV) (eV : ν → AV) (l : List (κ × ν)) : AV := .fm (l.map fun p => (eK p.1, eV p.2))
section
variable {κ ν : Type} [DecidableEq κ] {ek : A.EK} {eK : κ → AV} {eV : ν → AV} {σ0 σ : Heap} {L : List (AV × Ct)} {h : AV} {l : List (κ × ν)}
theorem hp_updT (H : Hp σ0 σ L) (k : Nat) (hk : L[k]? = some (h, .m (l.map fun p => (eK p.1, eV p.2)))) (hq : ∀ a b, A.eqK ek (eK a) (eK b) = some (decide (a = b))) (x : κ) (v : ν) (hok : A.keyOk ek (eK x) = true) : ∃ σ', A.mupd ek h (eK x) (eV v) σ = some σ' ∧ Hp σ0 σ' (L.set k (h, .m ((tupd x v l).map fun p => (eK p.1, eV p.2)))) := hp_mupd H hk hok (upd_t hq x v l)
theorem hp_delT (H : Hp σ0 σ L) (k : Nat) (hk : L[k]? = some (h, .m (l.map fun p => (eK p.1, eV p.2)))) (hq : ∀ a b, A.eqK ek (eK a) (eK b) = some (decide (a = b))) (x : κ) (hok : A.keyOk ek (eK x) = true) : ∃ σ', A.mdel ek h (eK x) σ = some σ' ∧ Hp σ0 σ' (L.set k (h, .m ((tdel x l).map fun p => (eK p.1, eV p.2)))) := hp_mdel H hk hok (del_t hq x l)
theorem fm_lookOkT (hq : ∀ a b, A.eqK ek (eK a) (eK b) = some (decide (a = b))) (x : κ) (z : ν) (hok : A.keyOk ek (eK x) = true) : A.lookOk ek (fmE eK eV l) (eK x) (eV z) σ = some (.tup [eV ((tfind x l).getD z), .bool (tfind x l).isSome]) := by
 simp only [A.lookOk, fmE, hok, cond_true, A.entries, Option.bind_some, find_t hq, Option.map_some, getD_map, isSome_map]
end
section
variable {α : Type} {c : α → List AV} {l ys : List α} {σ0 σ : Heap} {L : List (AV × Ct)} {h : AV} {sz : Nat}
end
def tSl {α : Type} (l : List α) (lo hi : Option Int) : Option (List α) :=
 let h := hi.getD l.length
 let k := lo.getD 0
 if 0 ≤ k ∧ k ≤ h ∧ h ≤ l.length then some ((l.take h.toNat).drop k.toNat) else none
theorem sls_at {α : Type} {sz : Nat} {c : α → List AV} {l r : List α} {lo hi : Option Int} {σ : Heap} (h : tSl l lo hi = some r) : A.sliceS sz (sl sz c l) (lo.map (.int .i64)) (hi.map (.int .i64)) σ = some (sl sz c r) := by
 unfold tSl at h
 simp only at h
 split at h
 ·rename_i hc
  injection h with h
  subst h
  obtain ⟨h1, h2, h3⟩ := hc
  simp only [A.sliceS, sl, if_true, List.length_map]
  have e1 : A.bound l.length l.length (hi.map (.int .i64)) = some (hi.getD l.length).toNat := by
   cases hi with
   | none => simp [A.bound]
   | some h => simp only [Option.getD_some] at h2 h3; simp [A.bound, show 0 ≤ h by omega, h3]
  have e2 : A.bound (hi.getD l.length).toNat 0 (lo.map (.int .i64)) = some (lo.getD 0).toNat := by
   cases lo with
   | none => simp [A.bound]
   | some k =>
    simp only [Option.getD_some] at h1 h2
    have : k ≤ ((hi.getD l.length).toNat : Int) := by omega
    simp only [Option.map_some, A.bound, Option.getD_some]
    rw [if_pos ⟨h1, this⟩]
  rw [e1, Option.bind_some, e2, Option.map_some, List.map_drop, List.map_take]
 ·cases h
end Go.Proofs.Ytphgchakmkankaa

namespace Go.Proofs.Ytphgchakmkankaa
set_option linter.unusedSectionVars false
set_option linter.unusedVariables false
set_option linter.unusedSimpArgs false
def HP := (Nat → Option Blk) → Prop
namespace HP
set_option linter.unusedSectionVars false
def emp : HP := fun h => ∀ i, h i = none
def blk (id : Nat) (b : Blk) : HP := fun h => ∀ i, h i = if i = id then some b else none
def star (P Q : HP) : HP := fun h => ∃ f g, P f ∧ Q g ∧ (∀ i, f i = none ∨ g i = none) ∧ ∀ i, h i = (f i).or (g i)
def pr (p : Prop) : HP := fun h => p ∧ ∀ i, h i = none
def ex {α : Type} (P : α → HP) : HP := fun h => ∃ x, P x h
instance : Mul HP := ⟨star⟩
theorem star_comm (P Q : HP) : P * Q = Q * P := by
 have key : ∀ P Q : HP, ∀ h, (P * Q) h → (Q * P) h := by
  rintro P Q h ⟨f, g, hf, hg, hd, hh⟩
  refine ⟨g, f, hg, hf, fun i => (hd i).symm, fun i => ?_⟩
  rw [hh i]
  rcases hd i with e | e <;> rw [e] <;> simp
 funext h
 exact propext ⟨key P Q h, key Q P h⟩
theorem star_assoc (P Q R : HP) : P * Q * R = P * (Q * R) := by
 funext h
 apply propext
 constructor
 ·rintro ⟨f, g, ⟨f1, f2, h1, h2, hd1, hf⟩, hg, hd, hh⟩
  refine ⟨f1, fun i => (f2 i).or (g i), h1, ⟨f2, g, h2, hg, fun i => ?_, fun i => rfl⟩, fun i => ?_, fun i => ?_⟩
  ·have := hd i; rw [hf i] at this
   rcases this with e | e
   ·cases h : f1 i <;> simp [h] at e <;> exact .inl e
   ·exact .inr e
  ·have a := hd i; have b := hd1 i; rw [hf i] at a
   rcases b with b | b
   ·exact .inl b
   ·rcases a with a | a
    ·cases h : f1 i <;> simp [h] at a; exact .inl rfl
    ·exact .inr (show (f2 i).or (g i) = none by rw [b, a]; rfl)
  ·rw [hh i, hf i]; cases f1 i <;> simp
 ·rintro ⟨f, g, hf, ⟨g1, g2, h1, h2, hd1, hg⟩, hd, hh⟩
  refine ⟨fun i => (f i).or (g1 i), g2, ⟨f, g1, hf, h1, fun i => ?_, fun i => rfl⟩, h2, fun i => ?_, fun i => ?_⟩
  ·have := hd i; rw [hg i] at this
   rcases this with e | e
   ·exact .inl e
   ·cases h : g1 i <;> simp [h] at e; exact .inr rfl
  ·have a := hd i; have b := hd1 i; rw [hg i] at a
   rcases b with b | b
   ·rcases a with a | a
    ·exact .inl (show (f i).or (g1 i) = none by rw [a, b]; rfl)
    ·rw [b] at a; exact .inr (by simpa using a)
   ·exact .inr b
  ·show h i = ((f i).or (g1 i)).or (g2 i)
   rw [hh i, hg i]; cases f i <;> simp
theorem emp_star (P : HP) : emp * P = P := by
 funext h
 apply propext
 constructor
 ·rintro ⟨f, g, hf, hg, hd, hh⟩
  have : h = g := by funext i; rw [hh i, hf i]; rfl
  rw [this]; exact hg
 ·intro hp
  exact ⟨fun _ => none, h, fun _ => rfl, hp, fun _ => .inl rfl, fun i => by simp⟩
theorem star_emp (P : HP) : P * emp = P := by rw [star_comm, emp_star]
instance : Std.Associative (α := HP) (· * ·) := ⟨star_assoc⟩
instance : Std.Commutative (α := HP) (· * ·) := ⟨star_comm⟩
end HP
open HP
structure Hs (B : Blk → Prop) (σ0 σ : Heap) (P : HP) : Prop where
 pre : ∃ bs, σ = σ0 ++ bs ∧ ∀ b ∈ bs, B b
 own : ∃ h, P h ∧ ∀ i b, h i = some b → σ0.length ≤ i ∧ σ[i]? = some b
def anyB : Blk → Prop := fun _ => True
section
variable {B : Blk → Prop} {σ0 σ : Heap} {P Q R : HP} {id : Nat} {b b' : Blk}
theorem hs_eq (e : P = Q) (H : Hs B σ0 σ P) : Hs B σ0 σ Q := e ▸ H
theorem hs_mono (k : ∀ h, P h → Q h) (H : Hs B σ0 σ (P * R)) : Hs B σ0 σ (Q * R) := by
 obtain ⟨h1, h, ⟨f, g, hf, hg, hd, hh⟩, h2⟩ := H
 exact ⟨h1, h, ⟨f, g, k f hf, hg, hd, hh⟩, h2⟩
theorem hs_drop (H : Hs B σ0 σ (P * R)) : Hs B σ0 σ R := by
 obtain ⟨h1, h, ⟨f, g, hf, hg, hd, hh⟩, h2⟩ := H
 refine ⟨h1, g, hg, fun i b hb => h2 i b ?_⟩
 rw [hh i]
 rcases hd i with e | e
 ·rw [e, hb]; rfl
 ·rw [e] at hb; cases hb
theorem hs_pr {p : Prop} : Hs B σ0 σ (pr p * R) ↔ p ∧ Hs B σ0 σ R := by
 constructor
 ·intro H
  refine ⟨?_, hs_drop H⟩
  obtain ⟨h1, h, ⟨f, g, hf, hg, hd, hh⟩, h2⟩ := H
  exact hf.1
 ·rintro ⟨hp, h1, h, hr, h2⟩
  exact ⟨h1, h, ⟨fun _ => none, h, ⟨hp, fun _ => rfl⟩, hr, fun _ => .inl rfl, fun i => by simp⟩, h2⟩
theorem hs_ex {α : Type} {P : α → HP} : Hs B σ0 σ (ex P * R) ↔ ∃ x, Hs B σ0 σ (P x * R) := by
 constructor
 ·rintro ⟨h1, h, ⟨f, g, ⟨x, hf⟩, hg, hd, hh⟩, h2⟩
  exact ⟨x, h1, h, ⟨f, g, hf, hg, hd, hh⟩, h2⟩
 ·rintro ⟨x, h1, h, ⟨f, g, hf, hg, hd, hh⟩, h2⟩
  exact ⟨h1, h, ⟨f, g, ⟨x, hf⟩, hg, hd, hh⟩, h2⟩
theorem hs_nil (σ : Heap) : Hs B σ σ emp := ⟨⟨[], by simp, by simp⟩, fun _ => none, fun _ => rfl, fun _ _ h => by cases h⟩
theorem hs_len (H : Hs B σ0 σ P) : σ0.length ≤ σ.length := by obtain ⟨⟨bs, rfl, _⟩, _⟩ := H; simp
theorem hs_get (H : Hs B σ0 σ (blk id b * R)) : σ0.length ≤ id ∧ σ[id]? = some b := by
 obtain ⟨h1, h, ⟨f, g, hf, hg, hd, hh⟩, h2⟩ := H
 exact h2 id b (by rw [hh id, hf id]; simp)
theorem hs_B (H : Hs B σ0 σ (blk id b * R)) : B b := by
 obtain ⟨h1, h2⟩ := hs_get H
 obtain ⟨⟨bs, rfl, hb⟩, _⟩ := H
 rw [List.getElem?_append_right h1] at h2
 exact hb b (List.mem_of_getElem? h2)
theorem hs_set (H : Hs B σ0 σ (blk id b * R)) (hb : B b') : Hs B σ0 (σ.set id b') (blk id b' * R) := by
 obtain ⟨hid, hget⟩ := hs_get H
 have hlt := (List.getElem?_eq_some_iff.1 hget).1
 obtain ⟨⟨bs, rfl, hB⟩, h, ⟨f, g, hf, hg, hd, hh⟩, h2⟩ := H
 refine ⟨⟨bs.set (id - σ0.length) b', by rw [List.set_append_right _ _ hid], fun x hx => ?_⟩, fun i => if i = id then some b' else g i, ⟨fun i => if i = id then some b' else none, g, fun i => rfl, hg, fun i => ?_, fun i => ?_⟩, fun i x hx => ?_⟩
 ·rcases List.mem_or_eq_of_mem_set hx with hx | hx
  ·exact hB x hx
  ·subst hx; exact hb
 ·have := hd i; rw [hf i] at this
  by_cases e : i = id
  ·simp only [e, if_true] at this ⊢
   rcases this with h | h
   ·cases h
   ·exact .inr h
  ·simp [e]
 ·by_cases e : i = id <;> simp [e]
 ·by_cases e : i = id
  ·subst e
   simp only [if_true, Option.some.injEq] at hx
   subst hx
   exact ⟨hid, by rw [List.getElem?_set_self hlt]⟩
  ·simp only [e, if_false] at hx
   rw [List.getElem?_set_ne (fun e' => e e'.symm)]
   have := h2 i x (by rw [hh i, hf i]; simp [e, hx])
   exact this
theorem hs_new (H : Hs B σ0 σ R) (hb : B b) : Hs B σ0 (σ ++ [b]) (blk σ.length b * R) := by
 have hl := hs_len H
 obtain ⟨⟨bs, rfl, hB⟩, h, hr, h2⟩ := H
 have hn : ∀ i x, h i = some x → i < (σ0 ++ bs).length := fun i x hx => (List.getElem?_eq_some_iff.1 (h2 i x hx).2).1
 refine ⟨⟨bs ++ [b], by simp, fun x hx => ?_⟩, fun i => if i = (σ0 ++ bs).length then some b else h i, ⟨fun i => if i = (σ0 ++ bs).length then some b else none, h, fun i => rfl, hr, fun i => ?_, fun i => ?_⟩, fun i x hx => ?_⟩
 ·rcases List.mem_append.1 hx with hx | hx
  ·exact hB x hx
  ·simp at hx; subst hx; exact hb
 ·by_cases e : i = (σ0 ++ bs).length
  ·right
   cases hi : h i with
   | none => rfl
   | some x => have := hn i x hi; omega
  ·simp only [e, if_false, true_or]
 ·by_cases e : i = (σ0 ++ bs).length <;> simp only [e, if_true, if_false, Option.or_some, Option.none_or, Option.some_or]
 ·by_cases e : i = (σ0 ++ bs).length
  ·subst e
   simp only [if_true, Option.some.injEq] at hx
   subst hx
   exact ⟨hl, by simp⟩
  ·simp only [e, if_false] at hx
   obtain ⟨k1, k2⟩ := h2 i x hx
   exact ⟨k1, by rw [List.getElem?_append_left (hn i x hx)]; exact k2⟩
end
section
variable {α : Type} {E : List AV → α → HP} {B : Blk → Prop} {σ0 σ : Heap} {R : HP}
def els (E : List AV → α → HP) : List (List AV) → List α → HP
 | [], [] => emp
 | e :: es, x :: l => E e x * els E es l
 | _, _ => pr False
theorem els_len : ∀ {es : List (List AV)} {l : List α} {R : HP}, Hs B σ0 σ (els E es l * R) → es.length = l.length
 | [], [], _, _ => rfl
 | [], _ :: _, _, H => (hs_pr.1 H).1.elim
 | _ :: _, [], _, H => (hs_pr.1 H).1.elim
 | e :: es, x :: l, R, H => by
  have := els_len (es := es) (l := l) (R := E e x * R) (hs_eq (by rw [els]; ac_rfl) H)
  simp [this]
theorem els_app : ∀ {es1 es2 : List (List AV)} {l1 l2 : List α}, es1.length = l1.length → els E (es1 ++ es2) (l1 ++ l2) = els E es1 l1 * els E es2 l2
 | [], es2, [], l2, _ => by rw [els, emp_star]; rfl
 | e :: es1, es2, x :: l1, l2, h => by
  simp only [List.cons_append, els]
  rw [els_app (by simpa using h)]
  ac_rfl
theorem els_one (e : List AV) (x : α) : els E [e] [x] = E e x := by rw [els, els, star_emp]
theorem els_at {es : List (List AV)} {l : List α} {i : Nat} {e : List AV} {x : α} (hl : es.length = l.length) (he : es[i]? = some e) (hx : l[i]? = some x) : els E es l = els E (es.eraseIdx i) (l.eraseIdx i) * E e x := by
 have h1 := (List.getElem?_eq_some_iff.1 he).1
 have h2 := (List.getElem?_eq_some_iff.1 hx).1
 have e1 : es = es.take i ++ e :: es.drop (i + 1) := by
  rw [← (List.getElem?_eq_some_iff.1 he).2, List.getElem_cons_drop, List.take_append_drop]
 have e2 : l = l.take i ++ x :: l.drop (i + 1) := by
  rw [← (List.getElem?_eq_some_iff.1 hx).2, List.getElem_cons_drop, List.take_append_drop]
 conv => lhs; rw [e1, e2]
 rw [els_app (by simp; omega), els, List.eraseIdx_eq_take_drop_succ, List.eraseIdx_eq_take_drop_succ, els_app (by simp; omega)]
 ac_rfl
def fl (c : α → List AV) : List AV → α → HP := fun e x => pr (e = c x)
theorem els_fl {c : α → List AV} : ∀ {es : List (List AV)} {l : List α} {R : HP}, Hs B σ0 σ (els (fl c) es l * R) ↔ es = l.map c ∧ Hs B σ0 σ R
 | [], [], R => by rw [els, emp_star]; simp
 | [], x :: l, R => by show Hs B σ0 σ (pr False * R) ↔ _; rw [hs_pr]; simp
 | e :: es, [], R => by show Hs B σ0 σ (pr False * R) ↔ _; rw [hs_pr]; simp
 | e :: es, x :: l, R => by
  rw [els, fl, star_assoc, hs_pr, els_fl, List.map_cons, List.cons.injEq, and_assoc]
def Sl (E : List AV → α → HP) (sz : Nat) (v : AV) (l : List α) : HP := fun h => (l = [] ∧ (v = .nsl ∨ v = .ez) ∧ emp h) ∨ ∃ id g seg, v = .os id g sz 0 l.length ∧ (blk id (.arr g sz seg) * els E seg l) h
variable {sz : Nat} {v : AV} {l : List α}
theorem sl_cases (H : Hs B σ0 σ (Sl E sz v l * R)) : (l = [] ∧ (v = .nsl ∨ v = .ez) ∧ Hs B σ0 σ R) ∨ ∃ id g seg, v = .os id g sz 0 l.length ∧ seg.length = l.length ∧ Hs B σ0 σ (blk id (.arr g sz seg) * (els E seg l * R)) := by
 have H2 := hs_drop H
 obtain ⟨h1, h, ⟨f, g, hf, hg, hd, hh⟩, h2⟩ := H
 rcases hf with ⟨k1, k2, k3⟩ | ⟨id, gg, seg, k1, k2⟩
 ·exact .inl ⟨k1, k2, H2⟩
 ·have K : Hs B σ0 σ (blk id (.arr gg sz seg) * (els E seg l * R)) := hs_eq (star_assoc _ _ _) ⟨h1, h, ⟨f, g, k2, hg, hd, hh⟩, h2⟩
  exact .inr ⟨id, gg, seg, k1, els_len (R := blk id (.arr gg sz seg) * R) (hs_eq (by ac_rfl) K), K⟩
theorem slz (H : Hs B σ0 σ R) (hv : v = .nsl ∨ v = .ez) : Hs B σ0 σ (Sl E sz v [] * R) :=
 hs_mono (P := emp) (fun h k => .inl ⟨rfl, hv, k⟩) (hs_eq (emp_star R).symm H)
theorem sl_os {id g : Nat} {seg : List (List AV)} {n : Nat} (H : Hs B σ0 σ (blk id (.arr g sz seg) * (els E seg l * R))) (hn : n = l.length := by rfl) : Hs B σ0 σ (Sl E sz (.os id g sz 0 n) l * R) :=
 hs_mono (P := blk id (.arr g sz seg) * els E seg l) (fun h k => .inr ⟨id, g, seg, by rw [hn], k⟩) (hs_eq (star_assoc _ _ _).symm H)
theorem sl_len (H : Hs B σ0 σ (Sl E sz v l * R)) : A.lenS v = some (.int .i64 l.length) := by
 rcases sl_cases H with ⟨rfl, rfl | rfl, _⟩ | ⟨id, g, seg, rfl, _⟩ <;> rfl
theorem sl_app {ys : List (List AV)} {xs : List α} {most : Nat} (H : Hs B σ0 σ (Sl E sz v l * (els E ys xs * R))) (hm : l.length + xs.length ≤ most) (hB : ∀ g g' seg, (seg = [] ∨ B (.arr g sz seg)) → B (.arr g' sz (seg ++ ys))) :
  ∃ v' σ', A.append sz most v (.sl sz ys) σ = some (v', σ') ∧ Hs B σ0 σ' (Sl E sz v' (l ++ xs) * R) := by
 rcases sl_cases H with ⟨rfl, hv, H⟩ | ⟨id, g, seg, rfl, hl, H⟩
 ·have hxl := els_len H
  by_cases hy : ys = []
  ·subst hy
   have : xs = [] := List.eq_nil_of_length_eq_zero (by simpa using hxl.symm)
   subst this
   refine ⟨v, σ, ?_, slz (hs_drop H) hv⟩
   rcases hv with rfl | rfl <;> simp [A.append, A.elems, A.appendL]
  ·refine ⟨.os σ.length ys.length sz 0 ys.length, σ ++ [.arr ys.length sz ys], ?_, ?_⟩
   ·have : ys.length ≤ most := by simp at hm; omega
    rcases hv with rfl | rfl <;> simp [A.append, A.elems, A.appendL, hy, this]
   ·have H2 := hs_new H (by simpa using hB 0 ys.length [] (.inl rfl) : B (.arr ys.length sz ys))
    exact sl_os H2 (by simpa using hxl)
 ·have hxl := els_len (hs_eq (show _ = els E ys xs * (blk id (.arr g sz seg) * (els E seg l * R)) by ac_rfl) H)
  obtain ⟨h1, h2⟩ := hs_get H
  by_cases hy : ys = []
  ·subst hy
   have : xs = [] := List.eq_nil_of_length_eq_zero (by simpa using hxl.symm)
   subst this
   refine ⟨.os id g sz 0 l.length, σ, ?_, ?_⟩
   ·have : l.length ≤ most := by simpa using hm
    simp [A.append, A.elems, A.appendL, h2, hl, this]
   ·rw [List.append_nil]
    exact sl_os (hs_eq (by rw [els, emp_star]) H)
  ·have hp : 0 < ys.length := List.length_pos_iff.2 hy
   refine ⟨.os id (g + ys.length) sz 0 (l.length + ys.length), σ.set id (.arr (g + ys.length) sz (seg ++ ys)), ?_, ?_⟩
   ·have e1 : l.length + ys.length ≤ most := by omega
    have e2 : seg.take l.length = seg := List.take_of_length_le (by omega)
    simp [A.append, A.elems, A.appendL, h2, hl, e1, hy, e2, hp]
   ·have H2 := hs_set (b' := .arr (g + ys.length) sz (seg ++ ys)) H (hB g _ seg (.inr (hs_B H)))
    exact sl_os (id := id) (g := g + ys.length) (seg := seg ++ ys) (hs_eq (by rw [els_app hl]; ac_rfl) H2) (by simp; omega)
end
end Go.Proofs.Ytphgchakmkankaa

namespace Go.Proofs.Ytphgchakmkankaa
set_option linter.unusedSectionVars false
set_option linter.unusedSimpArgs false
set_option linter.unusedVariables false
def m_strings_Compare : List AV → Heap → Option (AV × Heap) := A.ar2 fun a b σ => match a, b with
 | .str a, .str b => some (.int .i64 (Lib.compareBytes a.data.toList b.data.toList), σ)
 | _, _ => none
def m_slices_overlaps : List AV → Heap → Option (AV × Heap) := A.ar2 fun a b σ => match a, b with
 | .sl sz es, .os id g sz' off len => match σ[id]? with
  | some (.arr h s es') => if es ≠ [] ∧ g = h ∧ es' ≠ [] ∧ 0 < len then some (.bool false, σ) else none
  | _ => none
 | _, _ => none
end Go.Proofs.Ytphgchakmkankaa

namespace Go.Proofs.Ytphgchakmkankaa
set_option linter.unusedSectionVars false
set_option linter.unusedVariables false
set_option linter.unusedSimpArgs false
open HP
noncomputable def insR (sz most : Nat) (zs : List AV) (rot : List AV → Heap → Option (AV × Heap)) (a0 a1 a2 : AV) (σ : Heap) : Option (AV × Heap) :=
 (A.sliceS sz a0 (some a1) none σ).bind fun x1 =>
 (A.lenS a2).bind fun x2 =>
 (A.eql .i x2 (AV.int .i64 0)).bind fun x3 =>
 A.cond x3 (
  A.renew [a0, a1, a2] σ a0 σ) (
  (A.lenS a0).bind fun x4 =>
  (A.eql .i a1 x4).bind fun x5 =>
  A.cond x5 (
   (A.append sz most a0 a2 σ).bind fun r6 =>
   A.renew [a0, a1, a2] σ r6.1 r6.2) (
   (A.add x4 x2).bind fun x7 =>
   A.capM (A.capN a0) (fun x8 =>
    (A.gtr x7 x8).bind fun x9 =>
    A.cond x9 (
     (A.sliceS sz a0 none (some a1) σ).bind fun x10 =>
     (A.add x4 x2).bind fun x11 =>
     (A.sub x11 a1).bind fun x12 =>
     (A.appendZ sz most zs x10 x12 σ).bind fun r13 =>
     (A.sliceS sz r13.1 (some a1) none r13.2).bind fun x14 =>
     (A.copyS sz x14 a2 r13.2).bind fun r15 =>
     (A.add a1 x2).bind fun x16 =>
     (A.sliceS sz r13.1 (some x16) none r15.2).bind fun x17 =>
     (A.sliceS sz a0 (some a1) none r15.2).bind fun x18 =>
     (A.copyS sz x17 x18 r15.2).bind fun r19 =>
     A.renew [a0, a1, a2] σ r13.1 r19.2) (
     (A.add x4 x2).bind fun x20 =>
     (A.sliceS sz a0 none (some x20) σ).bind fun x21 =>
     (A.add a1 x2).bind fun x22 =>
     (A.sliceS sz x21 (some x22) none σ).bind fun x23 =>
     (m_slices_overlaps [a2, x23] σ).bind fun r24 =>
     (A.not r24.1).bind fun x25 =>
     A.cond x25 (
      (A.add a1 x2).bind fun x26 =>
      (A.sliceS sz x21 (some x26) none r24.2).bind fun x27 =>
      (A.sliceS sz x21 (some a1) none r24.2).bind fun x28 =>
      (A.copyS sz x27 x28 r24.2).bind fun r29 =>
      (A.sliceS sz x21 (some a1) none r29.2).bind fun x30 =>
      (A.copyS sz x30 a2 r29.2).bind fun r31 =>
      A.renew [a0, a1, a2] σ x21 r31.2) (
      (A.sliceS sz x21 (some x4) none r24.2).bind fun x32 =>
      (A.copyS sz x32 a2 r24.2).bind fun r33 =>
      (A.sliceS sz x21 (some a1) none r33.2).bind fun x34 =>
      (rot [x34, x2] r33.2).bind fun r35 =>
      A.renew [a0, a1, a2] σ x21 r35.2))) (A.capU a0 σ fun n36 s37 =>
    (A.gtr x7 (AV.int .i64 n36)).bind fun x38 =>
    A.cond x38 (
     (A.sliceS sz a0 none (some a1) s37).bind fun x39 =>
     (A.add x4 x2).bind fun x40 =>
     (A.sub x40 a1).bind fun x41 =>
     (A.appendZ sz most zs x39 x41 s37).bind fun r42 =>
     (A.sliceS sz r42.1 (some a1) none r42.2).bind fun x43 =>
     (A.copyS sz x43 a2 r42.2).bind fun r44 =>
     (A.add a1 x2).bind fun x45 =>
     (A.sliceS sz r42.1 (some x45) none r44.2).bind fun x46 =>
     (A.sliceS sz a0 (some a1) none r44.2).bind fun x47 =>
     (A.copyS sz x46 x47 r44.2).bind fun r48 =>
     A.renew [a0, a1, a2] σ r42.1 r48.2) (
     (A.add x4 x2).bind fun x49 =>
     (A.sliceS sz a0 none (some x49) s37).bind fun x50 =>
     (A.add a1 x2).bind fun x51 =>
     (A.sliceS sz x50 (some x51) none s37).bind fun x52 =>
     (m_slices_overlaps [a2, x52] s37).bind fun r53 =>
     (A.not r53.1).bind fun x54 =>
     A.cond x54 (
      (A.add a1 x2).bind fun x55 =>
      (A.sliceS sz x50 (some x55) none r53.2).bind fun x56 =>
      (A.sliceS sz x50 (some a1) none r53.2).bind fun x57 =>
      (A.copyS sz x56 x57 r53.2).bind fun r58 =>
      (A.sliceS sz x50 (some a1) none r58.2).bind fun x59 =>
      (A.copyS sz x59 a2 r58.2).bind fun r60 =>
      A.renew [a0, a1, a2] σ x50 r60.2) (
      (A.sliceS sz x50 (some x4) none r53.2).bind fun x61 =>
      (A.copyS sz x61 a2 r53.2).bind fun r62 =>
      (A.sliceS sz x50 (some a1) none r62.2).bind fun x63 =>
      (rot [x63, x2] r62.2).bind fun r64 =>
      A.renew [a0, a1, a2] σ x50 r64.2)))))
noncomputable def delR (sz most : Nat) (zs : List AV) (a0 a1 a2 : AV) (σ : Heap) : Option (AV × Heap) :=
 (A.lenS a0).bind fun x1 =>
 (A.slice3 a0 (some a1) a2 x1).bind fun x2 =>
 (A.eql .i a1 a2).bind fun x3 =>
 A.cond x3 (
  A.renew [a0, a1, a2] σ a0 σ) (
  (A.lenS a0).bind fun x4 =>
  (A.sliceS sz a0 none (some a1) σ).bind fun x5 =>
  (A.sliceS sz a0 (some a2) none σ).bind fun x6 =>
  (A.append sz most x5 x6 σ).bind fun r7 =>
  (A.lenS r7.1).bind fun x8 =>
  (A.sliceS sz r7.1 (some x8) (some x4) r7.2).bind fun x9 =>
  (A.clearS sz zs x9 r7.2).bind fun h10 =>
  A.renew [a0, a1, a2] σ r7.1 h10)
section
variable {σ : Heap} {id g sz off len : Nat} {es : List (List AV)}
theorem cnd_t {α : Type} {X Y : Option α} : A.cond (.bool true) X Y = X := rfl
theorem cnd_f {α : Type} {X Y : Option α} : A.cond (.bool false) X Y = Y := rfl
theorem capM_os {R : Type} {k : AV → Option R} {u : Option R} : A.capM (A.capN (.os id g sz off len)) k u = u := rfl
theorem bnd_s {y d k : Nat} (h : k ≤ y) : A.bound y d (some (.int .i64 (k : Int))) = some k := by
 have : (k : Int) ≤ y := by omega
 simp [A.bound, this]
theorem bnd_n {y d : Nat} : A.bound y d none = some d := rfl
theorem room_arr (h : σ[id]? = some (.arr g sz es)) (hl : off + len ≤ es.length) : A.room σ id g sz off len = es.length - off := by simp [A.room, h, hl]
theorem room_arrF (h : σ[id]? = some (.arrF g sz es)) : A.room σ id g sz off len = len := by simp [A.room, h]
theorem slo {lo hi : Option AV} {r h l : Nat} (hr : A.room σ id g sz off len = r) (hh : A.bound r len hi = some h) (hl : A.bound h 0 lo = some l) : A.sliceS sz (.os id g sz off len) lo hi σ = some (.os id g sz (off + l) (h - l)) := by
 simp [A.sliceS, hr, hh, hl]
theorem add_nn {a b : Nat} (h : a + b < 9223372036854775808) : A.add (.int .i64 (a : Int)) (.int .i64 (b : Int)) = some (.int .i64 ((a + b : Nat) : Int)) := by
 rw [aAdd, wrap64 (by unfold inI; omega)]; simp
theorem sub_nn {a b : Nat} (h : b ≤ a) (h2 : a < 9223372036854775808) : A.sub (.int .i64 (a : Int)) (.int .i64 (b : Int)) = some (.int .i64 ((a - b : Nat) : Int)) := by
 rw [aSub, wrap64 (by unfold inI; omega), Int.ofNat_sub h]
theorem eq_nn (a b : Nat) : A.eql .i (.int .i64 (a : Int)) (.int .i64 (b : Int)) = some (.bool (decide (a = b))) := by
 rw [aEq]
 have : ((a : Int) = (b : Int)) = (a = b) := propext ⟨fun h => by omega, fun h => by omega⟩
 simp only [this]
theorem all_of {R : Type} {p : Nat → Prop} {k : Nat → Option R} {r : R} (n : Nat) (hn : p n) (h : ∀ n, p n → k n = some r) : A.all p k = some r := by
 have hx : ∃ r, ∀ n, p n → k n = some r := ⟨r, h⟩
 unfold A.all
 rw [dif_pos hx]
 have := Classical.choose_spec hx n hn
 rw [h n hn] at this
 injection this with this
 rw [← this]
theorem copy_os {σ : Heap} {y : AV} {ys : List (List AV)} (h : σ[id]? = some (.arr g sz es)) (hl : off + len ≤ es.length) (hy : A.elems sz y σ = some ys) (h0 : ys.length ≠ 0) (h1 : len ≠ 0) :
  A.copyS sz (.os id g sz off len) y σ = some (.int .i64 (ys.take len).length, σ.set id (.arr g sz (es.take off ++ ys.take len ++ es.drop (off + (ys.take len).length)))) := by
 simp only [A.copyS, hy, Option.bind_some, h]
 rw [if_pos (by simp [hl]), if_neg (by simp only [not_or]; exact ⟨h0, h1⟩)]
theorem elems_os (h : σ[id]? = some (.arr g sz es)) (hl : off + len ≤ es.length) : A.elems sz (.os id g sz off len) σ = some ((es.drop off).take len) := by
 simp [A.elems, h, hl]
theorem elems_osF (h : σ[id]? = some (.arrF g sz es)) (hl : off + len ≤ es.length) : A.elems sz (.os id g sz off len) σ = some ((es.drop off).take len) := by
 simp [A.elems, h, hl]
end
section
variable {α : Type} {E : List AV → α → HP} {σ0 σ : Heap} {R : HP} {sz most : Nat} {zs : List AV} {rot : List AV → Heap → Option (AV × Heap)} {v : AV} {l : List α} {y : α} {ye : List AV} {i : Nat}
theorem gen_ins (id g n : Nat) (i : AV) (hi : ∃ k : Int, i = .int .i64 k) : A.gen [.os id g sz 0 n, i, .sl sz [ye]] = g + n + 1 := by
 obtain ⟨k, rfl⟩ := hi
 simp [A.gen]
theorem ins_mid {id g n : Nat} {seg : List (List AV)} (hs : σ[id]? = some (.arr g sz seg)) (hl : seg.length = n) (hi : i < n) (hm : n + 1 ≤ most) (hb : n < 4611686018427387904) :
  insR sz most zs rot (.os id g sz 0 n) (.int .i64 (i : Int)) (.sl sz [ye]) σ = some (.os id (g + n + 2) sz 0 (n + 1), σ.set id (.arr (g + n + 2) sz (seg.take i ++ [ye] ++ seg.drop i))) := by
 have hid := (List.getElem?_eq_some_iff.1 hs).1
 have hgen : A.gen [.os id g sz 0 n, .int .i64 (i : Int), .sl sz [ye]] = g + n + 1 := gen_ins id g n _ ⟨_, rfl⟩
 unfold insR
 rw [slo (room_arr hs (by omega)) bnd_n (bnd_s (k := i) (by omega)), Option.bind_some]
 rw [show A.lenS (.sl sz [ye]) = some (.int .i64 ((1 : Nat) : Int)) from rfl, Option.bind_some]
 rw [show A.eql .i (.int .i64 ((1 : Nat) : Int)) (.int .i64 0) = some (.bool false) from rfl, Option.bind_some]
 rw [cnd_f]
 rw [show A.lenS (.os id g sz 0 n) = some (.int .i64 (n : Int)) from rfl, Option.bind_some, eq_nn, Option.bind_some, decide_eq_false (by omega)]
 rw [cnd_f, add_nn (by omega), Option.bind_some, capM_os]
 simp only [A.capU, hs]
 rw [if_pos (by simp; omega)]
 refine all_of n (by omega) fun c hc => ?_
 obtain ⟨hc1, hc2⟩ := hc
 by_cases ht : c = n
 ·subst ht
  rw [if_pos rfl]
  obtain ⟨σ1, hσ1⟩ : ∃ σ1, σ1 = σ.set id (.arrF g sz seg) := ⟨_, rfl⟩
  have h1 : σ1[id]? = some (.arrF g sz seg) := by rw [hσ1, List.getElem?_set_self hid]
  have hl1 : σ1.length = σ.length := by rw [hσ1, List.length_set]
  rw [← hσ1]
  rw [show A.gtr (.int .i64 ((c + 1 : Nat) : Int)) (.int .i64 (c : Int)) = some (.bool true) by simp [A.gtr]; omega, Option.bind_some]
  rw [cnd_t, slo (room_arrF h1) (bnd_s (k := i) (by omega)) bnd_n, Option.bind_some, add_nn (by omega), Option.bind_some, sub_nn (by omega) (by omega), Option.bind_some]
  obtain ⟨rows, hrows⟩ : ∃ rows, rows = seg.take i ++ List.replicate (c + 1 - i) zs := ⟨_, rfl⟩
  have hrl : rows.length = c + 1 := by rw [hrows]; simp; omega
  have e1 : A.appendZ sz most zs (.os id g sz (0 + 0) (i - 0)) (.int .i64 ((c + 1 - i : Nat) : Int)) σ1 = some (.os σ1.length (c + 1) sz 0 (c + 1), σ1 ++ [.arr (c + 1) sz rows]) := by
   have q1 : (0 : Int) ≤ ((c + 1 - i : Nat) : Int) ∧ ((c + 1 - i : Nat) : Int) ≤ most := by omega
   have q2 : i + (c + 1 - i) = c + 1 := by omega
   simp only [A.appendZ]
   rw [if_pos q1]
   simp only [A.appendL, Nat.zero_add, Nat.sub_zero, h1, Int.toNat_natCast, List.length_replicate, List.drop_zero, ← hrows]
   rw [if_pos (by simp; omega), q2]
  rw [e1, Option.bind_some]
  simp only
  have h2 : (σ1 ++ [Blk.arr (c + 1) sz rows])[σ1.length]? = some (.arr (c + 1) sz rows) := by simp
  rw [slo (room_arr h2 (by omega)) bnd_n (bnd_s (k := i) (by omega)), Option.bind_some]
  rw [copy_os (ys := [ye]) h2 (by omega) (by simp [A.elems]) (by simp) (by omega), Option.bind_some]
  have e2 : ([ye] : List (List AV)).take (c + 1 - i) = [ye] := List.take_of_length_le (by simp; omega)
  rw [e2]
  simp only [Nat.zero_add, List.length_singleton]
  rw [Option.bind_some]
  obtain ⟨rows2, hrows2⟩ : ∃ rows2, rows2 = rows.take i ++ [ye] ++ rows.drop (i + 1) := ⟨_, rfl⟩
  have hrl2 : rows2.length = c + 1 := by rw [hrows2]; simp; omega
  rw [← hrows2]
  have hset : (σ1 ++ [Blk.arr (c + 1) sz rows]).set σ1.length (.arr (c + 1) sz rows2) = σ1 ++ [.arr (c + 1) sz rows2] := by simp
  rw [hset]
  have h3 : (σ1 ++ [Blk.arr (c + 1) sz rows2])[σ1.length]? = some (.arr (c + 1) sz rows2) := by simp
  have h3' : (σ1 ++ [Blk.arr (c + 1) sz rows2])[id]? = some (.arrF g sz seg) := by rw [List.getElem?_append_left (by omega)]; exact h1
  rw [slo (room_arr h3 (by omega)) bnd_n (bnd_s (k := i + 1) (by omega)), Option.bind_some]
  rw [slo (room_arrF h3') bnd_n (bnd_s (k := i) (by omega)), Option.bind_some]
  rw [copy_os h3 (by omega) (elems_osF h3' (by omega)) (by simp; omega) (by omega), Option.bind_some]
  have e3 : ((seg.drop (0 + i)).take (c - i)).take (c + 1 - (i + 1)) = seg.drop i := by
   rw [Nat.zero_add, List.take_of_length_le (by simp; omega), List.take_of_length_le (by simp; omega)]
  rw [e3]
  have e4 : rows2.take (0 + (i + 1)) ++ seg.drop i ++ rows2.drop (0 + (i + 1) + (seg.drop i).length) = seg.take i ++ [ye] ++ seg.drop i := by
   have q1 : rows2.drop (0 + (i + 1) + (seg.drop i).length) = [] := List.drop_of_length_le (by simp; omega)
   have q2 : rows.take i = seg.take i := by rw [hrows, List.take_append_of_le_length (by simp; omega), List.take_take, Nat.min_self]
   have q3 : rows2.take (0 + (i + 1)) = seg.take i ++ [ye] := by
    rw [hrows2, q2, Nat.zero_add, List.take_append_of_le_length (by simp; omega), List.take_of_length_le (by simp; omega)]
   rw [q1, q3]; simp
  rw [e4]
  have hset2 : (σ1 ++ [Blk.arr (c + 1) sz rows2]).set σ1.length (.arr (c + 1) sz (seg.take i ++ [ye] ++ seg.drop i)) = σ1 ++ [.arr (c + 1) sz (seg.take i ++ [ye] ++ seg.drop i)] := by simp
  simp only
  rw [hset2]
  have h4 : (σ1 ++ [Blk.arr (c + 1) sz (seg.take i ++ [ye] ++ seg.drop i)])[σ1.length]? = some (.arr (c + 1) sz (seg.take i ++ [ye] ++ seg.drop i)) := by simp
  have hsl : (seg.take i ++ [ye] ++ seg.drop i).length = c + 1 := by simp; omega
  have e5 : ((seg.take i ++ [ye] ++ seg.drop i).drop 0).take (c + 1) = seg.take i ++ [ye] ++ seg.drop i := by rw [List.drop_zero, List.take_of_length_le (by omega)]
  simp only [A.renew, h4]
  rw [hgen, if_pos (by simp only [true_and]; omega), if_neg (by simp [A.hdOs, hl1]), e5]
  simp only [A.merge, hs, hgen]
  rw [if_pos]
  ·rw [hsl]
  refine ⟨by omega, by simp [hl1], rfl, by omega, fun j hj hne => ?_, by rw [List.getElem?_append_left (by omega)]; exact h1, fun z hz => ?_⟩
  ·rw [List.getElem?_append_left (by omega), hσ1, List.getElem?_set_ne (fun e => hne e.symm)]
  ·simp only [List.mem_append, List.mem_singleton] at hz
   rcases hz with (hz | hz) | hz
   ·exact .inl (List.mem_of_mem_take hz)
   ·right; simp [A.rowsOf, hz]
   ·exact .inl (List.mem_of_mem_drop hz)
 ·rw [if_neg ht]
  obtain ⟨es, hes⟩ : ∃ es, es = seg ++ List.replicate (0 + c - seg.length) (List.replicate sz AV.undef) := ⟨_, rfl⟩
  have hel : es.length = c := by rw [hes]; simp; omega
  have het : ∀ k, k ≤ n → es.take k = seg.take k := fun k hk => by rw [hes, List.take_append_of_le_length (by omega)]
  obtain ⟨σ1, hσ1⟩ : ∃ σ1, σ1 = σ.set id (.arr g sz es) := ⟨_, rfl⟩
  have h1 : σ1[id]? = some (.arr g sz es) := by rw [hσ1, List.getElem?_set_self hid]
  have hl1 : id < σ1.length := by rw [hσ1, List.length_set]; exact hid
  rw [← hes, ← hσ1]
  rw [show A.gtr (.int .i64 ((n + 1 : Nat) : Int)) (.int .i64 (c : Int)) = some (.bool false) by simp [A.gtr]; omega, Option.bind_some]
  rw [cnd_f, add_nn (by omega), Option.bind_some]
  rw [slo (room_arr h1 (by omega)) (bnd_s (k := n + 1) (by omega)) bnd_n, Option.bind_some, Option.bind_some]
  simp only [Nat.zero_add, Nat.sub_zero]
  rw [slo (room_arr h1 (by omega)) bnd_n (bnd_s (k := i + 1) (by omega)), Option.bind_some]
  have e1 : m_slices_overlaps [.sl sz [ye], .os id g sz (0 + (i + 1)) (n + 1 - (i + 1))] σ1 = some (.bool false, σ1) := by
   simp only [m_slices_overlaps, A.ar2, h1]
   rw [if_pos]
   refine ⟨by simp, trivial, fun e => ?_, by omega⟩
   rw [e] at hel; simp at hel; omega
  rw [e1, Option.bind_some, show A.not (.bool false) = some (.bool true) from rfl, Option.bind_some, cnd_t, Option.bind_some]
  simp only
  rw [slo (room_arr h1 (by omega)) bnd_n (bnd_s (k := i + 1) (by omega)), Option.bind_some]
  rw [slo (room_arr h1 (by omega)) bnd_n (bnd_s (k := i) (by omega)), Option.bind_some]
  rw [copy_os h1 (by omega) (elems_os h1 (by omega)) (by simp; omega) (by omega), Option.bind_some]
  have e2 : ((es.drop (0 + i)).take (n + 1 - i)).take (n + 1 - (i + 1)) = seg.drop i := by
   rw [List.take_take, Nat.zero_add, show min (n + 1 - (i + 1)) (n + 1 - i) = n - i by omega, List.take_drop, show i + (n - i) = n by omega, het n (Nat.le_refl _), List.take_of_length_le (by omega)]
  rw [e2]
  obtain ⟨es2, hes2⟩ : ∃ es2, es2 = es.take (0 + (i + 1)) ++ seg.drop i ++ es.drop (0 + (i + 1) + (seg.drop i).length) := ⟨_, rfl⟩
  have hel2 : es2.length = c := by rw [hes2]; simp; omega
  rw [← hes2]
  have h2 : (σ1.set id (.arr g sz es2))[id]? = some (.arr g sz es2) := List.getElem?_set_self hl1
  simp only
  rw [slo (room_arr h2 (by omega)) bnd_n (bnd_s (k := i) (by omega)), Option.bind_some]
  rw [copy_os (ys := [ye]) h2 (by omega) (by simp [A.elems]) (by simp) (by omega), Option.bind_some]
  have e3 : ([ye] : List (List AV)).take (n + 1 - i) = [ye] := List.take_of_length_le (by simp; omega)
  rw [e3]
  simp only [Nat.zero_add, List.length_singleton, List.set_set]
  obtain ⟨es3, hes3⟩ : ∃ es3, es3 = es2.take i ++ [ye] ++ es2.drop (i + 1) := ⟨_, rfl⟩
  have hel3 : es3.length = c := by rw [hes3]; simp; omega
  rw [← hes3]
  have h3 : (σ1.set id (.arr g sz es3))[id]? = some (.arr g sz es3) := List.getElem?_set_self hl1
  have e4 : (es3.drop 0).take (n + 1) = seg.take i ++ [ye] ++ seg.drop i := by
   have q1 : es2.take i = seg.take i := by rw [hes2, List.append_assoc, List.take_append_of_le_length (by simp; omega), List.take_take, show min i (0 + (i + 1)) = i by omega, het i (by omega)]
   have q2 : es2.drop (i + 1) = seg.drop i ++ es.drop (i + 1 + (seg.drop i).length) := by
    rw [hes2, Nat.zero_add, List.append_assoc, List.drop_append_of_le_length (by simp; omega), List.drop_of_length_le (by simp; omega), List.nil_append]
   rw [List.drop_zero, hes3, q1, q2, ← List.append_assoc, List.take_append_of_le_length (by simp; omega), List.take_of_length_le (by simp; omega)]
  simp only [A.renew, h3]
  rw [hgen, if_pos (by simp only [true_and]; omega), if_pos (.inl hid), e4, List.set_set, hσ1, List.set_set]
theorem ins_end {id g n : Nat} {seg : List (List AV)} (hs : σ[id]? = some (.arr g sz seg)) (hl : seg.length = n) (hm : n + 1 ≤ most) :
  insR sz most zs rot (.os id g sz 0 n) (.int .i64 (n : Int)) (.sl sz [ye]) σ = some (.os id (g + n + 2) sz 0 (n + 1), σ.set id (.arr (g + n + 2) sz (seg ++ [ye]))) := by
 have hid := (List.getElem?_eq_some_iff.1 hs).1
 have hgen : A.gen [.os id g sz 0 n, .int .i64 (n : Int), .sl sz [ye]] = g + n + 1 := gen_ins id g n _ ⟨_, rfl⟩
 unfold insR
 rw [slo (room_arr hs (by omega)) bnd_n (bnd_s (k := n) (by omega)), Option.bind_some]
 rw [show A.lenS (.sl sz [ye]) = some (.int .i64 ((1 : Nat) : Int)) from rfl, Option.bind_some]
 rw [show A.eql .i (.int .i64 ((1 : Nat) : Int)) (.int .i64 0) = some (.bool false) from rfl, Option.bind_some]
 rw [cnd_f]
 rw [show A.lenS (.os id g sz 0 n) = some (.int .i64 (n : Int)) from rfl, Option.bind_some, eq_nn, Option.bind_some, decide_eq_true rfl, cnd_t]
 have e1 : A.append sz most (.os id g sz 0 n) (.sl sz [ye]) σ = some (.os id (g + 1) sz 0 (n + 1), σ.set id (.arr (g + 1) sz (seg ++ [ye]))) := by
  have q : seg.take n = seg := List.take_of_length_le (by omega)
  simp [A.append, A.elems, A.appendL, hs, hl, hm, q]
 rw [e1, Option.bind_some]
 have h2 : (σ.set id (.arr (g + 1) sz (seg ++ [ye])))[id]? = some (.arr (g + 1) sz (seg ++ [ye])) := List.getElem?_set_self hid
 simp only [A.renew, h2]
 rw [hgen, if_pos (by simp; omega), if_pos (.inl hid), List.set_set, List.drop_zero, List.take_of_length_le (by simp; omega)]
theorem ins_nil (hv : v = .nsl ∨ v = .ez) (hm : 1 ≤ most) : insR sz most zs rot v (.int .i64 0) (.sl sz [ye]) σ = some (.os σ.length 2 sz 0 1, σ ++ [.arr 2 sz [ye]]) := by
 have hgen : ∀ w : AV, (w = .nsl ∨ w = .ez) → A.gen [w, .int .i64 0, .sl sz [ye]] = 1 := by
  rintro w (rfl | rfl) <;> simp [A.gen]
 have hbd : A.bound 0 0 (some (AV.int .i64 0)) = some 0 := bnd_s (y := 0) (d := 0) (k := 0) (Nat.le_refl _)
 have key : ∀ w : AV, (w = .nsl ∨ w = .ez) → A.renew [w, .int .i64 0, .sl sz [ye]] σ (.os σ.length 1 sz 0 1) (σ ++ [.arr 1 sz [ye]]) = some (.os σ.length 2 sz 0 1, σ ++ [.arr 2 sz [ye]]) := by
  intro w hw
  have h2 : (σ ++ [Blk.arr 1 sz [ye]])[σ.length]? = some (.arr 1 sz [ye]) := by simp
  simp only [A.renew, h2]
  rw [hgen w hw, if_pos (by simp), if_pos (.inr (by rcases hw with rfl | rfl <;> rfl))]
  simp
 unfold insR
 rw [show A.lenS (.sl sz [ye]) = some (.int .i64 ((1 : Nat) : Int)) from rfl]
 rcases hv with rfl | rfl
 ·rw [show A.sliceS sz .nsl (some (.int .i64 0)) none σ = some .nsl by simp [A.sliceS, bnd_n, hbd], Option.bind_some, Option.bind_some]
  rw [show A.eql .i (.int .i64 ((1 : Nat) : Int)) (.int .i64 0) = some (.bool false) from rfl, Option.bind_some, cnd_f]
  rw [show A.lenS .nsl = some (.int .i64 0) from rfl, Option.bind_some, show A.eql .i (.int .i64 0) (.int .i64 0) = some (.bool true) from rfl, Option.bind_some, cnd_t]
  rw [show A.append sz most .nsl (.sl sz [ye]) σ = some (.os σ.length 1 sz 0 1, σ ++ [.arr 1 sz [ye]]) by simp [A.append, A.elems, A.appendL, hm], Option.bind_some]
  exact key _ (.inl rfl)
 ·rw [show A.sliceS sz .ez (some (.int .i64 0)) none σ = some .ez by simp [A.sliceS, bnd_n, hbd], Option.bind_some, Option.bind_some]
  rw [show A.eql .i (.int .i64 ((1 : Nat) : Int)) (.int .i64 0) = some (.bool false) from rfl, Option.bind_some, cnd_f]
  rw [show A.lenS .ez = some (.int .i64 0) from rfl, Option.bind_some, show A.eql .i (.int .i64 0) (.int .i64 0) = some (.bool true) from rfl, Option.bind_some, cnd_t]
  rw [show A.append sz most .ez (.sl sz [ye]) σ = some (.os σ.length 1 sz 0 1, σ ++ [.arr 1 sz [ye]]) by simp [A.append, A.elems, A.appendL, hm], Option.bind_some]
  exact key _ (.inr rfl)
theorem sl_ins {B : Blk → Prop} (H : Hs B σ0 σ (Sl E sz v l * (E ye y * R))) (hi : i ≤ l.length) (hm : l.length + 1 ≤ most) (hb : l.length < 4611686018427387904) (hB : ∀ g g' seg k, (seg = [] ∨ B (.arr g sz seg)) → B (.arr g' sz (seg.take k ++ [ye] ++ seg.drop k))) :
  ∃ v' σ', insR sz most zs rot v (.int .i64 (i : Int)) (.sl sz [ye]) σ = some (v', σ') ∧ Hs B σ0 σ' (Sl E sz v' (l.take i ++ [y] ++ l.drop i) * R) := by
 rcases sl_cases H with ⟨rfl, hv, H⟩ | ⟨id, g, seg, rfl, hl, H⟩
 ·have hi0 : i = 0 := by simpa using hi
  subst hi0
  refine ⟨_, _, ins_nil hv (by simpa using hm), ?_⟩
  have H2 := hs_new (b := .arr 2 sz [ye]) H (by simpa using hB 0 2 [] 0 (.inl rfl))
  exact sl_os (id := σ.length) (g := 2) (seg := [ye]) (hs_eq (by simp only [List.take_nil, List.drop_nil, List.nil_append, List.append_nil, els_one]) H2) rfl
 ·obtain ⟨h1, h2⟩ := hs_get H
  have e : ∃ g', insR sz most zs rot (.os id g sz 0 l.length) (.int .i64 (i : Int)) (.sl sz [ye]) σ = some (.os id g' sz 0 (l.length + 1), σ.set id (.arr g' sz (seg.take i ++ [ye] ++ seg.drop i))) := by
   by_cases hil : i = l.length
   ·subst hil
    refine ⟨g + l.length + 2, ?_⟩
    rw [ins_end h2 hl hm, List.take_of_length_le (by omega), List.drop_of_length_le (by omega), List.append_nil]
   ·exact ⟨_, ins_mid h2 hl (by omega) hm hb⟩
  obtain ⟨g', e⟩ := e
  refine ⟨_, _, e, ?_⟩
  have H2 := hs_set (b' := .arr g' sz (seg.take i ++ [ye] ++ seg.drop i)) H (hB g g' seg i (.inr (hs_B H)))
  refine sl_os (id := id) (g := g') (seg := seg.take i ++ [ye] ++ seg.drop i) (hs_eq ?_ H2) (by simp; omega)
  have q : els E seg l = els E (seg.take i) (l.take i) * els E (seg.drop i) (l.drop i) := by
   rw [← els_app (by simp; omega), List.take_append_drop, List.take_append_drop]
  rw [els_app (es1 := seg.take i ++ [ye]) (l1 := l.take i ++ [y]) (by simp; omega), els_app (by simp; omega), els_one, q]
  ac_rfl
theorem gen_del (id g n : Nat) (i j : Int) : A.gen [.os id g sz 0 n, .int .i64 i, .int .i64 j] = g + n := by simp [A.gen]
theorem sl_del {B : Blk → Prop} {x : α} (H : Hs B σ0 σ (Sl E sz v l * R)) (hx : l[i]? = some x) (hm : l.length ≤ most) (hb : l.length < 4611686018427387904) (hB : ∀ g g' seg k, B (.arr g sz seg) → B (.arr g' sz (seg.eraseIdx k))) :
  ∃ v' σ' xe, (∃ p, A.iaddr sz v (.int .i64 (i : Int)) = some p ∧ A.deref p σ = some xe) ∧ delR sz most zs v (.int .i64 (i : Int)) (.int .i64 ((i + 1 : Nat) : Int)) σ = some (v', σ') ∧ Hs B σ0 σ' (Sl E sz v' (l.eraseIdx i) * (E xe x * R)) := by
 have hil := (List.getElem?_eq_some_iff.1 hx).1
 rcases sl_cases H with ⟨rfl, hv, H⟩ | ⟨id, g, seg, rfl, hl, H⟩
 ·simp at hx
 ·obtain ⟨h1, h2⟩ := hs_get H
  have hid := (List.getElem?_eq_some_iff.1 h2).1
  obtain ⟨n, hn⟩ : ∃ n, n = l.length := ⟨_, rfl⟩
  obtain ⟨xe, hxe⟩ : ∃ xe, seg[i]? = some xe := ⟨_, List.getElem?_eq_getElem (by omega)⟩
  have hgen : A.gen [.os id g sz 0 n, .int .i64 (i : Int), .int .i64 ((i + 1 : Nat) : Int)] = g + n := gen_del id g n _ _
  have e : delR sz most zs (.os id g sz 0 n) (.int .i64 (i : Int)) (.int .i64 ((i + 1 : Nat) : Int)) σ = some (.os id (g + n + 1) sz 0 (n - 1), σ.set id (.arr (g + n + 1) sz (seg.eraseIdx i))) := by
   unfold delR
   rw [show A.lenS (.os id g sz 0 n) = some (.int .i64 (n : Int)) from rfl, Option.bind_some]
   have s3 : A.slice3 (.os id g sz 0 n) (some (.int .i64 (i : Int))) (.int .i64 ((i + 1 : Nat) : Int)) (.int .i64 (n : Int)) = some .undef := by
    simp only [A.slice3, A.lenS, Option.bind_some, Int.toNat_natCast]
    rw [bnd_s (Nat.le_refl n), Option.bind_some, bnd_s (show i + 1 ≤ n by omega), Option.bind_some, bnd_s (show i ≤ i + 1 by omega), Option.map_some, if_neg (by omega)]
   rw [s3, Option.bind_some, eq_nn, Option.bind_some, decide_eq_false (by omega), cnd_f, Option.bind_some]
   rw [slo (room_arr h2 (by omega)) (bnd_s (k := i) (by omega)) bnd_n, Option.bind_some]
   rw [slo (room_arr h2 (by omega)) bnd_n (bnd_s (k := i + 1) (by omega)), Option.bind_some]
   obtain ⟨es, hes⟩ : ∃ es, es = seg.take i ++ seg.drop (i + 1) ++ seg.drop (i + (n - (i + 1))) := ⟨_, rfl⟩
   have hel : es.length = n := by rw [hes]; simp; omega
   have e1 : A.append sz most (.os id g sz (0 + 0) (i - 0)) (.os id g sz (0 + (i + 1)) (n - (i + 1))) σ = some (.os id g sz 0 (n - 1), σ.set id (.arr g sz es)) := by
    have q : ((seg.drop (0 + (i + 1))).take (n - (i + 1))) = seg.drop (i + 1) := by rw [Nat.zero_add, List.take_of_length_le (by simp; omega)]
    simp only [A.append, elems_os h2 (by omega : 0 + (i + 1) + (n - (i + 1)) ≤ seg.length), Option.bind_some, q, A.appendL, h2]
    rw [if_pos (by simp; omega)]
    by_cases hlast : seg.drop (i + 1) = []
    ·have hni : n = i + 1 := by
      have := congrArg List.length hlast
      simp at this; omega
     rw [if_pos hlast]
     have qe : es = seg := by rw [hes, hlast, hni]; simp
     rw [qe, show n - 1 = i - 0 by omega]
     congr 2
     apply List.ext_getElem?
     intro k
     rw [List.getElem?_set]
     split
     ·rename_i ek; subst ek; rw [h2]
     ·rfl
    ·rw [if_neg hlast, if_pos (by simp; omega)]
     congr 2
     ·congr 1; simp; omega
     ·rw [hes]
      congr 2
      simp only [Nat.zero_add, Nat.sub_zero, List.length_drop]
      rw [show seg.length - (i + 1) = n - (i + 1) by omega]
   rw [e1, Option.bind_some]
   simp only
   have h3 : (σ.set id (.arr g sz es))[id]? = some (.arr g sz es) := List.getElem?_set_self hid
   rw [show A.lenS (.os id g sz 0 (n - 1)) = some (.int .i64 ((n - 1 : Nat) : Int)) from rfl, Option.bind_some]
   rw [slo (room_arr h3 (by omega)) (bnd_s (k := n) (by omega)) (bnd_s (k := n - 1) (by omega)), Option.bind_some]
   have e2 : A.clearS sz zs (.os id g sz (0 + (n - 1)) (n - (n - 1))) (σ.set id (.arr g sz es)) = some (σ.set id (.arr g sz (es.take (n - 1) ++ List.replicate (n - (n - 1)) zs ++ es.drop n))) := by
    simp only [A.clearS, h3]
    rw [if_pos (by simp; omega), if_neg (by omega), List.set_set, Nat.zero_add, show n - 1 + (n - (n - 1)) = n by omega]
   rw [e2, Option.bind_some]
   have h4 : (σ.set id (.arr g sz (es.take (n - 1) ++ List.replicate (n - (n - 1)) zs ++ es.drop n)))[id]? = some (.arr g sz (es.take (n - 1) ++ List.replicate (n - (n - 1)) zs ++ es.drop n)) := List.getElem?_set_self hid
   simp only [A.renew, h4]
   rw [hgen, if_pos (by simp; omega), if_pos (.inl hid), List.set_set, List.drop_zero, List.append_assoc, List.take_append_of_le_length (by simp; omega), List.take_take, Nat.min_self]
   congr 4
   rw [hes, List.take_append_of_le_length (by simp; omega), List.take_of_length_le (by simp; omega), List.eraseIdx_eq_take_drop_succ]
  rw [hn] at e
  have hi' : ((i : Int) < (l.length : Int)) := by omega
  refine ⟨_, _, xe, ⟨.oe id g i 0, by simp [A.iaddr, A.idx, hi'], by simp [A.deref, h2, hxe]⟩, e, ?_⟩
  have H2 := hs_set (b' := .arr (g + l.length + 1) sz (seg.eraseIdx i)) H (hB g _ seg i (hs_B H))
  refine sl_os (id := id) (g := g + l.length + 1) (seg := seg.eraseIdx i) (hs_eq ?_ H2) (by rw [List.length_eraseIdx, if_pos hil])
  rw [els_at hl hxe hx]
  ac_rfl
end
end Go.Proofs.Ytphgchakmkankaa

namespace Go.Proofs.Ytphgchakmkankaa
set_option linter.unusedSectionVars false
set_option linter.unusedVariables false
set_option linter.unusedSimpArgs false
def chkE {α : Type} (f : Nat → α → Int) : List α → Nat → Int
 | [], _ => 0
 | x :: l, i => if f i x = 0 then chkE f l (i + 1) else f i x
section
variable {α β γ S B R : Type}
theorem chkE_zero {f : Nat → α → Int} : ∀ (l : List α) (i : Nat), chkE f l i = 0 ↔ ∀ j x, l[j]? = some x → f (i + j) x = 0
 | [], i => by simp [chkE]
 | y :: l, i => by
  rw [chkE]
  by_cases h : f i y = 0
  ·rw [if_pos h, chkE_zero l (i + 1)]
   constructor
   ·intro k j x hx
    cases j with
    | zero => simp at hx; subst hx; exact h
    | succ j => have := k j x (by simpa using hx); rwa [show i + 1 + j = i + (j + 1) by omega] at this
   ·intro k j x hx
    have := k (j + 1) x (by simpa using hx)
    rwa [show i + (j + 1) = i + 1 + j by omega] at this
  ·rw [if_neg h]
   exact ⟨fun e => absurd e h, fun k => absurd (k 0 y rfl) h⟩
theorem forE_le {l : List α} {body : Nat → α → S → Option (Lr S B R)} {fin : S → Option B} {s : S} {K1 : B → Option γ} {K2 : R → Option γ} (hl : l.length ≤ mxl) : forE l body fin s K1 K2 = (forL body fin l 0 s).bind fun q => q.elim K1 K2 := if_pos hl
theorem forE_chk {f : Nat → α → Int} {l : List α} {body : Nat → α → Unit → Option (Lr Unit Unit Int)} {fin : Unit → Option Unit} {s : Unit} {K1 : Unit → Option γ} {K2 : Int → Option γ} (hl : l.length ≤ mxl) (hb : ∀ i x, l[i]? = some x → body i x () = some (if f i x = 0 then .go () else .ret (f i x))) (hf : fin () = some () := by rfl) : forE l body fin s K1 K2 = if chkE f l 0 = 0 then K1 () else K2 (chkE f l 0) := by
 rw [forE_le hl]
 have key : ∀ (rest pre : List α), l = pre ++ rest → forL body fin rest pre.length () = some (if chkE f rest pre.length = 0 then .inl () else .inr (chkE f rest pre.length)) := by
  intro rest
  induction rest with
  | nil => intro pre _; simp [forL, hf, chkE]
  | cons x rest ih =>
   intro pre hp
   rw [forL, hb pre.length x (by rw [hp]; simp), Option.bind_some, chkE]
   by_cases h : f pre.length x = 0
   ·simp only [h, if_true]
    have := ih (pre ++ [x]) (by simpa using hp)
    simpa using this
   ·simp only [h, if_false]
 have k := key l [] rfl
 rw [List.length_nil] at k
 rw [show s = () from rfl, k, Option.bind_some]
 split <;> rfl
theorem ite_ret {p : Prop} [Decidable p] {k f : Int} {Y : Option (Lr Unit Unit Int)} (hk : k ≠ 0) (h : Y = some (if f = 0 then .go () else .ret f)) : (if p then some (.ret k) else Y) = some (if (if p then k else f) = 0 then .go () else .ret (if p then k else f)) := by
 by_cases hp : p
 ·simp [hp, hk]
 ·simp [hp, h]
theorem go_ret : (some (.go ()) : Option (Lr Unit Unit Int)) = some (if (0 : Int) = 0 then .go () else .ret 0) := rfl
theorem forE_find {p : α → Bool} {l : List α} {body : Nat → α → Unit → Option (Lr Unit Unit R)} {r : α → R} {fin : Unit → Option Unit} {s : Unit} {K1 : Unit → Option γ} {K2 : R → Option γ} (hl : l.length ≤ mxl) (hb : ∀ i x, l[i]? = some x → body i x () = some (if p x = true then .ret (r x) else .go ())) (hf : fin () = some () := by rfl) : forE l body fin s K1 K2 = match l.find? p with | some x => K2 (r x) | none => K1 () := by
 rw [forE_le hl]
 have key : ∀ (rest pre : List α), l = pre ++ rest → forL body fin rest pre.length () = some (match rest.find? p with | some x => .inr (r x) | none => .inl ()) := by
  intro rest
  induction rest with
  | nil => intro pre _; simp [forL, hf]
  | cons x rest ih =>
   intro pre hp
   rw [forL, hb pre.length x (by rw [hp]; simp), Option.bind_some, List.find?_cons]
   cases h : p x
   ·simp only [Bool.false_eq_true, if_false]
    have := ih (pre ++ [x]) (by simpa using hp)
    simpa using this
   ·simp only [if_true]
 have k := key l [] rfl
 rw [List.length_nil] at k
 rw [show s = () from rfl, k, Option.bind_some]
 cases l.find? p <;> rfl
theorem forE_fold {l : List α} {body : Nat → α → S → Option (Lr S B R)} {fin : S → Option B} {s : S} {K1 : B → Option γ} {K2 : R → Option γ} (g : S → α → S) (P : Nat → S → Prop) (hl : l.length ≤ mxl) (h0 : P 0 s) (hP : ∀ i x s, l[i]? = some x → P i s → P (i + 1) (g s x)) (hb : ∀ i x s, l[i]? = some x → P i s → body i x s = some (.go (g s x))) : forE l body fin s K1 K2 = (fin (l.foldl g s)).bind K1 := by
 rw [forE_le hl]
 have key : ∀ (rest pre : List α) (s : S), l = pre ++ rest → P pre.length s → forL body fin rest pre.length s = (fin (rest.foldl g s)).map .inl := by
  intro rest
  induction rest with
  | nil => intro pre s _ _; simp [forL]
  | cons x rest ih =>
   intro pre s hp hq
   have hx : l[pre.length]? = some x := by rw [hp]; simp
   rw [forL, hb pre.length x s hx hq, Option.bind_some, List.foldl_cons]
   have := ih (pre ++ [x]) (g s x) (by simpa using hp) (by simpa using hP _ _ _ hx hq)
   simpa using this
 have k := key l [] s rfl h0
 rw [List.length_nil] at k
 rw [k]
 cases fin (l.foldl g s) <;> rfl
def pv [Inhabited α] (l : List α) (i : Nat) : α := if 0 < i then l.getD (i - 1) default else default
theorem tIx_get {l : List α} {i : Int} {x : α} (h0 : 0 ≤ i) (h : l[i.toNat]? = some x) : tIx l i = some x := by rw [tIx, if_pos h0, h]
theorem prev_at [Inhabited α] {l : List α} {i : Nat} {x : α} (h : l[i]? = some x) (hl : l.length ≤ mxl) : (if decide (0 < (i : Int)) = true then tIx l (IntKind.i64.wrap ((i : Int) - 1)) else some default) = some (pv l i) := by
 have hi := (List.getElem?_eq_some_iff.1 h).1
 unfold pv
 by_cases h0 : 0 < i
 ·rw [if_pos (by simpa using h0), if_pos h0, wrap64 (by unfold inI; unfold mxl at hl; omega)]
  refine tIx_get (by omega) ?_
  have : ((i : Int) - 1).toNat = i - 1 := by omega
  rw [this, List.getD, List.getElem?_eq_getElem (by omega)]
  rfl
 ·rw [if_neg (by simpa using h0), if_neg h0]
theorem last_at [Inhabited α] {l : List α} {i : Nat} {x : α} (h : l[i]? = some x) (hl : l.length ≤ mxl) : (if decide (0 < ((l.take i).length : Int)) = true then tIx (l.take i) (IntKind.i64.wrap (((l.take i).length : Int) - 1)) else some default) = some (pv l i) := by
 have hi := (List.getElem?_eq_some_iff.1 h).1
 have e : (l.take i).length = i := by simp; omega
 rw [e]
 unfold pv
 by_cases h0 : 0 < i
 ·rw [if_pos (by simpa using h0), if_pos h0, wrap64 (by unfold inI; unfold mxl at hl; omega)]
  refine tIx_get (by omega) ?_
  have : ((i : Int) - 1).toNat = i - 1 := by omega
  rw [this, List.getD, List.getElem?_take, if_pos (by omega), List.getElem?_eq_getElem (by omega)]
  rfl
 ·rw [if_neg (by simpa using h0), if_neg h0]
theorem tSl_pre {l : List α} {i : Nat} (h : i ≤ l.length) : tSl l none (some (i : Int)) = some (l.take i) := by
 simp [tSl, h]
end
theorem toList_d (s : ByteArray) : s.toList = s.data.toList := ByteArray.toList_eq s
theorem cmpB_lt : ∀ (a b : List UInt8), Lib.compareBytes a b < 0 ↔ Op.bytesLess a b = true
 | [], [] => by simp [Lib.compareBytes, Op.bytesLess]
 | [], _ :: _ => by simp [Lib.compareBytes, Op.bytesLess]
 | _ :: _, [] => by simp [Lib.compareBytes, Op.bytesLess]
 | a :: x, b :: y => by
  rw [Lib.compareBytes, Op.bytesLess]
  by_cases h1 : a < b
  ·simp [h1]
  ·by_cases h2 : b < a
   ·have : a ≠ b := by rintro rfl; exact h1 h2
    simp [h1, h2, this]
   ·have : a = b := UInt8.le_antisymm (UInt8.not_lt.1 h2) (UInt8.not_lt.1 h1)
    subst this
    simp [UInt8.lt_irrefl, cmpB_lt x y]
theorem cmpB_eq : ∀ (a b : List UInt8), Lib.compareBytes a b = 0 ↔ a = b
 | [], [] => by simp [Lib.compareBytes]
 | [], _ :: _ => by simp [Lib.compareBytes]
 | _ :: _, [] => by simp [Lib.compareBytes]
 | a :: x, b :: y => by
  rw [Lib.compareBytes]
  by_cases h1 : a < b
  ·have : a ≠ b := by rintro rfl; exact UInt8.lt_irrefl _ h1
   simp [h1, this]
  ·by_cases h2 : b < a
   ·have : a ≠ b := by rintro rfl; exact UInt8.lt_irrefl _ h2
    simp [h1, h2, this]
   ·have : a = b := UInt8.le_antisymm (UInt8.not_lt.1 h2) (UInt8.not_lt.1 h1)
    subst this
    simp [UInt8.lt_irrefl, cmpB_eq x y]
def ltK (a b : KeyD) : Bool := decide (a.unit < b.unit) || (decide (a.unit = b.unit) && Op.bytesLess a.param.toList b.param.toList)
def cmpK (a b : KeyD) : Int := if ¬ (a.unit = b.unit) then (if a.unit < b.unit then -1 else 1) else Lib.compareBytes a.param.data.toList b.param.data.toList
theorem cmpK_lt (a b : KeyD) : cmpK a b < 0 ↔ ltK a b = true := by
 unfold cmpK ltK
 by_cases h : a.unit = b.unit
 ·simp [h, toList_d, cmpB_lt]
 ·by_cases h2 : a.unit < b.unit <;> simp [h, h2]
theorem cmpK_ge (a b : KeyD) : decide (0 ≤ cmpK a b) = !ltK a b := by
 have := cmpK_lt a b
 cases h : ltK a b
 ·rw [h] at this; simp at this; simp [this]
 ·rw [h] at this; simp at this; simp [this]
theorem cmpK_eq (a b : KeyD) : cmpK a b = 0 ↔ a = b := by
 obtain ⟨u, p⟩ := a
 obtain ⟨v, q⟩ := b
 unfold cmpK
 by_cases h : u = v
 ·subst h
  simp only [not_true_eq_false, if_false, cmpB_eq, KeyD.mk.injEq, true_and]
  exact ⟨fun e => by obtain ⟨⟨p⟩⟩ := p; obtain ⟨⟨q⟩⟩ := q; simp at e; subst e; rfl, fun e => by rw [e]⟩
 ·by_cases h2 : u < v <;> simp [h, h2]
end Go.Proofs.Ytphgchakmkankaa

namespace Go.Proofs.Ytphgchakmkankaa
set_option linter.unusedSectionVars false
set_option linter.unusedSimpArgs false
set_option linter.unusedVariables false
set_option maxRecDepth 100000
noncomputable def r_slices_IndexFunc_api_Move (dyn : Nat → List AV → Heap → Option (AV × Heap)) (a0 a1 : AV) (σ : Heap) : Option (AV × Heap) :=
 (A.lenS a0).bind fun x1 =>
 (A.loop (fun v2 s3 =>
   (A.lss (v2.getD 1 AV.undef) x1).bind fun x5 =>
   A.cond x5 (
    (A.iaddr 8 a0 (v2.getD 1 AV.undef)).bind fun x6 =>
    ((A.deref x6 s3).bind fun c7 => A.partA 0 8 c7).bind fun x8 =>
    (A.callv dyn a1 [x8] s3).bind fun r9 =>
    A.cond r9.1 (
     some (AX.ret, [(v2.getD 1 AV.undef), (v2.getD 1 AV.undef)], r9.2)) (
     (A.add (v2.getD 1 AV.undef) (AV.int .i64 1)).bind fun x10 =>
     some (AX.normal, [(v2.getD 0 AV.undef), x10], r9.2))) (
    some (AX.exit 0, [(v2.getD 0 AV.undef), (v2.getD 1 AV.undef)], s3))) [(AV.int .i64 0), (AV.int .i64 0)] σ).bind fun r11 =>
 bif r11.1 == AX.exit 0 then (
  A.fin σ (AV.int .i64 (-1)) r11.2.2) else
 bif r11.1 == AX.ret then (
  A.fin σ (r11.2.1.getD 0 AV.undef) r11.2.2) else
 none
noncomputable def m_slices_IndexFunc_api_Move (dyn : Nat → List AV → Heap → Option (AV × Heap)) : List AV → Heap → Option (AV × Heap) := A.wrap true [(.s 8)] .k (A.ar2 (r_slices_IndexFunc_api_Move dyn))
noncomputable def r_slices_Clone_api_Entry (a0 : AV) (σ : Heap) : Option (AV × Heap) :=
 (A.eqN a0 AV.nsl).bind fun x1 =>
 A.cond x1 (
  some (AV.nsl, σ)) (
  (A.append 5 (140737488355328 / 48) AV.ez a0 σ).bind fun r2 =>
  some (r2.1, r2.2))
noncomputable def m_slices_Clone_api_Entry : List AV → Heap → Option (AV × Heap) := A.cloneZ (A.wrap true [(.s 5)] .k (A.ar1 r_slices_Clone_api_Entry))
noncomputable def r_slices_Delete_api_Entry (a0 a1 a2 : AV) (σ : Heap) : Option (AV × Heap) :=
 (A.lenS a0).bind fun x1 =>
 (A.slice3 a0 (some a1) a2 x1).bind fun x2 =>
 (A.eql .i a1 a2).bind fun x3 =>
 A.cond x3 (
  A.renew [a0, a1, a2] σ a0 σ) (
  (A.lenS a0).bind fun x4 =>
  (A.sliceS 5 a0 none (some a1) σ).bind fun x5 =>
  (A.sliceS 5 a0 (some a2) none σ).bind fun x6 =>
  (A.append 5 (140737488355328 / 48) x5 x6 σ).bind fun r7 =>
  (A.lenS r7.1).bind fun x8 =>
  (A.sliceS 5 r7.1 (some x8) (some x4) r7.2).bind fun x9 =>
  (A.clearS 5 [(AV.int .i64 0), (AV.str ⟨#[]⟩), (AV.int .i64 0), (AV.int .i64 0), (AV.int .i64 0)] x9 r7.2).bind fun h10 =>
  A.renew [a0, a1, a2] σ r7.1 h10)
noncomputable def m_slices_Delete_api_Entry : List AV → Heap → Option (AV × Heap) := A.wrap false [] .k (A.ar3 r_slices_Delete_api_Entry)
noncomputable def r_slices_Reverse_api_Entry (a0 : AV) (σ : Heap) : Option (AV × Heap) :=
 (A.lenS a0).bind fun x1 =>
 (A.sub x1 (AV.int .i64 1)).bind fun x2 =>
 (A.loop (fun v3 s4 =>
   (A.lss (v3.getD 0 AV.undef) (v3.getD 1 AV.undef)).bind fun x6 =>
   A.cond x6 (
    (A.iaddr 5 a0 (v3.getD 1 AV.undef)).bind fun x7 =>
    ((A.deref x7 s4).bind fun c8 => A.partA 0 5 c8).bind fun x9 =>
    (A.iaddr 5 a0 (v3.getD 0 AV.undef)).bind fun x10 =>
    ((A.deref x10 s4).bind fun c11 => A.partA 0 5 c11).bind fun x12 =>
    (A.iaddr 5 a0 (v3.getD 0 AV.undef)).bind fun x13 =>
    (A.cells 5 x9).bind fun c14 =>
    (A.storeAt x13 c14 s4).bind fun c15 =>
    (A.iaddr 5 a0 (v3.getD 1 AV.undef)).bind fun x16 =>
    (A.cells 5 x12).bind fun c17 =>
    (A.storeAt x16 c17 c15).bind fun c18 =>
    (A.add (v3.getD 0 AV.undef) (AV.int .i64 1)).bind fun x19 =>
    (A.sub (v3.getD 1 AV.undef) (AV.int .i64 1)).bind fun x20 =>
    some (AX.normal, [x19, x20], c18)) (
    some (AX.exit 0, [(v3.getD 0 AV.undef), (v3.getD 1 AV.undef)], s4))) [(AV.int .i64 0), x2] σ).bind fun r21 =>
 bif r21.1 == AX.exit 0 then (
  some ((AV.tup []), r21.2.2)) else
 none
noncomputable def m_slices_Reverse_api_Entry : List AV → Heap → Option (AV × Heap) := A.wrap false [] .k (A.ar1 r_slices_Reverse_api_Entry)
noncomputable def r_slices_rotateLeft_api_Entry (a0 a1 : AV) (σ : Heap) : Option (AV × Heap) :=
 (A.sliceS 5 a0 none (some a1) σ).bind fun x1 =>
 (m_slices_Reverse_api_Entry [x1] σ).bind fun r2 =>
 (A.sliceS 5 a0 (some a1) none r2.2).bind fun x3 =>
 (m_slices_Reverse_api_Entry [x3] r2.2).bind fun r4 =>
 (m_slices_Reverse_api_Entry [a0] r4.2).bind fun r5 =>
 some ((AV.tup []), r5.2)
noncomputable def m_slices_rotateLeft_api_Entry : List AV → Heap → Option (AV × Heap) := A.wrap false [] .k (A.ar2 r_slices_rotateLeft_api_Entry)
noncomputable def r_slices_rotateRight_api_Entry (a0 a1 : AV) (σ : Heap) : Option (AV × Heap) :=
 (A.lenS a0).bind fun x1 =>
 (A.sub x1 a1).bind fun x2 =>
 (m_slices_rotateLeft_api_Entry [a0, x2] σ).bind fun r3 =>
 some ((AV.tup []), r3.2)
noncomputable def m_slices_rotateRight_api_Entry : List AV → Heap → Option (AV × Heap) := A.wrap false [] .k (A.ar2 r_slices_rotateRight_api_Entry)
noncomputable def r_slices_Insert_api_Entry (a0 a1 a2 : AV) (σ : Heap) : Option (AV × Heap) :=
 (A.sliceS 5 a0 (some a1) none σ).bind fun x1 =>
 (A.lenS a2).bind fun x2 =>
 (A.eql .i x2 (AV.int .i64 0)).bind fun x3 =>
 A.cond x3 (
  A.renew [a0, a1, a2] σ a0 σ) (
  (A.lenS a0).bind fun x4 =>
  (A.eql .i a1 x4).bind fun x5 =>
  A.cond x5 (
   (A.append 5 (140737488355328 / 48) a0 a2 σ).bind fun r6 =>
   A.renew [a0, a1, a2] σ r6.1 r6.2) (
   (A.add x4 x2).bind fun x7 =>
   A.capM (A.capN a0) (fun x8 =>
    (A.gtr x7 x8).bind fun x9 =>
    A.cond x9 (
     (A.sliceS 5 a0 none (some a1) σ).bind fun x10 =>
     (A.add x4 x2).bind fun x11 =>
     (A.sub x11 a1).bind fun x12 =>
     (A.appendZ 5 (140737488355328 / 48) [(AV.int .i64 0), (AV.str ⟨#[]⟩), (AV.int .i64 0), (AV.int .i64 0), (AV.int .i64 0)] x10 x12 σ).bind fun r13 =>
     (A.sliceS 5 r13.1 (some a1) none r13.2).bind fun x14 =>
     (A.copyS 5 x14 a2 r13.2).bind fun r15 =>
     (A.add a1 x2).bind fun x16 =>
     (A.sliceS 5 r13.1 (some x16) none r15.2).bind fun x17 =>
     (A.sliceS 5 a0 (some a1) none r15.2).bind fun x18 =>
     (A.copyS 5 x17 x18 r15.2).bind fun r19 =>
     A.renew [a0, a1, a2] σ r13.1 r19.2) (
     (A.add x4 x2).bind fun x20 =>
     (A.sliceS 5 a0 none (some x20) σ).bind fun x21 =>
     (A.add a1 x2).bind fun x22 =>
     (A.sliceS 5 x21 (some x22) none σ).bind fun x23 =>
     (m_slices_overlaps [a2, x23] σ).bind fun r24 =>
     (A.not r24.1).bind fun x25 =>
     A.cond x25 (
      (A.add a1 x2).bind fun x26 =>
      (A.sliceS 5 x21 (some x26) none r24.2).bind fun x27 =>
      (A.sliceS 5 x21 (some a1) none r24.2).bind fun x28 =>
      (A.copyS 5 x27 x28 r24.2).bind fun r29 =>
      (A.sliceS 5 x21 (some a1) none r29.2).bind fun x30 =>
      (A.copyS 5 x30 a2 r29.2).bind fun r31 =>
      A.renew [a0, a1, a2] σ x21 r31.2) (
      (A.sliceS 5 x21 (some x4) none r24.2).bind fun x32 =>
      (A.copyS 5 x32 a2 r24.2).bind fun r33 =>
      (A.sliceS 5 x21 (some a1) none r33.2).bind fun x34 =>
      (m_slices_rotateRight_api_Entry [x34, x2] r33.2).bind fun r35 =>
      A.renew [a0, a1, a2] σ x21 r35.2))) (A.capU a0 σ fun n36 s37 =>
    (A.gtr x7 (AV.int .i64 n36)).bind fun x38 =>
    A.cond x38 (
     (A.sliceS 5 a0 none (some a1) s37).bind fun x39 =>
     (A.add x4 x2).bind fun x40 =>
     (A.sub x40 a1).bind fun x41 =>
     (A.appendZ 5 (140737488355328 / 48) [(AV.int .i64 0), (AV.str ⟨#[]⟩), (AV.int .i64 0), (AV.int .i64 0), (AV.int .i64 0)] x39 x41 s37).bind fun r42 =>
     (A.sliceS 5 r42.1 (some a1) none r42.2).bind fun x43 =>
     (A.copyS 5 x43 a2 r42.2).bind fun r44 =>
     (A.add a1 x2).bind fun x45 =>
     (A.sliceS 5 r42.1 (some x45) none r44.2).bind fun x46 =>
     (A.sliceS 5 a0 (some a1) none r44.2).bind fun x47 =>
     (A.copyS 5 x46 x47 r44.2).bind fun r48 =>
     A.renew [a0, a1, a2] σ r42.1 r48.2) (
     (A.add x4 x2).bind fun x49 =>
     (A.sliceS 5 a0 none (some x49) s37).bind fun x50 =>
     (A.add a1 x2).bind fun x51 =>
     (A.sliceS 5 x50 (some x51) none s37).bind fun x52 =>
     (m_slices_overlaps [a2, x52] s37).bind fun r53 =>
     (A.not r53.1).bind fun x54 =>
     A.cond x54 (
      (A.add a1 x2).bind fun x55 =>
      (A.sliceS 5 x50 (some x55) none r53.2).bind fun x56 =>
      (A.sliceS 5 x50 (some a1) none r53.2).bind fun x57 =>
      (A.copyS 5 x56 x57 r53.2).bind fun r58 =>
      (A.sliceS 5 x50 (some a1) none r58.2).bind fun x59 =>
      (A.copyS 5 x59 a2 r58.2).bind fun r60 =>
      A.renew [a0, a1, a2] σ x50 r60.2) (
      (A.sliceS 5 x50 (some x4) none r53.2).bind fun x61 =>
      (A.copyS 5 x61 a2 r53.2).bind fun r62 =>
      (A.sliceS 5 x50 (some a1) none r62.2).bind fun x63 =>
      (m_slices_rotateRight_api_Entry [x63, x2] r62.2).bind fun r64 =>
      A.renew [a0, a1, a2] σ x50 r64.2)))))
noncomputable def m_slices_Insert_api_Entry : List AV → Heap → Option (AV × Heap) := A.wrap false [] .k (A.ar3 r_slices_Insert_api_Entry)
noncomputable def r_slices_Clone_api_Point (a0 : AV) (σ : Heap) : Option (AV × Heap) :=
 (A.eqN a0 AV.nsl).bind fun x1 =>
 A.cond x1 (
  some (AV.nsl, σ)) (
  (A.append 2 (140737488355328 / 16) AV.ez a0 σ).bind fun r2 =>
  some (r2.1, r2.2))
noncomputable def m_slices_Clone_api_Point : List AV → Heap → Option (AV × Heap) := A.cloneZ (A.wrap true [(.s 2)] .k (A.ar1 r_slices_Clone_api_Point))
noncomputable def r_slices_Clone_api_Move (a0 : AV) (σ : Heap) : Option (AV × Heap) :=
 (A.eqN a0 AV.nsl).bind fun x1 =>
 A.cond x1 (
  some (AV.nsl, σ)) (
  (A.append 8 (140737488355328 / 64) AV.ez a0 σ).bind fun r2 =>
  some (r2.1, r2.2))
noncomputable def m_slices_Clone_api_Move : List AV → Heap → Option (AV × Heap) := A.cloneZ (A.wrap true [(.s 8)] .k (A.ar1 r_slices_Clone_api_Move))
noncomputable def r_slices_BinarySearchFunc_api_Cue_int (dyn : Nat → List AV → Heap → Option (AV × Heap)) (a0 a1 a2 : AV) (σ : Heap) : Option (AV × Heap) :=
 (A.lenS a0).bind fun x1 =>
 (A.loop (fun v2 s3 =>
   (A.lss (v2.getD 0 AV.undef) (v2.getD 1 AV.undef)).bind fun x5 =>
   A.cond x5 (
    (A.add (v2.getD 0 AV.undef) (v2.getD 1 AV.undef)).bind fun x6 =>
    (A.conv .u64 x6).bind fun x7 =>
    (A.shr x7 (AV.int .u64 1)).bind fun x8 =>
    (A.conv .i64 x8).bind fun x9 =>
    (A.iaddr 11 a0 x9).bind fun x10 =>
    ((A.deref x10 s3).bind fun c11 => A.partA 0 11 c11).bind fun x12 =>
    (A.callv dyn a2 [x12, a1] s3).bind fun r13 =>
    (A.lss r13.1 (AV.int .i64 0)).bind fun x14 =>
    (A.cond x14 (
     (A.add x9 (AV.int .i64 1)).bind fun x16 =>
     some ([x16, (v2.getD 1 AV.undef)], r13.2)) (
     some ([(v2.getD 0 AV.undef), x9], r13.2))).bind fun r15 =>
    some (AX.normal, [(r15.1.getD 0 AV.undef), (r15.1.getD 1 AV.undef)], r15.2)) (
    some (AX.exit 0, [(v2.getD 0 AV.undef), (v2.getD 1 AV.undef)], s3))) [(AV.int .i64 0), x1] σ).bind fun r17 =>
 bif r17.1 == AX.exit 0 then (
  (A.lss (r17.2.1.getD 0 AV.undef) x1).bind fun x18 =>
  (A.guard x18 true (some a2) (some (AV.tup []))).bind fun x19 =>
  (A.guard x18 true (some a0) (some (AV.tup []))).bind fun x20 =>
  (A.guard x18 true (some (r17.2.1.getD 0 AV.undef)) (some (AV.tup []))).bind fun x21 =>
  (A.guard x18 true (A.iaddr 11 x20 x21) (some (AV.tup []))).bind fun x22 =>
  (A.guard x18 true ((A.deref x22 r17.2.2).bind fun c23 => A.partA 0 11 c23) (some (AV.tup []))).bind fun x24 =>
  (A.guard x18 true (some a1) (some (AV.tup []))).bind fun x25 =>
  (A.guard x18 true (A.quiet (A.callv dyn x19 [x24, x25] r17.2.2) r17.2.2) (some (AV.tup []))).bind fun x26 =>
  (A.guard x18 true (A.eql .i x26 (AV.int .i64 0)) (some (AV.tup []))).bind fun x27 =>
  (A.pick x18 x27 (AV.bool false)).bind fun x28 =>
  A.fin σ (AV.tup [(r17.2.1.getD 0 AV.undef), x28]) r17.2.2) else
 none
noncomputable def m_slices_BinarySearchFunc_api_Cue_int (dyn : Nat → List AV → Heap → Option (AV × Heap)) : List AV → Heap → Option (AV × Heap) := A.wrap true [(.s 11)] .k (A.ar3 (r_slices_BinarySearchFunc_api_Cue_int dyn))
noncomputable def r_slices_BinarySearchFunc_api_Move_api_Key (dyn : Nat → List AV → Heap → Option (AV × Heap)) (a0 a1 a2 : AV) (σ : Heap) : Option (AV × Heap) :=
 (A.cells 2 a1).bind fun c1 =>
 (A.lenS a0).bind fun x2 =>
 (A.loop (fun v3 s4 =>
   (A.lss (v3.getD 1 AV.undef) (v3.getD 2 AV.undef)).bind fun x6 =>
   A.cond x6 (
    (A.add (v3.getD 1 AV.undef) (v3.getD 2 AV.undef)).bind fun x7 =>
    (A.conv .u64 x7).bind fun x8 =>
    (A.shr x8 (AV.int .u64 1)).bind fun x9 =>
    (A.conv .i64 x9).bind fun x10 =>
    (A.iaddr 8 a0 x10).bind fun x11 =>
    ((A.deref x11 s4).bind fun c12 => A.partA 0 8 c12).bind fun x13 =>
    ((A.lb (v3.getD 0 AV.undef)).bind fun c14 => A.partA 0 2 c14).bind fun x15 =>
    (A.quiet (A.callv dyn a2 [x13, x15] s4) s4).bind fun x16 =>
    (A.lss x16 (AV.int .i64 0)).bind fun x17 =>
    (A.cond x17 (
     (A.add x10 (AV.int .i64 1)).bind fun x19 =>
     some ([(v3.getD 0 AV.undef), x19, (v3.getD 2 AV.undef)], s4)) (
     some ([(v3.getD 0 AV.undef), (v3.getD 1 AV.undef), x10], s4))).bind fun r18 =>
    some (AX.normal, [(r18.1.getD 0 AV.undef), (r18.1.getD 1 AV.undef), (r18.1.getD 2 AV.undef)], r18.2)) (
    some (AX.exit 0, [(v3.getD 0 AV.undef), (v3.getD 1 AV.undef), (v3.getD 2 AV.undef)], s4))) [(AV.lbx c1), (AV.int .i64 0), x2] σ).bind fun r20 =>
 bif r20.1 == AX.exit 0 then (
  (A.lss (r20.2.1.getD 1 AV.undef) x2).bind fun x21 =>
  (A.guard x21 true (some a2) (some (AV.tup []))).bind fun x22 =>
  (A.guard x21 true (some a0) (some (AV.tup []))).bind fun x23 =>
  (A.guard x21 true (some (r20.2.1.getD 1 AV.undef)) (some (AV.tup []))).bind fun x24 =>
  (A.guard x21 true (A.iaddr 8 x23 x24) (some (AV.tup []))).bind fun x25 =>
  (A.guard x21 true ((A.deref x25 r20.2.2).bind fun c26 => A.partA 0 8 c26) (some (AV.tup []))).bind fun x27 =>
  (A.guard x21 true ((A.lb (r20.2.1.getD 0 AV.undef)).bind fun c28 => A.partA 0 2 c28) (some (AV.tup []))).bind fun x29 =>
  (A.guard x21 true (A.quiet (A.callv dyn x22 [x27, x29] r20.2.2) r20.2.2) (some (AV.tup []))).bind fun x30 =>
  (A.guard x21 true (A.eql .i x30 (AV.int .i64 0)) (some (AV.tup []))).bind fun x31 =>
  (A.pick x21 x31 (AV.bool false)).bind fun x32 =>
  A.fin σ (AV.tup [(r20.2.1.getD 1 AV.undef), x32]) r20.2.2) else
 none
noncomputable def m_slices_BinarySearchFunc_api_Move_api_Key (dyn : Nat → List AV → Heap → Option (AV × Heap)) : List AV → Heap → Option (AV × Heap) := A.wrap true [(.s 8)] .k (A.ar3 (r_slices_BinarySearchFunc_api_Move_api_Key dyn))
noncomputable def r_slices_Reverse_api_Move (a0 : AV) (σ : Heap) : Option (AV × Heap) :=
 (A.lenS a0).bind fun x1 =>
 (A.sub x1 (AV.int .i64 1)).bind fun x2 =>
 (A.loop (fun v3 s4 =>
   (A.lss (v3.getD 0 AV.undef) (v3.getD 1 AV.undef)).bind fun x6 =>
   A.cond x6 (
    (A.iaddr 8 a0 (v3.getD 1 AV.undef)).bind fun x7 =>
    ((A.deref x7 s4).bind fun c8 => A.partA 0 8 c8).bind fun x9 =>
    (A.iaddr 8 a0 (v3.getD 0 AV.undef)).bind fun x10 =>
    ((A.deref x10 s4).bind fun c11 => A.partA 0 8 c11).bind fun x12 =>
    (A.iaddr 8 a0 (v3.getD 0 AV.undef)).bind fun x13 =>
    (A.cells 8 x9).bind fun c14 =>
    (A.storeAt x13 c14 s4).bind fun c15 =>
    (A.iaddr 8 a0 (v3.getD 1 AV.undef)).bind fun x16 =>
    (A.cells 8 x12).bind fun c17 =>
    (A.storeAt x16 c17 c15).bind fun c18 =>
    (A.add (v3.getD 0 AV.undef) (AV.int .i64 1)).bind fun x19 =>
    (A.sub (v3.getD 1 AV.undef) (AV.int .i64 1)).bind fun x20 =>
    some (AX.normal, [x19, x20], c18)) (
    some (AX.exit 0, [(v3.getD 0 AV.undef), (v3.getD 1 AV.undef)], s4))) [(AV.int .i64 0), x2] σ).bind fun r21 =>
 bif r21.1 == AX.exit 0 then (
  some ((AV.tup []), r21.2.2)) else
 none
noncomputable def m_slices_Reverse_api_Move : List AV → Heap → Option (AV × Heap) := A.wrap false [] .k (A.ar1 r_slices_Reverse_api_Move)
noncomputable def r_slices_rotateLeft_api_Move (a0 a1 : AV) (σ : Heap) : Option (AV × Heap) :=
 (A.sliceS 8 a0 none (some a1) σ).bind fun x1 =>
 (m_slices_Reverse_api_Move [x1] σ).bind fun r2 =>
 (A.sliceS 8 a0 (some a1) none r2.2).bind fun x3 =>
 (m_slices_Reverse_api_Move [x3] r2.2).bind fun r4 =>
 (m_slices_Reverse_api_Move [a0] r4.2).bind fun r5 =>
 some ((AV.tup []), r5.2)
noncomputable def m_slices_rotateLeft_api_Move : List AV → Heap → Option (AV × Heap) := A.wrap false [] .k (A.ar2 r_slices_rotateLeft_api_Move)
noncomputable def r_slices_rotateRight_api_Move (a0 a1 : AV) (σ : Heap) : Option (AV × Heap) :=
 (A.lenS a0).bind fun x1 =>
 (A.sub x1 a1).bind fun x2 =>
 (m_slices_rotateLeft_api_Move [a0, x2] σ).bind fun r3 =>
 some ((AV.tup []), r3.2)
noncomputable def m_slices_rotateRight_api_Move : List AV → Heap → Option (AV × Heap) := A.wrap false [] .k (A.ar2 r_slices_rotateRight_api_Move)
noncomputable def r_slices_Insert_api_Move (a0 a1 a2 : AV) (σ : Heap) : Option (AV × Heap) :=
 (A.sliceS 8 a0 (some a1) none σ).bind fun x1 =>
 (A.lenS a2).bind fun x2 =>
 (A.eql .i x2 (AV.int .i64 0)).bind fun x3 =>
 A.cond x3 (
  A.renew [a0, a1, a2] σ a0 σ) (
  (A.lenS a0).bind fun x4 =>
  (A.eql .i a1 x4).bind fun x5 =>
  A.cond x5 (
   (A.append 8 (140737488355328 / 64) a0 a2 σ).bind fun r6 =>
   A.renew [a0, a1, a2] σ r6.1 r6.2) (
   (A.add x4 x2).bind fun x7 =>
   A.capM (A.capN a0) (fun x8 =>
    (A.gtr x7 x8).bind fun x9 =>
    A.cond x9 (
     (A.sliceS 8 a0 none (some a1) σ).bind fun x10 =>
     (A.add x4 x2).bind fun x11 =>
     (A.sub x11 a1).bind fun x12 =>
     (A.appendZ 8 (140737488355328 / 64) [(AV.int .i64 0), (AV.str ⟨#[]⟩), (AV.int .i64 0), (AV.int .i64 0), (AV.bool false), (AV.bool false), (AV.int .i64 0), (AV.int .i64 0)] x10 x12 σ).bind fun r13 =>
     (A.sliceS 8 r13.1 (some a1) none r13.2).bind fun x14 =>
     (A.copyS 8 x14 a2 r13.2).bind fun r15 =>
     (A.add a1 x2).bind fun x16 =>
     (A.sliceS 8 r13.1 (some x16) none r15.2).bind fun x17 =>
     (A.sliceS 8 a0 (some a1) none r15.2).bind fun x18 =>
     (A.copyS 8 x17 x18 r15.2).bind fun r19 =>
     A.renew [a0, a1, a2] σ r13.1 r19.2) (
     (A.add x4 x2).bind fun x20 =>
     (A.sliceS 8 a0 none (some x20) σ).bind fun x21 =>
     (A.add a1 x2).bind fun x22 =>
     (A.sliceS 8 x21 (some x22) none σ).bind fun x23 =>
     (m_slices_overlaps [a2, x23] σ).bind fun r24 =>
     (A.not r24.1).bind fun x25 =>
     A.cond x25 (
      (A.add a1 x2).bind fun x26 =>
      (A.sliceS 8 x21 (some x26) none r24.2).bind fun x27 =>
      (A.sliceS 8 x21 (some a1) none r24.2).bind fun x28 =>
      (A.copyS 8 x27 x28 r24.2).bind fun r29 =>
      (A.sliceS 8 x21 (some a1) none r29.2).bind fun x30 =>
      (A.copyS 8 x30 a2 r29.2).bind fun r31 =>
      A.renew [a0, a1, a2] σ x21 r31.2) (
      (A.sliceS 8 x21 (some x4) none r24.2).bind fun x32 =>
      (A.copyS 8 x32 a2 r24.2).bind fun r33 =>
      (A.sliceS 8 x21 (some a1) none r33.2).bind fun x34 =>
      (m_slices_rotateRight_api_Move [x34, x2] r33.2).bind fun r35 =>
      A.renew [a0, a1, a2] σ x21 r35.2))) (A.capU a0 σ fun n36 s37 =>
    (A.gtr x7 (AV.int .i64 n36)).bind fun x38 =>
    A.cond x38 (
     (A.sliceS 8 a0 none (some a1) s37).bind fun x39 =>
     (A.add x4 x2).bind fun x40 =>
     (A.sub x40 a1).bind fun x41 =>
     (A.appendZ 8 (140737488355328 / 64) [(AV.int .i64 0), (AV.str ⟨#[]⟩), (AV.int .i64 0), (AV.int .i64 0), (AV.bool false), (AV.bool false), (AV.int .i64 0), (AV.int .i64 0)] x39 x41 s37).bind fun r42 =>
     (A.sliceS 8 r42.1 (some a1) none r42.2).bind fun x43 =>
     (A.copyS 8 x43 a2 r42.2).bind fun r44 =>
     (A.add a1 x2).bind fun x45 =>
     (A.sliceS 8 r42.1 (some x45) none r44.2).bind fun x46 =>
     (A.sliceS 8 a0 (some a1) none r44.2).bind fun x47 =>
     (A.copyS 8 x46 x47 r44.2).bind fun r48 =>
     A.renew [a0, a1, a2] σ r42.1 r48.2) (
     (A.add x4 x2).bind fun x49 =>
     (A.sliceS 8 a0 none (some x49) s37).bind fun x50 =>
     (A.add a1 x2).bind fun x51 =>
     (A.sliceS 8 x50 (some x51) none s37).bind fun x52 =>
     (m_slices_overlaps [a2, x52] s37).bind fun r53 =>
     (A.not r53.1).bind fun x54 =>
     A.cond x54 (
      (A.add a1 x2).bind fun x55 =>
      (A.sliceS 8 x50 (some x55) none r53.2).bind fun x56 =>
      (A.sliceS 8 x50 (some a1) none r53.2).bind fun x57 =>
      (A.copyS 8 x56 x57 r53.2).bind fun r58 =>
      (A.sliceS 8 x50 (some a1) none r58.2).bind fun x59 =>
      (A.copyS 8 x59 a2 r58.2).bind fun r60 =>
      A.renew [a0, a1, a2] σ x50 r60.2) (
      (A.sliceS 8 x50 (some x4) none r53.2).bind fun x61 =>
      (A.copyS 8 x61 a2 r53.2).bind fun r62 =>
      (A.sliceS 8 x50 (some a1) none r62.2).bind fun x63 =>
      (m_slices_rotateRight_api_Move [x63, x2] r62.2).bind fun r64 =>
      A.renew [a0, a1, a2] σ x50 r64.2)))))
noncomputable def m_slices_Insert_api_Move : List AV → Heap → Option (AV × Heap) := A.wrap false [] .k (A.ar3 r_slices_Insert_api_Move)
noncomputable def r_slices_Clone_api_Cue (a0 : AV) (σ : Heap) : Option (AV × Heap) :=
 (A.eqN a0 AV.nsl).bind fun x1 =>
 A.cond x1 (
  some (AV.nsl, σ)) (
  (A.append 11 (140737488355328 / 128) AV.ez a0 σ).bind fun r2 =>
  some (r2.1, r2.2))
noncomputable def m_slices_Clone_api_Cue : List AV → Heap → Option (AV × Heap) := A.cloneZ (A.wrap true [(.s 11)] .k (A.ar1 r_slices_Clone_api_Cue))
noncomputable def r_slices_EqualFunc_api_Cue (dyn : Nat → List AV → Heap → Option (AV × Heap)) (a0 a1 a2 : AV) (σ : Heap) : Option (AV × Heap) :=
 (A.lenS a0).bind fun x1 =>
 (A.lenS a1).bind fun x2 =>
 (A.neq .i x1 x2).bind fun x3 =>
 A.cond x3 (
  A.fin σ (AV.bool false) σ) (
  (A.lenS a0).bind fun x4 =>
  (A.loop (fun v5 s6 =>
    (A.lss (v5.getD 1 AV.undef) x4).bind fun x8 =>
    A.cond x8 (
     (A.iaddr 11 a0 (v5.getD 1 AV.undef)).bind fun x9 =>
     ((A.deref x9 s6).bind fun c10 => A.partA 0 11 c10).bind fun x11 =>
     (A.cells 11 x11).bind fun c12 =>
     (A.splice 0 c12 [(AV.int .i64 0), (AV.str ⟨#[]⟩), (AV.int .i64 0), (AV.int .i64 0), (AV.int .i64 0), (AV.int .i64 0), (AV.int .i64 0), AV.nsl, (AV.bool false), (AV.int .i64 0), AV.nsl]).bind fun c13 =>
     (A.iaddr 11 a1 (v5.getD 1 AV.undef)).bind fun x14 =>
     ((A.deref x14 s6).bind fun c15 => A.partA 0 11 c15).bind fun x16 =>
     (A.cells 11 x16).bind fun c17 =>
     (A.splice 0 c17 [(AV.int .i64 0), (AV.str ⟨#[]⟩), (AV.int .i64 0), (AV.int .i64 0), (AV.int .i64 0), (AV.int .i64 0), (AV.int .i64 0), AV.nsl, (AV.bool false), (AV.int .i64 0), AV.nsl]).bind fun c18 =>
     (A.partA 0 11 c13).bind fun x19 =>
     (A.partA 0 11 c18).bind fun x20 =>
     (A.callv dyn a2 [x19, x20] s6).bind fun r21 =>
     (A.not r21.1).bind fun x22 =>
     A.cond x22 (
      some (AX.ret, [(AV.bool false), (v5.getD 1 AV.undef)], r21.2)) (
      (A.add (v5.getD 1 AV.undef) (AV.int .i64 1)).bind fun x23 =>
      some (AX.normal, [(v5.getD 0 AV.undef), x23], r21.2))) (
     some (AX.exit 0, [(v5.getD 0 AV.undef), (v5.getD 1 AV.undef)], s6))) [(AV.bool false), (AV.int .i64 0)] σ).bind fun r24 =>
  bif r24.1 == AX.exit 0 then (
   A.fin σ (AV.bool true) r24.2.2) else
  bif r24.1 == AX.ret then (
   A.fin σ (r24.2.1.getD 0 AV.undef) r24.2.2) else
  none)
noncomputable def m_slices_EqualFunc_api_Cue (dyn : Nat → List AV → Heap → Option (AV × Heap)) : List AV → Heap → Option (AV × Heap) := A.wrap true [(.s 11), (.s 11)] .k (A.ar3 (r_slices_EqualFunc_api_Cue dyn))
noncomputable def r_slices_Equal_api_Point (a0 a1 : AV) (σ : Heap) : Option (AV × Heap) :=
 (A.lenS a0).bind fun x1 =>
 (A.lenS a1).bind fun x2 =>
 (A.neq .i x1 x2).bind fun x3 =>
 A.cond x3 (
  A.fin σ (AV.bool false) σ) (
  (A.lenS a0).bind fun x4 =>
  (A.loop (fun v5 s6 =>
    (A.lss (v5.getD 1 AV.undef) x4).bind fun x8 =>
    A.cond x8 (
     (A.iaddr 2 a0 (v5.getD 1 AV.undef)).bind fun x9 =>
     ((A.deref x9 s6).bind fun c10 => A.partA 0 2 c10).bind fun x11 =>
     (A.iaddr 2 a1 (v5.getD 1 AV.undef)).bind fun x12 =>
     ((A.deref x12 s6).bind fun c13 => A.partA 0 2 c13).bind fun x14 =>
     (A.neq (.s [0, 0]) x11 x14).bind fun x15 =>
     A.cond x15 (
      some (AX.ret, [(AV.bool false), (v5.getD 1 AV.undef)], s6)) (
      (A.add (v5.getD 1 AV.undef) (AV.int .i64 1)).bind fun x16 =>
      some (AX.normal, [(v5.getD 0 AV.undef), x16], s6))) (
     some (AX.exit 0, [(v5.getD 0 AV.undef), (v5.getD 1 AV.undef)], s6))) [(AV.bool false), (AV.int .i64 0)] σ).bind fun r17 =>
  bif r17.1 == AX.exit 0 then (
   A.fin σ (AV.bool true) r17.2.2) else
  bif r17.1 == AX.ret then (
   A.fin σ (r17.2.1.getD 0 AV.undef) r17.2.2) else
  none)
noncomputable def m_slices_Equal_api_Point : List AV → Heap → Option (AV × Heap) := A.wrap true [(.s 2), (.s 2)] .k (A.ar2 r_slices_Equal_api_Point)
noncomputable def r_slices_Equal_api_Move (a0 a1 : AV) (σ : Heap) : Option (AV × Heap) :=
 (A.lenS a0).bind fun x1 =>
 (A.lenS a1).bind fun x2 =>
 (A.neq .i x1 x2).bind fun x3 =>
 A.cond x3 (
  A.fin σ (AV.bool false) σ) (
  (A.lenS a0).bind fun x4 =>
  (A.loop (fun v5 s6 =>
    (A.lss (v5.getD 1 AV.undef) x4).bind fun x8 =>
    A.cond x8 (
     (A.iaddr 8 a0 (v5.getD 1 AV.undef)).bind fun x9 =>
     ((A.deref x9 s6).bind fun c10 => A.partA 0 8 c10).bind fun x11 =>
     (A.iaddr 8 a1 (v5.getD 1 AV.undef)).bind fun x12 =>
     ((A.deref x12 s6).bind fun c13 => A.partA 0 8 c13).bind fun x14 =>
     (A.neq (.s [0, 2, 0, 0, 1, 1, 0, 0]) x11 x14).bind fun x15 =>
     A.cond x15 (
      some (AX.ret, [(AV.bool false), (v5.getD 1 AV.undef)], s6)) (
      (A.add (v5.getD 1 AV.undef) (AV.int .i64 1)).bind fun x16 =>
      some (AX.normal, [(v5.getD 0 AV.undef), x16], s6))) (
     some (AX.exit 0, [(v5.getD 0 AV.undef), (v5.getD 1 AV.undef)], s6))) [(AV.bool false), (AV.int .i64 0)] σ).bind fun r17 =>
  bif r17.1 == AX.exit 0 then (
   A.fin σ (AV.bool true) r17.2.2) else
  bif r17.1 == AX.ret then (
   A.fin σ (r17.2.1.getD 0 AV.undef) r17.2.2) else
  none)
noncomputable def m_slices_Equal_api_Move : List AV → Heap → Option (AV × Heap) := A.wrap true [(.s 8), (.s 8)] .k (A.ar2 r_slices_Equal_api_Move)
noncomputable def r_slices_DeleteFunc_api_Move (dyn : Nat → List AV → Heap → Option (AV × Heap)) (a0 a1 : AV) (σ : Heap) : Option (AV × Heap) :=
 (m_slices_IndexFunc_api_Move dyn [a0, a1] σ).bind fun r1 =>
 (A.eql .i r1.1 (AV.int .i64 (-1))).bind fun x2 =>
 A.cond x2 (
  A.renew [a0, a1] σ a0 r1.2) (
  (A.add r1.1 (AV.int .i64 1)).bind fun x3 =>
  (A.loop (fun v4 s5 =>
    (A.lenS a0).bind fun x7 =>
    (A.lss (v4.getD 1 AV.undef) x7).bind fun x8 =>
    A.cond x8 (
     (A.iaddr 8 a0 (v4.getD 1 AV.undef)).bind fun x9 =>
     ((A.deref x9 s5).bind fun c10 => A.partA 0 8 c10).bind fun x11 =>
     (A.cells 8 x11).bind fun c12 =>
     (A.splice 0 c12 [(AV.int .i64 0), (AV.str ⟨#[]⟩), (AV.int .i64 0), (AV.int .i64 0), (AV.bool false), (AV.bool false), (AV.int .i64 0), (AV.int .i64 0)]).bind fun c13 =>
     (A.partA 0 8 c13).bind fun x14 =>
     (A.callv dyn a1 [x14] s5).bind fun r15 =>
     (A.not r15.1).bind fun x16 =>
     (A.cond x16 (
      (A.partA 0 8 c13).bind fun x18 =>
      (A.iaddr 8 a0 (v4.getD 0 AV.undef)).bind fun x19 =>
      (A.cells 8 x18).bind fun c20 =>
      (A.storeAt x19 c20 r15.2).bind fun c21 =>
      (A.add (v4.getD 0 AV.undef) (AV.int .i64 1)).bind fun x22 =>
      some ([x22], c21)) (
      some ([(v4.getD 0 AV.undef)], r15.2))).bind fun r17 =>
     (A.add (v4.getD 1 AV.undef) (AV.int .i64 1)).bind fun x23 =>
     some (AX.normal, [(r17.1.getD 0 AV.undef), x23], r17.2)) (
     some (AX.exit 0, [(v4.getD 0 AV.undef), (v4.getD 1 AV.undef)], s5))) [r1.1, x3] r1.2).bind fun r24 =>
  bif r24.1 == AX.exit 0 then (
   (A.sliceS 8 a0 (some (r24.2.1.getD 0 AV.undef)) none r24.2.2).bind fun x25 =>
   (A.clearS 8 [(AV.int .i64 0), (AV.str ⟨#[]⟩), (AV.int .i64 0), (AV.int .i64 0), (AV.bool false), (AV.bool false), (AV.int .i64 0), (AV.int .i64 0)] x25 r24.2.2).bind fun h26 =>
   (A.sliceS 8 a0 none (some (r24.2.1.getD 0 AV.undef)) h26).bind fun x27 =>
   A.renew [a0, a1] σ x27 h26) else
  none)
noncomputable def m_slices_DeleteFunc_api_Move (dyn : Nat → List AV → Heap → Option (AV × Heap)) : List AV → Heap → Option (AV × Heap) := A.wrap false [] .k (A.ar2 (r_slices_DeleteFunc_api_Move dyn))
end Go.Proofs.Ytphgchakmkankaa

namespace Go.Proofs.Ytphgchakmkankaa
set_option linter.unusedSectionVars false
set_option linter.unusedSimpArgs false
set_option linter.unusedVariables false
set_option maxRecDepth 100000
noncomputable def r_word_Row (a0 : AV) (σ : Heap) : Option (AV × Heap) :=
 (A.lenZ a0).bind fun x1 =>
 (A.loop (fun v2 s3 =>
   (A.lss (v2.getD 1 AV.undef) x1).bind fun x5 =>
   A.cond x5 (
    (A.sidx a0 (v2.getD 1 AV.undef)).bind fun x6 =>
    (A.geq x6 (AV.int .u8 97)).bind fun x7 =>
    (A.guard x7 true (some x6) (some (AV.tup []))).bind fun x8 =>
    (A.guard x7 true (A.leq x8 (AV.int .u8 122)) (some (AV.tup []))).bind fun x9 =>
    (A.pick x7 x9 (AV.bool false)).bind fun x10 =>
    (A.guard x10 false (some x6) (some (AV.tup []))).bind fun x11 =>
    (A.guard x10 false (A.geq x11 (AV.int .u8 48)) (some (AV.tup []))).bind fun x12 =>
    (A.guard x10 false (some x12) (some (AV.tup []))).bind fun x13 =>
    (A.guard x13 true (some x6) (some (AV.tup []))).bind fun x14 =>
    (A.guard x13 true (A.leq x14 (AV.int .u8 57)) (some (AV.tup []))).bind fun x15 =>
    (A.guard x10 false (A.pick x13 x15 (AV.bool false)) (some (AV.tup []))).bind fun x16 =>
    (A.pick x10 (AV.bool true) x16).bind fun x17 =>
    (A.guard x17 false (some x6) (some (AV.tup []))).bind fun x18 =>
    (A.guard x17 false (A.eql .i x18 (AV.int .u8 45)) (some (AV.tup []))).bind fun x19 =>
    (A.pick x17 (AV.bool true) x19).bind fun x20 =>
    (A.not x20).bind fun x21 =>
    A.cond x21 (
     some (AX.ret, [(AV.bool false), (v2.getD 1 AV.undef)], s3)) (
     (A.add (v2.getD 1 AV.undef) (AV.int .i64 1)).bind fun x22 =>
     some (AX.normal, [(v2.getD 0 AV.undef), x22], s3))) (
    some (AX.exit 0, [(v2.getD 0 AV.undef), (v2.getD 1 AV.undef)], s3))) [(AV.bool false), (AV.int .i64 0)] σ).bind fun r23 =>
 bif r23.1 == AX.exit 0 then (
  (A.neq .z a0 (AV.str ⟨#[]⟩)).bind fun x24 =>
  A.fin σ x24 r23.2.2) else
 bif r23.1 == AX.ret then (
  A.fin σ (r23.2.1.getD 0 AV.undef) r23.2.2) else
 none
noncomputable def m_word_Row : List AV → Heap → Option (AV × Heap) := A.wrap true [] .k (A.ar1 r_word_Row)
noncomputable def r_word_Name (a0 : AV) (σ : Heap) : Option (AV × Heap) :=
 (m_word_Row [a0] σ).bind fun r1 =>
 (A.guard r1.1 true (some a0) (some (AV.tup []))).bind fun x2 =>
 (A.guard r1.1 true (A.lenZ x2) (some (AV.tup []))).bind fun x3 =>
 (A.guard r1.1 true (A.leq x3 (AV.int .i64 20)) (some (AV.tup []))).bind fun x4 =>
 (A.pick r1.1 x4 (AV.bool false)).bind fun x5 =>
 (A.guard x5 true (some a0) (some (AV.tup []))).bind fun x6 =>
 (A.guard x5 true (A.sidx x6 (AV.int .i64 0)) (some (AV.tup []))).bind fun x7 =>
 (A.guard x5 true (A.geq x7 (AV.int .u8 97)) (some (AV.tup []))).bind fun x8 =>
 (A.pick x5 x8 (AV.bool false)).bind fun x9 =>
 (A.guard x9 true (some a0) (some (AV.tup []))).bind fun x10 =>
 (A.guard x9 true (A.sidx x10 (AV.int .i64 0)) (some (AV.tup []))).bind fun x11 =>
 (A.guard x9 true (A.leq x11 (AV.int .u8 122)) (some (AV.tup []))).bind fun x12 =>
 (A.pick x9 x12 (AV.bool false)).bind fun x13 =>
 A.fin σ x13 r1.2
noncomputable def m_word_Name : List AV → Heap → Option (AV × Heap) := A.wrap true [] .k (A.ar1 r_word_Name)
noncomputable def r_word_Within (a0 a1 a2 : AV) (σ : Heap) : Option (AV × Heap) :=
 (A.geq a0 a1).bind fun x1 =>
 (A.guard x1 true (some a0) (some (AV.tup []))).bind fun x2 =>
 (A.guard x1 true (some a2) (some (AV.tup []))).bind fun x3 =>
 (A.guard x1 true (A.leq x2 x3) (some (AV.tup []))).bind fun x4 =>
 (A.pick x1 x4 (AV.bool false)).bind fun x5 =>
 A.fin σ x5 σ
noncomputable def m_word_Within : List AV → Heap → Option (AV × Heap) := A.wrap true [] .k (A.ar3 r_word_Within)
noncomputable def r_word_When (a0 a1 : AV) (σ : Heap) : Option (AV × Heap) :=
 A.cond a0 (
  A.fin σ a1 σ) (
  A.fin σ (AV.int .i64 0) σ)
noncomputable def m_word_When : List AV → Heap → Option (AV × Heap) := A.wrap true [] .k (A.ar2 r_word_When)
noncomputable def r_word_Title (a0 : AV) (σ : Heap) : Option (AV × Heap) :=
 (A.lenZ a0).bind fun x1 =>
 (A.loop (fun v2 s3 =>
   (A.lss (v2.getD 1 AV.undef) x1).bind fun x5 =>
   A.cond x5 (
    (A.sidx a0 (v2.getD 1 AV.undef)).bind fun x6 =>
    (A.lss x6 (AV.int .u8 32)).bind fun x7 =>
    (A.guard x7 false (some a0) (some (AV.tup []))).bind fun x8 =>
    (A.guard x7 false (some (v2.getD 1 AV.undef)) (some (AV.tup []))).bind fun x9 =>
    (A.guard x7 false (A.sidx x8 x9) (some (AV.tup []))).bind fun x10 =>
    (A.guard x7 false (A.gtr x10 (AV.int .u8 126)) (some (AV.tup []))).bind fun x11 =>
    (A.pick x7 (AV.bool true) x11).bind fun x12 =>
    A.cond x12 (
     some (AX.ret, [(AV.bool false), (v2.getD 1 AV.undef)], s3)) (
     (A.add (v2.getD 1 AV.undef) (AV.int .i64 1)).bind fun x13 =>
     some (AX.normal, [(v2.getD 0 AV.undef), x13], s3))) (
    some (AX.exit 0, [(v2.getD 0 AV.undef), (v2.getD 1 AV.undef)], s3))) [(AV.bool false), (AV.int .i64 0)] σ).bind fun r14 =>
 bif r14.1 == AX.exit 0 then (
  (A.neq .z a0 (AV.str ⟨#[]⟩)).bind fun x15 =>
  (A.guard x15 true (some a0) (some (AV.tup []))).bind fun x16 =>
  (A.guard x15 true (A.lenZ x16) (some (AV.tup []))).bind fun x17 =>
  (A.guard x15 true (A.leq x17 (AV.int .i64 60)) (some (AV.tup []))).bind fun x18 =>
  (A.pick x15 x18 (AV.bool false)).bind fun x19 =>
  (A.guard x19 true (some a0) (some (AV.tup []))).bind fun x20 =>
  (A.guard x19 true (A.sidx x20 (AV.int .i64 0)) (some (AV.tup []))).bind fun x21 =>
  (A.guard x19 true (A.neq .i x21 (AV.int .u8 32)) (some (AV.tup []))).bind fun x22 =>
  (A.pick x19 x22 (AV.bool false)).bind fun x23 =>
  (A.guard x23 true (some a0) (some (AV.tup []))).bind fun x24 =>
  (A.guard x23 true (some a0) (some (AV.tup []))).bind fun x25 =>
  (A.guard x23 true (A.lenZ x25) (some (AV.tup []))).bind fun x26 =>
  (A.guard x23 true (A.sub x26 (AV.int .i64 1)) (some (AV.tup []))).bind fun x27 =>
  (A.guard x23 true (A.sidx x24 x27) (some (AV.tup []))).bind fun x28 =>
  (A.guard x23 true (A.neq .i x28 (AV.int .u8 32)) (some (AV.tup []))).bind fun x29 =>
  (A.pick x23 x29 (AV.bool false)).bind fun x30 =>
  A.fin σ x30 r14.2.2) else
 bif r14.1 == AX.ret then (
  A.fin σ (r14.2.1.getD 0 AV.undef) r14.2.2) else
 none
noncomputable def m_word_Title : List AV → Heap → Option (AV × Heap) := A.wrap true [] .k (A.ar1 r_word_Title)
end Go.Proofs.Ytphgchakmkankaa

namespace Go.Proofs.Ytphgchakmkankaa
set_option linter.unusedSectionVars false
set_option linter.unusedSimpArgs false
set_option linter.unusedVariables false
set_option maxRecDepth 100000
noncomputable def r_level_CheckCurve (a0 : AV) (σ : Heap) : Option (AV × Heap) :=
 (A.cells 2 a0).bind fun c1 =>
 (A.part1 0 c1).bind fun x2 =>
 (m_word_Within [x2, (AV.int .i64 1), (AV.int .i64 6)] σ).bind fun r3 =>
 (A.not r3.1).bind fun x4 =>
 A.cond x4 (
  A.fin σ (AV.int .i64 4) r3.2) (
  (A.part1 1 c1).bind fun x5 =>
  (A.part1 0 c1).bind fun x6 =>
  (A.neq .i x6 (AV.int .i64 6)).bind fun x7 =>
  A.cond x7 (
   (A.lenS x5).bind fun x8 =>
   (A.gtr x8 (AV.int .i64 0)).bind fun x9 =>
   (m_word_When [x9, (AV.int .i64 3)] r3.2).bind fun r10 =>
   A.fin σ r10.1 r10.2) (
   (A.lenS x5).bind fun x11 =>
   (A.lss x11 (AV.int .i64 2)).bind fun x12 =>
   A.cond x12 (
    A.fin σ (AV.int .i64 8) r3.2) (
    (A.lenS x5).bind fun x13 =>
    (A.gtr x13 (AV.int .i64 20)).bind fun x14 =>
    A.cond x14 (
     A.fin σ (AV.int .i64 2) r3.2) (
     (A.lenS x5).bind fun x15 =>
     (A.loop (fun v16 s17 =>
       (A.lss (v16.getD 1 AV.undef) x15).bind fun x19 =>
       A.cond x19 (
        (A.iaddr 2 x5 (v16.getD 1 AV.undef)).bind fun x20 =>
        ((A.deref x20 s17).bind fun c21 => A.partA 0 2 c21).bind fun x22 =>
        (A.cells 2 x22).bind fun c23 =>
        (A.splice 0 c23 [(AV.int .i64 0), (AV.int .i64 0)]).bind fun c24 =>
        (A.part1 0 c24).bind fun x25 =>
        (m_word_Within [x25, (AV.int .i64 0), (AV.int .i64 1000)] s17).bind fun r26 =>
        (A.not r26.1).bind fun x27 =>
        (A.guard x27 false (A.part1 1 c24) (some (AV.tup []))).bind fun x28 =>
        (A.guard x27 false (A.quiet (m_word_Within [x28, (AV.int .i64 0), (AV.int .i64 1000)] r26.2) r26.2) (some (AV.tup []))).bind fun x29 =>
        (A.guard x27 false (A.not x29) (some (AV.tup []))).bind fun x30 =>
        (A.pick x27 (AV.bool true) x30).bind fun x31 =>
        A.cond x31 (
         some (AX.ret, [(AV.int .i64 1), (v16.getD 1 AV.undef)], r26.2)) (
         (A.add (v16.getD 1 AV.undef) (AV.int .i64 1)).bind fun x32 =>
         some (AX.normal, [(v16.getD 0 AV.undef), x32], r26.2))) (
        some (AX.exit 0, [(v16.getD 0 AV.undef), (v16.getD 1 AV.undef)], s17))) [(AV.int .i64 0), (AV.int .i64 0)] r3.2).bind fun r33 =>
     bif r33.1 == AX.exit 0 then (
      (A.iaddr 2 x5 (AV.int .i64 0)).bind fun x34 =>
      ((A.deref x34 r33.2.2).bind fun c35 => A.partA 0 2 c35).bind fun x36 =>
      (A.neq (.s [0, 0]) x36 (AV.agg [(AV.int .i64 0), (AV.int .i64 0)])).bind fun x37 =>
      (A.guard x37 false (some x5) (some (AV.tup []))).bind fun x38 =>
      (A.guard x37 false (some x5) (some (AV.tup []))).bind fun x39 =>
      (A.guard x37 false (A.lenS x39) (some (AV.tup []))).bind fun x40 =>
      (A.guard x37 false (A.sub x40 (AV.int .i64 1)) (some (AV.tup []))).bind fun x41 =>
      (A.guard x37 false (A.iaddr 2 x38 x41) (some (AV.tup []))).bind fun x42 =>
      (A.guard x37 false ((A.deref x42 r33.2.2).bind fun c43 => A.partA 0 2 c43) (some (AV.tup []))).bind fun x44 =>
      (A.guard x37 false ((((A.cell (AV.int .i64 1000)).bind fun v => some [v]).bind fun c45 => (A.splice 0 c45 [(AV.int .i64 0), (AV.int .i64 0)]).bind fun c46 => ((A.cell (AV.int .i64 1000)).bind fun v => some [v]).bind fun c47 => (A.splice 1 c47 c46).bind fun c48 => some c48).bind fun cs => some (AV.agg cs)) (some (AV.tup []))).bind fun x49 =>
      (A.guard x37 false (A.neq (.s [0, 0]) x44 x49) (some (AV.tup []))).bind fun x50 =>
      (A.pick x37 (AV.bool true) x50).bind fun x51 =>
      A.cond x51 (
       A.fin σ (AV.int .i64 3) r33.2.2) (
       (A.loop (fun v52 s53 =>
         (A.lenS x5).bind fun x55 =>
         (A.lss (v52.getD 1 AV.undef) x55).bind fun x56 =>
         A.cond x56 (
          (A.iaddr 2 x5 (v52.getD 1 AV.undef)).bind fun x57 =>
          (A.faddr 0 x57).bind fun x58 =>
          ((A.deref x58 s53).bind fun c59 => A.part1 0 c59).bind fun x60 =>
          (A.sub (v52.getD 1 AV.undef) (AV.int .i64 1)).bind fun x61 =>
          (A.iaddr 2 x5 x61).bind fun x62 =>
          (A.faddr 0 x62).bind fun x63 =>
          ((A.deref x63 s53).bind fun c64 => A.part1 0 c64).bind fun x65 =>
          (A.leq x60 x65).bind fun x66 =>
          (A.guard x66 false (some x5) (some (AV.tup []))).bind fun x67 =>
          (A.guard x66 false (some (v52.getD 1 AV.undef)) (some (AV.tup []))).bind fun x68 =>
          (A.guard x66 false (A.iaddr 2 x67 x68) (some (AV.tup []))).bind fun x69 =>
          (A.guard x66 false (A.faddr 1 x69) (some (AV.tup []))).bind fun x70 =>
          (A.guard x66 false ((A.deref x70 s53).bind fun c71 => A.part1 0 c71) (some (AV.tup []))).bind fun x72 =>
          (A.guard x66 false (some x5) (some (AV.tup []))).bind fun x73 =>
          (A.guard x66 false (some (v52.getD 1 AV.undef)) (some (AV.tup []))).bind fun x74 =>
          (A.guard x66 false (A.sub x74 (AV.int .i64 1)) (some (AV.tup []))).bind fun x75 =>
          (A.guard x66 false (A.iaddr 2 x73 x75) (some (AV.tup []))).bind fun x76 =>
          (A.guard x66 false (A.faddr 1 x76) (some (AV.tup []))).bind fun x77 =>
          (A.guard x66 false ((A.deref x77 s53).bind fun c78 => A.part1 0 c78) (some (AV.tup []))).bind fun x79 =>
          (A.guard x66 false (A.lss x72 x79) (some (AV.tup []))).bind fun x80 =>
          (A.pick x66 (AV.bool true) x80).bind fun x81 =>
          A.cond x81 (
           some (AX.ret, [(AV.int .i64 7), (v52.getD 1 AV.undef)], s53)) (
           (A.add (v52.getD 1 AV.undef) (AV.int .i64 1)).bind fun x82 =>
           some (AX.normal, [(v52.getD 0 AV.undef), x82], s53))) (
          some (AX.exit 2, [(v52.getD 0 AV.undef), (v52.getD 1 AV.undef)], s53))) [(r33.2.1.getD 0 AV.undef), (AV.int .i64 1)] r33.2.2).bind fun r83 =>
       bif r83.1 == AX.exit 2 then (
        A.fin σ (AV.int .i64 0) r83.2.2) else
       bif r83.1 == AX.ret then (
        A.fin σ (r83.2.1.getD 0 AV.undef) r83.2.2) else
       none)) else
     bif r33.1 == AX.ret then (
      A.fin σ (r33.2.1.getD 0 AV.undef) r33.2.2) else
     none))))
noncomputable def m_level_CheckCurve : List AV → Heap → Option (AV × Heap) := A.wrap true [(.a [.k, (.s 2)])] .k (A.ar1 r_level_CheckCurve)
end Go.Proofs.Ytphgchakmkankaa

namespace Go.Proofs.Ytphgchakmkankaa
set_option linter.unusedSectionVars false
set_option linter.unusedSimpArgs false
set_option linter.unusedVariables false
set_option maxRecDepth 100000
noncomputable def r_cue_isTime (a0 : AV) (σ : Heap) : Option (AV × Heap) :=
 (m_word_Within [a0, (AV.int .i64 0), (AV.int .i64 36000000)] σ).bind fun r1 =>
 A.fin σ r1.1 r1.2
noncomputable def m_cue_isTime : List AV → Heap → Option (AV × Heap) := A.wrap true [] .k (A.ar1 r_cue_isTime)
noncomputable def r_cue_compare (a0 a1 : AV) (σ : Heap) : Option (AV × Heap) :=
 (A.cells 2 a0).bind fun c1 =>
 (A.cells 2 a1).bind fun c2 =>
 (A.part1 0 c1).bind fun x3 =>
 (A.part1 0 c2).bind fun x4 =>
 (A.neq .i x3 x4).bind fun x5 =>
 A.cond x5 (
  (A.part1 0 c1).bind fun x6 =>
  (A.part1 0 c2).bind fun x7 =>
  (A.lss x6 x7).bind fun x8 =>
  A.cond x8 (
   A.fin σ (AV.int .i64 (-1)) σ) (
   A.fin σ (AV.int .i64 1) σ)) (
  (A.part1 1 c1).bind fun x9 =>
  (A.part1 1 c2).bind fun x10 =>
  (m_strings_Compare [x9, x10] σ).bind fun r11 =>
  A.fin σ r11.1 r11.2)
noncomputable def m_cue_compare : List AV → Heap → Option (AV × Heap) := A.wrap true [] .k (A.ar2 r_cue_compare)
noncomputable def r_cue_checkMoves (a0 : AV) (σ : Heap) : Option (AV × Heap) :=
 (A.lenS a0).bind fun x1 =>
 (A.loop (fun v2 s3 =>
   (A.lss (v2.getD 1 AV.undef) x1).bind fun x5 =>
   A.cond x5 (
    (A.iaddr 8 a0 (v2.getD 1 AV.undef)).bind fun x6 =>
    ((A.deref x6 s3).bind fun c7 => A.partA 0 8 c7).bind fun x8 =>
    (A.cells 8 x8).bind fun c9 =>
    (A.splice 0 c9 [(AV.int .i64 0), (AV.str ⟨#[]⟩), (AV.int .i64 0), (AV.int .i64 0), (AV.bool false), (AV.bool false), (AV.int .i64 0), (AV.int .i64 0)]).bind fun c10 =>
    (A.part1 0 c10).bind fun x11 =>
    (m_word_Within [x11, (AV.int .i64 1), (AV.int .i64 9999)] s3).bind fun r12 =>
    (A.not r12.1).bind fun x13 =>
    A.cond x13 (
     some (AX.ret, [(AV.int .i64 1), (v2.getD 1 AV.undef)], r12.2)) (
     (A.part1 1 c10).bind fun x14 =>
     (m_word_Name [x14] r12.2).bind fun r15 =>
     (A.not r15.1).bind fun x16 =>
     A.cond x16 (
      some (AX.ret, [(AV.int .i64 5), (v2.getD 1 AV.undef)], r15.2)) (
      (A.part1 4 c10).bind fun x17 =>
      (A.guard x17 true (A.partA 2 2 c10) (some (AV.tup []))).bind fun x18 =>
      (A.guard x17 true (some (AV.agg [(AV.int .i64 0), (AV.int .i64 0)])) (some (AV.tup []))).bind fun x19 =>
      (A.guard x17 true (A.neq (.s [0, 0]) x18 x19) (some (AV.tup []))).bind fun x20 =>
      (A.pick x17 x20 (AV.bool false)).bind fun x21 =>
      (A.guard x21 false (A.part1 2 c10) (some (AV.tup []))).bind fun x22 =>
      (A.guard x21 false (A.neq .i x22 (AV.int .i64 0)) (some (AV.tup []))).bind fun x23 =>
      (A.guard x21 false (some x23) (some (AV.tup []))).bind fun x24 =>
      (A.guard x24 true (A.part1 3 c10) (some (AV.tup []))).bind fun x25 =>
      (A.guard x24 true (A.neq .i x25 (AV.int .i64 0)) (some (AV.tup []))).bind fun x26 =>
      (A.guard x21 false (A.pick x24 x26 (AV.bool false)) (some (AV.tup []))).bind fun x27 =>
      (A.pick x21 (AV.bool true) x27).bind fun x28 =>
      A.cond x28 (
       some (AX.ret, [(AV.int .i64 3), (v2.getD 1 AV.undef)], r15.2)) (
       (A.part1 2 c10).bind fun x29 =>
       (m_word_Within [x29, (AV.int .i64 0), (AV.int .i64 65535)] r15.2).bind fun r30 =>
       (A.not r30.1).bind fun x31 =>
       (A.guard x31 false (A.part1 3 c10) (some (AV.tup []))).bind fun x32 =>
       (A.guard x31 false (A.quiet (m_word_Within [x32, (AV.int .i64 0), (AV.int .i64 999)] r30.2) r30.2) (some (AV.tup []))).bind fun x33 =>
       (A.guard x31 false (A.not x33) (some (AV.tup []))).bind fun x34 =>
       (A.pick x31 (AV.bool true) x34).bind fun x35 =>
       A.cond x35 (
        some (AX.ret, [(AV.int .i64 1), (v2.getD 1 AV.undef)], r30.2)) (
        (A.part1 5 c10).bind fun x36 =>
        (A.not x36).bind fun x37 =>
        (A.guard x37 true (A.part1 6 c10) (some (AV.tup []))).bind fun x38 =>
        (A.guard x37 true (A.neq .i x38 (AV.int .i64 0)) (some (AV.tup []))).bind fun x39 =>
        (A.guard x37 true (some x39) (some (AV.tup []))).bind fun x40 =>
        (A.guard x40 false (A.part1 7 c10) (some (AV.tup []))).bind fun x41 =>
        (A.guard x40 false (A.neq .i x41 (AV.int .i64 0)) (some (AV.tup []))).bind fun x42 =>
        (A.guard x37 true (A.pick x40 (AV.bool true) x42) (some (AV.tup []))).bind fun x43 =>
        (A.pick x37 x43 (AV.bool false)).bind fun x44 =>
        A.cond x44 (
         some (AX.ret, [(AV.int .i64 3), (v2.getD 1 AV.undef)], r30.2)) (
         (A.part1 6 c10).bind fun x45 =>
         (m_cue_isTime [x45] r30.2).bind fun r46 =>
         (A.not r46.1).bind fun x47 =>
         (A.guard x47 false (A.part1 7 c10) (some (AV.tup []))).bind fun x48 =>
         (A.guard x47 false (A.quiet (m_cue_isTime [x48] r46.2) r46.2) (some (AV.tup []))).bind fun x49 =>
         (A.guard x47 false (A.not x49) (some (AV.tup []))).bind fun x50 =>
         (A.pick x47 (AV.bool true) x50).bind fun x51 =>
         A.cond x51 (
          some (AX.ret, [(AV.int .i64 1), (v2.getD 1 AV.undef)], r46.2)) (
          (A.gtr (v2.getD 1 AV.undef) (AV.int .i64 0)).bind fun x52 =>
          (A.guard x52 true (some a0) (some (AV.tup []))).bind fun x53 =>
          (A.guard x52 true (some (v2.getD 1 AV.undef)) (some (AV.tup []))).bind fun x54 =>
          (A.guard x52 true (A.sub x54 (AV.int .i64 1)) (some (AV.tup []))).bind fun x55 =>
          (A.guard x52 true (A.iaddr 8 x53 x55) (some (AV.tup []))).bind fun x56 =>
          (A.guard x52 true (A.faddr 0 x56) (some (AV.tup []))).bind fun x57 =>
          (A.guard x52 true ((A.deref x57 r46.2).bind fun c58 => A.partA 0 2 c58) (some (AV.tup []))).bind fun x59 =>
          (A.guard x52 true (A.partA 0 2 c10) (some (AV.tup []))).bind fun x60 =>
          (A.guard x52 true (A.quiet (m_cue_compare [x59, x60] r46.2) r46.2) (some (AV.tup []))).bind fun x61 =>
          (A.guard x52 true (A.geq x61 (AV.int .i64 0)) (some (AV.tup []))).bind fun x62 =>
          (A.pick x52 x62 (AV.bool false)).bind fun x63 =>
          A.cond x63 (
           some (AX.ret, [(AV.int .i64 7), (v2.getD 1 AV.undef)], r46.2)) (
           (A.add (v2.getD 1 AV.undef) (AV.int .i64 1)).bind fun x64 =>
           some (AX.normal, [(v2.getD 0 AV.undef), x64], r46.2))))))))) (
    some (AX.exit 0, [(v2.getD 0 AV.undef), (v2.getD 1 AV.undef)], s3))) [(AV.int .i64 0), (AV.int .i64 0)] σ).bind fun r65 =>
 bif r65.1 == AX.exit 0 then (
  A.fin σ (AV.int .i64 0) r65.2.2) else
 bif r65.1 == AX.ret then (
  A.fin σ (r65.2.1.getD 0 AV.undef) r65.2.2) else
 none
noncomputable def m_cue_checkMoves : List AV → Heap → Option (AV × Heap) := A.wrap true [(.s 8)] .k (A.ar1 r_cue_checkMoves)
noncomputable def r_cue_form (a0 : AV) (σ : Heap) : Option (AV × Heap) :=
 (A.lenS a0).bind fun x1 =>
 (A.gtr x1 (AV.int .i64 300)).bind fun x2 =>
 A.cond x2 (
  A.fin σ (AV.int .i64 2) σ) (
  (A.lenS a0).bind fun x3 =>
  (A.loop (fun v4 s5 =>
    (A.lss (v4.getD 2 AV.undef) x3).bind fun x7 =>
    A.cond x7 (
     (A.iaddr 11 a0 (v4.getD 2 AV.undef)).bind fun x8 =>
     ((A.deref x8 s5).bind fun c9 => A.partA 0 11 c9).bind fun x10 =>
     (A.cells 11 x10).bind fun c11 =>
     (A.splice 0 c11 [(AV.int .i64 0), (AV.str ⟨#[]⟩), (AV.int .i64 0), (AV.int .i64 0), (AV.int .i64 0), (AV.int .i64 0), (AV.int .i64 0), AV.nsl, (AV.bool false), (AV.int .i64 0), AV.nsl]).bind fun c12 =>
     (A.part1 0 c12).bind fun x13 =>
     (m_word_Within [x13, (AV.int .i64 1), (AV.int .i64 9999999)] s5).bind fun r14 =>
     (A.not r14.1).bind fun x15 =>
     A.cond x15 (
      some (AX.ret, [(AV.int .i64 1), (v4.getD 1 AV.undef), (v4.getD 2 AV.undef)], r14.2)) (
      (A.gtr (v4.getD 2 AV.undef) (AV.int .i64 0)).bind fun x16 =>
      (A.guard x16 true (A.part1 0 c12) (some (AV.tup []))).bind fun x17 =>
      (A.guard x16 true (some a0) (some (AV.tup []))).bind fun x18 =>
      (A.guard x16 true (some (v4.getD 2 AV.undef)) (some (AV.tup []))).bind fun x19 =>
      (A.guard x16 true (A.sub x19 (AV.int .i64 1)) (some (AV.tup []))).bind fun x20 =>
      (A.guard x16 true (A.iaddr 11 x18 x20) (some (AV.tup []))).bind fun x21 =>
      (A.guard x16 true (A.faddr 0 x21) (some (AV.tup []))).bind fun x22 =>
      (A.guard x16 true ((A.deref x22 r14.2).bind fun c23 => A.part1 0 c23) (some (AV.tup []))).bind fun x24 =>
      (A.guard x16 true (A.leq x17 x24) (some (AV.tup []))).bind fun x25 =>
      (A.pick x16 x25 (AV.bool false)).bind fun x26 =>
      A.cond x26 (
       some (AX.ret, [(AV.int .i64 7), (v4.getD 1 AV.undef), (v4.getD 2 AV.undef)], r14.2)) (
       (A.part1 1 c12).bind fun x27 =>
       (A.neq .z x27 (AV.str ⟨#[]⟩)).bind fun x28 =>
       (A.guard x28 true (A.part1 1 c12) (some (AV.tup []))).bind fun x29 =>
       (A.guard x28 true (A.quiet (m_word_Title [x29] r14.2) r14.2) (some (AV.tup []))).bind fun x30 =>
       (A.guard x28 true (A.not x30) (some (AV.tup []))).bind fun x31 =>
       (A.pick x28 x31 (AV.bool false)).bind fun x32 =>
       A.cond x32 (
        some (AX.ret, [(AV.int .i64 3), (v4.getD 1 AV.undef), (v4.getD 2 AV.undef)], r14.2)) (
        (A.part1 2 c12).bind fun x33 =>
        (m_cue_isTime [x33] r14.2).bind fun r34 =>
        (A.not r34.1).bind fun x35 =>
        (A.guard x35 false (A.part1 3 c12) (some (AV.tup []))).bind fun x36 =>
        (A.guard x35 false (A.quiet (m_cue_isTime [x36] r34.2) r34.2) (some (AV.tup []))).bind fun x37 =>
        (A.guard x35 false (A.not x37) (some (AV.tup []))).bind fun x38 =>
        (A.pick x35 (AV.bool true) x38).bind fun x39 =>
        (A.guard x39 false (A.part1 4 c12) (some (AV.tup []))).bind fun x40 =>
        (A.guard x39 false (A.quiet (m_cue_isTime [x40] r34.2) r34.2) (some (AV.tup []))).bind fun x41 =>
        (A.guard x39 false (A.not x41) (some (AV.tup []))).bind fun x42 =>
        (A.pick x39 (AV.bool true) x42).bind fun x43 =>
        (A.guard x43 false (A.part1 5 c12) (some (AV.tup []))).bind fun x44 =>
        (A.guard x43 false (A.quiet (m_cue_isTime [x44] r34.2) r34.2) (some (AV.tup []))).bind fun x45 =>
        (A.guard x43 false (A.not x45) (some (AV.tup []))).bind fun x46 =>
        (A.pick x43 (AV.bool true) x46).bind fun x47 =>
        (A.guard x47 false (A.part1 9 c12) (some (AV.tup []))).bind fun x48 =>
        (A.guard x47 false (A.quiet (m_word_Within [x48, (AV.int .i64 (-1)), (AV.int .i64 36000000)] r34.2) r34.2) (some (AV.tup []))).bind fun x49 =>
        (A.guard x47 false (A.not x49) (some (AV.tup []))).bind fun x50 =>
        (A.pick x47 (AV.bool true) x50).bind fun x51 =>
        A.cond x51 (
         some (AX.ret, [(AV.int .i64 1), (v4.getD 1 AV.undef), (v4.getD 2 AV.undef)], r34.2)) (
         (A.partA 6 2 c12).bind fun x52 =>
         (m_level_CheckCurve [x52] r34.2).bind fun r53 =>
         (A.neq .i r53.1 (AV.int .i64 0)).bind fun x54 =>
         A.cond x54 (
          some (AX.ret, [r53.1, (v4.getD 1 AV.undef), (v4.getD 2 AV.undef)], r53.2)) (
          (A.part1 10 c12).bind fun x55 =>
          (A.lenS x55).bind fun x56 =>
          (A.gtr x56 (AV.int .i64 2000)).bind fun x57 =>
          A.cond x57 (
           some (AX.ret, [(AV.int .i64 2), (v4.getD 1 AV.undef), (v4.getD 2 AV.undef)], r53.2)) (
           (A.part1 10 c12).bind fun x58 =>
           (m_cue_checkMoves [x58] r53.2).bind fun r59 =>
           (A.neq .i r59.1 (AV.int .i64 0)).bind fun x60 =>
           A.cond x60 (
            some (AX.ret, [r59.1, (v4.getD 1 AV.undef), (v4.getD 2 AV.undef)], r59.2)) (
            (A.part1 10 c12).bind fun x61 =>
            (A.lenS x61).bind fun x62 =>
            (A.add (v4.getD 1 AV.undef) x62).bind fun x63 =>
            (A.add (v4.getD 2 AV.undef) (AV.int .i64 1)).bind fun x64 =>
            some (AX.normal, [(v4.getD 0 AV.undef), x63, x64], r59.2))))))))) (
     some (AX.exit 0, [(v4.getD 0 AV.undef), (v4.getD 1 AV.undef), (v4.getD 2 AV.undef)], s5))) [(AV.int .i64 0), (AV.int .i64 0), (AV.int .i64 0)] σ).bind fun r65 =>
  bif r65.1 == AX.exit 0 then (
   (A.gtr (r65.2.1.getD 1 AV.undef) (AV.int .i64 10000)).bind fun x66 =>
   (m_word_When [x66, (AV.int .i64 2)] r65.2.2).bind fun r67 =>
   A.fin σ r67.1 r67.2) else
  bif r65.1 == AX.ret then (
   A.fin σ (r65.2.1.getD 0 AV.undef) r65.2.2) else
  none)
noncomputable def m_cue_form : List AV → Heap → Option (AV × Heap) := A.wrap true [(.e 11 [.k, .k, .k, .k, .k, .k, .k, (.s 2), .k, .k, (.s 8)])] .k (A.ar1 r_cue_form)
noncomputable def r_cue_state (a0 : AV) (σ : Heap) : Option (AV × Heap) :=
 (A.lenS a0).bind fun x1 =>
 (A.loop (fun v2 s3 =>
   (A.lss (v2.getD 0 AV.undef) x1).bind fun x5 =>
   A.cond x5 (
    (A.iaddr 11 a0 (v2.getD 0 AV.undef)).bind fun x6 =>
    ((A.deref x6 s3).bind fun c7 => A.partA 0 11 c7).bind fun x8 =>
    (A.cells 11 x8).bind fun c9 =>
    (A.splice 0 c9 [(AV.int .i64 0), (AV.str ⟨#[]⟩), (AV.int .i64 0), (AV.int .i64 0), (AV.int .i64 0), (AV.int .i64 0), (AV.int .i64 0), AV.nsl, (AV.bool false), (AV.int .i64 0), AV.nsl]).bind fun c10 =>
    (A.part1 10 c10).bind fun x11 =>
    (A.lenS x11).bind fun x12 =>
    (A.loop (fun v13 s14 =>
      (A.lss (v13.getD 1 AV.undef) x12).bind fun x16 =>
      A.cond x16 (
       (A.iaddr 8 x11 (v13.getD 1 AV.undef)).bind fun x17 =>
       ((A.deref x17 s14).bind fun c18 => A.partA 0 8 c18).bind fun x19 =>
       (A.cells 8 x19).bind fun c20 =>
       (A.splice 0 c20 [(AV.int .i64 0), (AV.str ⟨#[]⟩), (AV.int .i64 0), (AV.int .i64 0), (AV.bool false), (AV.bool false), (AV.int .i64 0), (AV.int .i64 0)]).bind fun c21 =>
       (A.part1 4 c21).bind fun x22 =>
       (A.cond x22 (
        (A.partA 0 2 c21).bind fun x24 =>
        (A.mdel (.s [0, 2]) (AV.om σ.length) x24 s14).bind fun h25 =>
        some ([(v13.getD 0 AV.undef)], h25)) (
        (A.partA 0 2 c21).bind fun x26 =>
        (A.partA 0 2 c21).bind fun x27 =>
        (A.partA 2 2 c21).bind fun x28 =>
        ((A.lb (v13.getD 0 AV.undef)).bind fun _ => some (0)).bind fun p29 =>
        ((A.lb (v13.getD 0 AV.undef)).bind fun c30 => A.part1 p29 c30).bind fun x31 =>
        (((A.cells 2 x27).bind fun c32 => (A.splice 0 c32 [(AV.int .i64 0), (AV.str ⟨#[]⟩), (AV.int .i64 0), (AV.int .i64 0), (AV.int .i64 0)]).bind fun c33 => (A.cells 2 x28).bind fun c34 => (A.splice 2 c34 c33).bind fun c35 => ((A.cell x31).bind fun v => some [v]).bind fun c36 => (A.splice 4 c36 c35).bind fun c37 => some c37).bind fun cs => some (AV.agg cs)).bind fun x38 =>
        (A.mupd (.s [0, 2]) (AV.om σ.length) x26 x38 s14).bind fun h39 =>
        some ([(v13.getD 0 AV.undef)], h39))).bind fun r23 =>
       (A.add (v13.getD 1 AV.undef) (AV.int .i64 1)).bind fun x40 =>
       some (AX.normal, [(r23.1.getD 0 AV.undef), x40], r23.2)) (
       some (AX.exit 2, [(v13.getD 0 AV.undef), (v13.getD 1 AV.undef)], s14))) [(AV.lbx c10), (AV.int .i64 0)] s3).bind fun r41 =>
    bif r41.1 == AX.exit 2 then (
     (A.add (v2.getD 0 AV.undef) (AV.int .i64 1)).bind fun x42 =>
     some (AX.normal, [x42], r41.2.2)) else
    none) (
    some (AX.exit 0, [(v2.getD 0 AV.undef)], s3))) [(AV.int .i64 0)] (σ ++ [Blk.map []])).bind fun r43 =>
 bif r43.1 == AX.exit 0 then (
  A.fin σ (AV.om σ.length) r43.2.2) else
 none
noncomputable def m_cue_state : List AV → Heap → Option (AV × Heap) := A.wrap true [(.e 11 [.k, .k, .k, .k, .k, .k, .k, (.s 2), .k, .k, (.s 8)])] .k (A.ar1 r_cue_state)
noncomputable def r_cue_copied (a0 : AV) (σ : Heap) : Option (AV × Heap) :=
 (A.lenS a0).bind fun x1 =>
 (A.loop (fun v2 s3 =>
   (A.lss (v2.getD 1 AV.undef) x1).bind fun x5 =>
   A.cond x5 (
    (A.iaddr 11 a0 (v2.getD 1 AV.undef)).bind fun x6 =>
    ((A.deref x6 s3).bind fun c7 => A.partA 0 11 c7).bind fun x8 =>
    (A.cells 11 x8).bind fun c9 =>
    (A.splice 0 c9 [(AV.int .i64 0), (AV.str ⟨#[]⟩), (AV.int .i64 0), (AV.int .i64 0), (AV.int .i64 0), (AV.int .i64 0), (AV.int .i64 0), AV.nsl, (AV.bool false), (AV.int .i64 0), AV.nsl]).bind fun c10 =>
    (A.part1 7 c10).bind fun x11 =>
    (m_slices_Clone_api_Point [x11] s3).bind fun r12 =>
    ((A.cell r12.1).bind fun v => some [v]).bind fun c13 =>
    (A.splice 7 c13 c10).bind fun c14 =>
    (A.part1 10 c14).bind fun x15 =>
    (m_slices_Clone_api_Move [x15] r12.2).bind fun r16 =>
    ((A.cell r16.1).bind fun v => some [v]).bind fun c17 =>
    (A.splice 10 c17 c14).bind fun c18 =>
    (A.partA 0 11 c18).bind fun x19 =>
    (((A.cells 11 x19).bind fun c20 => (A.splice 0 c20 [(AV.int .i64 0), (AV.str ⟨#[]⟩), (AV.int .i64 0), (AV.int .i64 0), (AV.int .i64 0), (AV.int .i64 0), (AV.int .i64 0), AV.nsl, (AV.bool false), (AV.int .i64 0), AV.nsl]).bind fun c21 => some c21).bind fun cs => some (AV.sl 11 (chunks 11 1 cs))).bind fun x22 =>
    (A.append 11 (140737488355328 / 128) (v2.getD 0 AV.undef) x22 r16.2).bind fun r23 =>
    (A.add (v2.getD 1 AV.undef) (AV.int .i64 1)).bind fun x24 =>
    some (AX.normal, [r23.1, x24], r23.2)) (
    some (AX.exit 0, [(v2.getD 0 AV.undef), (v2.getD 1 AV.undef)], s3))) [AV.nsl, (AV.int .i64 0)] σ).bind fun r25 =>
 bif r25.1 == AX.exit 0 then (
  some ((r25.2.1.getD 0 AV.undef), r25.2.2)) else
 none
noncomputable def m_cue_copied : List AV → Heap → Option (AV × Heap) := A.wrap true [(.e 11 [.k, .k, .k, .k, .k, .k, .k, (.s 2), .k, .k, (.s 8)])] .k (A.ar1 r_cue_copied)
noncomputable def r_cue_place_fn1 (a0 a1 : AV) (σ : Heap) : Option (AV × Heap) :=
 (A.cells 11 a0).bind fun c1 =>
 (A.part1 0 c1).bind fun x2 =>
 (A.sub x2 a1).bind fun x3 =>
 A.fin σ x3 σ
noncomputable def m_cue_place_fn1 : List AV → Heap → Option (AV × Heap) := A.wrap true [(.a [.k, .k, .k, .k, .k, .k, .k, (.s 2), .k, .k, (.s 8)])] .k (A.ar2 r_cue_place_fn1)
noncomputable def r_cue_place (a0 a1 : AV) (σ : Heap) : Option (AV × Heap) :=
 (m_slices_BinarySearchFunc_api_Cue_int (A.tab (fun _ _ => none) [(177, m_cue_place_fn1)]) [a0, a1, (AV.fn 177 [])] σ).bind fun r1 =>
 (A.ext 0 r1.1).bind fun x2 =>
 (A.ext 1 r1.1).bind fun x3 =>
 A.fin σ (AV.tup [x2, x3]) r1.2
noncomputable def m_cue_place : List AV → Heap → Option (AV × Heap) := A.wrap true [(.e 11 [.k, .k, .k, .k, .k, .k, .k, (.s 2), .k, .k, (.s 8)])] .k (A.ar2 r_cue_place)
noncomputable def r_cue_moveAt_fn1 (a0 a1 : AV) (σ : Heap) : Option (AV × Heap) :=
 (A.cells 8 a0).bind fun c1 =>
 (A.cells 2 a1).bind fun c2 =>
 (A.partA 0 2 c1).bind fun x3 =>
 (A.partA 0 2 c2).bind fun x4 =>
 (m_cue_compare [x3, x4] σ).bind fun r5 =>
 A.fin σ r5.1 r5.2
noncomputable def m_cue_moveAt_fn1 : List AV → Heap → Option (AV × Heap) := A.wrap true [] .k (A.ar2 r_cue_moveAt_fn1)
noncomputable def r_cue_moveAt (a0 a1 : AV) (σ : Heap) : Option (AV × Heap) :=
 (A.cells 11 a0).bind fun c1 =>
 (A.cells 2 a1).bind fun c2 =>
 (A.part1 10 c1).bind fun x3 =>
 (A.partA 0 2 c2).bind fun x4 =>
 (m_slices_BinarySearchFunc_api_Move_api_Key (A.tab (fun _ _ => none) [(185, m_cue_moveAt_fn1)]) [x3, x4, (AV.fn 185 [])] σ).bind fun r5 =>
 (A.ext 0 r5.1).bind fun x6 =>
 (A.ext 1 r5.1).bind fun x7 =>
 A.fin σ (AV.tup [x6, x7]) r5.2
noncomputable def m_cue_moveAt : List AV → Heap → Option (AV × Heap) := A.wrap true [(.a [.k, .k, .k, .k, .k, .k, .k, (.s 2), .k, .k, (.s 8)])] .k (A.ar2 r_cue_moveAt)
noncomputable def r_cue_put (a0 a1 : AV) (σ : Heap) : Option (AV × Heap) :=
 (A.cells 8 a1).bind fun c1 =>
 (A.nilck a0).bind fun x2 =>
 ((A.deref x2 σ).bind fun c3 => A.partA 0 11 c3).bind fun x4 =>
 (A.partA 0 2 c1).bind fun x5 =>
 (A.quiet (m_cue_moveAt [x4, x5] σ) σ).bind fun x6 =>
 (A.ext 0 x6).bind fun x7 =>
 (A.ext 1 x6).bind fun x8 =>
 A.cond x8 (
  (A.nilck a0).bind fun x9 =>
  (A.faddr 10 x9).bind fun x10 =>
  ((A.deref x10 σ).bind fun c11 => A.part1 0 c11).bind fun x12 =>
  (A.partA 0 8 c1).bind fun x13 =>
  (A.iaddr 8 x12 x7).bind fun x14 =>
  (A.cells 8 x13).bind fun c15 =>
  (A.storeAt x14 c15 σ).bind fun c16 =>
  some ((AV.tup []), c16)) (
  (A.nilck a0).bind fun x17 =>
  (A.faddr 10 x17).bind fun x18 =>
  ((A.deref x18 σ).bind fun c19 => A.part1 0 c19).bind fun x20 =>
  (A.partA 0 8 c1).bind fun x21 =>
  (((A.cells 8 x21).bind fun c22 => (A.splice 0 c22 [(AV.int .i64 0), (AV.str ⟨#[]⟩), (AV.int .i64 0), (AV.int .i64 0), (AV.bool false), (AV.bool false), (AV.int .i64 0), (AV.int .i64 0)]).bind fun c23 => some c23).bind fun cs => some (AV.sl 8 (chunks 8 1 cs))).bind fun x24 =>
  (m_slices_Insert_api_Move [x20, x7, x24] σ).bind fun r25 =>
  (A.nilck a0).bind fun x26 =>
  (A.faddr 10 x26).bind fun x27 =>
  ((A.cell r25.1).bind fun v => some [v]).bind fun c28 =>
  (A.storeAt x27 c28 r25.2).bind fun c29 =>
  some ((AV.tup []), c29))
noncomputable def m_cue_put : List AV → Heap → Option (AV × Heap) := A.wrap false [] .k (A.ar2 r_cue_put)
noncomputable def r_cue_done (a0 : AV) (σ : Heap) : Option (AV × Heap) :=
 (m_cue_form [a0] σ).bind fun r1 =>
 (A.neq .i r1.1 (AV.int .i64 0)).bind fun x2 =>
 A.cond x2 (
  some ((AV.tup [AV.nsl, r1.1]), r1.2)) (
  some ((AV.tup [a0, (AV.int .i64 0)]), r1.2))
noncomputable def m_cue_done : List AV → Heap → Option (AV × Heap) := A.wrap false [] .k (A.ar1 r_cue_done)
noncomputable def r_cue_move (a0 a1 : AV) (σ : Heap) : Option (AV × Heap) :=
 (A.cells 2 a1).bind fun c1 =>
 (A.partA 0 2 c1).bind fun x2 =>
 (A.lookOk (.s [0, 2]) a0 x2 (AV.agg [(AV.int .i64 0), (AV.str ⟨#[]⟩), (AV.int .i64 0), (AV.int .i64 0), (AV.int .i64 0)]) σ).bind fun x3 =>
 (A.ext 0 x3).bind fun x4 =>
 (A.ext 1 x3).bind fun x5 =>
 (A.cells 5 x4).bind fun c6 =>
 (A.splice 0 c6 [(AV.int .i64 0), (AV.str ⟨#[]⟩), (AV.int .i64 0), (AV.int .i64 0), (AV.int .i64 0)]).bind fun c7 =>
 (A.partA 0 2 c1).bind fun x8 =>
 (A.partA 2 2 c7).bind fun x9 =>
 (A.not x5).bind fun x10 =>
 (((A.cells 2 x8).bind fun c11 => (A.splice 0 c11 [(AV.int .i64 0), (AV.str ⟨#[]⟩), (AV.int .i64 0), (AV.int .i64 0), (AV.bool false), (AV.bool false), (AV.int .i64 0), (AV.int .i64 0)]).bind fun c12 => (A.cells 2 x9).bind fun c13 => (A.splice 2 c13 c12).bind fun c14 => ((A.cell x10).bind fun v => some [v]).bind fun c15 => (A.splice 4 c15 c14).bind fun c16 => some c16).bind fun cs => some (AV.agg cs)).bind fun x17 =>
 (A.cells 8 x17).bind fun c18 =>
 (A.splice 0 c18 [(AV.int .i64 0), (AV.str ⟨#[]⟩), (AV.int .i64 0), (AV.int .i64 0), (AV.bool false), (AV.bool false), (AV.int .i64 0), (AV.int .i64 0)]).bind fun c19 =>
 (A.partA 0 8 c19).bind fun x20 =>
 A.fin σ x20 σ
noncomputable def m_cue_move : List AV → Heap → Option (AV × Heap) := A.wrap true [] .k (A.ar2 r_cue_move)
noncomputable def r_cue_idle_fn1 (a0 a1 : AV) (σ : Heap) : Option (AV × Heap) :=
 (A.cells 8 a0).bind fun c1 =>
 ((A.deref a1 σ).bind fun c2 => A.part1 0 c2).bind fun x3 =>
 (A.partA 0 2 c1).bind fun x4 =>
 (A.lookOk (.s [0, 2]) x3 x4 (AV.agg [(AV.int .i64 0), (AV.str ⟨#[]⟩), (AV.int .i64 0), (AV.int .i64 0), (AV.int .i64 0)]) σ).bind fun x5 =>
 (A.ext 0 x5).bind fun x6 =>
 (A.ext 1 x5).bind fun x7 =>
 (A.cells 5 x6).bind fun c8 =>
 (A.splice 0 c8 [(AV.int .i64 0), (AV.str ⟨#[]⟩), (AV.int .i64 0), (AV.int .i64 0), (AV.int .i64 0)]).bind fun c9 =>
 (A.part1 5 c1).bind fun x10 =>
 (A.not x10).bind fun x11 =>
 (A.guard x11 true (A.part1 4 c1) (some (AV.tup []))).bind fun x12 =>
 (A.guard x11 true (some x12) (some (AV.tup []))).bind fun x13 =>
 (A.guard x13 true (some x7) (some (AV.tup []))).bind fun x14 =>
 (A.guard x13 true (A.not x14) (some (AV.tup []))).bind fun x15 =>
 (A.guard x11 true (A.pick x13 x15 (AV.bool false)) (some (AV.tup []))).bind fun x16 =>
 (A.guard x11 true (some x16) (some (AV.tup []))).bind fun x17 =>
 (A.guard x17 false (A.part1 4 c1) (some (AV.tup []))).bind fun x18 =>
 (A.guard x17 false (A.not x18) (some (AV.tup []))).bind fun x19 =>
 (A.guard x17 false (some x19) (some (AV.tup []))).bind fun x20 =>
 (A.guard x20 true (some x7) (some (AV.tup []))).bind fun x21 =>
 (A.guard x17 false (A.pick x20 x21 (AV.bool false)) (some (AV.tup []))).bind fun x22 =>
 (A.guard x17 false (some x22) (some (AV.tup []))).bind fun x23 =>
 (A.guard x23 true (A.partA 2 2 c9) (some (AV.tup []))).bind fun x24 =>
 (A.guard x23 true (A.partA 2 2 c1) (some (AV.tup []))).bind fun x25 =>
 (A.guard x23 true (A.eql (.s [0, 0]) x24 x25) (some (AV.tup []))).bind fun x26 =>
 (A.guard x17 false (A.pick x23 x26 (AV.bool false)) (some (AV.tup []))).bind fun x27 =>
 (A.guard x11 true (A.pick x17 (AV.bool true) x27) (some (AV.tup []))).bind fun x28 =>
 (A.pick x11 x28 (AV.bool false)).bind fun x29 =>
 A.fin σ x29 σ
noncomputable def m_cue_idle_fn1 : List AV → Heap → Option (AV × Heap) := A.wrap true [] .k (A.ar2 r_cue_idle_fn1)
noncomputable def r_cue_idle (a0 a1 : AV) (σ : Heap) : Option (AV × Heap) :=
 (((A.cell a1).bind fun v => some [v]).bind fun cs => some (AV.rp cs)).bind fun x1 =>
 (A.nilck a0).bind fun x2 =>
 (A.faddr 10 x2).bind fun x3 =>
 ((A.deref x3 σ).bind fun c4 => A.part1 0 c4).bind fun x5 =>
 (m_slices_DeleteFunc_api_Move (A.tab (fun _ _ => none) [(204, m_cue_idle_fn1), (204, m_cue_idle_fn1)]) [x5, (AV.fn 204 [x1])] σ).bind fun r6 =>
 (A.nilck a0).bind fun x7 =>
 (A.faddr 10 x7).bind fun x8 =>
 ((A.cell r6.1).bind fun v => some [v]).bind fun c9 =>
 (A.storeAt x8 c9 r6.2).bind fun c10 =>
 some ((AV.tup []), c10)
noncomputable def m_cue_idle : List AV → Heap → Option (AV × Heap) := A.wrap false [] .k (A.ar2 r_cue_idle)
noncomputable def r_cue_Clean (a0 : AV) (σ : Heap) : Option (AV × Heap) :=
 (m_cue_form [a0] σ).bind fun r1 =>
 (A.neq .i r1.1 (AV.int .i64 0)).bind fun x2 =>
 A.cond x2 (
  A.fin σ (AV.tup [AV.nsl, r1.1]) r1.2) (
  (m_cue_copied [a0] r1.2).bind fun r3 =>
  (A.lenS r3.1).bind fun x4 =>
  (A.loop (fun v5 s6 =>
    (A.lss (v5.getD 0 AV.undef) x4).bind fun x8 =>
    A.cond x8 (
     (A.iaddr 11 r3.1 (v5.getD 0 AV.undef)).bind fun x9 =>
     (A.faddr 8 x9).bind fun x10 =>
     ((A.deref x10 s6).bind fun c11 => A.part1 0 c11).bind fun x12 =>
     (A.not x12).bind fun x13 =>
     (A.cond x13 (
      (A.iaddr 11 r3.1 (v5.getD 0 AV.undef)).bind fun x15 =>
      (A.sliceS 11 a0 none (some (v5.getD 0 AV.undef)) s6).bind fun x16 =>
      (A.quiet (m_cue_state [x16] s6) s6).bind fun x17 =>
      (m_cue_idle [x15, x17] s6).bind fun r18 =>
      some (([] : List AV), r18.2)) (
      some (([] : List AV), s6))).bind fun r14 =>
     (A.add (v5.getD 0 AV.undef) (AV.int .i64 1)).bind fun x19 =>
     some (AX.normal, [x19], r14.2)) (
     some (AX.exit 0, [(v5.getD 0 AV.undef)], s6))) [(AV.int .i64 0)] r3.2).bind fun r20 =>
  bif r20.1 == AX.exit 0 then (
   A.fin σ (AV.tup [r3.1, (AV.int .i64 0)]) r20.2.2) else
  none)
noncomputable def m_cue_Clean : List AV → Heap → Option (AV × Heap) := A.wrap true [(.e 11 [.k, .k, .k, .k, .k, .k, .k, (.s 2), .k, .k, (.s 8)])] (.t [(.e 11 [.k, .k, .k, .k, .k, .k, .k, (.s 2), .k, .k, (.s 8)]), .k]) (A.ar1 r_cue_Clean)
noncomputable def r_cue_Block (a0 a1 : AV) (σ : Heap) : Option (AV × Heap) :=
 (m_cue_form [a0] σ).bind fun r1 =>
 (A.neq .i r1.1 (AV.int .i64 0)).bind fun x2 =>
 A.cond x2 (
  (A.fin σ (AV.tup [AV.nsl, r1.1]) r1.2).map fun p => (A.nn (.t [(.e 11 [.k, .k, .k, .k, .k, .k, .k, (.s 2), .k, .k, (.s 8)]), .k]) p.1, p.2)) (
  (m_cue_place [a0, a1] r1.2).bind fun r3 =>
  (A.ext 0 r3.1).bind fun x4 =>
  (A.ext 1 r3.1).bind fun x5 =>
  (A.not x5).bind fun x6 =>
  A.cond x6 (
   (A.fin σ (AV.tup [AV.nsl, (AV.int .i64 8)]) r3.2).map fun p => (A.nn (.t [(.e 11 [.k, .k, .k, .k, .k, .k, .k, (.s 2), .k, .k, (.s 8)]), .k]) p.1, p.2)) (
   (m_cue_copied [a0] r3.2).bind fun r7 =>
   (A.add x4 (AV.int .i64 1)).bind fun x8 =>
   (A.sliceS 11 a0 none (some x8) r7.2).bind fun x9 =>
   (m_cue_state [x9] r7.2).bind fun r10 =>
   (A.rangeA r10.1).bind fun es11 =>
   A.loopC (fun v12 s13 k14 =>
     A.nextA (AV.op r10.2.length 0) s13 fun x15 s16 =>
     (A.ext 0 x15).bind fun x17 =>
     A.cond x17 (
      (A.entryA (AV.op r10.2.length 0) s16).bind fun x18 =>
      (A.ext 0 x18).bind fun x19 =>
      (A.cells 2 x19).bind fun c20 =>
      (A.splice 0 c20 [(AV.int .i64 0), (AV.str ⟨#[]⟩)]).bind fun c21 =>
      (A.iaddr 11 r7.1 x4).bind fun x22 =>
      ((A.deref x22 s16).bind fun c23 => A.partA 0 11 c23).bind fun x24 =>
      (A.partA 0 2 c21).bind fun x25 =>
      (A.quiet (m_cue_moveAt [x24, x25] s16) s16).bind fun x26 =>
      (A.ext 0 x26).bind fun x27 =>
      (A.ext 1 x26).bind fun x28 =>
      (A.not x28).bind fun x29 =>
      (A.cond x29 (
       (A.iaddr 11 r7.1 x4).bind fun x31 =>
       (A.partA 0 2 c21).bind fun x32 =>
       (A.quiet (m_cue_move [r10.1, x32] s16) s16).bind fun x33 =>
       (m_cue_put [x31, x33] s16).bind fun r34 =>
       some (([] : List AV), r34.2)) (
       some (([] : List AV), s16))).bind fun r30 =>
      k14 (AX.normal, [], r30.2)) (
      k14 (AX.exit 0, [], s16))) [] (r10.2 ++ [Blk.it [] es11]) fun r35 =>
   bif r35.1 == AX.exit 0 then (
    (A.iaddr 11 r7.1 x4).bind fun x36 =>
    (A.faddr 8 x36).bind fun x37 =>
    ((A.cell (AV.bool true)).bind fun v => some [v]).bind fun c38 =>
    (A.storeAt x37 c38 r35.2.2).bind fun c39 =>
    (m_cue_done [r7.1] c39).bind fun r40 =>
    (A.ext 0 r40.1).bind fun x41 =>
    (A.ext 1 r40.1).bind fun x42 =>
    (A.fin σ (AV.tup [x41, x42]) r40.2).map fun p => (A.nn (.t [(.e 11 [.k, .k, .k, .k, .k, .k, .k, (.s 2), .k, .k, (.s 8)]), .k]) p.1, p.2)) else
   none))
noncomputable def m_cue_Block : List AV → Heap → Option (AV × Heap) := A.wrap true [(.e 11 [.k, .k, .k, .k, .k, .k, .k, (.s 2), .k, .k, (.s 8)])] (.t [(.e 11 [.k, .k, .k, .k, .k, .k, .k, (.s 2), .k, .k, (.s 8)]), .k]) (A.ar2 r_cue_Block)
noncomputable def r_cue_Unblock (a0 a1 : AV) (σ : Heap) : Option (AV × Heap) :=
 (m_cue_form [a0] σ).bind fun r1 =>
 (A.neq .i r1.1 (AV.int .i64 0)).bind fun x2 =>
 A.cond x2 (
  A.fin σ (AV.tup [AV.nsl, r1.1]) r1.2) (
  (m_cue_place [a0, a1] r1.2).bind fun r3 =>
  (A.ext 0 r3.1).bind fun x4 =>
  (A.ext 1 r3.1).bind fun x5 =>
  (A.not x5).bind fun x6 =>
  A.cond x6 (
   A.fin σ (AV.tup [AV.nsl, (AV.int .i64 8)]) r3.2) (
   (m_cue_copied [a0] r3.2).bind fun r7 =>
   (A.iaddr 11 r7.1 x4).bind fun x8 =>
   (A.faddr 8 x8).bind fun x9 =>
   ((A.cell (AV.bool false)).bind fun v => some [v]).bind fun c10 =>
   (A.storeAt x9 c10 r7.2).bind fun c11 =>
   (A.iaddr 11 r7.1 x4).bind fun x12 =>
   (A.sliceS 11 a0 none (some x4) c11).bind fun x13 =>
   (A.quiet (m_cue_state [x13] c11) c11).bind fun x14 =>
   (m_cue_idle [x12, x14] c11).bind fun r15 =>
   A.fin σ (AV.tup [r7.1, (AV.int .i64 0)]) r15.2))
noncomputable def m_cue_Unblock : List AV → Heap → Option (AV × Heap) := A.wrap true [(.e 11 [.k, .k, .k, .k, .k, .k, .k, (.s 2), .k, .k, (.s 8)])] (.t [(.e 11 [.k, .k, .k, .k, .k, .k, .k, (.s 2), .k, .k, (.s 8)]), .k]) (A.ar2 r_cue_Unblock)
end Go.Proofs.Ytphgchakmkankaa

namespace Go.Proofs.Ytphgchakmkankaa
set_option linter.unusedSectionVars false
set_option linter.unusedSimpArgs false
set_option linter.unusedVariables false
set_option maxRecDepth 100000
noncomputable def r_R1_IsWord (a0 : AV) (σ : Heap) : Option (AV × Heap) :=
 (A.lenZ a0).bind fun x1 =>
 (A.loop (fun v2 s3 =>
   (A.lss (v2.getD 1 AV.undef) x1).bind fun x5 =>
   A.cond x5 (
    (A.sidx a0 (v2.getD 1 AV.undef)).bind fun x6 =>
    (A.lss x6 (AV.int .u8 97)).bind fun x7 =>
    (A.guard x7 false (some x6) (some (AV.tup []))).bind fun x8 =>
    (A.guard x7 false (A.gtr x8 (AV.int .u8 122)) (some (AV.tup []))).bind fun x9 =>
    (A.pick x7 (AV.bool true) x9).bind fun x10 =>
    (A.guard x10 true (some x6) (some (AV.tup []))).bind fun x11 =>
    (A.guard x10 true (A.lss x11 (AV.int .u8 48)) (some (AV.tup []))).bind fun x12 =>
    (A.guard x10 true (some x12) (some (AV.tup []))).bind fun x13 =>
    (A.guard x13 false (some x6) (some (AV.tup []))).bind fun x14 =>
    (A.guard x13 false (A.gtr x14 (AV.int .u8 57)) (some (AV.tup []))).bind fun x15 =>
    (A.guard x10 true (A.pick x13 (AV.bool true) x15) (some (AV.tup []))).bind fun x16 =>
    (A.pick x10 x16 (AV.bool false)).bind fun x17 =>
    (A.guard x17 true (some x6) (some (AV.tup []))).bind fun x18 =>
    (A.guard x17 true (A.neq .i x18 (AV.int .u8 45)) (some (AV.tup []))).bind fun x19 =>
    (A.pick x17 x19 (AV.bool false)).bind fun x20 =>
    A.cond x20 (
     some (AX.ret, [(AV.bool false), (v2.getD 1 AV.undef)], s3)) (
     (A.add (v2.getD 1 AV.undef) (AV.int .i64 1)).bind fun x21 =>
     some (AX.normal, [(v2.getD 0 AV.undef), x21], s3))) (
    some (AX.exit 0, [(v2.getD 0 AV.undef), (v2.getD 1 AV.undef)], s3))) [(AV.bool false), (AV.int .i64 0)] σ).bind fun r22 =>
 bif r22.1 == AX.exit 0 then (
  (A.neq .z a0 (AV.str ⟨#[]⟩)).bind fun x23 =>
  A.fin σ x23 r22.2.2) else
 bif r22.1 == AX.ret then (
  A.fin σ (r22.2.1.getD 0 AV.undef) r22.2.2) else
 none
noncomputable def m_R1_IsWord : List AV → Heap → Option (AV × Heap) := A.wrap true [] .k (A.ar1 r_R1_IsWord)
noncomputable def r_R1_IsName (a0 : AV) (σ : Heap) : Option (AV × Heap) :=
 (m_R1_IsWord [a0] σ).bind fun r1 =>
 (A.guard r1.1 true (some a0) (some (AV.tup []))).bind fun x2 =>
 (A.guard r1.1 true (A.lenZ x2) (some (AV.tup []))).bind fun x3 =>
 (A.guard r1.1 true (A.leq x3 (AV.int .i64 20)) (some (AV.tup []))).bind fun x4 =>
 (A.pick r1.1 x4 (AV.bool false)).bind fun x5 =>
 (A.guard x5 true (some a0) (some (AV.tup []))).bind fun x6 =>
 (A.guard x5 true (A.sidx x6 (AV.int .i64 0)) (some (AV.tup []))).bind fun x7 =>
 (A.guard x5 true (A.geq x7 (AV.int .u8 97)) (some (AV.tup []))).bind fun x8 =>
 (A.pick x5 x8 (AV.bool false)).bind fun x9 =>
 (A.guard x9 true (some a0) (some (AV.tup []))).bind fun x10 =>
 (A.guard x9 true (A.sidx x10 (AV.int .i64 0)) (some (AV.tup []))).bind fun x11 =>
 (A.guard x9 true (A.leq x11 (AV.int .u8 122)) (some (AV.tup []))).bind fun x12 =>
 (A.pick x9 x12 (AV.bool false)).bind fun x13 =>
 A.fin σ x13 r1.2
noncomputable def m_R1_IsName : List AV → Heap → Option (AV × Heap) := A.wrap true [] .k (A.ar1 r_R1_IsName)
noncomputable def r_R1_Within (a0 a1 a2 : AV) (σ : Heap) : Option (AV × Heap) :=
 (A.geq a0 a1).bind fun x1 =>
 (A.guard x1 true (some a0) (some (AV.tup []))).bind fun x2 =>
 (A.guard x1 true (some a2) (some (AV.tup []))).bind fun x3 =>
 (A.guard x1 true (A.leq x2 x3) (some (AV.tup []))).bind fun x4 =>
 (A.pick x1 x4 (AV.bool false)).bind fun x5 =>
 A.fin σ x5 σ
noncomputable def m_R1_Within : List AV → Heap → Option (AV × Heap) := A.wrap true [] .k (A.ar3 r_R1_Within)
noncomputable def r_R1_IsLevel (a0 : AV) (σ : Heap) : Option (AV × Heap) :=
 (m_R1_Within [a0, (AV.int .i64 0), (AV.int .i64 65535)] σ).bind fun r1 =>
 A.fin σ r1.1 r1.2
noncomputable def m_R1_IsLevel : List AV → Heap → Option (AV × Heap) := A.wrap true [] .k (A.ar1 r_R1_IsLevel)
noncomputable def r_R1_IsTitle (a0 : AV) (σ : Heap) : Option (AV × Heap) :=
 (A.eql .z a0 (AV.str ⟨#[]⟩)).bind fun x1 =>
 (A.guard x1 false (some a0) (some (AV.tup []))).bind fun x2 =>
 (A.guard x1 false (A.lenZ x2) (some (AV.tup []))).bind fun x3 =>
 (A.guard x1 false (A.gtr x3 (AV.int .i64 60)) (some (AV.tup []))).bind fun x4 =>
 (A.pick x1 (AV.bool true) x4).bind fun x5 =>
 (A.guard x5 false (some a0) (some (AV.tup []))).bind fun x6 =>
 (A.guard x5 false (A.sidx x6 (AV.int .i64 0)) (some (AV.tup []))).bind fun x7 =>
 (A.guard x5 false (A.eql .i x7 (AV.int .u8 32)) (some (AV.tup []))).bind fun x8 =>
 (A.pick x5 (AV.bool true) x8).bind fun x9 =>
 (A.guard x9 false (some a0) (some (AV.tup []))).bind fun x10 =>
 (A.guard x9 false (some a0) (some (AV.tup []))).bind fun x11 =>
 (A.guard x9 false (A.lenZ x11) (some (AV.tup []))).bind fun x12 =>
 (A.guard x9 false (A.sub x12 (AV.int .i64 1)) (some (AV.tup []))).bind fun x13 =>
 (A.guard x9 false (A.sidx x10 x13) (some (AV.tup []))).bind fun x14 =>
 (A.guard x9 false (A.eql .i x14 (AV.int .u8 32)) (some (AV.tup []))).bind fun x15 =>
 (A.pick x9 (AV.bool true) x15).bind fun x16 =>
 A.cond x16 (
  A.fin σ (AV.bool false) σ) (
  (A.lenZ a0).bind fun x17 =>
  (A.loop (fun v18 s19 =>
    (A.lss (v18.getD 1 AV.undef) x17).bind fun x21 =>
    A.cond x21 (
     (A.sidx a0 (v18.getD 1 AV.undef)).bind fun x22 =>
     (A.lss x22 (AV.int .u8 32)).bind fun x23 =>
     (A.guard x23 false (some a0) (some (AV.tup []))).bind fun x24 =>
     (A.guard x23 false (some (v18.getD 1 AV.undef)) (some (AV.tup []))).bind fun x25 =>
     (A.guard x23 false (A.sidx x24 x25) (some (AV.tup []))).bind fun x26 =>
     (A.guard x23 false (A.gtr x26 (AV.int .u8 126)) (some (AV.tup []))).bind fun x27 =>
     (A.pick x23 (AV.bool true) x27).bind fun x28 =>
     A.cond x28 (
      some (AX.ret, [(AV.bool false), (v18.getD 1 AV.undef)], s19)) (
      (A.add (v18.getD 1 AV.undef) (AV.int .i64 1)).bind fun x29 =>
      some (AX.normal, [(v18.getD 0 AV.undef), x29], s19))) (
     some (AX.exit 0, [(v18.getD 0 AV.undef), (v18.getD 1 AV.undef)], s19))) [(AV.bool false), (AV.int .i64 0)] σ).bind fun r30 =>
  bif r30.1 == AX.exit 0 then (
   A.fin σ (AV.bool true) r30.2.2) else
  bif r30.1 == AX.ret then (
   A.fin σ (r30.2.1.getD 0 AV.undef) r30.2.2) else
  none)
noncomputable def m_R1_IsTitle : List AV → Heap → Option (AV × Heap) := A.wrap true [] .k (A.ar1 r_R1_IsTitle)
noncomputable def r_R1_IsTime (a0 : AV) (σ : Heap) : Option (AV × Heap) :=
 (m_R1_Within [a0, (AV.int .i64 0), (AV.int .i64 36000000)] σ).bind fun r1 =>
 A.fin σ r1.1 r1.2
noncomputable def m_R1_IsTime : List AV → Heap → Option (AV × Heap) := A.wrap true [] .k (A.ar1 r_R1_IsTime)
noncomputable def r_R1_CheckCurve (a0 : AV) (σ : Heap) : Option (AV × Heap) :=
 (A.cells 2 a0).bind fun c1 =>
 (A.part1 0 c1).bind fun x2 =>
 (m_R1_Within [x2, (AV.int .i64 1), (AV.int .i64 6)] σ).bind fun r3 =>
 (A.not r3.1).bind fun x4 =>
 A.cond x4 (
  A.fin σ (AV.int .i64 4) r3.2) (
  (A.part1 0 c1).bind fun x5 =>
  (A.neq .i x5 (AV.int .i64 6)).bind fun x6 =>
  (A.guard x6 true (A.part1 1 c1) (some (AV.tup []))).bind fun x7 =>
  (A.guard x6 true (A.lenS x7) (some (AV.tup []))).bind fun x8 =>
  (A.guard x6 true (A.gtr x8 (AV.int .i64 0)) (some (AV.tup []))).bind fun x9 =>
  (A.pick x6 x9 (AV.bool false)).bind fun x10 =>
  A.cond x10 (
   A.fin σ (AV.int .i64 3) r3.2) (
   (A.part1 0 c1).bind fun x11 =>
   (A.neq .i x11 (AV.int .i64 6)).bind fun x12 =>
   A.cond x12 (
    A.fin σ (AV.int .i64 0) r3.2) (
    (A.part1 1 c1).bind fun x13 =>
    (A.lenS x13).bind fun x14 =>
    (A.lss x14 (AV.int .i64 2)).bind fun x15 =>
    A.cond x15 (
     A.fin σ (AV.int .i64 8) r3.2) (
     (A.part1 1 c1).bind fun x16 =>
     (A.lenS x16).bind fun x17 =>
     (A.gtr x17 (AV.int .i64 20)).bind fun x18 =>
     A.cond x18 (
      A.fin σ (AV.int .i64 2) r3.2) (
      (A.part1 1 c1).bind fun x19 =>
      (A.lenS x19).bind fun x20 =>
      (A.loop (fun v21 s22 =>
        (A.lss (v21.getD 2 AV.undef) x20).bind fun x24 =>
        A.cond x24 (
         (A.iaddr 2 x19 (v21.getD 2 AV.undef)).bind fun x25 =>
         ((A.deref x25 s22).bind fun c26 => A.partA 0 2 c26).bind fun x27 =>
         (A.cells 2 x27).bind fun c28 =>
         (A.splice 0 c28 [(AV.int .i64 0), (AV.int .i64 0)]).bind fun c29 =>
         (A.part1 0 c29).bind fun x30 =>
         (m_R1_Within [x30, (AV.int .i64 0), (AV.int .i64 1000)] s22).bind fun r31 =>
         (A.not r31.1).bind fun x32 =>
         (A.guard x32 false (A.part1 1 c29) (some (AV.tup []))).bind fun x33 =>
         (A.guard x32 false (A.quiet (m_R1_Within [x33, (AV.int .i64 0), (AV.int .i64 1000)] r31.2) r31.2) (some (AV.tup []))).bind fun x34 =>
         (A.guard x32 false (A.not x34) (some (AV.tup []))).bind fun x35 =>
         (A.pick x32 (AV.bool true) x35).bind fun x36 =>
         A.cond x36 (
          some (AX.ret, [(v21.getD 0 AV.undef), (AV.int .i64 1), (v21.getD 2 AV.undef)], r31.2)) (
          (A.add (v21.getD 2 AV.undef) (AV.int .i64 1)).bind fun x37 =>
          some (AX.normal, [(v21.getD 0 AV.undef), (v21.getD 1 AV.undef), x37], r31.2))) (
         some (AX.exit 1, [(v21.getD 0 AV.undef), (v21.getD 1 AV.undef), (v21.getD 2 AV.undef)], s22))) [(AV.lbx c1), (AV.int .i64 0), (AV.int .i64 0)] r3.2).bind fun r38 =>
      bif r38.1 == AX.exit 1 then (
       ((A.lb (r38.2.1.getD 0 AV.undef)).bind fun _ => some (1)).bind fun p39 =>
       ((A.lb (r38.2.1.getD 0 AV.undef)).bind fun c40 => A.part1 p39 c40).bind fun x41 =>
       (A.iaddr 2 x41 (AV.int .i64 0)).bind fun x42 =>
       ((A.deref x42 r38.2.2).bind fun c43 => A.partA 0 2 c43).bind fun x44 =>
       (A.neq (.s [0, 0]) x44 (AV.agg [(AV.int .i64 0), (AV.int .i64 0)])).bind fun x45 =>
       ((A.lb (r38.2.1.getD 0 AV.undef)).bind fun _ => some (1)).bind fun p46 =>
              (A.guard x45 false ((A.lb (r38.2.1.getD 0 AV.undef)).bind fun c47 => A.part1 p46 c47) (some (AV.tup []))).bind fun x48 =>
       ((A.lb (r38.2.1.getD 0 AV.undef)).bind fun _ => some (1)).bind fun p49 =>
              (A.guard x45 false ((A.lb (r38.2.1.getD 0 AV.undef)).bind fun c50 => A.part1 p49 c50) (some (AV.tup []))).bind fun x51 =>
       (A.guard x45 false (A.lenS x51) (some (AV.tup []))).bind fun x52 =>
       (A.guard x45 false (A.sub x52 (AV.int .i64 1)) (some (AV.tup []))).bind fun x53 =>
       (A.guard x45 false (A.iaddr 2 x48 x53) (some (AV.tup []))).bind fun x54 =>
       (A.guard x45 false ((A.deref x54 r38.2.2).bind fun c55 => A.partA 0 2 c55) (some (AV.tup []))).bind fun x56 =>
       (A.guard x45 false ((((A.cell (AV.int .i64 1000)).bind fun v => some [v]).bind fun c57 => (A.splice 0 c57 [(AV.int .i64 0), (AV.int .i64 0)]).bind fun c58 => ((A.cell (AV.int .i64 1000)).bind fun v => some [v]).bind fun c59 => (A.splice 1 c59 c58).bind fun c60 => some c60).bind fun cs => some (AV.agg cs)) (some (AV.tup []))).bind fun x61 =>
       (A.guard x45 false (A.neq (.s [0, 0]) x56 x61) (some (AV.tup []))).bind fun x62 =>
       (A.pick x45 (AV.bool true) x62).bind fun x63 =>
       A.cond x63 (
        A.fin σ (AV.int .i64 3) r38.2.2) (
        (A.loop (fun v64 s65 =>
          ((A.lb (v64.getD 0 AV.undef)).bind fun _ => some (1)).bind fun p67 =>
          ((A.lb (v64.getD 0 AV.undef)).bind fun c68 => A.part1 p67 c68).bind fun x69 =>
          (A.lenS x69).bind fun x70 =>
          (A.lss (v64.getD 2 AV.undef) x70).bind fun x71 =>
          A.cond x71 (
           ((A.lb (v64.getD 0 AV.undef)).bind fun _ => some (1)).bind fun p72 =>
           ((A.lb (v64.getD 0 AV.undef)).bind fun c73 => A.part1 p72 c73).bind fun x74 =>
           (A.iaddr 2 x74 (v64.getD 2 AV.undef)).bind fun x75 =>
           (A.faddr 0 x75).bind fun x76 =>
           ((A.deref x76 s65).bind fun c77 => A.part1 0 c77).bind fun x78 =>
           ((A.lb (v64.getD 0 AV.undef)).bind fun _ => some (1)).bind fun p79 =>
           ((A.lb (v64.getD 0 AV.undef)).bind fun c80 => A.part1 p79 c80).bind fun x81 =>
           (A.sub (v64.getD 2 AV.undef) (AV.int .i64 1)).bind fun x82 =>
           (A.iaddr 2 x81 x82).bind fun x83 =>
           (A.faddr 0 x83).bind fun x84 =>
           ((A.deref x84 s65).bind fun c85 => A.part1 0 c85).bind fun x86 =>
           (A.leq x78 x86).bind fun x87 =>
           ((A.lb (v64.getD 0 AV.undef)).bind fun _ => some (1)).bind fun p88 =>
                      (A.guard x87 false ((A.lb (v64.getD 0 AV.undef)).bind fun c89 => A.part1 p88 c89) (some (AV.tup []))).bind fun x90 =>
           (A.guard x87 false (some (v64.getD 2 AV.undef)) (some (AV.tup []))).bind fun x91 =>
           (A.guard x87 false (A.iaddr 2 x90 x91) (some (AV.tup []))).bind fun x92 =>
           (A.guard x87 false (A.faddr 1 x92) (some (AV.tup []))).bind fun x93 =>
           (A.guard x87 false ((A.deref x93 s65).bind fun c94 => A.part1 0 c94) (some (AV.tup []))).bind fun x95 =>
           ((A.lb (v64.getD 0 AV.undef)).bind fun _ => some (1)).bind fun p96 =>
                      (A.guard x87 false ((A.lb (v64.getD 0 AV.undef)).bind fun c97 => A.part1 p96 c97) (some (AV.tup []))).bind fun x98 =>
           (A.guard x87 false (some (v64.getD 2 AV.undef)) (some (AV.tup []))).bind fun x99 =>
           (A.guard x87 false (A.sub x99 (AV.int .i64 1)) (some (AV.tup []))).bind fun x100 =>
           (A.guard x87 false (A.iaddr 2 x98 x100) (some (AV.tup []))).bind fun x101 =>
           (A.guard x87 false (A.faddr 1 x101) (some (AV.tup []))).bind fun x102 =>
           (A.guard x87 false ((A.deref x102 s65).bind fun c103 => A.part1 0 c103) (some (AV.tup []))).bind fun x104 =>
           (A.guard x87 false (A.lss x95 x104) (some (AV.tup []))).bind fun x105 =>
           (A.pick x87 (AV.bool true) x105).bind fun x106 =>
           A.cond x106 (
            some (AX.ret, [(v64.getD 0 AV.undef), (AV.int .i64 7), (v64.getD 2 AV.undef)], s65)) (
            (A.add (v64.getD 2 AV.undef) (AV.int .i64 1)).bind fun x107 =>
            some (AX.normal, [(v64.getD 0 AV.undef), (v64.getD 1 AV.undef), x107], s65))) (
           some (AX.exit 3, [(v64.getD 0 AV.undef), (v64.getD 1 AV.undef), (v64.getD 2 AV.undef)], s65))) [(r38.2.1.getD 0 AV.undef), (r38.2.1.getD 1 AV.undef), (AV.int .i64 1)] r38.2.2).bind fun r108 =>
        bif r108.1 == AX.exit 3 then (
         A.fin σ (AV.int .i64 0) r108.2.2) else
        bif r108.1 == AX.ret then (
         A.fin σ (r108.2.1.getD 1 AV.undef) r108.2.2) else
        none)) else
      bif r38.1 == AX.ret then (
       A.fin σ (r38.2.1.getD 1 AV.undef) r38.2.2) else
      none)))))
noncomputable def m_R1_CheckCurve : List AV → Heap → Option (AV × Heap) := A.wrap true [(.a [.k, (.s 2)])] .k (A.ar1 r_R1_CheckCurve)
end Go.Proofs.Ytphgchakmkankaa

namespace Go.Proofs.Ytphgchakmkankaa
set_option linter.unusedSectionVars false
set_option linter.unusedSimpArgs false
set_option linter.unusedVariables false
set_option maxRecDepth 100000
noncomputable def r_R4_Before (a0 a1 : AV) (σ : Heap) : Option (AV × Heap) :=
 (A.cells 2 a0).bind fun c1 =>
 (A.cells 2 a1).bind fun c2 =>
 (A.part1 0 c1).bind fun x3 =>
 (A.part1 0 c2).bind fun x4 =>
 (A.lss x3 x4).bind fun x5 =>
 (A.guard x5 false (A.part1 0 c1) (some (AV.tup []))).bind fun x6 =>
 (A.guard x5 false (A.part1 0 c2) (some (AV.tup []))).bind fun x7 =>
 (A.guard x5 false (A.eql .i x6 x7) (some (AV.tup []))).bind fun x8 =>
 (A.guard x5 false (some x8) (some (AV.tup []))).bind fun x9 =>
 (A.guard x9 true (A.part1 1 c1) (some (AV.tup []))).bind fun x10 =>
 (A.guard x9 true (A.part1 1 c2) (some (AV.tup []))).bind fun x11 =>
 (A.guard x9 true (A.lss x10 x11) (some (AV.tup []))).bind fun x12 =>
 (A.guard x5 false (A.pick x9 x12 (AV.bool false)) (some (AV.tup []))).bind fun x13 =>
 (A.pick x5 (AV.bool true) x13).bind fun x14 =>
 A.fin σ x14 σ
noncomputable def m_R4_Before : List AV → Heap → Option (AV × Heap) := A.wrap true [] .k (A.ar2 r_R4_Before)
end Go.Proofs.Ytphgchakmkankaa

