/- Parts of the proof of CueCleansMatchSpec, in order. -/
import Derived.Orders
import Derived.Below
import Derived.WalkKit
import Derived.Laws.StructEq
import Derived.Laws.Append
import Derived.Laws.AppendOwn
import Derived.IntWalk
import Derived.Lib.Bytealg
import Derived.Sort.Defs
import Derived.Lib.BitFns
import Derived.Lib.Strings
import Derived.Test.YtphgchakmkankaaRows
import Derived.KernelRfl
import Derived.Test.YtphgchakmkankaaShelf
import Derived.Lib.Overlaps
import Derived.WalkSpells
import Derived.ProofKit
import Derived.OpenShut
import Derived.Lib.Hide
import Derived.Lib.SmallJoins
import Derived.Deep.QuietTactic
import Derived.BigQuiet
import Derived.Deep.RegionHeld3
import Derived.Deep.Slices
import Derived.Test.YtphgchakmkankaaKCueCleansMatchSpec4
namespace Go.Proofs.Ytphgchakmkankaa
set_option linter.unusedSectionVars false
set_option linter.unusedVariables false
set_option linter.unusedSimpArgs false
open HP
def frB : Blk → Prop := fun b => A.freshB b = true
section
variable {α : Type} {c : α → List AV} {sz : Nat} {σ0 σ : Heap} {R : HP}
theorem hs_ext {B : Blk → Prop} (H : Hs B σ0 σ R) (bs : Heap) (hbs : ∀ b ∈ bs, B b) : Hs B σ0 (σ ++ bs) R := by
 obtain ⟨⟨b0, rfl, hb0⟩, h, hr, h2⟩ := H
 exact ⟨⟨b0 ++ bs, by simp, fun b hb => (List.mem_append.1 hb).elim (hb0 b) (hbs b)⟩, h, hr, fun i b hb => ⟨(h2 i b hb).1, by rw [List.getElem?_append_left (List.getElem?_eq_some_iff.1 (h2 i b hb).2).1]; exact (h2 i b hb).2⟩⟩
theorem hs_add {B : Blk → Prop} (H : Hs B σ0 σ R) {bs : Heap} (hbs : ∀ b ∈ bs, B b) {j : Nat} {b : Blk} (hj : σ.length ≤ j) (hb : (σ ++ bs)[j]? = some b) : Hs B σ0 (σ ++ bs) (blk j b * R) := by
 have hl := hs_len H
 have H2 := hs_ext H bs hbs
 obtain ⟨_, h, hr, h2⟩ := H
 have hn : h j = none := by
  cases hh : h j with
  | none => rfl
  | some x => have := (List.getElem?_eq_some_iff.1 (h2 j x hh).2).1; omega
 refine ⟨H2.pre, fun i => if i = j then some b else h i, ⟨fun i => if i = j then some b else none, h, fun i => rfl, hr, fun i => ?_, fun i => ?_⟩, fun i x hx => ?_⟩
 ·by_cases e : i = j
  ·subst e; exact .inr hn
  ·simp [e]
 ·by_cases e : i = j <;> simp [e]
 ·by_cases e : i = j
  ·subst e
   simp only [if_true, Option.some.injEq] at hx
   subst hx
   exact ⟨by omega, hb⟩
  ·simp only [e, if_false] at hx
   obtain ⟨k1, k2⟩ := h2 i x hx
   exact ⟨k1, by rw [List.getElem?_append_left (List.getElem?_eq_some_iff.1 k2).1]; exact k2⟩
def KS (m : List AV → Heap → Option (AV × Heap)) (args : List AV) (c : α → List AV) (sz : Nat) (l : List α) : Prop :=
 ∀ (σ0 σ : Heap) (R : HP), Hs frB σ0 σ R → ∃ v σ', m args σ = some (v, σ') ∧ Hs frB σ0 σ' (Sl (fl c) sz v l * R)
theorem ks_at {B : Blk → Prop} (hBB : ∀ b, frB b → B b) {m : List AV → Heap → Option (AV × Heap)} {args : List AV} {l : List α} (h : KS m args c sz l) (H : Hs B σ0 σ R) : ∃ v σ', m args σ = some (v, σ') ∧ Hs B σ0 σ' (Sl (fl c) sz v l * R) := by
 obtain ⟨v, σ', e1, K⟩ := h σ σ emp (hs_nil σ)
 refine ⟨v, σ', e1, ?_⟩
 obtain ⟨⟨bs, hbs, hfr⟩, _⟩ := id K
 subst hbs
 have hbb : ∀ b ∈ bs, B b := fun b hb => hBB b (hfr b hb)
 rcases slf_cases K with ⟨rfl, hv, _⟩ | ⟨id, g, rfl, K2⟩
 ·exact slz (hs_ext H bs hbb) hv
 ·obtain ⟨k1, k2⟩ := hs_get K2
  exact slf_os (hs_add H hbb k1 k2)
theorem lentK {B : Blk → Prop} (hBB : ∀ b, frB b → B b) {ain : List Sh} {r : List AV → Heap → Option (AV × Heap)} {as0 ts : List AV} {l : List α} (h : LtL σ ain as0 ts) (e : KS (A.wrap true ain .k r) ts c sz l) (H : Hs B σ0 σ R) :
  ∃ v σ', A.wrap true ain .k r as0 σ = some (v, σ') ∧ Hs B σ0 σ' (Sl (fl c) sz v l * R) := by
 obtain ⟨⟨as', k1, k2, k3⟩, k4, k5⟩ := ltL h
 cases ho : as0.any A.own
 ·obtain ⟨v, σ', e1, K⟩ := ks_at hBB e H
  exact ⟨v, σ', by rw [wrap_nn (k5 ho) ho k4]; exact e1, K⟩
 ·obtain ⟨v, σ1, e1, K⟩ := e [] [] emp (hs_nil [])
  have e2 : r (A.nnL ain ts) [] = some (v, σ1) := by
   unfold A.wrap at e1
   rw [k4, Bool.and_false, cond_false] at e1
   obtain ⟨⟨q1, q2⟩, f1, f2⟩ := Option.map_eq_some_iff.1 e1
   simp only [Prod.mk.injEq, nn_k] at f2
   obtain ⟨rfl, rfl⟩ := f2
   exact f1
  have hfr : ∀ b ∈ σ1, frB b := by
   obtain ⟨⟨bs, hbs, hB⟩, _⟩ := K
   rw [List.nil_append] at hbs
   subst hbs
   exact hB
  have hb : σ1.all A.freshB = true := List.all_eq_true.2 hfr
  have hbb : ∀ b ∈ σ1, B b := fun b hb => hBB b (hfr b hb)
  have hw : ∀ v', A.freshT v = true → A.shiftT σ.length v = v' → A.wrap true ain .k r as0 σ = some (v', σ ++ σ1) := by
   intro v' h1 h2
   unfold A.wrap
   rw [ho, Bool.and_self, cond_true, k1, Option.bind_some, k3, e2, Option.bind_some, nn_k]
   simp only [h1, hb, Bool.and_self, cond_true, h2]
  rcases slf_cases K with ⟨rfl, rfl | rfl, _⟩ | ⟨id, g, rfl, K2⟩
  ·exact ⟨.nsl, _, hw _ rfl rfl, slz (hs_ext H σ1 hbb) (.inl rfl)⟩
  ·exact ⟨.ez, _, hw _ rfl rfl, slz (hs_ext H σ1 hbb) (.inr rfl)⟩
  ·obtain ⟨_, k2⟩ := hs_get K2
   refine ⟨.os (id + σ.length) g sz 0 l.length, _, hw _ rfl rfl, slf_os (hs_add H hbb (by omega) ?_)⟩
   rw [List.getElem?_append_right (by omega), Nat.add_sub_cancel]; exact k2
theorem frB_app {c : α → List AV} (hc : ∀ x, (c x).all A.scal1 = true) (l : List α) : ∀ g g' seg, (seg = [] ∨ frB (.arr g sz seg)) → frB (.arr g' sz (seg ++ l.map c)) := by
 intro g g' seg h
 show ((seg ++ l.map c).all fun e => e.all A.scal1) = true
 rw [List.all_append, Bool.and_eq_true]
 refine ⟨?_, ?_⟩
 ·rcases h with rfl | h
  ·rfl
  ·exact h
 ·rw [List.all_map, List.all_eq_true]; intro x _; exact hc x
theorem frB_ins {ye : List AV} (hc : ye.all A.scal1 = true) : ∀ g g' seg k, (seg = [] ∨ frB (.arr g sz seg)) → frB (.arr g' sz (seg.take k ++ [ye] ++ seg.drop k)) := by
 intro g g' seg k h
 have hs : ∀ e ∈ seg, e.all A.scal1 = true := by
  rcases h with rfl | h
  ·intro e he; cases he
  ·exact List.all_eq_true.1 h
 show A.freshB (.arr g' sz (seg.take k ++ [ye] ++ seg.drop k)) = true
 unfold A.freshB
 rw [List.all_eq_true]
 intro e he
 simp only [List.mem_append, List.mem_singleton] at he
 rcases he with (he | rfl) | he
 ·exact hs e (List.mem_of_mem_take he)
 ·exact hc
 ·exact hs e (List.mem_of_mem_drop he)
theorem frB_del : ∀ g g' seg k, frB (.arr g sz seg) → frB (.arr g' sz (seg.eraseIdx k)) := by
 intro g g' seg k h
 show A.freshB (.arr g' sz (seg.eraseIdx k)) = true
 unfold A.freshB
 rw [List.all_eq_true]
 intro e he
 exact List.all_eq_true.1 h e (List.mem_of_mem_eraseIdx he)
end
def srtE (l : List EntryD) : Prop := l.Pairwise fun a b => ltK a.key b.key = true
def posE (l : List EntryD) (k : KeyD) : Nat := (l.takeWhile fun m => ltK m.key k).length
def hasE (l : List EntryD) (k : KeyD) : Bool := l.any fun m => decide (m.key = k)
theorem posE_le (l : List EntryD) (k : KeyD) : posE l k ≤ l.length := (List.takeWhile_prefix _).length_le
theorem posE_lt {l : List EntryD} {k : KeyD} (h : srtE l) : ∀ {i : Nat} {x : EntryD}, l[i]? = some x → (ltK x.key k = true ↔ i < posE l k) := by
 induction l with
 | nil => intro i x hx; simp at hx
 | cons a l ih =>
  intro i x hx
  have hs := List.pairwise_cons.1 h
  unfold posE
  rw [List.takeWhile_cons]
  cases ha : ltK a.key k
  ·simp only [Bool.false_eq_true, if_false, List.length_nil, Nat.not_lt_zero, iff_false, Bool.not_eq_true]
   cases i with
   | zero => simp at hx; subst hx; exact ha
   | succ i =>
    simp only [List.getElem?_cons_succ] at hx
    have := hs.1 x (List.mem_of_getElem? hx)
    cases hq : ltK x.key k
    ·rfl
    ·rw [ltK_trans this hq] at ha; cases ha
  ·simp only [if_true, List.length_cons]
   cases i with
   | zero => simp at hx; subst hx; simp [ha]
   | succ i =>
    simp only [List.getElem?_cons_succ] at hx
    rw [ih hs.2 hx]
    unfold posE
    omega
theorem posE_at {l : List EntryD} {k : KeyD} (h : srtE l) {i : Nat} {x : EntryD} (hi : l[i]? = some x) (hk : x.key = k) : posE l k = i := by
 have h1 : ¬ i < posE l k := fun q => by
  have := (posE_lt h hi).2 q
  rw [hk, ltK_irr] at this; cases this
 have h2 : ¬ posE l k < i := fun q => by
  have hp : posE l k < l.length := Nat.lt_trans q (List.getElem?_eq_some_iff.1 hi).1
  have hy : l[posE l k]? = some l[posE l k] := List.getElem?_eq_getElem hp
  have h3 : ¬ ltK l[posE l k].key k = true := fun q' => Nat.lt_irrefl _ ((posE_lt h hy).1 q')
  have h4 := List.pairwise_iff_getElem.1 h (posE l k) i hp (List.getElem?_eq_some_iff.1 hi).1 q
  rw [(List.getElem?_eq_some_iff.1 hi).2, hk] at h4
  exact h3 h4
 omega
theorem posE_has {l : List EntryD} {k : KeyD} (h : srtE l) : ((l[posE l k]?).any fun x => decide (x.key = k)) = hasE l k := by
 rw [Bool.eq_iff_iff]
 constructor
 ·intro e
  cases hx : l[posE l k]? with
  | none => rw [hx] at e; cases e
  | some x => rw [hx] at e; exact List.any_eq_true.2 ⟨x, List.mem_of_getElem? hx, e⟩
 ·intro e
  obtain ⟨x, hm, hk⟩ := List.any_eq_true.1 e
  have hk := of_decide_eq_true hk
  obtain ⟨i, hi⟩ := List.mem_iff_getElem?.1 hm
  rw [posE_at h hi hk, hi]; simp [hk]
theorem place5_t {l : List EntryD} (hs : srtE l) (hl : l.length < 4611686018427387904) (k : KeyD) : t_R5_place l k = some ((posE l k : Int), hasE l k) := by
 unfold t_R5_place
 refine (whE_while (l := l) (pr := fun m => ltK m.key k) (fun i x hx => ?_) ?_ rfl).trans ?_
 ·have hi := (List.getElem?_eq_some_iff.1 hx).1
  have hi' : ((i : Int) < (l.length : Int)) := by omega
  have e : (decide (x.key.unit < k.unit) || decide (x.key.unit = k.unit) && Op.bytesLess x.key.param.toList k.param.toList) = ltK x.key k := rfl
  simp only [decide_eq_true hi', if_true, tIx_nat hx, Option.bind_some, wrap64 (show inI ((i : Int) + 1) by unfold inI; omega), Bool.true_and, e]
  cases ltK x.key k <;> simp
 ·simp only [decide_eq_false (by omega : ¬ ((l.length : Int) < (l.length : Int))), Bool.false_eq_true, if_false, Option.bind_some, Bool.false_and]
 ·show ((if decide ((posE l k : Int) < (l.length : Int)) = true then tIx l (posE l k : Int) else some default).bind fun x9 => some ((posE l k : Int), ((decide ((posE l k : Int) < (l.length : Int))) && (decide (x9.key = k))))) = _
  rw [← posE_has hs]
  by_cases hp : posE l k < l.length
  ·have hx : l[posE l k]? = some l[posE l k] := List.getElem?_eq_getElem hp
   have hp' : ((posE l k : Int) < (l.length : Int)) := by omega
   rw [decide_eq_true hp', if_pos rfl, tIx_nat hx, Option.bind_some, hx]
   simp
  ·have hx : l[posE l k]? = none := List.getElem?_eq_none (by omega)
   have hp' : ¬ ((posE l k : Int) < (l.length : Int)) := by omega
   rw [decide_eq_false hp', if_neg (by decide), Option.bind_some, hx]
   simp
def stepE (n : Int) (st : List EntryD) (m : MoveD) : List EntryD :=
 let st1 := if hasE st m.key = true then st.eraseIdx (posE st m.key) else st
 if m.release = true then st1 else st1.take (posE st m.key) ++ [⟨m.key, m.value, n⟩] ++ st1.drop (posE st m.key)
def afterF (st : List EntryD) (c : CueD) : List EntryD := c.moves.foldl (stepE c.number) st
def beforeF (l : List CueD) : List EntryD := l.foldl afterF []
def lookE (st : List EntryD) (k : KeyD) : Option EntryD := st.find? fun e => decide (e.key = k)
theorem stepE_spec {n : Int} {st : List EntryD} (h : srtE st) (m : MoveD) : srtE (stepE n st m) ∧ (∀ k, lookE (stepE n st m) k = if k = m.key then (if m.release = true then none else some ⟨m.key, m.value, n⟩) else lookE st k) ∧ (stepE n st m).length ≤ st.length + 1 := by
 obtain ⟨p, hp⟩ : ∃ p, p = posE st m.key := ⟨_, rfl⟩
 obtain ⟨st1, hst1⟩ : ∃ st1, st1 = if hasE st m.key = true then st.eraseIdx p else st := ⟨_, rfl⟩
 have hple : p ≤ st.length := by rw [hp]; exact posE_le _ _
 have e1 : st1.take p = st.take p := by
  rw [hst1]; split
  ·rw [List.eraseIdx_eq_take_drop_succ, List.take_append_of_le_length (by simp; omega), List.take_take, Nat.min_self]
  ·rfl
 have e2 : st1.drop p = if hasE st m.key = true then st.drop (p + 1) else st.drop p := by
  rw [hst1]; split
  ·rw [List.eraseIdx_eq_take_drop_succ, List.drop_append_of_le_length (by simp; omega), List.drop_of_length_le (by simp; omega), List.nil_append]
  ·rfl
 have hlt : ∀ x ∈ st.take p, ltK x.key m.key = true := fun x hx => by
  obtain ⟨i, hi⟩ := List.mem_iff_getElem?.1 hx
  rw [List.getElem?_take] at hi
  split at hi
  ·rename_i q; exact (posE_lt h hi).2 (by omega)
  ·cases hi
 have hgt : ∀ x ∈ st1.drop p, ltK m.key x.key = true := fun x hx => by
  rw [e2] at hx
  have key : ∀ i, p ≤ i → st[i]? = some x → x.key ≠ m.key → ltK m.key x.key = true := by
   intro i hpi hi hne
   cases hq : ltK m.key x.key
   ·exfalso
    have h1 : ltK x.key m.key = false := by
     cases hq2 : ltK x.key m.key
     ·rfl
     ·have := (posE_lt h hi).1 hq2; omega
    exact hne (ltK_tri h1 hq)
   ·rfl
  split at hx
  ·rename_i hh
   obtain ⟨i, hi⟩ := List.mem_iff_getElem?.1 hx
   rw [List.getElem?_drop] at hi
   refine key _ (by omega) hi fun e => ?_
   have := posE_at h hi e
   omega
  ·rename_i hh
   obtain ⟨i, hi⟩ := List.mem_iff_getElem?.1 hx
   rw [List.getElem?_drop] at hi
   refine key _ (by omega) hi fun e => ?_
   exact hh (List.any_eq_true.2 ⟨x, List.mem_of_getElem? hi, by simp [e]⟩)
 have hs1 : srtE st1 := by
  rw [hst1]; split
  ·exact h.sublist (List.eraseIdx_sublist _ _)
  ·exact h
 have hl1 : st1.length ≤ st.length := by
  rw [hst1]; split
  ·exact List.length_eraseIdx_le _ _
  ·exact Nat.le_refl _
 have hno : ∀ k, k = m.key → lookE st1 k = none := by
  rintro k rfl
  unfold lookE
  rw [List.find?_eq_none]
  intro x hx hk
  have hk := of_decide_eq_true hk
  rw [← List.take_append_drop p st1, List.mem_append] at hx
  rcases hx with hx | hx
  ·rw [e1] at hx
   have := hlt x hx
   rw [hk, ltK_irr] at this; cases this
  ·have := hgt x hx
   rw [hk, ltK_irr] at this; cases this
 have hoth : ∀ k, k ≠ m.key → lookE st1 k = lookE st k := by
  intro k hk
  rw [hst1]; split
  ·rename_i hh
   unfold lookE
   rw [List.eraseIdx_eq_take_drop_succ]
   have hx : st[p]? ≠ none := fun e => by
    have := posE_has (k := m.key) h
    rw [hh, ← hp, e] at this; cases this
   obtain ⟨x, hx⟩ := Option.ne_none_iff_exists'.1 hx
   have hxk : x.key = m.key := by
    have := posE_has (k := m.key) h
    rw [hh, ← hp, hx] at this
    simpa using this
   have e : st = st.take p ++ x :: st.drop (p + 1) := by
    rw [← (List.getElem?_eq_some_iff.1 hx).2, List.getElem_cons_drop, List.take_append_drop]
   conv => rhs; rw [e]
   rw [List.find?_append, List.find?_append, List.find?_cons, decide_eq_false (fun q => hk (by rw [← q, hxk]))]
  ·rfl
 have hdef : stepE n st m = if m.release = true then st1 else st1.take p ++ [⟨m.key, m.value, n⟩] ++ st1.drop p := by
  unfold stepE
  rw [← hp, ← hst1]
 rw [hdef]
 split
 ·rename_i hr
  refine ⟨hs1, fun k => ?_, by omega⟩
  by_cases hk : k = m.key
  ·rw [if_pos hk]; exact hno k hk
  ·rw [if_neg hk]; exact hoth k hk
 ·rename_i hr
  refine ⟨?_, fun k => ?_, by simp; omega⟩
  ·unfold srtE
   rw [List.append_assoc, List.pairwise_append]
   refine ⟨hs1.sublist (List.take_sublist _ _), ?_, fun x hx y hy => ?_⟩
   ·rw [List.singleton_append, List.pairwise_cons]
    exact ⟨fun y hy => hgt y hy, hs1.sublist (List.drop_sublist _ _)⟩
   ·rw [e1] at hx
    rcases List.mem_append.1 hy with hy | hy
    ·simp at hy; subst hy; exact hlt x hx
    ·exact ltK_trans (hlt x hx) (hgt y hy)
  ·by_cases hk : k = m.key
   ·rw [if_pos hk]
    subst hk
    unfold lookE
    rw [List.append_assoc, List.find?_append]
    have : (st1.take p).find? (fun e => decide (e.key = m.key)) = none := by
     rw [List.find?_eq_none]
     intro x hx q
     rw [e1] at hx
     have := hlt x hx
     rw [of_decide_eq_true q, ltK_irr] at this; cases this
    rw [this]
    simp
   ·rw [if_neg hk, ← hoth k hk]
    unfold lookE
    rw [List.append_assoc, List.find?_append, List.singleton_append, List.find?_cons, decide_eq_false (fun q => hk q.symm)]
    conv => rhs; rw [← List.take_append_drop p st1, List.find?_append]
end Go.Proofs.Ytphgchakmkankaa

namespace Go.Proofs.Ytphgchakmkankaa
set_option linter.unusedSectionVars false
set_option linter.unusedVariables false
set_option linter.unusedSimpArgs false
open HP
section
variable {B : Blk → Prop} {σ0 σ : Heap} {R : HP}
theorem cEntry_scal (x : EntryD) : (cEntry x).all A.scal1 = true := rfl
theorem insE {v : AV} {l : List EntryD} {m : EntryD} {i : Nat} (hi : i ≤ l.length) (hl : l.length < 1099511627776) (H : Hs frB σ0 σ (Sl (fl cEntry) 5 v l * R)) :
  ∃ v' σ', m_slices_Insert_api_Entry [v, .int .i64 (i : Int), .sl 5 [cEntry m]] σ = some (v', σ') ∧ Hs frB σ0 σ' (Sl (fl cEntry) 5 v' (l.take i ++ [m] ++ l.drop i) * R) := by
 obtain ⟨v', σ', e, H2⟩ := sl_ins (most := 140737488355328 / 48) (zs := [(AV.int .i64 0), (AV.str ⟨#[]⟩), (AV.int .i64 0), (AV.int .i64 0), (AV.int .i64 0)]) (rot := m_slices_rotateRight_api_Entry) (B := frB) (E := fl cEntry) (y := m) (ye := cEntry m)
  (hs_eq (show pr (cEntry m = cEntry m) * (Sl (fl cEntry) 5 v l * R) = _ by rw [show fl cEntry (cEntry m) m = pr (cEntry m = cEntry m) from rfl]; ac_rfl) (hs_pr.2 ⟨rfl, H⟩)) hi (by omega) (by omega) (frB_ins (cEntry_scal m))
 refine ⟨v', σ', ?_, H2⟩
 unfold m_slices_Insert_api_Entry A.wrap
 rw [Bool.false_and, cond_false, show A.nnL [] [v, .int .i64 (i : Int), .sl 5 [cEntry m]] = [v, .int .i64 (i : Int), .sl 5 [cEntry m]] by simp [A.nnL]]
 show (r_slices_Insert_api_Entry v (.int .i64 (i : Int)) (.sl 5 [cEntry m]) σ).map _ = _
 rw [show r_slices_Insert_api_Entry v (.int .i64 (i : Int)) (.sl 5 [cEntry m]) σ = some (v', σ') from e]
 simp [nn_k]
theorem delE {v : AV} {l : List EntryD} {i : Nat} {x : EntryD} (hx : l[i]? = some x) (hl : l.length ≤ 1099511627776) (H : Hs frB σ0 σ (Sl (fl cEntry) 5 v l * R)) :
  ∃ v' σ', m_slices_Delete_api_Entry [v, .int .i64 (i : Int), .int .i64 ((i + 1 : Nat) : Int)] σ = some (v', σ') ∧ Hs frB σ0 σ' (Sl (fl cEntry) 5 v' (l.eraseIdx i) * R) := by
 obtain ⟨v', σ', xe, _, e, H2⟩ := sl_del (most := 140737488355328 / 48) (zs := [(AV.int .i64 0), (AV.str ⟨#[]⟩), (AV.int .i64 0), (AV.int .i64 0), (AV.int .i64 0)]) H hx (by omega) (by omega) frB_del
 have H3 := hs_drop (hs_eq (show _ = pr (xe = cEntry x) * (Sl (fl cEntry) 5 v' (l.eraseIdx i) * R) by rw [show fl cEntry xe x = pr (xe = cEntry x) from rfl]; ac_rfl) H2)
 refine ⟨v', σ', ?_, H3⟩
 unfold m_slices_Delete_api_Entry A.wrap
 rw [Bool.false_and, cond_false, show A.nnL [] [v, .int .i64 (i : Int), .int .i64 ((i + 1 : Nat) : Int)] = [v, .int .i64 (i : Int), .int .i64 ((i + 1 : Nat) : Int)] by simp [A.nnL]]
 show (r_slices_Delete_api_Entry v (.int .i64 (i : Int)) (.int .i64 ((i + 1 : Nat) : Int)) σ).map _ = _
 rw [show r_slices_Delete_api_Entry v (.int .i64 (i : Int)) (.int .i64 ((i + 1 : Nat) : Int)) σ = some (v', σ') from e]
 simp [nn_k]
theorem place5_own {v : AV} {l : List EntryD} (H : Hs frB σ0 σ (Sl (fl cEntry) 5 v l * R)) (hs : srtE l) (hl : l.length < 4611686018427387904) (k : KeyD) : m_R5_place [v, .agg (cKey k)] σ = some (.tup [.int .i64 (posE l k : Int), .bool (hasE l k)], σ) :=
 lent (ain := [.s 5]) (ts := [sl 5 cEntry l, .agg (cKey k)]) ⟨lt_slf fz_cEntry (hs_any H), lt_fz (fz_agg (fz_cKey k)) rfl, trivial⟩ (fun σ => h_R5_place (place5_t hs hl k)) rfl
theorem fold_stepE {n : Int} (ms : List MoveD) : ∀ {st : List EntryD}, srtE st → srtE (ms.foldl (stepE n) st) ∧ (ms.foldl (stepE n) st).length ≤ st.length + ms.length := by
 induction ms with
 | nil => intro st h; exact ⟨h, Nat.le_refl _⟩
 | cons m ms ih =>
  intro st h
  obtain ⟨h1, _, h3⟩ := stepE_spec (n := n) h m
  obtain ⟨h4, h5⟩ := ih h1
  exact ⟨h4, by simp only [List.foldl_cons, List.length_cons]; omega⟩
theorem after_s {st : List EntryD} {c : CueD} (hs : srtE st) (hl : st.length + c.moves.length < 1099511627776) (hm : c.moves.length ≤ mxl) : KS m_R5_after [sl 5 cEntry st, .agg (cCue c)] cEntry 5 (afterF st c) := by
 intro σ0 σ R H
 have run : ∃ b : AV × Heap, r_R5_after (sl 5 cEntry st) (.agg (cCue c)) σ = some b ∧ Hs frB σ0 b.2 (Sl (fl cEntry) 5 b.1 (afterF st c) * R) := by
  unfold r_R5_after
  obtain ⟨v, s1, e1, _, K1⟩ := clo_gen (B := frB) (most := 140737488355328 / 48) (m := m_slices_Clone_api_Entry) (r := fun _ _ => none) (r0 := r_slices_Clone_api_Entry) (c := cEntry) (sz := 5) (l := st) rfl (fun _ _ => rfl) (by omega) (frB_app cEntry_scal st) H
  rw [ce_cCue, Option.bind_some, e1, Option.bind_some, show A.part1 10 (cCue c) = some (sl 8 cMove c.moves) from rfl, Option.bind_some, lenS_sl, Option.bind_some]
  refine loop_k (Q := fun q => ∃ h w, q.1 = .exit 0 ∧ q.2.1 = [.lbx (cCue c), h, w] ∧ Hs frB σ0 q.2.2 (Sl (fl cEntry) 5 h (afterF st c) * R)) (loop_hs c.moves (fun i v s => ∃ h, v = [.lbx (cCue c), h, .int .i64 (i : Int)] ∧ Hs frB σ0 s (Sl (fl cEntry) 5 h ((c.moves.take i).foldl (stepE c.number) st) * R)) ?_ ?_ ⟨v, rfl, K1⟩) ?_
  ·rintro i m w s hx ⟨h, rfl, K⟩
   have hi := (List.getElem?_eq_some_iff.1 hx).1
   obtain ⟨q1, q2⟩ := fold_stepE (n := c.number) (c.moves.take i) hs
   rw [foldl_take _ _ _ hx]
   obtain ⟨o, ho⟩ : ∃ o, o = (c.moves.take i).foldl (stepE c.number) st := ⟨_, rfl⟩
   rw [← ho] at q1 q2 K ⊢
   have hol : o.length < 1099511627776 := by simp at q2; omega
   simp only [List.getD_cons_zero, List.getD_cons_succ]
   rw [ix_lt hx, Option.bind_some, cnd_t, ix_for hx, Option.bind_some]
   simp only [A.deref, Option.bind_some]
   rw [pA_cMove, Option.bind_some, ce_cMove, Option.bind_some, sp_cMove m _ rfl, Option.bind_some, pA_cMove_key, Option.bind_some, place5_own K q1 (by omega) m.key, Option.bind_some, ext0, Option.bind_some, ext1, Option.bind_some]
   -- what is there goes
   obtain ⟨p, hp⟩ : ∃ p, p = posE o m.key := ⟨_, rfl⟩
   obtain ⟨o1, ho1⟩ : ∃ o1, o1 = if hasE o m.key = true then o.eraseIdx p else o := ⟨_, rfl⟩
   have hpl : p ≤ o1.length := by
    have := posE_le o m.key
    rw [ho1]; split
    ·rename_i hh
     have hx := posE_has (k := m.key) q1
     rw [hh, ← hp] at hx
     cases hpx : o[p]? with
     | none => rw [hpx] at hx; cases hx
     | some x =>
      have := (List.getElem?_eq_some_iff.1 hpx).1
      rw [List.length_eraseIdx, if_pos this]; omega
    ·omega
   have ho1l : o1.length < 1099511627776 := by
    rw [ho1]; split
    ·have := List.length_eraseIdx_le o p; omega
    ·exact hol
   rw [← hp]
   have del : ∃ h1 s1, (A.cond (.bool (hasE o m.key)) (
     (A.add (.int .i64 (p : Int)) (AV.int .i64 1)).bind fun x19 =>
     (m_slices_Delete_api_Entry [h, .int .i64 (p : Int), x19] s).bind fun r20 =>
     some ([.lbx (cCue c), r20.1, (AV.lbx (cMove m))], r20.2)) (
     some ([.lbx (cCue c), h, (AV.lbx (cMove m))], s))) = some ([.lbx (cCue c), h1, .lbx (cMove m)], s1) ∧ Hs frB σ0 s1 (Sl (fl cEntry) 5 h1 o1 * R) := by
    rw [ho1]
    cases hh : hasE o m.key
    ·exact ⟨h, s, rfl, K⟩
    ·rw [cnd_t, tadd1 (by have := posE_le o m.key; omega), Option.bind_some]
     have hx := posE_has (k := m.key) q1
     rw [hh, ← hp] at hx
     cases hpx : o[p]? with
     | none => rw [hpx] at hx; cases hx
     | some x =>
      obtain ⟨h1, s1, e2, K2⟩ := delE hpx (by omega) K
      rw [e2, Option.bind_some]
      exact ⟨h1, s1, rfl, K2⟩
   obtain ⟨h1, s1, e2, K2⟩ := del
   rw [e2, Option.bind_some]
   simp only [List.getD_cons_zero, List.getD_cons_succ]
   rw [show ((A.lb (.lbx (cMove m))).bind fun _ => some (4)) = some 4 from rfl, Option.bind_some, show ((A.lb (.lbx (cMove m))).bind fun c22 => A.part1 4 c22) = some (.bool m.release) from rfl, Option.bind_some, show A.not (.bool m.release) = some (.bool (!m.release)) from rfl, Option.bind_some]
   have hdef : stepE c.number o m = if m.release = true then o1 else o1.take p ++ [⟨m.key, m.value, c.number⟩] ++ o1.drop p := by
    unfold stepE; rw [← hp, ← ho1]
   rw [hdef]
   cases hr : m.release
   ·rw [show (!false) = true from rfl, cnd_t]
    rw [show ((A.lb (.lbx (cMove m))).bind fun _ => some (0)) = some 0 from rfl, Option.bind_some, show ((A.lb (.lbx (cMove m))).bind fun c27 => A.partA 0 2 c27) = some (.agg (cKey m.key)) from rfl, Option.bind_some,
     show ((A.lb (.lbx (cMove m))).bind fun _ => some (2)) = some 2 from rfl, Option.bind_some, show ((A.lb (.lbx (cMove m))).bind fun c30 => A.partA 2 2 c30) = some (.agg (cValue m.value)) from rfl, Option.bind_some,
     show ((A.lb (.lbx (cCue c))).bind fun _ => some (0)) = some 0 from rfl, Option.bind_some, show ((A.lb (.lbx (cCue c))).bind fun c33 => A.part1 0 c33) = some (.int .i64 c.number) from rfl, Option.bind_some]
    rw [show ((((A.cells 2 (.agg (cKey m.key))).bind fun c35 => (A.splice 0 c35 [(AV.int .i64 0), (AV.str ⟨#[]⟩), (AV.int .i64 0), (AV.int .i64 0), (AV.int .i64 0)]).bind fun c36 => (A.cells 2 (.agg (cValue m.value))).bind fun c37 => (A.splice 2 c37 c36).bind fun c38 => ((A.cell (.int .i64 c.number)).bind fun v => some [v]).bind fun c39 => (A.splice 4 c39 c38).bind fun c40 => some c40).bind fun cs => some (AV.agg cs))) = some (.agg (cEntry ⟨m.key, m.value, c.number⟩)) from rfl, Option.bind_some]
    rw [show ((((A.cells 5 (.agg (cEntry ⟨m.key, m.value, c.number⟩))).bind fun c42 => (A.splice 0 c42 [(AV.int .i64 0), (AV.str ⟨#[]⟩), (AV.int .i64 0), (AV.int .i64 0), (AV.int .i64 0)]).bind fun c43 => some c43).bind fun cs => some (AV.sl 5 (chunks 5 1 cs)))) = some (.sl 5 [cEntry ⟨m.key, m.value, c.number⟩]) from rfl, Option.bind_some]
    obtain ⟨h2, s2, e3, K3⟩ := insE (m := ⟨m.key, m.value, c.number⟩) hpl ho1l K2
    rw [e3, Option.bind_some, Option.bind_some]
    simp only [List.getD_cons_zero, List.getD_cons_succ]
    rw [ix_inc hx hm, Option.bind_some]
    exact ⟨_, _, rfl, h2, rfl, by simpa using K3⟩
   ·rw [show (!true) = false from rfl, cnd_f, Option.bind_some]
    simp only [List.getD_cons_zero, List.getD_cons_succ]
    rw [ix_inc hx hm, Option.bind_some]
    exact ⟨_, _, rfl, h1, rfl, by simpa using K2⟩
  ·rintro w s ⟨h, rfl, K⟩
   simp only [List.getD_cons_zero, List.getD_cons_succ]
   rw [ix_end, Option.bind_some, cnd_f]
   refine ⟨_, rfl, by simp, h, _, rfl, rfl, ?_⟩
   rw [List.take_length] at K; exact K
  ·rintro ⟨e, w, s⟩ ⟨h, w', h1, h2, K⟩
   simp only at h1 h2 K
   subst h1; subst h2
   exact ⟨_, rfl, K⟩
 obtain ⟨⟨v, σ'⟩, h1, h2⟩ := run
 exact ⟨v, σ', wrap_eq rfl h1 (nn_k _), h2⟩
theorem before_inv {l : List CueD} (hl : ∀ c ∈ l, c.moves.length ≤ 2000000) : ∀ (k : Nat) (st : List EntryD), srtE st → st.length ≤ k * 2000000 → srtE (l.foldl afterF st) ∧ (l.foldl afterF st).length ≤ (k + l.length) * 2000000 := by
 induction l with
 | nil => intro k st h1 h2; exact ⟨h1, h2⟩
 | cons c l ih =>
  intro k st h1 h2
  obtain ⟨h3, h4⟩ := fold_stepE (n := c.number) c.moves h1
  have hc := hl c (by simp)
  obtain ⟨h5, h6⟩ := ih (fun x hx => hl x (by simp [hx])) (k + 1) (afterF st c) h3 (by show (c.moves.foldl _ st).length ≤ _; omega)
  refine ⟨h5, ?_⟩
  rw [List.length_cons, show k + (l.length + 1) = k + 1 + l.length from by omega]
  exact h6
theorem after_lent {v : AV} {st : List EntryD} {e : AV} {c : CueD} (hBB : ∀ b, frB b → B b) (hs : srtE st) (hl : st.length + c.moves.length < 1099511627776) (hm : c.moves.length ≤ mxl) (H : Hs B σ0 σ (Sl (fl cEntry) 5 v st * R)) (he : Lt σ (.a shCue) e (.agg (cCue c))) :
  ∃ v' σ', m_R5_after [v, e] σ = some (v', σ') ∧ Hs B σ0 σ' (Sl (fl cEntry) 5 v' (afterF st c) * (Sl (fl cEntry) 5 v st * R)) :=
 lentK hBB (ain := [.s 5, .a shCue]) (ts := [sl 5 cEntry st, .agg (cCue c)]) ⟨lt_slf fz_cEntry (hs_any H), he, trivial⟩ (after_s hs hl hm) H
theorem lt_typed (c : CueD) : Lt σ (.a shCue) (.agg (cCue c)) (.agg (cCue c)) := lt_fz (fz_agg (fz_cCue c)) rfl
theorem Before_s {l : List CueD} {n : Nat} (hn : n ≤ l.length) (hl : l.length ≤ 1000) (hm : ∀ c ∈ l, c.moves.length ≤ 2000000) : KS m_R5_Before [sl 11 cCue l, .int .i64 (n : Int)] cEntry 5 (beforeF (l.take n)) := by
 intro σ0 σ R H
 have run : ∃ b : AV × Heap, r_R5_Before (sl 11 cCue l) (.int .i64 (n : Int)) σ = some b ∧ Hs frB σ0 b.2 (Sl (fl cEntry) 5 b.1 (beforeF (l.take n)) * R) := by
  unfold r_R5_Before
  rw [show A.sliceS 11 (sl 11 cCue l) none (some (.int .i64 (n : Int))) σ = some (sl 11 cCue (l.take n)) from sliceS_take 11 cCue l hn, Option.bind_some, lenS_sl, Option.bind_some]
  obtain ⟨t, ht⟩ : ∃ t, t = l.take n := ⟨_, rfl⟩
  have htl : t.length ≤ 1000 := by rw [ht]; simp; omega
  have htm : ∀ c ∈ t, c.moves.length ≤ 2000000 := fun c hc => hm c (by rw [ht] at hc; exact List.mem_of_mem_take hc)
  rw [← ht]
  refine loop_k (Q := fun q => ∃ h w, q.1 = .exit 0 ∧ q.2.1 = [h, w] ∧ Hs frB σ0 q.2.2 (Sl (fl cEntry) 5 h (beforeF t) * R)) (loop_hs t (fun i v s => ∃ h, v = [h, .int .i64 (i : Int)] ∧ Hs frB σ0 s (Sl (fl cEntry) 5 h (beforeF (t.take i)) * R)) ?_ ?_ ⟨.nsl, rfl, slz H (.inl rfl)⟩) ?_
  ·rintro i c w s hx ⟨h, rfl, K⟩
   have hi := (List.getElem?_eq_some_iff.1 hx).1
   obtain ⟨q1, q2⟩ := before_inv (l := t.take i) (fun c hc => htm c (List.mem_of_mem_take hc)) 0 [] List.Pairwise.nil (Nat.zero_le _)
   have hc := htm c (List.mem_of_getElem? hx)
   have hbl : (beforeF (t.take i)).length ≤ 2000000000 := by
    have : (t.take i).length ≤ 1000 := by simp; omega
    unfold beforeF; omega
   simp only [List.getD_cons_zero, List.getD_cons_succ]
   rw [ix_lt hx, Option.bind_some, cnd_t, ix_for hx, Option.bind_some]
   simp only [A.deref, Option.bind_some]
   rw [pA_cCue, Option.bind_some, ce_cCue, Option.bind_some, sp_cCue _ _ rfl, Option.bind_some, pA_cCue, Option.bind_some]
   have q3 : (beforeF (t.take i)).length + c.moves.length < 1099511627776 := by omega
   have q4 : c.moves.length ≤ mxl := by unfold mxl; omega
   obtain ⟨h', s', e1, K2⟩ := after_lent (fun _ h => h) q1 q3 q4 K (lt_typed c)
   have K3 := hs_drop (hs_eq (show _ = Sl (fl cEntry) 5 h (beforeF (t.take i)) * (Sl (fl cEntry) 5 h' (afterF (beforeF (t.take i)) c) * R) by ac_rfl) K2)
   rw [e1, Option.bind_some, ix_inc hx (by unfold mxl; omega), Option.bind_some]
   refine ⟨_, _, rfl, h', rfl, ?_⟩
   unfold beforeF
   rw [foldl_take _ _ _ hx]
   exact K3
  ·rintro w s ⟨h, rfl, K⟩
   simp only [List.getD_cons_zero, List.getD_cons_succ]
   rw [ix_end, Option.bind_some, cnd_f]
   refine ⟨_, rfl, by simp, h, _, rfl, rfl, ?_⟩
   rw [List.take_length] at K; exact K
  ·rintro ⟨e, w, s⟩ ⟨h, w', h1, h2, K⟩
   simp only at h1 h2 K
   subst h1; subst h2
   exact ⟨_, rfl, K⟩
 obtain ⟨⟨v, σ'⟩, h1, h2⟩ := run
 refine ⟨v, σ', wrap_eq rfl ?_ (nn_k _), h2⟩
 rw [show A.nnL [Sh.e 11 [.k, .k, .k, .k, .k, .k, .k, .s 2, .k, .k, .s 8]] [sl 11 cCue l, .int .i64 (n : Int)] = [sl 11 cCue l, .int .i64 (n : Int)] from nn_arg1 l _]
 exact h1
end
def stepM (n : Int) (s : List (KeyD × EntryD)) (m : MoveD) : List (KeyD × EntryD) := if m.release = true then tdel m.key s else tupd m.key ⟨m.key, m.value, n⟩ s
def stateF (l : List CueD) : List (KeyD × EntryD) := l.foldl (fun s c => c.moves.foldl (stepM c.number) s) []
def nodK (s : List (KeyD × EntryD)) : Prop := (s.map (·.1)).Nodup
theorem tfind_upd {ν : Type} (k k' : KeyD) (v : ν) : ∀ s : List (KeyD × ν), tfind k (tupd k' v s) = if k = k' then some v else tfind k s
 | [] => by by_cases h : k = k' <;> simp [tupd, tfind, h]
 | (a, b) :: s => by
  rw [tupd]
  by_cases h1 : k' = a
  ·subst h1
   simp only [if_true, tfind]
   by_cases h : k = k' <;> simp [h]
  ·rw [if_neg h1, tfind, tfind, tfind_upd k k' v s]
   by_cases h2 : k = a
   ·have : k ≠ k' := fun e => h1 (by rw [← e, h2])
    simp [h2, this]
    intro e; exact absurd (e.symm) h1
   ·simp [h2]
theorem mem_del {ν : Type} {k : KeyD} : ∀ {s : List (KeyD × ν)} {x : KeyD × ν}, x ∈ tdel k s → x ∈ s
 | [], x, h => h
 | (a, b) :: s, x, h => by
  rw [tdel] at h
  split at h
  ·exact List.mem_cons_of_mem _ h
  ·rcases List.mem_cons.1 h with rfl | h
   ·exact List.mem_cons_self
   ·exact List.mem_cons_of_mem _ (mem_del h)
theorem tfind_none {ν : Type} {k : KeyD} : ∀ {s : List (KeyD × ν)}, (∀ p ∈ s, p.1 ≠ k) → tfind k s = none
 | [], _ => rfl
 | (a, b) :: s, h => by
  rw [tfind, if_neg (fun e => h (a, b) (by simp) e.symm)]
  exact tfind_none (fun p hp => h p (by simp [hp]))
theorem tfind_del (k k' : KeyD) : ∀ {s : List (KeyD × EntryD)}, nodK s → tfind k (tdel k' s) = if k = k' then none else tfind k s
 | [], _ => by simp [tdel, tfind]
 | (a, b) :: s, h => by
  unfold nodK at h
  rw [List.map_cons, List.nodup_cons] at h
  rw [tdel]
  by_cases h1 : k' = a
  ·subst h1
   rw [if_pos rfl]
   by_cases h2 : k = k'
   ·subst h2
    rw [if_pos rfl]
    exact tfind_none fun p hp e => h.1 (List.mem_map.2 ⟨p, hp, e⟩)
   ·rw [if_neg h2, tfind, if_neg h2]
  ·rw [if_neg h1, tfind, tfind, tfind_del k k' (s := s) h.2]
   by_cases h2 : k = a
   ·have : k ≠ k' := fun e => h1 (by rw [← e, h2])
    rw [if_pos h2, if_pos h2, if_neg this]
   ·rw [if_neg h2, if_neg h2]
theorem nod_upd {k : KeyD} {v : EntryD} : ∀ {s : List (KeyD × EntryD)}, nodK s → nodK (tupd k v s) ∧ ∀ x ∈ (tupd k v s).map (·.1), x ∈ s.map (·.1) ∨ x = k
 | [], _ => ⟨by simp [nodK, tupd], by simp [tupd]⟩
 | (a, b) :: s, h => by
  unfold nodK at h
  rw [List.map_cons, List.nodup_cons] at h
  rw [tupd]
  split
  ·rename_i e
   subst e
   exact ⟨by unfold nodK; rw [List.map_cons, List.nodup_cons]; exact h, fun x hx => .inl hx⟩
  ·rename_i e
   obtain ⟨h1, h2⟩ := nod_upd (k := k) (v := v) h.2
   refine ⟨?_, fun x hx => ?_⟩
   ·unfold nodK
    rw [List.map_cons, List.nodup_cons]
    refine ⟨fun hm => ?_, h1⟩
    rcases h2 _ hm with h3 | h3
    ·exact h.1 h3
    ·exact e h3.symm
   ·rw [List.map_cons] at hx ⊢
    rcases List.mem_cons.1 hx with rfl | hx
    ·exact .inl List.mem_cons_self
    ·rcases h2 x hx with h3 | h3
     ·exact .inl (List.mem_cons_of_mem _ h3)
     ·exact .inr h3
theorem nod_del {k : KeyD} : ∀ {s : List (KeyD × EntryD)}, nodK s → nodK (tdel k s)
 | [], h => h
 | (a, b) :: s, h => by
  unfold nodK at h
  rw [List.map_cons, List.nodup_cons] at h
  rw [tdel]
  split
  ·exact h.2
  ·unfold nodK
   rw [List.map_cons, List.nodup_cons]
   refine ⟨fun hm => ?_, nod_del h.2⟩
   obtain ⟨p, hp, e⟩ := List.mem_map.1 hm
   exact h.1 (List.mem_map.2 ⟨p, mem_del hp, e⟩)
def SameS (s : List (KeyD × EntryD)) (st : List EntryD) : Prop := nodK s ∧ srtE st ∧ ∀ k, tfind k s = lookE st k
theorem same_step {n : Int} {s : List (KeyD × EntryD)} {st : List EntryD} (h : SameS s st) (m : MoveD) : SameS (stepM n s m) (stepE n st m) := by
 obtain ⟨h1, h2, h3⟩ := h
 obtain ⟨k1, k2, _⟩ := stepE_spec (n := n) h2 m
 unfold stepM
 refine ⟨?_, k1, fun k => ?_⟩
 ·split
  ·exact nod_del h1
  ·exact (nod_upd h1).1
 ·rw [k2 k]
  split
  ·rw [tfind_del k m.key h1, h3 k]
  ·rw [tfind_upd, h3 k]
theorem same_fold {n : Int} : ∀ (ms : List MoveD) {s : List (KeyD × EntryD)} {st : List EntryD}, SameS s st → SameS (ms.foldl (stepM n) s) (ms.foldl (stepE n) st)
 | [], _, _, h => h
 | m :: ms, _, _, h => same_fold ms (same_step h m)
theorem same_all : ∀ (l : List CueD) {s : List (KeyD × EntryD)} {st : List EntryD}, SameS s st → SameS (l.foldl (fun s c => c.moves.foldl (stepM c.number) s) s) (l.foldl afterF st)
 | [], _, _, h => h
 | c :: l, _, _, h => same_all l (same_fold c.moves h)
theorem same_state (l : List CueD) : SameS (stateF l) (beforeF l) := same_all l ⟨List.Pairwise.nil, List.Pairwise.nil, fun k => rfl⟩
theorem state_t {l : List CueD} (hl : l.length ≤ mxl) (hm : ∀ c ∈ l, c.moves.length ≤ mxl) : t_cue_state l = some (stateF l) := by
 unfold t_cue_state stateF
 rw [forE_fold (g := fun s c => c.moves.foldl (stepM c.number) s) (P := fun _ _ => True) hl trivial (fun _ _ _ _ _ => trivial) ?_]
 ·rfl
 intro i c s hc _
 rw [forE_fold (g := fun s m => stepM c.number s m) (P := fun _ _ => True) (hm c (List.mem_of_getElem? hc)) trivial (fun _ _ _ _ _ => trivial) ?_]
 ·rfl
 intro j m s hm _
 unfold stepM
 by_cases hr : m.release = true <;> simp [hr]
end Go.Proofs.Ytphgchakmkankaa

namespace Go.Proofs.Ytphgchakmkankaa
set_option linter.unusedSectionVars false
set_option linter.unusedVariables false
set_option linter.unusedSimpArgs false
open HP
theorem At5_pos {l : List CueD} (hg : Good l) (n : Int) : idxI (fun c => decide (c.number = n)) l = if hasC l n = true then (posC l n : Int) else -1 := by
 rcases idxI_cases (fun c : CueD => decide (c.number = n)) l with ⟨h1, h2, _⟩ | ⟨k, x, h1, h2, h3, _, _⟩
 ·have : hasC l n = false := by
   rw [Bool.eq_false_iff]; intro e
   obtain ⟨x, hx, hp⟩ := List.any_eq_true.1 e
   rw [h2 x hx] at hp; cases hp
  rw [this, h1]; rfl
 ·have : hasC l n = true := List.any_eq_true.2 ⟨x, List.mem_of_getElem? h1, h2⟩
  rw [this, if_pos rfl, h3, posC_at hg.srt h1 (of_decide_eq_true h2)]
end Go.Proofs.Ytphgchakmkankaa

namespace Go.Proofs.Ytphgchakmkankaa
set_option linter.unusedSectionVars false
set_option linter.unusedVariables false
set_option linter.unusedSimpArgs false
open HP
def newCue (n : Int) : CueD := ⟨n, ⟨#[]⟩, 0, 0, 0, 0, ⟨1, []⟩, false, -1, []⟩
def newRow (n : Int) : List AV := cCueH (newCue n) .nsl .nsl
def mvOf (k : KeyD) (o : Option EntryD) : MoveD := match o with
 | some e => ⟨k, e.value, false, false, 0, 0⟩
 | none => ⟨k, ⟨0, 0⟩, true, false, 0, 0⟩
theorem mvOf_key (k : KeyD) (o : Option EntryD) : (mvOf k o).key = k := by cases o <;> rfl
theorem move_t (st : List (KeyD × EntryD)) (k : KeyD) : t_cue_move st k = some (mvOf k (tfind k st)) := by
 unfold t_cue_move
 cases tfind k st <;> rfl
theorem look_pos {st : List EntryD} (h : srtE st) {k : KeyD} (hh : hasE st k = true) : ∃ x, st[posE st k]? = some x ∧ lookE st k = some x := by
 have hx := posE_has (k := k) h
 rw [hh] at hx
 cases hp : st[posE st k]? with
 | none => rw [hp] at hx; cases hx
 | some x =>
  refine ⟨x, rfl, ?_⟩
  unfold lookE
  cases hf : st.find? fun e => decide (e.key = k) with
  | none =>
   rw [hp] at hx
   have := List.find?_eq_none.1 hf x (List.mem_of_getElem? hp)
   simp only [Option.any_some] at hx
   exact absurd hx this
  | some y =>
   have h1 := List.find?_some hf
   obtain ⟨j, hj⟩ := List.mem_iff_getElem?.1 (List.mem_of_find?_eq_some hf)
   have := posE_at h hj (of_decide_eq_true h1)
   rw [← this, hp] at hj
   exact hj.symm
theorem look_no {st : List EntryD} {k : KeyD} (hh : hasE st k = false) : lookE st k = none := by
 unfold lookE
 rw [List.find?_eq_none]
 intro x hx hk
 rw [Bool.eq_false_iff] at hh
 exact hh (List.any_eq_true.2 ⟨x, hx, hk⟩)
theorem valued_t {st : List EntryD} (hs : srtE st) (hl : st.length < 4611686018427387904) (k : KeyD) : t_R5_valued st k = some (mvOf k (lookE st k)) := by
 unfold t_R5_valued
 rw [place5_t hs hl, Option.bind_some]
 cases hh : hasE st k
 ·rw [look_no hh]; rfl
 ·obtain ⟨x, h1, h2⟩ := look_pos hs hh
  simp only [if_true]
  rw [tIx_nat h1, h2]; rfl
def restP (g : KeyD → MoveD) (ms : List MoveD) (k : KeyD) : List MoveD := if hasM ms k = true then ms else putM ms (g k)
theorem restP_srt {g : KeyD → MoveD} {ms : List MoveD} (h : srtM ms) (k : KeyD) : srtM (restP g ms k) ∧ (restP g ms k).length ≤ ms.length + 1 := by
 unfold restP
 split
 ·exact ⟨h, by omega⟩
 ·exact ⟨srt_put h _, put_len _ _⟩
theorem rest_fold {g : KeyD → MoveD} : ∀ (ks : List KeyD) {ms : List MoveD}, srtM ms → srtM (ks.foldl (restP g) ms) ∧ (ks.foldl (restP g) ms).length ≤ ms.length + ks.length
 | [], _, h => ⟨h, Nat.le_refl _⟩
 | k :: ks, ms, h => by
  obtain ⟨h1, h2⟩ := restP_srt (g := g) h k
  obtain ⟨h3, h4⟩ := rest_fold (g := g) ks h1
  exact ⟨h3, by simp only [List.foldl_cons, List.length_cons]; omega⟩
section
variable {σ0 σ : Heap} {R : HP}
theorem At5_own {v : AV} {l : List CueD} (H : Hs anyB σ0 σ (Sl CueE 11 v l * R)) (hg : Good l) (n : Int) : m_R5_At [v, .int .i64 n] σ = some (.int .i64 (if hasC l n = true then (posC l n : Int) else -1), σ) :=
 lent (ain := [.e 11 shCue]) (ts := [sl 11 cCue l, .int .i64 n]) ⟨lt_cues H, lt_int _, trivial⟩ (fun σ => by rw [← At5_pos hg]; exact h_R5_At (At_t l (by have := hg.len; unfold mxl; omega) n)) rfl
theorem done_own {v : AV} {o : List CueD} (H : Hs anyB σ0 σ (Sl CueE 11 v o * R)) (ho : okL okCue o) : m_cue_done [v] σ = some (.tup [if formF o = 0 then v else .nsl, .int .i64 (formF o)], σ) := by
 have hf : m_cue_form [v] σ = some (.int .i64 (formF o), σ) := lent (ain := [.e 11 shCue]) (ts := [sl 11 cCue o]) ⟨lt_cues H, trivial⟩ (fun σ => h_cue_form (form_t o ho)) rfl
 unfold m_cue_done A.wrap
 rw [Bool.false_and, cond_false, show A.nnL [] [v] = [v] by simp [A.nnL]]
 show (r_cue_done v σ).map _ = _
 unfold r_cue_done
 rw [hf, Option.bind_some, aNeI, Option.bind_some]
 by_cases hq : formF o = 0
 ·rw [decide_eq_false (by simp [hq]), cnd_f, if_pos hq, hq]; simp [nn_k]
 ·rw [decide_eq_true hq, cnd_t, if_neg hq]; simp [nn_k]
end
end Go.Proofs.Ytphgchakmkankaa

namespace Go.Proofs.Ytphgchakmkankaa
set_option linter.unusedSectionVars false
set_option linter.unusedVariables false
set_option linter.unusedSimpArgs false
open HP
theorem mem_upd {ν : Type} {k : KeyD} {v : ν} : ∀ {s : List (KeyD × ν)} {x : KeyD × ν}, x ∈ tupd k v s → x ∈ s ∨ x.2 = v
 | [], x, h => by simp [tupd] at h; exact .inr (by rw [h])
 | (a, b) :: s, x, h => by
  rw [tupd] at h
  split at h
  ·rcases List.mem_cons.1 h with rfl | h
   ·exact .inr rfl
   ·exact .inl (List.mem_cons_of_mem _ h)
  ·rcases List.mem_cons.1 h with rfl | h
   ·exact .inl List.mem_cons_self
   ·rcases mem_upd h with h | h
    ·exact .inl (List.mem_cons_of_mem _ h)
    ·exact .inr h
theorem state_ok {P : ValueD → Prop} {l : List CueD} (h : ∀ c ∈ l, ∀ m ∈ c.moves, P m.value) : ∀ p ∈ stateF l, P p.2.value := by
 have inner : ∀ (n : Int) (ms : List MoveD) (s : List (KeyD × EntryD)), (∀ m ∈ ms, P m.value) → (∀ p ∈ s, P p.2.value) → ∀ p ∈ ms.foldl (stepM n) s, P p.2.value := by
  intro n ms
  induction ms with
  | nil => intro s _ h; exact h
  | cons m ms ih =>
   intro s hm hs
   refine ih _ (fun x hx => hm x (by simp [hx])) (fun p hp => ?_)
   unfold stepM at hp
   split at hp
   ·exact hs p (mem_del hp)
   ·rcases mem_upd hp with hp | hp
    ·exact hs p hp
    ·rw [hp]; exact hm m (by simp)
 unfold stateF
 have key : ∀ (l : List CueD) (s : List (KeyD × EntryD)), (∀ c ∈ l, ∀ m ∈ c.moves, P m.value) → (∀ p ∈ s, P p.2.value) → ∀ p ∈ l.foldl (fun s c => c.moves.foldl (stepM c.number) s) s, P p.2.value := by
  intro l
  induction l with
  | nil => intro s _ h; exact h
  | cons c l ih =>
   intro s hl hs
   exact ih _ (fun x hx => hl x (by simp [hx])) (inner c.number c.moves s (hl c (by simp)) hs)
 exact key l [] h (by simp)
theorem mem_tfind {ν : Type} {k : KeyD} : ∀ {s : List (KeyD × ν)} {e : ν}, tfind k s = some e → ∃ p ∈ s, p.2 = e
 | [], e, h => by cases h
 | (a, b) :: s, e, h => by
  rw [tfind] at h
  split at h
  ·injection h with h; exact ⟨(a, b), by simp, h⟩
  ·obtain ⟨p, hp, q⟩ := mem_tfind h
   exact ⟨p, List.mem_cons_of_mem _ hp, q⟩
theorem inI_0 : inI 0 := by unfold inI; decide
theorem mvOf_ok {k : KeyD} {o : Option EntryD} (hk : okKey k) (ho : ∀ e, o = some e → okValue e.value) : okMove (mvOf k o) := by
 cases o with
 | none => exact ⟨hk, ⟨inI_0, inI_0⟩, inI_0, inI_0⟩
 | some e => exact ⟨hk, ho e rfl, inI_0, inI_0⟩
theorem rest_ok {g : KeyD → MoveD} : ∀ (ks : List KeyD) {ms : List MoveD}, (∀ k ∈ ks, okMove (g k)) → (∀ m ∈ ms, okMove m) → ∀ m ∈ ks.foldl (restP g) ms, okMove m
 | [], ms, _, h => h
 | k :: ks, ms, hk, h => by
  refine rest_ok ks (fun x hx => hk x (by simp [hx])) (fun m hm => ?_)
  unfold restP at hm
  split at hm
  ·exact h m hm
  ·rcases mem_put hm with hm | rfl
   ·exact h m hm
   ·exact hk k (by simp)
end Go.Proofs.Ytphgchakmkankaa

namespace Go.Proofs.Ytphgchakmkankaa
set_option linter.unusedSectionVars false
set_option linter.unusedVariables false
set_option linter.unusedSimpArgs false
open HP
section
variable {σ0 σ : Heap} {R : HP}
theorem giveM {v vm : AV} {l : List CueD} {ms : List MoveD} {i : Nat} {x : CueD} (hx : l[i]? = some x) (H : Hs anyB σ0 σ (Sl CueE 11 v l * (Sl (fl cMove) 8 vm ms * R))) :
  ∃ p q σ', A.iaddr 11 v (.int .i64 (i : Int)) = some p ∧ A.faddr 10 p = some q ∧ A.storeAt q [vm] σ = some σ' ∧ Hs anyB σ0 σ' (Sl CueE 11 v (l.set i { x with moves := ms }) * R) := by
 obtain ⟨p, F, e, f1, hC, K, back⟩ := sl_cell H hx
 obtain ⟨vp, vm', he, K2⟩ := cueP (hs_eq (show _ = CueP (Sl (fl cMove) 8) e x * (F e * (Sl (fl cMove) 8 vm ms * R)) by rw [show CueE e x = CueP (Sl (fl cMove) 8) e x from rfl]; ac_rfl) K)
 subst he
 have K3 := hs_drop (hs_eq (show _ = Sl (fl cMove) 8 vm' x.moves * (F (cCueH x vp vm') * (Sf cPoint 2 vp x.curve.points * (Sl (fl cMove) 8 vm ms * R))) by ac_rfl) K2)
 obtain ⟨q, g1, _, k3⟩ := hC.fa 10
 obtain ⟨σ', e3, K4⟩ := k3 K3 (new := [vm]) (e' := cCueH x vp vm) rfl
 refine ⟨p, q, σ', f1, g1, e3, back (e := cCueH x vp vm) ?_⟩
 have K5 := cueP_of (M := Sl (fl cMove) 8) (x := { x with moves := ms }) (e := cCueH x vp vm) (vp := vp) (vm := vm) (R := F (cCueH x vp vm) * R) rfl (hs_eq (by ac_rfl) K4)
 exact hs_eq (by rw [show CueE (cCueH x vp vm) { x with moves := ms } = CueP (Sl (fl cMove) 8) (cCueH x vp vm) { x with moves := ms } from rfl]; ac_rfl) K5
theorem row_at {v : AV} {l : List CueD} {i : Nat} {x : CueD} (hx : l[i]? = some x) (H : Hs anyB σ0 σ (Sl CueE 11 v l * R)) : ∃ p e, A.iaddr 11 v (.int .i64 (i : Int)) = some p ∧ ((A.deref p σ).bind fun c => A.partA 0 11 c) = some (.agg e) ∧ Lt σ (.a shCue) (.agg e) (.agg (cCue x)) := by
 obtain ⟨p, F, e, f1, hC, K, back⟩ := sl_cell H hx
 obtain ⟨vp, vm, he, _⟩ := cueP (hs_eq (show _ = CueP (Sl (fl cMove) 8) e x * (F e * R) by rw [show CueE e x = CueP (Sl (fl cMove) 8) e x from rfl]; ac_rfl) K)
 refine ⟨p, e, f1, ?_, lt_cueF (cue_weak (hs_eq (show _ = CueE e x * (F e * R) by ac_rfl) K))⟩
 rw [hC.ld K, Option.bind_some, he]; rfl
theorem set_same {l : List CueD} {i : Nat} {x : CueD} (h : l[i]? = some x) : l.set i x = l := by
 apply List.ext_getElem?
 intro j
 rw [List.getElem?_set]
 split
 ·rename_i e; subst e; rw [h, if_pos (List.getElem?_eq_some_iff.1 h).1]
 ·rfl
end
end Go.Proofs.Ytphgchakmkankaa

namespace Go.Proofs.Ytphgchakmkankaa
set_option linter.unusedSectionVars false
set_option linter.unusedVariables false
set_option linter.unusedSimpArgs false
open HP
theorem cMove_scal (x : MoveD) : (cMove x).all A.scal1 = true := rfl
def keepM (st : List EntryD) (m : MoveD) : Bool := m.timed || decide (¬ ((mvOf m.key (lookE st m.key)).value = m.value)) || decide (¬ ((mvOf m.key (lookE st m.key)).release = m.release))
section
variable {σ0 σ : Heap} {R : HP}
theorem appM {B : Blk → Prop} {v : AV} {l : List MoveD} (k : MoveD) (hl : l.length < 1000000) (hB : ∀ g g' seg, (seg = [] ∨ B (.arr g 8 seg)) → B (.arr g' 8 (seg ++ [cMove k]))) (H : Hs B σ0 σ (Sl (fl cMove) 8 v l * R)) :
  ∃ v' σ', A.append 8 (140737488355328 / 64) v (.sl 8 [cMove k]) σ = some (v', σ') ∧ Hs B σ0 σ' (Sl (fl cMove) 8 v' (l ++ [k]) * R) :=
 sl_app (ys := [cMove k]) (xs := [k]) (hs_eq (show pr (cMove k = cMove k) * (Sl (fl cMove) 8 v l * R) = _ by
  rw [show els (fl cMove) [cMove k] [k] = pr (cMove k = cMove k) * emp from rfl, star_assoc, emp_star]; ac_rfl) (hs_pr.2 ⟨rfl, H⟩)) (by simp; omega) hB
theorem cleaned_s {c : CueD} {st : List EntryD} (hs : srtE st) (hsl : st.length < 4611686018427387904) (hm : c.moves.length ≤ 100000) : KS m_R5_cleaned [.agg (cCue c), sl 5 cEntry st] cMove 8 (c.moves.filter (keepM st)) := by
 intro σ0 σ R H
 have run : ∃ b : AV × Heap, r_R5_cleaned (.agg (cCue c)) (sl 5 cEntry st) σ = some b ∧ Hs frB σ0 b.2 (Sl (fl cMove) 8 b.1 (c.moves.filter (keepM st)) * R) := by
  unfold r_R5_cleaned
  rw [ce_cCue, Option.bind_some, show A.part1 10 (cCue c) = some (sl 8 cMove c.moves) from rfl, Option.bind_some, lenS_sl, Option.bind_some]
  refine loop_k (Q := fun q => ∃ h w, q.1 = .exit 0 ∧ q.2.1 = [h, w] ∧ Hs frB σ0 q.2.2 (Sl (fl cMove) 8 h (c.moves.filter (keepM st)) * R)) (loop_hs c.moves (fun i v s => ∃ h, v = [h, .int .i64 (i : Int)] ∧ Hs frB σ0 s (Sl (fl cMove) 8 h ((c.moves.take i).filter (keepM st)) * R)) ?_ ?_ ⟨.nsl, rfl, slz H (.inl rfl)⟩) ?_
  ·rintro i m w s hx ⟨h, rfl, K⟩
   have hi := (List.getElem?_eq_some_iff.1 hx).1
   obtain ⟨n, hn⟩ : ∃ n, n = mvOf m.key (lookE st m.key) := ⟨_, rfl⟩
   simp only [List.getD_cons_zero, List.getD_cons_succ]
   rw [ix_lt hx, Option.bind_some, cnd_t, ix_for hx, Option.bind_some]
   simp only [A.deref, Option.bind_some]
   rw [pA_cMove, Option.bind_some, ce_cMove, Option.bind_some, sp_cMove m _ rfl, Option.bind_some, pA_cMove_key, Option.bind_some, h_R5_valued (valued_t hs hsl m.key), Option.bind_some]
   simp only
   rw [← hn, ce_cMove, Option.bind_some, sp_cMove n _ rfl, Option.bind_some, show A.part1 5 (cMove m) = some (.bool m.timed) from rfl, Option.bind_some]
   have test : ∀ {α : Type} (K : AV → Option α), ((A.guard (.bool m.timed) false (A.partA 2 2 (cMove n)) (some (AV.tup []))).bind fun x18 =>
    (A.guard (.bool m.timed) false (A.partA 2 2 (cMove m)) (some (AV.tup []))).bind fun x19 =>
    (A.guard (.bool m.timed) false (A.neq (.s [0, 0]) x18 x19) (some (AV.tup []))).bind fun x20 =>
    (A.pick (.bool m.timed) (AV.bool true) x20).bind fun x21 =>
    (A.guard x21 false (A.part1 4 (cMove n)) (some (AV.tup []))).bind fun x22 =>
    (A.guard x21 false (A.part1 4 (cMove m)) (some (AV.tup []))).bind fun x23 =>
    (A.guard x21 false (A.neq .b x22 x23) (some (AV.tup []))).bind fun x24 =>
    (A.pick x21 (AV.bool true) x24).bind K) = K (.bool (keepM st m)) := by
    intro α K
    unfold keepM
    rw [← hn]
    cases m.timed
    ·simp only [A.guard, beq_self_eq_true, cond_true, A.pick, cond_false, show A.partA 2 2 (cMove n) = some (.agg (cValue n.value)) from rfl, show A.partA 2 2 (cMove m) = some (.agg (cValue m.value)) from rfl, Option.bind_some, ne_Value, Bool.false_or]
     cases decide (¬ n.value = m.value)
     ·simp only [beq_self_eq_true, cond_true, cond_false, show A.part1 4 (cMove n) = some (.bool n.release) from rfl, show A.part1 4 (cMove m) = some (.bool m.release) from rfl, Option.bind_some, aNeB, Bool.false_or]
     ·simp only [show (true == false) = false from rfl, cond_true, cond_false, Option.bind_some, Bool.true_or]
    ·simp only [A.guard, show (true == false) = false from rfl, cond_true, cond_false, A.pick, Option.bind_some, Bool.true_or]
   rw [test]
   have htk : (c.moves.take (i + 1)).filter (keepM st) = if keepM st m = true then (c.moves.take i).filter (keepM st) ++ [m] else (c.moves.take i).filter (keepM st) := by
    rw [List.take_add_one, hx, Option.toList_some, List.filter_append]
    simp only [List.filter_cons, List.filter_nil]
    split <;> simp
   rw [htk]
   have hfl : ((c.moves.take i).filter (keepM st)).length < 1000000 := by
    have := List.length_filter_le (keepM st) (c.moves.take i)
    simp at this ⊢; omega
   cases hk : keepM st m
   ·rw [cnd_f, Option.bind_some]
    simp only [List.getD_cons_zero]
    rw [ix_inc hx (by unfold mxl; omega), Option.bind_some]
    exact ⟨_, _, rfl, h, rfl, by simpa using K⟩
   ·rw [cnd_t, pA_cMove, Option.bind_some, row_move, Option.bind_some]
    obtain ⟨h', s', e1, K2⟩ := appM m hfl (frB_app cMove_scal [m]) K
    rw [e1, Option.bind_some, Option.bind_some]
    simp only [List.getD_cons_zero]
    rw [ix_inc hx (by unfold mxl; omega), Option.bind_some]
    exact ⟨_, _, rfl, h', rfl, by simpa using K2⟩
  ·rintro w s ⟨h, rfl, K⟩
   simp only [List.getD_cons_zero, List.getD_cons_succ]
   rw [ix_end, Option.bind_some, cnd_f]
   refine ⟨_, rfl, by simp, h, _, rfl, rfl, ?_⟩
   rw [List.take_length] at K; exact K
  ·rintro ⟨e, w, s⟩ ⟨h, w', h1, h2, K⟩
   simp only at h1 h2 K
   subst h1; subst h2
   exact ⟨_, rfl, K⟩
 obtain ⟨⟨v, σ'⟩, h1, h2⟩ := run
 exact ⟨v, σ', wrap_eq rfl h1 (nn_k _), h2⟩
end
end Go.Proofs.Ytphgchakmkankaa

namespace Go.Proofs.Ytphgchakmkankaa
set_option linter.unusedSectionVars false
set_option linter.unusedVariables false
set_option linter.unusedSimpArgs false
open HP
def cleanTo (l : List CueD) : Nat → List CueD
 | 0 => l
 | i + 1 => if ((l[i]?).any fun c => c.block) = true then cleanTo l i else setMv (cleanTo l i) i fun ms => ms.filter (keepM (beforeF (l.take i)))
theorem cleanTo_len (l : List CueD) : ∀ i, (cleanTo l i).length = l.length
 | 0 => rfl
 | i + 1 => by
  rw [cleanTo]
  split
  ·exact cleanTo_len l i
  ·rw [setMv_len, cleanTo_len l i]
theorem cleanTo_get (l : List CueD) : ∀ i j, i ≤ j → (cleanTo l i)[j]? = l[j]?
 | 0, j, _ => rfl
 | i + 1, j, h => by
  rw [cleanTo]
  split
  ·exact cleanTo_get l i j (by omega)
  ·rw [setMv_ne (by omega), cleanTo_get l i j (by omega)]
section
variable {σ0 σ : Heap} {R : HP}
theorem block_at {v : AV} {l : List CueD} {i : Nat} {x : CueD} (hx : l[i]? = some x) (H : Hs anyB σ0 σ (Sl CueE 11 v l * R)) : ∃ p q, A.iaddr 11 v (.int .i64 (i : Int)) = some p ∧ A.faddr 8 p = some q ∧ ((A.deref q σ).bind fun c => A.part1 0 c) = some (.bool x.block) := by
 obtain ⟨p, F, e, f1, hC, K, back⟩ := sl_cell H hx
 obtain ⟨vp, vm, he, _⟩ := cueP (hs_eq (show _ = CueP (Sl (fl cMove) 8) e x * (F e * R) by rw [show CueE e x = CueP (Sl (fl cMove) 8) e x from rfl]; ac_rfl) K)
 obtain ⟨q, g1, g2⟩ := faddr_at hC 8 K (vm := .bool x.block) (by rw [he]; rfl)
 exact ⟨p, q, f1, g1, g2⟩
theorem fin_slf {α : Type} {c : α → List AV} {sz : Nat} {B : Blk → Prop} {v : AV} {l : List α} (hc : ∀ x, FzL (c x)) (H : Hs B σ0 σ (Sl (fl c) sz v l * R)) : ∃ v', A.fin σ0 v σ = some (v', σ0) ∧ A.nn (.s sz) v' = sl sz c l := by
 obtain ⟨v', h1, h2, h3⟩ := slf_fz H hc (Nat.le_refl _) 7
 refine ⟨v', fin_hs (hs_any H) h1 (fun e => ?_), h3⟩
 rcases slf_cases H with ⟨rfl, rfl | rfl, _⟩ | ⟨id, g, rfl, K⟩
 ·simp [A.frz] at h1; rw [h1]
 ·simp [A.frz] at h1; rw [h1]
 ·obtain ⟨k1, k2⟩ := hs_get K
  have := (List.getElem?_eq_some_iff.1 k2).1
  subst e; omega
theorem ks_fin {α : Type} {c : α → List AV} {sz : Nat} {m : List AV → Heap → Option (AV × Heap)} {args : List AV} {l : List α} (hc : ∀ x, FzL (c x)) (h : KS m args c sz l) (σ : Heap) : A.finC (.s sz) m args σ = some (sl sz c l, σ) := by
 obtain ⟨v, σ', e1, K⟩ := h σ σ emp (hs_nil σ)
 obtain ⟨v', e2, e3⟩ := fin_slf hc K
 unfold A.finC
 rw [e1, Option.bind_some]
 simp only
 rw [e2, Option.map_some]
 simp only
 rw [e3]
theorem BeforeF {l : List CueD} {i : Nat} (hl : l.length ≤ 1000) (hm : ∀ c ∈ l, c.moves.length ≤ 2000000) (hil : i ≤ l.length) (σ : Heap) : A.quiet (A.finC (.s 5) m_R5_Before [sl 11 cCue l, .int .i64 (i : Int)] σ) σ = some (sl 5 cEntry (beforeF (l.take i))) := quiet_of (ks_fin fz_cEntry (Before_s hil hl hm) σ)
theorem clean_at {v : AV} {l o : List CueD} {i : Nat} {x : CueD} (hl : l.length ≤ 1000) (hm : ∀ c ∈ l, c.moves.length ≤ 2000000) (hil : i ≤ l.length) (hx : o[i]? = some x) (hxm : x.moves.length ≤ 100000) (H : Hs anyB σ0 σ (Sl CueE 11 v o * R)) :
  ∃ p e nv s2 q s3, A.iaddr 11 v (.int .i64 (i : Int)) = some p ∧ ((A.deref p σ).bind fun c => A.partA 0 11 c) = some (.agg e) ∧ m_R5_cleaned [.agg e, sl 5 cEntry (beforeF (l.take i))] σ = some (nv, s2) ∧ A.faddr 10 p = some q ∧ A.cell nv = some nv ∧ A.storeAt q [nv] s2 = some s3 ∧ Hs anyB σ0 s3 (Sl CueE 11 v (o.set i { x with moves := x.moves.filter (keepM (beforeF (l.take i))) }) * R) := by
 obtain ⟨p, F, e, f1, hC, K, back⟩ := sl_cell H hx
 obtain ⟨vp, vm, he, _⟩ := cueP (hs_eq (show _ = CueP (Sl (fl cMove) 8) e x * (F e * R) by rw [show CueE e x = CueP (Sl (fl cMove) 8) e x from rfl]; ac_rfl) K)
 have hd : ((A.deref p σ).bind fun c => A.partA 0 11 c) = some (.agg e) := by rw [hC.ld K, Option.bind_some, he]; rfl
 have hst := (same_state (l.take i)).2.1
 obtain ⟨_, i2⟩ := before_inv (l := l.take i) (fun c hc => hm c (List.mem_of_mem_take hc)) 0 [] List.Pairwise.nil (Nat.zero_le _)
 obtain ⟨st, hst0⟩ : ∃ st, st = beforeF (l.take i) := ⟨_, rfl⟩
 rw [← hst0] at hst ⊢
 have hsl : st.length < 4611686018427387904 := by
  have : (l.take i).length ≤ 1000 := by simp; omega
  rw [hst0]; unfold beforeF; omega
 have hle : Lt σ (.a shCue) (.agg e) (.agg (cCue x)) := lt_cueF (cue_weak (hs_eq (show _ = CueE e x * (F e * R) by ac_rfl) K))
 have lb : ∃ nv s2, m_R5_cleaned [.agg e, sl 5 cEntry st] σ = some (nv, s2) ∧ Hs anyB σ0 s2 (Sl (fl cMove) 8 nv (x.moves.filter (keepM st)) * (F e * (CueE e x * R))) :=
  lentK (B := anyB) (fun _ _ => trivial) (ain := [.a shCue, .s 5]) (ts := [.agg (cCue x), sl 5 cEntry st]) ⟨hle, lt_fz (fz_sl fz_cEntry st) rfl, trivial⟩ (cleaned_s hst hsl hxm) K
 obtain ⟨nv, s2, e2, K2⟩ := lb
 obtain ⟨p', q, s3, g1, g2, g3, K4⟩ := giveM (ms := x.moves.filter (keepM st)) (vm := nv) hx (back (y := x) (e := e) (hs_eq (show _ = F e * (CueE e x * (Sl (fl cMove) 8 nv (x.moves.filter (keepM st)) * R)) by ac_rfl) K2) |> fun K => by rw [set_same hx] at K; exact K)
 rw [f1] at g1; injection g1 with g1; subst g1
 exact ⟨p, e, nv, s2, q, s3, f1, hd, e2, g2, cell_sl K2, g3, K4⟩
theorem Clean5_s {l : List CueD} (hl : okL okCue l) (σ : Heap) : m_R5_Clean [sl 11 cCue l] σ = some (.tup [sl 11 cCue (if formF l = 0 then cleanTo l l.length else []), .int .i64 (formF l)], σ) := by
 have run : ∃ b, r_R5_Clean (sl 11 cCue l) σ = some b ∧ b.2 = σ ∧ A.nn (.t [(.e 11 shCue), .k]) b.1 = .tup [sl 11 cCue (if formF l = 0 then cleanTo l l.length else []), .int .i64 (formF l)] := by
  unfold r_R5_Clean
  rw [h_R5_CheckForm (CheckForm5_t l hl), Option.bind_some, aNeI, Option.bind_some]
  by_cases hf : formF l = 0
  case neg =>
   rw [decide_eq_true hf, cnd_t, if_neg hf]
   exact ⟨_, fin_same _ _, rfl, nn_nil⟩
  have hg := good_of hf
  have hlen := hg.len
  rw [decide_eq_false (by simp [hf]), cnd_f, if_pos hf, hf]
  obtain ⟨v, s1, e1, K1⟩ := cloned_s (small_of hg) (by unfold mxl; omega) (hs_nil (B := anyB) σ)
  rw [e1, Option.bind_some, sl_len K1, Option.bind_some]
  refine loop_k (Q := fun q => q.1 = .exit 0 ∧ Hs anyB σ q.2.2 (Sl CueE 11 v (cleanTo l l.length) * emp)) (loop_hs l (fun i w s => w = [.int .i64 (i : Int)] ∧ Hs anyB σ s (Sl CueE 11 v (cleanTo l i) * emp)) ?_ ?_ ⟨rfl, K1⟩) ?_
  ·rintro i x w s hx ⟨rfl, K⟩
   have hi := (List.getElem?_eq_some_iff.1 hx).1
   have hxo : (cleanTo l i)[i]? = some x := by rw [cleanTo_get l i i (Nat.le_refl i), hx]
   have hxm := (hg.mv x (List.mem_of_getElem? hx)).1
   obtain ⟨p, q, f1, f2, f3⟩ := block_at hxo K
   simp only [List.getD_cons_zero]
   rw [ix_lt hx, Option.bind_some, cnd_t, f1, Option.bind_some, f2, Option.bind_some, f3, Option.bind_some, show A.not (.bool x.block) = some (.bool (!x.block)) from rfl, Option.bind_some]
   cases hb : x.block
   ·obtain ⟨p', e, nv, s3, q', s4, g1, g2, g4, g5, g6, g7, K2⟩ := clean_at (l := l) (by omega) (fun c hc => by have := (hg.mv c hc).1; omega) (Nat.le_of_lt hi) hxo (by omega) K
    rw [f1] at g1; injection g1 with g1; subst g1
    rw [show (!false) = true from rfl, cnd_t, Option.bind_some, g2, Option.bind_some, BeforeF (l := l) (by omega) (fun c hc => by have := (hg.mv c hc).1; omega) (Nat.le_of_lt hi) s, Option.bind_some, g4, Option.bind_some, Option.bind_some, g5, Option.bind_some]
    simp only
    rw [g6, Option.bind_some, Option.bind_some, g7, Option.bind_some, Option.bind_some, ix_inc hx hl.1, Option.bind_some]
    refine ⟨_, _, rfl, rfl, ?_⟩
    rw [cleanTo, hx, Option.any_some, hb, if_neg (by decide), setMv, hxo]
    exact K2
   ·rw [show (!true) = false from rfl, cnd_f, Option.bind_some, ix_inc hx hl.1, Option.bind_some]
    refine ⟨_, _, rfl, rfl, ?_⟩
    rw [cleanTo, hx, Option.any_some, hb, if_pos rfl]
    exact K
  ·rintro w s ⟨rfl, K⟩
   simp only [List.getD_cons_zero]
   rw [ix_end, Option.bind_some, cnd_f]
   exact ⟨_, rfl, by simp, rfl, K⟩
  ·rintro ⟨e, w, s⟩ ⟨h1, K⟩
   simp only at h1 K
   subst h1
   simp only [exb]
   obtain ⟨v', j1, j2⟩ := fin_ret (e := 0) (cues_weak K)
   exact ⟨_, j1, rfl, nn_ret j2⟩
 obtain ⟨⟨b, s⟩, h1, h2, h3⟩ := run
 simp only at h2 h3
 subst h2
 refine wrap_eq rfl ?_ h3
 rw [show A.nnL [Sh.e 11 [.k, .k, .k, .k, .k, .k, .k, .s 2, .k, .k, .s 8]] [sl 11 cCue l] = [sl 11 cCue l] from nn_arg1 l _]
 exact h1
end
end Go.Proofs.Ytphgchakmkankaa

namespace Go.Proofs.Ytphgchakmkankaa
set_option linter.unusedSectionVars false
set_option linter.unusedVariables false
set_option linter.unusedSimpArgs false
open HP
def zMove : MoveD := ⟨⟨0, ⟨#[]⟩⟩, ⟨0, 0⟩, false, false, 0, 0⟩
theorem renew_pre {id g sz k : Nat} {es : List (List AV)} {σ σ' : Heap} {args : List AV} (h : σ'[id]? = some (.arr g sz es)) (hk : k ≤ es.length) (hid : id < σ.length) (hg : g < A.gen args + 1) : A.renew args σ (.os id g sz 0 k) σ' = some (.os id (A.gen args + 1) sz 0 k, σ'.set id (.arr (A.gen args + 1) sz (es.take k))) := by
 simp only [A.renew, h]
 rw [if_pos ⟨trivial, trivial, by omega, hg⟩, if_pos (.inl hid), List.drop_zero]
theorem renew_own {α : Type} {c : α → List AV} {sz id g k : Nat} {l : List α} {σ0 σ σ' : Heap} {R : HP} {fnv : AV} (hid : id < σ.length) (hk : k ≤ l.length) (hk0 : k ≤ l.length) (hg : A.gen [AV.os id g sz 0 l.length, fnv] = g + l.length) (H : Hs anyB σ0 σ' (blk id (.arr g sz (l.map c)) * R)) :
  ∃ v' s, A.renew [.os id g sz 0 l.length, fnv] σ (.os id g sz 0 k) σ' = some (v', s) ∧ Hs anyB σ0 s (Sl (fl c) sz v' (l.take k) * R) := by
 obtain ⟨h1, h2⟩ := hs_get H
 refine ⟨_, _, renew_pre h2 (by simp; omega) hid (by rw [hg]; omega), ?_⟩
 have H2 := hs_set (b' := .arr (A.gen [AV.os id g sz 0 l.length, fnv] + 1) sz ((l.map c).take k)) H trivial
 have e : (l.map c).take k = (l.take k).map c := List.map_take.symm
 rw [e] at H2 ⊢
 exact slf_os H2 (by simp; omega)
section
variable {σ0 σ : Heap} {R : HP}
theorem df_M {dyn : Nat → List AV → Heap → Option (AV × Heap)} {fnv : AV} {p : MoveD → Bool} {v : AV} {l : List MoveD} (hl : l.length < 1000000) (hg : ∀ id g n, A.gen [AV.os id g 8 0 n, fnv] = g + n)
  (hix : m_slices_IndexFunc_api_Move dyn [v, fnv] σ = some (.int .i64 (idxI p l), σ)) (hcall : ∀ m ∈ l, ∀ s, A.callv dyn fnv [.agg (cMove m)] s = some (.bool (p m), s)) (H : Hs anyB σ0 σ (Sl (fl cMove) 8 v l * R)) :
  ∃ v' σ', r_slices_DeleteFunc_api_Move dyn v fnv σ = some (v', σ') ∧ Hs anyB σ0 σ' (Sl (fl cMove) 8 v' (l.filter fun m => !p m) * R) := by
 unfold r_slices_DeleteFunc_api_Move
 rw [hix, Option.bind_some]
 rcases idxI_cases p l with ⟨h1, h2, _⟩ | ⟨k, x, h1, h2, h3, _, h5⟩
 ·simp only [h1]
  rw [aEq, Option.bind_some, decide_eq_true rfl, cnd_t]
  have hf : (l.filter fun m => !p m) = l := List.filter_eq_self.2 fun m hm => by rw [h2 m hm]; rfl
  rw [hf]
  rcases slf_cases H with ⟨rfl, hv, H'⟩ | ⟨id, g, rfl, K⟩
  ·rcases hv with rfl | rfl
   ·exact ⟨_, _, rfl, slz H' (.inl rfl)⟩
   ·exact ⟨_, _, rfl, slz H' (.inr rfl)⟩
  ·obtain ⟨_, q2⟩ := hs_get K
   obtain ⟨v', s, e1, K2⟩ := renew_own (fnv := fnv) (k := l.length) ((List.getElem?_eq_some_iff.1 q2).1) (Nat.le_refl _) (Nat.le_refl _) (hg _ _ _) K
   rw [List.take_length] at K2
   exact ⟨v', s, e1, K2⟩
 ·have hkl := (List.getElem?_eq_some_iff.1 h1).1
  simp only [h3]
  rw [aEq, Option.bind_some, decide_eq_false (by omega), cnd_f, tadd1 (by omega), Option.bind_some]
  have hlv : A.lenS v = some (.int .i64 (l.length : Int)) := sl_len H
  have hk0 : (l.take (k + 1)).filter (fun m => !p m) = l.take k := by
   rw [List.take_add_one, h1, Option.toList_some, List.filter_append, List.filter_eq_self.2 (fun m hm => ?_)]
   ·simp [h2]
   ·obtain ⟨j, hj⟩ := List.mem_iff_getElem?.1 hm
    rw [List.getElem?_take] at hj
    split at hj
    ·rename_i q; rw [h5 j m q hj]; rfl
    ·cases hj
  suffices hb : ∃ b : AV × Heap, _ = some b ∧ Hs anyB σ0 b.2 (Sl (fl cMove) 8 b.1 (l.filter fun m => !p m) * R) by
   obtain ⟨⟨v', s'⟩, hb1, hb2⟩ := hb
   exact ⟨v', s', hb1, hb2⟩
  refine loop_k (Q := fun q => ∃ (w : Nat) (cur : List MoveD) (y : AV), q.1 = .exit 0 ∧ q.2.1 = [.int .i64 (w : Int), y] ∧ w ≤ l.length ∧ cur.length = l.length ∧ cur.take w = l.filter (fun m => !p m) ∧ Hs anyB σ0 q.2.2 (Sl (fl cMove) 8 v cur * R)) (loop_hs (l.drop (k + 1)) (fun i vs s => ∃ (w : Nat) (cur : List MoveD), vs = [.int .i64 (w : Int), .int .i64 ((k + 1 + i : Nat) : Int)] ∧ w ≤ k + i ∧ cur.length = l.length ∧ cur.take w = (l.take (k + 1 + i)).filter (fun m => !p m) ∧ cur.drop (k + 1 + i) = l.drop (k + 1 + i) ∧ Hs anyB σ0 s (Sl (fl cMove) 8 v cur * R)) ?_ ?_ ⟨k, l, rfl, by omega, rfl, hk0.symm, rfl, H⟩) ?_
  ·rintro i m vs s hx ⟨w, cur, rfl, q1, q2, q3, q4, K⟩
   have hi := (List.getElem?_eq_some_iff.1 hx).1
   rw [List.length_drop] at hi
   rw [List.getElem?_drop] at hx
   have hc : cur[k + 1 + i]? = some m := by
    have := congrArg (fun z : List MoveD => z[0]?) q4
    simp only [List.getElem?_drop, Nat.add_zero] at this
    rw [this, hx]
   have htk : (l.take (k + 1 + (i + 1))).filter (fun m => !p m) = if p m = true then (l.take (k + 1 + i)).filter (fun m => !p m) else (l.take (k + 1 + i)).filter (fun m => !p m) ++ [m] := by
    rw [← Nat.add_assoc, List.take_add_one, hx, Option.toList_some, List.filter_append]
    simp only [List.filter_cons, List.filter_nil]
    cases p m <;> simp
   have hdr : ∀ (z : List MoveD), z.drop (k + 1 + i) = l.drop (k + 1 + i) → z.drop (k + 1 + (i + 1)) = l.drop (k + 1 + (i + 1)) := fun z hz => by
    have := congrArg (List.drop 1) hz
    rw [List.drop_drop, List.drop_drop] at this
    rw [← Nat.add_assoc]; exact this
   obtain ⟨pm, f1, f2⟩ := slf_at K hc
   simp only [List.getD_cons_zero, List.getD_cons_succ]
   rw [hlv, Option.bind_some, tlss, Option.bind_some, decide_eq_true (by omega), cnd_t, f1, Option.bind_some, f2, Option.bind_some, pA_cMove, Option.bind_some, ce_cMove, Option.bind_some, sp_cMove m _ rfl, Option.bind_some, pA_cMove, Option.bind_some, hcall m (List.mem_of_getElem? hx), Option.bind_some, show A.not (.bool (p m)) = some (.bool (!p m)) from rfl, Option.bind_some]
   rw [htk]
   cases hp : p m
   ·obtain ⟨y, hy⟩ : ∃ y, cur[w]? = some y := ⟨_, List.getElem?_eq_getElem (by omega)⟩
    obtain ⟨pp, s', e1, e2, K2⟩ := setM (m := m) hy K
    rw [show (!false) = true from rfl, cnd_t, Option.bind_some, e1, Option.bind_some, ce_cMove, Option.bind_some, e2, Option.bind_some, tadd1 (by omega), Option.bind_some, Option.bind_some]
    simp only [List.getD_cons_zero]
    rw [tadd1 (by omega), Option.bind_some]
    refine ⟨_, _, rfl, w + 1, cur.set w m, by rw [Nat.add_assoc], by omega, by rw [List.length_set]; exact q2, ?_, hdr _ (by rw [List.drop_set, if_pos (by omega)]; exact q4), K2⟩
    rw [if_neg (by decide), ← q3, List.take_add_one, List.getElem?_set_self (by omega), List.take_set_of_le (Nat.le_refl w)]
    rfl
   ·rw [show (!true) = false from rfl, cnd_f, Option.bind_some]
    simp only [List.getD_cons_zero]
    rw [tadd1 (by omega), Option.bind_some]
    exact ⟨_, _, rfl, w, cur, by rw [Nat.add_assoc], by omega, q2, by rw [if_pos trivial]; exact q3, hdr cur q4, K⟩
  ·rintro vs s ⟨w, cur, rfl, q1, q2, q3, q4, K⟩
   have hdl : k + 1 + (l.drop (k + 1)).length = l.length := by rw [List.length_drop]; omega
   have q1' : w ≤ l.length := by omega
   rw [hdl] at q3 q4 ⊢
   rw [List.take_length] at q3
   simp only [List.getD_cons_zero, List.getD_cons_succ]
   rw [hlv, Option.bind_some, tlss, Option.bind_some, decide_eq_false (by omega), cnd_f]
   exact ⟨_, rfl, by simp, w, cur, _, rfl, rfl, q1', q2, q3, K⟩
  ·rintro ⟨e, vs, s⟩ ⟨w, cur, y, h1', h2', q1, q2, q3, K⟩
   simp only at h1' h2' K
   subst h1'; subst h2'
   simp only [exb, List.getD_cons_zero]
   rcases slf_cases K with ⟨hn, _, _⟩ | ⟨id, g, rfl, K9⟩
   ·subst hn; simp at q2; omega
   rcases slf_cases H with ⟨hn, _, _⟩ | ⟨id0, g0, hv0, K0⟩
   ·subst hn; simp at hkl
   have hid : id < σ.length := by
    obtain ⟨_, r2⟩ := hs_get K0
    have := (List.getElem?_eq_some_iff.1 r2).1
    injection hv0 with j1 j2 j3 j4 j5
    omega
   obtain ⟨_, r2⟩ := hs_get K9
   have hcl : (cur.map cMove).length = cur.length := by simp
   rw [slo (room_arr r2 (by omega)) bnd_n (bnd_s (k := w) (by omega)), Option.bind_some]
   obtain ⟨cur2, hc2⟩ : ∃ c2, c2 = cur.take w ++ List.replicate (cur.length - w) zMove := ⟨_, rfl⟩
   have hl2 : cur2.length = cur.length := by rw [hc2]; simp; omega
   have ht2 : cur2.take w = cur.take w := by rw [hc2, List.take_append_of_le_length (by simp; omega), List.take_take, Nat.min_self]
   have clr : ∃ s2, A.clearS 8 [(AV.int .i64 0), (AV.str ⟨#[]⟩), (AV.int .i64 0), (AV.int .i64 0), (AV.bool false), (AV.bool false), (AV.int .i64 0), (AV.int .i64 0)] (.os id g 8 (0 + w) (cur.length - w)) s = some s2 ∧ Hs anyB σ0 s2 (blk id (.arr g 8 (cur2.map cMove)) * R) := by
    by_cases hw : cur.length - w = 0
    ·have e : cur2 = cur := by rw [hc2, hw, List.replicate_zero, List.append_nil, List.take_of_length_le (by omega)]
     refine ⟨s, ?_, by rw [e]; exact K9⟩
     simp only [A.clearS, r2]
     rw [if_pos (by simp; omega), if_pos hw]
    ·refine ⟨s.set id (.arr g 8 (cur2.map cMove)), ?_, hs_set K9 trivial⟩
     simp only [A.clearS, r2]
     rw [if_pos (by simp; omega), if_neg hw]
     have e : (cur.map cMove).take (0 + w) ++ List.replicate (cur.length - w) [(AV.int .i64 0), (AV.str ⟨#[]⟩), (AV.int .i64 0), (AV.int .i64 0), (AV.bool false), (AV.bool false), (AV.int .i64 0), (AV.int .i64 0)] ++ (cur.map cMove).drop (0 + w + (cur.length - w)) = cur2.map cMove := by
      rw [Nat.zero_add, show w + (cur.length - w) = cur.length by omega, List.drop_of_length_le (by simp), List.append_nil, hc2, List.map_append, List.map_take, List.map_replicate]
      rfl
     rw [e]
   obtain ⟨s2, e1, K3⟩ := clr
   obtain ⟨_, r3⟩ := hs_get K3
   rw [e1, Option.bind_some, slo (room_arr r3 (by simp; omega)) (bnd_s (k := w) (by simp; omega)) bnd_n, Option.bind_some]
   obtain ⟨v', s', e2, K4⟩ := renew_own (fnv := fnv) (k := w) hid (by omega) (by omega) (hg _ _ _) K3
   rw [hl2] at e2
   refine ⟨(v', s'), e2, ?_⟩
   rw [ht2, q3] at K4
   exact K4
end
end Go.Proofs.Ytphgchakmkankaa

namespace Go.Proofs.Ytphgchakmkankaa
set_option linter.unusedSectionVars false
set_option linter.unusedVariables false
set_option linter.unusedSimpArgs false
open HP
theorem fz_fn {f : Nat} {l : List AV} (h : FzL l) : Fz (.fn f l) := fun σ n d => by cases d <;> simp [A.frz, h σ n]
theorem fz_rp {l : List AV} (h : FzL l) : Fz (.rp l) := fun σ n d => by cases d <;> simp [A.frz, h σ n]
theorem frzM_fz2 {σ : Heap} {n : Nat} (d : Nat) {es : List (AV × AV)} (h : ∀ p ∈ es, Fz p.1 ∧ Fz p.2) : A.frzM σ n d es = some es := by
 rw [← frzM_eq]; exact frzM_fz d h
theorem fz_fm {es : List (AV × AV)} (h : ∀ p ∈ es, Fz p.1 ∧ Fz p.2) : Fz (.fm es) := fun σ n d => by cases d <;> simp [A.frz, frzM_fz2 _ h]
theorem fz_fmE {κ ν : Type} {eK : κ → AV} {eV : ν → AV} (hk : ∀ k, Fz (eK k)) (hv : ∀ v, Fz (eV v)) (l : List (κ × ν)) : Fz (fmE eK eV l) :=
 fz_fm fun p hp => by obtain ⟨q, _, rfl⟩ := List.mem_map.1 hp; exact ⟨hk _, hv _⟩
def fmS (st : List (KeyD × EntryD)) : AV := fmE (fun x => (AV.agg (cKey x))) (fun x => (AV.agg (cEntry x))) st
theorem fz_fmS (st : List (KeyD × EntryD)) : Fz (fmS st) := fz_fmE (fun k => fz_agg (fz_cKey k)) (fun v => fz_agg (fz_cEntry v)) st
def idleM (st : List (KeyD × EntryD)) (m : MoveD) : Bool := (!m.timed) && ((m.release && (!((tfind m.key st).isSome))) || (((!m.release) && ((tfind m.key st).isSome)) && (decide (((tfind m.key st).getD (⟨(⟨0, (⟨#[]⟩ : ByteArray)⟩ : KeyD), (⟨0, 0⟩ : ValueD), 0⟩ : EntryD)).value = m.value))))
section
variable {σ0 σ : Heap} {R : HP}
theorem idle_s {p : AV} {F : List AV → HP} {e : List AV} {x : CueD} (st : List (KeyD × EntryD)) (hC : Cl p F) (hl : x.moves.length < 1000000) (H : Hs anyB σ0 σ (F e * (CueE e x * R))) :
  ∃ σ' e', m_cue_idle [p, fmS st] σ = some (.tup [], σ') ∧ Hs anyB σ0 σ' (F e' * (CueE e' { x with moves := x.moves.filter fun m => !idleM st m } * R)) := by
 obtain ⟨vp, vm, he, K⟩ := cueP (hs_eq (show _ = CueP (Sl (fl cMove) 8) e x * (F e * R) from by rw [show CueE e x = CueP (Sl (fl cMove) 8) e x from rfl]; ac_rfl) H)
 subst he
 have hmv : Hs anyB σ0 σ (Sl (fl cMove) 8 vm x.moves * (F (cCueH x vp vm) * (Sf cPoint 2 vp x.curve.points * R))) := hs_eq (by ac_rfl) K
 obtain ⟨q, f1, f2⟩ := faddr_at hC 10 H (vm := vm) (by
  have := cell_sl hmv
  simp only [cCueH, List.drop_succ_cons, List.drop_zero, A.part1, List.getElem?_cons_zero, Option.bind_some]
  exact this)
 have hd : ∀ m ∈ x.moves, ∀ s, A.tab (fun _ _ => none) [(204, m_cue_idle_fn1), (204, m_cue_idle_fn1)] 204 [.agg (cMove m), .rp [fmS st]] s = some (.bool (idleM st m), s) := fun m _ s => h_cue_idle_fn1 (r := idleM st m) rfl
 have hix : m_slices_IndexFunc_api_Move (A.tab (fun _ _ => none) [(204, m_cue_idle_fn1), (204, m_cue_idle_fn1)]) [vm, .fn 204 [.rp [fmS st]]] σ = some (.int .i64 (idxI (idleM st) x.moves), σ) :=
  lent (ain := [.s 8]) (ts := [sl 8 cMove x.moves, .fn 204 [.rp [fmS st]]]) ⟨lt_slf fz_cMove hmv, lt_fz (fz_fn (fzL_cons (fz_rp (fzL_cons (fz_fmS st) fzL_nil)) fzL_nil)) rfl, trivial⟩
   (fun σ => m_slices_IndexFunc_api_Move_eq _ x.moves (by unfold mxl; omega) _ _ (idleM st) σ (fun m hm => hd m hm σ)) rfl
 obtain ⟨v', σ1, e1, H1⟩ := df_M (fnv := .fn 204 [.rp [fmS st]]) (p := idleM st) hl (fun id g n => by simp [A.gen]) hix (fun m hm s => hd m hm s) hmv
 obtain ⟨q', g1, _, g3⟩ := hC.fa 10
 rw [f1] at g1; injection g1 with g1; subst g1
 obtain ⟨σ2, e3, H2⟩ := g3 (hs_eq (show _ = F (cCueH x vp vm) * (Sl (fl cMove) 8 v' (x.moves.filter fun m => !idleM st m) * (Sf cPoint 2 vp x.curve.points * R)) by ac_rfl) H1) (new := [v']) (e' := cCueH x vp v') rfl
 have e1' : m_slices_DeleteFunc_api_Move (A.tab (fun _ _ => none) [(204, m_cue_idle_fn1), (204, m_cue_idle_fn1)]) [vm, .fn 204 [.rp [fmS st]]] σ = some (v', σ1) := by
  unfold m_slices_DeleteFunc_api_Move A.wrap
  rw [Bool.false_and, cond_false, show ∀ l, A.nnL [] l = l from fun l => by simp [A.nnL]]
  show (r_slices_DeleteFunc_api_Move _ vm (.fn 204 [.rp [fmS st]]) σ).map _ = _
  rw [e1]
  simp [nn_k]
 have run : r_cue_idle p (fmS st) σ = some (.tup [], σ2) := by
  unfold r_cue_idle
  rw [show (((A.cell (fmS st)).bind fun v => some [v]).bind fun cs => some (AV.rp cs)) = some (.rp [fmS st]) from rfl, Option.bind_some, hC.nc, Option.bind_some, f1, Option.bind_some, f2, Option.bind_some, e1', Option.bind_some, Option.bind_some]
  simp only
  rw [f1, Option.bind_some, cell_sl H1, Option.bind_some, Option.bind_some, e3, Option.bind_some]
 refine ⟨σ2, cCueH x vp v', ?_, ?_⟩
 ·unfold m_cue_idle A.wrap
  rw [Bool.false_and, cond_false, show ∀ l, A.nnL [] l = l from fun l => by simp [A.nnL]]
  show (r_cue_idle p (fmS st) σ).map _ = _
  rw [run]
  simp [nn_k]
 ·have := cueP_of (M := Sl (fl cMove) 8) (x := { x with moves := x.moves.filter fun m => !idleM st m }) (e := cCueH x vp v') (vp := vp) (vm := v') (R := F (cCueH x vp v') * R) (B := anyB) (σ0 := σ0) (σ := σ2) rfl (hs_eq (by ac_rfl) H2)
  exact hs_eq (by rw [show CueE (cCueH x vp v') { x with moves := x.moves.filter fun m => !idleM st m } = CueP (Sl (fl cMove) 8) (cCueH x vp v') { x with moves := x.moves.filter fun m => !idleM st m } from rfl]; ac_rfl) this
end
theorem idle_keep {st : List EntryD} {s : List (KeyD × EntryD)} (h : SameS s st) {m : MoveD} (hr : m.release = true → m.value = ⟨0, 0⟩) : (!idleM s m) = keepM st m := by
 unfold idleM keepM
 rw [h.2.2 m.key]
 cases lookE st m.key with
 | none =>
  cases hq : m.release <;> cases m.timed <;> simp [mvOf, hq]
  rw [hr hq]; simp
 | some e =>
  cases hq : m.release <;> cases m.timed <;> simp [mvOf, hq]
  by_cases he : e.value = m.value <;> simp [he]
end Go.Proofs.Ytphgchakmkankaa

namespace Go.Proofs.Ytphgchakmkankaa
set_option linter.unusedSectionVars false
set_option linter.unusedVariables false
set_option linter.unusedSimpArgs false
def mvK (l : List MoveD) (k : KeyD) : Option MoveD := l.find? fun m => decide (m.key = k)
theorem posM_at {l : List MoveD} {k : KeyD} (h : srtM l) {i : Nat} {x : MoveD} (hi : l[i]? = some x) (hk : x.key = k) : posM l k = i := by
 have h1 : ¬ i < posM l k := fun q => by
  have := (posM_lt h hi).2 q
  rw [hk, ltK_irr] at this; cases this
 have h2 : ¬ posM l k < i := fun q => by
  have hp : posM l k < l.length := Nat.lt_trans q (List.getElem?_eq_some_iff.1 hi).1
  have hy : l[posM l k]? = some l[posM l k] := List.getElem?_eq_getElem hp
  have h3 : ¬ ltK l[posM l k].key k = true := fun q' => Nat.lt_irrefl _ ((posM_lt h hy).1 q')
  have h4 := List.pairwise_iff_getElem.1 h (posM l k) i hp (List.getElem?_eq_some_iff.1 hi).1 q
  rw [(List.getElem?_eq_some_iff.1 hi).2, hk] at h4
  exact h3 h4
 omega
theorem mvK_some {l : List MoveD} (h : srtM l) {k : KeyD} {x : MoveD} : mvK l k = some x ↔ x ∈ l ∧ x.key = k := by
 constructor
 ·intro e
  exact ⟨List.mem_of_find?_eq_some e, of_decide_eq_true (List.find?_some (p := fun m : MoveD => decide (m.key = k)) e)⟩
 ·rintro ⟨hm, hk⟩
  cases e : mvK l k with
  | none =>
   have := List.find?_eq_none.1 e x hm
   simp [hk] at this
  | some y =>
   have hy := List.mem_of_find?_eq_some e
   have hyk : y.key = k := of_decide_eq_true (List.find?_some (p := fun m : MoveD => decide (m.key = k)) e)
   obtain ⟨i, hi⟩ := List.mem_iff_getElem?.1 hm
   obtain ⟨j, hj⟩ := List.mem_iff_getElem?.1 hy
   have e1 := posM_at h hi hk
   have e2 := posM_at h hj hyk
   rw [← e1, e2, hj] at hi
   exact hi
theorem mvK_none {l : List MoveD} {k : KeyD} : mvK l k = none ↔ hasM l k = false := by
 unfold mvK hasM
 rw [List.find?_eq_none, Bool.eq_false_iff, Ne, List.any_eq_true]
 constructor
 ·rintro h ⟨x, h1, h2⟩; exact h x h1 h2
 ·intro h x h1 h2; exact h ⟨x, h1, h2⟩
theorem mvK_ext : ∀ {a b : List MoveD}, srtM a → srtM b → (∀ k, mvK a k = mvK b k) → a = b
 | [], [], _, _, _ => rfl
 | [], y :: b, _, _, h => by have := h y.key; simp [mvK] at this
 | x :: a, [], _, _, h => by have := h x.key; simp [mvK] at this
 | x :: a, y :: b, ha, hb, h => by
  have ha' := List.pairwise_cons.1 ha
  have hb' := List.pairwise_cons.1 hb
  have hxy : x = y := by
   have h1 : mvK (y :: b) x.key = some x := by rw [← h]; simp [mvK]
   have h2 : mvK (x :: a) y.key = some y := by rw [h]; simp [mvK]
   have m1 := ((mvK_some hb).1 h1).1
   have m2 := ((mvK_some ha).1 h2).1
   rcases List.mem_cons.1 m1 with e | m1
   ·exact e
   rcases List.mem_cons.1 m2 with e | m2
   ·exact e.symm
   have q1 := hb'.1 x m1
   have q2 := ha'.1 y m2
   have := ltK_trans q1 q2
   rw [ltK_irr] at this; cases this
  subst hxy
  congr 1
  refine mvK_ext ha'.2 hb'.2 fun k => ?_
  by_cases hk : x.key = k
  ·have n1 : mvK a k = none := by
    unfold mvK; rw [List.find?_eq_none]
    intro z hz q
    have := ha'.1 z hz
    rw [of_decide_eq_true q, ← hk, ltK_irr] at this; cases this
   have n2 : mvK b k = none := by
    unfold mvK; rw [List.find?_eq_none]
    intro z hz q
    have := hb'.1 z hz
    rw [of_decide_eq_true q, ← hk, ltK_irr] at this; cases this
   rw [n1, n2]
  ·have := h k
   unfold mvK at this ⊢
   rw [List.find?_cons, List.find?_cons, decide_eq_false hk] at this
   exact this
theorem mem_putM {l : List MoveD} (hs : srtM l) {m x : MoveD} : x ∈ putM l m ↔ x = m ∨ (x ∈ l ∧ x.key ≠ m.key) := by
 unfold putM
 split
 ·rename_i hh
  obtain ⟨y, hy⟩ := hasM_lt hs hh
  have hp := (List.getElem?_eq_some_iff.1 hy).1
  have hyk : y.key = m.key := by
   have := posM_has (k := m.key) hs
   rw [hh, hy] at this
   simpa using this
  constructor
  ·intro hx
   obtain ⟨i, hi⟩ := List.mem_iff_getElem?.1 hx
   rw [List.getElem?_set] at hi
   split at hi
   ·try rw [if_pos hp] at hi
    injection hi with hi; exact .inl hi.symm
   ·rename_i hne
    exact .inr ⟨List.mem_of_getElem? hi, fun e => hne (posM_at hs hi e)⟩
  ·rintro (rfl | ⟨hx, hk⟩)
   ·exact List.mem_of_getElem? (i := posM l x.key) (by rw [List.getElem?_set_self hp])
   ·obtain ⟨i, hi⟩ := List.mem_iff_getElem?.1 hx
    have hne : posM l m.key ≠ i := fun e => hk (by rw [← e, hy] at hi; injection hi with hi; rw [← hi, hyk])
    exact List.mem_of_getElem? (i := i) (by rw [List.getElem?_set_ne hne, hi])
 ·rename_i hh
  have hall : ∀ z, z ∈ l ↔ z ∈ l.take (posM l m.key) ∨ z ∈ l.drop (posM l m.key) := fun z => by
   conv => lhs; rw [← List.take_append_drop (posM l m.key) l, List.mem_append]
  rw [List.mem_append, List.mem_append, List.mem_singleton]
  constructor
  ·rintro ((h | h) | h)
   ·exact .inr ⟨(hall x).2 (.inl h), fun e => hh (List.any_eq_true.2 ⟨x, (hall x).2 (.inl h), by simp [e]⟩)⟩
   ·exact .inl h
   ·exact .inr ⟨(hall x).2 (.inr h), fun e => hh (List.any_eq_true.2 ⟨x, (hall x).2 (.inr h), by simp [e]⟩)⟩
  ·rintro (h | ⟨h, _⟩)
   ·exact .inl (.inr h)
   ·rcases (hall x).1 h with h | h
    ·exact .inl (.inl h)
    ·exact .inr h
theorem mvK_put {l : List MoveD} (hs : srtM l) (m : MoveD) (k : KeyD) : mvK (putM l m) k = if m.key = k then some m else mvK l k := by
 apply Option.ext
 intro x
 show mvK (putM l m) k = some x ↔ _ = some x
 rw [mvK_some (srt_put hs m), mem_putM hs]
 by_cases h : m.key = k
 ·rw [if_pos h]
  constructor
  ·rintro ⟨rfl | ⟨_, h2⟩, h3⟩
   ·rfl
   ·exact absurd (h3.trans h.symm) h2
  ·intro e; injection e with e; subst e; exact ⟨.inl rfl, h⟩
 ·rw [if_neg h, mvK_some hs]
  constructor
  ·rintro ⟨rfl | ⟨h1, _⟩, h3⟩
   ·exact absurd h3 h
   ·exact ⟨h1, h3⟩
  ·rintro ⟨h1, h3⟩; exact ⟨.inr ⟨h1, fun e => h (e.symm.trans h3)⟩, h3⟩
theorem mvK_rest {g : KeyD → MoveD} (hg : ∀ k, (g k).key = k) {k : KeyD} : ∀ (ks : List KeyD) {ms : List MoveD}, srtM ms → mvK (ks.foldl (restP g) ms) k = if hasM ms k = true then mvK ms k else if k ∈ ks then some (g k) else none
 | [], ms, hs => by
  cases hh : hasM ms k
  ·simp [mvK_none.2 hh]
  ·simp
 | a :: ks, ms, hs => by
  rw [List.foldl_cons, mvK_rest hg ks (restP_srt hs a).1]
  unfold restP
  cases ha : hasM ms a
  ·simp only [Bool.false_eq_true, if_false]
   rw [has_put hs, hg, mvK_put hs, hg]
   by_cases hk : a = k
   ·subst hk
    simp [ha]
   ·have hk' : ¬ k = a := fun e => hk e.symm
    simp [hk, hk']
  ·simp only [if_true]
   by_cases hk : a = k
   ·subst hk
    simp [ha]
   ·have hk' : ¬ k = a := fun e => hk e.symm
    simp [hk']
theorem rest_eq {g g' : KeyD → MoveD} {ks ks' : List KeyD} {ms : List MoveD} (hs : srtM ms) (hg : ∀ k, (g k).key = k) (hg' : ∀ k, (g' k).key = k) (h : ∀ k, k ∈ ks ↔ k ∈ ks') (hgg : ∀ k ∈ ks, g k = g' k) : ks.foldl (restP g) ms = ks'.foldl (restP g') ms := by
 refine mvK_ext (rest_fold ks hs).1 (rest_fold ks' hs).1 fun k => ?_
 rw [mvK_rest hg ks hs, mvK_rest hg' ks' hs]
 by_cases hk : k ∈ ks
 ·rw [if_pos hk, if_pos ((h k).1 hk), hgg k hk]
 ·rw [if_neg hk, if_neg (fun q => hk ((h k).2 q))]
end Go.Proofs.Ytphgchakmkankaa

namespace Go.Proofs.Ytphgchakmkankaa
set_option linter.unusedSectionVars false
set_option linter.unusedVariables false
set_option linter.unusedSimpArgs false
open HP
theorem loopC_of {R : Type} {f : List AV → Heap → (AX × List AV × Heap → Option R) → Option R} {v : List AV} {σ : Heap} {K : AX × List AV × Heap → Option R} {r : R} (h : ∃ n, ∀ m, n ≤ m → A.iterC f m v σ K = some r) : A.loopC f v σ K = some r := by
 have hx : ∃ r, ∃ n, ∀ m, n ≤ m → A.iterC f m v σ K = some r := ⟨r, h⟩
 unfold A.loopC
 rw [dif_pos hx]
 obtain ⟨n, hn⟩ := h
 obtain ⟨n', hn'⟩ := Classical.choose_spec hx
 have a := hn (n + n') (by omega)
 have b := hn' (n + n') (by omega)
 rw [a] at b; exact b.symm
theorem bounds {P : Nat → Nat → Prop} : ∀ (n : Nat), (∀ j, j < n → ∃ N, ∀ m, N ≤ m → P j m) → ∃ N, ∀ j, j < n → ∀ m, N ≤ m → P j m
 | 0, _ => ⟨0, fun j h => by omega⟩
 | n + 1, h => by
  obtain ⟨N, hN⟩ := bounds n (fun j hj => h j (by omega))
  obtain ⟨M, hM⟩ := h n (by omega)
  refine ⟨N + M, fun j hj m hm => ?_⟩
  by_cases e : j = n
  ·subst e; exact hM m (by omega)
  ·exact hN j (by omega) m (by omega)
theorem map_erase {α β : Type} (f : α → β) (l : List α) (j : Nat) : (l.map f).eraseIdx j = (l.eraseIdx j).map f := by
 rw [List.eraseIdx_eq_take_drop_succ, List.eraseIdx_eq_take_drop_succ, List.map_append, List.map_take, List.map_drop]
theorem perm_at {α : Type} {l : List α} {j : Nat} (hj : j < l.length) : (l[j] :: l.eraseIdx j).Perm l := by
 have e : l = l.take j ++ l[j] :: l.drop (j + 1) := by rw [List.getElem_cons_drop, List.take_append_drop]
 rw [List.eraseIdx_eq_take_drop_succ]
 conv => rhs; rw [e]
 exact List.perm_middle.symm
theorem range_loop {α R : Type} {enc : α → AV × AV} {it : Nat} {f : List AV → Heap → (AX × List AV × Heap → Option R) → Option R} {K : AX × List AV × Heap → Option R} {r : R} {es : List α}
  (body : List AV → Heap → (AX × List AV × Heap → Option R) → Option R) (ev : List AV → List AV)
  (hf : ∀ v s k, f v s k = A.nextA (.op it 0) s fun x s' => (A.ext 0 x).bind fun c => A.cond c (body v s' k) (k (.exit 0, ev v, s')))
  (I : List α → List α → List AV → Heap → Prop) (hget : ∀ d l v s, I d l v s → ∃ c, s[it]? = some (.it c (l.map enc)))
  (hstep : ∀ d l v s j p, (d ++ l).Perm es → I d l v s → l[j]? = some p → ∃ v' s', (∀ k, body v (s.set it (.it [enc p] ((l.eraseIdx j).map enc))) k = k (.normal, v', s')) ∧ I (d ++ [p]) (l.eraseIdx j) v' s')
  (hend : ∀ d v s, d.Perm es → I d [] v s → K (.exit 0, ev v, s) = some r) {v0 : List AV} {s0 : Heap} (h0 : I [] es v0 s0) : A.loopC f v0 s0 K = some r := by
 have key : ∀ (n : Nat) (d l : List α) v s, l.length = n → (d ++ l).Perm es → I d l v s → ∃ N, ∀ m, N ≤ m → A.iterC f m v s K = some r := by
  intro n
  induction n with
  | zero =>
   intro d l v s hl hp hI
   have : l = [] := List.eq_nil_of_length_eq_zero hl
   subst this
   refine ⟨1, fun m hm => ?_⟩
   obtain ⟨m', rfl⟩ : ∃ m', m = m' + 1 := ⟨m - 1, by omega⟩
   obtain ⟨c, hc⟩ := hget _ _ _ _ hI
   rw [A.iterC, hf]
   simp only [A.nextA, hc, List.map_nil]
   exact hend d v s (by simpa using hp) hI
  | succ n ih =>
   intro d l v s hl hp hI
   obtain ⟨c, hc⟩ := hget _ _ _ _ hI
   have hb : ∀ j, j < l.length → ∃ N, ∀ m, N ≤ m → ∀ p, l[j]? = some p → body v (s.set it (.it [enc p] ((l.eraseIdx j).map enc))) (fun q => match q.1 with | .normal => A.iterC f m q.2.1 q.2.2 K | _ => K q) = some r := by
    intro j hj
    have hx : l[j]? = some l[j] := List.getElem?_eq_getElem hj
    obtain ⟨v', s', h1, h2⟩ := hstep d l v s j _ hp hI hx
    have hp2 : ((d ++ [l[j]]) ++ l.eraseIdx j).Perm es := by
     rw [List.append_assoc, List.singleton_append]
     exact ((perm_at hj).append_left d).trans hp
    obtain ⟨N, hN⟩ := ih _ _ _ _ (by rw [List.length_eraseIdx, if_pos hj]; omega) hp2 h2
    refine ⟨N, fun m hm p hpp => ?_⟩
    rw [hx] at hpp; injection hpp with hpp; subst hpp
    rw [h1]
    exact hN m hm
   obtain ⟨N, hN⟩ := bounds l.length hb
   refine ⟨N + 1, fun m hm => ?_⟩
   obtain ⟨m', rfl⟩ : ∃ m', m = m' + 1 := ⟨m - 1, by omega⟩
   rw [A.iterC, hf]
   cases l with
   | nil => simp at hl
   | cons e l =>
    simp only [A.nextA, hc, List.map_cons]
    refine all_of 0 (by simp) fun j hj => ?_
    have hj' : j < (e :: l).length := by simpa using hj
    have hx : (e :: l)[j]? = some (e :: l)[j] := List.getElem?_eq_getElem hj'
    have hx2 : (enc e :: l.map enc)[j]? = some (enc (e :: l)[j]) := by
     rw [← List.map_cons, List.getElem?_map, hx]; rfl
    have := hN j hj' m' (by omega) _ hx
    simp only [hx2]
    rw [← List.map_cons, map_erase]
    exact this
 exact loopC_of (key _ [] es v0 s0 rfl (List.Perm.refl _) h0)
def setBlk (l : List CueD) (i : Nat) (b : Bool) : List CueD := match l[i]? with
 | some c => l.set i { c with block := b }
 | none => l
def encS (p : KeyD × EntryD) : AV × AV := (.agg (cKey p.1), .agg (cEntry p.2))
section
variable {σ0 σ : Heap} {R : HP}
theorem flag_at {v : AV} {l : List CueD} {i : Nat} {x : CueD} (hx : l[i]? = some x) (b : Bool) (H : Hs anyB σ0 σ (Sl CueE 11 v l * R)) : ∃ p q σ', A.iaddr 11 v (.int .i64 (i : Int)) = some p ∧ A.nilck p = some p ∧ A.faddr 8 p = some q ∧ A.storeAt q [.bool b] σ = some σ' ∧ Hs anyB σ0 σ' (Sl CueE 11 v (setBlk l i b) * R) := by
 obtain ⟨p, F, e, f1, hC, K, back⟩ := sl_cell H hx
 obtain ⟨vp, vm, he, K2⟩ := cueP (hs_eq (show _ = CueP (Sl (fl cMove) 8) e x * (F e * R) by rw [show CueE e x = CueP (Sl (fl cMove) 8) e x from rfl]; ac_rfl) K)
 subst he
 obtain ⟨q, g1, _, g3⟩ := hC.fa 8
 obtain ⟨σ', e3, K3⟩ := g3 (hs_eq (show _ = F (cCueH x vp vm) * (Sl (fl cMove) 8 vm x.moves * (Sf cPoint 2 vp x.curve.points * R)) by ac_rfl) K2) (new := [.bool b]) (e' := cCueH { x with block := b } vp vm) rfl
 refine ⟨p, q, σ', f1, hC.nc, g1, e3, ?_⟩
 rw [setBlk, hx]
 refine back (e := cCueH { x with block := b } vp vm) ?_
 have K5 := cueP_of (M := Sl (fl cMove) 8) (x := { x with block := b }) (e := cCueH { x with block := b } vp vm) (vp := vp) (vm := vm) (R := F (cCueH { x with block := b } vp vm) * R) rfl (hs_eq (by ac_rfl) K3)
 exact hs_eq (by rw [show CueE (cCueH { x with block := b } vp vm) { x with block := b } = CueP (Sl (fl cMove) 8) (cCueH { x with block := b } vp vm) { x with block := b } from rfl]; ac_rfl) K5
theorem restore5_t {p : AV} {F : List AV → HP} {e : List AV} {x : CueD} {st : List EntryD} (k : KeyD) (hC : Cl p F) (hs : srtM x.moves) (hl : x.moves.length < 1000000000) (hst : srtE st) (hsl : st.length < 4611686018427387904) (H : Hs anyB σ0 σ (F e * (CueE e x * R))) :
  ∃ σ' e', m_R5_restore [p, sl 5 cEntry st, .agg (cKey k)] σ = some (.tup [], σ') ∧ Hs anyB σ0 σ' (F e' * (CueE e' { x with moves := restP (fun y => mvOf y (lookE st y)) x.moves k } * R)) := by
 have run : ∃ σ' e', r_R5_restore p (sl 5 cEntry st) (.agg (cKey k)) σ = some (.tup [], σ') ∧ Hs anyB σ0 σ' (F e' * (CueE e' { x with moves := restP (fun y => mvOf y (lookE st y)) x.moves k } * R)) := by
  unfold r_R5_restore
  obtain ⟨q, vm, b1, b2, b3, b4⟩ := put5_cell hC H hs (by omega)
  rw [show A.cells 2 (.agg (cKey k)) = some (cKey k) from rfl, Option.bind_some, hC.nc, Option.bind_some, b1, Option.bind_some, b2, Option.bind_some, show A.partA 0 2 (cKey k) = some (.agg (cKey k)) from rfl, Option.bind_some, quiet_of (b3 k), Option.bind_some, ext0, Option.bind_some, ext1, Option.bind_some, show A.not (.bool (hasM x.moves k)) = some (.bool (!hasM x.moves k)) from rfl, Option.bind_some]
  unfold restP
  cases hh : hasM x.moves k
  ·have hv := h_R5_valued (σ := σ) (valued_t hst hsl k)
   obtain ⟨v', s2, s3, c1, c2, c3, e', K5⟩ := b4 (mvOf k (lookE st k))
   rw [show (!false) = true from rfl, cnd_t]
   simp only [Option.bind_some]
   rw [b1, Option.bind_some, b2, Option.bind_some, quiet_of hv, Option.bind_some, c1, Option.bind_some]
   simp only [Option.bind_some]
   rw [c2, Option.bind_some, Option.bind_some, c3, Option.bind_some, Option.bind_some]
   exact ⟨_, e', rfl, by simpa using K5⟩
  ·rw [show (!true) = false from rfl, cnd_f, Option.bind_some]
   exact ⟨_, e, rfl, by simpa using H⟩
 obtain ⟨σ', e', h1, h2⟩ := run
 refine ⟨σ', e', ?_, h2⟩
 unfold m_R5_restore A.wrap
 rw [Bool.false_and, cond_false, show A.nnL [] [p, sl 5 cEntry st, .agg (cKey k)] = [p, sl 5 cEntry st, .agg (cKey k)] by simp [A.nnL]]
 show (r_R5_restore p (sl 5 cEntry st) (.agg (cKey k)) σ).map _ = _
 rw [h1]
 simp [nn_k]
end
end Go.Proofs.Ytphgchakmkankaa

namespace Go.Proofs.Ytphgchakmkankaa
set_option linter.unusedSectionVars false
set_option linter.unusedVariables false
set_option linter.unusedSimpArgs false
open HP
theorem form_moves {l : List CueD} (h : formF l = 0) : ∀ c ∈ l, movesF c.moves = 0 := by
 intro c hc
 unfold formF at h
 by_cases h1 : 300 < (l.length : Int)
 ·simp [h1] at h
 rw [if_neg h1] at h
 by_cases h2 : chkE (cueF l) l 0 = 0
 case neg => rw [if_pos h2] at h; exact absurd h h2
 obtain ⟨i, hi⟩ := List.mem_iff_getElem?.1 hc
 have := (chkE_zero l 0).1 h2 i c hi
 rw [Nat.zero_add] at this
 unfold cueF at this
 split at this
 ·cases this
 split at this
 ·cases this
 split at this
 ·cases this
 split at this
 ·cases this
 split at this
 ·rename_i a5; exact absurd this a5
 split at this
 ·cases this
 exact this
theorem rel_zero {l : List CueD} (h : formF l = 0) : ∀ c ∈ l, ∀ m ∈ c.moves, m.release = true → m.value = ⟨0, 0⟩ := by
 intro c hc m hm hr
 have h1 := form_moves h c hc
 unfold movesF at h1
 obtain ⟨i, hi⟩ := List.mem_iff_getElem?.1 hm
 have := (chkE_zero _ 0).1 h1 i m hi
 rw [Nat.zero_add] at this
 unfold moveF at this
 split at this
 ·cases this
 split at this
 ·cases this
 split at this
 ·cases this
 rename_i a3
 rw [hr] at a3
 simp only [Bool.true_and, Bool.or_eq_true, decide_eq_true_eq, not_or, Decidable.not_not] at a3
 exact a3.1
theorem tupd_len {ν : Type} (k : KeyD) (v : ν) : ∀ s : List (KeyD × ν), (tupd k v s).length ≤ s.length + 1
 | [] => by simp [tupd]
 | (a, b) :: s => by
  rw [tupd]
  split
  ·simp
  ·have := tupd_len k v s; simp; omega
theorem tdel_len {ν : Type} (k : KeyD) : ∀ s : List (KeyD × ν), (tdel k s).length ≤ s.length
 | [] => by simp [tdel]
 | (a, b) :: s => by
  rw [tdel]
  split
  ·simp
  ·have := tdel_len k s; simp; omega
theorem stepM_len (n : Int) (s : List (KeyD × EntryD)) (m : MoveD) : (stepM n s m).length ≤ s.length + 1 := by
 unfold stepM
 split
 ·have := tdel_len m.key s; omega
 ·exact tupd_len _ _ _
theorem stepsM_len (n : Int) : ∀ (ms : List MoveD) (s : List (KeyD × EntryD)), (ms.foldl (stepM n) s).length ≤ s.length + ms.length
 | [], s => Nat.le_refl _
 | m :: ms, s => by
  rw [List.foldl_cons]
  have := stepsM_len n ms (stepM n s m)
  have := stepM_len n s m
  simp; omega
theorem state_len {l : List CueD} (hm : ∀ c ∈ l, c.moves.length ≤ 2000) : (stateF l).length ≤ l.length * 2000 := by
 unfold stateF
 have key : ∀ (l : List CueD) (s : List (KeyD × EntryD)), (∀ c ∈ l, c.moves.length ≤ 2000) → (l.foldl (fun s c => c.moves.foldl (stepM c.number) s) s).length ≤ s.length + l.length * 2000 := by
  intro l
  induction l with
  | nil => intro s _; simp
  | cons c l ih =>
   intro s h
   rw [List.foldl_cons]
   have h1 := ih (c.moves.foldl (stepM c.number) s) (fun x hx => h x (by simp [hx]))
   have h2 := stepsM_len c.number c.moves s
   have h3 := h c (by simp)
   simp only [List.length_cons, Nat.add_mul]
   omega
 have := key l [] hm
 simpa using this
theorem hasM_keys {st : List EntryD} {s : List (KeyD × EntryD)} (h : SameS s st) (k : KeyD) : k ∈ s.map (·.1) ↔ k ∈ st.map (·.key) := by
 have h1 : k ∈ s.map (·.1) ↔ (tfind k s).isSome = true := by
  clear h
  induction s with
  | nil => simp [tfind]
  | cons p s ih =>
   obtain ⟨a, b⟩ := p
   rw [tfind, List.map_cons, List.mem_cons]
   by_cases e : k = a
   ·simp [e]
   ·rw [if_neg e, ← ih]; simp [e]
 have h2 : k ∈ st.map (·.key) ↔ (lookE st k).isSome = true := by
  unfold lookE
  rw [List.find?_isSome, List.mem_map]
  constructor
  ·rintro ⟨x, hx, e⟩; exact ⟨x, hx, by simp [e]⟩
  ·rintro ⟨x, hx, e⟩; exact ⟨x, hx, of_decide_eq_true e⟩
 rw [h1, h2, h.2.2 k]
def cleanRes (l : List CueD) : List CueD × Int := (if formF l = 0 then cleanTo l l.length else [], formF l)
def blkOn (l : List CueD) (a : Nat) : List CueD := match l[a]? with
 | some x => l.set a { x with block := true, moves := ((beforeF (l.take (a + 1))).map (·.key)).foldl (restP fun k => mvOf k (lookE (beforeF (l.take (a + 1))) k)) x.moves }
 | none => l
def blockF (l : List CueD) (n : Int) : List CueD × Int :=
 if ¬ (formF l = 0) then ([], formF l) else if hasC l n = false then ([], 8) else doneF (blkOn l (posC l n))
def unblk (l : List CueD) (a : Nat) : List CueD := match l[a]? with
 | some x => l.set a { x with block := false, moves := x.moves.filter (keepM (beforeF (l.take a))) }
 | none => l
def unblockF (l : List CueD) (n : Int) : List CueD × Int :=
 if ¬ (formF l = 0) then ([], formF l) else if hasC l n = false then ([], 8) else (unblk l (posC l n), 0)
theorem doneF_pair (o : List CueD) : doneF o = (if formF o = 0 then o else [], formF o) := by
 unfold doneF; split
 ·rename_i h; rw [h]
 ·rfl
theorem nn_two {l : List CueD} {e : Int} : A.nn (.t [(.e 11 [.k, .k, .k, .k, .k, .k, .k, .s 2, .k, .k, .s 8]), .k]) (.tup [sl 11 cCue l, .int .i64 e]) = .tup [sl 11 cCue l, .int .i64 e] := nn_ret (nn_idem_cues l)
theorem mem_stepE {n : Int} {st : List EntryD} {m : MoveD} {e : EntryD} (h : e ∈ stepE n st m) : e ∈ st ∨ e = ⟨m.key, m.value, n⟩ := by
 have h1 : ∀ e, e ∈ (if hasE st m.key = true then st.eraseIdx (posE st m.key) else st) → e ∈ st := fun e he => by
  split at he
  ·exact List.mem_of_mem_eraseIdx he
  ·exact he
 unfold stepE at h
 simp only at h
 split at h
 ·exact .inl (h1 e h)
 ·simp only [List.mem_append, List.mem_singleton] at h
  rcases h with (h | h) | h
  ·exact .inl (h1 e (List.mem_of_mem_take h))
  ·exact .inr h
  ·exact .inl (h1 e (List.mem_of_mem_drop h))
theorem before_all {P : EntryD → Prop} {l : List CueD} (h : ∀ c ∈ l, ∀ m ∈ c.moves, P ⟨m.key, m.value, c.number⟩) : ∀ e ∈ beforeF l, P e := by
 have inner : ∀ (n : Int) (ms : List MoveD) (s : List EntryD), (∀ m ∈ ms, P ⟨m.key, m.value, n⟩) → (∀ p ∈ s, P p) → ∀ p ∈ ms.foldl (stepE n) s, P p := by
  intro n ms
  induction ms with
  | nil => intro s _ h; exact h
  | cons m ms ih =>
   intro s hm hs
   refine ih _ (fun x hx => hm x (by simp [hx])) (fun p hp => ?_)
   rcases mem_stepE hp with hp | rfl
   ·exact hs p hp
   ·exact hm m (by simp)
 have key : ∀ (l : List CueD) (s : List EntryD), (∀ c ∈ l, ∀ m ∈ c.moves, P ⟨m.key, m.value, c.number⟩) → (∀ p ∈ s, P p) → ∀ p ∈ l.foldl afterF s, P p := by
  intro l
  induction l with
  | nil => intro s _ h; exact h
  | cons c l ih =>
   intro s hl hs
   exact ih _ (fun x hx => hl x (by simp [hx])) (inner c.number c.moves s (hl c (by simp)) hs)
 exact key l [] h (by simp)
theorem key_ok {P : KeyD → Prop} {l : List CueD} (h : ∀ c ∈ l, ∀ m ∈ c.moves, P m.key) : ∀ e ∈ beforeF l, P e.key := before_all (P := fun e => P e.key) h
theorem blkOn_ok {l : List CueD} (hl : OkC l) (hg : Good l) (a : Nat) : okL okCue (blkOn l a) := by
 have hlen := hg.len
 unfold blkOn
 cases hx : l[a]? with
 | none => exact ⟨by show l.length ≤ _; unfold mxl; omega, hl⟩
 | some x =>
  have hxm := List.mem_of_getElem? hx
  have hok := hl x hxm
  obtain ⟨b1, b2⟩ := before_inv (l := l.take (a + 1)) (fun c hc => by have := (hg.mv c (List.mem_of_mem_take hc)).1; omega) 0 [] List.Pairwise.nil (Nat.zero_le _)
  have b2' : (beforeF (l.take (a + 1))).length ≤ 600000000 := by
   have : (l.take (a + 1)).length ≤ 300 := by simp; omega
   unfold beforeF; omega
  have hr := rest_fold (g := fun k => mvOf k (lookE (beforeF (l.take (a + 1))) k)) ((beforeF (l.take (a + 1))).map (·.key)) (hg.mv x hxm).2
  have hml := (hg.mv x hxm).1
  have hsame := same_state (l.take (a + 1))
  refine ⟨by simp only [List.length_set]; unfold mxl; omega, fun c hc => ?_⟩
  rcases List.mem_or_eq_of_mem_set hc with hc | rfl
  ·exact hl c hc
  refine ⟨hok.1, hok.2.1, hok.2.2.1, hok.2.2.2.1, hok.2.2.2.2.1, hok.2.2.2.2.2.1, hok.2.2.2.2.2.2.1, hok.2.2.2.2.2.2.2.1, ?_, rest_ok _ (fun k hk => mvOf_ok ?_ fun e he => ?_) hok.2.2.2.2.2.2.2.2.2⟩
  ·refine Nat.le_trans hr.2 ?_; rw [List.length_map]; unfold mxl; omega
  ·-- a key of the state is one of a move
   obtain ⟨e, he, rfl⟩ := List.mem_map.1 hk
   exact key_ok (fun c hc m hm => ((hl c (List.mem_of_mem_take hc)).2.2.2.2.2.2.2.2.2 m hm).1) e he
  ·rw [← hsame.2.2] at he
   obtain ⟨p, hp, rfl⟩ := mem_tfind he
   exact state_ok (P := okValue) (fun c hc m hm => ((hl c (List.mem_of_mem_take hc)).2.2.2.2.2.2.2.2.2 m hm).2.1) p hp
theorem unblk_ok {l : List CueD} (hl : OkC l) (hg : Good l) (a : Nat) : okL okCue (unblk l a) := by
 have hlen := hg.len
 unfold unblk
 cases hx : l[a]? with
 | none => exact ⟨by show l.length ≤ _; unfold mxl; omega, hl⟩
 | some x =>
  have hok := hl x (List.mem_of_getElem? hx)
  refine ⟨by simp only [List.length_set]; unfold mxl; omega, fun c hc => ?_⟩
  rcases List.mem_or_eq_of_mem_set hc with hc | rfl
  ·exact hl c hc
  refine ⟨hok.1, hok.2.1, hok.2.2.1, hok.2.2.2.1, hok.2.2.2.2.1, hok.2.2.2.2.2.1, hok.2.2.2.2.2.2.1, hok.2.2.2.2.2.2.2.1, ?_, fun m hm => hok.2.2.2.2.2.2.2.2.2 m ((List.mem_filter.1 hm).1)⟩
  have := List.length_filter_le (keepM (beforeF (l.take a))) x.moves
  have h2 := hok.2.2.2.2.2.2.2.2.1
  show (List.filter _ _).length ≤ _; omega
theorem clean_ok {l : List CueD} (hl : OkC l) (hlen : l.length ≤ mxl) (i : Nat) : okL okCue (cleanTo l i) := by
 refine ⟨by rw [cleanTo_len]; exact hlen, ?_⟩
 have key : ∀ i, OkC (cleanTo l i) := by
  intro i
  induction i with
  | zero => exact hl
  | succ i ih =>
   rw [cleanTo]
   split
   ·exact ih
   ·refine okC_set ih _ fun c hc => ?_
    have h := ih c hc
    refine ⟨?_, fun m hm => h.2.2.2.2.2.2.2.2.2 m ((List.mem_filter.1 hm).1)⟩
    have := List.length_filter_le (keepM (beforeF (l.take i))) c.moves
    have h2 := h.2.2.2.2.2.2.2.2.1
    omega
 exact key i
section
variable {σ0 σ : Heap} {R : HP}
theorem put_at2 {v : AV} {l : List CueD} {i : Nat} {x : CueD} (hi : l[i]? = some x) (m : MoveD) (hs : srtM x.moves) (hl : x.moves.length < 1000000) (H : Hs anyB σ0 σ (Sl CueE 11 v l * R)) :
  ∃ p σ', A.iaddr 11 v (.int .i64 (i : Int)) = some p ∧ m_cue_put [p, .agg (cMove m)] σ = some (.tup [], σ') ∧ Hs anyB σ0 σ' (Sl CueE 11 v (l.set i { x with moves := putM x.moves m }) * R) := by
 obtain ⟨p, F, e, h1, hC, K, back⟩ := sl_cell H hi
 obtain ⟨σ', e', h2, K2⟩ := put_s (m := m) hC K hs (by omega)
 exact ⟨p, σ', h1, h2, back K2⟩
theorem idle_at {v : AV} {l o : List CueD} {i : Nat} {x : CueD} (hl : l.length ≤ 1000) (hm : ∀ c ∈ l, c.moves.length ≤ 2000) (hx : o[i]? = some x) (hxm : x.moves.length ≤ 100000) (hz : ∀ m ∈ x.moves, m.release = true → m.value = ⟨0, 0⟩) (H : Hs anyB σ0 σ (Sl CueE 11 v o * R)) :
  ∃ p σ', A.iaddr 11 v (.int .i64 (i : Int)) = some p ∧ A.quiet (m_cue_state [sl 11 cCue l] σ) σ = some (fmS (stateF l)) ∧ m_cue_idle [p, fmS (stateF l)] σ = some (.tup [], σ') ∧ Hs anyB σ0 σ' (Sl CueE 11 v (o.set i { x with moves := x.moves.filter (keepM (beforeF l)) }) * R) := by
 obtain ⟨p, F, e, h1, hC, K, back⟩ := sl_cell H hx
 obtain ⟨σ', e', h2, K2⟩ := idle_s (stateF l) hC (by omega) K
 refine ⟨p, σ', h1, quiet_of (h_cue_state (state_t (by unfold mxl; omega) (fun c hc => by have := hm c hc; unfold mxl; omega))), h2, ?_⟩
 have e : x.moves.filter (fun m => !idleM (stateF l) m) = x.moves.filter (keepM (beforeF l)) := List.filter_congr fun m hm => idle_keep (same_state l) (hz m hm)
 rw [e] at K2
 exact back K2
theorem Clean_s {l : List CueD} (hl : okL okCue l) (σ : Heap) : m_cue_Clean [sl 11 cCue l] σ = some (.tup [sl 11 cCue (cleanRes l).1, .int .i64 (cleanRes l).2], σ) := by
 have run : ∃ b, r_cue_Clean (sl 11 cCue l) σ = some b ∧ b.2 = σ ∧ A.nn (.t [(.e 11 shCue), .k]) b.1 = .tup [sl 11 cCue (cleanRes l).1, .int .i64 (cleanRes l).2] := by
  unfold r_cue_Clean cleanRes
  rw [h_cue_form (form_t l hl), Option.bind_some, aNeI, Option.bind_some]
  by_cases hf : formF l = 0
  case neg =>
   rw [decide_eq_true hf, cnd_t, if_neg hf]
   exact ⟨_, fin_same _ _, rfl, nn_nil⟩
  have hg := good_of hf
  have hlen := hg.len
  rw [decide_eq_false (by simp [hf]), cnd_f, if_pos hf, hf]
  obtain ⟨v, s1, e1, K1⟩ := copied_s (small_of hg) (by unfold mxl; omega) (hs_nil (B := anyB) σ)
  rw [e1, Option.bind_some, sl_len K1, Option.bind_some]
  refine loop_k (Q := fun q => q.1 = .exit 0 ∧ Hs anyB σ q.2.2 (Sl CueE 11 v (cleanTo l l.length) * emp)) (loop_hs l (fun i w s => w = [.int .i64 (i : Int)] ∧ Hs anyB σ s (Sl CueE 11 v (cleanTo l i) * emp)) ?_ ?_ ⟨rfl, K1⟩) ?_
  ·rintro i x w s hx ⟨rfl, K⟩
   have hi := (List.getElem?_eq_some_iff.1 hx).1
   have hxo : (cleanTo l i)[i]? = some x := by rw [cleanTo_get l i i (Nat.le_refl i), hx]
   have hxm := (hg.mv x (List.mem_of_getElem? hx)).1
   obtain ⟨p, q, f1, f2, f3⟩ := block_at hxo K
   simp only [List.getD_cons_zero]
   rw [ix_lt hx, Option.bind_some, cnd_t, f1, Option.bind_some, f2, Option.bind_some, f3, Option.bind_some, show A.not (.bool x.block) = some (.bool (!x.block)) from rfl, Option.bind_some]
   cases hb : x.block
   ·obtain ⟨p', s2, g1, g2, g3, K2⟩ := idle_at (l := l.take i) (by simp; omega) (fun c hc => (hg.mv c (List.mem_of_mem_take hc)).1) hxo (by omega) (rel_zero hf x (List.mem_of_getElem? hx)) K
    rw [f1] at g1; injection g1 with g1; subst g1
    rw [show (!false) = true from rfl, cnd_t, Option.bind_some, show A.sliceS 11 (sl 11 cCue l) none (some (.int .i64 (i : Int))) s = some (sl 11 cCue (l.take i)) from sliceS_take 11 cCue l (Nat.le_of_lt hi), Option.bind_some, g2, Option.bind_some, g3, Option.bind_some, Option.bind_some, ix_inc hx hl.1, Option.bind_some]
    refine ⟨_, _, rfl, rfl, ?_⟩
    rw [cleanTo, hx, Option.any_some, hb, if_neg (by decide), setMv, hxo]
    exact K2
   ·rw [show (!true) = false from rfl, cnd_f, Option.bind_some, ix_inc hx hl.1, Option.bind_some]
    refine ⟨_, _, rfl, rfl, ?_⟩
    rw [cleanTo, hx, Option.any_some, hb, if_pos rfl]
    exact K
  ·rintro w s ⟨rfl, K⟩
   simp only [List.getD_cons_zero]
   rw [ix_end, Option.bind_some, cnd_f]
   exact ⟨_, rfl, by simp, rfl, K⟩
  ·rintro ⟨e, w, s⟩ ⟨h1, K⟩
   simp only at h1 K
   subst h1
   simp only [exb]
   obtain ⟨v', j1, j2⟩ := fin_ret (e := 0) (cues_weak K)
   exact ⟨_, j1, rfl, nn_ret j2⟩
 obtain ⟨⟨b, s⟩, h1, h2, h3⟩ := run
 simp only at h2 h3
 subst h2
 refine wrap_eq rfl ?_ h3
 rw [show A.nnL [Sh.e 11 [.k, .k, .k, .k, .k, .k, .k, .s 2, .k, .k, .s 8]] [sl 11 cCue l] = [sl 11 cCue l] from nn_arg1 l _]
 exact h1
theorem setBlk_get {l : List CueD} {a : Nat} {x : CueD} (hx : l[a]? = some x) (b : Bool) : (setBlk l a b)[a]? = some { x with block := b } := by
 rw [setBlk, hx, List.getElem?_set_self (List.getElem?_eq_some_iff.1 hx).1]
theorem Unblock_s {l : List CueD} (hl : okL okCue l) {n : Int} (hn : inI n) (σ : Heap) : m_cue_Unblock [sl 11 cCue l, .int .i64 n] σ = some (.tup [sl 11 cCue (unblockF l n).1, .int .i64 (unblockF l n).2], σ) := by
 have run : ∃ b, r_cue_Unblock (sl 11 cCue l) (.int .i64 n) σ = some b ∧ b.2 = σ ∧ A.nn (.t [(.e 11 shCue), .k]) b.1 = .tup [sl 11 cCue (unblockF l n).1, .int .i64 (unblockF l n).2] := by
  unfold r_cue_Unblock unblockF
  rw [h_cue_form (form_t l hl), Option.bind_some, aNeI, Option.bind_some]
  by_cases hf : formF l = 0
  case neg =>
   rw [decide_eq_true hf, cnd_t, if_pos hf]
   exact ⟨_, fin_same _ _, rfl, nn_nil⟩
  have hg := good_of hf
  have hlen := hg.len
  rw [decide_eq_false (by simp [hf]), cnd_f, if_neg (by simp [hf])]
  obtain ⟨p, e1, e2, e3⟩ := place_t hg hn σ
  rw [e1, Option.bind_some, ext0, Option.bind_some, ext1, Option.bind_some, show A.not (.bool (hasC l n)) = some (.bool (!hasC l n)) from rfl, Option.bind_some]
  cases hh : hasC l n
  ·rw [show (!false) = true from rfl, cnd_t, if_pos rfl]
   exact ⟨_, fin_same _ _, rfl, nn_nil⟩
  rw [show (!true) = false from rfl, cnd_f, if_neg (by decide)]
  have e4 := e3 (.inr hh)
  subst e4
  obtain ⟨x, hx, hxn⟩ := hasC_at hg hh
  generalize posC l n = a at hx ⊢
  have hal := (List.getElem?_eq_some_iff.1 hx).1
  have hxm := (hg.mv x (List.mem_of_getElem? hx)).1
  obtain ⟨v, s1, c1, K1⟩ := copied_s (small_of hg) (by unfold mxl; omega) (hs_nil (B := anyB) σ)
  obtain ⟨p, q, s2, c2, _, c3, c4, K2⟩ := flag_at hx false K1
  obtain ⟨p', s3, d1, d2, d3, K3⟩ := idle_at (l := l.take a) (by simp; omega) (fun c hc => (hg.mv c (List.mem_of_mem_take hc)).1) (setBlk_get hx false) (by show x.moves.length ≤ _; omega) (rel_zero hf x (List.mem_of_getElem? hx)) K2
  rw [c2] at d1; injection d1 with d1; subst d1
  rw [c1, Option.bind_some, c2, Option.bind_some, c3, Option.bind_some, show A.cell (.bool false) = some (.bool false) from rfl, Option.bind_some, Option.bind_some, c4, Option.bind_some, Option.bind_some, show A.sliceS 11 (sl 11 cCue l) none (some (.int .i64 (a : Int))) s2 = some (sl 11 cCue (l.take a)) from sliceS_take 11 cCue l (Nat.le_of_lt hal), Option.bind_some, d2, Option.bind_some, d3, Option.bind_some]
  have e : (setBlk l a false).set a { x with block := false, moves := x.moves.filter (keepM (beforeF (l.take a))) } = unblk l a := by
   rw [setBlk, unblk, hx]; simp only; rw [List.set_set]
  have K4 : Hs anyB σ s3 (Sl CueE 11 v (unblk l a) * emp) := by rw [← e]; exact K3
  obtain ⟨v', j1, j2⟩ := fin_ret (e := 0) (cues_weak K4)
  exact ⟨_, j1, rfl, nn_ret j2⟩
 obtain ⟨⟨b, s⟩, h1, h2, h3⟩ := run
 simp only at h2 h3
 subst h2
 refine wrap_eq rfl ?_ h3
 rw [show A.nnL [Sh.e 11 [.k, .k, .k, .k, .k, .k, .k, .s 2, .k, .k, .s 8]] [sl 11 cCue l, .int .i64 n] = [sl 11 cCue l, .int .i64 n] from nn_arg1 l _]
 exact h1
end
end Go.Proofs.Ytphgchakmkankaa

namespace Go.Proofs.Ytphgchakmkankaa
set_option linter.unusedSectionVars false
set_option linter.unusedVariables false
set_option linter.unusedSimpArgs false
open HP
section
variable {σ0 σ : Heap} {R : HP}
theorem fin_tupS {α : Type} {c : α → List AV} {sz : Nat} {B : Blk → Prop} {v : AV} {l : List α} {e : Int} (hc : ∀ x, FzL (c x)) (H : Hs B σ0 σ (Sl (fl c) sz v l * R)) : ∃ v', A.fin σ0 (.tup [v, .int .i64 e]) σ = some (.tup [v', .int .i64 e], σ0) ∧ A.nn (.s sz) v' = sl sz c l := by
 obtain ⟨v', h1, h2, h3⟩ := slf_fz H hc (Nat.le_refl _) 7
 refine ⟨v', fin_hs (hs_any H) (by simp [A.frz, A.frzL, h1]) (fun e => ?_), h3⟩
 rcases slf_cases H with ⟨rfl, rfl | rfl, _⟩ | ⟨id, g, rfl, K⟩
 ·simp [A.frz] at h1; rw [h1]
 ·simp [A.frz] at h1; rw [h1]
 ·obtain ⟨k1, k2⟩ := hs_get K
  have := (List.getElem?_eq_some_iff.1 k2).1
  subst e; omega
theorem nn_retS {α : Type} {c : α → List AV} {sz : Nat} {v : AV} {l : List α} {e : Int} (h : A.nn (.s sz) v = sl sz c l) : A.nn (.t [(.s sz), .k]) (.tup [v, .int .i64 e]) = .tup [sl sz c l, .int .i64 e] := by
 simp only [A.nn, A.nnL] at h ⊢
 rw [h]
def stateRes (l : List CueD) (n : Int) : List EntryD × Int :=
 if ¬ (formF l = 0) then ([], formF l) else if hasC l n = false then ([], 8) else (beforeF (l.take (posC l n + 1)), 0)
theorem State5_t {l : List CueD} (hl : okL okCue l) (n : Int) (σ : Heap) : m_R5_State [sl 11 cCue l, .int .i64 n] σ = some (.tup [sl 5 cEntry (stateRes l n).1, .int .i64 (stateRes l n).2], σ) := by
 have run : ∃ b, r_R5_State (sl 11 cCue l) (.int .i64 n) σ = some b ∧ b.2 = σ ∧ A.nn (.t [(.s 5), .k]) b.1 = .tup [sl 5 cEntry (stateRes l n).1, .int .i64 (stateRes l n).2] := by
  unfold r_R5_State stateRes
  rw [h_R5_CheckForm (CheckForm5_t l hl), Option.bind_some, aNeI, Option.bind_some]
  by_cases hf : formF l = 0
  case neg =>
   rw [decide_eq_true hf, cnd_t, if_pos hf]
   exact ⟨_, fin_same _ _, rfl, nn_retS rfl⟩
  have hg := good_of hf
  have hlen := hg.len
  rw [decide_eq_false (by simp [hf]), cnd_f, if_neg (by simp [hf])]
  rw [h_R5_At (At_t l (by unfold mxl; omega) n), At5_pos hg, Option.bind_some, tlss0, Option.bind_some]
  cases hh : hasC l n
  ·rw [if_neg (by decide), decide_eq_true (by decide), cnd_t, if_pos rfl]
   exact ⟨_, fin_same _ _, rfl, nn_retS rfl⟩
  rw [if_pos rfl, decide_eq_false (by omega), cnd_f, if_neg (by decide)]
  obtain ⟨x, hx, hxn⟩ := hasC_at hg hh
  generalize posC l n = a at hx ⊢
  have hal := (List.getElem?_eq_some_iff.1 hx).1
  obtain ⟨bv, s1, e1, K1⟩ := ks_at (B := anyB) (fun _ _ => trivial) (Before_s (l := l) (n := a + 1) (by omega) (by omega) (fun c hc => by have := (hg.mv c hc).1; omega)) (hs_nil (B := anyB) σ)
  simp only
  rw [tadd1 (by omega), Option.bind_some, e1, Option.bind_some]
  obtain ⟨v', j1, j2⟩ := fin_tupS (e := 0) fz_cEntry K1
  exact ⟨_, j1, rfl, nn_retS j2⟩
 obtain ⟨⟨b, s⟩, h1, h2, h3⟩ := run
 simp only at h2 h3
 subst h2
 refine wrap_eq rfl ?_ h3
 rw [show A.nnL [Sh.e 11 [.k, .k, .k, .k, .k, .k, .k, .s 2, .k, .k, .s 8]] [sl 11 cCue l, .int .i64 n] = [sl 11 cCue l, .int .i64 n] from nn_arg1 l _]
 exact h1
theorem beforeF_bound {l : List CueD} (hlen : l.length ≤ 300) (hm : ∀ c ∈ l, c.moves.length ≤ 2000) : srtE (beforeF l) ∧ (beforeF l).length ≤ 600000000 := by
 obtain ⟨b1, b2⟩ := before_inv (l := l) (fun c hc => by have := hm c hc; omega) 0 [] List.Pairwise.nil (Nat.zero_le _)
 exact ⟨b1, by unfold beforeF; omega⟩
theorem Block5_s {l : List CueD} (hl : okL okCue l) {n : Int} (σ : Heap) : m_R5_Block [sl 11 cCue l, .int .i64 n] σ = some (.tup [sl 11 cCue (blockF l n).1, .int .i64 (blockF l n).2], σ) := by
 have run : ∃ b, r_R5_Block (sl 11 cCue l) (.int .i64 n) σ = some b ∧ b.2 = σ ∧ A.nn (.t [(.e 11 shCue), .k]) b.1 = .tup [sl 11 cCue (blockF l n).1, .int .i64 (blockF l n).2] := by
  unfold r_R5_Block blockF
  rw [State5_t hl n σ, Option.bind_some, ext0, Option.bind_some, ext1, Option.bind_some, aNeI, Option.bind_some]
  unfold stateRes
  by_cases hf : formF l = 0
  case neg =>
   rw [if_pos hf, if_pos hf]
   simp only
   rw [decide_eq_true hf, cnd_t]
   exact ⟨_, fin_same _ _, rfl, nn_nil⟩
  have hg := good_of hf
  have hlen := hg.len
  have hff : ¬ ¬ (formF l = 0) := by simp [hf]
  simp only [if_neg hff]
  cases hh : hasC l n
  ·simp only [if_true]
   rw [decide_eq_true (by decide), cnd_t]
   exact ⟨_, fin_same _ _, rfl, nn_nil⟩
  simp only [Bool.true_eq_false, if_false]
  rw [decide_eq_false (by decide), cnd_f]
  obtain ⟨x, hx, hxn⟩ := hasC_at hg hh
  have hal := (List.getElem?_eq_some_iff.1 hx).1
  have hxm := hg.mv x (List.mem_of_getElem? hx)
  obtain ⟨v, s1, c1, K1⟩ := cloned_s (small_of hg) (by unfold mxl; omega) (hs_nil (B := anyB) σ)
  have hat := At5_own K1 hg n
  rw [hh, if_pos rfl] at hat
  have hoB := blkOn_ok hl.2 hg (posC l n)
  generalize posC l n = a at hx hal hat hoB ⊢
  obtain ⟨st, hst⟩ : ∃ st, st = beforeF (l.take (a + 1)) := ⟨_, rfl⟩
  obtain ⟨b1, b2⟩ := beforeF_bound (l := l.take (a + 1)) (by simp; omega) (fun c hc => (hg.mv c (List.mem_of_mem_take hc)).1)
  have hbd : blkOn l a = l.set a { x with block := true, moves := (st.map (·.key)).foldl (restP fun k => mvOf k (lookE st k)) x.moves } := by
   rw [blkOn, hx]; simp only; rw [← hst]
  rw [← hst] at b1 b2
  have hbu : beforeF (l.take (a + 1)) = st := hst.symm
  rw [c1, Option.bind_some, hat, Option.bind_some]
  obtain ⟨p, F, e, f1, hC, K, back⟩ := sl_cell K1 hx
  obtain ⟨vp, vm, he, K2⟩ := cueP (hs_eq (show _ = CueP (Sl (fl cMove) 8) e x * (F e * emp) by rw [show CueE e x = CueP (Sl (fl cMove) 8) e x from rfl]; ac_rfl) K)
  subst he
  obtain ⟨q, g1, _, g3⟩ := hC.fa 8
  obtain ⟨s2, e3, K3⟩ := g3 (hs_eq (show _ = F (cCueH x vp vm) * (Sl (fl cMove) 8 vm x.moves * (Sf cPoint 2 vp x.curve.points * emp)) by ac_rfl) K2) (new := [.bool true]) (e' := cCueH { x with block := true } vp vm) rfl
  have K5 := cueP_of (M := Sl (fl cMove) 8) (x := { x with block := true }) (e := cCueH { x with block := true } vp vm) (vp := vp) (vm := vm) (R := F (cCueH { x with block := true } vp vm) * emp) rfl (hs_eq (by ac_rfl) K3)
  have K6 : Hs anyB σ s2 (F (cCueH { x with block := true } vp vm) * (CueE (cCueH { x with block := true } vp vm) { x with block := true } * emp)) := hs_eq (by rw [show CueE (cCueH { x with block := true } vp vm) { x with block := true } = CueP (Sl (fl cMove) 8) (cCueH { x with block := true } vp vm) { x with block := true } from rfl]; ac_rfl) K5
  rw [f1, Option.bind_some, hC.nc, Option.bind_some, g1, Option.bind_some, show A.cell (.bool true) = some (.bool true) from rfl, Option.bind_some, Option.bind_some, e3, Option.bind_some, hbu, lenS_sl, Option.bind_some]
  refine loop_k (Q := fun q => q.1 = .exit 0 ∧ Hs anyB σ q.2.2 (Sl CueE 11 v (blkOn l a) * emp)) (loop_hs st (fun i w s => w = [.int .i64 (i : Int)] ∧ ∃ e', Hs anyB σ s (F e' * (CueE e' { x with block := true, moves := ((st.map (·.key)).take i).foldl (restP fun k => mvOf k (lookE st k)) x.moves } * emp))) ?_ ?_ ⟨rfl, _, K6⟩) ?_
  ·rintro i y w s hy ⟨rfl, e', K⟩
   have hi := (List.getElem?_eq_some_iff.1 hy).1
   have hyk : (st.map (·.key))[i]? = some y.key := by rw [List.getElem?_map, hy]; rfl
   obtain ⟨r1, r2⟩ := rest_fold (g := fun k => mvOf k (lookE st k)) ((st.map (·.key)).take i) hxm.2
   have r3 : (((st.map (·.key)).take i).foldl (restP fun k => mvOf k (lookE st k)) x.moves).length ≤ 2000 + i := by
    have := hxm.1
    simp at r2; omega
   simp only [List.getD_cons_zero]
   rw [ix_lt hy, Option.bind_some, cnd_t, ix_for hy, Option.bind_some]
   simp only [A.deref, Option.bind_some]
   obtain ⟨s', e'', g1, K2⟩ := restore5_t (x := { x with block := true, moves := ((st.map (·.key)).take i).foldl (restP fun k => mvOf k (lookE st k)) x.moves }) y.key hC r1 (Nat.lt_of_le_of_lt r3 (by omega)) b1 (by omega) K
   rw [show A.partA 0 5 (cEntry y) = some (.agg (cEntry y)) from rfl, Option.bind_some, show A.cells 5 (.agg (cEntry y)) = some (cEntry y) from rfl, Option.bind_some, sp_cEntry y _ rfl, Option.bind_some, show A.partA 0 2 (cEntry y) = some (.agg (cKey y.key)) from rfl, Option.bind_some, g1, Option.bind_some, ix_inc hy (by unfold mxl; omega), Option.bind_some]
   refine ⟨_, _, rfl, rfl, e'', ?_⟩
   rw [foldl_take _ _ _ hyk]
   exact K2
  ·rintro w s ⟨rfl, e', K⟩
   simp only [List.getD_cons_zero]
   rw [ix_end, Option.bind_some, cnd_f]
   rw [List.take_of_length_le (by simp)] at K
   refine ⟨_, rfl, by simp, rfl, ?_⟩
   rw [hbd]
   exact back K
  ·rintro ⟨e, w, s⟩ ⟨h1, K⟩
   simp only at h1 K
   subst h1
   simp only [exb]
   rw [shaped_own K hoB, Option.bind_some, ext0, Option.bind_some, ext1, Option.bind_some, doneF_pair]
   by_cases hq : formF (blkOn l a) = 0
   ·rw [if_pos hq, if_pos hq]
    obtain ⟨v', j1, j2⟩ := fin_ret (e := formF (blkOn l a)) (cues_weak K)
    exact ⟨_, j1, rfl, nn_ret j2⟩
   ·rw [if_neg hq, if_neg hq]
    exact ⟨_, fin_nil K, rfl, nn_nil⟩
 obtain ⟨⟨b, s⟩, h1, h2, h3⟩ := run
 simp only at h2 h3
 subst h2
 refine wrap_eq rfl ?_ h3
 rw [show A.nnL [Sh.e 11 [.k, .k, .k, .k, .k, .k, .k, .s 2, .k, .k, .s 8]] [sl 11 cCue l, .int .i64 n] = [sl 11 cCue l, .int .i64 n] from nn_arg1 l _]
 exact h1
end
end Go.Proofs.Ytphgchakmkankaa

namespace Go.Proofs.Ytphgchakmkankaa
set_option linter.unusedSectionVars false
set_option linter.unusedVariables false
set_option linter.unusedSimpArgs false
open HP
section
variable {σ0 σ : Heap} {R : HP}
theorem Block_s {l : List CueD} (hl : okL okCue l) {n : Int} (hn : inI n) (σ : Heap) : m_cue_Block [sl 11 cCue l, .int .i64 n] σ = some (.tup [sl 11 cCue (blockF l n).1, .int .i64 (blockF l n).2], σ) := by
 have run : r_cue_Block (sl 11 cCue l) (.int .i64 n) σ = some (.tup [sl 11 cCue (blockF l n).1, .int .i64 (blockF l n).2], σ) := by
  unfold r_cue_Block blockF
  rw [h_cue_form (form_t l hl), Option.bind_some, aNeI, Option.bind_some]
  by_cases hf : formF l = 0
  case neg =>
   rw [decide_eq_true hf, cnd_t, if_pos hf, fin_same, Option.map_some]; exact congrArg (fun z => some (z, σ)) nn_nil
  have hg := good_of hf
  have hlen := hg.len
  rw [decide_eq_false (by simp [hf]), cnd_f, if_neg (by simp [hf])]
  obtain ⟨p, e1, e2, e3⟩ := place_t hg hn σ
  rw [e1, Option.bind_some, ext0, Option.bind_some, ext1, Option.bind_some, show A.not (.bool (hasC l n)) = some (.bool (!hasC l n)) from rfl, Option.bind_some]
  cases hh : hasC l n
  ·rw [show (!false) = true from rfl, cnd_t, if_pos rfl, fin_same, Option.map_some]; exact congrArg (fun z => some (z, σ)) nn_nil
  rw [show (!true) = false from rfl, cnd_f, if_neg (by decide)]
  have e4 := e3 (.inr hh)
  subst e4
  obtain ⟨x, hx, hxn⟩ := hasC_at hg hh
  have hoB := blkOn_ok hl.2 hg (posC l n)
  generalize posC l n = a at hx hoB ⊢
  have hal := (List.getElem?_eq_some_iff.1 hx).1
  have hxm := hg.mv x (List.mem_of_getElem? hx)
  obtain ⟨v, s1, c1, K1⟩ := copied_s (small_of hg) (by unfold mxl; omega) (hs_nil (B := anyB) σ)
  obtain ⟨st, hst⟩ : ∃ st, st = stateF (l.take (a + 1)) := ⟨_, rfl⟩
  have hS : SameS st (beforeF (l.take (a + 1))) := hst ▸ same_state _
  have hsl : st.length ≤ 600000 := by
   have h1 := state_len (l := l.take (a + 1)) (fun c hc => (hg.mv c (List.mem_of_mem_take hc)).1)
   have h2 : (l.take (a + 1)).length ≤ 300 := by simp; omega
   rw [hst]
   exact Nat.le_trans h1 (Nat.mul_le_mul_right 2000 h2)
  have hcs : m_cue_state [sl 11 cCue (l.take (a + 1))] s1 = some (fmS st, s1) := by
   rw [hst]
   exact h_cue_state (state_t (by simp; unfold mxl; omega) (fun c hc => by have := (hg.mv c (List.mem_of_mem_take hc)).1; unfold mxl; omega))
  have hbd : blkOn l a = l.set a { x with block := true, moves := (st.map (·.1)).foldl (restP fun k => mvOf k (tfind k st)) x.moves } := by
   rw [blkOn, hx]
   simp only
   congr 2
   exact (rest_eq hxm.2 (fun k => mvOf_key _ _) (fun k => mvOf_key _ _) (hasM_keys hS) (fun k _ => by rw [hS.2.2])).symm
  rw [c1, Option.bind_some, tadd1 (by omega), Option.bind_some, show A.sliceS 11 (sl 11 cCue l) none (some (.int .i64 ((a + 1 : Nat) : Int))) s1 = some (sl 11 cCue (l.take (a + 1))) from sliceS_take 11 cCue l (by omega), Option.bind_some, hcs, Option.bind_some]
  rw [show A.rangeA (fmS st) = some (st.map encS) from rfl, Option.bind_some]
  simp only
  refine range_loop (α := KeyD × EntryD) (enc := encS) (it := s1.length) (es := st) _ _ (fun _ _ _ => rfl) (fun d lf w s => w = [] ∧ ∃ c, Hs anyB σ s (blk s1.length (.it c (lf.map encS)) * (Sl CueE 11 v (l.set a { x with moves := (d.map (·.1)).foldl (restP fun k => mvOf k (tfind k st)) x.moves }) * emp))) ?_ ?_ ?_ ?_
  ·rintro d lf w s ⟨rfl, c, K⟩
   exact ⟨c, (hs_get K).2⟩
  ·rintro d lf w s j p hp ⟨rfl, c, K⟩ hj
   have K' := hs_set (b' := .it [encS p] ((lf.eraseIdx j).map encS)) K trivial
   obtain ⟨_, hgt⟩ := hs_get K'
   obtain ⟨r1, r2⟩ := rest_fold (g := fun k => mvOf k (tfind k st)) (d.map (·.1)) hxm.2
   have hdl : d.length ≤ st.length := by have := hp.length_eq; simp at this; omega
   have r3 : ((d.map (·.1)).foldl (restP fun k => mvOf k (tfind k st)) x.moves).length < 1000000 := by
    have := hxm.1
    simp at r2; omega
   have hdp : ((d ++ [p]).map (·.1)).foldl (restP fun k => mvOf k (tfind k st)) x.moves = restP (fun k => mvOf k (tfind k st)) ((d.map (·.1)).foldl (restP fun k => mvOf k (tfind k st)) x.moves) p.1 := by
    rw [List.map_append, List.foldl_append]; rfl
   rw [hdp]
   generalize ((d.map (·.1)).foldl (restP fun k => mvOf k (tfind k st)) x.moves) = ms at K' r1 r3 ⊢
   generalize s.set s1.length (Blk.it [encS p] ((lf.eraseIdx j).map encS)) = s16 at K' hgt ⊢
   have K2 := hs_eq (show _ = Sl CueE 11 v (l.set a { x with moves := ms }) * (blk s1.length (.it [encS p] ((lf.eraseIdx j).map encS)) * emp) by ac_rfl) K'
   have ox : (l.set a { x with moves := ms })[a]? = some { x with moves := ms } := List.getElem?_set_self hal
   obtain ⟨pr, er, f1, f2, f3⟩ := row_at ox K2
   have hat : m_cue_moveAt [.agg er, .agg (cKey p.1)] s16 = some (.tup [.int .i64 (posM ms p.1 : Int), .bool (hasM ms p.1)], s16) :=
    lent (ain := [.a shCue]) (ts := [.agg (cCue { x with moves := ms }), .agg (cKey p.1)]) ⟨f3, lt_fz (fz_agg (fz_cKey p.1)) rfl, trivial⟩ (fun σ => moveAt_t r1 (by show ms.length < _; omega) p.1 σ) rfl
   have hent : A.entryA (.op s1.length 0) s16 = some (.tup [.agg (cKey p.1), .agg (cEntry p.2)]) := by simp only [A.entryA, hgt]; rfl
   unfold restP
   cases hh2 : hasM ms p.1
   ·obtain ⟨p', s', g1, g2, K3⟩ := put_at2 ox (mvOf p.1 (tfind p.1 st)) r1 r3 K2
    rw [f1] at g1; injection g1 with g1; subst g1
    rw [List.set_set] at K3
    refine ⟨[], s', fun k => ?_, rfl, _, hs_eq (by simp only [Bool.false_eq_true, if_false]; ac_rfl) K3⟩
    rw [hent, Option.bind_some, ext0, Option.bind_some, show A.cells 2 (.agg (cKey p.1)) = some (cKey p.1) from rfl, Option.bind_some, show A.splice 0 (cKey p.1) [(AV.int .i64 0), (AV.str ⟨#[]⟩)] = some (cKey p.1) from rfl, Option.bind_some, f1, Option.bind_some, f2, Option.bind_some, show A.partA 0 2 (cKey p.1) = some (.agg (cKey p.1)) from rfl, Option.bind_some, quiet_of hat, Option.bind_some, ext0, Option.bind_some, ext1, Option.bind_some, hh2, show A.not (.bool false) = some (.bool true) from rfl, Option.bind_some, cnd_t, Option.bind_some, Option.bind_some]
    rw [show A.quiet (m_cue_move [fmS st, .agg (cKey p.1)] s16) s16 = some (.agg (cMove (mvOf p.1 (tfind p.1 st)))) from quiet_of (h_cue_move (move_t st p.1)), Option.bind_some, g2, Option.bind_some, Option.bind_some]
   ·refine ⟨[], s16, fun k => ?_, rfl, _, hs_eq (by simp only [if_true]; ac_rfl) K2⟩
    rw [hent, Option.bind_some, ext0, Option.bind_some, show A.cells 2 (.agg (cKey p.1)) = some (cKey p.1) from rfl, Option.bind_some, show A.splice 0 (cKey p.1) [(AV.int .i64 0), (AV.str ⟨#[]⟩)] = some (cKey p.1) from rfl, Option.bind_some, f1, Option.bind_some, f2, Option.bind_some, show A.partA 0 2 (cKey p.1) = some (.agg (cKey p.1)) from rfl, Option.bind_some, quiet_of hat, Option.bind_some, ext0, Option.bind_some, ext1, Option.bind_some, hh2, show A.not (.bool true) = some (.bool false) from rfl, Option.bind_some, cnd_f, Option.bind_some]
  ·rintro d w s hp ⟨rfl, c, K⟩
   have hde : (d.map (·.1)).foldl (restP fun k => mvOf k (tfind k st)) x.moves = (st.map (·.1)).foldl (restP fun k => mvOf k (tfind k st)) x.moves :=
    rest_eq hxm.2 (fun k => mvOf_key _ _) (fun k => mvOf_key _ _) (fun k => (hp.map (·.1)).mem_iff) (fun k _ => rfl)
   rw [hde] at K
   have K2 := hs_drop K
   simp only [exb]
   obtain ⟨p, q, s', f1, _, f2, f3, K3⟩ := flag_at (x := { x with moves := (st.map (·.1)).foldl (restP fun k => mvOf k (tfind k st)) x.moves }) (List.getElem?_set_self hal) true K2
   have e : setBlk (l.set a { x with moves := (st.map (·.1)).foldl (restP fun k => mvOf k (tfind k st)) x.moves }) a true = blkOn l a := by
    rw [hbd, setBlk, List.getElem?_set_self hal]; simp only; rw [List.set_set]
   rw [e] at K3
   rw [f1, Option.bind_some, f2, Option.bind_some, show A.cell (.bool true) = some (.bool true) from rfl, Option.bind_some, Option.bind_some, f3, Option.bind_some, done_own K3 hoB, Option.bind_some, ext0, Option.bind_some, ext1, Option.bind_some, doneF_pair]
   by_cases hq : formF (blkOn l a) = 0
   ·rw [if_pos hq, if_pos hq]
    obtain ⟨v', j1, j2⟩ := fin_ret (e := formF (blkOn l a)) (cues_weak K3)
    rw [j1, Option.map_some]
    exact congrArg (fun z => some (z, σ)) (nn_ret j2)
   ·rw [if_neg hq, if_neg hq, fin_nil K3, Option.map_some]
    exact congrArg (fun z => some (z, σ)) nn_nil
  ·have K2 := hs_new (b := Blk.it [] (st.map encS)) K1 trivial
   refine ⟨rfl, [], ?_⟩
   rw [List.map_nil, List.foldl_nil, show ({ x with moves := x.moves } : CueD) = x from rfl, set_same hx]
   exact K2
 refine wrap_eq rfl ?_ nn_two
 rw [show A.nnL [Sh.e 11 [.k, .k, .k, .k, .k, .k, .k, .s 2, .k, .k, .s 8]] [sl 11 cCue l, .int .i64 n] = [sl 11 cCue l, .int .i64 n] from nn_arg1 l _]
 exact run
theorem Unblock5_s {l : List CueD} (hl : okL okCue l) {n : Int} (σ : Heap) : m_R5_Unblock [sl 11 cCue l, .int .i64 n] σ = some (.tup [sl 11 cCue (unblockF l n).1, .int .i64 (unblockF l n).2], σ) := by
 have run : ∃ b, r_R5_Unblock (sl 11 cCue l) (.int .i64 n) σ = some b ∧ b.2 = σ ∧ A.nn (.t [(.e 11 shCue), .k]) b.1 = .tup [sl 11 cCue (unblockF l n).1, .int .i64 (unblockF l n).2] := by
  unfold r_R5_Unblock unblockF
  rw [h_R5_CheckForm (CheckForm5_t l hl), Option.bind_some, aNeI, Option.bind_some]
  by_cases hf : formF l = 0
  case neg =>
   rw [decide_eq_true hf, cnd_t, if_pos hf]
   exact ⟨_, fin_same _ _, rfl, nn_nil⟩
  have hg := good_of hf
  have hlen := hg.len
  rw [decide_eq_false (by simp [hf]), cnd_f, if_neg (by simp [hf])]
  rw [h_R5_At (At_t l (by unfold mxl; omega) n), At5_pos hg, Option.bind_some, tlss0, Option.bind_some]
  cases hh : hasC l n
  ·rw [if_neg (by decide), decide_eq_true (by decide), cnd_t, if_pos rfl]
   exact ⟨_, fin_same _ _, rfl, nn_nil⟩
  rw [if_pos rfl, decide_eq_false (by omega), cnd_f, if_neg (by decide)]
  obtain ⟨x, hx, hxn⟩ := hasC_at hg hh
  generalize posC l n = a at hx ⊢
  have hal := (List.getElem?_eq_some_iff.1 hx).1
  have hxm := (hg.mv x (List.mem_of_getElem? hx)).1
  obtain ⟨v, s1, c1, K1⟩ := cloned_s (small_of hg) (by unfold mxl; omega) (hs_nil (B := anyB) σ)
  obtain ⟨p, q, s2, c2, _, c3, c4, K2⟩ := flag_at hx false K1
  obtain ⟨p', e, nv, s4, q', s5, d1, d2, d4, d5, d6, d7, K3⟩ := clean_at (l := l) (by omega) (fun c hc => by have := (hg.mv c hc).1; omega) (Nat.le_of_lt hal) (setBlk_get hx false) (by show x.moves.length ≤ _; omega) K2
  rw [c2] at d1; injection d1 with d1; subst d1
  simp only
  rw [c1, Option.bind_some, c2, Option.bind_some, c3, Option.bind_some, show A.cell (.bool false) = some (.bool false) from rfl, Option.bind_some, Option.bind_some, c4, Option.bind_some, Option.bind_some, d2, Option.bind_some, BeforeF (l := l) (by omega) (fun c hc => by have := (hg.mv c hc).1; omega) (Nat.le_of_lt hal) s2, Option.bind_some, d4, Option.bind_some, Option.bind_some, d5, Option.bind_some]
  simp only
  rw [d6, Option.bind_some, Option.bind_some, d7, Option.bind_some]
  have e2 : (setBlk l a false).set a { x with block := false, moves := x.moves.filter (keepM (beforeF (l.take a))) } = unblk l a := by
   rw [setBlk, unblk, hx]; simp only; rw [List.set_set]
  have K4 : Hs anyB σ s5 (Sl CueE 11 v (unblk l a) * emp) := by rw [← e2]; exact K3
  obtain ⟨v', j1, j2⟩ := fin_ret (e := 0) (cues_weak K4)
  exact ⟨_, j1, rfl, nn_ret j2⟩
 obtain ⟨⟨b, s⟩, h1, h2, h3⟩ := run
 simp only at h2 h3
 subst h2
 refine wrap_eq rfl ?_ h3
 rw [show A.nnL [Sh.e 11 [.k, .k, .k, .k, .k, .k, .k, .s 2, .k, .k, .s 8]] [sl 11 cCue l, .int .i64 n] = [sl 11 cCue l, .int .i64 n] from nn_arg1 l _]
 exact h1
end
end Go.Proofs.Ytphgchakmkankaa

namespace Go.Proofs.Ytphgchakmkankaa
set_option linter.unusedSectionVars false
set_option linter.unusedVariables false
set_option linter.unusedSimpArgs false
theorem eqSelf {α : Type} {l : List α} {body : Nat → α → Unit → Option (Lr Unit Unit Unit)} {K : Unit → Option Bool} (hl : l.length ≤ mxl) (hb : ∀ i x, l[i]? = some x → body i x () = some (.go ())) : forE l body (fun s => some ()) () (fun _ => some true) K = some true := by
 rw [forE_find (p := fun _ => false) (r := fun _ => ()) hl (fun i x hx => by rw [hb i x hx]; rfl)]
 have : l.find? (fun _ => false) = none := by simp
 rw [this]
theorem EqualP_t (l : List PointD) (hl : l.length ≤ mxl) : t_slices_Equal_api_Point l l = some true := by
 unfold t_slices_Equal_api_Point
 simp only [not_true_eq_false, if_false]
 refine eqSelf hl fun i x hx => ?_
 rw [tIx_get (x := x) (by omega) (by simpa using hx)]
 simp
theorem EqualM_t (l : List MoveD) (hl : l.length ≤ mxl) : t_slices_Equal_api_Move l l = some true := by
 unfold t_slices_Equal_api_Move
 simp only [not_true_eq_false, if_false]
 refine eqSelf hl fun i x hx => ?_
 rw [tIx_get (x := x) (by omega) (by simpa using hx)]
 simp
theorem sameCue_t (c : CueD) (h : okCue c) : t_W5_sameCue c c = some true := by
 unfold t_W5_sameCue
 have h1 : c.curve.points.length ≤ mxl := h.2.2.2.2.2.2.1.2.1
 have h2 : c.moves.length ≤ mxl := h.2.2.2.2.2.2.2.2.1
 simp only [decide_true, Bool.and_self, if_true, EqualP_t _ h1, EqualM_t _ h2, Option.bind_some]
theorem sameList_t (l : List CueD) (hl : okL okCue l) (σ : Heap) : m_W5_sameList [sl 11 cCue l, sl 11 cCue l] σ = some (.bool true, σ) := by
 have hd : ∀ x ∈ l, A.tab (fun _ _ => none) [(201, m_W5_sameCue)] 201 [.agg (cCue x), .agg (cCue x)] σ = some (.bool true, σ) := fun x hx => h_W5_sameCue (sameCue_t x (hl.2 x hx))
 have key : m_slices_EqualFunc_api_Cue (A.tab (fun _ _ => none) [(201, m_W5_sameCue)]) [sl 11 cCue l, sl 11 cCue l, .fn 201 []] σ = some (.bool true, σ) := by
  refine wrap_eq rfl ?_ rfl
  show r_slices_EqualFunc_api_Cue _ (sl 11 cCue l) (sl 11 cCue l) (.fn 201 []) σ = _
  unfold r_slices_EqualFunc_api_Cue
  rw [lenS_sl, Option.bind_some, Option.bind_some, aNe, Option.bind_some, decide_eq_false (by simp)]
  show ((A.loop _ _ _).bind _) = _
  have hloop : ∀ (pre rest : List CueD), l = pre ++ rest → ∃ n, A.iter (fun v5 s6 =>
    (A.lss (v5.getD 1 AV.undef) (.int .i64 (l.length : Int))).bind fun x8 =>
    A.cond x8 (
     (A.iaddr 11 (sl 11 cCue l) (v5.getD 1 AV.undef)).bind fun x9 =>
     ((A.deref x9 s6).bind fun c10 => A.partA 0 11 c10).bind fun x11 =>
     (A.cells 11 x11).bind fun c12 =>
     (A.splice 0 c12 [(AV.int .i64 0), (AV.str ⟨#[]⟩), (AV.int .i64 0), (AV.int .i64 0), (AV.int .i64 0), (AV.int .i64 0), (AV.int .i64 0), AV.nsl, (AV.bool false), (AV.int .i64 0), AV.nsl]).bind fun c13 =>
     (A.iaddr 11 (sl 11 cCue l) (v5.getD 1 AV.undef)).bind fun x14 =>
     ((A.deref x14 s6).bind fun c15 => A.partA 0 11 c15).bind fun x16 =>
     (A.cells 11 x16).bind fun c17 =>
     (A.splice 0 c17 [(AV.int .i64 0), (AV.str ⟨#[]⟩), (AV.int .i64 0), (AV.int .i64 0), (AV.int .i64 0), (AV.int .i64 0), (AV.int .i64 0), AV.nsl, (AV.bool false), (AV.int .i64 0), AV.nsl]).bind fun c18 =>
     (A.partA 0 11 c13).bind fun x19 =>
     (A.partA 0 11 c18).bind fun x20 =>
     (A.callv (A.tab (fun _ _ => none) [(201, m_W5_sameCue)]) (.fn 201 []) [x19, x20] s6).bind fun r21 =>
     (A.not r21.1).bind fun x22 =>
     A.cond x22 (
      some (AX.ret, [(AV.bool false), (v5.getD 1 AV.undef)], r21.2)) (
      (A.add (v5.getD 1 AV.undef) (AV.int .i64 1)).bind fun x23 =>
      some (AX.normal, [(v5.getD 0 AV.undef), x23], r21.2))) (
     some (AX.exit 0, [(v5.getD 0 AV.undef), (v5.getD 1 AV.undef)], s6))) n [.bool false, .int .i64 (pre.length : Int)] σ = some (.exit 0, [.bool false, .int .i64 (l.length : Int)], σ) := by
   intro pre rest
   induction rest generalizing pre with
   | nil =>
    intro h
    rw [List.append_nil] at h
    subst h
    refine loop_done ?_ (by simp)
    simp only [List.getD_cons_zero, List.getD_cons_succ]
    rw [ix_end]; rfl
   | cons x rest ih =>
    intro h
    have hx : l[pre.length]? = some x := by rw [h]; simp
    have hdx := hd x (List.mem_of_getElem? hx)
    refine loop_step (σ' := σ) (v' := [.bool false, .int .i64 ((pre.length + 1 : Nat) : Int)]) ?_ ?_
    ·simp only [List.getD_cons_zero, List.getD_cons_succ]
     rw [ix_lt hx, Option.bind_some]
     show ((A.iaddr 11 (sl 11 cCue l) (.int .i64 (pre.length : Int))).bind _) = _
     rw [ix_for hx, Option.bind_some]
     have hsp : A.splice 0 (cCue x) [(AV.int .i64 0), (AV.str ⟨#[]⟩), (AV.int .i64 0), (AV.int .i64 0), (AV.int .i64 0), (AV.int .i64 0), (AV.int .i64 0), AV.nsl, (AV.bool false), (AV.int .i64 0), AV.nsl] = some (cCue x) := sp_cCue _ _ rfl
     simp only [A.deref, Option.bind_some, pA_cCue, ce_cCue, hsp, ix_for hx, A.callv, List.append_nil]
     rw [hdx, Option.bind_some, show A.not (.bool true) = some (.bool false) from rfl, Option.bind_some]
     simp only [A.cond, cond_false]
     rw [ix_inc hx hl.1]; rfl
    ·have := ih (pre ++ [x]) (by rw [h]; simp)
     rwa [List.length_append, List.length_singleton] at this
  obtain ⟨n, hn⟩ := hloop [] l rfl
  rw [List.length_nil] at hn
  erw [loop_of_iter hn]
  exact fin_same _ _
 refine wrap_eq rfl ?_ rfl
 rw [show A.nnL [Sh.e 11 [.k, .k, .k, .k, .k, .k, .k, .s 2, .k, .k, .s 8], Sh.e 11 [.k, .k, .k, .k, .k, .k, .k, .s 2, .k, .k, .s 8]] [sl 11 cCue l, sl 11 cCue l] = [sl 11 cCue l, sl 11 cCue l] from nn_t1 (nn_e (fun _ => rfl) _) (nn_t1 (nn_e (fun _ => rfl) _) nn_t0)]
 show r_W5_sameList (sl 11 cCue l) (sl 11 cCue l) σ = _
 unfold r_W5_sameList
 rw [key, Option.bind_some]
 exact fin_same _ _
end Go.Proofs.Ytphgchakmkankaa

namespace Go.Proofs.Ytphgchakmkankaa
set_option linter.unusedSectionVars false
set_option linter.unusedSimpArgs false
set_option linter.unusedVariables false
theorem okL_none : okL okCue [] := ⟨Nat.zero_le _, by simp⟩
end Go.Proofs.Ytphgchakmkankaa

namespace Go.Proofs.Ytphgchakmkankaa
set_option linter.unusedSectionVars false
set_option linter.unusedSimpArgs false
set_option linter.unusedVariables false
theorem blockF_ok {l : List CueD} (hl : okL okCue l) (n : Int) : okL okCue (blockF l n).1 := by
 unfold blockF
 split
 ·exact okL_none
 rename_i hz
 split
 ·exact okL_none
 rw [doneF_pair]
 simp only
 split
 ·exact blkOn_ok hl.2 (good_of (Decidable.not_not.1 hz)) _
 ·exact okL_none
theorem unblockF_ok {l : List CueD} (hl : okL okCue l) (n : Int) : okL okCue (unblockF l n).1 := by
 unfold unblockF
 split
 ·exact okL_none
 rename_i hz
 split
 ·exact okL_none
 exact unblk_ok hl.2 (good_of (Decidable.not_not.1 hz)) _
theorem cleanRes_ok {l : List CueD} (hl : okL okCue l) : okL okCue (cleanRes l).1 := by
 unfold cleanRes
 simp only
 split
 ·exact clean_ok hl.2 hl.1 _
 ·exact okL_none
theorem h_W5_CueCleansMatchSpec {l : List CueD} {n : Int} {σ : Heap} (h : okL okCue l ∧ inI n) : m_W5_CueCleansMatchSpec [sl 11 cCue l, .int .i64 n] σ = some (.bool true, σ) := by
 obtain ⟨hl, hn⟩ := h
 have hc5 : m_R5_Clean [sl 11 cCue l] σ = some (.tup [sl 11 cCue (cleanRes l).1, .int .i64 (cleanRes l).2], σ) := Clean5_s hl σ
 have run : r_W5_CueCleansMatchSpec (sl 11 cCue l) (.int .i64 n) σ = some (.bool true, σ) := by
  unfold r_W5_CueCleansMatchSpec
  rw [Clean_s hl σ, Option.bind_some, ext0, Option.bind_some, ext1, Option.bind_some, hc5, Option.bind_some, ext0, Option.bind_some, ext1, Option.bind_some, sameList_t _ (cleanRes_ok hl) σ, Option.bind_some]
  simp only [show A.not (.bool true) = some (.bool false) from rfl, Option.bind_some, A.guard, beq_self_eq_true, cond_true, A.pick, cond_false, aNe, Bool.not_eq_true]
  simp only [not_true_eq_false, decide_false, A.cond, cond_false]
  rw [Block_s hl hn σ, Option.bind_some, ext0, Option.bind_some, ext1, Option.bind_some, Block5_s hl σ, Option.bind_some, ext0, Option.bind_some, ext1, Option.bind_some, sameList_t _ (blockF_ok hl n) σ, Option.bind_some]
  simp only [show A.not (.bool true) = some (.bool false) from rfl, Option.bind_some, A.guard, beq_self_eq_true, cond_true, A.pick, cond_false, aNe, Bool.not_eq_true]
  simp only [not_true_eq_false, decide_false, A.cond, cond_false]
  rw [Unblock_s hl hn σ, Option.bind_some, ext0, Option.bind_some, ext1, Option.bind_some, Unblock5_s hl σ, Option.bind_some, ext0, Option.bind_some, ext1, Option.bind_some, sameList_t _ (unblockF_ok hl n) σ, Option.bind_some]
  simp only [A.guard, beq_self_eq_true, cond_true, Option.bind_some, A.pick]
  rw [aEq]
  simp only [decide_true, Option.bind_some]
  exact fin_same _ _
 refine wrap_eq rfl ?_ rfl
 rw [show A.nnL [Sh.e 11 [.k, .k, .k, .k, .k, .k, .k, .s 2, .k, .k, .s 8]] [sl 11 cCue l, .int .i64 n] = [sl 11 cCue l, .int .i64 n] from nn_arg1 l _]
 exact run
theorem cueCleansMatchSpec_true (l : List CueD) (n : Int) (hl : okL okCue l) (hn : inI n) : okL okCue l ∧ inI n := ⟨hl, hn⟩
end Go.Proofs.Ytphgchakmkankaa

namespace Go.Proofs.Ytphgchakmkankaa
set_option linter.unusedSectionVars false
set_option linter.unusedSimpArgs false
set_option linter.unusedVariables false
noncomputable def nmT : List Nat := [0, 0, 0, 302, 307, 310, 312, 322, 323, 324, 325, 326, 283, 284, 202, 222, 303, 304, 305, 224, 306, 308, 309, 252, 300, 92, 311, 321, 320, 313, 299, 159, 314, 315, 316, 142, 178, 14, 13, 179, 192, 282, 134, 169, 4, 194, 196, 195, 253, 197, 219, 198, 201, 182, 221, 203, 212, 240, 186, 251, 213, 298, 277, 214, 141, 272, 183, 218, 188, 273, 133, 275, 239, 143, 228, 236, 233, 249, 227, 90, 86, 91, 318, 206, 158, 180, 0, 271, 140, 1, 72, 125, 126, 176, 177, 89, 130, 131, 193, 181, 93, 250, 199, 200, 220, 204, 211, 184, 185, 59, 0, 217, 187, 132, 207, 223, 238, 139, 70, 3, 65, 225, 232, 235, 234, 226, 0, 297, 0, 258, 0, 0, 191, 205, 58, 216, 81, 5, 0, 210, 69, 71, 73, 2, 138, 66, 231, 229, 0, 259, 261, 0, 266, 267, 268, 269, 270, 256, 257, 0, 190, 215, 80, 209, 63, 67, 68, 64, 230, 286, 288, 0, 292, 293, 294, 295, 296, 260, 262, 0, 265, 264, 0, 189, 208, 62, 287, 291, 290, 263, 60, 61, 289, 0, 0, 0, 0, 0, 0, 0, 0, 0, 0, 0, 0, 0, 0, 0, 0]
end Go.Proofs.Ytphgchakmkankaa

namespace Go.Proofs.Ytphgchakmkankaa
set_option linter.unusedSectionVars false
set_option linter.unusedSimpArgs false
open Go.RowKit
set_option linter.unusedVariables false
theorem ACalls.same {P : Program} {nm : List Nat} {f : FuncId} {args : List AV} {σ : Heap} {r : AV} (hc : ∀ us w, (callFunc f us).run P w = .ok (.enter f us) w)
  (h : ∀ (c : RC) (vs : Array Value) (w : World), RepL c args vs.toList → Calls P f vs w fun e w' => ∃ v, e = .returned v ∧ Below w.heap.size w w' ∧ ∀ c', Rep c' r v) : ACalls P nm f args σ r σ := by
 refine .inl ⟨f, hc, fun z vs e1 e2 hh ha => (h _ vs z.w ha).mono ?_⟩
 rintro e w' ⟨v, k1, k2, k3⟩
 have ho : Out z z.w z.E := ⟨rfl, rfl, rfl, Nat.le_refl _, fun _ _ _ => rfl, fun i p hp => .inr ⟨p, hp, rfl⟩, fun i p hp => ⟨p, hp, .inl rfl⟩, e2, fun p hp => hh.lt hp⟩
 exact ⟨v, z.E, k1, ho.grow k2, hh.mono (grow_ext k2) rfl (fun p hp => k2.block _ (hh.lt hp)), k3 _⟩
theorem repL1 {c : RC} {a : AV} {vs : Array Value} (h : RepL c [a] vs.toList) : ∃ v, vs = #[v] ∧ Rep c a v := by
 simp only [RepL] at h
 obtain ⟨v, vs', e, h1, e2⟩ := h
 refine ⟨v, ?_, h1⟩
 subst e2
 cases vs; simp at e; simp [e]
theorem repL2 {c : RC} {a b : AV} {vs : Array Value} (h : RepL c [a, b] vs.toList) : ∃ v u, vs = #[v, u] ∧ Rep c a v ∧ Rep c b u := by
 simp only [RepL] at h
 obtain ⟨v, vs', e, h1, u, vs2, e2, h2, e3⟩ := h
 refine ⟨v, u, ?_, h1, h2⟩
 subst e3; subst e2
 cases vs; simp at e; simp [e]
theorem s_strings_Compare : Sound Try.prog nmT 130 m_strings_Compare := by
 intro args σ r σ' h
 unfold m_strings_Compare A.ar2 at h
 split at h
 ·simp only at h
  split at h
  ·simp only [Option.some.injEq, Prod.mk.injEq] at h
   obtain ⟨rfl, rfl⟩ := h
   refine ACalls.same Try.call130 fun c vs w hr => ?_
   obtain ⟨v, u, rfl, h1, h2⟩ := repL2 hr
   simp only [Rep] at h1 h2
   subst h1 h2
   refine (Try.strings_Compare _ _ w).mono ?_
   rintro e w' ⟨rfl, rfl⟩
   exact ⟨_, rfl, Below.refl _ _, fun c' => by simp [Rep]⟩
  ·cases h
 ·cases h
end Go.Proofs.Ytphgchakmkankaa

namespace Go.Proofs.Ytphgchakmkankaa
set_option linter.unusedSectionVars false
set_option linter.unusedSimpArgs false
open Go.RowKit
set_option maxRecDepth 100000
set_option linter.unusedVariables false
theorem clone_sound {P : Program} {nm : List Nat} {f : FuncId} {m0 : List AV → Heap → Option (AV × Heap)} (h0 : Sound P nm f m0) (hc : ∀ us w, (callFunc f us).run P w = .ok (.enter f us) w)
  (hz : ∀ a cap w, Calls P f #[.slice a 0 cap] w fun e w' => ∃ q, e = .returned (.slice q 0 0) ∧ Below w.heap.size w w') : Sound P nm f (A.cloneZ m0) := by
 intro args σ r σ' h
 unfold A.cloneZ at h
 split at h
 ·simp only [Option.some.injEq, Prod.mk.injEq] at h
  obtain ⟨rfl, rfl⟩ := h
  refine ACalls.same hc fun c vs w hr => ?_
  obtain ⟨v, rfl, h1⟩ := repL1 hr
  simp only [Rep] at h1
  obtain ⟨a, cap, rfl, _⟩ := h1
  refine (hz _ _ w).mono ?_
  rintro e w' ⟨q, rfl, hb⟩
  exact ⟨_, rfl, hb, fun c' => by simp [Rep]⟩
 ·simp only [Option.some.injEq, Prod.mk.injEq] at h
  obtain ⟨rfl, rfl⟩ := h
  refine ACalls.same hc fun c vs w hr => ?_
  obtain ⟨v, rfl, h1⟩ := repL1 hr
  simp only [Rep] at h1
  subst h1
  refine (hz _ _ w).mono ?_
  rintro e w' ⟨q, rfl, hb⟩
  exact ⟨_, rfl, hb, fun c' => by simp [Rep]⟩
 ·simp only [Option.some.injEq, Prod.mk.injEq] at h
  obtain ⟨rfl, rfl⟩ := h
  refine ACalls.same hc fun c vs w hr => ?_
  obtain ⟨v, rfl, h1⟩ := repL1 hr
  simp only [Rep] at h1
  obtain ⟨a, rfl⟩ := h1
  refine (hz _ _ w).mono ?_
  rintro e w' ⟨q, rfl, hb⟩
  exact ⟨_, rfl, hb, fun c' => by simp [Rep]⟩
 ·exact h0 _ _ _ _ h
theorem nil_run {P : Program} {t e : TypeId} (ht : P.underlying t = some (.slice e)) (a : Option Addr) (n m : Nat) (w : World) : Sem.run P (binOp .eql t (.slice a n m) (.slice none 0 0)) w = .ok (.bool a.isNone) w := by
 simp [binOp, show (Op.equal t (.slice a n m) (.slice none 0 0)).run P w = .ok a.isNone w from sl_nil w 9999 t a n m ht]
theorem cz_Entry (a : Option Addr) (cap : Nat) (w : World) : Calls Try.prog 83 #[.slice a 0 cap] w fun e w' => ∃ q, e = .returned (.slice q 0 0) ∧ Below w.heap.size w w' := by
 go_enter Try.func83, Try.ntmps83
 cases a
 ·go_wp2_with (simp only [nil_run (Try.underlying60), Option.isNone_none, Result.andThen_ok])
  go_ret
  exact ⟨_, rfl, Below.refl _ _⟩
 ·go_wp2_with (simp only [nil_run (Try.underlying60), Option.isNone_some, Result.andThen_ok])
  go_ret
  exact ⟨_, rfl, (Below.refl _ _).alloc (Nat.le_refl _) _⟩
theorem cz_Move (a : Option Addr) (cap : Nat) (w : World) : Calls Try.prog 99 #[.slice a 0 cap] w fun e w' => ∃ q, e = .returned (.slice q 0 0) ∧ Below w.heap.size w w' := by
 go_enter Try.func99, Try.ntmps99
 cases a
 ·go_wp2_with (simp only [nil_run (Try.underlying31), Option.isNone_none, Result.andThen_ok])
  go_ret
  exact ⟨_, rfl, Below.refl _ _⟩
 ·go_wp2_with (simp only [nil_run (Try.underlying31), Option.isNone_some, Result.andThen_ok])
  go_ret
  exact ⟨_, rfl, (Below.refl _ _).alloc (Nat.le_refl _) _⟩
theorem cz_Point (a : Option Addr) (cap : Nat) (w : World) : Calls Try.prog 85 #[.slice a 0 cap] w fun e w' => ∃ q, e = .returned (.slice q 0 0) ∧ Below w.heap.size w w' := by
 go_enter Try.func85, Try.ntmps85
 cases a
 ·go_wp2_with (simp only [nil_run (Try.underlying40), Option.isNone_none, Result.andThen_ok])
  go_ret
  exact ⟨_, rfl, Below.refl _ _⟩
 ·go_wp2_with (simp only [nil_run (Try.underlying40), Option.isNone_some, Result.andThen_ok])
  go_ret
  exact ⟨_, rfl, (Below.refl _ _).alloc (Nat.le_refl _) _⟩
theorem cz_Cue (a : Option Addr) (cap : Nat) (w : World) : Calls Try.prog 98 #[.slice a 0 cap] w fun e w' => ∃ q, e = .returned (.slice q 0 0) ∧ Below w.heap.size w w' := by
 go_enter Try.func98, Try.ntmps98
 cases a
 ·go_wp2_with (simp only [nil_run (Try.underlying22), Option.isNone_none, Result.andThen_ok])
  go_ret
  exact ⟨_, rfl, Below.refl _ _⟩
 ·go_wp2_with (simp only [nil_run (Try.underlying22), Option.isNone_some, Result.andThen_ok])
  go_ret
  exact ⟨_, rfl, (Below.refl _ _).alloc (Nat.le_refl _) _⟩
end Go.Proofs.Ytphgchakmkankaa

namespace Go.Proofs.Ytphgchakmkankaa
set_option linter.unusedSectionVars false
set_option maxRecDepth 100000
open Go.RowKit
set_option linter.unusedVariables false
set_option linter.unusedSimpArgs false
theorem overlaps_own {P : Program} (w : World) (tS tR e : TypeId) (ht : P.underlying tS = some (.slice e)) (size : Nat) (hz : ∀ w, (Go.sizeOf e).run P w = .ok size w)
  (a b : Addr) (la ca lb cb : Nat) (hne : a.block ≠ b.block) (arr arr' : Array Value) (tA tB : TypeId) (fz : Nat × Nat)
  (ha : w.heap[a.block]? = some (.cells arr tA fz)) (hs : 0 < arr.size) (hb : w.heap[b.block]? = some (.cells arr' tB (0, 0))) :
  (Extern.SlicesOverlaps.overlaps #[tS, tS] #[tR] #[.slice (some a) la ca, .slice (some b) lb cb]).run P w = .ok (.bool false) w := by
 have hnb : (a.block != b.block) = true := by simpa using hne
 have hnb' : (a.block == b.block) = false := by simpa using hne
 have hsa : w.shape? a.block = some (tA, arr.size) := by simp [World.shape?, ha]
 have hsb : w.shape? b.block = some (tB, arr'.size) := by simp [World.shape?, hb]
 have hfb : w.frozen? b = false := by simp [World.frozen?, hb]
 have hfb' : w.frozen? { block := b.block, off := arr'.size } = false := by simp [World.frozen?, hb]
 delta Extern.SlicesOverlaps.overlaps Extern.SlicesOverlaps.overlaps.match_4 Extern.SlicesOverlaps.overlaps._sparseCasesOn_4
 dsimp [Array.getLit, Array.casesOn]
 obtain ⟨k, hk⟩ : ∃ k, arr.size = k + 1 := ⟨arr.size - 1, by omega⟩
 rw [hk] at hsa
 by_cases h0 : la = 0 ∨ lb = 0 ∨ size = 0
 ·simp [run_underlying ht, hz, h0]
 ·cases hfa : w.frozen? a <;> cases hfe : w.frozen? { block := a.block, off := k + 1 } <;> simp [run_underlying ht, hz, h0, hnb, hnb', frozen, noView, viewAt, mayBeOne, stringish, shape, Sem.run, hsa, hsb, hfa, hfe, hfb, hfb']
theorem cells_in {w : World} {b off : Nat} {v : Value} (h : w.cell? ⟨b, off, none⟩ = some v) : ∃ arr t fz, w.heap[b]? = some (.cells arr t fz) ∧ 0 < arr.size := by
 unfold World.cell? at h
 simp only at h
 split at h
 ·rename_i arr t fz hh
  refine ⟨arr, t, fz, hh, ?_⟩
  simp only [Option.isSome_none, Bool.false_eq_true, if_false] at h
  have := (Array.getElem?_eq_some_iff.1 h).1
  omega
 ·cases h
theorem overlaps_sound {P : Program} {nm : List Nat} {f : FuncId} {fn : Func} {tS tR e : TypeId} {i : TypeInfo} (hf : P.funcs[f]? = some fn) (h1 : (fn.name == "runtime.NumGoroutine") = false) (h2 : fn.body.isNone = true) (h3 : Extern.findNext fn = none)
  (h4 : Extern.find fn = some (Extern.SlicesOverlaps.overlaps #[tS, tS] #[tR])) (ht : P.underlying tS = some (.slice e)) (hi : P.info? e = some i) : Sound P nm f m_slices_overlaps := by
 intro args σ r σ' h
 unfold m_slices_overlaps A.ar2 at h
 split at h
 ·simp only at h
  split at h
  ·rename_i sz es id g sz' off len
   split at h
   ·rename_i hg0 ss es' hs
    split at h
    ·rename_i hc
     obtain ⟨hne, rfl, hes, hl⟩ := hc
     simp only [Option.some.injEq, Prod.mk.injEq] at h
     obtain ⟨rfl, rfl⟩ := h
     refine .inr fun z vs e1 e2 hh ha => ?_
     obtain ⟨v, u, rfl, r1, r2⟩ := repL2 ha
     simp only [Rep] at r1 r2
     obtain ⟨a, cap, rfl, hcap, hsz0, r1⟩ := r1
     obtain ⟨b, off0, rfl, hb, hX, r1⟩ := r1.resolve_left hne
     obtain ⟨hg, p, k1, k2, a', cap', rfl, hcap', rx⟩ := r2
     obtain ⟨j1, j2, j3, j4, ⟨arr, bt, j5, j6⟩, j7, j8, j9⟩ := hh.blk id p _ k1 hs
     obtain ⟨q1, q2, q3⟩ := rx j1.symm
     have hsz : ∀ w, (Go.sizeOf e).run P w = .ok i.size w := fun w => by simp [sizeOf, run_typeInfo' w hi]
     have ha' : a' = ⟨p.b, p.base + off * p.sz, none⟩ := q2.resolve_left (by omega)
     have hpb : b ≠ p.b := fun k => hX (.inr (.inl ⟨p, List.mem_of_getElem? k1, k.symm⟩))
     have hw5 : z.w.heap[p.b]? = some (.cells arr bt (0, 0)) := j5
     have hcell : ∃ v, z.w.cell? ⟨b, off0, none⟩ = some v := by
      cases es with
      | nil => exact absurd rfl hne
      | cons x xs =>
       simp only [RepEs] at r1
       obtain ⟨l1, l2, _⟩ := r1
       cases x with
       | nil => simp at l1; omega
       | cons y ys => simp only [RepCs] at l2; obtain ⟨⟨v, l3, _⟩, _⟩ := l2; exact ⟨v, l3⟩
     obtain ⟨v, hv⟩ := hcell
     obtain ⟨arr0, t0, fz0, m1, m2⟩ := cells_in hv
     have hrun := overlaps_own (P := P) z.w tS tR e ht i.size hsz ⟨b, off0, none⟩ a' es.length cap len cap' (by rw [ha']; exact hpb) arr0 arr t0 bt fz0 m1 m2 (by rw [ha']; exact hw5)
     refine ⟨.bool false, z.w, z.E, ?_, ⟨rfl, rfl, rfl, Nat.le_refl _, fun _ _ _ => rfl, fun i p hp => .inr ⟨p, hp, rfl⟩, fun i p hp => ⟨p, hp, .inl rfl⟩, e2, fun p hp => hh.lt hp⟩, hh, by simp [Rep]⟩
     rw [run_callFunc_extern hf h1 h2 h3 h4, hrun]; rfl
    ·cases h
   ·cases h
  ·cases h
 ·cases h
theorem s_slices_overlaps_api_Move_ : Sound Try.prog nmT 131 m_slices_overlaps := overlaps_sound Try.func131 (by kernel_rfl) (by kernel_rfl) (by kernel_rfl) (tS := 31) (tR := 4) (by kernel_rfl) (e := 66) (by kernel_rfl) rfl
theorem s_slices_overlaps_api_Entry_ : Sound Try.prog nmT 138 m_slices_overlaps := overlaps_sound Try.func138 (by kernel_rfl) (by kernel_rfl) (by kernel_rfl) (tS := 60) (tR := 4) (by kernel_rfl) (e := 70) (by kernel_rfl) rfl
end Go.Proofs.Ytphgchakmkankaa

namespace Go.Proofs.Ytphgchakmkankaa
set_option linter.unusedSectionVars false
set_option maxRecDepth 100000
set_option linter.unusedVariables false
set_option linter.unusedSimpArgs false
noncomputable def x_word_Within : Fx := ⟨Try.prog, nmT, A.tab (fun _ _ => none) [], (fun _ _ _ => none), [], [], 15, []⟩
theorem w_word_Within : Sound Try.prog nmT 89 (A.wrap true [] .k (A.ar3 (r_word_Within))) :=
 Sound.wrap (Sound.run3 (X := x_word_Within) (fn := Try.f89) (ann := (.s .n (.s .n .n))) .F trivial (Snd.of rfl All.nil (fun _ => Sound.none)) Try.func89 Try.call89 (fun a0 a1 a2 σ => by kernel_rfl)) _ _ _ rfl rfl
theorem s_word_Within : Sound Try.prog nmT 89 m_word_Within := w_word_Within
noncomputable def x_word_Title : Fx := ⟨Try.prog, nmT, A.tab (fun _ _ => none) [], (fun _ _ _ => none), [], [], 40, []⟩
theorem w_word_Title : Sound Try.prog nmT 90 (A.wrap true [] .k (A.ar1 (r_word_Title))) :=
 Sound.wrap (Sound.run1 (X := x_word_Title) (fn := Try.f90) (ann := (.s .n (.s (.s .n (.b (.l [2, 6] [.exit 0, .ret] (.s .n (.s (.j .n .n) (.s (.b (.s .n (.s .n (.j (.s .n .n) .n)))) .n)))))) (.s .n .n)))) .F trivial (Snd.of rfl All.nil (fun _ => Sound.none)) Try.func90 Try.call90 (fun a0 σ => by kernel_rfl)) _ _ _ rfl rfl
theorem s_word_Title : Sound Try.prog nmT 90 m_word_Title := w_word_Title
noncomputable def x_cue_isTime : Fx := ⟨Try.prog, nmT, A.tab (fun _ _ => none) [(89, m_word_Within)], (fun _ _ _ => none), [], [], 5, []⟩
theorem w_cue_isTime : Sound Try.prog nmT 91 (A.wrap true [] .k (A.ar1 (r_cue_isTime))) :=
 Sound.wrap (Sound.run1 (X := x_cue_isTime) (fn := Try.f91) (ann := (.s .n (.s .n .n))) .F trivial (Snd.of rfl (All.cons s_word_Within All.nil) (fun _ => Sound.none)) Try.func91 Try.call91 (fun a0 σ => by kernel_rfl)) _ _ _ rfl rfl
theorem s_cue_isTime : Sound Try.prog nmT 91 m_cue_isTime := w_cue_isTime
noncomputable def x_word_When : Fx := ⟨Try.prog, nmT, A.tab (fun _ _ => none) [], (fun _ _ _ => none), [], [], 7, []⟩
theorem w_word_When : Sound Try.prog nmT 38 (A.wrap true [] .k (A.ar2 (r_word_When))) :=
 Sound.wrap (Sound.run2 (X := x_word_When) (fn := Try.f38) (ann := (.s .n (.s (.s .n (.j (.s .n .n) .n)) (.s .n .n)))) .F trivial (Snd.of rfl All.nil (fun _ => Sound.none)) Try.func38 Try.call38 (fun a0 a1 σ => by kernel_rfl)) _ _ _ rfl rfl
theorem s_word_When : Sound Try.prog nmT 38 m_word_When := w_word_When
noncomputable def x_level_CheckCurve : Fx := ⟨Try.prog, nmT, A.tab (fun _ _ => none) [(89, m_word_Within), (38, m_word_When)], (fun _ _ _ => none), [1, 5], [], 90, []⟩
theorem w_level_CheckCurve : Sound Try.prog nmT 92 (A.wrap true [(.a [.k, (.s 2)])] .k (A.ar1 (r_level_CheckCurve))) :=
 Sound.wrap (Sound.run1 (X := x_level_CheckCurve) (fn := Try.f92) (ann := (.s .n (.s (.s .n (.j (.s .n .n) .n)) (.s .n (.s (.s .n (.j (.s .n .n) .n)) (.s (.s .n (.j (.s .n .n) .n)) (.s (.s .n (.j (.s .n .n) .n)) (.s (.s .n (.b (.l [2, 28] [.exit 0, .ret] (.s .n (.s (.j .n .n) (.s (.b (.s .n (.s .n (.j (.s .n .n) .n)))) .n)))))) (.s (.s .n (.j (.s .n .n) .n)) (.s (.s .n (.b (.l [2, 6] [.exit 2, .ret] (.s (.s .n (.j .n .n)) (.s (.b (.s .n (.j (.s .n .n) .n))) .n))))) (.s .n .n))))))))))) .F trivial (Snd.of rfl (All.cons s_word_Within (All.cons s_word_When All.nil)) (fun _ => Sound.none)) Try.func92 Try.call92 (fun a0 σ => by kernel_rfl)) _ _ _ rfl rfl
theorem s_level_CheckCurve : Sound Try.prog nmT 92 m_level_CheckCurve := w_level_CheckCurve
noncomputable def x_word_Row : Fx := ⟨Try.prog, nmT, A.tab (fun _ _ => none) [], (fun _ _ _ => none), [], [], 35, []⟩
theorem w_word_Row : Sound Try.prog nmT 134 (A.wrap true [] .k (A.ar1 (r_word_Row))) :=
 Sound.wrap (Sound.run1 (X := x_word_Row) (fn := Try.f134) (ann := (.s .n (.s (.s .n (.b (.l [2, 7] [.exit 0, .ret] (.s .n (.s (.j .n .n) (.s (.b (.s .n (.s .n (.s .n (.j (.s .n .n) .n))))) .n)))))) (.s .n .n)))) .F trivial (Snd.of rfl All.nil (fun _ => Sound.none)) Try.func134 Try.call134 (fun a0 σ => by kernel_rfl)) _ _ _ rfl rfl
theorem s_word_Row : Sound Try.prog nmT 134 m_word_Row := w_word_Row
noncomputable def x_word_Name : Fx := ⟨Try.prog, nmT, A.tab (fun _ _ => none) [(134, m_word_Row)], (fun _ _ _ => none), [], [], 20, []⟩
theorem w_word_Name : Sound Try.prog nmT 109 (A.wrap true [] .k (A.ar1 (r_word_Name))) :=
 Sound.wrap (Sound.run1 (X := x_word_Name) (fn := Try.f109) (ann := (.s .n (.s .n .n))) .F trivial (Snd.of rfl (All.cons s_word_Row All.nil) (fun _ => Sound.none)) Try.func109 Try.call109 (fun a0 σ => by kernel_rfl)) _ _ _ rfl rfl
theorem s_word_Name : Sound Try.prog nmT 109 m_word_Name := w_word_Name
noncomputable def x_cue_compare : Fx := ⟨Try.prog, nmT, A.tab (fun _ _ => none) [(130, m_strings_Compare)], (fun _ _ _ => none), [2, 3], [], 20, []⟩
theorem w_cue_compare : Sound Try.prog nmT 88 (A.wrap true [] .k (A.ar2 (r_cue_compare))) :=
 Sound.wrap (Sound.run2 (X := x_cue_compare) (fn := Try.f88) (ann := (.s .n (.s (.s .n (.j (.s (.s .n (.j (.s .n .n) .n)) (.s .n .n)) .n)) (.s .n .n)))) .F trivial (Snd.of rfl (All.cons s_strings_Compare All.nil) (fun _ => Sound.none)) Try.func88 Try.call88 (fun a0 a1 σ => by kernel_rfl)) _ _ _ rfl rfl
theorem s_cue_compare : Sound Try.prog nmT 88 m_cue_compare := w_cue_compare
noncomputable def x_cue_checkMoves : Fx := ⟨Try.prog, nmT, A.tab (fun _ _ => none) [(89, m_word_Within), (109, m_word_Name), (91, m_cue_isTime), (88, m_cue_compare)], (fun _ _ _ => none), [4], [], 99, []⟩
theorem w_cue_checkMoves : Sound Try.prog nmT 64 (A.wrap true [(.s 8)] .k (A.ar1 (r_cue_checkMoves))) :=
 Sound.wrap (Sound.run1 (X := x_cue_checkMoves) (fn := Try.f64) (ann := (.s .n (.s (.s .n (.b (.l [2, 7] [.exit 0, .ret] (.s .n (.s (.j .n .n) (.s (.b (.s .n (.b (.s .n (.j (.s .n .n) (.s .n (.j (.s .n .n) (.s .n (.j (.s .n .n) (.s .n (.j (.s .n .n) (.s .n (.j (.s .n .n) (.s .n (.j (.s .n .n) (.s .n (.j (.s .n .n) .n))))))))))))))))) .n)))))) (.s .n .n)))) .F trivial (Snd.of rfl (All.cons s_word_Within (All.cons s_word_Name (All.cons s_cue_isTime (All.cons s_cue_compare All.nil)))) (fun _ => Sound.none)) Try.func64 Try.call64 (fun a0 σ => by kernel_rfl)) _ _ _ rfl rfl
theorem s_cue_checkMoves : Sound Try.prog nmT 64 m_cue_checkMoves := w_cue_checkMoves
noncomputable def x_cue_form : Fx := ⟨Try.prog, nmT, A.tab (fun _ _ => none) [(89, m_word_Within), (90, m_word_Title), (91, m_cue_isTime), (92, m_level_CheckCurve), (64, m_cue_checkMoves), (38, m_word_When)], (fun _ _ _ => none), [5], [], 101, []⟩
theorem w_cue_form : Sound Try.prog nmT 35 (A.wrap true [(.e 11 [.k, .k, .k, .k, .k, .k, .k, (.s 2), .k, .k, (.s 8)])] .k (A.ar1 (r_cue_form))) :=
 Sound.wrap (Sound.run1 (X := x_cue_form) (fn := Try.f35) (ann := (.s .n (.s (.s .n (.j (.s .n .n) .n)) (.s .n (.s (.s .n (.b (.l [2, 3, 13] [.exit 0, .ret] (.s .n (.s (.j .n .n) (.s (.b (.s .n (.s (.b (.s .n (.j (.s .n .n) (.s .n (.j (.s .n .n) (.s .n (.j (.s .n .n) (.s .n (.j (.s .n .n) .n))))))))) (.s (.s .n (.s .n (.j (.s .n .n) .n))) (.s (.s .n (.j (.s .n .n) .n)) (.s (.s .n (.s .n (.j (.s .n .n) .n))) .n)))))) .n)))))) (.s .n .n)))))) .F trivial (Snd.of rfl (All.cons s_word_Within (All.cons s_word_Title (All.cons s_cue_isTime (All.cons s_level_CheckCurve (All.cons s_cue_checkMoves (All.cons s_word_When All.nil)))))) (fun _ => Sound.none)) Try.func35 Try.call35 (fun a0 σ => by kernel_rfl)) _ _ _ rfl rfl
theorem s_cue_form : Sound Try.prog nmT 35 m_cue_form := w_cue_form
noncomputable def x_slices_Clone_api_Point : Fx := ⟨Try.prog, nmT, A.tab (fun _ _ => none) [], (fun _ _ _ => none), [], [], 8, []⟩
theorem w_slices_Clone_api_Point : Sound Try.prog nmT 85 (A.wrap true [(.s 2)] .k (A.ar1 (r_slices_Clone_api_Point))) :=
 Sound.wrap (Sound.run1 (X := x_slices_Clone_api_Point) (fn := Try.f85) (ann := (.s .n (.s (.s .n (.j (.s .n .n) .n)) (.s .n .n)))) .K trivial (Snd.of rfl All.nil (fun _ => Sound.none)) Try.func85 Try.call85 (fun a0 σ => by kernel_rfl)) _ _ _ rfl rfl
theorem s_slices_Clone_api_Point : Sound Try.prog nmT 85 m_slices_Clone_api_Point := clone_sound w_slices_Clone_api_Point Try.call85 cz_Point
noncomputable def x_slices_Clone_api_Move : Fx := ⟨Try.prog, nmT, A.tab (fun _ _ => none) [], (fun _ _ _ => none), [], [], 8, []⟩
theorem w_slices_Clone_api_Move : Sound Try.prog nmT 99 (A.wrap true [(.s 8)] .k (A.ar1 (r_slices_Clone_api_Move))) :=
 Sound.wrap (Sound.run1 (X := x_slices_Clone_api_Move) (fn := Try.f99) (ann := (.s .n (.s (.s .n (.j (.s .n .n) .n)) (.s .n .n)))) .K trivial (Snd.of rfl All.nil (fun _ => Sound.none)) Try.func99 Try.call99 (fun a0 σ => by kernel_rfl)) _ _ _ rfl rfl
theorem s_slices_Clone_api_Move : Sound Try.prog nmT 99 m_slices_Clone_api_Move := clone_sound w_slices_Clone_api_Move Try.call99 cz_Move
noncomputable def x_cue_copied : Fx := ⟨Try.prog, nmT, A.tab (fun _ _ => none) [(85, m_slices_Clone_api_Point), (99, m_slices_Clone_api_Move)], (fun _ _ _ => none), [5], [], 28, []⟩
theorem w_cue_copied : Sound Try.prog nmT 53 (A.wrap true [(.e 11 [.k, .k, .k, .k, .k, .k, .k, (.s 2), .k, .k, (.s 8)])] .k (A.ar1 (r_cue_copied))) :=
 Sound.wrap (Sound.run1 (X := x_cue_copied) (fn := Try.f53) (ann := (.s .n (.s .n (.s (.s .n (.b (.l [3, 8] [.exit 0] (.s .n (.s (.j .n .n) (.s (.b (.s .n (.s .n (.s .n .n)))) .n)))))) (.s .n .n))))) .K trivial (Snd.of rfl (All.cons s_slices_Clone_api_Point (All.cons s_slices_Clone_api_Move All.nil)) (fun _ => Sound.none)) Try.func53 Try.call53 (fun a0 σ => by kernel_rfl)) _ _ _ rfl rfl
theorem s_cue_copied : Sound Try.prog nmT 53 m_cue_copied := w_cue_copied
noncomputable def x_cue_state : Fx := ⟨Try.prog, nmT, A.tab (fun _ _ => none) [], (fun _ _ _ => none), [5, 7], [], 40, []⟩
theorem w_cue_state : Sound Try.prog nmT 55 (A.wrap true [(.e 11 [.k, .k, .k, .k, .k, .k, .k, (.s 2), .k, .k, (.s 8)])] .k (A.ar1 (r_cue_state))) :=
 Sound.wrap (Sound.run1 (X := x_cue_state) (fn := Try.f55) (ann := (.s .n (.s .n (.s (.s .n (.b (.l [11] [.exit 0] (.s .n (.s (.j .n .n) (.s (.b (.s .n (.s .n (.b (.l [5, 18] [.exit 2] (.s .n (.s (.j .n .n) (.s (.b (.s .n (.s .n (.c [5] .n .n)))) .n)))))))) .n)))))) (.s .n .n))))) .F trivial (Snd.of rfl All.nil (fun _ => Sound.none)) Try.func55 Try.call55 (fun a0 σ => by kernel_rfl)) _ _ _ rfl rfl
theorem s_cue_state : Sound Try.prog nmT 55 m_cue_state := w_cue_state
noncomputable def x_slices_IndexFunc_api_Move (dyn : Nat → List AV → Heap → Option (AV × Heap)) : Fx := ⟨Try.prog, nmT, A.tab (fun _ _ => none) [], dyn, [], [], 19, []⟩
theorem w_slices_IndexFunc_api_Move (dyn : Nat → List AV → Heap → Option (AV × Heap)) (hd : ∀ f, Sound Try.prog nmT f (dyn (nmT.getD f 0))) : Sound Try.prog nmT 133 (A.wrap true [(.s 8)] .k (A.ar2 (r_slices_IndexFunc_api_Move dyn))) :=
 Sound.wrap (Sound.run2 (X := x_slices_IndexFunc_api_Move dyn) (fn := Try.f133) (ann := (.s .n (.s (.s .n (.b (.l [4, 8] [.exit 0, .ret] (.s .n (.s (.j .n .n) (.s (.b (.s .n (.s .n (.j (.s .n .n) .n)))) .n)))))) (.s .n .n)))) .F trivial (Snd.of rfl All.nil (hd)) Try.func133 Try.call133 (fun a0 a1 σ => by kernel_rfl)) _ _ _ rfl rfl
theorem s_slices_IndexFunc_api_Move (dyn : Nat → List AV → Heap → Option (AV × Heap)) (hd : ∀ f, Sound Try.prog nmT f (dyn (nmT.getD f 0))) : Sound Try.prog nmT 133 (m_slices_IndexFunc_api_Move dyn) := w_slices_IndexFunc_api_Move dyn hd
noncomputable def x_slices_DeleteFunc_api_Move (dyn : Nat → List AV → Heap → Option (AV × Heap)) : Fx := ⟨Try.prog, nmT, A.tab (fun _ _ => none) [(133, m_slices_IndexFunc_api_Move dyn)], dyn, [7], [], 42, []⟩
theorem w_slices_DeleteFunc_api_Move (dyn : Nat → List AV → Heap → Option (AV × Heap)) (hd : ∀ f, Sound Try.prog nmT f (dyn (nmT.getD f 0))) : Sound Try.prog nmT 104 (A.wrap false [] .k (A.ar2 (r_slices_DeleteFunc_api_Move dyn))) :=
 Sound.wrap (Sound.run2 (X := x_slices_DeleteFunc_api_Move dyn) (fn := Try.f104) (ann := (.s .n (.s .n (.s (.s .n (.j (.s .n .n) .n)) (.s (.s .n (.b (.l [5, 6] [.exit 0] (.s (.s .n (.j .n .n)) (.s (.b (.s .n (.s .n (.c [5] (.s .n .n) .n)))) .n))))) (.s .n (.s .n .n))))))) .R trivial (Snd.of rfl (All.cons (s_slices_IndexFunc_api_Move dyn hd) All.nil) (hd)) Try.func104 Try.call104 (fun a0 a1 σ => by kernel_rfl)) _ _ _ rfl rfl
theorem s_slices_DeleteFunc_api_Move (dyn : Nat → List AV → Heap → Option (AV × Heap)) (hd : ∀ f, Sound Try.prog nmT f (dyn (nmT.getD f 0))) : Sound Try.prog nmT 104 (m_slices_DeleteFunc_api_Move dyn) := w_slices_DeleteFunc_api_Move dyn hd
noncomputable def x_cue_idle_fn1 : Fx := ⟨Try.prog, nmT, A.tab (fun _ _ => none) [], (fun _ _ _ => none), [2, 4], [], 39, []⟩
theorem w_cue_idle_fn1 : Sound Try.prog nmT 105 (A.wrap true [] .k (A.ar2 (r_cue_idle_fn1))) :=
 Sound.wrap (Sound.run2 (X := x_cue_idle_fn1) (fn := Try.f105) (ann := (.s .n (.s .n (.s .n .n)))) .F trivial (Snd.of rfl All.nil (fun _ => Sound.none)) Try.func105 Try.call105 (fun a0 a1 σ => by kernel_rfl)) _ _ _ rfl rfl
theorem s_cue_idle_fn1 : Sound Try.prog nmT 105 m_cue_idle_fn1 := w_cue_idle_fn1
noncomputable def x_cue_idle : Fx := ⟨Try.prog, nmT, A.tab (fun _ _ => none) [(104, m_slices_DeleteFunc_api_Move (A.tab (fun _ _ => none) [(204, m_cue_idle_fn1), (204, m_cue_idle_fn1)]))], (A.tab (fun _ _ => none) [(204, m_cue_idle_fn1), (204, m_cue_idle_fn1)]), [], [], 13, []⟩
theorem w_cue_idle : Sound Try.prog nmT 54 (A.wrap false [] .k (A.ar2 (r_cue_idle))) :=
 Sound.wrap (Sound.run2 (X := x_cue_idle) (fn := Try.f54) (ann := (.s .n .n)) .K trivial (Snd.of rfl (All.cons (s_slices_DeleteFunc_api_Move _ (dyn_of (DAll.cons (nm_sound s_cue_idle_fn1 (by kernel_rfl) rfl) (DAll.cons (nm_sound s_cue_idle_fn1 (by kernel_rfl) rfl) DAll.nil)))) All.nil) (dyn_of (DAll.cons (nm_sound s_cue_idle_fn1 (by kernel_rfl) rfl) (DAll.cons (nm_sound s_cue_idle_fn1 (by kernel_rfl) rfl) DAll.nil)))) Try.func54 Try.call54 (fun a0 a1 σ => by kernel_rfl)) _ _ _ rfl rfl
theorem s_cue_idle : Sound Try.prog nmT 54 m_cue_idle := w_cue_idle
noncomputable def x_cue_Clean : Fx := ⟨Try.prog, nmT, A.tab (fun _ _ => none) [(35, m_cue_form), (53, m_cue_copied), (55, m_cue_state), (54, m_cue_idle)], (fun _ _ _ => none), [], [], 35, [54]⟩
theorem w_cue_Clean : Sound Try.prog nmT 15 (A.wrap true [(.e 11 [.k, .k, .k, .k, .k, .k, .k, (.s 2), .k, .k, (.s 8)])] (.t [(.e 11 [.k, .k, .k, .k, .k, .k, .k, (.s 2), .k, .k, (.s 8)]), .k]) (A.ar1 (r_cue_Clean))) :=
 Sound.wrap (Sound.run1 (X := x_cue_Clean) (fn := Try.f15) (ann := (.s .n (.s (.s .n (.s .n (.j (.s .n .n) .n))) (.s .n (.s (.s .n (.b (.l [16] [.exit 0] (.s .n (.s (.j .n .n) (.s (.b (.s .n (.s .n (.c [] .n .n)))) .n)))))) (.s .n .n)))))) .F trivial (Snd.of rfl (All.cons s_cue_form (All.cons s_cue_copied (All.cons s_cue_state (All.cons s_cue_idle All.nil)))) (fun _ => Sound.none)) Try.func15 Try.call15 (fun a0 σ => by kernel_rfl)) _ _ _ rfl rfl
theorem s_cue_Clean : Sound Try.prog nmT 15 m_cue_Clean := w_cue_Clean
noncomputable def x_R1_Within : Fx := ⟨Try.prog, nmT, A.tab (fun _ _ => none) [], (fun _ _ _ => none), [], [], 15, []⟩
theorem w_R1_Within : Sound Try.prog nmT 44 (A.wrap true [] .k (A.ar3 (r_R1_Within))) :=
 Sound.wrap (Sound.run3 (X := x_R1_Within) (fn := Try.f44) (ann := (.s .n (.s .n .n))) .F trivial (Snd.of rfl All.nil (fun _ => Sound.none)) Try.func44 Try.call44 (fun a0 a1 a2 σ => by kernel_rfl)) _ _ _ rfl rfl
theorem s_R1_Within : Sound Try.prog nmT 44 m_R1_Within := w_R1_Within
noncomputable def x_R1_IsTitle : Fx := ⟨Try.prog, nmT, A.tab (fun _ _ => none) [], (fun _ _ _ => none), [], [], 40, []⟩
theorem w_R1_IsTitle : Sound Try.prog nmT 95 (A.wrap true [] .k (A.ar1 (r_R1_IsTitle))) :=
 Sound.wrap (Sound.run1 (X := x_R1_IsTitle) (fn := Try.f95) (ann := (.s .n (.s (.s .n (.j (.s .n .n) .n)) (.s (.s .n (.b (.l [2, 26] [.exit 0, .ret] (.s .n (.s (.j .n .n) (.s (.b (.s .n (.s .n (.j (.s .n .n) .n)))) .n)))))) (.s .n .n))))) .F trivial (Snd.of rfl All.nil (fun _ => Sound.none)) Try.func95 Try.call95 (fun a0 σ => by kernel_rfl)) _ _ _ rfl rfl
theorem s_R1_IsTitle : Sound Try.prog nmT 95 m_R1_IsTitle := w_R1_IsTitle
noncomputable def x_R1_IsTime : Fx := ⟨Try.prog, nmT, A.tab (fun _ _ => none) [(44, m_R1_Within)], (fun _ _ _ => none), [], [], 5, []⟩
theorem w_R1_IsTime : Sound Try.prog nmT 96 (A.wrap true [] .k (A.ar1 (r_R1_IsTime))) :=
 Sound.wrap (Sound.run1 (X := x_R1_IsTime) (fn := Try.f96) (ann := (.s .n (.s .n .n))) .F trivial (Snd.of rfl (All.cons s_R1_Within All.nil) (fun _ => Sound.none)) Try.func96 Try.call96 (fun a0 σ => by kernel_rfl)) _ _ _ rfl rfl
theorem s_R1_IsTime : Sound Try.prog nmT 96 m_R1_IsTime := w_R1_IsTime
noncomputable def x_R1_CheckCurve : Fx := ⟨Try.prog, nmT, A.tab (fun _ _ => none) [(44, m_R1_Within)], (fun _ _ _ => none), [1, 4], [], 108, []⟩
theorem w_R1_CheckCurve : Sound Try.prog nmT 97 (A.wrap true [(.a [.k, (.s 2)])] .k (A.ar1 (r_R1_CheckCurve))) :=
 Sound.wrap (Sound.run1 (X := x_R1_CheckCurve) (fn := Try.f97) (ann := (.s .n (.s (.b (.s .n (.j (.s .n .n) (.s .n (.j (.s .n .n) (.s .n (.j (.s .n .n) (.s .n (.j (.s .n .n) (.s .n (.j (.s .n .n) .n))))))))))) (.s (.s .n (.b (.l [1, 2, 38] [.exit 1, .ret] (.s .n (.s (.j .n .n) (.s (.b (.s .n (.s .n (.j (.s .n .n) .n)))) .n)))))) (.s (.s .n (.j (.s .n .n) .n)) (.s (.s .n (.b (.l [1, 2, 5] [.exit 3, .ret] (.s (.s .n (.j .n .n)) (.s (.b (.s .n (.j (.s .n .n) .n))) .n))))) (.s .n .n))))))) .F trivial (Snd.of rfl (All.cons s_R1_Within All.nil) (fun _ => Sound.none)) Try.func97 Try.call97 (fun a0 σ => by kernel_rfl)) _ _ _ rfl rfl
theorem s_R1_CheckCurve : Sound Try.prog nmT 97 m_R1_CheckCurve := w_R1_CheckCurve
noncomputable def x_R1_IsWord : Fx := ⟨Try.prog, nmT, A.tab (fun _ _ => none) [], (fun _ _ _ => none), [], [], 34, []⟩
theorem w_R1_IsWord : Sound Try.prog nmT 162 (A.wrap true [] .k (A.ar1 (r_R1_IsWord))) :=
 Sound.wrap (Sound.run1 (X := x_R1_IsWord) (fn := Try.f162) (ann := (.s .n (.s (.s .n (.b (.l [2, 7] [.exit 0, .ret] (.s .n (.s (.j .n .n) (.s (.b (.s .n (.s .n (.s .n (.j (.s .n .n) .n))))) .n)))))) (.s .n .n)))) .F trivial (Snd.of rfl All.nil (fun _ => Sound.none)) Try.func162 Try.call162 (fun a0 σ => by kernel_rfl)) _ _ _ rfl rfl
theorem s_R1_IsWord : Sound Try.prog nmT 162 m_R1_IsWord := w_R1_IsWord
noncomputable def x_R1_IsName : Fx := ⟨Try.prog, nmT, A.tab (fun _ _ => none) [(162, m_R1_IsWord)], (fun _ _ _ => none), [], [], 20, []⟩
theorem w_R1_IsName : Sound Try.prog nmT 136 (A.wrap true [] .k (A.ar1 (r_R1_IsName))) :=
 Sound.wrap (Sound.run1 (X := x_R1_IsName) (fn := Try.f136) (ann := (.s .n (.s .n .n))) .F trivial (Snd.of rfl (All.cons s_R1_IsWord All.nil) (fun _ => Sound.none)) Try.func136 Try.call136 (fun a0 σ => by kernel_rfl)) _ _ _ rfl rfl
theorem s_R1_IsName : Sound Try.prog nmT 136 m_R1_IsName := w_R1_IsName
noncomputable def x_R1_IsLevel : Fx := ⟨Try.prog, nmT, A.tab (fun _ _ => none) [(44, m_R1_Within)], (fun _ _ _ => none), [], [], 5, []⟩
theorem w_R1_IsLevel : Sound Try.prog nmT 137 (A.wrap true [] .k (A.ar1 (r_R1_IsLevel))) :=
 Sound.wrap (Sound.run1 (X := x_R1_IsLevel) (fn := Try.f137) (ann := (.s .n (.s .n .n))) .F trivial (Snd.of rfl (All.cons s_R1_Within All.nil) (fun _ => Sound.none)) Try.func137 Try.call137 (fun a0 σ => by kernel_rfl)) _ _ _ rfl rfl
theorem s_R1_IsLevel : Sound Try.prog nmT 137 m_R1_IsLevel := w_R1_IsLevel
noncomputable def x_R4_Before : Fx := ⟨Try.prog, nmT, A.tab (fun _ _ => none) [], (fun _ _ _ => none), [2, 3], [], 24, []⟩
theorem w_R4_Before : Sound Try.prog nmT 100 (A.wrap true [] .k (A.ar2 (r_R4_Before))) :=
 Sound.wrap (Sound.run2 (X := x_R4_Before) (fn := Try.f100) (ann := (.s .n (.s .n .n))) .F trivial (Snd.of rfl All.nil (fun _ => Sound.none)) Try.func100 Try.call100 (fun a0 a1 σ => by kernel_rfl)) _ _ _ rfl rfl
theorem s_R4_Before : Sound Try.prog nmT 100 m_R4_Before := w_R4_Before
noncomputable def x_R5_checkMove : Fx := ⟨Try.prog, nmT, A.tab (fun _ _ => none) [(44, m_R1_Within), (136, m_R1_IsName), (137, m_R1_IsLevel), (96, m_R1_IsTime), (100, m_R4_Before)], (fun _ _ _ => none), [2], [], 93, []⟩
theorem w_R5_checkMove : Sound Try.prog nmT 113 (A.wrap true [.k, (.s 8)] .k (A.ar2 (r_R5_checkMove))) :=
 Sound.wrap (Sound.run2 (X := x_R5_checkMove) (fn := Try.f113) (ann := (.s .n (.s (.b (.s .n (.j (.s .n .n) (.s .n (.j (.s .n .n) (.s .n (.j (.s .n .n) (.s .n (.j (.s .n .n) (.s .n (.j (.s .n .n) (.s .n (.j (.s .n .n) (.s .n (.j (.s .n .n) .n))))))))))))))) (.s .n .n)))) .F trivial (Snd.of rfl (All.cons s_R1_Within (All.cons s_R1_IsName (All.cons s_R1_IsLevel (All.cons s_R1_IsTime (All.cons s_R4_Before All.nil))))) (fun _ => Sound.none)) Try.func113 Try.call113 (fun a0 a1 σ => by kernel_rfl)) _ _ _ rfl rfl
theorem s_R5_checkMove : Sound Try.prog nmT 113 m_R5_checkMove := w_R5_checkMove
noncomputable def x_R5_checkMoves : Fx := ⟨Try.prog, nmT, A.tab (fun _ _ => none) [(113, m_R5_checkMove)], (fun _ _ _ => none), [4], [], 25, []⟩
theorem w_R5_checkMoves : Sound Try.prog nmT 70 (A.wrap true [(.s 8)] .k (A.ar1 (r_R5_checkMoves))) :=
 Sound.wrap (Sound.run1 (X := x_R5_checkMoves) (fn := Try.f70) (ann := (.s .n (.s (.s .n (.j (.s .n .n) .n)) (.s (.s .n (.b (.l [2, 11] [.exit 0, .ret] (.s .n (.s (.j .n .n) (.s (.b (.s .n (.s .n (.s .n (.j (.s .n .n) .n))))) .n)))))) (.s .n .n))))) .F trivial (Snd.of rfl (All.cons s_R5_checkMove All.nil) (fun _ => Sound.none)) Try.func70 Try.call70 (fun a0 σ => by kernel_rfl)) _ _ _ rfl rfl
theorem s_R5_checkMoves : Sound Try.prog nmT 70 m_R5_checkMoves := w_R5_checkMoves
noncomputable def x_R5_CheckForm : Fx := ⟨Try.prog, nmT, A.tab (fun _ _ => none) [(44, m_R1_Within), (95, m_R1_IsTitle), (96, m_R1_IsTime), (97, m_R1_CheckCurve), (70, m_R5_checkMoves)], (fun _ _ _ => none), [5], [], 96, []⟩
theorem w_R5_CheckForm : Sound Try.prog nmT 42 (A.wrap true [(.e 11 [.k, .k, .k, .k, .k, .k, .k, (.s 2), .k, .k, (.s 8)])] .k (A.ar1 (r_R5_CheckForm))) :=
 Sound.wrap (Sound.run1 (X := x_R5_CheckForm) (fn := Try.f42) (ann := (.s .n (.s (.s .n (.j (.s .n .n) .n)) (.s .n (.s (.s .n (.b (.l [2, 3, 13] [.exit 0, .ret] (.s .n (.s (.j .n .n) (.s (.b (.s .n (.s (.b (.s .n (.j (.s .n .n) (.s .n (.j (.s .n .n) (.s .n (.j (.s .n .n) (.s .n (.j (.s .n .n) .n))))))))) (.s (.s .n (.s .n (.j (.s .n .n) .n))) (.s (.s .n (.s .n (.j (.s .n .n) .n))) .n))))) .n)))))) (.s (.s .n (.j (.s .n .n) .n)) (.s .n .n))))))) .F trivial (Snd.of rfl (All.cons s_R1_Within (All.cons s_R1_IsTitle (All.cons s_R1_IsTime (All.cons s_R1_CheckCurve (All.cons s_R5_checkMoves All.nil))))) (fun _ => Sound.none)) Try.func42 Try.call42 (fun a0 σ => by kernel_rfl)) _ _ _ rfl rfl
theorem s_R5_CheckForm : Sound Try.prog nmT 42 m_R5_CheckForm := w_R5_CheckForm
noncomputable def x_slices_Clone_api_Cue : Fx := ⟨Try.prog, nmT, A.tab (fun _ _ => none) [], (fun _ _ _ => none), [], [], 8, []⟩
theorem w_slices_Clone_api_Cue : Sound Try.prog nmT 98 (A.wrap true [(.s 11)] .k (A.ar1 (r_slices_Clone_api_Cue))) :=
 Sound.wrap (Sound.run1 (X := x_slices_Clone_api_Cue) (fn := Try.f98) (ann := (.s .n (.s (.s .n (.j (.s .n .n) .n)) (.s .n .n)))) .K trivial (Snd.of rfl All.nil (fun _ => Sound.none)) Try.func98 Try.call98 (fun a0 σ => by kernel_rfl)) _ _ _ rfl rfl
theorem s_slices_Clone_api_Cue : Sound Try.prog nmT 98 m_slices_Clone_api_Cue := clone_sound w_slices_Clone_api_Cue Try.call98 cz_Cue
noncomputable def x_R5_cloned : Fx := ⟨Try.prog, nmT, A.tab (fun _ _ => none) [(98, m_slices_Clone_api_Cue), (99, m_slices_Clone_api_Move), (85, m_slices_Clone_api_Point)], (fun _ _ _ => none), [], [], 36, []⟩
theorem w_R5_cloned : Sound Try.prog nmT 45 (A.wrap true [(.e 11 [.k, .k, .k, .k, .k, .k, .k, (.s 2), .k, .k, (.s 8)])] .k (A.ar1 (r_R5_cloned))) :=
 Sound.wrap (Sound.run1 (X := x_R5_cloned) (fn := Try.f45) (ann := (.s .n (.s .n (.s (.s .n (.b (.l [9] [.exit 0] (.s .n (.s (.j .n .n) (.s (.b (.s .n (.s .n .n))) .n)))))) (.s .n .n))))) .K trivial (Snd.of rfl (All.cons s_slices_Clone_api_Cue (All.cons s_slices_Clone_api_Move (All.cons s_slices_Clone_api_Point All.nil))) (fun _ => Sound.none)) Try.func45 Try.call45 (fun a0 σ => by kernel_rfl)) _ _ _ rfl rfl
theorem s_R5_cloned : Sound Try.prog nmT 45 m_R5_cloned := w_R5_cloned
noncomputable def x_slices_Clone_api_Entry : Fx := ⟨Try.prog, nmT, A.tab (fun _ _ => none) [], (fun _ _ _ => none), [], [], 8, []⟩
theorem w_slices_Clone_api_Entry : Sound Try.prog nmT 83 (A.wrap true [(.s 5)] .k (A.ar1 (r_slices_Clone_api_Entry))) :=
 Sound.wrap (Sound.run1 (X := x_slices_Clone_api_Entry) (fn := Try.f83) (ann := (.s .n (.s (.s .n (.j (.s .n .n) .n)) (.s .n .n)))) .K trivial (Snd.of rfl All.nil (fun _ => Sound.none)) Try.func83 Try.call83 (fun a0 σ => by kernel_rfl)) _ _ _ rfl rfl
theorem s_slices_Clone_api_Entry : Sound Try.prog nmT 83 m_slices_Clone_api_Entry := clone_sound w_slices_Clone_api_Entry Try.call83 cz_Entry
noncomputable def x_R5_place : Fx := ⟨Try.prog, nmT, A.tab (fun _ _ => none) [(100, m_R4_Before)], (fun _ _ _ => none), [3], [], 36, []⟩
theorem w_R5_place : Sound Try.prog nmT 114 (A.wrap true [(.s 5)] .k (A.ar2 (r_R5_place))) :=
 Sound.wrap (Sound.run2 (X := x_R5_place) (fn := Try.f114) (ann := (.s .n (.s .n (.s (.b (.l [3, 6] [.exit 0] (.s (.s .n (.j .n .n)) (.b .n)))) (.s .n .n))))) .F trivial (Snd.of rfl (All.cons s_R4_Before All.nil) (fun _ => Sound.none)) Try.func114 Try.call114 (fun a0 a1 σ => by kernel_rfl)) _ _ _ rfl rfl
theorem s_R5_place : Sound Try.prog nmT 114 m_R5_place := w_R5_place
noncomputable def x_slices_Delete_api_Entry : Fx := ⟨Try.prog, nmT, A.tab (fun _ _ => none) [], (fun _ _ _ => none), [], [], 33, []⟩
theorem w_slices_Delete_api_Entry : Sound Try.prog nmT 115 (A.wrap false [] .k (A.ar3 (r_slices_Delete_api_Entry))) :=
 Sound.wrap (Sound.run3 (X := x_slices_Delete_api_Entry) (fn := Try.f115) (ann := (.s .n (.s .n (.s (.s .n (.j (.s .n .n) .n)) (.s .n (.s .n (.s .n (.s .n .n)))))))) .R trivial (Snd.of rfl All.nil (fun _ => Sound.none)) Try.func115 Try.call115 (fun a0 a1 a2 σ => by kernel_rfl)) _ _ _ rfl rfl
theorem s_slices_Delete_api_Entry : Sound Try.prog nmT 115 m_slices_Delete_api_Entry := w_slices_Delete_api_Entry
noncomputable def x_slices_Reverse_api_Entry : Fx := ⟨Try.prog, nmT, A.tab (fun _ _ => none) [], (fun _ _ _ => none), [], [], 28, []⟩
theorem w_slices_Reverse_api_Entry : Sound Try.prog nmT 184 (A.wrap false [] .k (A.ar1 (r_slices_Reverse_api_Entry))) :=
 Sound.wrap (Sound.run1 (X := x_slices_Reverse_api_Entry) (fn := Try.f184) (ann := (.s .n (.b (.l [2, 3] [.exit 0] (.s (.s .n (.j .n .n)) (.s (.b .n) .n)))))) .K trivial (Snd.of rfl All.nil (fun _ => Sound.none)) Try.func184 Try.call184 (fun a0 σ => by kernel_rfl)) _ _ _ rfl rfl
theorem s_slices_Reverse_api_Entry : Sound Try.prog nmT 184 m_slices_Reverse_api_Entry := w_slices_Reverse_api_Entry
noncomputable def x_slices_rotateLeft_api_Entry : Fx := ⟨Try.prog, nmT, A.tab (fun _ _ => none) [(184, m_slices_Reverse_api_Entry)], (fun _ _ _ => none), [], [], 14, []⟩
theorem w_slices_rotateLeft_api_Entry : Sound Try.prog nmT 163 (A.wrap false [] .k (A.ar2 (r_slices_rotateLeft_api_Entry))) :=
 Sound.wrap (Sound.run2 (X := x_slices_rotateLeft_api_Entry) (fn := Try.f163) (ann := (.s .n (.s .n .n))) .K trivial (Snd.of rfl (All.cons s_slices_Reverse_api_Entry All.nil) (fun _ => Sound.none)) Try.func163 Try.call163 (fun a0 a1 σ => by kernel_rfl)) _ _ _ rfl rfl
theorem s_slices_rotateLeft_api_Entry : Sound Try.prog nmT 163 m_slices_rotateLeft_api_Entry := w_slices_rotateLeft_api_Entry
noncomputable def x_slices_rotateRight_api_Entry : Fx := ⟨Try.prog, nmT, A.tab (fun _ _ => none) [(163, m_slices_rotateLeft_api_Entry)], (fun _ _ _ => none), [], [], 10, []⟩
theorem w_slices_rotateRight_api_Entry : Sound Try.prog nmT 139 (A.wrap false [] .k (A.ar2 (r_slices_rotateRight_api_Entry))) :=
 Sound.wrap (Sound.run2 (X := x_slices_rotateRight_api_Entry) (fn := Try.f139) (ann := .n) .K trivial (Snd.of rfl (All.cons s_slices_rotateLeft_api_Entry All.nil) (fun _ => Sound.none)) Try.func139 Try.call139 (fun a0 a1 σ => by kernel_rfl)) _ _ _ rfl rfl
theorem s_slices_rotateRight_api_Entry : Sound Try.prog nmT 139 m_slices_rotateRight_api_Entry := w_slices_rotateRight_api_Entry
noncomputable def x_slices_Insert_api_Entry : Fx := ⟨Try.prog, nmT, A.tab (fun _ _ => none) [(138, m_slices_overlaps), (139, m_slices_rotateRight_api_Entry)], (fun _ _ _ => none), [], [], 95, []⟩
theorem w_slices_Insert_api_Entry : Sound Try.prog nmT 116 (A.wrap false [] .k (A.ar3 (r_slices_Insert_api_Entry))) :=
 Sound.wrap (Sound.run3 (X := x_slices_Insert_api_Entry) (fn := Try.f116) (ann := (.s .n (.s .n (.s .n (.s (.s .n (.j (.s .n .n) .n)) (.s .n (.s (.s .n (.j (.s .n .n) .n)) (.s (.s .n (.j (.s .n (.s .n (.s .n (.s .n .n)))) .n)) (.s .n (.s (.s .n (.j (.s .n (.s .n (.s .n .n))) .n)) (.s .n (.s .n (.s .n .n))))))))))))) .R trivial (Snd.of rfl (All.cons s_slices_overlaps_api_Entry_ (All.cons s_slices_rotateRight_api_Entry All.nil)) (fun _ => Sound.none)) Try.func116 Try.call116 (fun a0 a1 a2 σ => by kernel_rfl)) _ _ _ rfl rfl
theorem s_slices_Insert_api_Entry : Sound Try.prog nmT 116 m_slices_Insert_api_Entry := w_slices_Insert_api_Entry
noncomputable def x_R5_after : Fx := ⟨Try.prog, nmT, A.tab (fun _ _ => none) [(83, m_slices_Clone_api_Entry), (114, m_R5_place), (115, m_slices_Delete_api_Entry), (116, m_slices_Insert_api_Entry)], (fun _ _ _ => none), [3, 7], [], 48, []⟩
theorem w_R5_after : Sound Try.prog nmT 72 (A.wrap true [(.s 5), (.a [.k, .k, .k, .k, .k, .k, .k, (.s 2), .k, .k, (.s 8)])] .k (A.ar2 (r_R5_after))) :=
 Sound.wrap (Sound.run2 (X := x_R5_after) (fn := Try.f72) (ann := (.s .n (.s .n (.s (.s .n (.b (.l [3, 5, 15] [.exit 0] (.s .n (.s (.j .n .n) (.s (.b (.s .n (.s .n (.s (.s .n (.c [3, 5, 7] .n .n)) (.s .n (.c [3, 5] .n .n)))))) .n)))))) (.s .n .n))))) .K trivial (Snd.of rfl (All.cons s_slices_Clone_api_Entry (All.cons s_R5_place (All.cons s_slices_Delete_api_Entry (All.cons s_slices_Insert_api_Entry All.nil)))) (fun _ => Sound.none)) Try.func72 Try.call72 (fun a0 a1 σ => by kernel_rfl)) _ _ _ rfl rfl
theorem s_R5_after : Sound Try.prog nmT 72 m_R5_after := w_R5_after
end Go.Proofs.Ytphgchakmkankaa

namespace Go.Proofs.Ytphgchakmkankaa
set_option linter.unusedSectionVars false
set_option maxRecDepth 100000
set_option linter.unusedVariables false
set_option linter.unusedSimpArgs false
noncomputable def x_R5_Before : Fx := ⟨Try.prog, nmT, A.tab (fun _ _ => none) [(72, m_R5_after)], (fun _ _ _ => none), [7], [], 21, []⟩
theorem w_R5_Before : Sound Try.prog nmT 57 (A.wrap true [(.e 11 [.k, .k, .k, .k, .k, .k, .k, (.s 2), .k, .k, (.s 8)])] .k (A.ar2 (r_R5_Before))) :=
 Sound.wrap (Sound.run2 (X := x_R5_Before) (fn := Try.f57) (ann := (.s .n (.s .n (.s (.s .n (.b (.l [5, 12] [.exit 0] (.s .n (.s (.j .n .n) (.s (.b (.s .n .n)) .n)))))) (.s .n .n))))) .K trivial (Snd.of rfl (All.cons s_R5_after All.nil) (fun _ => Sound.none)) Try.func57 Try.call57 (fun a0 a1 σ => by kernel_rfl)) _ _ _ rfl rfl
theorem s_R5_Before : Sound Try.prog nmT 57 m_R5_Before := w_R5_Before
noncomputable def x_R5_valued : Fx := ⟨Try.prog, nmT, A.tab (fun _ _ => none) [(114, m_R5_place)], (fun _ _ _ => none), [3, 4], [], 23, []⟩
theorem w_R5_valued : Sound Try.prog nmT 106 (A.wrap true [(.s 5)] .k (A.ar2 (r_R5_valued))) :=
 Sound.wrap (Sound.run2 (X := x_R5_valued) (fn := Try.f106) (ann := (.s .n (.s (.s .n (.s .n (.j (.s .n .n) .n))) (.s .n .n)))) .F trivial (Snd.of rfl (All.cons s_R5_place All.nil) (fun _ => Sound.none)) Try.func106 Try.call106 (fun a0 a1 σ => by kernel_rfl)) _ _ _ rfl rfl
theorem s_R5_valued : Sound Try.prog nmT 106 m_R5_valued := w_R5_valued
noncomputable def x_R5_cleaned : Fx := ⟨Try.prog, nmT, A.tab (fun _ _ => none) [(106, m_R5_valued)], (fun _ _ _ => none), [2, 7, 8], [], 42, []⟩
theorem w_R5_cleaned : Sound Try.prog nmT 56 (A.wrap true [(.a [.k, .k, .k, .k, .k, .k, .k, (.s 2), .k, .k, (.s 8)]), (.s 5)] .k (A.ar2 (r_R5_cleaned))) :=
 Sound.wrap (Sound.run2 (X := x_R5_cleaned) (fn := Try.f56) (ann := (.s .n (.s .n (.s (.s .n (.b (.l [5, 12] [.exit 0] (.s .n (.s (.j .n .n) (.s (.b (.s .n (.s .n (.s .n (.c [5] .n .n))))) .n)))))) (.s .n .n))))) .K trivial (Snd.of rfl (All.cons s_R5_valued All.nil) (fun _ => Sound.none)) Try.func56 Try.call56 (fun a0 a1 σ => by kernel_rfl)) _ _ _ rfl rfl
theorem s_R5_cleaned : Sound Try.prog nmT 56 m_R5_cleaned := w_R5_cleaned
noncomputable def x_R5_Clean : Fx := ⟨Try.prog, nmT, A.tab (fun _ _ => none) [(42, m_R5_CheckForm), (45, m_R5_cloned), (57, A.finC (.s 5) m_R5_Before), (56, m_R5_cleaned)], (fun _ _ _ => none), [], [], 39, [56]⟩
theorem w_R5_Clean : Sound Try.prog nmT 16 (A.wrap true [(.e 11 [.k, .k, .k, .k, .k, .k, .k, (.s 2), .k, .k, (.s 8)])] (.t [(.e 11 [.k, .k, .k, .k, .k, .k, .k, (.s 2), .k, .k, (.s 8)]), .k]) (A.ar1 (r_R5_Clean))) :=
 Sound.wrap (Sound.run1 (X := x_R5_Clean) (fn := Try.f16) (ann := (.s .n (.s (.s .n (.s .n (.j (.s .n .n) .n))) (.s .n (.s (.s .n (.b (.l [16] [.exit 0] (.s .n (.s (.j .n .n) (.s (.b (.s .n (.s .n (.c [] .n .n)))) .n)))))) (.s .n .n)))))) .F trivial (Snd.of rfl (All.cons s_R5_CheckForm (All.cons s_R5_cloned (All.cons (Sound.finC s_R5_Before (.s 5) rfl) (All.cons s_R5_cleaned All.nil)))) (fun _ => Sound.none)) Try.func16 Try.call16 (fun a0 σ => by kernel_rfl)) _ _ _ rfl rfl
theorem s_R5_Clean : Sound Try.prog nmT 16 m_R5_Clean := w_R5_Clean
noncomputable def x_slices_EqualFunc_api_Cue (dyn : Nat → List AV → Heap → Option (AV × Heap)) : Fx := ⟨Try.prog, nmT, A.tab (fun _ _ => none) [], dyn, [8, 9], [], 32, []⟩
theorem w_slices_EqualFunc_api_Cue (dyn : Nat → List AV → Heap → Option (AV × Heap)) (hd : ∀ f, Sound Try.prog nmT f (dyn (nmT.getD f 0))) : Sound Try.prog nmT 51 (A.wrap true [(.s 11), (.s 11)] .k (A.ar3 (r_slices_EqualFunc_api_Cue dyn))) :=
 Sound.wrap (Sound.run3 (X := x_slices_EqualFunc_api_Cue dyn) (fn := Try.f51) (ann := (.s .n (.s (.s .n (.j (.s .n .n) .n)) (.s (.s .n (.b (.l [6, 17] [.exit 0, .ret] (.s .n (.s (.j .n .n) (.s (.b (.s .n (.s .n (.s .n (.j (.s .n .n) .n))))) .n)))))) (.s .n .n))))) .F trivial (Snd.of rfl All.nil (hd)) Try.func51 Try.call51 (fun a0 a1 a2 σ => by kernel_rfl)) _ _ _ rfl rfl
theorem s_slices_EqualFunc_api_Cue (dyn : Nat → List AV → Heap → Option (AV × Heap)) (hd : ∀ f, Sound Try.prog nmT f (dyn (nmT.getD f 0))) : Sound Try.prog nmT 51 (m_slices_EqualFunc_api_Cue dyn) := w_slices_EqualFunc_api_Cue dyn hd
noncomputable def x_slices_Equal_api_Point : Fx := ⟨Try.prog, nmT, A.tab (fun _ _ => none) [], (fun _ _ _ => none), [], [], 26, []⟩
theorem w_slices_Equal_api_Point : Sound Try.prog nmT 102 (A.wrap true [(.s 2), (.s 2)] .k (A.ar2 (r_slices_Equal_api_Point))) :=
 Sound.wrap (Sound.run2 (X := x_slices_Equal_api_Point) (fn := Try.f102) (ann := (.s .n (.s (.s .n (.j (.s .n .n) .n)) (.s (.s .n (.b (.l [4, 13] [.exit 0, .ret] (.s .n (.s (.j .n .n) (.s (.b (.s .n (.s .n (.j (.s .n .n) .n)))) .n)))))) (.s .n .n))))) .F trivial (Snd.of rfl All.nil (fun _ => Sound.none)) Try.func102 Try.call102 (fun a0 a1 σ => by kernel_rfl)) _ _ _ rfl rfl
theorem s_slices_Equal_api_Point : Sound Try.prog nmT 102 m_slices_Equal_api_Point := w_slices_Equal_api_Point
noncomputable def x_slices_Equal_api_Move : Fx := ⟨Try.prog, nmT, A.tab (fun _ _ => none) [], (fun _ _ _ => none), [], [], 26, []⟩
theorem w_slices_Equal_api_Move : Sound Try.prog nmT 103 (A.wrap true [(.s 8), (.s 8)] .k (A.ar2 (r_slices_Equal_api_Move))) :=
 Sound.wrap (Sound.run2 (X := x_slices_Equal_api_Move) (fn := Try.f103) (ann := (.s .n (.s (.s .n (.j (.s .n .n) .n)) (.s (.s .n (.b (.l [4, 13] [.exit 0, .ret] (.s .n (.s (.j .n .n) (.s (.b (.s .n (.s .n (.j (.s .n .n) .n)))) .n)))))) (.s .n .n))))) .F trivial (Snd.of rfl All.nil (fun _ => Sound.none)) Try.func103 Try.call103 (fun a0 a1 σ => by kernel_rfl)) _ _ _ rfl rfl
theorem s_slices_Equal_api_Move : Sound Try.prog nmT 103 m_slices_Equal_api_Move := w_slices_Equal_api_Move
noncomputable def x_W5_sameCue : Fx := ⟨Try.prog, nmT, A.tab (fun _ _ => none) [(102, m_slices_Equal_api_Point), (103, m_slices_Equal_api_Move)], (fun _ _ _ => none), [2, 3], [], 84, []⟩
theorem w_W5_sameCue : Sound Try.prog nmT 52 (A.wrap true [(.a [.k, .k, .k, .k, .k, .k, .k, (.s 2), .k, .k, (.s 8)]), (.a [.k, .k, .k, .k, .k, .k, .k, (.s 2), .k, .k, (.s 8)])] .k (A.ar2 (r_W5_sameCue))) :=
 Sound.wrap (Sound.run2 (X := x_W5_sameCue) (fn := Try.f52) (ann := (.s .n (.s .n .n))) .F trivial (Snd.of rfl (All.cons s_slices_Equal_api_Point (All.cons s_slices_Equal_api_Move All.nil)) (fun _ => Sound.none)) Try.func52 Try.call52 (fun a0 a1 σ => by kernel_rfl)) _ _ _ rfl rfl
theorem s_W5_sameCue : Sound Try.prog nmT 52 m_W5_sameCue := w_W5_sameCue
noncomputable def x_W5_sameList : Fx := ⟨Try.prog, nmT, A.tab (fun _ _ => none) [(51, m_slices_EqualFunc_api_Cue (A.tab (fun _ _ => none) [(201, m_W5_sameCue)]))], (A.tab (fun _ _ => none) [(201, m_W5_sameCue)]), [], [], 8, []⟩
theorem w_W5_sameList : Sound Try.prog nmT 14 (A.wrap true [(.e 11 [.k, .k, .k, .k, .k, .k, .k, (.s 2), .k, .k, (.s 8)]), (.e 11 [.k, .k, .k, .k, .k, .k, .k, (.s 2), .k, .k, (.s 8)])] .k (A.ar2 (r_W5_sameList))) :=
 Sound.wrap (Sound.run2 (X := x_W5_sameList) (fn := Try.f14) (ann := (.s .n (.s .n .n))) .F trivial (Snd.of rfl (All.cons (s_slices_EqualFunc_api_Cue _ (dyn_of (DAll.cons (nm_sound s_W5_sameCue (by kernel_rfl) rfl) DAll.nil))) All.nil) (dyn_of (DAll.cons (nm_sound s_W5_sameCue (by kernel_rfl) rfl) DAll.nil))) Try.func14 Try.call14 (fun a0 a1 σ => by kernel_rfl)) _ _ _ rfl rfl
theorem s_W5_sameList : Sound Try.prog nmT 14 m_W5_sameList := w_W5_sameList
noncomputable def x_slices_BinarySearchFunc_api_Cue_int (dyn : Nat → List AV → Heap → Option (AV × Heap)) : Fx := ⟨Try.prog, nmT, A.tab (fun _ _ => none) [], dyn, [], [], 49, []⟩
theorem w_slices_BinarySearchFunc_api_Cue_int (dyn : Nat → List AV → Heap → Option (AV × Heap)) (hd : ∀ f, Sound Try.prog nmT f (dyn (nmT.getD f 0))) : Sound Try.prog nmT 93 (A.wrap true [(.s 11)] .k (A.ar3 (r_slices_BinarySearchFunc_api_Cue_int dyn))) :=
 Sound.wrap (Sound.run3 (X := x_slices_BinarySearchFunc_api_Cue_int dyn) (fn := Try.f93) (ann := (.s .n (.s .n (.s .n (.s (.b (.l [9, 10] [.exit 0] (.s (.s .n (.j .n .n)) (.b (.s .n (.s .n (.c [9, 10] .n .n))))))) (.s .n .n)))))) .F trivial (Snd.of rfl All.nil (hd)) Try.func93 Try.call93 (fun a0 a1 a2 σ => by kernel_rfl)) _ _ _ rfl rfl
theorem s_slices_BinarySearchFunc_api_Cue_int (dyn : Nat → List AV → Heap → Option (AV × Heap)) (hd : ∀ f, Sound Try.prog nmT f (dyn (nmT.getD f 0))) : Sound Try.prog nmT 93 (m_slices_BinarySearchFunc_api_Cue_int dyn) := w_slices_BinarySearchFunc_api_Cue_int dyn hd
noncomputable def x_cue_place_fn1 : Fx := ⟨Try.prog, nmT, A.tab (fun _ _ => none) [], (fun _ _ _ => none), [2], [], 9, []⟩
theorem w_cue_place_fn1 : Sound Try.prog nmT 94 (A.wrap true [(.a [.k, .k, .k, .k, .k, .k, .k, (.s 2), .k, .k, (.s 8)])] .k (A.ar2 (r_cue_place_fn1))) :=
 Sound.wrap (Sound.run2 (X := x_cue_place_fn1) (fn := Try.f94) (ann := (.s .n (.s .n .n))) .F trivial (Snd.of rfl All.nil (fun _ => Sound.none)) Try.func94 Try.call94 (fun a0 a1 σ => by kernel_rfl)) _ _ _ rfl rfl
theorem s_cue_place_fn1 : Sound Try.prog nmT 94 m_cue_place_fn1 := w_cue_place_fn1
noncomputable def x_cue_place : Fx := ⟨Try.prog, nmT, A.tab (fun _ _ => none) [(93, m_slices_BinarySearchFunc_api_Cue_int (A.tab (fun _ _ => none) [(177, m_cue_place_fn1)]))], (A.tab (fun _ _ => none) [(177, m_cue_place_fn1)]), [], [], 11, []⟩
theorem w_cue_place : Sound Try.prog nmT 36 (A.wrap true [(.e 11 [.k, .k, .k, .k, .k, .k, .k, (.s 2), .k, .k, (.s 8)])] .k (A.ar2 (r_cue_place))) :=
 Sound.wrap (Sound.run2 (X := x_cue_place) (fn := Try.f36) (ann := (.s .n (.s .n .n))) .F trivial (Snd.of rfl (All.cons (s_slices_BinarySearchFunc_api_Cue_int _ (dyn_of (DAll.cons (nm_sound s_cue_place_fn1 (by kernel_rfl) rfl) DAll.nil))) All.nil) (dyn_of (DAll.cons (nm_sound s_cue_place_fn1 (by kernel_rfl) rfl) DAll.nil))) Try.func36 Try.call36 (fun a0 a1 σ => by kernel_rfl)) _ _ _ rfl rfl
theorem s_cue_place : Sound Try.prog nmT 36 m_cue_place := w_cue_place
noncomputable def x_slices_BinarySearchFunc_api_Move_api_Key (dyn : Nat → List AV → Heap → Option (AV × Heap)) : Fx := ⟨Try.prog, nmT, A.tab (fun _ _ => none) [], dyn, [4], [], 49, []⟩
theorem w_slices_BinarySearchFunc_api_Move_api_Key (dyn : Nat → List AV → Heap → Option (AV × Heap)) (hd : ∀ f, Sound Try.prog nmT f (dyn (nmT.getD f 0))) : Sound Try.prog nmT 107 (A.wrap true [(.s 8)] .k (A.ar3 (r_slices_BinarySearchFunc_api_Move_api_Key dyn))) :=
 Sound.wrap (Sound.run3 (X := x_slices_BinarySearchFunc_api_Move_api_Key dyn) (fn := Try.f107) (ann := (.s .n (.s .n (.s .n (.s (.b (.l [4, 9, 10] [.exit 0] (.s (.s .n (.j .n .n)) (.b (.s .n (.s .n (.c [4, 9, 10] .n .n))))))) (.s .n .n)))))) .F trivial (Snd.of rfl All.nil (hd)) Try.func107 Try.call107 (fun a0 a1 a2 σ => by kernel_rfl)) _ _ _ rfl rfl
theorem s_slices_BinarySearchFunc_api_Move_api_Key (dyn : Nat → List AV → Heap → Option (AV × Heap)) (hd : ∀ f, Sound Try.prog nmT f (dyn (nmT.getD f 0))) : Sound Try.prog nmT 107 (m_slices_BinarySearchFunc_api_Move_api_Key dyn) := w_slices_BinarySearchFunc_api_Move_api_Key dyn hd
noncomputable def x_cue_moveAt_fn1 : Fx := ⟨Try.prog, nmT, A.tab (fun _ _ => none) [(88, m_cue_compare)], (fun _ _ _ => none), [2, 3], [], 9, []⟩
theorem w_cue_moveAt_fn1 : Sound Try.prog nmT 108 (A.wrap true [] .k (A.ar2 (r_cue_moveAt_fn1))) :=
 Sound.wrap (Sound.run2 (X := x_cue_moveAt_fn1) (fn := Try.f108) (ann := (.s .n (.s .n .n))) .F trivial (Snd.of rfl (All.cons s_cue_compare All.nil) (fun _ => Sound.none)) Try.func108 Try.call108 (fun a0 a1 σ => by kernel_rfl)) _ _ _ rfl rfl
theorem s_cue_moveAt_fn1 : Sound Try.prog nmT 108 m_cue_moveAt_fn1 := w_cue_moveAt_fn1
noncomputable def x_cue_moveAt : Fx := ⟨Try.prog, nmT, A.tab (fun _ _ => none) [(107, m_slices_BinarySearchFunc_api_Move_api_Key (A.tab (fun _ _ => none) [(185, m_cue_moveAt_fn1)]))], (A.tab (fun _ _ => none) [(185, m_cue_moveAt_fn1)]), [2, 3], [], 12, []⟩
theorem w_cue_moveAt : Sound Try.prog nmT 58 (A.wrap true [(.a [.k, .k, .k, .k, .k, .k, .k, (.s 2), .k, .k, (.s 8)])] .k (A.ar2 (r_cue_moveAt))) :=
 Sound.wrap (Sound.run2 (X := x_cue_moveAt) (fn := Try.f58) (ann := (.s .n (.s .n .n))) .F trivial (Snd.of rfl (All.cons (s_slices_BinarySearchFunc_api_Move_api_Key _ (dyn_of (DAll.cons (nm_sound s_cue_moveAt_fn1 (by kernel_rfl) rfl) DAll.nil))) All.nil) (dyn_of (DAll.cons (nm_sound s_cue_moveAt_fn1 (by kernel_rfl) rfl) DAll.nil))) Try.func58 Try.call58 (fun a0 a1 σ => by kernel_rfl)) _ _ _ rfl rfl
theorem s_cue_moveAt : Sound Try.prog nmT 58 m_cue_moveAt := w_cue_moveAt
noncomputable def x_cue_move : Fx := ⟨Try.prog, nmT, A.tab (fun _ _ => none) [], (fun _ _ _ => none), [3, 4, 5], [], 19, []⟩
theorem w_cue_move : Sound Try.prog nmT 60 (A.wrap true [] .k (A.ar2 (r_cue_move))) :=
 Sound.wrap (Sound.run2 (X := x_cue_move) (fn := Try.f60) (ann := (.s .n (.s .n (.s .n .n)))) .F trivial (Snd.of rfl All.nil (fun _ => Sound.none)) Try.func60 Try.call60 (fun a0 a1 σ => by kernel_rfl)) _ _ _ rfl rfl
theorem s_cue_move : Sound Try.prog nmT 60 m_cue_move := w_cue_move
noncomputable def x_slices_Reverse_api_Move : Fx := ⟨Try.prog, nmT, A.tab (fun _ _ => none) [], (fun _ _ _ => none), [], [], 28, []⟩
theorem w_slices_Reverse_api_Move : Sound Try.prog nmT 183 (A.wrap false [] .k (A.ar1 (r_slices_Reverse_api_Move))) :=
 Sound.wrap (Sound.run1 (X := x_slices_Reverse_api_Move) (fn := Try.f183) (ann := (.s .n (.b (.l [2, 3] [.exit 0] (.s (.s .n (.j .n .n)) (.s (.b .n) .n)))))) .K trivial (Snd.of rfl All.nil (fun _ => Sound.none)) Try.func183 Try.call183 (fun a0 σ => by kernel_rfl)) _ _ _ rfl rfl
theorem s_slices_Reverse_api_Move : Sound Try.prog nmT 183 m_slices_Reverse_api_Move := w_slices_Reverse_api_Move
noncomputable def x_slices_rotateLeft_api_Move : Fx := ⟨Try.prog, nmT, A.tab (fun _ _ => none) [(183, m_slices_Reverse_api_Move)], (fun _ _ _ => none), [], [], 14, []⟩
theorem w_slices_rotateLeft_api_Move : Sound Try.prog nmT 160 (A.wrap false [] .k (A.ar2 (r_slices_rotateLeft_api_Move))) :=
 Sound.wrap (Sound.run2 (X := x_slices_rotateLeft_api_Move) (fn := Try.f160) (ann := (.s .n (.s .n .n))) .K trivial (Snd.of rfl (All.cons s_slices_Reverse_api_Move All.nil) (fun _ => Sound.none)) Try.func160 Try.call160 (fun a0 a1 σ => by kernel_rfl)) _ _ _ rfl rfl
theorem s_slices_rotateLeft_api_Move : Sound Try.prog nmT 160 m_slices_rotateLeft_api_Move := w_slices_rotateLeft_api_Move
noncomputable def x_slices_rotateRight_api_Move : Fx := ⟨Try.prog, nmT, A.tab (fun _ _ => none) [(160, m_slices_rotateLeft_api_Move)], (fun _ _ _ => none), [], [], 10, []⟩
theorem w_slices_rotateRight_api_Move : Sound Try.prog nmT 132 (A.wrap false [] .k (A.ar2 (r_slices_rotateRight_api_Move))) :=
 Sound.wrap (Sound.run2 (X := x_slices_rotateRight_api_Move) (fn := Try.f132) (ann := .n) .K trivial (Snd.of rfl (All.cons s_slices_rotateLeft_api_Move All.nil) (fun _ => Sound.none)) Try.func132 Try.call132 (fun a0 a1 σ => by kernel_rfl)) _ _ _ rfl rfl
theorem s_slices_rotateRight_api_Move : Sound Try.prog nmT 132 m_slices_rotateRight_api_Move := w_slices_rotateRight_api_Move
noncomputable def x_slices_Insert_api_Move : Fx := ⟨Try.prog, nmT, A.tab (fun _ _ => none) [(131, m_slices_overlaps), (132, m_slices_rotateRight_api_Move)], (fun _ _ _ => none), [], [], 95, []⟩
theorem w_slices_Insert_api_Move : Sound Try.prog nmT 101 (A.wrap false [] .k (A.ar3 (r_slices_Insert_api_Move))) :=
 Sound.wrap (Sound.run3 (X := x_slices_Insert_api_Move) (fn := Try.f101) (ann := (.s .n (.s .n (.s .n (.s (.s .n (.j (.s .n .n) .n)) (.s .n (.s (.s .n (.j (.s .n .n) .n)) (.s (.s .n (.j (.s .n (.s .n (.s .n (.s .n .n)))) .n)) (.s .n (.s (.s .n (.j (.s .n (.s .n (.s .n .n))) .n)) (.s .n (.s .n (.s .n .n))))))))))))) .R trivial (Snd.of rfl (All.cons s_slices_overlaps_api_Move_ (All.cons s_slices_rotateRight_api_Move All.nil)) (fun _ => Sound.none)) Try.func101 Try.call101 (fun a0 a1 a2 σ => by kernel_rfl)) _ _ _ rfl rfl
theorem s_slices_Insert_api_Move : Sound Try.prog nmT 101 m_slices_Insert_api_Move := w_slices_Insert_api_Move
noncomputable def x_cue_put : Fx := ⟨Try.prog, nmT, A.tab (fun _ _ => none) [(58, m_cue_moveAt), (101, m_slices_Insert_api_Move)], (fun _ _ _ => none), [3], [], 34, [101]⟩
theorem w_cue_put : Sound Try.prog nmT 59 (A.wrap false [] .k (A.ar2 (r_cue_put))) :=
 Sound.wrap (Sound.run2 (X := x_cue_put) (fn := Try.f59) (ann := (.s .n (.s .n (.s (.s .n (.j (.s .n .n) .n)) .n)))) .K trivial (Snd.of rfl (All.cons s_cue_moveAt (All.cons s_slices_Insert_api_Move All.nil)) (fun _ => Sound.none)) Try.func59 Try.call59 (fun a0 a1 σ => by kernel_rfl)) _ _ _ rfl rfl
theorem s_cue_put : Sound Try.prog nmT 59 m_cue_put := w_cue_put
noncomputable def x_cue_done : Fx := ⟨Try.prog, nmT, A.tab (fun _ _ => none) [(35, m_cue_form)], (fun _ _ _ => none), [], [], 11, []⟩
theorem w_cue_done : Sound Try.prog nmT 40 (A.wrap false [] .k (A.ar1 (r_cue_done))) :=
 Sound.wrap (Sound.run1 (X := x_cue_done) (fn := Try.f40) (ann := (.s .n (.s (.s .n (.s .n (.j (.s .n .n) .n))) (.s .n .n)))) .K trivial (Snd.of rfl (All.cons s_cue_form All.nil) (fun _ => Sound.none)) Try.func40 Try.call40 (fun a0 σ => by kernel_rfl)) _ _ _ rfl rfl
theorem s_cue_done : Sound Try.prog nmT 40 m_cue_done := w_cue_done
noncomputable def x_cue_Block : Fx := ⟨Try.prog, nmT, A.tab (fun _ _ => none) [(35, m_cue_form), (36, m_cue_place), (53, m_cue_copied), (55, m_cue_state), (58, m_cue_moveAt), (60, m_cue_move), (59, m_cue_put), (40, m_cue_done)], (fun _ _ _ => none), [11], [], 66, [59]⟩
theorem w_cue_Block : Sound Try.prog nmT 17 (A.wrap true [(.e 11 [.k, .k, .k, .k, .k, .k, .k, (.s 2), .k, .k, (.s 8)])] (.t [(.e 11 [.k, .k, .k, .k, .k, .k, .k, (.s 2), .k, .k, (.s 8)]), .k]) (A.ar2 (r_cue_Block))) :=
 Sound.wrap (Sound.run2 (X := x_cue_Block) (fn := Try.f17) (ann := (.s .n (.s (.s .n (.s .n (.j (.s .n .n) .n))) (.s .n (.s (.s .n (.j (.s .n .n) .n)) (.s .n (.s .n (.s (.s .n (.b (.lc [] [.exit 0] (.s .n (.s (.j .n .n) (.b (.s .n (.s .n (.s .n (.c [] .n .n)))))))))) (.s .n (.s .n .n)))))))))) (.N (A.nn (.t [(.e 11 [.k, .k, .k, .k, .k, .k, .k, (.s 2), .k, .k, (.s 8)]), .k]))) (fun _ _ _ h => nn_rep _ _ _ rfl h) (Snd.of rfl (All.cons s_cue_form (All.cons s_cue_place (All.cons s_cue_copied (All.cons s_cue_state (All.cons s_cue_moveAt (All.cons s_cue_move (All.cons s_cue_put (All.cons s_cue_done All.nil)))))))) (fun _ => Sound.none)) Try.func17 Try.call17 (fun a0 a1 σ => by kernel_rfl)) _ _ _ rfl rfl
theorem s_cue_Block : Sound Try.prog nmT 17 m_cue_Block := w_cue_Block
noncomputable def x_R5_At : Fx := ⟨Try.prog, nmT, A.tab (fun _ _ => none) [], (fun _ _ _ => none), [6], [], 20, []⟩
theorem w_R5_At : Sound Try.prog nmT 43 (A.wrap true [(.e 11 [.k, .k, .k, .k, .k, .k, .k, (.s 2), .k, .k, (.s 8)])] .k (A.ar2 (r_R5_At))) :=
 Sound.wrap (Sound.run2 (X := x_R5_At) (fn := Try.f43) (ann := (.s .n (.s (.s .n (.b (.l [4, 9] [.exit 0, .ret] (.s .n (.s (.j .n .n) (.s (.b (.s .n (.s .n (.j (.s .n .n) .n)))) .n)))))) (.s .n .n)))) .F trivial (Snd.of rfl All.nil (fun _ => Sound.none)) Try.func43 Try.call43 (fun a0 a1 σ => by kernel_rfl)) _ _ _ rfl rfl
theorem s_R5_At : Sound Try.prog nmT 43 m_R5_At := w_R5_At
noncomputable def x_R5_State : Fx := ⟨Try.prog, nmT, A.tab (fun _ _ => none) [(42, m_R5_CheckForm), (43, m_R5_At), (57, m_R5_Before)], (fun _ _ _ => none), [], [], 22, []⟩
theorem w_R5_State : Sound Try.prog nmT 61 (A.wrap true [(.e 11 [.k, .k, .k, .k, .k, .k, .k, (.s 2), .k, .k, (.s 8)])] (.t [(.s 5), .k]) (A.ar2 (r_R5_State))) :=
 Sound.wrap (Sound.run2 (X := x_R5_State) (fn := Try.f61) (ann := (.s .n (.s (.s .n (.s .n (.j (.s .n .n) .n))) (.s .n (.s (.s .n (.j (.s .n .n) .n)) (.s .n .n)))))) .F trivial (Snd.of rfl (All.cons s_R5_CheckForm (All.cons s_R5_At (All.cons s_R5_Before All.nil))) (fun _ => Sound.none)) Try.func61 Try.call61 (fun a0 a1 σ => by kernel_rfl)) _ _ _ rfl rfl
theorem s_R5_State : Sound Try.prog nmT 61 m_R5_State := w_R5_State
noncomputable def x_R5_moveOf : Fx := ⟨Try.prog, nmT, A.tab (fun _ _ => none) [(100, m_R4_Before)], (fun _ _ _ => none), [3], [], 36, []⟩
theorem w_R5_moveOf : Sound Try.prog nmT 47 (A.wrap true [(.s 8)] .k (A.ar2 (r_R5_moveOf))) :=
 Sound.wrap (Sound.run2 (X := x_R5_moveOf) (fn := Try.f47) (ann := (.s .n (.s .n (.s (.b (.l [3, 6] [.exit 0] (.s (.s .n (.j .n .n)) (.b .n)))) (.s .n .n))))) .F trivial (Snd.of rfl (All.cons s_R4_Before All.nil) (fun _ => Sound.none)) Try.func47 Try.call47 (fun a0 a1 σ => by kernel_rfl)) _ _ _ rfl rfl
theorem s_R5_moveOf : Sound Try.prog nmT 47 m_R5_moveOf := w_R5_moveOf
noncomputable def x_R5_put : Fx := ⟨Try.prog, nmT, A.tab (fun _ _ => none) [(47, m_R5_moveOf), (101, m_slices_Insert_api_Move)], (fun _ _ _ => none), [3], [], 25, []⟩
theorem w_R5_put : Sound Try.prog nmT 48 (A.wrap false [] .k (A.ar2 (r_R5_put))) :=
 Sound.wrap (Sound.run2 (X := x_R5_put) (fn := Try.f48) (ann := (.s .n (.s .n (.s (.s .n (.j (.s .n (.s .n .n)) .n)) (.s .n .n))))) .K trivial (Snd.of rfl (All.cons s_R5_moveOf (All.cons s_slices_Insert_api_Move All.nil)) (fun _ => Sound.none)) Try.func48 Try.call48 (fun a0 a1 σ => by kernel_rfl)) _ _ _ rfl rfl
theorem s_R5_put : Sound Try.prog nmT 48 m_R5_put := w_R5_put
noncomputable def x_R5_restore : Fx := ⟨Try.prog, nmT, A.tab (fun _ _ => none) [(47, m_R5_moveOf), (106, m_R5_valued), (48, m_R5_put)], (fun _ _ _ => none), [5], [], 30, [48]⟩
theorem w_R5_restore : Sound Try.prog nmT 62 (A.wrap false [] .k (A.ar3 (r_R5_restore))) :=
 Sound.wrap (Sound.run3 (X := x_R5_restore) (fn := Try.f62) (ann := (.s .n (.s .n (.s .n (.c [] .n .n))))) .K trivial (Snd.of rfl (All.cons s_R5_moveOf (All.cons s_R5_valued (All.cons s_R5_put All.nil))) (fun _ => Sound.none)) Try.func62 Try.call62 (fun a0 a1 a2 σ => by kernel_rfl)) _ _ _ rfl rfl
theorem s_R5_restore : Sound Try.prog nmT 62 m_R5_restore := w_R5_restore
noncomputable def x_R5_shaped : Fx := ⟨Try.prog, nmT, A.tab (fun _ _ => none) [(42, m_R5_CheckForm)], (fun _ _ _ => none), [], [], 11, []⟩
theorem w_R5_shaped : Sound Try.prog nmT 49 (A.wrap false [] .k (A.ar1 (r_R5_shaped))) :=
 Sound.wrap (Sound.run1 (X := x_R5_shaped) (fn := Try.f49) (ann := (.s .n (.s (.s .n (.s .n (.j (.s .n .n) .n))) (.s .n .n)))) .K trivial (Snd.of rfl (All.cons s_R5_CheckForm All.nil) (fun _ => Sound.none)) Try.func49 Try.call49 (fun a0 σ => by kernel_rfl)) _ _ _ rfl rfl
theorem s_R5_shaped : Sound Try.prog nmT 49 m_R5_shaped := w_R5_shaped
noncomputable def x_R5_Block : Fx := ⟨Try.prog, nmT, A.tab (fun _ _ => none) [(61, m_R5_State), (45, m_R5_cloned), (43, m_R5_At), (62, m_R5_restore), (49, m_R5_shaped)], (fun _ _ _ => none), [11], [], 47, []⟩
theorem w_R5_Block : Sound Try.prog nmT 18 (A.wrap true [(.e 11 [.k, .k, .k, .k, .k, .k, .k, (.s 2), .k, .k, (.s 8)])] (.t [(.e 11 [.k, .k, .k, .k, .k, .k, .k, (.s 2), .k, .k, (.s 8)]), .k]) (A.ar2 (r_R5_Block))) :=
 Sound.wrap (Sound.run2 (X := x_R5_Block) (fn := Try.f18) (ann := (.s .n (.s .n (.s (.s .n (.j (.s .n .n) .n)) (.s .n (.s .n (.s .n (.s (.s .n (.b (.l [33] [.exit 0] (.s .n (.s (.j .n .n) (.s (.b (.s .n .n)) .n)))))) (.s .n .n))))))))) .F trivial (Snd.of rfl (All.cons s_R5_State (All.cons s_R5_cloned (All.cons s_R5_At (All.cons s_R5_restore (All.cons s_R5_shaped All.nil))))) (fun _ => Sound.none)) Try.func18 Try.call18 (fun a0 a1 σ => by kernel_rfl)) _ _ _ rfl rfl
theorem s_R5_Block : Sound Try.prog nmT 18 m_R5_Block := w_R5_Block
noncomputable def x_cue_Unblock : Fx := ⟨Try.prog, nmT, A.tab (fun _ _ => none) [(35, m_cue_form), (36, m_cue_place), (53, m_cue_copied), (55, m_cue_state), (54, m_cue_idle)], (fun _ _ _ => none), [], [], 38, [54]⟩
theorem w_cue_Unblock : Sound Try.prog nmT 19 (A.wrap true [(.e 11 [.k, .k, .k, .k, .k, .k, .k, (.s 2), .k, .k, (.s 8)])] (.t [(.e 11 [.k, .k, .k, .k, .k, .k, .k, (.s 2), .k, .k, (.s 8)]), .k]) (A.ar2 (r_cue_Unblock))) :=
 Sound.wrap (Sound.run2 (X := x_cue_Unblock) (fn := Try.f19) (ann := (.s .n (.s (.s .n (.s .n (.j (.s .n .n) .n))) (.s .n (.s (.s .n (.j (.s .n .n) .n)) (.s .n (.s .n (.s .n (.s .n .n))))))))) .F trivial (Snd.of rfl (All.cons s_cue_form (All.cons s_cue_place (All.cons s_cue_copied (All.cons s_cue_state (All.cons s_cue_idle All.nil))))) (fun _ => Sound.none)) Try.func19 Try.call19 (fun a0 a1 σ => by kernel_rfl)) _ _ _ rfl rfl
theorem s_cue_Unblock : Sound Try.prog nmT 19 m_cue_Unblock := w_cue_Unblock
noncomputable def x_R5_Unblock : Fx := ⟨Try.prog, nmT, A.tab (fun _ _ => none) [(42, m_R5_CheckForm), (43, m_R5_At), (45, m_R5_cloned), (57, A.finC (.s 5) m_R5_Before), (56, m_R5_cleaned)], (fun _ _ _ => none), [], [], 38, [56]⟩
theorem w_R5_Unblock : Sound Try.prog nmT 20 (A.wrap true [(.e 11 [.k, .k, .k, .k, .k, .k, .k, (.s 2), .k, .k, (.s 8)])] (.t [(.e 11 [.k, .k, .k, .k, .k, .k, .k, (.s 2), .k, .k, (.s 8)]), .k]) (A.ar2 (r_R5_Unblock))) :=
 Sound.wrap (Sound.run2 (X := x_R5_Unblock) (fn := Try.f20) (ann := (.s .n (.s (.s .n (.s .n (.j (.s .n .n) .n))) (.s .n (.s (.s .n (.j (.s .n .n) .n)) (.s .n (.s .n (.s .n (.s .n .n))))))))) .F trivial (Snd.of rfl (All.cons s_R5_CheckForm (All.cons s_R5_At (All.cons s_R5_cloned (All.cons (Sound.finC s_R5_Before (.s 5) rfl) (All.cons s_R5_cleaned All.nil))))) (fun _ => Sound.none)) Try.func20 Try.call20 (fun a0 a1 σ => by kernel_rfl)) _ _ _ rfl rfl
theorem s_R5_Unblock : Sound Try.prog nmT 20 m_R5_Unblock := w_R5_Unblock
noncomputable def x_W5_CueCleansMatchSpec : Fx := ⟨Try.prog, nmT, A.tab (fun _ _ => none) [(15, m_cue_Clean), (16, m_R5_Clean), (14, m_W5_sameList), (17, m_cue_Block), (18, m_R5_Block), (19, m_cue_Unblock), (20, m_R5_Unblock)], (fun _ _ _ => none), [], [], 69, []⟩
theorem w_W5_CueCleansMatchSpec : Sound Try.prog nmT 4 (A.wrap true [(.e 11 [.k, .k, .k, .k, .k, .k, .k, (.s 2), .k, .k, (.s 8)])] .k (A.ar2 (r_W5_CueCleansMatchSpec))) :=
 Sound.wrap (Sound.run2 (X := x_W5_CueCleansMatchSpec) (fn := Try.f4) (ann := (.s .n (.s .n (.s .n (.s (.s .n (.j (.s .n .n) .n)) (.s .n (.s .n (.s (.s .n (.j (.s .n .n) .n)) (.s .n (.s .n (.s .n .n))))))))))) .F trivial (Snd.of rfl (All.cons s_cue_Clean (All.cons s_R5_Clean (All.cons s_W5_sameList (All.cons s_cue_Block (All.cons s_R5_Block (All.cons s_cue_Unblock (All.cons s_R5_Unblock All.nil))))))) (fun _ => Sound.none)) Try.func4 Try.call4 (fun a0 a1 σ => by kernel_rfl)) _ _ _ rfl rfl
theorem s_W5_CueCleansMatchSpec : Sound Try.prog nmT 4 m_W5_CueCleansMatchSpec := w_W5_CueCleansMatchSpec
end Go.Proofs.Ytphgchakmkankaa

namespace Go.Proofs.Ytphgchakmkankaa
set_option linter.unusedSectionVars false
set_option linter.unusedSimpArgs false
set_option linter.unusedVariables false
open Go.ChangeShapes Go.WideShapes Go.ChangeAt Go.RowKit

theorem own : ownKnob Try.prog.godebug = none := by kernel_rfl
theorem laidOut : laidOutB Try.prog = true := by kernel_rfl

theorem trodAll_below {H : Type} {enc : TypeId × Value → H} {P : Program} (hl : laidOutB P = true) {W W' : World} (hb : Below W.heap.size W W') :
  ∀ {ts : List TypeId} {vs : List Value} {ds : List (DataW H)} {ps : List MemPlace}, (ts.all fun t => P.readableRec t && decide (t < P.types.size)) = true →
   DataW.TrodAll enc P W 0 (fun _ => true) true ts vs ds ps → (∀ x ∈ ps, x.block < W.heap.size) → DataW.TrodAll enc P W' 0 (fun b => decide (b < W.heap.size)) true ts vs ds ps
 | [], [], [], _, _, h, _ => h
 | t :: ts, v :: vs, d :: ds, ps, hts, h, hlt => by
  obtain ⟨p, q, h1, h2, rfl⟩ := h
  simp only [List.all_cons, Bool.and_eq_true, decide_eq_true_eq] at hts
  exact ⟨p, q, Below.trod hl hts.1.1 hts.1.2 h1 hb (fun x hx => hlt x (List.mem_append_left _ hx)),
   trodAll_below hl hb (by simpa using hts.2) h2 (fun x hx => hlt x (List.mem_append_right _ hx)), rfl⟩
 | [], _ :: _, _, _, _, h, _ => h.elim
 | [], [], _ :: _, _, _, h, _ => h.elim
 | _ :: _, [], _, _, _, h, _ => h.elim
 | _ :: _, _ :: _, [], _, _, h, _ => h.elim

theorem law_post {H : Type} {enc : TypeId × Value → H} {f : Func} {s : ChangeSpec} {W W' : World} {args : Array Value} {ds gs : List (DataW H)} {before : List MemPlace} {t : TypeId}
  (hts : (f.params.toList.all fun t => Try.prog.readableRec t && decide (t < Try.prog.types.size)) = true) (hrt : f.resultTypes = #[t]) (ht : Try.prog.underlying t = some .bool) (hvs : s.vars = [])
  (hW : DataW.Whole enc Try.prog f.params.toList s.vars false W args.toList ds gs before) (hb : Below W.heap.size W W')
  (hspec : s.fn H (ds ++ gs) = { results := [.lit (.bool true)], args := ds }) :
  s.post enc Try.prog f false true false false W args (.bool true) W' := by
 have hW' := hW
 obtain ⟨p, q, hA, hV, rfl, hfz, hnd⟩ := hW
 have hlt : ∀ x ∈ p ++ q, x.block < W.heap.size := fun x hx => hW'.lt x hx
 refine ⟨ds, gs, p ++ q, [], p, [], hW', ?_, ?_, ?_, hb.frame _, fun h => by cases h⟩
 ·rw [hspec, hrt]
  exact trodAll_cons_mk (shut_bool ht _) trodAll_mk0
 ·rw [hspec]
  exact trodAll_below laidOut hb hts hA (fun x hx => hlt x (List.mem_append_left _ hx))
 ·rw [hspec, hvs]
  exact rfl
end Go.Proofs.Ytphgchakmkankaa

namespace Go.Proofs.Ytphgchakmkankaa
set_option linter.unusedSectionVars false
open Go.RowKit
set_option linter.unusedVariables false
set_option linter.unusedSimpArgs false

def Gr (w w' : World) : Prop := Below w.heap.size w w'
theorem Gr.refl (w : World) : Gr w w := Below.refl _ _
theorem Gr.below {w w' : World} (h : Gr w w') : Below w.heap.size w w' := h
theorem Gr.of {w w' : World} (h : Below w.heap.size w w') : Gr w w' := h
theorem Gr.trans {a b c : World} (h : Gr a b) (k : Gr b c) : Gr a c := Below.trans h (Below.mono k (Below.size h))
theorem Gr.alloc {a b : World} (h : Gr a b) (o : Obj) : Gr a (b.alloc o) := Below.alloc h (Below.size h) o
theorem Gr.drew {a b : World} (h : Gr a b) : Gr a b.drew := Below.drew h
theorem Gr.set {a b : World} (h : Gr a b) {k o : Nat} (hp : a.heap.size ≤ k) (u : Value) : Gr a (b.setCell ⟨k, o, none⟩ u) := Below.setCell h hp u
theorem Gr.put {a b : World} {k o : Nat} (hp : a.heap.size ≤ k) (h : Gr a b) (u : Value) : Gr a (b.setCell ⟨k, o, none⟩ u) := Below.setCell h hp u
theorem Gr.after {a b c : World} (k : Gr b c) (h : Gr a b) : Gr a c := h.trans k
theorem Gr.size {a b : World} (h : Gr a b) : a.heap.size ≤ b.heap.size := Below.size h
theorem Gr.cell {a b : World} (h : Gr a b) {p : Addr} {v : Value} (hc : a.cell? p = some v) : b.cell? p = some v := by
 by_cases hp : p.block < a.heap.size
 ·rw [Below.cell h hp]; exact hc
 ·have : a.heap[p.block]? = none := Array.getElem?_eq_none (by omega)
  simp [World.cell?, this] at hc
theorem Gr.free {a b : World} (h : Gr a b) {p : Addr} (hp : p.block < a.heap.size) {x : Bool} (hc : a.frozen? p = x) : b.frozen? p = x := by
 rw [Below.frozen h hp]; exact hc
theorem Gr.lt {w w1 : World} {o : Obj} (h : Gr (w.alloc o) w1) : w.heap.size < w1.heap.size := by have := h.size; simp at this; omega
abbrev Box1 (w : World) (b : Nat) (v0 : Value) : Prop := (w.cell? ⟨b, 0, none⟩ = some v0) ∧ (w.frozen? ⟨b, 0, none⟩ = false) ∧ b < w.heap.size
theorem Box1.mono {w w1 : World} {b : Nat} {v0 : Value} (k : Box1 w b v0) (h : Gr w w1) : Box1 w1 b v0 := by
 obtain ⟨k0, f0, hlt⟩ := k
 exact ⟨h.cell k0, h.free (by exact hlt) f0, Nat.lt_of_lt_of_le hlt h.size⟩
theorem Box1.of {w : World} {b : Nat} {v0 : Value} {t : TypeId} (h : w.heap[b]? = some (.cells #[v0] t (0, 0))) : Box1 w b v0 := by
 have hlt : b < w.heap.size := (Array.getElem?_eq_some_iff.1 h).1
 refine ⟨?_, ?_, hlt⟩ <;> simp [World.cell?, World.frozen?, h]
theorem Box1.at {w w1 : World} {b : Nat} {v0 : Value} {t : TypeId} (g : Gr w w1) (h : w.heap[b]? = some (.cells #[v0] t (0, 0))) : Box1 w1 b v0 := (Box1.of h).mono g
abbrev Box2 (w : World) (b : Nat) (v0 v1 : Value) : Prop := (w.cell? ⟨b, 0, none⟩ = some v0 ∧ w.cell? ⟨b, 1, none⟩ = some v1) ∧ (w.frozen? ⟨b, 0, none⟩ = false ∧ w.frozen? ⟨b, 1, none⟩ = false) ∧ b < w.heap.size
theorem Box2.mono {w w1 : World} {b : Nat} {v0 v1 : Value} (k : Box2 w b v0 v1) (h : Gr w w1) : Box2 w1 b v0 v1 := by
 obtain ⟨⟨k0, k1⟩, ⟨f0, f1⟩, hlt⟩ := k
 exact ⟨⟨h.cell k0, h.cell k1⟩, ⟨h.free (by exact hlt) f0, h.free (by exact hlt) f1⟩, Nat.lt_of_lt_of_le hlt h.size⟩
theorem Box2.of {w : World} {b : Nat} {v0 v1 : Value} {t : TypeId} (h : w.heap[b]? = some (.cells #[v0, v1] t (0, 0))) : Box2 w b v0 v1 := by
 have hlt : b < w.heap.size := (Array.getElem?_eq_some_iff.1 h).1
 refine ⟨⟨?_, ?_⟩, ⟨?_, ?_⟩, hlt⟩ <;> simp [World.cell?, World.frozen?, h]
theorem Box2.at {w w1 : World} {b : Nat} {v0 v1 : Value} {t : TypeId} (g : Gr w w1) (h : w.heap[b]? = some (.cells #[v0, v1] t (0, 0))) : Box2 w1 b v0 v1 := (Box2.of h).mono g
abbrev Box3 (w : World) (b : Nat) (v0 v1 v2 : Value) : Prop := (w.cell? ⟨b, 0, none⟩ = some v0 ∧ w.cell? ⟨b, 1, none⟩ = some v1 ∧ w.cell? ⟨b, 2, none⟩ = some v2) ∧ (w.frozen? ⟨b, 0, none⟩ = false ∧ w.frozen? ⟨b, 1, none⟩ = false ∧ w.frozen? ⟨b, 2, none⟩ = false) ∧ b < w.heap.size
theorem Box3.mono {w w1 : World} {b : Nat} {v0 v1 v2 : Value} (k : Box3 w b v0 v1 v2) (h : Gr w w1) : Box3 w1 b v0 v1 v2 := by
 obtain ⟨⟨k0, k1, k2⟩, ⟨f0, f1, f2⟩, hlt⟩ := k
 exact ⟨⟨h.cell k0, h.cell k1, h.cell k2⟩, ⟨h.free (by exact hlt) f0, h.free (by exact hlt) f1, h.free (by exact hlt) f2⟩, Nat.lt_of_lt_of_le hlt h.size⟩
theorem Box3.of {w : World} {b : Nat} {v0 v1 v2 : Value} {t : TypeId} (h : w.heap[b]? = some (.cells #[v0, v1, v2] t (0, 0))) : Box3 w b v0 v1 v2 := by
 have hlt : b < w.heap.size := (Array.getElem?_eq_some_iff.1 h).1
 refine ⟨⟨?_, ?_, ?_⟩, ⟨?_, ?_, ?_⟩, hlt⟩ <;> simp [World.cell?, World.frozen?, h]
theorem Box3.at {w w1 : World} {b : Nat} {v0 v1 v2 : Value} {t : TypeId} (g : Gr w w1) (h : w.heap[b]? = some (.cells #[v0, v1, v2] t (0, 0))) : Box3 w1 b v0 v1 v2 := (Box3.of h).mono g
abbrev Box4 (w : World) (b : Nat) (v0 v1 v2 v3 : Value) : Prop := (w.cell? ⟨b, 0, none⟩ = some v0 ∧ w.cell? ⟨b, 1, none⟩ = some v1 ∧ w.cell? ⟨b, 2, none⟩ = some v2 ∧ w.cell? ⟨b, 3, none⟩ = some v3) ∧ (w.frozen? ⟨b, 0, none⟩ = false ∧ w.frozen? ⟨b, 1, none⟩ = false ∧ w.frozen? ⟨b, 2, none⟩ = false ∧ w.frozen? ⟨b, 3, none⟩ = false) ∧ b < w.heap.size
theorem Box4.mono {w w1 : World} {b : Nat} {v0 v1 v2 v3 : Value} (k : Box4 w b v0 v1 v2 v3) (h : Gr w w1) : Box4 w1 b v0 v1 v2 v3 := by
 obtain ⟨⟨k0, k1, k2, k3⟩, ⟨f0, f1, f2, f3⟩, hlt⟩ := k
 exact ⟨⟨h.cell k0, h.cell k1, h.cell k2, h.cell k3⟩, ⟨h.free (by exact hlt) f0, h.free (by exact hlt) f1, h.free (by exact hlt) f2, h.free (by exact hlt) f3⟩, Nat.lt_of_lt_of_le hlt h.size⟩
theorem Box4.of {w : World} {b : Nat} {v0 v1 v2 v3 : Value} {t : TypeId} (h : w.heap[b]? = some (.cells #[v0, v1, v2, v3] t (0, 0))) : Box4 w b v0 v1 v2 v3 := by
 have hlt : b < w.heap.size := (Array.getElem?_eq_some_iff.1 h).1
 refine ⟨⟨?_, ?_, ?_, ?_⟩, ⟨?_, ?_, ?_, ?_⟩, hlt⟩ <;> simp [World.cell?, World.frozen?, h]
theorem Box4.at {w w1 : World} {b : Nat} {v0 v1 v2 v3 : Value} {t : TypeId} (g : Gr w w1) (h : w.heap[b]? = some (.cells #[v0, v1, v2, v3] t (0, 0))) : Box4 w1 b v0 v1 v2 v3 := (Box4.of h).mono g
abbrev Box5 (w : World) (b : Nat) (v0 v1 v2 v3 v4 : Value) : Prop := (w.cell? ⟨b, 0, none⟩ = some v0 ∧ w.cell? ⟨b, 1, none⟩ = some v1 ∧ w.cell? ⟨b, 2, none⟩ = some v2 ∧ w.cell? ⟨b, 3, none⟩ = some v3 ∧ w.cell? ⟨b, 4, none⟩ = some v4) ∧ (w.frozen? ⟨b, 0, none⟩ = false ∧ w.frozen? ⟨b, 1, none⟩ = false ∧ w.frozen? ⟨b, 2, none⟩ = false ∧ w.frozen? ⟨b, 3, none⟩ = false ∧ w.frozen? ⟨b, 4, none⟩ = false) ∧ b < w.heap.size
theorem Box5.mono {w w1 : World} {b : Nat} {v0 v1 v2 v3 v4 : Value} (k : Box5 w b v0 v1 v2 v3 v4) (h : Gr w w1) : Box5 w1 b v0 v1 v2 v3 v4 := by
 obtain ⟨⟨k0, k1, k2, k3, k4⟩, ⟨f0, f1, f2, f3, f4⟩, hlt⟩ := k
 exact ⟨⟨h.cell k0, h.cell k1, h.cell k2, h.cell k3, h.cell k4⟩, ⟨h.free (by exact hlt) f0, h.free (by exact hlt) f1, h.free (by exact hlt) f2, h.free (by exact hlt) f3, h.free (by exact hlt) f4⟩, Nat.lt_of_lt_of_le hlt h.size⟩
theorem Box5.of {w : World} {b : Nat} {v0 v1 v2 v3 v4 : Value} {t : TypeId} (h : w.heap[b]? = some (.cells #[v0, v1, v2, v3, v4] t (0, 0))) : Box5 w b v0 v1 v2 v3 v4 := by
 have hlt : b < w.heap.size := (Array.getElem?_eq_some_iff.1 h).1
 refine ⟨⟨?_, ?_, ?_, ?_, ?_⟩, ⟨?_, ?_, ?_, ?_, ?_⟩, hlt⟩ <;> simp [World.cell?, World.frozen?, h]
theorem Box5.at {w w1 : World} {b : Nat} {v0 v1 v2 v3 v4 : Value} {t : TypeId} (g : Gr w w1) (h : w.heap[b]? = some (.cells #[v0, v1, v2, v3, v4] t (0, 0))) : Box5 w1 b v0 v1 v2 v3 v4 := (Box5.of h).mono g
abbrev Box6 (w : World) (b : Nat) (v0 v1 v2 v3 v4 v5 : Value) : Prop := (w.cell? ⟨b, 0, none⟩ = some v0 ∧ w.cell? ⟨b, 1, none⟩ = some v1 ∧ w.cell? ⟨b, 2, none⟩ = some v2 ∧ w.cell? ⟨b, 3, none⟩ = some v3 ∧ w.cell? ⟨b, 4, none⟩ = some v4 ∧ w.cell? ⟨b, 5, none⟩ = some v5) ∧ (w.frozen? ⟨b, 0, none⟩ = false ∧ w.frozen? ⟨b, 1, none⟩ = false ∧ w.frozen? ⟨b, 2, none⟩ = false ∧ w.frozen? ⟨b, 3, none⟩ = false ∧ w.frozen? ⟨b, 4, none⟩ = false ∧ w.frozen? ⟨b, 5, none⟩ = false) ∧ b < w.heap.size
theorem Box6.mono {w w1 : World} {b : Nat} {v0 v1 v2 v3 v4 v5 : Value} (k : Box6 w b v0 v1 v2 v3 v4 v5) (h : Gr w w1) : Box6 w1 b v0 v1 v2 v3 v4 v5 := by
 obtain ⟨⟨k0, k1, k2, k3, k4, k5⟩, ⟨f0, f1, f2, f3, f4, f5⟩, hlt⟩ := k
 exact ⟨⟨h.cell k0, h.cell k1, h.cell k2, h.cell k3, h.cell k4, h.cell k5⟩, ⟨h.free (by exact hlt) f0, h.free (by exact hlt) f1, h.free (by exact hlt) f2, h.free (by exact hlt) f3, h.free (by exact hlt) f4, h.free (by exact hlt) f5⟩, Nat.lt_of_lt_of_le hlt h.size⟩
theorem Box6.of {w : World} {b : Nat} {v0 v1 v2 v3 v4 v5 : Value} {t : TypeId} (h : w.heap[b]? = some (.cells #[v0, v1, v2, v3, v4, v5] t (0, 0))) : Box6 w b v0 v1 v2 v3 v4 v5 := by
 have hlt : b < w.heap.size := (Array.getElem?_eq_some_iff.1 h).1
 refine ⟨⟨?_, ?_, ?_, ?_, ?_, ?_⟩, ⟨?_, ?_, ?_, ?_, ?_, ?_⟩, hlt⟩ <;> simp [World.cell?, World.frozen?, h]
theorem Box6.at {w w1 : World} {b : Nat} {v0 v1 v2 v3 v4 v5 : Value} {t : TypeId} (g : Gr w w1) (h : w.heap[b]? = some (.cells #[v0, v1, v2, v3, v4, v5] t (0, 0))) : Box6 w1 b v0 v1 v2 v3 v4 v5 := (Box6.of h).mono g
abbrev Box7 (w : World) (b : Nat) (v0 v1 v2 v3 v4 v5 v6 : Value) : Prop := (w.cell? ⟨b, 0, none⟩ = some v0 ∧ w.cell? ⟨b, 1, none⟩ = some v1 ∧ w.cell? ⟨b, 2, none⟩ = some v2 ∧ w.cell? ⟨b, 3, none⟩ = some v3 ∧ w.cell? ⟨b, 4, none⟩ = some v4 ∧ w.cell? ⟨b, 5, none⟩ = some v5 ∧ w.cell? ⟨b, 6, none⟩ = some v6) ∧ (w.frozen? ⟨b, 0, none⟩ = false ∧ w.frozen? ⟨b, 1, none⟩ = false ∧ w.frozen? ⟨b, 2, none⟩ = false ∧ w.frozen? ⟨b, 3, none⟩ = false ∧ w.frozen? ⟨b, 4, none⟩ = false ∧ w.frozen? ⟨b, 5, none⟩ = false ∧ w.frozen? ⟨b, 6, none⟩ = false) ∧ b < w.heap.size
theorem Box7.mono {w w1 : World} {b : Nat} {v0 v1 v2 v3 v4 v5 v6 : Value} (k : Box7 w b v0 v1 v2 v3 v4 v5 v6) (h : Gr w w1) : Box7 w1 b v0 v1 v2 v3 v4 v5 v6 := by
 obtain ⟨⟨k0, k1, k2, k3, k4, k5, k6⟩, ⟨f0, f1, f2, f3, f4, f5, f6⟩, hlt⟩ := k
 exact ⟨⟨h.cell k0, h.cell k1, h.cell k2, h.cell k3, h.cell k4, h.cell k5, h.cell k6⟩, ⟨h.free (by exact hlt) f0, h.free (by exact hlt) f1, h.free (by exact hlt) f2, h.free (by exact hlt) f3, h.free (by exact hlt) f4, h.free (by exact hlt) f5, h.free (by exact hlt) f6⟩, Nat.lt_of_lt_of_le hlt h.size⟩
theorem Box7.of {w : World} {b : Nat} {v0 v1 v2 v3 v4 v5 v6 : Value} {t : TypeId} (h : w.heap[b]? = some (.cells #[v0, v1, v2, v3, v4, v5, v6] t (0, 0))) : Box7 w b v0 v1 v2 v3 v4 v5 v6 := by
 have hlt : b < w.heap.size := (Array.getElem?_eq_some_iff.1 h).1
 refine ⟨⟨?_, ?_, ?_, ?_, ?_, ?_, ?_⟩, ⟨?_, ?_, ?_, ?_, ?_, ?_, ?_⟩, hlt⟩ <;> simp [World.cell?, World.frozen?, h]
theorem Box7.at {w w1 : World} {b : Nat} {v0 v1 v2 v3 v4 v5 v6 : Value} {t : TypeId} (g : Gr w w1) (h : w.heap[b]? = some (.cells #[v0, v1, v2, v3, v4, v5, v6] t (0, 0))) : Box7 w1 b v0 v1 v2 v3 v4 v5 v6 := (Box7.of h).mono g
abbrev Box8 (w : World) (b : Nat) (v0 v1 v2 v3 v4 v5 v6 v7 : Value) : Prop := (w.cell? ⟨b, 0, none⟩ = some v0 ∧ w.cell? ⟨b, 1, none⟩ = some v1 ∧ w.cell? ⟨b, 2, none⟩ = some v2 ∧ w.cell? ⟨b, 3, none⟩ = some v3 ∧ w.cell? ⟨b, 4, none⟩ = some v4 ∧ w.cell? ⟨b, 5, none⟩ = some v5 ∧ w.cell? ⟨b, 6, none⟩ = some v6 ∧ w.cell? ⟨b, 7, none⟩ = some v7) ∧ (w.frozen? ⟨b, 0, none⟩ = false ∧ w.frozen? ⟨b, 1, none⟩ = false ∧ w.frozen? ⟨b, 2, none⟩ = false ∧ w.frozen? ⟨b, 3, none⟩ = false ∧ w.frozen? ⟨b, 4, none⟩ = false ∧ w.frozen? ⟨b, 5, none⟩ = false ∧ w.frozen? ⟨b, 6, none⟩ = false ∧ w.frozen? ⟨b, 7, none⟩ = false) ∧ b < w.heap.size
theorem Box8.mono {w w1 : World} {b : Nat} {v0 v1 v2 v3 v4 v5 v6 v7 : Value} (k : Box8 w b v0 v1 v2 v3 v4 v5 v6 v7) (h : Gr w w1) : Box8 w1 b v0 v1 v2 v3 v4 v5 v6 v7 := by
 obtain ⟨⟨k0, k1, k2, k3, k4, k5, k6, k7⟩, ⟨f0, f1, f2, f3, f4, f5, f6, f7⟩, hlt⟩ := k
 exact ⟨⟨h.cell k0, h.cell k1, h.cell k2, h.cell k3, h.cell k4, h.cell k5, h.cell k6, h.cell k7⟩, ⟨h.free (by exact hlt) f0, h.free (by exact hlt) f1, h.free (by exact hlt) f2, h.free (by exact hlt) f3, h.free (by exact hlt) f4, h.free (by exact hlt) f5, h.free (by exact hlt) f6, h.free (by exact hlt) f7⟩, Nat.lt_of_lt_of_le hlt h.size⟩
theorem Box8.of {w : World} {b : Nat} {v0 v1 v2 v3 v4 v5 v6 v7 : Value} {t : TypeId} (h : w.heap[b]? = some (.cells #[v0, v1, v2, v3, v4, v5, v6, v7] t (0, 0))) : Box8 w b v0 v1 v2 v3 v4 v5 v6 v7 := by
 have hlt : b < w.heap.size := (Array.getElem?_eq_some_iff.1 h).1
 refine ⟨⟨?_, ?_, ?_, ?_, ?_, ?_, ?_, ?_⟩, ⟨?_, ?_, ?_, ?_, ?_, ?_, ?_, ?_⟩, hlt⟩ <;> simp [World.cell?, World.frozen?, h]
theorem Box8.at {w w1 : World} {b : Nat} {v0 v1 v2 v3 v4 v5 v6 v7 : Value} {t : TypeId} (g : Gr w w1) (h : w.heap[b]? = some (.cells #[v0, v1, v2, v3, v4, v5, v6, v7] t (0, 0))) : Box8 w1 b v0 v1 v2 v3 v4 v5 v6 v7 := (Box8.of h).mono g
abbrev Box9 (w : World) (b : Nat) (v0 v1 v2 v3 v4 v5 v6 v7 v8 : Value) : Prop := (w.cell? ⟨b, 0, none⟩ = some v0 ∧ w.cell? ⟨b, 1, none⟩ = some v1 ∧ w.cell? ⟨b, 2, none⟩ = some v2 ∧ w.cell? ⟨b, 3, none⟩ = some v3 ∧ w.cell? ⟨b, 4, none⟩ = some v4 ∧ w.cell? ⟨b, 5, none⟩ = some v5 ∧ w.cell? ⟨b, 6, none⟩ = some v6 ∧ w.cell? ⟨b, 7, none⟩ = some v7 ∧ w.cell? ⟨b, 8, none⟩ = some v8) ∧ (w.frozen? ⟨b, 0, none⟩ = false ∧ w.frozen? ⟨b, 1, none⟩ = false ∧ w.frozen? ⟨b, 2, none⟩ = false ∧ w.frozen? ⟨b, 3, none⟩ = false ∧ w.frozen? ⟨b, 4, none⟩ = false ∧ w.frozen? ⟨b, 5, none⟩ = false ∧ w.frozen? ⟨b, 6, none⟩ = false ∧ w.frozen? ⟨b, 7, none⟩ = false ∧ w.frozen? ⟨b, 8, none⟩ = false) ∧ b < w.heap.size
theorem Box9.mono {w w1 : World} {b : Nat} {v0 v1 v2 v3 v4 v5 v6 v7 v8 : Value} (k : Box9 w b v0 v1 v2 v3 v4 v5 v6 v7 v8) (h : Gr w w1) : Box9 w1 b v0 v1 v2 v3 v4 v5 v6 v7 v8 := by
 obtain ⟨⟨k0, k1, k2, k3, k4, k5, k6, k7, k8⟩, ⟨f0, f1, f2, f3, f4, f5, f6, f7, f8⟩, hlt⟩ := k
 exact ⟨⟨h.cell k0, h.cell k1, h.cell k2, h.cell k3, h.cell k4, h.cell k5, h.cell k6, h.cell k7, h.cell k8⟩, ⟨h.free (by exact hlt) f0, h.free (by exact hlt) f1, h.free (by exact hlt) f2, h.free (by exact hlt) f3, h.free (by exact hlt) f4, h.free (by exact hlt) f5, h.free (by exact hlt) f6, h.free (by exact hlt) f7, h.free (by exact hlt) f8⟩, Nat.lt_of_lt_of_le hlt h.size⟩
theorem Box9.of {w : World} {b : Nat} {v0 v1 v2 v3 v4 v5 v6 v7 v8 : Value} {t : TypeId} (h : w.heap[b]? = some (.cells #[v0, v1, v2, v3, v4, v5, v6, v7, v8] t (0, 0))) : Box9 w b v0 v1 v2 v3 v4 v5 v6 v7 v8 := by
 have hlt : b < w.heap.size := (Array.getElem?_eq_some_iff.1 h).1
 refine ⟨⟨?_, ?_, ?_, ?_, ?_, ?_, ?_, ?_, ?_⟩, ⟨?_, ?_, ?_, ?_, ?_, ?_, ?_, ?_, ?_⟩, hlt⟩ <;> simp [World.cell?, World.frozen?, h]
theorem Box9.at {w w1 : World} {b : Nat} {v0 v1 v2 v3 v4 v5 v6 v7 v8 : Value} {t : TypeId} (g : Gr w w1) (h : w.heap[b]? = some (.cells #[v0, v1, v2, v3, v4, v5, v6, v7, v8] t (0, 0))) : Box9 w1 b v0 v1 v2 v3 v4 v5 v6 v7 v8 := (Box9.of h).mono g
abbrev Box10 (w : World) (b : Nat) (v0 v1 v2 v3 v4 v5 v6 v7 v8 v9 : Value) : Prop := (w.cell? ⟨b, 0, none⟩ = some v0 ∧ w.cell? ⟨b, 1, none⟩ = some v1 ∧ w.cell? ⟨b, 2, none⟩ = some v2 ∧ w.cell? ⟨b, 3, none⟩ = some v3 ∧ w.cell? ⟨b, 4, none⟩ = some v4 ∧ w.cell? ⟨b, 5, none⟩ = some v5 ∧ w.cell? ⟨b, 6, none⟩ = some v6 ∧ w.cell? ⟨b, 7, none⟩ = some v7 ∧ w.cell? ⟨b, 8, none⟩ = some v8 ∧ w.cell? ⟨b, 9, none⟩ = some v9) ∧ (w.frozen? ⟨b, 0, none⟩ = false ∧ w.frozen? ⟨b, 1, none⟩ = false ∧ w.frozen? ⟨b, 2, none⟩ = false ∧ w.frozen? ⟨b, 3, none⟩ = false ∧ w.frozen? ⟨b, 4, none⟩ = false ∧ w.frozen? ⟨b, 5, none⟩ = false ∧ w.frozen? ⟨b, 6, none⟩ = false ∧ w.frozen? ⟨b, 7, none⟩ = false ∧ w.frozen? ⟨b, 8, none⟩ = false ∧ w.frozen? ⟨b, 9, none⟩ = false) ∧ b < w.heap.size
theorem Box10.mono {w w1 : World} {b : Nat} {v0 v1 v2 v3 v4 v5 v6 v7 v8 v9 : Value} (k : Box10 w b v0 v1 v2 v3 v4 v5 v6 v7 v8 v9) (h : Gr w w1) : Box10 w1 b v0 v1 v2 v3 v4 v5 v6 v7 v8 v9 := by
 obtain ⟨⟨k0, k1, k2, k3, k4, k5, k6, k7, k8, k9⟩, ⟨f0, f1, f2, f3, f4, f5, f6, f7, f8, f9⟩, hlt⟩ := k
 exact ⟨⟨h.cell k0, h.cell k1, h.cell k2, h.cell k3, h.cell k4, h.cell k5, h.cell k6, h.cell k7, h.cell k8, h.cell k9⟩, ⟨h.free (by exact hlt) f0, h.free (by exact hlt) f1, h.free (by exact hlt) f2, h.free (by exact hlt) f3, h.free (by exact hlt) f4, h.free (by exact hlt) f5, h.free (by exact hlt) f6, h.free (by exact hlt) f7, h.free (by exact hlt) f8, h.free (by exact hlt) f9⟩, Nat.lt_of_lt_of_le hlt h.size⟩
theorem Box10.of {w : World} {b : Nat} {v0 v1 v2 v3 v4 v5 v6 v7 v8 v9 : Value} {t : TypeId} (h : w.heap[b]? = some (.cells #[v0, v1, v2, v3, v4, v5, v6, v7, v8, v9] t (0, 0))) : Box10 w b v0 v1 v2 v3 v4 v5 v6 v7 v8 v9 := by
 have hlt : b < w.heap.size := (Array.getElem?_eq_some_iff.1 h).1
 refine ⟨⟨?_, ?_, ?_, ?_, ?_, ?_, ?_, ?_, ?_, ?_⟩, ⟨?_, ?_, ?_, ?_, ?_, ?_, ?_, ?_, ?_, ?_⟩, hlt⟩ <;> simp [World.cell?, World.frozen?, h]
theorem Box10.at {w w1 : World} {b : Nat} {v0 v1 v2 v3 v4 v5 v6 v7 v8 v9 : Value} {t : TypeId} (g : Gr w w1) (h : w.heap[b]? = some (.cells #[v0, v1, v2, v3, v4, v5, v6, v7, v8, v9] t (0, 0))) : Box10 w1 b v0 v1 v2 v3 v4 v5 v6 v7 v8 v9 := (Box10.of h).mono g
abbrev Box11 (w : World) (b : Nat) (v0 v1 v2 v3 v4 v5 v6 v7 v8 v9 v10 : Value) : Prop := (w.cell? ⟨b, 0, none⟩ = some v0 ∧ w.cell? ⟨b, 1, none⟩ = some v1 ∧ w.cell? ⟨b, 2, none⟩ = some v2 ∧ w.cell? ⟨b, 3, none⟩ = some v3 ∧ w.cell? ⟨b, 4, none⟩ = some v4 ∧ w.cell? ⟨b, 5, none⟩ = some v5 ∧ w.cell? ⟨b, 6, none⟩ = some v6 ∧ w.cell? ⟨b, 7, none⟩ = some v7 ∧ w.cell? ⟨b, 8, none⟩ = some v8 ∧ w.cell? ⟨b, 9, none⟩ = some v9 ∧ w.cell? ⟨b, 10, none⟩ = some v10) ∧ (w.frozen? ⟨b, 0, none⟩ = false ∧ w.frozen? ⟨b, 1, none⟩ = false ∧ w.frozen? ⟨b, 2, none⟩ = false ∧ w.frozen? ⟨b, 3, none⟩ = false ∧ w.frozen? ⟨b, 4, none⟩ = false ∧ w.frozen? ⟨b, 5, none⟩ = false ∧ w.frozen? ⟨b, 6, none⟩ = false ∧ w.frozen? ⟨b, 7, none⟩ = false ∧ w.frozen? ⟨b, 8, none⟩ = false ∧ w.frozen? ⟨b, 9, none⟩ = false ∧ w.frozen? ⟨b, 10, none⟩ = false) ∧ b < w.heap.size
theorem Box11.mono {w w1 : World} {b : Nat} {v0 v1 v2 v3 v4 v5 v6 v7 v8 v9 v10 : Value} (k : Box11 w b v0 v1 v2 v3 v4 v5 v6 v7 v8 v9 v10) (h : Gr w w1) : Box11 w1 b v0 v1 v2 v3 v4 v5 v6 v7 v8 v9 v10 := by
 obtain ⟨⟨k0, k1, k2, k3, k4, k5, k6, k7, k8, k9, k10⟩, ⟨f0, f1, f2, f3, f4, f5, f6, f7, f8, f9, f10⟩, hlt⟩ := k
 exact ⟨⟨h.cell k0, h.cell k1, h.cell k2, h.cell k3, h.cell k4, h.cell k5, h.cell k6, h.cell k7, h.cell k8, h.cell k9, h.cell k10⟩, ⟨h.free (by exact hlt) f0, h.free (by exact hlt) f1, h.free (by exact hlt) f2, h.free (by exact hlt) f3, h.free (by exact hlt) f4, h.free (by exact hlt) f5, h.free (by exact hlt) f6, h.free (by exact hlt) f7, h.free (by exact hlt) f8, h.free (by exact hlt) f9, h.free (by exact hlt) f10⟩, Nat.lt_of_lt_of_le hlt h.size⟩
theorem Box11.of {w : World} {b : Nat} {v0 v1 v2 v3 v4 v5 v6 v7 v8 v9 v10 : Value} {t : TypeId} (h : w.heap[b]? = some (.cells #[v0, v1, v2, v3, v4, v5, v6, v7, v8, v9, v10] t (0, 0))) : Box11 w b v0 v1 v2 v3 v4 v5 v6 v7 v8 v9 v10 := by
 have hlt : b < w.heap.size := (Array.getElem?_eq_some_iff.1 h).1
 refine ⟨⟨?_, ?_, ?_, ?_, ?_, ?_, ?_, ?_, ?_, ?_, ?_⟩, ⟨?_, ?_, ?_, ?_, ?_, ?_, ?_, ?_, ?_, ?_, ?_⟩, hlt⟩ <;> simp [World.cell?, World.frozen?, h]
theorem Box11.at {w w1 : World} {b : Nat} {v0 v1 v2 v3 v4 v5 v6 v7 v8 v9 v10 : Value} {t : TypeId} (g : Gr w w1) (h : w.heap[b]? = some (.cells #[v0, v1, v2, v3, v4, v5, v6, v7, v8, v9, v10] t (0, 0))) : Box11 w1 b v0 v1 v2 v3 v4 v5 v6 v7 v8 v9 v10 := (Box11.of h).mono g
abbrev Box12 (w : World) (b : Nat) (v0 v1 v2 v3 v4 v5 v6 v7 v8 v9 v10 v11 : Value) : Prop := (w.cell? ⟨b, 0, none⟩ = some v0 ∧ w.cell? ⟨b, 1, none⟩ = some v1 ∧ w.cell? ⟨b, 2, none⟩ = some v2 ∧ w.cell? ⟨b, 3, none⟩ = some v3 ∧ w.cell? ⟨b, 4, none⟩ = some v4 ∧ w.cell? ⟨b, 5, none⟩ = some v5 ∧ w.cell? ⟨b, 6, none⟩ = some v6 ∧ w.cell? ⟨b, 7, none⟩ = some v7 ∧ w.cell? ⟨b, 8, none⟩ = some v8 ∧ w.cell? ⟨b, 9, none⟩ = some v9 ∧ w.cell? ⟨b, 10, none⟩ = some v10 ∧ w.cell? ⟨b, 11, none⟩ = some v11) ∧ (w.frozen? ⟨b, 0, none⟩ = false ∧ w.frozen? ⟨b, 1, none⟩ = false ∧ w.frozen? ⟨b, 2, none⟩ = false ∧ w.frozen? ⟨b, 3, none⟩ = false ∧ w.frozen? ⟨b, 4, none⟩ = false ∧ w.frozen? ⟨b, 5, none⟩ = false ∧ w.frozen? ⟨b, 6, none⟩ = false ∧ w.frozen? ⟨b, 7, none⟩ = false ∧ w.frozen? ⟨b, 8, none⟩ = false ∧ w.frozen? ⟨b, 9, none⟩ = false ∧ w.frozen? ⟨b, 10, none⟩ = false ∧ w.frozen? ⟨b, 11, none⟩ = false) ∧ b < w.heap.size
theorem Box12.mono {w w1 : World} {b : Nat} {v0 v1 v2 v3 v4 v5 v6 v7 v8 v9 v10 v11 : Value} (k : Box12 w b v0 v1 v2 v3 v4 v5 v6 v7 v8 v9 v10 v11) (h : Gr w w1) : Box12 w1 b v0 v1 v2 v3 v4 v5 v6 v7 v8 v9 v10 v11 := by
 obtain ⟨⟨k0, k1, k2, k3, k4, k5, k6, k7, k8, k9, k10, k11⟩, ⟨f0, f1, f2, f3, f4, f5, f6, f7, f8, f9, f10, f11⟩, hlt⟩ := k
 exact ⟨⟨h.cell k0, h.cell k1, h.cell k2, h.cell k3, h.cell k4, h.cell k5, h.cell k6, h.cell k7, h.cell k8, h.cell k9, h.cell k10, h.cell k11⟩, ⟨h.free (by exact hlt) f0, h.free (by exact hlt) f1, h.free (by exact hlt) f2, h.free (by exact hlt) f3, h.free (by exact hlt) f4, h.free (by exact hlt) f5, h.free (by exact hlt) f6, h.free (by exact hlt) f7, h.free (by exact hlt) f8, h.free (by exact hlt) f9, h.free (by exact hlt) f10, h.free (by exact hlt) f11⟩, Nat.lt_of_lt_of_le hlt h.size⟩
theorem Box12.of {w : World} {b : Nat} {v0 v1 v2 v3 v4 v5 v6 v7 v8 v9 v10 v11 : Value} {t : TypeId} (h : w.heap[b]? = some (.cells #[v0, v1, v2, v3, v4, v5, v6, v7, v8, v9, v10, v11] t (0, 0))) : Box12 w b v0 v1 v2 v3 v4 v5 v6 v7 v8 v9 v10 v11 := by
 have hlt : b < w.heap.size := (Array.getElem?_eq_some_iff.1 h).1
 refine ⟨⟨?_, ?_, ?_, ?_, ?_, ?_, ?_, ?_, ?_, ?_, ?_, ?_⟩, ⟨?_, ?_, ?_, ?_, ?_, ?_, ?_, ?_, ?_, ?_, ?_, ?_⟩, hlt⟩ <;> simp [World.cell?, World.frozen?, h]
theorem Box12.at {w w1 : World} {b : Nat} {v0 v1 v2 v3 v4 v5 v6 v7 v8 v9 v10 v11 : Value} {t : TypeId} (g : Gr w w1) (h : w.heap[b]? = some (.cells #[v0, v1, v2, v3, v4, v5, v6, v7, v8, v9, v10, v11] t (0, 0))) : Box12 w1 b v0 v1 v2 v3 v4 v5 v6 v7 v8 v9 v10 v11 := (Box12.of h).mono g
abbrev Box13 (w : World) (b : Nat) (v0 v1 v2 v3 v4 v5 v6 v7 v8 v9 v10 v11 v12 : Value) : Prop := (w.cell? ⟨b, 0, none⟩ = some v0 ∧ w.cell? ⟨b, 1, none⟩ = some v1 ∧ w.cell? ⟨b, 2, none⟩ = some v2 ∧ w.cell? ⟨b, 3, none⟩ = some v3 ∧ w.cell? ⟨b, 4, none⟩ = some v4 ∧ w.cell? ⟨b, 5, none⟩ = some v5 ∧ w.cell? ⟨b, 6, none⟩ = some v6 ∧ w.cell? ⟨b, 7, none⟩ = some v7 ∧ w.cell? ⟨b, 8, none⟩ = some v8 ∧ w.cell? ⟨b, 9, none⟩ = some v9 ∧ w.cell? ⟨b, 10, none⟩ = some v10 ∧ w.cell? ⟨b, 11, none⟩ = some v11 ∧ w.cell? ⟨b, 12, none⟩ = some v12) ∧ (w.frozen? ⟨b, 0, none⟩ = false ∧ w.frozen? ⟨b, 1, none⟩ = false ∧ w.frozen? ⟨b, 2, none⟩ = false ∧ w.frozen? ⟨b, 3, none⟩ = false ∧ w.frozen? ⟨b, 4, none⟩ = false ∧ w.frozen? ⟨b, 5, none⟩ = false ∧ w.frozen? ⟨b, 6, none⟩ = false ∧ w.frozen? ⟨b, 7, none⟩ = false ∧ w.frozen? ⟨b, 8, none⟩ = false ∧ w.frozen? ⟨b, 9, none⟩ = false ∧ w.frozen? ⟨b, 10, none⟩ = false ∧ w.frozen? ⟨b, 11, none⟩ = false ∧ w.frozen? ⟨b, 12, none⟩ = false) ∧ b < w.heap.size
theorem Box13.mono {w w1 : World} {b : Nat} {v0 v1 v2 v3 v4 v5 v6 v7 v8 v9 v10 v11 v12 : Value} (k : Box13 w b v0 v1 v2 v3 v4 v5 v6 v7 v8 v9 v10 v11 v12) (h : Gr w w1) : Box13 w1 b v0 v1 v2 v3 v4 v5 v6 v7 v8 v9 v10 v11 v12 := by
 obtain ⟨⟨k0, k1, k2, k3, k4, k5, k6, k7, k8, k9, k10, k11, k12⟩, ⟨f0, f1, f2, f3, f4, f5, f6, f7, f8, f9, f10, f11, f12⟩, hlt⟩ := k
 exact ⟨⟨h.cell k0, h.cell k1, h.cell k2, h.cell k3, h.cell k4, h.cell k5, h.cell k6, h.cell k7, h.cell k8, h.cell k9, h.cell k10, h.cell k11, h.cell k12⟩, ⟨h.free (by exact hlt) f0, h.free (by exact hlt) f1, h.free (by exact hlt) f2, h.free (by exact hlt) f3, h.free (by exact hlt) f4, h.free (by exact hlt) f5, h.free (by exact hlt) f6, h.free (by exact hlt) f7, h.free (by exact hlt) f8, h.free (by exact hlt) f9, h.free (by exact hlt) f10, h.free (by exact hlt) f11, h.free (by exact hlt) f12⟩, Nat.lt_of_lt_of_le hlt h.size⟩
theorem Box13.of {w : World} {b : Nat} {v0 v1 v2 v3 v4 v5 v6 v7 v8 v9 v10 v11 v12 : Value} {t : TypeId} (h : w.heap[b]? = some (.cells #[v0, v1, v2, v3, v4, v5, v6, v7, v8, v9, v10, v11, v12] t (0, 0))) : Box13 w b v0 v1 v2 v3 v4 v5 v6 v7 v8 v9 v10 v11 v12 := by
 have hlt : b < w.heap.size := (Array.getElem?_eq_some_iff.1 h).1
 refine ⟨⟨?_, ?_, ?_, ?_, ?_, ?_, ?_, ?_, ?_, ?_, ?_, ?_, ?_⟩, ⟨?_, ?_, ?_, ?_, ?_, ?_, ?_, ?_, ?_, ?_, ?_, ?_, ?_⟩, hlt⟩ <;> simp [World.cell?, World.frozen?, h]
theorem Box13.at {w w1 : World} {b : Nat} {v0 v1 v2 v3 v4 v5 v6 v7 v8 v9 v10 v11 v12 : Value} {t : TypeId} (g : Gr w w1) (h : w.heap[b]? = some (.cells #[v0, v1, v2, v3, v4, v5, v6, v7, v8, v9, v10, v11, v12] t (0, 0))) : Box13 w1 b v0 v1 v2 v3 v4 v5 v6 v7 v8 v9 v10 v11 v12 := (Box13.of h).mono g
abbrev Box14 (w : World) (b : Nat) (v0 v1 v2 v3 v4 v5 v6 v7 v8 v9 v10 v11 v12 v13 : Value) : Prop := (w.cell? ⟨b, 0, none⟩ = some v0 ∧ w.cell? ⟨b, 1, none⟩ = some v1 ∧ w.cell? ⟨b, 2, none⟩ = some v2 ∧ w.cell? ⟨b, 3, none⟩ = some v3 ∧ w.cell? ⟨b, 4, none⟩ = some v4 ∧ w.cell? ⟨b, 5, none⟩ = some v5 ∧ w.cell? ⟨b, 6, none⟩ = some v6 ∧ w.cell? ⟨b, 7, none⟩ = some v7 ∧ w.cell? ⟨b, 8, none⟩ = some v8 ∧ w.cell? ⟨b, 9, none⟩ = some v9 ∧ w.cell? ⟨b, 10, none⟩ = some v10 ∧ w.cell? ⟨b, 11, none⟩ = some v11 ∧ w.cell? ⟨b, 12, none⟩ = some v12 ∧ w.cell? ⟨b, 13, none⟩ = some v13) ∧ (w.frozen? ⟨b, 0, none⟩ = false ∧ w.frozen? ⟨b, 1, none⟩ = false ∧ w.frozen? ⟨b, 2, none⟩ = false ∧ w.frozen? ⟨b, 3, none⟩ = false ∧ w.frozen? ⟨b, 4, none⟩ = false ∧ w.frozen? ⟨b, 5, none⟩ = false ∧ w.frozen? ⟨b, 6, none⟩ = false ∧ w.frozen? ⟨b, 7, none⟩ = false ∧ w.frozen? ⟨b, 8, none⟩ = false ∧ w.frozen? ⟨b, 9, none⟩ = false ∧ w.frozen? ⟨b, 10, none⟩ = false ∧ w.frozen? ⟨b, 11, none⟩ = false ∧ w.frozen? ⟨b, 12, none⟩ = false ∧ w.frozen? ⟨b, 13, none⟩ = false) ∧ b < w.heap.size
theorem Box14.mono {w w1 : World} {b : Nat} {v0 v1 v2 v3 v4 v5 v6 v7 v8 v9 v10 v11 v12 v13 : Value} (k : Box14 w b v0 v1 v2 v3 v4 v5 v6 v7 v8 v9 v10 v11 v12 v13) (h : Gr w w1) : Box14 w1 b v0 v1 v2 v3 v4 v5 v6 v7 v8 v9 v10 v11 v12 v13 := by
 obtain ⟨⟨k0, k1, k2, k3, k4, k5, k6, k7, k8, k9, k10, k11, k12, k13⟩, ⟨f0, f1, f2, f3, f4, f5, f6, f7, f8, f9, f10, f11, f12, f13⟩, hlt⟩ := k
 exact ⟨⟨h.cell k0, h.cell k1, h.cell k2, h.cell k3, h.cell k4, h.cell k5, h.cell k6, h.cell k7, h.cell k8, h.cell k9, h.cell k10, h.cell k11, h.cell k12, h.cell k13⟩, ⟨h.free (by exact hlt) f0, h.free (by exact hlt) f1, h.free (by exact hlt) f2, h.free (by exact hlt) f3, h.free (by exact hlt) f4, h.free (by exact hlt) f5, h.free (by exact hlt) f6, h.free (by exact hlt) f7, h.free (by exact hlt) f8, h.free (by exact hlt) f9, h.free (by exact hlt) f10, h.free (by exact hlt) f11, h.free (by exact hlt) f12, h.free (by exact hlt) f13⟩, Nat.lt_of_lt_of_le hlt h.size⟩
theorem Box14.of {w : World} {b : Nat} {v0 v1 v2 v3 v4 v5 v6 v7 v8 v9 v10 v11 v12 v13 : Value} {t : TypeId} (h : w.heap[b]? = some (.cells #[v0, v1, v2, v3, v4, v5, v6, v7, v8, v9, v10, v11, v12, v13] t (0, 0))) : Box14 w b v0 v1 v2 v3 v4 v5 v6 v7 v8 v9 v10 v11 v12 v13 := by
 have hlt : b < w.heap.size := (Array.getElem?_eq_some_iff.1 h).1
 refine ⟨⟨?_, ?_, ?_, ?_, ?_, ?_, ?_, ?_, ?_, ?_, ?_, ?_, ?_, ?_⟩, ⟨?_, ?_, ?_, ?_, ?_, ?_, ?_, ?_, ?_, ?_, ?_, ?_, ?_, ?_⟩, hlt⟩ <;> simp [World.cell?, World.frozen?, h]
theorem Box14.at {w w1 : World} {b : Nat} {v0 v1 v2 v3 v4 v5 v6 v7 v8 v9 v10 v11 v12 v13 : Value} {t : TypeId} (g : Gr w w1) (h : w.heap[b]? = some (.cells #[v0, v1, v2, v3, v4, v5, v6, v7, v8, v9, v10, v11, v12, v13] t (0, 0))) : Box14 w1 b v0 v1 v2 v3 v4 v5 v6 v7 v8 v9 v10 v11 v12 v13 := (Box14.of h).mono g
end Go.Proofs.Ytphgchakmkankaa

namespace Go.Proofs.Ytphgchakmkankaa
set_option linter.unusedSectionVars false
open Go.RowKit Go.Deep
set_option linter.unusedVariables false
set_option linter.unusedSimpArgs false

theorem Gr.cells {w w' : World} (g : Gr w w') {a : Addr} {n : Nat} {cs : List Value} (h : ∀ i, i < n → w.cell? (a.add i) = cs[i]?) (hl : cs.length = n) : ∀ i, i < n → w'.cell? (a.add i) = cs[i]? := by
 intro i hi
 have h1 := h i hi
 rw [List.getElem?_eq_getElem (by omega)] at h1 ⊢
 exact g.cell h1

structure Cod (α : Type) where
 size : Nat
 is : World → List Value → α → Prop
 len : ∀ {w cs a}, is w cs a → cs.length = size
 mono : ∀ {w w' cs a}, is w cs a → Gr w w' → is w' cs a
 bulk : α → Nat

def intC : Cod Int where
 size := 1
 is := fun _ cs n => cs = [.int .i64 n] ∧ -9223372036854775808 ≤ n ∧ n ≤ 9223372036854775807
 len := fun h => by rw [h.1]; rfl
 mono := fun h _ => h
 bulk := fun _ => 1
def boolC : Cod Bool where
 size := 1
 is := fun _ cs b => cs = [.bool b]
 len := fun h => by rw [h]; rfl
 mono := fun h _ => h
 bulk := fun _ => 1
def strC : Cod ByteArray where
 size := 1
 is := fun _ cs s => cs = [.string s] ∧ s.size ≤ maxLen
 len := fun h => by rw [h.1]; rfl
 mono := fun h _ => h
 bulk := fun s => s.size + 1
def Cod.pair {α β : Type} (c : Cod α) (d : Cod β) : Cod (α × β) where
 size := c.size + d.size
 is := fun w cs x => c.is w (cs.take c.size) x.1 ∧ d.is w (cs.drop c.size) x.2
 len := fun {w cs a} h => by
  have h1 := c.len h.1
  have h2 := d.len h.2
  simp at h1 h2
  omega
 mono := fun h g => ⟨c.mono h.1 g, d.mono h.2 g⟩
 bulk := fun x => c.bulk x.1 + d.bulk x.2
def sliceC {α : Type} (c : Cod α) : Cod (List α) where
 size := 1
 is := fun w cs l => (cs = [.slice none 0 0] ∧ l = []) ∨ ∃ (b off : Nat) (sp : Option Nat) (cap : Nat), cs = [.slice (some ⟨b, off, sp⟩) l.length cap] ∧ l.length ≤ cap ∧ cap ≤ maxLen ∧
  ∀ i (h : i < l.length), sp = none ∧ ∃ cs', (∀ j, j < c.size → w.cell? ⟨b, off + (i * c.size + j), none⟩ = cs'[j]?) ∧ c.is w cs' l[i]
 len := fun h => by
  rcases h with ⟨rfl, _⟩ | ⟨b, off, sp, cap, rfl, _⟩ <;> rfl
 mono := fun {w w' cs l} h g => by
  rcases h with h | ⟨b, off, sp, cap, h1, h2, h3, h4⟩
  ·exact .inl h
  ·refine .inr ⟨b, off, sp, cap, h1, h2, h3, fun i hi => ?_⟩
   obtain ⟨e, cs', h5, h6⟩ := h4 i hi
   refine ⟨e, cs', fun j hj => ?_, c.mono h6 g⟩
   have h7 := h5 j hj
   have hl := c.len h6
   rw [List.getElem?_eq_getElem (by omega)] at h7 ⊢
   exact g.cell h7
 bulk := fun l => (l.map c.bulk).sum + 1

def ReadsF {α : Type} (F : Nat → Prop) (P : Program) (c : Cod α) (t : TypeId) : Prop :=
 ∀ ⦃H : Type⦄ ⦃enc : TypeId × Value → H⦄ ⦃w : World⦄ ⦃base : Nat⦄ ⦃spare : Nat → Bool⦄ ⦃held : Bool⦄ ⦃fuel : Nat⦄ ⦃cs : List Value⦄ ⦃x : DataW H × List MemPlace⦄, F fuel →
  DataW.trod enc P w base spare held fuel t cs = some x → ∃ a, c.is w cs a ∧ c.bulk a ≤ Rows.uptoBulk x.1
abbrev Reads {α : Type} (P : Program) (c : Cod α) (t : TypeId) : Prop := ReadsF (fun _ => True) P c t
theorem bulkAll_sum {H : Type} (l : List (DataW H)) : Rows.uptoBulkAll l = (l.map Rows.uptoBulk).sum := by
 induction l with
 | nil => rfl
 | cons x r ih => simp only [Rows.uptoBulkAll, List.map_cons, List.sum_cons, ih]
theorem sum_le_range {α : Type} (f : α → Nat) (D : Nat → Nat) : ∀ (l : List α) (o : Nat), (∀ i (h : i < l.length), f l[i] ≤ D (o + i)) → (l.map f).sum ≤ ((List.range' o l.length).map D).sum
 | [], _, _ => by simp
 | x :: r, o, h => by
  simp only [List.length_cons, List.range'_succ, List.map_cons, List.sum_cons]
  have h0 := h 0 (by simp)
  have := sum_le_range f D r (o + 1) (fun i hi => by have := h (i + 1) (by simp; omega); simp only [List.getElem_cons_succ] at this; rw [show o + 1 + i = o + (i + 1) by omega]; exact this)
  simp at h0
  omega

theorem wf_i64 {n : Int} (h : (Lit.int .i64 n).wf = true) : -9223372036854775808 ≤ n ∧ n ≤ 9223372036854775807 := by
 simpa [Lit.wf, IntKind.min, IntKind.max, IntKind.signed, IntKind.bits] using h
theorem bulk_pos {H : Type} (d : DataW H) : 1 ≤ Rows.uptoBulk d := by
 cases d with
 | lit l => cases l <;> simp [Rows.uptoBulk]
 | _ => simp [Rows.uptoBulk]
theorem reads_int {F : Nat → Prop} {P : Program} {t : TypeId} (ht : P.underlying t = some (.int .i64)) : ReadsF F P intC t := by
 intro H enc w base spare held fuel cs x _ h
 obtain ⟨n, rfl, _, hw⟩ := DataW.trod_int ht h
 exact ⟨n, ⟨rfl, wf_i64 hw⟩, bulk_pos _⟩
theorem reads_bool {F : Nat → Prop} {P : Program} {t : TypeId} (ht : P.underlying t = some .bool) : ReadsF F P boolC t := by
 intro H enc w base spare held fuel cs x _ h
 obtain ⟨n, rfl, _⟩ := DataW.trod_bool ht h
 exact ⟨n, rfl, bulk_pos _⟩
theorem reads_str {F : Nat → Prop} {P : Program} {t : TypeId} (ht : P.underlying t = some .string) : ReadsF F P strC t := by
 intro H enc w base spare held fuel cs x _ h
 obtain ⟨n, rfl, hx, hw⟩ := DataW.trod_string ht h
 refine ⟨n, ⟨rfl, hw⟩, ?_⟩
 subst hx
 simp only [Rows.uptoBulk, strC]
 first | (simp; done) | omega
theorem reads_slice {F : Nat → Prop} {P : Program} {α : Type} {c : Cod α} {t e : TypeId} (ht : P.underlying t = some (.slice e)) (hz : P.cellsOf e = c.size) (hp : 0 < c.size) (hr : ReadsF (fun m => F (m + 1)) P c e) : ReadsF F P (sliceC c) t := by
 intro H enc w base spare held fuel cs x hF h
 rcases DataW.trod_slice ht h with ⟨rfl, rfl⟩ | ⟨a, len, cap, elems, rest, n, hfu, rfl, hxe, hb, hl, hm, hlen, hel, h8, h9⟩
 ·exact ⟨[], .inl ⟨rfl, rfl⟩, by simp [sliceC, Rows.uptoBulk]⟩
 ·obtain ⟨D, hD⟩ : ∃ D : Nat → DataW H, D = fun i => (elems.getD i (.nil, [])).1 := ⟨_, rfl⟩
  have key : ∀ i, i < len → ∃ (y : α) (cs' : List Value), (∀ j, j < c.size → w.cell? (a.add (i * c.size + j)) = cs'[j]?) ∧ c.is w cs' y ∧ c.bulk y ≤ Rows.uptoBulk (D i) := by
   intro i hi
   have hk := hel i hi
   rw [List.getElem?_eq_getElem (by omega)] at hk
   obtain ⟨cs', h1, h2⟩ := Option.bind_eq_some_iff.1 hk
   obtain ⟨y, hy, hyb⟩ := hr (by subst hfu; exact hF) h2
   have hyb : c.bulk y ≤ Rows.uptoBulk (D i) := by
    rw [hD]
    simpa [List.getD, List.getElem?_eq_getElem (show i < elems.length by omega)] using hyb
   obtain ⟨_, h3, h4⟩ := World.cells?_some h1
   refine ⟨y, cs', fun j hj => ?_, hy, hyb⟩
   have := h4 j (by rw [hz]; exact hj)
   rw [hz] at this
   rw [← this, add_add]
  obtain ⟨ys, hys⟩ : ∃ ys : List α, ys.length = len ∧ ∀ i (h : i < ys.length), c.bulk ys[i] ≤ Rows.uptoBulk (D i) ∧ ∃ cs', (∀ j, j < c.size → w.cell? (a.add (i * c.size + j)) = cs'[j]?) ∧ c.is w cs' ys[i] := by
   clear hel hlen h hl hxe h8 h9
   induction len with
   | zero => exact ⟨[], rfl, fun i h => by simp at h⟩
   | succ k ih =>
    obtain ⟨ys, h1, h2⟩ := ih (fun i hi => key i (by omega))
    obtain ⟨y, cs', h3, h4, h4b⟩ := key k (by omega)
    refine ⟨ys ++ [y], by simp [h1], fun i hi => ?_⟩
    by_cases hk : i < ys.length
    ·rw [List.getElem_append_left hk]; exact h2 i hk
    ·have : i = k := by simp at hi; omega
     subst this
     rw [List.getElem_append_right (by omega)]
     simp only [h1, Nat.sub_self, List.getElem_cons_zero]
     exact ⟨h4b, cs', h3, h4⟩
  obtain ⟨h1, h2⟩ := hys
  obtain ⟨b, off, sp⟩ := a
  refine ⟨ys, .inr ⟨b, off, sp, cap, by rw [h1], by omega, hm, fun i hi => ?_⟩, ?_⟩
  ·have hs : sp = none := by
    cases sp with
    | none => rfl
    | some q =>
     exfalso
     obtain ⟨_, cs', h3, h4⟩ := h2 0 (by omega)
     have h5 := h3 0 hp
     have hl := c.len h4
     rw [List.getElem?_eq_getElem (by omega)] at h5
     simp only [Nat.zero_mul, Nat.zero_add, World.cell?, Addr.add] at h5
     split at h5 <;> simp at h5
   obtain ⟨_, cs', h3, h4⟩ := h2 i hi
   subst hs
   refine ⟨rfl, cs', fun j hj => ?_, h4⟩
   have h6 := h3 j hj
   rw [← h6]
   congr 1
   simp only [Addr.add]
   split
   ·rename_i h7; simp only [h7, Nat.add_zero]
   ·rfl
  ·subst hxe
   simp only [sliceC, Rows.uptoBulk, bulkAll_sum, List.map_map]
   have := sum_le_range c.bulk (fun i => Rows.uptoBulk (D i)) ys 0 (fun i hi => by simpa using (h2 i hi).1)
   rw [h1, ← List.range_eq_range'] at this
   have e : List.map (Rows.uptoBulk ∘ fun x => x.1) elems = List.map (fun i => Rows.uptoBulk (D i)) (List.range len) := by
    rw [← hlen, hD]
    apply List.ext_getElem (by simp)
    intro i h3 h4
    simp at h3
    simp [List.getD, List.getElem?_eq_getElem h3]
   rw [e]
   omega
theorem take_drop_all {α : Type} (l : List α) (o n : Nat) (h : l.length = o + n) : (l.drop o).take n = l.drop o := List.take_of_length_le (by simp; omega)

theorem list_of_len2 {α : Type} (l : List α) (h : l.length = 2) : ∃ x0 x1, l = [x0, x1] := by
 match l, h with
 | [x0, x1], _ => exact ⟨x0, x1, rfl⟩
theorem reads_struct2 {F : Nat → Prop} {P : Program} {α0 α1 : Type} {t : TypeId} {f0 f1 : Field} {c0 : Cod α0} {c1 : Cod α1} (ht : P.underlying t = some (.struct #[f0, f1])) (hz : P.cellsOf t = c0.size + c1.size) (o0 : f0.offset = 0) (o1 : f1.offset = c0.size) (z0 : P.cellsOf f0.type = c0.size) (z1 : P.cellsOf f1.type = c1.size) (r0 : ReadsF (fun m => F (m + 1)) P c0 f0.type) (r1 : ReadsF (fun m => F (m + 1)) P c1 f1.type) : ReadsF F P (c0.pair c1) t := by
 intro H enc w base spare held fuel cs x hF h
 obtain ⟨xs, m, hfu, hxx, hlen, hxl, hf⟩ := DataW.trod_struct ht h
 rw [hz] at hlen
 have hxl : xs.length = 2 := hxl
 have h0 := hf 0 f0 rfl
 rw [o0, z0, List.getElem?_eq_getElem (show 0 < xs.length by omega)] at h0
 obtain ⟨a0, k0, b0⟩ := r0 (by subst hfu; exact hF) h0
 have h1 := hf 1 f1 rfl
 rw [o1, z1, List.getElem?_eq_getElem (show 1 < xs.length by omega)] at h1
 obtain ⟨a1, k1, b1⟩ := r1 (by subst hfu; exact hF) h1
 rw [take_drop_all cs (c0.size) c1.size (by omega)] at k1
 refine ⟨(a0, a1), ?_, ?_⟩
 ·exact ⟨by simpa using k0, (by simpa [List.drop_drop, Nat.add_assoc] using k1)⟩
 ·subst hxx
  simp only [Rows.uptoBulk, bulkAll_sum, Cod.pair]
  have hs : (List.map Rows.uptoBulk (xs.map (·.1))).sum = Rows.uptoBulk xs[0].1 + (Rows.uptoBulk xs[1].1) := by
   obtain ⟨x0, x1, rfl⟩ := list_of_len2 xs hxl
   simp
  rw [hs]
  exact Nat.le_succ_of_le (Nat.add_le_add b0 b1)
theorem list_of_len6 {α : Type} (l : List α) (h : l.length = 6) : ∃ x0 x1 x2 x3 x4 x5, l = [x0, x1, x2, x3, x4, x5] := by
 match l, h with
 | [x0, x1, x2, x3, x4, x5], _ => exact ⟨x0, x1, x2, x3, x4, x5, rfl⟩
theorem reads_struct6 {F : Nat → Prop} {P : Program} {α0 α1 α2 α3 α4 α5 : Type} {t : TypeId} {f0 f1 f2 f3 f4 f5 : Field} {c0 : Cod α0} {c1 : Cod α1} {c2 : Cod α2} {c3 : Cod α3} {c4 : Cod α4} {c5 : Cod α5} (ht : P.underlying t = some (.struct #[f0, f1, f2, f3, f4, f5])) (hz : P.cellsOf t = c0.size + c1.size + c2.size + c3.size + c4.size + c5.size) (o0 : f0.offset = 0) (o1 : f1.offset = c0.size) (o2 : f2.offset = c0.size + c1.size) (o3 : f3.offset = c0.size + c1.size + c2.size) (o4 : f4.offset = c0.size + c1.size + c2.size + c3.size) (o5 : f5.offset = c0.size + c1.size + c2.size + c3.size + c4.size) (z0 : P.cellsOf f0.type = c0.size) (z1 : P.cellsOf f1.type = c1.size) (z2 : P.cellsOf f2.type = c2.size) (z3 : P.cellsOf f3.type = c3.size) (z4 : P.cellsOf f4.type = c4.size) (z5 : P.cellsOf f5.type = c5.size) (r0 : ReadsF (fun m => F (m + 1)) P c0 f0.type) (r1 : ReadsF (fun m => F (m + 1)) P c1 f1.type) (r2 : ReadsF (fun m => F (m + 1)) P c2 f2.type) (r3 : ReadsF (fun m => F (m + 1)) P c3 f3.type) (r4 : ReadsF (fun m => F (m + 1)) P c4 f4.type) (r5 : ReadsF (fun m => F (m + 1)) P c5 f5.type) : ReadsF F P (c0.pair (c1.pair (c2.pair (c3.pair (c4.pair c5))))) t := by
 intro H enc w base spare held fuel cs x hF h
 obtain ⟨xs, m, hfu, hxx, hlen, hxl, hf⟩ := DataW.trod_struct ht h
 rw [hz] at hlen
 have hxl : xs.length = 6 := hxl
 have h0 := hf 0 f0 rfl
 rw [o0, z0, List.getElem?_eq_getElem (show 0 < xs.length by omega)] at h0
 obtain ⟨a0, k0, b0⟩ := r0 (by subst hfu; exact hF) h0
 have h1 := hf 1 f1 rfl
 rw [o1, z1, List.getElem?_eq_getElem (show 1 < xs.length by omega)] at h1
 obtain ⟨a1, k1, b1⟩ := r1 (by subst hfu; exact hF) h1
 have h2 := hf 2 f2 rfl
 rw [o2, z2, List.getElem?_eq_getElem (show 2 < xs.length by omega)] at h2
 obtain ⟨a2, k2, b2⟩ := r2 (by subst hfu; exact hF) h2
 have h3 := hf 3 f3 rfl
 rw [o3, z3, List.getElem?_eq_getElem (show 3 < xs.length by omega)] at h3
 obtain ⟨a3, k3, b3⟩ := r3 (by subst hfu; exact hF) h3
 have h4 := hf 4 f4 rfl
 rw [o4, z4, List.getElem?_eq_getElem (show 4 < xs.length by omega)] at h4
 obtain ⟨a4, k4, b4⟩ := r4 (by subst hfu; exact hF) h4
 have h5 := hf 5 f5 rfl
 rw [o5, z5, List.getElem?_eq_getElem (show 5 < xs.length by omega)] at h5
 obtain ⟨a5, k5, b5⟩ := r5 (by subst hfu; exact hF) h5
 rw [take_drop_all cs (c0.size + c1.size + c2.size + c3.size + c4.size) c5.size (by omega)] at k5
 refine ⟨(a0, (a1, (a2, (a3, (a4, a5))))), ?_, ?_⟩
 ·exact ⟨by simpa using k0, ⟨by simpa [List.drop_drop, Nat.add_assoc] using k1, ⟨by simpa [List.drop_drop, Nat.add_assoc] using k2, ⟨by simpa [List.drop_drop, Nat.add_assoc] using k3, ⟨by simpa [List.drop_drop, Nat.add_assoc] using k4, (by simpa [List.drop_drop, Nat.add_assoc] using k5)⟩⟩⟩⟩⟩
 ·subst hxx
  simp only [Rows.uptoBulk, bulkAll_sum, Cod.pair]
  have hs : (List.map Rows.uptoBulk (xs.map (·.1))).sum = Rows.uptoBulk xs[0].1 + (Rows.uptoBulk xs[1].1 + (Rows.uptoBulk xs[2].1 + (Rows.uptoBulk xs[3].1 + (Rows.uptoBulk xs[4].1 + (Rows.uptoBulk xs[5].1))))) := by
   obtain ⟨x0, x1, x2, x3, x4, x5, rfl⟩ := list_of_len6 xs hxl
   simp
  rw [hs]
  exact Nat.le_succ_of_le (Nat.add_le_add b0 (Nat.add_le_add b1 (Nat.add_le_add b2 (Nat.add_le_add b3 (Nat.add_le_add b4 b5)))))
theorem list_of_len10 {α : Type} (l : List α) (h : l.length = 10) : ∃ x0 x1 x2 x3 x4 x5 x6 x7 x8 x9, l = [x0, x1, x2, x3, x4, x5, x6, x7, x8, x9] := by
 match l, h with
 | [x0, x1, x2, x3, x4, x5, x6, x7, x8, x9], _ => exact ⟨x0, x1, x2, x3, x4, x5, x6, x7, x8, x9, rfl⟩
theorem reads_struct10 {F : Nat → Prop} {P : Program} {α0 α1 α2 α3 α4 α5 α6 α7 α8 α9 : Type} {t : TypeId} {f0 f1 f2 f3 f4 f5 f6 f7 f8 f9 : Field} {c0 : Cod α0} {c1 : Cod α1} {c2 : Cod α2} {c3 : Cod α3} {c4 : Cod α4} {c5 : Cod α5} {c6 : Cod α6} {c7 : Cod α7} {c8 : Cod α8} {c9 : Cod α9} (ht : P.underlying t = some (.struct #[f0, f1, f2, f3, f4, f5, f6, f7, f8, f9])) (hz : P.cellsOf t = c0.size + c1.size + c2.size + c3.size + c4.size + c5.size + c6.size + c7.size + c8.size + c9.size) (o0 : f0.offset = 0) (o1 : f1.offset = c0.size) (o2 : f2.offset = c0.size + c1.size) (o3 : f3.offset = c0.size + c1.size + c2.size) (o4 : f4.offset = c0.size + c1.size + c2.size + c3.size) (o5 : f5.offset = c0.size + c1.size + c2.size + c3.size + c4.size) (o6 : f6.offset = c0.size + c1.size + c2.size + c3.size + c4.size + c5.size) (o7 : f7.offset = c0.size + c1.size + c2.size + c3.size + c4.size + c5.size + c6.size) (o8 : f8.offset = c0.size + c1.size + c2.size + c3.size + c4.size + c5.size + c6.size + c7.size) (o9 : f9.offset = c0.size + c1.size + c2.size + c3.size + c4.size + c5.size + c6.size + c7.size + c8.size) (z0 : P.cellsOf f0.type = c0.size) (z1 : P.cellsOf f1.type = c1.size) (z2 : P.cellsOf f2.type = c2.size) (z3 : P.cellsOf f3.type = c3.size) (z4 : P.cellsOf f4.type = c4.size) (z5 : P.cellsOf f5.type = c5.size) (z6 : P.cellsOf f6.type = c6.size) (z7 : P.cellsOf f7.type = c7.size) (z8 : P.cellsOf f8.type = c8.size) (z9 : P.cellsOf f9.type = c9.size) (r0 : ReadsF (fun m => F (m + 1)) P c0 f0.type) (r1 : ReadsF (fun m => F (m + 1)) P c1 f1.type) (r2 : ReadsF (fun m => F (m + 1)) P c2 f2.type) (r3 : ReadsF (fun m => F (m + 1)) P c3 f3.type) (r4 : ReadsF (fun m => F (m + 1)) P c4 f4.type) (r5 : ReadsF (fun m => F (m + 1)) P c5 f5.type) (r6 : ReadsF (fun m => F (m + 1)) P c6 f6.type) (r7 : ReadsF (fun m => F (m + 1)) P c7 f7.type) (r8 : ReadsF (fun m => F (m + 1)) P c8 f8.type) (r9 : ReadsF (fun m => F (m + 1)) P c9 f9.type) : ReadsF F P (c0.pair (c1.pair (c2.pair (c3.pair (c4.pair (c5.pair (c6.pair (c7.pair (c8.pair c9))))))))) t := by
 intro H enc w base spare held fuel cs x hF h
 obtain ⟨xs, m, hfu, hxx, hlen, hxl, hf⟩ := DataW.trod_struct ht h
 rw [hz] at hlen
 have hxl : xs.length = 10 := hxl
 have h0 := hf 0 f0 rfl
 rw [o0, z0, List.getElem?_eq_getElem (show 0 < xs.length by omega)] at h0
 obtain ⟨a0, k0, b0⟩ := r0 (by subst hfu; exact hF) h0
 have h1 := hf 1 f1 rfl
 rw [o1, z1, List.getElem?_eq_getElem (show 1 < xs.length by omega)] at h1
 obtain ⟨a1, k1, b1⟩ := r1 (by subst hfu; exact hF) h1
 have h2 := hf 2 f2 rfl
 rw [o2, z2, List.getElem?_eq_getElem (show 2 < xs.length by omega)] at h2
 obtain ⟨a2, k2, b2⟩ := r2 (by subst hfu; exact hF) h2
 have h3 := hf 3 f3 rfl
 rw [o3, z3, List.getElem?_eq_getElem (show 3 < xs.length by omega)] at h3
 obtain ⟨a3, k3, b3⟩ := r3 (by subst hfu; exact hF) h3
 have h4 := hf 4 f4 rfl
 rw [o4, z4, List.getElem?_eq_getElem (show 4 < xs.length by omega)] at h4
 obtain ⟨a4, k4, b4⟩ := r4 (by subst hfu; exact hF) h4
 have h5 := hf 5 f5 rfl
 rw [o5, z5, List.getElem?_eq_getElem (show 5 < xs.length by omega)] at h5
 obtain ⟨a5, k5, b5⟩ := r5 (by subst hfu; exact hF) h5
 have h6 := hf 6 f6 rfl
 rw [o6, z6, List.getElem?_eq_getElem (show 6 < xs.length by omega)] at h6
 obtain ⟨a6, k6, b6⟩ := r6 (by subst hfu; exact hF) h6
 have h7 := hf 7 f7 rfl
 rw [o7, z7, List.getElem?_eq_getElem (show 7 < xs.length by omega)] at h7
 obtain ⟨a7, k7, b7⟩ := r7 (by subst hfu; exact hF) h7
 have h8 := hf 8 f8 rfl
 rw [o8, z8, List.getElem?_eq_getElem (show 8 < xs.length by omega)] at h8
 obtain ⟨a8, k8, b8⟩ := r8 (by subst hfu; exact hF) h8
 have h9 := hf 9 f9 rfl
 rw [o9, z9, List.getElem?_eq_getElem (show 9 < xs.length by omega)] at h9
 obtain ⟨a9, k9, b9⟩ := r9 (by subst hfu; exact hF) h9
 rw [take_drop_all cs (c0.size + c1.size + c2.size + c3.size + c4.size + c5.size + c6.size + c7.size + c8.size) c9.size (by omega)] at k9
 refine ⟨(a0, (a1, (a2, (a3, (a4, (a5, (a6, (a7, (a8, a9))))))))), ?_, ?_⟩
 ·exact ⟨by simpa using k0, ⟨by simpa [List.drop_drop, Nat.add_assoc] using k1, ⟨by simpa [List.drop_drop, Nat.add_assoc] using k2, ⟨by simpa [List.drop_drop, Nat.add_assoc] using k3, ⟨by simpa [List.drop_drop, Nat.add_assoc] using k4, ⟨by simpa [List.drop_drop, Nat.add_assoc] using k5, ⟨by simpa [List.drop_drop, Nat.add_assoc] using k6, ⟨by simpa [List.drop_drop, Nat.add_assoc] using k7, ⟨by simpa [List.drop_drop, Nat.add_assoc] using k8, (by simpa [List.drop_drop, Nat.add_assoc] using k9)⟩⟩⟩⟩⟩⟩⟩⟩⟩
 ·subst hxx
  simp only [Rows.uptoBulk, bulkAll_sum, Cod.pair]
  have hs : (List.map Rows.uptoBulk (xs.map (·.1))).sum = Rows.uptoBulk xs[0].1 + (Rows.uptoBulk xs[1].1 + (Rows.uptoBulk xs[2].1 + (Rows.uptoBulk xs[3].1 + (Rows.uptoBulk xs[4].1 + (Rows.uptoBulk xs[5].1 + (Rows.uptoBulk xs[6].1 + (Rows.uptoBulk xs[7].1 + (Rows.uptoBulk xs[8].1 + (Rows.uptoBulk xs[9].1))))))))) := by
   obtain ⟨x0, x1, x2, x3, x4, x5, x6, x7, x8, x9, rfl⟩ := list_of_len10 xs hxl
   simp
  rw [hs]
  exact Nat.le_succ_of_le (Nat.add_le_add b0 (Nat.add_le_add b1 (Nat.add_le_add b2 (Nat.add_le_add b3 (Nat.add_le_add b4 (Nat.add_le_add b5 (Nat.add_le_add b6 (Nat.add_le_add b7 (Nat.add_le_add b8 b9)))))))))
end Go.Proofs.Ytphgchakmkankaa

namespace Go.Proofs.Ytphgchakmkankaa
set_option linter.unusedSectionVars false
open Go.RowKit Go.Deep
set_option linter.unusedVariables false
set_option linter.unusedSimpArgs false

theorem ReadsF.imp {F : Nat → Prop} {P : Program} {α β : Type} {c : Cod α} {d : Cod β} {t : TypeId} (h : ReadsF F P c t) (k : ∀ w cs a, c.is w cs a → ∃ b, d.is w cs b ∧ d.bulk b ≤ c.bulk a) : ReadsF F P d t := by
 intro H enc w base spare held fuel cs x hF h1
 obtain ⟨a, ha, hb⟩ := h hF h1
 obtain ⟨b, h2, h3⟩ := k _ _ _ ha
 exact ⟨b, h2, Nat.le_trans h3 hb⟩
theorem cells_split {α : Type} {cs a b : List α} {n : Nat} (h1 : cs.take n = a) (h2 : cs.drop n = b) : cs = a ++ b := by rw [← h1, ← h2, List.take_append_drop]
def pointC : Cod PointD where
 size := 2
 is := fun w cs x => cs = [.int .i64 x.time, .int .i64 x.way] ∧ inI x.time ∧ inI x.way
 len := fun h => by obtain ⟨rfl, _⟩ := h; rfl
 mono := fun h _ => h
 bulk := fun x => intC.bulk x.time + (intC.bulk x.way)
theorem reads_point : Reads Try.prog pointC 133 :=
 (reads_struct2 (F := fun _ => True) Try.underlying133 (c0 := intC) (c1 := intC) (by kernel_rfl) rfl rfl (by kernel_rfl) (by kernel_rfl) (reads_int Try.underlying3) (reads_int Try.underlying3)).imp fun w cs a h => by
  obtain ⟨a0, a1⟩ := a
  obtain ⟨h0, h1⟩ := h
  obtain ⟨e0, b0⟩ := h0
  obtain ⟨e1, b1⟩ := h1
  have e100 := cells_split e0 e1
  exact ⟨⟨a0, a1⟩, ⟨by rw [e100]; rfl, b0, b1⟩, Nat.le_refl _⟩
theorem reads_points : Reads Try.prog (sliceC pointC) 40 := reads_slice Try.underlying40 (c := pointC) (by kernel_rfl) (by decide) reads_point
def curveC : Cod CurveD where
 size := 2
 is := fun w cs x => ∃ v0 : Value, cs = [.int .i64 x.kind, v0] ∧ inI x.kind ∧ (sliceC pointC).is w [v0] x.points
 len := fun h => by obtain ⟨v0, rfl, _⟩ := h; rfl
 mono := fun {w w' cs x} h g => by obtain ⟨v0, e, h0, h1⟩ := h; exact ⟨v0, e, h0, ((sliceC pointC)).mono h1 g⟩
 bulk := fun x => intC.bulk x.kind + ((sliceC pointC).bulk x.points)
theorem reads_curve : Reads Try.prog curveC 42 :=
 (reads_struct2 (F := fun _ => True) Try.underlying42 (c0 := intC) (c1 := (sliceC pointC)) (by kernel_rfl) rfl rfl (by kernel_rfl) (by kernel_rfl) (reads_int Try.underlying3) reads_points).imp fun w cs a h => by
  obtain ⟨a0, a1⟩ := a
  obtain ⟨h0, h1⟩ := h
  obtain ⟨e0, b0⟩ := h0
  obtain ⟨s1, e1⟩ := List.length_eq_one_iff.1 (((sliceC pointC)).len h1); rw [e1] at h1
  have e100 := cells_split e0 e1
  exact ⟨⟨a0, a1⟩, ⟨s1, by rw [e100]; rfl, b0, h1⟩, Nat.le_refl _⟩
def keyC : Cod KeyD where
 size := 2
 is := fun w cs x => cs = [.int .i64 x.unit, .string x.param] ∧ inI x.unit ∧ x.param.size ≤ maxLen
 len := fun h => by obtain ⟨rfl, _⟩ := h; rfl
 mono := fun h _ => h
 bulk := fun x => intC.bulk x.unit + (strC.bulk x.param)
theorem reads_key : Reads Try.prog keyC 49 :=
 (reads_struct2 (F := fun _ => True) Try.underlying49 (c0 := intC) (c1 := strC) (by kernel_rfl) rfl rfl (by kernel_rfl) (by kernel_rfl) (reads_int Try.underlying3) (reads_str Try.underlying9)).imp fun w cs a h => by
  obtain ⟨a0, a1⟩ := a
  obtain ⟨h0, h1⟩ := h
  obtain ⟨e0, b0⟩ := h0
  obtain ⟨e1, b1⟩ := h1
  have e100 := cells_split e0 e1
  exact ⟨⟨a0, a1⟩, ⟨by rw [e100]; rfl, b0, b1⟩, Nat.le_refl _⟩
def valueC : Cod ValueD where
 size := 2
 is := fun w cs x => cs = [.int .i64 x.level, .int .i64 x.preset] ∧ inI x.level ∧ inI x.preset
 len := fun h => by obtain ⟨rfl, _⟩ := h; rfl
 mono := fun h _ => h
 bulk := fun x => intC.bulk x.level + (intC.bulk x.preset)
theorem reads_value : Reads Try.prog valueC 64 :=
 (reads_struct2 (F := fun _ => True) Try.underlying64 (c0 := intC) (c1 := intC) (by kernel_rfl) rfl rfl (by kernel_rfl) (by kernel_rfl) (reads_int Try.underlying3) (reads_int Try.underlying3)).imp fun w cs a h => by
  obtain ⟨a0, a1⟩ := a
  obtain ⟨h0, h1⟩ := h
  obtain ⟨e0, b0⟩ := h0
  obtain ⟨e1, b1⟩ := h1
  have e100 := cells_split e0 e1
  exact ⟨⟨a0, a1⟩, ⟨by rw [e100]; rfl, b0, b1⟩, Nat.le_refl _⟩
def moveC : Cod MoveD where
 size := 8
 is := fun w cs x => cs = [.int .i64 x.key.unit, .string x.key.param, .int .i64 x.value.level, .int .i64 x.value.preset, .bool x.release, .bool x.timed, .int .i64 x.delay, .int .i64 x.time] ∧ inI x.key.unit ∧ x.key.param.size ≤ maxLen ∧ inI x.value.level ∧ inI x.value.preset ∧ inI x.delay ∧ inI x.time
 len := fun h => by obtain ⟨rfl, _⟩ := h; rfl
 mono := fun h _ => h
 bulk := fun x => keyC.bulk x.key + (valueC.bulk x.value + (boolC.bulk x.release + (boolC.bulk x.timed + (intC.bulk x.delay + (intC.bulk x.time)))))
theorem reads_move : Reads Try.prog moveC 66 :=
 (reads_struct6 (F := fun _ => True) Try.underlying66 (c0 := keyC) (c1 := valueC) (c2 := boolC) (c3 := boolC) (c4 := intC) (c5 := intC) (by kernel_rfl) rfl rfl rfl rfl rfl rfl (by kernel_rfl) (by kernel_rfl) (by kernel_rfl) (by kernel_rfl) (by kernel_rfl) (by kernel_rfl) reads_key reads_value (reads_bool Try.underlying4) (reads_bool Try.underlying4) (reads_int Try.underlying3) (reads_int Try.underlying3)).imp fun w cs a h => by
  obtain ⟨a0, a1, a2, a3, a4, a5⟩ := a
  obtain ⟨h0, h1, h2, h3, h4, h5⟩ := h
  obtain ⟨e0, b0⟩ := h0
  obtain ⟨b0_0, b0_1⟩ := b0
  obtain ⟨e1, b1⟩ := h1
  obtain ⟨b1_0, b1_1⟩ := b1
  have e2 := h2; simp only [boolC] at e2
  have e3 := h3; simp only [boolC] at e3
  obtain ⟨e4, b4⟩ := h4
  obtain ⟨e5, b5⟩ := h5
  have e104 := cells_split e4 e5
  have e103 := cells_split e3 e104
  have e102 := cells_split e2 e103
  have e101 := cells_split e1 e102
  have e100 := cells_split e0 e101
  exact ⟨⟨a0, a1, a2, a3, a4, a5⟩, ⟨by rw [e100]; rfl, b0_0, b0_1, b1_0, b1_1, b4, b5⟩, Nat.le_refl _⟩
theorem reads_moves : Reads Try.prog (sliceC moveC) 31 := reads_slice Try.underlying31 (c := moveC) (by kernel_rfl) (by decide) reads_move
def cueC : Cod CueD where
 size := 11
 is := fun w cs x => ∃ v0 v1 : Value, cs = [.int .i64 x.number, .string x.title, .int .i64 x.delay, .int .i64 x.up, .int .i64 x.down, .int .i64 x.other, .int .i64 x.curve.kind, v0, .bool x.block, .int .i64 x.follow, v1] ∧ inI x.number ∧ x.title.size ≤ maxLen ∧ inI x.delay ∧ inI x.up ∧ inI x.down ∧ inI x.other ∧ inI x.curve.kind ∧ (sliceC pointC).is w [v0] x.curve.points ∧ inI x.follow ∧ (sliceC moveC).is w [v1] x.moves
 len := fun h => by obtain ⟨v0, v1, rfl, _⟩ := h; rfl
 mono := fun {w w' cs x} h g => by obtain ⟨v0, v1, e, h0, h1, h2, h3, h4, h5, h6, h7, h8, h9⟩ := h; exact ⟨v0, v1, e, h0, h1, h2, h3, h4, h5, h6, ((sliceC pointC)).mono h7 g, h8, ((sliceC moveC)).mono h9 g⟩
 bulk := fun x => intC.bulk x.number + (strC.bulk x.title + (intC.bulk x.delay + (intC.bulk x.up + (intC.bulk x.down + (intC.bulk x.other + (curveC.bulk x.curve + (boolC.bulk x.block + (intC.bulk x.follow + ((sliceC moveC).bulk x.moves)))))))))
theorem reads_cue : Reads Try.prog cueC 44 :=
 (reads_struct10 (F := fun _ => True) Try.underlying44 (c0 := intC) (c1 := strC) (c2 := intC) (c3 := intC) (c4 := intC) (c5 := intC) (c6 := curveC) (c7 := boolC) (c8 := intC) (c9 := (sliceC moveC)) (by kernel_rfl) rfl rfl rfl rfl rfl rfl rfl rfl rfl rfl (by kernel_rfl) (by kernel_rfl) (by kernel_rfl) (by kernel_rfl) (by kernel_rfl) (by kernel_rfl) (by kernel_rfl) (by kernel_rfl) (by kernel_rfl) (by kernel_rfl) (reads_int Try.underlying3) (reads_str Try.underlying9) (reads_int Try.underlying3) (reads_int Try.underlying3) (reads_int Try.underlying3) (reads_int Try.underlying3) reads_curve (reads_bool Try.underlying4) (reads_int Try.underlying3) reads_moves).imp fun w cs a h => by
  obtain ⟨a0, a1, a2, a3, a4, a5, a6, a7, a8, a9⟩ := a
  obtain ⟨h0, h1, h2, h3, h4, h5, h6, h7, h8, h9⟩ := h
  obtain ⟨e0, b0⟩ := h0
  obtain ⟨e1, b1⟩ := h1
  obtain ⟨e2, b2⟩ := h2
  obtain ⟨e3, b3⟩ := h3
  obtain ⟨e4, b4⟩ := h4
  obtain ⟨e5, b5⟩ := h5
  obtain ⟨s6_0, e6, b6⟩ := h6
  obtain ⟨b6_0, b6_1⟩ := b6
  have e7 := h7; simp only [boolC] at e7
  obtain ⟨e8, b8⟩ := h8
  obtain ⟨s9, e9⟩ := List.length_eq_one_iff.1 (((sliceC moveC)).len h9); rw [e9] at h9
  have e108 := cells_split e8 e9
  have e107 := cells_split e7 e108
  have e106 := cells_split e6 e107
  have e105 := cells_split e5 e106
  have e104 := cells_split e4 e105
  have e103 := cells_split e3 e104
  have e102 := cells_split e2 e103
  have e101 := cells_split e1 e102
  have e100 := cells_split e0 e101
  exact ⟨⟨a0, a1, a2, a3, a4, a5, a6, a7, a8, a9⟩, ⟨s6_0, s9, by rw [e100]; rfl, b0, b1, b2, b3, b4, b5, b6_0, b6_1, b8, h9⟩, Nat.le_refl _⟩
theorem reads_cues : Reads Try.prog (sliceC cueC) 22 := reads_slice Try.underlying22 (c := cueC) (by kernel_rfl) (by decide) reads_cue
end Go.Proofs.Ytphgchakmkankaa

