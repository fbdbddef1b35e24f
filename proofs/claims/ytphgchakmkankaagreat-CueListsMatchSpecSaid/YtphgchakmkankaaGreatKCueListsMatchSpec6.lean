/- Parts of the proof of CueListsMatchSpec, in order. -/
import Derived.Orders
import Derived.Below
import Derived.WalkKit
import Derived.Laws.StructEq
import Derived.Laws.Append
import Derived.Laws.AppendOwn
import Derived.Test.YtphgchakmkankaaGreatRows
import Derived.KernelRfl
import Derived.Lib.Bytealg
import Derived.Sort.Defs
import Derived.Lib.BitFns
import Derived.Test.YtphgchakmkankaaGreatShelf
import Derived.Lib.Overlaps
import Derived.IntWalk
import Derived.Sort.Statements
import Derived.Shelf.SlSortCmp.WholeK
import Derived.Shelf.SlSortCmp.NoneTotal
import Derived.Sort.AssemblyPlain
import Derived.Lib.Strings
import Derived.WalkSpells
import Derived.ProofKit
import Derived.OpenShut
import Derived.Lib.Hide
import Derived.Lib.SmallJoins
import Derived.Deep.QuietTactic
import Derived.BigQuiet
import Derived.Deep.RegionHeld3
import Derived.Deep.Slices
import Derived.Test.YtphgchakmkankaaGreatKCueListsMatchSpec5
namespace Go.Proofs.YtphgchakmkankaaGreat
set_option linter.unusedSectionVars false
set_option linter.unusedVariables false
set_option linter.unusedSimpArgs false
open HP
section
variable {α β : Type} {E : List AV → β → HP} {f : α → β} {B : Blk → Prop} {σ0 σ : Heap} {R : HP} {sz : Nat} {v : AV}
end
section
variable {σ0 σ : Heap} {R : HP} {v : AV}
theorem lt_slf {α : Type} {c : α → List AV} {sz : Nat} {l : List α} {vm : AV} (hc : ∀ x, FzL (c x)) (H : Hs anyB σ0 σ (Sl (fl c) sz vm l * R)) : Lt σ (.s sz) vm (sl sz c l) := by
 obtain ⟨v', h1, h2, h3⟩ := slf_fz H hc (Nat.zero_le _) 7
 refine ⟨⟨v', h1, ?_, by rw [h3]; rfl⟩, rfl, fun ho => ?_⟩
 ·rcases slf_cases H with ⟨rfl, rfl | rfl, _⟩ | ⟨id, g, rfl, K⟩
  ·simp [A.frz] at h1; subst h1; rfl
  ·simp [A.frz] at h1; subst h1; rfl
  ·cases v' <;> first | rfl | (cases h2; done) | (simp only [A.nn] at h3; cases h3)
 ·rcases slf_cases H with ⟨rfl, rfl | rfl, _⟩ | ⟨id, g, rfl, K⟩
  ·rfl
  ·rfl
  ·cases ho
end
end Go.Proofs.YtphgchakmkankaaGreat

namespace Go.Proofs.YtphgchakmkankaaGreat
set_option linter.unusedSectionVars false
set_option linter.unusedVariables false
set_option linter.unusedSimpArgs false
open HP
theorem hasC_at {l : List CueD} {n : Int} (hg : Good l) (h : hasC l n = true) : ∃ x, l[posC l n]? = some x ∧ x.number = n := by
 rw [← posC_has hg.srt] at h
 cases hx : l[posC l n]? with
 | none => rw [hx] at h; cases h
 | some x => rw [hx] at h; exact ⟨x, rfl, by simpa using h⟩
theorem ext0 (a b : AV) : A.ext 0 (.tup [a, b]) = some a := rfl
theorem ext1 (a b : AV) : A.ext 1 (.tup [a, b]) = some b := rfl
theorem nn_arg1 (l : List CueD) (aas : List AV) : A.nnL [Sh.e 11 shCue] (sl 11 cCue l :: aas) = sl 11 cCue l :: aas := nn_t1 (nn_idem_cues l) rfl
theorem aNeI (a : Int) : A.neq .i (.int .i64 a) (.int .i64 0) = some (.bool (decide (¬ (a = 0)))) := by rw [aNe]
end Go.Proofs.YtphgchakmkankaaGreat

namespace Go.Proofs.YtphgchakmkankaaGreat
set_option linter.unusedSectionVars false
set_option linter.unusedVariables false
set_option linter.unusedSimpArgs false
open HP
def frB : Blk → Prop := fun b => A.freshB b = true
section
variable {α : Type} {c : α → List AV} {sz : Nat} {σ0 σ : Heap} {R : HP}
theorem hs_ext {B : Blk → Prop} (H : Hs B σ0 σ R) (bs : Heap) (hbs : ∀ b ∈ bs, B b) : Hs B σ0 (σ ++ bs) R := by
 obtain ⟨⟨b0, rfl, hb0⟩, h, hr, h2⟩ := H
 exact ⟨⟨b0 ++ bs, by simp, fun b hb => (List.mem_append.1 hb).elim (hb0 b) (hbs b)⟩, h, hr, fun i b hb => ⟨(h2 i b hb).1, by rw [List.getElem?_append_left (List.getElem?_eq_some_iff.1 (h2 i b hb).2).1]; exact (h2 i b hb).2⟩⟩
theorem hs_add {B : Blk → Prop} (H : Hs B σ0 σ R) {bs : Heap} (hbs : ∀ b ∈ bs, B b) {j : Nat} {b : Blk} (hj : σ.length ≤ j) (hb : (σ ++ bs)[j]? = some b) : Hs B σ0 (σ ++ bs) (blk j b * R) := by
 have hl := hs_len H
 have H2 := hs_ext H bs hbs
 obtain ⟨_, h, hr, h2⟩ := H
 have hn : h j = none := by
  cases hh : h j with
  | none => rfl
  | some x => have := (List.getElem?_eq_some_iff.1 (h2 j x hh).2).1; omega
 refine ⟨H2.pre, fun i => if i = j then some b else h i, ⟨fun i => if i = j then some b else none, h, fun i => rfl, hr, fun i => ?_, fun i => ?_⟩, fun i x hx => ?_⟩
 ·by_cases e : i = j
  ·subst e; exact .inr hn
  ·simp [e]
 ·by_cases e : i = j <;> simp [e]
 ·by_cases e : i = j
  ·subst e
   simp only [if_true, Option.some.injEq] at hx
   subst hx
   exact ⟨by omega, hb⟩
  ·simp only [e, if_false] at hx
   obtain ⟨k1, k2⟩ := h2 i x hx
   exact ⟨k1, by rw [List.getElem?_append_left (List.getElem?_eq_some_iff.1 k2).1]; exact k2⟩
def KS (m : List AV → Heap → Option (AV × Heap)) (args : List AV) (c : α → List AV) (sz : Nat) (l : List α) : Prop :=
 ∀ (σ0 σ : Heap) (R : HP), Hs frB σ0 σ R → ∃ v σ', m args σ = some (v, σ') ∧ Hs frB σ0 σ' (Sl (fl c) sz v l * R)
theorem ks_at {B : Blk → Prop} (hBB : ∀ b, frB b → B b) {m : List AV → Heap → Option (AV × Heap)} {args : List AV} {l : List α} (h : KS m args c sz l) (H : Hs B σ0 σ R) : ∃ v σ', m args σ = some (v, σ') ∧ Hs B σ0 σ' (Sl (fl c) sz v l * R) := by
 obtain ⟨v, σ', e1, K⟩ := h σ σ emp (hs_nil σ)
 refine ⟨v, σ', e1, ?_⟩
 obtain ⟨⟨bs, hbs, hfr⟩, _⟩ := id K
 subst hbs
 have hbb : ∀ b ∈ bs, B b := fun b hb => hBB b (hfr b hb)
 rcases slf_cases K with ⟨rfl, hv, _⟩ | ⟨id, g, rfl, K2⟩
 ·exact slz (hs_ext H bs hbb) hv
 ·obtain ⟨k1, k2⟩ := hs_get K2
  exact slf_os (hs_add H hbb k1 k2)
theorem lentK {B : Blk → Prop} (hBB : ∀ b, frB b → B b) {ain : List Sh} {r : List AV → Heap → Option (AV × Heap)} {as0 ts : List AV} {l : List α} (h : LtL σ ain as0 ts) (e : KS (A.wrap true ain .k r) ts c sz l) (H : Hs B σ0 σ R) :
  ∃ v σ', A.wrap true ain .k r as0 σ = some (v, σ') ∧ Hs B σ0 σ' (Sl (fl c) sz v l * R) := by
 obtain ⟨⟨as', k1, k2, k3⟩, k4, k5⟩ := ltL h
 cases ho : as0.any A.own
 ·obtain ⟨v, σ', e1, K⟩ := ks_at hBB e H
  exact ⟨v, σ', by rw [wrap_nn (k5 ho) ho k4]; exact e1, K⟩
 ·obtain ⟨v, σ1, e1, K⟩ := e [] [] emp (hs_nil [])
  have e2 : r (A.nnL ain ts) [] = some (v, σ1) := by
   unfold A.wrap at e1
   rw [k4, Bool.and_false, cond_false] at e1
   obtain ⟨⟨q1, q2⟩, f1, f2⟩ := Option.map_eq_some_iff.1 e1
   simp only [Prod.mk.injEq, nn_k] at f2
   obtain ⟨rfl, rfl⟩ := f2
   exact f1
  have hfr : ∀ b ∈ σ1, frB b := by
   obtain ⟨⟨bs, hbs, hB⟩, _⟩ := K
   rw [List.nil_append] at hbs
   subst hbs
   exact hB
  have hb : σ1.all A.freshB = true := List.all_eq_true.2 hfr
  have hbb : ∀ b ∈ σ1, B b := fun b hb => hBB b (hfr b hb)
  have hw : ∀ v', A.freshT v = true → A.shiftT σ.length v = v' → A.wrap true ain .k r as0 σ = some (v', σ ++ σ1) := by
   intro v' h1 h2
   unfold A.wrap
   rw [ho, Bool.and_self, cond_true, k1, Option.bind_some, k3, e2, Option.bind_some, nn_k]
   simp only [h1, hb, Bool.and_self, cond_true, h2]
  rcases slf_cases K with ⟨rfl, rfl | rfl, _⟩ | ⟨id, g, rfl, K2⟩
  ·exact ⟨.nsl, _, hw _ rfl rfl, slz (hs_ext H σ1 hbb) (.inl rfl)⟩
  ·exact ⟨.ez, _, hw _ rfl rfl, slz (hs_ext H σ1 hbb) (.inr rfl)⟩
  ·obtain ⟨_, k2⟩ := hs_get K2
   refine ⟨.os (id + σ.length) g sz 0 l.length, _, hw _ rfl rfl, slf_os (hs_add H hbb (by omega) ?_)⟩
   rw [List.getElem?_append_right (by omega), Nat.add_sub_cancel]; exact k2
theorem frB_app {c : α → List AV} (hc : ∀ x, (c x).all A.scal1 = true) (l : List α) : ∀ g g' seg, (seg = [] ∨ frB (.arr g sz seg)) → frB (.arr g' sz (seg ++ l.map c)) := by
 intro g g' seg h
 show ((seg ++ l.map c).all fun e => e.all A.scal1) = true
 rw [List.all_append, Bool.and_eq_true]
 refine ⟨?_, ?_⟩
 ·rcases h with rfl | h
  ·rfl
  ·exact h
 ·rw [List.all_map, List.all_eq_true]; intro x _; exact hc x
theorem frB_ins {ye : List AV} (hc : ye.all A.scal1 = true) : ∀ g g' seg k, (seg = [] ∨ frB (.arr g sz seg)) → frB (.arr g' sz (seg.take k ++ [ye] ++ seg.drop k)) := by
 intro g g' seg k h
 have hs : ∀ e ∈ seg, e.all A.scal1 = true := by
  rcases h with rfl | h
  ·intro e he; cases he
  ·exact List.all_eq_true.1 h
 show A.freshB (.arr g' sz (seg.take k ++ [ye] ++ seg.drop k)) = true
 unfold A.freshB
 rw [List.all_eq_true]
 intro e he
 simp only [List.mem_append, List.mem_singleton] at he
 rcases he with (he | rfl) | he
 ·exact hs e (List.mem_of_mem_take he)
 ·exact hc
 ·exact hs e (List.mem_of_mem_drop he)
theorem frB_del : ∀ g g' seg k, frB (.arr g sz seg) → frB (.arr g' sz (seg.eraseIdx k)) := by
 intro g g' seg k h
 show A.freshB (.arr g' sz (seg.eraseIdx k)) = true
 unfold A.freshB
 rw [List.all_eq_true]
 intro e he
 exact List.all_eq_true.1 h e (List.mem_of_mem_eraseIdx he)
end
def srtE (l : List EntryD) : Prop := l.Pairwise fun a b => ltK a.key b.key = true
def posE (l : List EntryD) (k : KeyD) : Nat := (l.takeWhile fun m => ltK m.key k).length
def hasE (l : List EntryD) (k : KeyD) : Bool := l.any fun m => decide (m.key = k)
theorem posE_le (l : List EntryD) (k : KeyD) : posE l k ≤ l.length := (List.takeWhile_prefix _).length_le
theorem posE_lt {l : List EntryD} {k : KeyD} (h : srtE l) : ∀ {i : Nat} {x : EntryD}, l[i]? = some x → (ltK x.key k = true ↔ i < posE l k) := by
 induction l with
 | nil => intro i x hx; simp at hx
 | cons a l ih =>
  intro i x hx
  have hs := List.pairwise_cons.1 h
  unfold posE
  rw [List.takeWhile_cons]
  cases ha : ltK a.key k
  ·simp only [Bool.false_eq_true, if_false, List.length_nil, Nat.not_lt_zero, iff_false, Bool.not_eq_true]
   cases i with
   | zero => simp at hx; subst hx; exact ha
   | succ i =>
    simp only [List.getElem?_cons_succ] at hx
    have := hs.1 x (List.mem_of_getElem? hx)
    cases hq : ltK x.key k
    ·rfl
    ·rw [ltK_trans this hq] at ha; cases ha
  ·simp only [if_true, List.length_cons]
   cases i with
   | zero => simp at hx; subst hx; simp [ha]
   | succ i =>
    simp only [List.getElem?_cons_succ] at hx
    rw [ih hs.2 hx]
    unfold posE
    omega
theorem posE_at {l : List EntryD} {k : KeyD} (h : srtE l) {i : Nat} {x : EntryD} (hi : l[i]? = some x) (hk : x.key = k) : posE l k = i := by
 have h1 : ¬ i < posE l k := fun q => by
  have := (posE_lt h hi).2 q
  rw [hk, ltK_irr] at this; cases this
 have h2 : ¬ posE l k < i := fun q => by
  have hp : posE l k < l.length := Nat.lt_trans q (List.getElem?_eq_some_iff.1 hi).1
  have hy : l[posE l k]? = some l[posE l k] := List.getElem?_eq_getElem hp
  have h3 : ¬ ltK l[posE l k].key k = true := fun q' => Nat.lt_irrefl _ ((posE_lt h hy).1 q')
  have h4 := List.pairwise_iff_getElem.1 h (posE l k) i hp (List.getElem?_eq_some_iff.1 hi).1 q
  rw [(List.getElem?_eq_some_iff.1 hi).2, hk] at h4
  exact h3 h4
 omega
theorem posE_has {l : List EntryD} {k : KeyD} (h : srtE l) : ((l[posE l k]?).any fun x => decide (x.key = k)) = hasE l k := by
 rw [Bool.eq_iff_iff]
 constructor
 ·intro e
  cases hx : l[posE l k]? with
  | none => rw [hx] at e; cases e
  | some x => rw [hx] at e; exact List.any_eq_true.2 ⟨x, List.mem_of_getElem? hx, e⟩
 ·intro e
  obtain ⟨x, hm, hk⟩ := List.any_eq_true.1 e
  have hk := of_decide_eq_true hk
  obtain ⟨i, hi⟩ := List.mem_iff_getElem?.1 hm
  rw [posE_at h hi hk, hi]; simp [hk]
theorem place5_t {l : List EntryD} (hs : srtE l) (hl : l.length < 4611686018427387904) (k : KeyD) : t_R5_place l k = some ((posE l k : Int), hasE l k) := by
 unfold t_R5_place
 refine (whE_while (l := l) (pr := fun m => ltK m.key k) (fun i x hx => ?_) ?_ rfl).trans ?_
 ·have hi := (List.getElem?_eq_some_iff.1 hx).1
  have hi' : ((i : Int) < (l.length : Int)) := by omega
  have e : (decide (x.key.unit < k.unit) || decide (x.key.unit = k.unit) && Op.bytesLess x.key.param.toList k.param.toList) = ltK x.key k := rfl
  simp only [decide_eq_true hi', if_true, tIx_nat hx, Option.bind_some, wrap64 (show inI ((i : Int) + 1) by unfold inI; omega), Bool.true_and, e]
  cases ltK x.key k <;> simp
 ·simp only [decide_eq_false (by omega : ¬ ((l.length : Int) < (l.length : Int))), Bool.false_eq_true, if_false, Option.bind_some, Bool.false_and]
 ·show ((if decide ((posE l k : Int) < (l.length : Int)) = true then tIx l (posE l k : Int) else some default).bind fun x9 => some ((posE l k : Int), ((decide ((posE l k : Int) < (l.length : Int))) && (decide (x9.key = k))))) = _
  rw [← posE_has hs]
  by_cases hp : posE l k < l.length
  ·have hx : l[posE l k]? = some l[posE l k] := List.getElem?_eq_getElem hp
   have hp' : ((posE l k : Int) < (l.length : Int)) := by omega
   rw [decide_eq_true hp', if_pos rfl, tIx_nat hx, Option.bind_some, hx]
   simp
  ·have hx : l[posE l k]? = none := List.getElem?_eq_none (by omega)
   have hp' : ¬ ((posE l k : Int) < (l.length : Int)) := by omega
   rw [decide_eq_false hp', if_neg (by decide), Option.bind_some, hx]
   simp
def stepE (n : Int) (st : List EntryD) (m : MoveD) : List EntryD :=
 let st1 := if hasE st m.key = true then st.eraseIdx (posE st m.key) else st
 if m.release = true then st1 else st1.take (posE st m.key) ++ [⟨m.key, m.value, n⟩] ++ st1.drop (posE st m.key)
def afterF (st : List EntryD) (c : CueD) : List EntryD := c.moves.foldl (stepE c.number) st
def beforeF (l : List CueD) : List EntryD := l.foldl afterF []
def lookE (st : List EntryD) (k : KeyD) : Option EntryD := st.find? fun e => decide (e.key = k)
theorem stepE_spec {n : Int} {st : List EntryD} (h : srtE st) (m : MoveD) : srtE (stepE n st m) ∧ (∀ k, lookE (stepE n st m) k = if k = m.key then (if m.release = true then none else some ⟨m.key, m.value, n⟩) else lookE st k) ∧ (stepE n st m).length ≤ st.length + 1 := by
 obtain ⟨p, hp⟩ : ∃ p, p = posE st m.key := ⟨_, rfl⟩
 obtain ⟨st1, hst1⟩ : ∃ st1, st1 = if hasE st m.key = true then st.eraseIdx p else st := ⟨_, rfl⟩
 have hple : p ≤ st.length := by rw [hp]; exact posE_le _ _
 have e1 : st1.take p = st.take p := by
  rw [hst1]; split
  ·rw [List.eraseIdx_eq_take_drop_succ, List.take_append_of_le_length (by simp; omega), List.take_take, Nat.min_self]
  ·rfl
 have e2 : st1.drop p = if hasE st m.key = true then st.drop (p + 1) else st.drop p := by
  rw [hst1]; split
  ·rw [List.eraseIdx_eq_take_drop_succ, List.drop_append_of_le_length (by simp; omega), List.drop_of_length_le (by simp; omega), List.nil_append]
  ·rfl
 have hlt : ∀ x ∈ st.take p, ltK x.key m.key = true := fun x hx => by
  obtain ⟨i, hi⟩ := List.mem_iff_getElem?.1 hx
  rw [List.getElem?_take] at hi
  split at hi
  ·rename_i q; exact (posE_lt h hi).2 (by omega)
  ·cases hi
 have hgt : ∀ x ∈ st1.drop p, ltK m.key x.key = true := fun x hx => by
  rw [e2] at hx
  have key : ∀ i, p ≤ i → st[i]? = some x → x.key ≠ m.key → ltK m.key x.key = true := by
   intro i hpi hi hne
   cases hq : ltK m.key x.key
   ·exfalso
    have h1 : ltK x.key m.key = false := by
     cases hq2 : ltK x.key m.key
     ·rfl
     ·have := (posE_lt h hi).1 hq2; omega
    exact hne (ltK_tri h1 hq)
   ·rfl
  split at hx
  ·rename_i hh
   obtain ⟨i, hi⟩ := List.mem_iff_getElem?.1 hx
   rw [List.getElem?_drop] at hi
   refine key _ (by omega) hi fun e => ?_
   have := posE_at h hi e
   omega
  ·rename_i hh
   obtain ⟨i, hi⟩ := List.mem_iff_getElem?.1 hx
   rw [List.getElem?_drop] at hi
   refine key _ (by omega) hi fun e => ?_
   exact hh (List.any_eq_true.2 ⟨x, List.mem_of_getElem? hi, by simp [e]⟩)
 have hs1 : srtE st1 := by
  rw [hst1]; split
  ·exact h.sublist (List.eraseIdx_sublist _ _)
  ·exact h
 have hl1 : st1.length ≤ st.length := by
  rw [hst1]; split
  ·exact List.length_eraseIdx_le _ _
  ·exact Nat.le_refl _
 have hno : ∀ k, k = m.key → lookE st1 k = none := by
  rintro k rfl
  unfold lookE
  rw [List.find?_eq_none]
  intro x hx hk
  have hk := of_decide_eq_true hk
  rw [← List.take_append_drop p st1, List.mem_append] at hx
  rcases hx with hx | hx
  ·rw [e1] at hx
   have := hlt x hx
   rw [hk, ltK_irr] at this; cases this
  ·have := hgt x hx
   rw [hk, ltK_irr] at this; cases this
 have hoth : ∀ k, k ≠ m.key → lookE st1 k = lookE st k := by
  intro k hk
  rw [hst1]; split
  ·rename_i hh
   unfold lookE
   rw [List.eraseIdx_eq_take_drop_succ]
   have hx : st[p]? ≠ none := fun e => by
    have := posE_has (k := m.key) h
    rw [hh, ← hp, e] at this; cases this
   obtain ⟨x, hx⟩ := Option.ne_none_iff_exists'.1 hx
   have hxk : x.key = m.key := by
    have := posE_has (k := m.key) h
    rw [hh, ← hp, hx] at this
    simpa using this
   have e : st = st.take p ++ x :: st.drop (p + 1) := by
    rw [← (List.getElem?_eq_some_iff.1 hx).2, List.getElem_cons_drop, List.take_append_drop]
   conv => rhs; rw [e]
   rw [List.find?_append, List.find?_append, List.find?_cons, decide_eq_false (fun q => hk (by rw [← q, hxk]))]
  ·rfl
 have hdef : stepE n st m = if m.release = true then st1 else st1.take p ++ [⟨m.key, m.value, n⟩] ++ st1.drop p := by
  unfold stepE
  rw [← hp, ← hst1]
 rw [hdef]
 split
 ·rename_i hr
  refine ⟨hs1, fun k => ?_, by omega⟩
  by_cases hk : k = m.key
  ·rw [if_pos hk]; exact hno k hk
  ·rw [if_neg hk]; exact hoth k hk
 ·rename_i hr
  refine ⟨?_, fun k => ?_, by simp; omega⟩
  ·unfold srtE
   rw [List.append_assoc, List.pairwise_append]
   refine ⟨hs1.sublist (List.take_sublist _ _), ?_, fun x hx y hy => ?_⟩
   ·rw [List.singleton_append, List.pairwise_cons]
    exact ⟨fun y hy => hgt y hy, hs1.sublist (List.drop_sublist _ _)⟩
   ·rw [e1] at hx
    rcases List.mem_append.1 hy with hy | hy
    ·simp at hy; subst hy; exact hlt x hx
    ·exact ltK_trans (hlt x hx) (hgt y hy)
  ·by_cases hk : k = m.key
   ·rw [if_pos hk]
    subst hk
    unfold lookE
    rw [List.append_assoc, List.find?_append]
    have : (st1.take p).find? (fun e => decide (e.key = m.key)) = none := by
     rw [List.find?_eq_none]
     intro x hx q
     rw [e1] at hx
     have := hlt x hx
     rw [of_decide_eq_true q, ltK_irr] at this; cases this
    rw [this]
    simp
   ·rw [if_neg hk, ← hoth k hk]
    unfold lookE
    rw [List.append_assoc, List.find?_append, List.singleton_append, List.find?_cons, decide_eq_false (fun q => hk q.symm)]
    conv => rhs; rw [← List.take_append_drop p st1, List.find?_append]
end Go.Proofs.YtphgchakmkankaaGreat

namespace Go.Proofs.YtphgchakmkankaaGreat
set_option linter.unusedSectionVars false
set_option linter.unusedVariables false
set_option linter.unusedSimpArgs false
open HP
section
variable {B : Blk → Prop} {σ0 σ : Heap} {R : HP}
theorem cEntry_scal (x : EntryD) : (cEntry x).all A.scal1 = true := rfl
theorem insE {v : AV} {l : List EntryD} {m : EntryD} {i : Nat} (hi : i ≤ l.length) (hl : l.length < 1099511627776) (H : Hs frB σ0 σ (Sl (fl cEntry) 5 v l * R)) :
  ∃ v' σ', m_slices_Insert_api_Entry [v, .int .i64 (i : Int), .sl 5 [cEntry m]] σ = some (v', σ') ∧ Hs frB σ0 σ' (Sl (fl cEntry) 5 v' (l.take i ++ [m] ++ l.drop i) * R) := by
 obtain ⟨v', σ', e, H2⟩ := sl_ins (most := 140737488355328 / 48) (zs := [(AV.int .i64 0), (AV.str ⟨#[]⟩), (AV.int .i64 0), (AV.int .i64 0), (AV.int .i64 0)]) (rot := m_slices_rotateRight_api_Entry) (B := frB) (E := fl cEntry) (y := m) (ye := cEntry m)
  (hs_eq (show pr (cEntry m = cEntry m) * (Sl (fl cEntry) 5 v l * R) = _ by rw [show fl cEntry (cEntry m) m = pr (cEntry m = cEntry m) from rfl]; ac_rfl) (hs_pr.2 ⟨rfl, H⟩)) hi (by omega) (by omega) (frB_ins (cEntry_scal m))
 refine ⟨v', σ', ?_, H2⟩
 unfold m_slices_Insert_api_Entry A.wrap
 rw [Bool.false_and, cond_false, show A.nnL [] [v, .int .i64 (i : Int), .sl 5 [cEntry m]] = [v, .int .i64 (i : Int), .sl 5 [cEntry m]] by simp [A.nnL]]
 show (r_slices_Insert_api_Entry v (.int .i64 (i : Int)) (.sl 5 [cEntry m]) σ).map _ = _
 rw [show r_slices_Insert_api_Entry v (.int .i64 (i : Int)) (.sl 5 [cEntry m]) σ = some (v', σ') from e]
 simp [nn_k]
theorem delE {v : AV} {l : List EntryD} {i : Nat} {x : EntryD} (hx : l[i]? = some x) (hl : l.length ≤ 1099511627776) (H : Hs frB σ0 σ (Sl (fl cEntry) 5 v l * R)) :
  ∃ v' σ', m_slices_Delete_api_Entry [v, .int .i64 (i : Int), .int .i64 ((i + 1 : Nat) : Int)] σ = some (v', σ') ∧ Hs frB σ0 σ' (Sl (fl cEntry) 5 v' (l.eraseIdx i) * R) := by
 obtain ⟨v', σ', xe, _, e, H2⟩ := sl_del (most := 140737488355328 / 48) (zs := [(AV.int .i64 0), (AV.str ⟨#[]⟩), (AV.int .i64 0), (AV.int .i64 0), (AV.int .i64 0)]) H hx (by omega) (by omega) frB_del
 have H3 := hs_drop (hs_eq (show _ = pr (xe = cEntry x) * (Sl (fl cEntry) 5 v' (l.eraseIdx i) * R) by rw [show fl cEntry xe x = pr (xe = cEntry x) from rfl]; ac_rfl) H2)
 refine ⟨v', σ', ?_, H3⟩
 unfold m_slices_Delete_api_Entry A.wrap
 rw [Bool.false_and, cond_false, show A.nnL [] [v, .int .i64 (i : Int), .int .i64 ((i + 1 : Nat) : Int)] = [v, .int .i64 (i : Int), .int .i64 ((i + 1 : Nat) : Int)] by simp [A.nnL]]
 show (r_slices_Delete_api_Entry v (.int .i64 (i : Int)) (.int .i64 ((i + 1 : Nat) : Int)) σ).map _ = _
 rw [show r_slices_Delete_api_Entry v (.int .i64 (i : Int)) (.int .i64 ((i + 1 : Nat) : Int)) σ = some (v', σ') from e]
 simp [nn_k]
theorem place5_own {v : AV} {l : List EntryD} (H : Hs frB σ0 σ (Sl (fl cEntry) 5 v l * R)) (hs : srtE l) (hl : l.length < 4611686018427387904) (k : KeyD) : m_R5_place [v, .agg (cKey k)] σ = some (.tup [.int .i64 (posE l k : Int), .bool (hasE l k)], σ) :=
 lent (ain := [.s 5]) (ts := [sl 5 cEntry l, .agg (cKey k)]) ⟨lt_slf fz_cEntry (hs_any H), lt_fz (fz_agg (fz_cKey k)) rfl, trivial⟩ (fun σ => h_R5_place (place5_t hs hl k)) rfl
theorem fold_stepE {n : Int} (ms : List MoveD) : ∀ {st : List EntryD}, srtE st → srtE (ms.foldl (stepE n) st) ∧ (ms.foldl (stepE n) st).length ≤ st.length + ms.length := by
 induction ms with
 | nil => intro st h; exact ⟨h, Nat.le_refl _⟩
 | cons m ms ih =>
  intro st h
  obtain ⟨h1, _, h3⟩ := stepE_spec (n := n) h m
  obtain ⟨h4, h5⟩ := ih h1
  exact ⟨h4, by simp only [List.foldl_cons, List.length_cons]; omega⟩
theorem after_s {st : List EntryD} {c : CueD} (hs : srtE st) (hl : st.length + c.moves.length < 1099511627776) (hm : c.moves.length ≤ mxl) : KS m_R5_after [sl 5 cEntry st, .agg (cCue c)] cEntry 5 (afterF st c) := by
 intro σ0 σ R H
 have run : ∃ b : AV × Heap, r_R5_after (sl 5 cEntry st) (.agg (cCue c)) σ = some b ∧ Hs frB σ0 b.2 (Sl (fl cEntry) 5 b.1 (afterF st c) * R) := by
  unfold r_R5_after
  obtain ⟨v, s1, e1, _, K1⟩ := clo_gen (B := frB) (most := 140737488355328 / 48) (m := m_slices_Clone_api_Entry) (r := fun _ _ => none) (r0 := r_slices_Clone_api_Entry) (c := cEntry) (sz := 5) (l := st) rfl (fun _ _ => rfl) (by omega) (frB_app cEntry_scal st) H
  rw [ce_cCue, Option.bind_some, e1, Option.bind_some, show A.part1 10 (cCue c) = some (sl 8 cMove c.moves) from rfl, Option.bind_some, lenS_sl, Option.bind_some]
  refine loop_k (Q := fun q => ∃ h w, q.1 = .exit 0 ∧ q.2.1 = [.lbx (cCue c), h, w] ∧ Hs frB σ0 q.2.2 (Sl (fl cEntry) 5 h (afterF st c) * R)) (loop_hs c.moves (fun i v s => ∃ h, v = [.lbx (cCue c), h, .int .i64 (i : Int)] ∧ Hs frB σ0 s (Sl (fl cEntry) 5 h ((c.moves.take i).foldl (stepE c.number) st) * R)) ?_ ?_ ⟨v, rfl, K1⟩) ?_
  ·rintro i m w s hx ⟨h, rfl, K⟩
   have hi := (List.getElem?_eq_some_iff.1 hx).1
   obtain ⟨q1, q2⟩ := fold_stepE (n := c.number) (c.moves.take i) hs
   rw [foldl_take _ _ _ hx]
   obtain ⟨o, ho⟩ : ∃ o, o = (c.moves.take i).foldl (stepE c.number) st := ⟨_, rfl⟩
   rw [← ho] at q1 q2 K ⊢
   have hol : o.length < 1099511627776 := by simp at q2; omega
   simp only [List.getD_cons_zero, List.getD_cons_succ]
   rw [ix_lt hx, Option.bind_some, cnd_t, ix_for hx, Option.bind_some]
   simp only [A.deref, Option.bind_some]
   rw [pA_cMove, Option.bind_some, ce_cMove, Option.bind_some, sp_cMove m _ rfl, Option.bind_some, pA_cMove_key, Option.bind_some, place5_own K q1 (by omega) m.key, Option.bind_some, ext0, Option.bind_some, ext1, Option.bind_some]
   -- what is there goes
   obtain ⟨p, hp⟩ : ∃ p, p = posE o m.key := ⟨_, rfl⟩
   obtain ⟨o1, ho1⟩ : ∃ o1, o1 = if hasE o m.key = true then o.eraseIdx p else o := ⟨_, rfl⟩
   have hpl : p ≤ o1.length := by
    have := posE_le o m.key
    rw [ho1]; split
    ·rename_i hh
     have hx := posE_has (k := m.key) q1
     rw [hh, ← hp] at hx
     cases hpx : o[p]? with
     | none => rw [hpx] at hx; cases hx
     | some x =>
      have := (List.getElem?_eq_some_iff.1 hpx).1
      rw [List.length_eraseIdx, if_pos this]; omega
    ·omega
   have ho1l : o1.length < 1099511627776 := by
    rw [ho1]; split
    ·have := List.length_eraseIdx_le o p; omega
    ·exact hol
   rw [← hp]
   have del : ∃ h1 s1, (A.cond (.bool (hasE o m.key)) (
     (A.add (.int .i64 (p : Int)) (AV.int .i64 1)).bind fun x19 =>
     (m_slices_Delete_api_Entry [h, .int .i64 (p : Int), x19] s).bind fun r20 =>
     some ([.lbx (cCue c), r20.1, (AV.lbx (cMove m))], r20.2)) (
     some ([.lbx (cCue c), h, (AV.lbx (cMove m))], s))) = some ([.lbx (cCue c), h1, .lbx (cMove m)], s1) ∧ Hs frB σ0 s1 (Sl (fl cEntry) 5 h1 o1 * R) := by
    rw [ho1]
    cases hh : hasE o m.key
    ·exact ⟨h, s, rfl, K⟩
    ·rw [cnd_t, tadd1 (by have := posE_le o m.key; omega), Option.bind_some]
     have hx := posE_has (k := m.key) q1
     rw [hh, ← hp] at hx
     cases hpx : o[p]? with
     | none => rw [hpx] at hx; cases hx
     | some x =>
      obtain ⟨h1, s1, e2, K2⟩ := delE hpx (by omega) K
      rw [e2, Option.bind_some]
      exact ⟨h1, s1, rfl, K2⟩
   obtain ⟨h1, s1, e2, K2⟩ := del
   rw [e2, Option.bind_some]
   simp only [List.getD_cons_zero, List.getD_cons_succ]
   rw [show ((A.lb (.lbx (cMove m))).bind fun _ => some (4)) = some 4 from rfl, Option.bind_some, show ((A.lb (.lbx (cMove m))).bind fun c22 => A.part1 4 c22) = some (.bool m.release) from rfl, Option.bind_some, show A.not (.bool m.release) = some (.bool (!m.release)) from rfl, Option.bind_some]
   have hdef : stepE c.number o m = if m.release = true then o1 else o1.take p ++ [⟨m.key, m.value, c.number⟩] ++ o1.drop p := by
    unfold stepE; rw [← hp, ← ho1]
   rw [hdef]
   cases hr : m.release
   ·rw [show (!false) = true from rfl, cnd_t]
    rw [show ((A.lb (.lbx (cMove m))).bind fun _ => some (0)) = some 0 from rfl, Option.bind_some, show ((A.lb (.lbx (cMove m))).bind fun c27 => A.partA 0 2 c27) = some (.agg (cKey m.key)) from rfl, Option.bind_some,
     show ((A.lb (.lbx (cMove m))).bind fun _ => some (2)) = some 2 from rfl, Option.bind_some, show ((A.lb (.lbx (cMove m))).bind fun c30 => A.partA 2 2 c30) = some (.agg (cValue m.value)) from rfl, Option.bind_some,
     show ((A.lb (.lbx (cCue c))).bind fun _ => some (0)) = some 0 from rfl, Option.bind_some, show ((A.lb (.lbx (cCue c))).bind fun c33 => A.part1 0 c33) = some (.int .i64 c.number) from rfl, Option.bind_some]
    rw [show ((((A.cells 2 (.agg (cKey m.key))).bind fun c35 => (A.splice 0 c35 [(AV.int .i64 0), (AV.str ⟨#[]⟩), (AV.int .i64 0), (AV.int .i64 0), (AV.int .i64 0)]).bind fun c36 => (A.cells 2 (.agg (cValue m.value))).bind fun c37 => (A.splice 2 c37 c36).bind fun c38 => ((A.cell (.int .i64 c.number)).bind fun v => some [v]).bind fun c39 => (A.splice 4 c39 c38).bind fun c40 => some c40).bind fun cs => some (AV.agg cs))) = some (.agg (cEntry ⟨m.key, m.value, c.number⟩)) from rfl, Option.bind_some]
    rw [show ((((A.cells 5 (.agg (cEntry ⟨m.key, m.value, c.number⟩))).bind fun c42 => (A.splice 0 c42 [(AV.int .i64 0), (AV.str ⟨#[]⟩), (AV.int .i64 0), (AV.int .i64 0), (AV.int .i64 0)]).bind fun c43 => some c43).bind fun cs => some (AV.sl 5 (chunks 5 1 cs)))) = some (.sl 5 [cEntry ⟨m.key, m.value, c.number⟩]) from rfl, Option.bind_some]
    obtain ⟨h2, s2, e3, K3⟩ := insE (m := ⟨m.key, m.value, c.number⟩) hpl ho1l K2
    rw [e3, Option.bind_some, Option.bind_some]
    simp only [List.getD_cons_zero, List.getD_cons_succ]
    rw [ix_inc hx hm, Option.bind_some]
    exact ⟨_, _, rfl, h2, rfl, by simpa using K3⟩
   ·rw [show (!true) = false from rfl, cnd_f, Option.bind_some]
    simp only [List.getD_cons_zero, List.getD_cons_succ]
    rw [ix_inc hx hm, Option.bind_some]
    exact ⟨_, _, rfl, h1, rfl, by simpa using K2⟩
  ·rintro w s ⟨h, rfl, K⟩
   simp only [List.getD_cons_zero, List.getD_cons_succ]
   rw [ix_end, Option.bind_some, cnd_f]
   refine ⟨_, rfl, by simp, h, _, rfl, rfl, ?_⟩
   rw [List.take_length] at K; exact K
  ·rintro ⟨e, w, s⟩ ⟨h, w', h1, h2, K⟩
   simp only at h1 h2 K
   subst h1; subst h2
   exact ⟨_, rfl, K⟩
 obtain ⟨⟨v, σ'⟩, h1, h2⟩ := run
 exact ⟨v, σ', wrap_eq rfl h1 (nn_k _), h2⟩
theorem before_inv {l : List CueD} (hl : ∀ c ∈ l, c.moves.length ≤ 2000000) : ∀ (k : Nat) (st : List EntryD), srtE st → st.length ≤ k * 2000000 → srtE (l.foldl afterF st) ∧ (l.foldl afterF st).length ≤ (k + l.length) * 2000000 := by
 induction l with
 | nil => intro k st h1 h2; exact ⟨h1, h2⟩
 | cons c l ih =>
  intro k st h1 h2
  obtain ⟨h3, h4⟩ := fold_stepE (n := c.number) c.moves h1
  have hc := hl c (by simp)
  obtain ⟨h5, h6⟩ := ih (fun x hx => hl x (by simp [hx])) (k + 1) (afterF st c) h3 (by show (c.moves.foldl _ st).length ≤ _; omega)
  refine ⟨h5, ?_⟩
  rw [List.length_cons, show k + (l.length + 1) = k + 1 + l.length from by omega]
  exact h6
theorem after_lent {v : AV} {st : List EntryD} {e : AV} {c : CueD} (hBB : ∀ b, frB b → B b) (hs : srtE st) (hl : st.length + c.moves.length < 1099511627776) (hm : c.moves.length ≤ mxl) (H : Hs B σ0 σ (Sl (fl cEntry) 5 v st * R)) (he : Lt σ (.a shCue) e (.agg (cCue c))) :
  ∃ v' σ', m_R5_after [v, e] σ = some (v', σ') ∧ Hs B σ0 σ' (Sl (fl cEntry) 5 v' (afterF st c) * (Sl (fl cEntry) 5 v st * R)) :=
 lentK hBB (ain := [.s 5, .a shCue]) (ts := [sl 5 cEntry st, .agg (cCue c)]) ⟨lt_slf fz_cEntry (hs_any H), he, trivial⟩ (after_s hs hl hm) H
theorem lt_typed (c : CueD) : Lt σ (.a shCue) (.agg (cCue c)) (.agg (cCue c)) := lt_fz (fz_agg (fz_cCue c)) rfl
theorem Before_s {l : List CueD} {n : Nat} (hn : n ≤ l.length) (hl : l.length ≤ 1000) (hm : ∀ c ∈ l, c.moves.length ≤ 2000000) : KS m_R5_Before [sl 11 cCue l, .int .i64 (n : Int)] cEntry 5 (beforeF (l.take n)) := by
 intro σ0 σ R H
 have run : ∃ b : AV × Heap, r_R5_Before (sl 11 cCue l) (.int .i64 (n : Int)) σ = some b ∧ Hs frB σ0 b.2 (Sl (fl cEntry) 5 b.1 (beforeF (l.take n)) * R) := by
  unfold r_R5_Before
  rw [show A.sliceS 11 (sl 11 cCue l) none (some (.int .i64 (n : Int))) σ = some (sl 11 cCue (l.take n)) from sliceS_take 11 cCue l hn, Option.bind_some, lenS_sl, Option.bind_some]
  obtain ⟨t, ht⟩ : ∃ t, t = l.take n := ⟨_, rfl⟩
  have htl : t.length ≤ 1000 := by rw [ht]; simp; omega
  have htm : ∀ c ∈ t, c.moves.length ≤ 2000000 := fun c hc => hm c (by rw [ht] at hc; exact List.mem_of_mem_take hc)
  rw [← ht]
  refine loop_k (Q := fun q => ∃ h w, q.1 = .exit 0 ∧ q.2.1 = [h, w] ∧ Hs frB σ0 q.2.2 (Sl (fl cEntry) 5 h (beforeF t) * R)) (loop_hs t (fun i v s => ∃ h, v = [h, .int .i64 (i : Int)] ∧ Hs frB σ0 s (Sl (fl cEntry) 5 h (beforeF (t.take i)) * R)) ?_ ?_ ⟨.nsl, rfl, slz H (.inl rfl)⟩) ?_
  ·rintro i c w s hx ⟨h, rfl, K⟩
   have hi := (List.getElem?_eq_some_iff.1 hx).1
   obtain ⟨q1, q2⟩ := before_inv (l := t.take i) (fun c hc => htm c (List.mem_of_mem_take hc)) 0 [] List.Pairwise.nil (Nat.zero_le _)
   have hc := htm c (List.mem_of_getElem? hx)
   have hbl : (beforeF (t.take i)).length ≤ 2000000000 := by
    have : (t.take i).length ≤ 1000 := by simp; omega
    unfold beforeF; omega
   simp only [List.getD_cons_zero, List.getD_cons_succ]
   rw [ix_lt hx, Option.bind_some, cnd_t, ix_for hx, Option.bind_some]
   simp only [A.deref, Option.bind_some]
   rw [pA_cCue, Option.bind_some, ce_cCue, Option.bind_some, sp_cCue _ _ rfl, Option.bind_some, pA_cCue, Option.bind_some]
   have q3 : (beforeF (t.take i)).length + c.moves.length < 1099511627776 := by omega
   have q4 : c.moves.length ≤ mxl := by unfold mxl; omega
   obtain ⟨h', s', e1, K2⟩ := after_lent (fun _ h => h) q1 q3 q4 K (lt_typed c)
   have K3 := hs_drop (hs_eq (show _ = Sl (fl cEntry) 5 h (beforeF (t.take i)) * (Sl (fl cEntry) 5 h' (afterF (beforeF (t.take i)) c) * R) by ac_rfl) K2)
   rw [e1, Option.bind_some, ix_inc hx (by unfold mxl; omega), Option.bind_some]
   refine ⟨_, _, rfl, h', rfl, ?_⟩
   unfold beforeF
   rw [foldl_take _ _ _ hx]
   exact K3
  ·rintro w s ⟨h, rfl, K⟩
   simp only [List.getD_cons_zero, List.getD_cons_succ]
   rw [ix_end, Option.bind_some, cnd_f]
   refine ⟨_, rfl, by simp, h, _, rfl, rfl, ?_⟩
   rw [List.take_length] at K; exact K
  ·rintro ⟨e, w, s⟩ ⟨h, w', h1, h2, K⟩
   simp only at h1 h2 K
   subst h1; subst h2
   exact ⟨_, rfl, K⟩
 obtain ⟨⟨v, σ'⟩, h1, h2⟩ := run
 refine ⟨v, σ', wrap_eq rfl ?_ (nn_k _), h2⟩
 rw [show A.nnL [Sh.e 11 [.k, .k, .k, .k, .k, .k, .k, .s 2, .k, .k, .s 8]] [sl 11 cCue l, .int .i64 (n : Int)] = [sl 11 cCue l, .int .i64 (n : Int)] from nn_arg1 l _]
 exact h1
end
def stepM (n : Int) (s : List (KeyD × EntryD)) (m : MoveD) : List (KeyD × EntryD) := if m.release = true then tdel m.key s else tupd m.key ⟨m.key, m.value, n⟩ s
def stateF (l : List CueD) : List (KeyD × EntryD) := l.foldl (fun s c => c.moves.foldl (stepM c.number) s) []
def nodK (s : List (KeyD × EntryD)) : Prop := (s.map (·.1)).Nodup
theorem tfind_upd {ν : Type} (k k' : KeyD) (v : ν) : ∀ s : List (KeyD × ν), tfind k (tupd k' v s) = if k = k' then some v else tfind k s
 | [] => by by_cases h : k = k' <;> simp [tupd, tfind, h]
 | (a, b) :: s => by
  rw [tupd]
  by_cases h1 : k' = a
  ·subst h1
   simp only [if_true, tfind]
   by_cases h : k = k' <;> simp [h]
  ·rw [if_neg h1, tfind, tfind, tfind_upd k k' v s]
   by_cases h2 : k = a
   ·have : k ≠ k' := fun e => h1 (by rw [← e, h2])
    simp [h2, this]
    intro e; exact absurd (e.symm) h1
   ·simp [h2]
theorem mem_del {ν : Type} {k : KeyD} : ∀ {s : List (KeyD × ν)} {x : KeyD × ν}, x ∈ tdel k s → x ∈ s
 | [], x, h => h
 | (a, b) :: s, x, h => by
  rw [tdel] at h
  split at h
  ·exact List.mem_cons_of_mem _ h
  ·rcases List.mem_cons.1 h with rfl | h
   ·exact List.mem_cons_self
   ·exact List.mem_cons_of_mem _ (mem_del h)
theorem tfind_none {ν : Type} {k : KeyD} : ∀ {s : List (KeyD × ν)}, (∀ p ∈ s, p.1 ≠ k) → tfind k s = none
 | [], _ => rfl
 | (a, b) :: s, h => by
  rw [tfind, if_neg (fun e => h (a, b) (by simp) e.symm)]
  exact tfind_none (fun p hp => h p (by simp [hp]))
theorem tfind_del (k k' : KeyD) : ∀ {s : List (KeyD × EntryD)}, nodK s → tfind k (tdel k' s) = if k = k' then none else tfind k s
 | [], _ => by simp [tdel, tfind]
 | (a, b) :: s, h => by
  unfold nodK at h
  rw [List.map_cons, List.nodup_cons] at h
  rw [tdel]
  by_cases h1 : k' = a
  ·subst h1
   rw [if_pos rfl]
   by_cases h2 : k = k'
   ·subst h2
    rw [if_pos rfl]
    exact tfind_none fun p hp e => h.1 (List.mem_map.2 ⟨p, hp, e⟩)
   ·rw [if_neg h2, tfind, if_neg h2]
  ·rw [if_neg h1, tfind, tfind, tfind_del k k' (s := s) h.2]
   by_cases h2 : k = a
   ·have : k ≠ k' := fun e => h1 (by rw [← e, h2])
    rw [if_pos h2, if_pos h2, if_neg this]
   ·rw [if_neg h2, if_neg h2]
theorem nod_upd {k : KeyD} {v : EntryD} : ∀ {s : List (KeyD × EntryD)}, nodK s → nodK (tupd k v s) ∧ ∀ x ∈ (tupd k v s).map (·.1), x ∈ s.map (·.1) ∨ x = k
 | [], _ => ⟨by simp [nodK, tupd], by simp [tupd]⟩
 | (a, b) :: s, h => by
  unfold nodK at h
  rw [List.map_cons, List.nodup_cons] at h
  rw [tupd]
  split
  ·rename_i e
   subst e
   exact ⟨by unfold nodK; rw [List.map_cons, List.nodup_cons]; exact h, fun x hx => .inl hx⟩
  ·rename_i e
   obtain ⟨h1, h2⟩ := nod_upd (k := k) (v := v) h.2
   refine ⟨?_, fun x hx => ?_⟩
   ·unfold nodK
    rw [List.map_cons, List.nodup_cons]
    refine ⟨fun hm => ?_, h1⟩
    rcases h2 _ hm with h3 | h3
    ·exact h.1 h3
    ·exact e h3.symm
   ·rw [List.map_cons] at hx ⊢
    rcases List.mem_cons.1 hx with rfl | hx
    ·exact .inl List.mem_cons_self
    ·rcases h2 x hx with h3 | h3
     ·exact .inl (List.mem_cons_of_mem _ h3)
     ·exact .inr h3
theorem nod_del {k : KeyD} : ∀ {s : List (KeyD × EntryD)}, nodK s → nodK (tdel k s)
 | [], h => h
 | (a, b) :: s, h => by
  unfold nodK at h
  rw [List.map_cons, List.nodup_cons] at h
  rw [tdel]
  split
  ·exact h.2
  ·unfold nodK
   rw [List.map_cons, List.nodup_cons]
   refine ⟨fun hm => ?_, nod_del h.2⟩
   obtain ⟨p, hp, e⟩ := List.mem_map.1 hm
   exact h.1 (List.mem_map.2 ⟨p, mem_del hp, e⟩)
def SameS (s : List (KeyD × EntryD)) (st : List EntryD) : Prop := nodK s ∧ srtE st ∧ ∀ k, tfind k s = lookE st k
theorem same_step {n : Int} {s : List (KeyD × EntryD)} {st : List EntryD} (h : SameS s st) (m : MoveD) : SameS (stepM n s m) (stepE n st m) := by
 obtain ⟨h1, h2, h3⟩ := h
 obtain ⟨k1, k2, _⟩ := stepE_spec (n := n) h2 m
 unfold stepM
 refine ⟨?_, k1, fun k => ?_⟩
 ·split
  ·exact nod_del h1
  ·exact (nod_upd h1).1
 ·rw [k2 k]
  split
  ·rw [tfind_del k m.key h1, h3 k]
  ·rw [tfind_upd, h3 k]
theorem same_fold {n : Int} : ∀ (ms : List MoveD) {s : List (KeyD × EntryD)} {st : List EntryD}, SameS s st → SameS (ms.foldl (stepM n) s) (ms.foldl (stepE n) st)
 | [], _, _, h => h
 | m :: ms, _, _, h => same_fold ms (same_step h m)
theorem same_all : ∀ (l : List CueD) {s : List (KeyD × EntryD)} {st : List EntryD}, SameS s st → SameS (l.foldl (fun s c => c.moves.foldl (stepM c.number) s) s) (l.foldl afterF st)
 | [], _, _, h => h
 | c :: l, _, _, h => same_all l (same_fold c.moves h)
theorem same_state (l : List CueD) : SameS (stateF l) (beforeF l) := same_all l ⟨List.Pairwise.nil, List.Pairwise.nil, fun k => rfl⟩
theorem state_t {l : List CueD} (hl : l.length ≤ mxl) (hm : ∀ c ∈ l, c.moves.length ≤ mxl) : t_cue_state l = some (stateF l) := by
 unfold t_cue_state stateF
 rw [forE_fold (g := fun s c => c.moves.foldl (stepM c.number) s) (P := fun _ _ => True) hl trivial (fun _ _ _ _ _ => trivial) ?_]
 ·rfl
 intro i c s hc _
 rw [forE_fold (g := fun s m => stepM c.number s m) (P := fun _ _ => True) (hm c (List.mem_of_getElem? hc)) trivial (fun _ _ _ _ _ => trivial) ?_]
 ·rfl
 intro j m s hm _
 unfold stepM
 by_cases hr : m.release = true <;> simp [hr]
end Go.Proofs.YtphgchakmkankaaGreat

namespace Go.Proofs.YtphgchakmkankaaGreat
set_option linter.unusedSectionVars false
set_option linter.unusedVariables false
set_option linter.unusedSimpArgs false
open HP
theorem At5_pos {l : List CueD} (hg : Good l) (n : Int) : idxI (fun c => decide (c.number = n)) l = if hasC l n = true then (posC l n : Int) else -1 := by
 rcases idxI_cases (fun c : CueD => decide (c.number = n)) l with ⟨h1, h2, _⟩ | ⟨k, x, h1, h2, h3, _, _⟩
 ·have : hasC l n = false := by
   rw [Bool.eq_false_iff]; intro e
   obtain ⟨x, hx, hp⟩ := List.any_eq_true.1 e
   rw [h2 x hx] at hp; cases hp
  rw [this, h1]; rfl
 ·have : hasC l n = true := List.any_eq_true.2 ⟨x, List.mem_of_getElem? h1, h2⟩
  rw [this, if_pos rfl, h3, posC_at hg.srt h1 (of_decide_eq_true h2)]
end Go.Proofs.YtphgchakmkankaaGreat

namespace Go.Proofs.YtphgchakmkankaaGreat
set_option linter.unusedSectionVars false
set_option linter.unusedVariables false
set_option linter.unusedSimpArgs false
open HP
def newCue (n : Int) : CueD := ⟨n, ⟨#[]⟩, 0, 0, 0, 0, ⟨1, []⟩, false, -1, []⟩
def newRow (n : Int) : List AV := cCueH (newCue n) .nsl .nsl
theorem look_pos {st : List EntryD} (h : srtE st) {k : KeyD} (hh : hasE st k = true) : ∃ x, st[posE st k]? = some x ∧ lookE st k = some x := by
 have hx := posE_has (k := k) h
 rw [hh] at hx
 cases hp : st[posE st k]? with
 | none => rw [hp] at hx; cases hx
 | some x =>
  refine ⟨x, rfl, ?_⟩
  unfold lookE
  cases hf : st.find? fun e => decide (e.key = k) with
  | none =>
   rw [hp] at hx
   have := List.find?_eq_none.1 hf x (List.mem_of_getElem? hp)
   simp only [Option.any_some] at hx
   exact absurd hx this
  | some y =>
   have h1 := List.find?_some hf
   obtain ⟨j, hj⟩ := List.mem_iff_getElem?.1 (List.mem_of_find?_eq_some hf)
   have := posE_at h hj (of_decide_eq_true h1)
   rw [← this, hp] at hj
   exact hj.symm
theorem look_no {st : List EntryD} {k : KeyD} (hh : hasE st k = false) : lookE st k = none := by
 unfold lookE
 rw [List.find?_eq_none]
 intro x hx hk
 rw [Bool.eq_false_iff] at hh
 exact hh (List.any_eq_true.2 ⟨x, hx, hk⟩)
section
variable {σ0 σ : Heap} {R : HP}
end
end Go.Proofs.YtphgchakmkankaaGreat

namespace Go.Proofs.YtphgchakmkankaaGreat
set_option linter.unusedSectionVars false
set_option linter.unusedVariables false
set_option linter.unusedSimpArgs false
open HP
section
variable {σ0 σ : Heap} {R : HP}
theorem fin_slf {α : Type} {c : α → List AV} {sz : Nat} {B : Blk → Prop} {v : AV} {l : List α} (hc : ∀ x, FzL (c x)) (H : Hs B σ0 σ (Sl (fl c) sz v l * R)) : ∃ v', A.fin σ0 v σ = some (v', σ0) ∧ A.nn (.s sz) v' = sl sz c l := by
 obtain ⟨v', h1, h2, h3⟩ := slf_fz H hc (Nat.le_refl _) 7
 refine ⟨v', fin_hs (hs_any H) h1 (fun e => ?_), h3⟩
 rcases slf_cases H with ⟨rfl, rfl | rfl, _⟩ | ⟨id, g, rfl, K⟩
 ·simp [A.frz] at h1; rw [h1]
 ·simp [A.frz] at h1; rw [h1]
 ·obtain ⟨k1, k2⟩ := hs_get K
  have := (List.getElem?_eq_some_iff.1 k2).1
  subst e; omega
end
end Go.Proofs.YtphgchakmkankaaGreat

namespace Go.Proofs.YtphgchakmkankaaGreat
set_option linter.unusedSectionVars false
set_option linter.unusedVariables false
set_option linter.unusedSimpArgs false
open HP
def fmS (st : List (KeyD × EntryD)) : AV := fmE (fun x => (AV.agg (cKey x))) (fun x => (AV.agg (cEntry x))) st
section
variable {σ0 σ : Heap} {R : HP}
end
end Go.Proofs.YtphgchakmkankaaGreat

namespace Go.Proofs.YtphgchakmkankaaGreat
set_option linter.unusedSectionVars false
set_option linter.unusedVariables false
set_option linter.unusedSimpArgs false
open HP
theorem loopC_of {R : Type} {f : List AV → Heap → (AX × List AV × Heap → Option R) → Option R} {v : List AV} {σ : Heap} {K : AX × List AV × Heap → Option R} {r : R} (h : ∃ n, ∀ m, n ≤ m → A.iterC f m v σ K = some r) : A.loopC f v σ K = some r := by
 have hx : ∃ r, ∃ n, ∀ m, n ≤ m → A.iterC f m v σ K = some r := ⟨r, h⟩
 unfold A.loopC
 rw [dif_pos hx]
 obtain ⟨n, hn⟩ := h
 obtain ⟨n', hn'⟩ := Classical.choose_spec hx
 have a := hn (n + n') (by omega)
 have b := hn' (n + n') (by omega)
 rw [a] at b; exact b.symm
theorem bounds {P : Nat → Nat → Prop} : ∀ (n : Nat), (∀ j, j < n → ∃ N, ∀ m, N ≤ m → P j m) → ∃ N, ∀ j, j < n → ∀ m, N ≤ m → P j m
 | 0, _ => ⟨0, fun j h => by omega⟩
 | n + 1, h => by
  obtain ⟨N, hN⟩ := bounds n (fun j hj => h j (by omega))
  obtain ⟨M, hM⟩ := h n (by omega)
  refine ⟨N + M, fun j hj m hm => ?_⟩
  by_cases e : j = n
  ·subst e; exact hM m (by omega)
  ·exact hN j (by omega) m (by omega)
theorem map_erase {α β : Type} (f : α → β) (l : List α) (j : Nat) : (l.map f).eraseIdx j = (l.eraseIdx j).map f := by
 rw [List.eraseIdx_eq_take_drop_succ, List.eraseIdx_eq_take_drop_succ, List.map_append, List.map_take, List.map_drop]
theorem perm_at {α : Type} {l : List α} {j : Nat} (hj : j < l.length) : (l[j] :: l.eraseIdx j).Perm l := by
 have e : l = l.take j ++ l[j] :: l.drop (j + 1) := by rw [List.getElem_cons_drop, List.take_append_drop]
 rw [List.eraseIdx_eq_take_drop_succ]
 conv => rhs; rw [e]
 exact List.perm_middle.symm
theorem range_loop {α R : Type} {ex : Nat} {enc : α → AV × AV} {it : Nat} {f : List AV → Heap → (AX × List AV × Heap → Option R) → Option R} {K : AX × List AV × Heap → Option R} {r : R} {es : List α}
  (body : List AV → Heap → (AX × List AV × Heap → Option R) → Option R) (ev : List AV → List AV)
  (hf : ∀ v s k, f v s k = A.nextA (.op it 0) s fun x s' => (A.ext 0 x).bind fun c => A.cond c (body v s' k) (k (.exit ex, ev v, s')))
  (I : List α → List α → List AV → Heap → Prop) (hget : ∀ d l v s, I d l v s → ∃ c, s[it]? = some (.it c (l.map enc)))
  (hstep : ∀ d l v s j p, (d ++ l).Perm es → I d l v s → l[j]? = some p → ∃ v' s', (∀ k, body v (s.set it (.it [enc p] ((l.eraseIdx j).map enc))) k = k (.normal, v', s')) ∧ I (d ++ [p]) (l.eraseIdx j) v' s')
  (hend : ∀ d v s, d.Perm es → I d [] v s → K (.exit ex, ev v, s) = some r) {v0 : List AV} {s0 : Heap} (h0 : I [] es v0 s0) : A.loopC f v0 s0 K = some r := by
 have key : ∀ (n : Nat) (d l : List α) v s, l.length = n → (d ++ l).Perm es → I d l v s → ∃ N, ∀ m, N ≤ m → A.iterC f m v s K = some r := by
  intro n
  induction n with
  | zero =>
   intro d l v s hl hp hI
   have : l = [] := List.eq_nil_of_length_eq_zero hl
   subst this
   refine ⟨1, fun m hm => ?_⟩
   obtain ⟨m', rfl⟩ : ∃ m', m = m' + 1 := ⟨m - 1, by omega⟩
   obtain ⟨c, hc⟩ := hget _ _ _ _ hI
   rw [A.iterC, hf]
   simp only [A.nextA, hc, List.map_nil]
   exact hend d v s (by simpa using hp) hI
  | succ n ih =>
   intro d l v s hl hp hI
   obtain ⟨c, hc⟩ := hget _ _ _ _ hI
   have hb : ∀ j, j < l.length → ∃ N, ∀ m, N ≤ m → ∀ p, l[j]? = some p → body v (s.set it (.it [enc p] ((l.eraseIdx j).map enc))) (fun q => match q.1 with | .normal => A.iterC f m q.2.1 q.2.2 K | _ => K q) = some r := by
    intro j hj
    have hx : l[j]? = some l[j] := List.getElem?_eq_getElem hj
    obtain ⟨v', s', h1, h2⟩ := hstep d l v s j _ hp hI hx
    have hp2 : ((d ++ [l[j]]) ++ l.eraseIdx j).Perm es := by
     rw [List.append_assoc, List.singleton_append]
     exact ((perm_at hj).append_left d).trans hp
    obtain ⟨N, hN⟩ := ih _ _ _ _ (by rw [List.length_eraseIdx, if_pos hj]; omega) hp2 h2
    refine ⟨N, fun m hm p hpp => ?_⟩
    rw [hx] at hpp; injection hpp with hpp; subst hpp
    rw [h1]
    exact hN m hm
   obtain ⟨N, hN⟩ := bounds l.length hb
   refine ⟨N + 1, fun m hm => ?_⟩
   obtain ⟨m', rfl⟩ : ∃ m', m = m' + 1 := ⟨m - 1, by omega⟩
   rw [A.iterC, hf]
   cases l with
   | nil => simp at hl
   | cons e l =>
    simp only [A.nextA, hc, List.map_cons]
    refine all_of 0 (by simp) fun j hj => ?_
    have hj' : j < (e :: l).length := by simpa using hj
    have hx : (e :: l)[j]? = some (e :: l)[j] := List.getElem?_eq_getElem hj'
    have hx2 : (enc e :: l.map enc)[j]? = some (enc (e :: l)[j]) := by
     rw [← List.map_cons, List.getElem?_map, hx]; rfl
    have := hN j hj' m' (by omega) _ hx
    simp only [hx2]
    rw [← List.map_cons, map_erase]
    exact this
 exact loopC_of (key _ [] es v0 s0 rfl (List.Perm.refl _) h0)
def encS (p : KeyD × EntryD) : AV × AV := (.agg (cKey p.1), .agg (cEntry p.2))
section
variable {σ0 σ : Heap} {R : HP}
end
end Go.Proofs.YtphgchakmkankaaGreat

namespace Go.Proofs.YtphgchakmkankaaGreat
set_option linter.unusedSectionVars false
set_option linter.unusedVariables false
set_option linter.unusedSimpArgs false
open HP
theorem tupd_len {ν : Type} (k : KeyD) (v : ν) : ∀ s : List (KeyD × ν), (tupd k v s).length ≤ s.length + 1
 | [] => by simp [tupd]
 | (a, b) :: s => by
  rw [tupd]
  split
  ·simp
  ·have := tupd_len k v s; simp; omega
theorem tdel_len {ν : Type} (k : KeyD) : ∀ s : List (KeyD × ν), (tdel k s).length ≤ s.length
 | [] => by simp [tdel]
 | (a, b) :: s => by
  rw [tdel]
  split
  ·simp
  ·have := tdel_len k s; simp; omega
theorem stepM_len (n : Int) (s : List (KeyD × EntryD)) (m : MoveD) : (stepM n s m).length ≤ s.length + 1 := by
 unfold stepM
 split
 ·have := tdel_len m.key s; omega
 ·exact tupd_len _ _ _
theorem stepsM_len (n : Int) : ∀ (ms : List MoveD) (s : List (KeyD × EntryD)), (ms.foldl (stepM n) s).length ≤ s.length + ms.length
 | [], s => Nat.le_refl _
 | m :: ms, s => by
  rw [List.foldl_cons]
  have := stepsM_len n ms (stepM n s m)
  have := stepM_len n s m
  simp; omega
theorem state_len {l : List CueD} (hm : ∀ c ∈ l, c.moves.length ≤ 2000) : (stateF l).length ≤ l.length * 2000 := by
 unfold stateF
 have key : ∀ (l : List CueD) (s : List (KeyD × EntryD)), (∀ c ∈ l, c.moves.length ≤ 2000) → (l.foldl (fun s c => c.moves.foldl (stepM c.number) s) s).length ≤ s.length + l.length * 2000 := by
  intro l
  induction l with
  | nil => intro s _; simp
  | cons c l ih =>
   intro s h
   rw [List.foldl_cons]
   have h1 := ih (c.moves.foldl (stepM c.number) s) (fun x hx => h x (by simp [hx]))
   have h2 := stepsM_len c.number c.moves s
   have h3 := h c (by simp)
   simp only [List.length_cons, Nat.add_mul]
   omega
 have := key l [] hm
 simpa using this
section
variable {σ0 σ : Heap} {R : HP}
end
end Go.Proofs.YtphgchakmkankaaGreat

namespace Go.Proofs.YtphgchakmkankaaGreat
set_option linter.unusedSectionVars false
set_option linter.unusedVariables false
set_option linter.unusedSimpArgs false
open HP
section
variable {σ0 σ : Heap} {R : HP}
theorem fin_tupS {α : Type} {c : α → List AV} {sz : Nat} {B : Blk → Prop} {v : AV} {l : List α} {e : Int} (hc : ∀ x, FzL (c x)) (H : Hs B σ0 σ (Sl (fl c) sz v l * R)) : ∃ v', A.fin σ0 (.tup [v, .int .i64 e]) σ = some (.tup [v', .int .i64 e], σ0) ∧ A.nn (.s sz) v' = sl sz c l := by
 obtain ⟨v', h1, h2, h3⟩ := slf_fz H hc (Nat.le_refl _) 7
 refine ⟨v', fin_hs (hs_any H) (by simp [A.frz, A.frzL, h1]) (fun e => ?_), h3⟩
 rcases slf_cases H with ⟨rfl, rfl | rfl, _⟩ | ⟨id, g, rfl, K⟩
 ·simp [A.frz] at h1; rw [h1]
 ·simp [A.frz] at h1; rw [h1]
 ·obtain ⟨k1, k2⟩ := hs_get K
  have := (List.getElem?_eq_some_iff.1 k2).1
  subst e; omega
theorem nn_retS {α : Type} {c : α → List AV} {sz : Nat} {v : AV} {l : List α} {e : Int} (h : A.nn (.s sz) v = sl sz c l) : A.nn (.t [(.s sz), .k]) (.tup [v, .int .i64 e]) = .tup [sl sz c l, .int .i64 e] := by
 simp only [A.nn, A.nnL] at h ⊢
 rw [h]
def stateRes (l : List CueD) (n : Int) : List EntryD × Int :=
 if ¬ (formF l = 0) then ([], formF l) else if hasC l n = false then ([], 8) else (beforeF (l.take (posC l n + 1)), 0)
theorem State5_t {l : List CueD} (hl : okL okCue l) (n : Int) (σ : Heap) : m_R5_State [sl 11 cCue l, .int .i64 n] σ = some (.tup [sl 5 cEntry (stateRes l n).1, .int .i64 (stateRes l n).2], σ) := by
 have run : ∃ b, r_R5_State (sl 11 cCue l) (.int .i64 n) σ = some b ∧ b.2 = σ ∧ A.nn (.t [(.s 5), .k]) b.1 = .tup [sl 5 cEntry (stateRes l n).1, .int .i64 (stateRes l n).2] := by
  unfold r_R5_State stateRes
  rw [h_R5_CheckForm (CheckForm5_t l hl), Option.bind_some, aNeI, Option.bind_some]
  by_cases hf : formF l = 0
  case neg =>
   rw [decide_eq_true hf, cnd_t, if_pos hf]
   exact ⟨_, fin_same _ _, rfl, nn_retS rfl⟩
  have hg := good_of hf
  have hlen := hg.len
  rw [decide_eq_false (by simp [hf]), cnd_f, if_neg (by simp [hf])]
  rw [h_R5_At (At_t l (by unfold mxl; omega) n), At5_pos hg, Option.bind_some, tlss0, Option.bind_some]
  cases hh : hasC l n
  ·rw [if_neg (by decide), decide_eq_true (by decide), cnd_t, if_pos rfl]
   exact ⟨_, fin_same _ _, rfl, nn_retS rfl⟩
  rw [if_pos rfl, decide_eq_false (by omega), cnd_f, if_neg (by decide)]
  obtain ⟨x, hx, hxn⟩ := hasC_at hg hh
  generalize posC l n = a at hx ⊢
  have hal := (List.getElem?_eq_some_iff.1 hx).1
  obtain ⟨bv, s1, e1, K1⟩ := ks_at (B := anyB) (fun _ _ => trivial) (Before_s (l := l) (n := a + 1) (by omega) (by omega) (fun c hc => by have := (hg.mv c hc).1; omega)) (hs_nil (B := anyB) σ)
  simp only
  rw [tadd1 (by omega), Option.bind_some, e1, Option.bind_some]
  obtain ⟨v', j1, j2⟩ := fin_tupS (e := 0) fz_cEntry K1
  exact ⟨_, j1, rfl, nn_retS j2⟩
 obtain ⟨⟨b, s⟩, h1, h2, h3⟩ := run
 simp only at h2 h3
 subst h2
 refine wrap_eq rfl ?_ h3
 rw [show A.nnL [Sh.e 11 [.k, .k, .k, .k, .k, .k, .k, .s 2, .k, .k, .s 8]] [sl 11 cCue l, .int .i64 n] = [sl 11 cCue l, .int .i64 n] from nn_arg1 l _]
 exact h1
theorem beforeF_bound {l : List CueD} (hlen : l.length ≤ 300) (hm : ∀ c ∈ l, c.moves.length ≤ 2000) : srtE (beforeF l) ∧ (beforeF l).length ≤ 600000000 := by
 obtain ⟨b1, b2⟩ := before_inv (l := l) (fun c hc => by have := hm c hc; omega) 0 [] List.Pairwise.nil (Nat.zero_le _)
 exact ⟨b1, by unfold beforeF; omega⟩
end
end Go.Proofs.YtphgchakmkankaaGreat

namespace Go.Proofs.YtphgchakmkankaaGreat
set_option linter.unusedSectionVars false
set_option linter.unusedVariables false
set_option linter.unusedSimpArgs false
open HP Go.Sort
theorem gdF (X d : Option AV) : A.guard (.bool false) false X d = X := rfl
theorem gdT (X d : Option AV) : A.guard (.bool true) true X d = X := rfl
theorem gdFx (X d : Option AV) : A.guard (.bool true) false X d = d := rfl
theorem gdTx (X d : Option AV) : A.guard (.bool false) true X d = d := rfl
theorem pkF (x y : AV) : A.pick (.bool false) x y = some y := rfl
theorem pkT (x y : AV) : A.pick (.bool true) x y = some x := rfl
theorem notT : A.not (.bool true) = some (.bool false) := rfl
theorem notF : A.not (.bool false) = some (.bool true) := rfl
theorem pw_ext {α : Type} {r : α → α → Prop} (irr : ∀ x, ¬ r x x) (tr : ∀ x y z, r x y → r y z → r x z) : ∀ {a b : List α}, a.Pairwise r → b.Pairwise r → (∀ x, x ∈ a ↔ x ∈ b) → a = b
 | [], [], _, _, _ => rfl
 | [], y :: b, _, _, h => by have := (h y).2 (by simp); simp at this
 | x :: a, [], _, _, h => by have := (h x).1 (by simp); simp at this
 | x :: a, y :: b, ha, hb, h => by
  have ha' := List.pairwise_cons.1 ha
  have hb' := List.pairwise_cons.1 hb
  have hxy : x = y := by
   rcases List.mem_cons.1 ((h x).1 (by simp)) with e | m1
   ·exact e
   rcases List.mem_cons.1 ((h y).2 (by simp)) with e | m2
   ·exact e.symm
   exact (irr y (tr _ _ _ (hb'.1 x m1) (ha'.1 y m2))).elim
  subst hxy
  congr 1
  refine pw_ext irr tr ha'.2 hb'.2 fun z => ⟨fun hz => ?_, fun hz => ?_⟩
  ·rcases List.mem_cons.1 ((h z).1 (by simp [hz])) with e | m
   ·exact (irr x (e ▸ ha'.1 z hz)).elim
   ·exact m
  ·rcases List.mem_cons.1 ((h z).2 (by simp [hz])) with e | m
   ·exact (irr x (e ▸ hb'.1 z hz)).elim
   ·exact m
theorem pdqL_spec {α : Type} [Inhabited α] {cf : α → α → Int} (hS : SWO (fun x y => decide (cf x y < 0))) (l : List α) : (pdqL cf l).Perm l ∧ (pdqL cf l).Pairwise fun x y => ¬ cf y x < 0 := by
 obtain ⟨⟨h1, _, h3⟩, h2⟩ := pdq_sorts (fun x y => decide (cf x y < 0)) hS l.toArray 0 l.length (Lib.bitLen l.length) true true (Nat.zero_le _) (by simp) (Or.inl rfl)
 unfold pdqL
 generalize pdq (fun x y => decide (cf x y < 0)) l.toArray 0 l.length (Lib.bitLen l.length) true true = d' at h1 h2 h3
 have hs : d'.size = l.length := by simpa using h1
 refine ⟨?_, ?_⟩
 ·have e1 : d'.extract 0 l.length = d' := by rw [← hs]; simp
  have e2 : l.toArray.extract 0 l.length = l.toArray := by simp
  rw [e1, e2] at h3
  exact h3
 ·rw [List.pairwise_iff_getElem]
  intro i j hi hj hij
  simp only [Array.length_toList] at hi hj
  have := h2 i j (Nat.zero_le _) hij (by omega)
  simp only [getElem!_pos d' i hi, getElem!_pos d' j hj] at this
  simpa using this
theorem pdqL_srt {α : Type} [Inhabited α] (f : α → KeyD) {l : List α} (hn : ∀ x ∈ l, ∀ y ∈ l, f x = f y → x = y) (hd : l.Nodup) : (pdqL (fun a b => cmpKey (f a) (f b)) l).Pairwise fun a b => ltK (f a) (f b) = true := by
 obtain ⟨h1, h2⟩ := pdqL_spec (swo_key f) l
 have hnd : (pdqL (fun a b => cmpKey (f a) (f b)) l).Pairwise (fun x y => x ≠ y) := (h1.nodup_iff).2 hd
 refine List.Pairwise.imp_of_mem (R := fun x y => (¬ cmpKey (f y) (f x) < 0) ∧ x ≠ y) ?_ (h2.and hnd)
 rintro x y hx hy ⟨q1, q2⟩
 cases e : ltK (f x) (f y)
 ·exfalso
  have e2 : ltK (f y) (f x) = false := by
   cases e2 : ltK (f y) (f x)
   ·rfl
   ·exact absurd ((cmpKey_lt _ _).2 e2) q1
  exact q2 (hn x (h1.mem_iff.1 hx) y (h1.mem_iff.1 hy) (ltK_tri e e2))
 ·rfl
theorem lookE_some {l : List EntryD} (h : srtE l) {k : KeyD} {x : EntryD} : lookE l k = some x ↔ x ∈ l ∧ x.key = k := by
 constructor
 ·intro e
  exact ⟨List.mem_of_find?_eq_some e, of_decide_eq_true (List.find?_some (p := fun m : EntryD => decide (m.key = k)) e)⟩
 ·rintro ⟨hm, hk⟩
  cases e : lookE l k with
  | none =>
   have := List.find?_eq_none.1 e x hm
   simp [hk] at this
  | some y =>
   have hy := List.mem_of_find?_eq_some e
   have hyk : y.key = k := of_decide_eq_true (List.find?_some (p := fun m : EntryD => decide (m.key = k)) e)
   obtain ⟨i, hi⟩ := List.mem_iff_getElem?.1 hm
   obtain ⟨j, hj⟩ := List.mem_iff_getElem?.1 hy
   have e1 := posE_at h hi hk
   have e2 := posE_at h hj hyk
   rw [← e1, e2, hj] at hi
   exact hi
theorem tfind_mem {k : KeyD} {v : EntryD} : ∀ {s : List (KeyD × EntryD)}, nodK s → (tfind k s = some v ↔ (k, v) ∈ s)
 | [], _ => by simp [tfind]
 | (a, b) :: s, h => by
  unfold nodK at h
  rw [List.map_cons, List.nodup_cons] at h
  rw [tfind]
  by_cases e : k = a
  ·subst e
   rw [if_pos rfl]
   constructor
   ·intro q; injection q with q; simp [q]
   ·intro q
    rcases List.mem_cons.1 q with q | q
    ·injection q with _ q; rw [q]
    ·exact (h.1 (List.mem_map.2 ⟨_, q, rfl⟩)).elim
  ·rw [if_neg e, tfind_mem h.2]
   constructor
   ·intro q; exact List.mem_cons_of_mem _ q
   ·intro q
    rcases List.mem_cons.1 q with q | q
    ·injection q with q _; exact (e q).elim
    ·exact q
def ownK (s : List (KeyD × EntryD)) : Prop := ∀ p ∈ s, p.2.key = p.1
theorem mem_upd2 {ν : Type} {k : KeyD} {v : ν} : ∀ {s : List (KeyD × ν)} {x : KeyD × ν}, x ∈ tupd k v s → x ∈ s ∨ x = (k, v)
 | [], x, h => by simp [tupd] at h; exact .inr h
 | (a, b) :: s, x, h => by
  rw [tupd] at h
  split at h
  ·rcases List.mem_cons.1 h with rfl | h
   ·exact .inr rfl
   ·exact .inl (List.mem_cons_of_mem _ h)
  ·rcases List.mem_cons.1 h with rfl | h
   ·exact .inl List.mem_cons_self
   ·rcases mem_upd2 h with h | h
    ·exact .inl (List.mem_cons_of_mem _ h)
    ·exact .inr h
theorem ownK_state (l : List CueD) : ownK (stateF l) := by
 have inner : ∀ (n : Int) (ms : List MoveD) (s : List (KeyD × EntryD)), ownK s → ownK (ms.foldl (stepM n) s) := by
  intro n ms
  induction ms with
  | nil => intro s h; exact h
  | cons m ms ih =>
   intro s hs
   refine ih _ (fun p hp => ?_)
   unfold stepM at hp
   split at hp
   ·exact hs p (mem_del hp)
   ·rcases mem_upd2 hp with hp | hp
    ·exact hs p hp
    ·rw [hp]
 have key : ∀ (l : List CueD) (s : List (KeyD × EntryD)), ownK s → ownK (l.foldl (fun s c => c.moves.foldl (stepM c.number) s) s) := by
  intro l
  induction l with
  | nil => intro s h; exact h
  | cons c l ih => intro s hs; exact ih _ (inner c.number c.moves s hs)
 exact key l [] (by intro p hp; cases hp)
theorem state_sorted {s d : List (KeyD × EntryD)} {st : List EntryD} (hS : SameS s st) (hk : ownK s) (hp : d.Perm s) [Inhabited EntryD] : pdqL (fun a b : EntryD => cmpKey a.key b.key) (d.map (·.2)) = st := by
 obtain ⟨h1, h2, h3⟩ := hS
 have hd1 : nodK d := by
  unfold nodK at h1 ⊢
  exact ((hp.map (·.1)).nodup_iff).2 h1
 have hkd : ownK d := fun p hp' => hk p (hp.mem_iff.1 hp')
 have he : d.map (·.1) = (d.map (·.2)).map (·.key) := by
  rw [List.map_map]
  exact (List.map_congr_left fun p hp' => (hkd p hp').symm)
 have hnk : ((d.map (·.2)).map (·.key)).Nodup := by rw [← he]; exact hd1
 have hinj : ∀ x ∈ d.map (·.2), ∀ y ∈ d.map (·.2), x.key = y.key → x = y := by
  intro x hx y hy e
  obtain ⟨i, hi⟩ := List.mem_iff_getElem?.1 hx
  obtain ⟨j, hj⟩ := List.mem_iff_getElem?.1 hy
  have hi' := (List.getElem?_eq_some_iff.1 hi).1
  have hij : i = j := by
   refine (List.getElem?_inj (l := (d.map (·.2)).map (·.key)) (by simpa using hi') hnk).1 ?_
   have q1 : ((d.map (·.2)).map (·.key))[i]? = some x.key := by rw [List.getElem?_map, hi]; rfl
   have q2 : ((d.map (·.2)).map (·.key))[j]? = some y.key := by rw [List.getElem?_map, hj]; rfl
   rw [q1, q2, e]
  subst hij
  rw [hi] at hj; injection hj
 have hs := pdqL_srt (f := fun e : EntryD => e.key) hinj ((List.pairwise_map.1 hnk).imp fun h e => h (congrArg _ e))
 refine pw_ext (r := fun a b : EntryD => ltK a.key b.key = true) (fun x q => by rw [ltK_irr] at q; cases q) (fun x y z => ltK_trans) hs h2 fun x => ?_
 have hmem := (pdqL_spec (swo_key fun e : EntryD => e.key) (d.map (·.2))).1.mem_iff (a := x)
 rw [hmem, (hp.map (·.2)).mem_iff]
 constructor
 ·intro hx
  obtain ⟨p, hp1, hp2⟩ := List.mem_map.1 hx
  have hpk := hk p hp1
  have : tfind p.1 s = some p.2 := (tfind_mem h1).2 hp1
  rw [h3] at this
  rw [← hp2]
  exact ((lookE_some h2).1 this).1
 ·intro hx
  have : lookE st x.key = some x := (lookE_some h2).2 ⟨hx, rfl⟩
  rw [← h3] at this
  exact List.mem_map.2 ⟨_, (tfind_mem h1).1 this, rfl⟩
section
variable {σ0 σ : Heap} {R : HP}
theorem sort_own {α : Type} [Inhabited α] {c : α → List AV} {sz : Nat} {cf : α → α → Int} (hinj : ∀ x y, c x = c y → x = y) {v : AV} {l : List α} (hl : l ≠ []) (hlen : l.length < 4611686018427387904) (hS : SWO (fun x y => decide (cf x y < 0))) (H : Hs anyB σ0 σ (Sl (fl c) sz v l * R)) :
  ∃ σ', A.sortG sz c cf v σ = some (.tup [], σ') ∧ Hs anyB σ0 σ' (Sl (fl c) sz v (pdqL cf l) * R) := by
 rcases slf_cases H with ⟨h, _, _⟩ | ⟨id, g, rfl, K⟩
 ·exact absurd h hl
 obtain ⟨_, h2⟩ := hs_get K
 have hp : 0 < l.length := List.length_pos_iff.2 hl
 have hc : (g = g ∧ sz = sz ∧ sz = sz ∧ 0 + l.length ≤ (l.map c).length ∧ 0 < l.length ∧ l.length < 4611686018427387904) ∧ ∃ l' : List α, ((l.map c).drop 0).take l.length = l'.map c :=
  ⟨⟨rfl, rfl, rfl, by simp, hp, hlen⟩, l, by rw [List.drop_zero, List.take_of_length_le (by simp)]⟩
 have hch : Classical.choose hc.2 = l := by
  have h9 := Classical.choose_spec hc.2
  have e9 : ((l.map c).drop 0).take l.length = l.map c := by rw [List.drop_zero, List.take_of_length_le (by simp)]
  exact ((List.map_inj_right hinj).1 (e9.symm.trans h9)).symm
 refine ⟨σ.set id (.arr g sz ((pdqL cf l).map c)), ?_, ?_⟩
 ·unfold A.sortG
  simp only [h2]
  rw [dif_pos hc, hch, List.take_zero, List.nil_append, List.drop_of_length_le (by simp), List.append_nil]
 ·have hle : (pdqL cf l).length = l.length := (pdqL_spec hS l).1.length_eq
  exact slf_os (hs_set (b' := .arr g sz ((pdqL cf l).map c)) K trivial) hle.symm
theorem row_entry (e : EntryD) : (((A.cells 5 (.agg (cEntry e))).bind fun c22 => (A.splice 0 c22 [(AV.int .i64 0), (AV.str ⟨#[]⟩), (AV.int .i64 0), (AV.int .i64 0), (AV.int .i64 0)]).bind fun c23 => some c23).bind fun cs => some (AV.sl 5 (chunks 5 1 cs))) = some (.sl 5 [cEntry e]) := rfl
theorem appE {B : Blk → Prop} {v : AV} {l : List EntryD} (k : EntryD) (hl : l.length < 1000000) (hB : ∀ g g' seg, (seg = [] ∨ B (.arr g 5 seg)) → B (.arr g' 5 (seg ++ [cEntry k]))) (H : Hs B σ0 σ (Sl (fl cEntry) 5 v l * R)) :
  ∃ v' σ', A.append 5 (140737488355328 / 48) v (.sl 5 [cEntry k]) σ = some (v', σ') ∧ Hs B σ0 σ' (Sl (fl cEntry) 5 v' (l ++ [k]) * R) :=
 sl_app (ys := [cEntry k]) (xs := [k]) (hs_eq (show pr (cEntry k = cEntry k) * (Sl (fl cEntry) 5 v l * R) = _ by
  rw [show els (fl cEntry) [cEntry k] [k] = pr (cEntry k = cEntry k) * emp from rfl, star_assoc, emp_star]; ac_rfl) (hs_pr.2 ⟨rfl, H⟩)) (by simp; omega) hB
theorem State_t {l : List CueD} (hl : okL okCue l) {n : Int} (hn : inI n) (σ : Heap) : m_cue_State [sl 11 cCue l, .int .i64 n] σ = some (.tup [sl 5 cEntry (stateRes l n).1, .int .i64 (stateRes l n).2], σ) := by
 have run : r_cue_State (sl 11 cCue l) (.int .i64 n) σ = some (.tup [sl 5 cEntry (stateRes l n).1, .int .i64 (stateRes l n).2], σ) := by
  unfold r_cue_State stateRes
  rw [h_cue_form (form_t l hl), Option.bind_some, aNeI, Option.bind_some]
  by_cases hf : formF l = 0
  case neg =>
   rw [decide_eq_true hf, cnd_t, if_pos hf, fin_same, Option.map_some]
   exact congrArg (fun z => some (z, σ)) (nn_retS rfl)
  have hg := good_of hf
  have hlen := hg.len
  rw [decide_eq_false (by simp [hf]), cnd_f, if_neg (by simp [hf])]
  obtain ⟨p, e1, e2, e3⟩ := place_t hg hn σ
  rw [e1, Option.bind_some, ext0, Option.bind_some, ext1, Option.bind_some, show A.not (.bool (hasC l n)) = some (.bool (!hasC l n)) from rfl, Option.bind_some]
  cases hh : hasC l n
  ·rw [show (!false) = true from rfl, cnd_t, if_pos rfl, fin_same, Option.map_some]
   exact congrArg (fun z => some (z, σ)) (nn_retS rfl)
  rw [show (!true) = false from rfl, cnd_f, if_neg (by decide)]
  have e4 := e3 (.inr hh)
  subst e4
  obtain ⟨x, hx, hxn⟩ := hasC_at hg hh
  generalize posC l n = a at hx ⊢
  have hal := (List.getElem?_eq_some_iff.1 hx).1
  obtain ⟨st, hst⟩ : ∃ st, st = stateF (l.take (a + 1)) := ⟨_, rfl⟩
  have hS : SameS st (beforeF (l.take (a + 1))) := hst ▸ same_state _
  have hk : ownK st := hst ▸ ownK_state _
  have hsl : st.length ≤ 600000 := by
   have h1 := state_len (l := l.take (a + 1)) (fun c hc => (hg.mv c (List.mem_of_mem_take hc)).1)
   have h2 : (l.take (a + 1)).length ≤ 300 := by simp; omega
   rw [hst]
   exact Nat.le_trans h1 (Nat.mul_le_mul_right 2000 h2)
  have hcs : m_cue_state [sl 11 cCue (l.take (a + 1))] σ = some (fmS st, σ) := by
   rw [hst]
   exact h_cue_state (state_t (by simp; unfold mxl; omega) (fun c hc => by have := (hg.mv c (List.mem_of_mem_take hc)).1; unfold mxl; omega))
  rw [tadd1 (by omega), Option.bind_some, show A.sliceS 11 (sl 11 cCue l) none (some (.int .i64 ((a + 1 : Nat) : Int))) σ = some (sl 11 cCue (l.take (a + 1))) from sliceS_take 11 cCue l (by omega), Option.bind_some, hcs, Option.bind_some]
  rw [show A.rangeA (fmS st) = some (st.map encS) from rfl, Option.bind_some]
  simp only
  refine range_loop (α := KeyD × EntryD) (enc := encS) (it := σ.length) (es := st) _ _ (fun _ _ _ => rfl) (fun d lf w s => ∃ h c, w = [h] ∧ (d = [] → h = .nsl) ∧ Hs anyB σ s (blk σ.length (.it c (lf.map encS)) * (Sl (fl cEntry) 5 h (d.map (·.2)) * emp))) ?_ ?_ ?_ ?_
  ·rintro d lf w s ⟨h, c, rfl, _, K⟩
   exact ⟨c, (hs_get K).2⟩
  ·rintro d lf w s j p hp ⟨h, c, rfl, _, K⟩ hj
   have K' := hs_set (b' := .it [encS p] ((lf.eraseIdx j).map encS)) K trivial
   obtain ⟨_, hgt⟩ := hs_get K'
   generalize s.set σ.length (Blk.it [encS p] ((lf.eraseIdx j).map encS)) = s16 at K' hgt ⊢
   have hdl : d.length ≤ st.length := by have := hp.length_eq; simp at this; omega
   obtain ⟨h', s', g1, K2⟩ := appE p.2 (by simp; omega) (fun _ _ _ _ => trivial) (hs_eq (show _ = Sl (fl cEntry) 5 h (d.map (·.2)) * (blk σ.length (.it [encS p] ((lf.eraseIdx j).map encS)) * emp) by ac_rfl) K')
   have hent : A.entryA (.op σ.length 0) s16 = some (.tup [.agg (cKey p.1), .agg (cEntry p.2)]) := by simp only [A.entryA, hgt]; rfl
   refine ⟨[h'], s', fun k => ?_, h', _, rfl, fun q => by simp at q, hs_eq (by rw [List.map_append]; show Sl (fl cEntry) 5 h' (d.map (·.2) ++ [p.2]) * _ = _; ac_rfl) K2⟩
   rw [hent, Option.bind_some, ext1, Option.bind_some, show A.cells 5 (.agg (cEntry p.2)) = some (cEntry p.2) from rfl, Option.bind_some, sp_cEntry p.2 _ rfl, Option.bind_some, show A.partA 0 5 (cEntry p.2) = some (.agg (cEntry p.2)) from rfl, Option.bind_some, row_entry, Option.bind_some]
   simp only [List.getD_cons_zero]
   rw [g1, Option.bind_some]
  ·rintro d w s hp ⟨h, c, rfl, hnil, K⟩
   have K2 := hs_drop K
   simp only [exb, List.getD_cons_zero]
   letI : Inhabited EntryD := ⟨⟨⟨0, ⟨#[]⟩⟩, ⟨0, 0⟩, 0⟩⟩
   have hsort : ∃ s', m_slices_SortFunc_Entry [h, .fn 297 []] s = some (.tup [], s') ∧ Hs anyB σ s' (Sl (fl cEntry) 5 h (beforeF (l.take (a + 1))) * emp) := by
    have hres := state_sorted hS hk hp
    by_cases hd : d = []
    ·subst hd
     rw [hnil rfl] at K2 ⊢
     refine ⟨s, rfl, ?_⟩
     rw [List.map_nil] at hres K2
     have : beforeF (l.take (a + 1)) = [] := by
      rw [← hres]
      exact List.eq_nil_of_length_eq_zero (by rw [(pdqL_spec (swo_key fun e : EntryD => e.key) []).1.length_eq]; rfl)
     rw [this]; exact K2
    ·have hdl : d.length ≤ st.length := by have := hp.length_eq; omega
     obtain ⟨s', g1, K3⟩ := sort_own (cf := fun a b : EntryD => cmpKey a.key b.key) cEntry_inj (by simpa using hd) (by simp; omega) (swo_key fun e : EntryD => e.key) K2
     rw [hres] at K3
     exact ⟨s', g1, K3⟩
   obtain ⟨s', g1, K3⟩ := hsort
   rw [g1, Option.bind_some]
   obtain ⟨v', j1, j2⟩ := fin_tupS (e := 0) fz_cEntry K3
   rw [j1, Option.map_some]
   exact congrArg (fun z => some (z, σ)) (nn_retS j2)
  ·have K2 := hs_new (b := Blk.it [] (st.map encS)) (hs_nil (B := anyB) σ) trivial
   refine ⟨.nsl, [], rfl, fun _ => rfl, ?_⟩
   rw [List.map_nil]
   exact hs_eq (show _ = blk σ.length (Blk.it [] (st.map encS)) * (Sl (fl cEntry) 5 .nsl [] * emp) by ac_rfl) (slz (v := .nsl) (E := fl cEntry) (sz := 5) K2 (.inl rfl))
 refine wrap_eq rfl ?_ (nn_retS (v := sl 5 cEntry (stateRes l n).1) rfl)
 rw [show A.nnL [Sh.e 11 [.k, .k, .k, .k, .k, .k, .k, .s 2, .k, .k, .s 8]] [sl 11 cCue l, .int .i64 n] = [sl 11 cCue l, .int .i64 n] from nn_arg1 l _]
 exact run
end
end Go.Proofs.YtphgchakmkankaaGreat

namespace Go.Proofs.YtphgchakmkankaaGreat
set_option linter.unusedSectionVars false
set_option linter.unusedVariables false
set_option linter.unusedSimpArgs false
set_option maxRecDepth 100000
noncomputable def t_cue_levels_fn1 (a0 : ProfileD) (a1 : UnitD) : Option Bool :=
 some (decide (a0.name = a1.profile))
theorem h_cue_levels_fn1 {a0 : ProfileD} { a1 : UnitD} {σ : Heap} {r : Bool} (h : t_cue_levels_fn1 a0 a1 = some r) : m_cue_levels_fn1 [(AV.agg (cProfile a0)), (AV.rp (cUnit a1))] σ = some ((AV.bool r), σ) := by
 refine rf_wrap2 (f := r_cue_levels_fn1) (y0 := (AV.agg (cProfile a0))) (y1 := (AV.rp (cUnit a1))) (enc := fun r : Bool => (AV.bool r)) (T := t_cue_levels_fn1 a0 a1) (nn_t1 (nn_a (nn_t1 rfl (nn_t1 rfl (nn_t1 (nn_e (fun _ => rfl) _) nn_t0)))) rfl) rfl ?_ r h
 unfold r_cue_levels_fn1 t_cue_levels_fn1
 refine rf_s (cProfile a0) rfl ?_
 refine rf_s (AV.str a0.name) rfl ?_
 refine rf_s (AV.rp (List.drop 1 (cUnit a1))) rfl ?_
 refine rf_s (AV.str a1.profile) rfl ?_
 refine rf_s (AV.bool (decide (a0.name = a1.profile))) (aEqZ _ _) ?_
 exact rf_fin _ (fin_same _ _) ⟨rfl, rfl⟩

noncomputable def t_cue_levels (a0 : RigD) (a1 : (List PresetD)) (a2 : (List (KeyD × EntryD))) : Option (List SettingD) :=
 forE a0.units (fun (i10 : Nat) e9 (s3 : (List SettingD)) => (show Option (Lr (List SettingD) (List SettingD) Unit) from
   (tq (a0.library.length ≤ mxl) (idxI (fun x => (decide (x.name = e9.profile))) a0.library)).bind fun r15 =>
   (tIx a0.library r15).bind fun x16 =>
   forE x16.params (fun (i24 : Nat) e23 (s17 : (List SettingD)) => (show Option (Lr (List SettingD) (List SettingD) Unit) from
     (show Option Int from
       if (tfind (⟨e9.number, e23.name⟩ : KeyD) a2).isSome = true then
        (t_pick_Level a1 (⟨e9.number, e23.name⟩ : KeyD) (((tfind (⟨e9.number, e23.name⟩ : KeyD) a2).getD (⟨(⟨0, (⟨#[]⟩ : ByteArray)⟩ : KeyD), (⟨0, 0⟩ : ValueD), 0⟩ : EntryD)).value)).bind fun r25 =>
        some r25.1
       else
       some e23.default).bind fun j27 =>
     if s17.length + ([(⟨(⟨(⟨e9.number, e23.name⟩ : KeyD).unit, (⟨e9.number, e23.name⟩ : KeyD).param⟩ : KeyD), j27⟩ : SettingD)] : (List SettingD)).length ≤ 4398046511104 then
     some (.go (s17 ++ ([(⟨(⟨(⟨e9.number, e23.name⟩ : KeyD).unit, (⟨e9.number, e23.name⟩ : KeyD).param⟩ : KeyD), j27⟩ : SettingD)] : (List SettingD))))
     else none)) (fun s17 => some s17) s3 (fun b18 =>
    some (.go b18)) (fun b18 =>
    none))) (fun s3 => some s3) ([] : List SettingD) (fun b4 =>
  some b4) (fun b4 =>
  none)
theorem h_cue_levels {a0 : RigD} { a1 : (List PresetD)} { a2 : (List (KeyD × EntryD))} {σ : Heap} {r : (List SettingD)} (h : t_cue_levels a0 a1 a2 = some r) : m_cue_levels [(AV.agg (cRig a0)), (sl 3 cPreset a1), (fmE (fun x => (AV.agg (cKey x))) (fun x => (AV.agg (cEntry x))) a2)] σ = some ((sl 3 cSetting r), σ) := by
 refine rf_wrap3 (f := r_cue_levels) (y0 := (AV.agg (cRig a0))) (y1 := (sl 3 cPreset a1)) (y2 := (fmE (fun x => (AV.agg (cKey x))) (fun x => (AV.agg (cEntry x))) a2)) (enc := fun r : (List SettingD) => (sl 3 cSetting r)) (T := t_cue_levels a0 a1 a2) (nn_t1 (nn_a (nn_t1 (nn_e (fun _ => (nn_t1 rfl (nn_t1 rfl (nn_t1 (nn_e (fun _ => rfl) _) nn_t0)))) _) (nn_t1 rfl nn_t0))) (nn_t1 (nn_e (fun _ => rfl) _) rfl)) rfl ?_ r h
 unfold r_cue_levels t_cue_levels
 refine rf_s (cRig a0) rfl ?_
 refine rf_s (sl 4 cUnit a0.units) rfl ?_
 refine rf_s (AV.int .i64 (a0.units.length : Int)) (lenS_sl _ _ _) ?_
 have hp1 : Hp σ σ [] := hp_nil σ
 have hp2 : Hp σ σ [(AV.nsl, (Ct.s 3 (List.map cSetting ([] : List SettingD))))] := hp_nsl hp1 3
 refine rf_for (B := (List SettingD)) (R := Unit) (fun (i10 : Nat) (s3 : (List SettingD)) v w5 => ∃ hh0, v = [(AV.lbx (cRig a0)), hh0, (AV.int .i64 (i10 : Int))] ∧ Hp σ w5 [(hh0, (Ct.s 3 (List.map cSetting s3)))]) (fun (b4 : (List SettingD)) (q : LS) => ∃ u3 u20 hh0 w6, q = ((AX.exit 0), ([u3, hh0, u20] : List AV), w6) ∧ Hp σ w6 [(hh0, (Ct.s 3 (List.map cSetting b4)))]) (fun (b4 : Unit) (q : LS) => False) ?_ ?_ ⟨_, rfl, hp2⟩ ?_ ?_
 ·intro hle9 i10 e9 s3 v w5 he9 hI
  obtain ⟨hh0, rfl, hp7⟩ := hI
  refine rf_s (AV.bool true) (ix_lt he9) ?_
  refine rf_ct ?_
  refine rf_s (AV.rp (cUnit e9)) (ix_for he9) ?_
  refine rf_s (AV.agg (cUnit e9)) rfl ?_
  have hp11 : Hp σ (w5 ++ [Blk.box [(AV.int .i64 0), (AV.str (⟨#[]⟩ : ByteArray)), (AV.int .i64 0), (AV.int .i64 0)]]) [(hh0, (Ct.s 3 (List.map cSetting s3))), ((AV.op w5.length 0), (Ct.b (cUnit (⟨0, (⟨#[]⟩ : ByteArray), 0, 0⟩ : UnitD))))] := hp_op hp7 _
  refine rf_s (cUnit e9) rfl ?_
  obtain ⟨w12, e14, hp13⟩ := hp_boxset (cs' := (cUnit e9)) hp11 1 rfl 0 (by first | rfl | exact sp_cUnit _ _ rfl)
  change Hp σ w12 [(hh0, (Ct.s 3 (List.map cSetting s3))), ((AV.op w5.length 0), (Ct.b (cUnit e9)))] at hp13
  refine rf_s w12 e14 ?_
  refine rf_s _ rfl ?_
  refine rf_s (sl 3 cProfile a0.library) rfl ?_
  refine rf_o (fun r15 : Int => ((AV.int .i64 r15), w12)) (fun r15 hr15 => (tq_of (e := fun r : Int => ((AV.int .i64 r), w12)) (fun hs => m_slices_IndexFunc_api_Profile_eq _ a0.library hs _ _ (fun x => (decide (x.name = e9.profile))) w12 (fun x hx => cap_own hp13 1 rfl (fz_cUnit _) (fz_agg (fz_cProfile _)) rfl rfl (h_cue_levels_fn1 (σ := []) (r := (decide (x.name = e9.profile))) rfl)))) hr15) (fun r15 hr15 => ?_)
  refine rf_s _ rfl ?_
  refine rf_s (sl 3 cProfile a0.library) rfl ?_
  refine rf_o (fun x16 : ProfileD => (AV.rp (cProfile x16))) (fun x16 hx16 => ix_at hx16) (fun x16 hx16 => ?_)
  refine rf_s (AV.rp (List.drop 2 (cProfile x16))) rfl ?_
  refine rf_s (sl 7 cParam x16.params) rfl ?_
  refine rf_s (AV.int .i64 (x16.params.length : Int)) (lenS_sl _ _ _) ?_
  refine rf_for (B := (List SettingD)) (R := Unit) (fun (i24 : Nat) (s17 : (List SettingD)) v w19 => ∃ hh0, v = [(AV.lbx (cRig a0)), hh0, (AV.int .i64 (i24 : Int))] ∧ Hp σ w19 [(hh0, (Ct.s 3 (List.map cSetting s17))), ((AV.op w5.length 0), (Ct.b (cUnit e9)))]) (fun (b18 : (List SettingD)) (q : LS) => ∃ u35 hh0 w20, q = ((AX.exit 2), ([(AV.lbx (cRig a0)), hh0, u35] : List AV), w20) ∧ Hp σ w20 [(hh0, (Ct.s 3 (List.map cSetting b18))), ((AV.op w5.length 0), (Ct.b (cUnit e9)))]) (fun (b18 : Unit) (q : LS) => False) ?_ ?_ ⟨_, rfl, hp13⟩ ?_ ?_
  ·intro hle23 i24 e23 s17 v w19 he23 hI
   obtain ⟨hh0, rfl, hp21⟩ := hI
   refine rf_s (AV.bool true) (ix_lt he23) ?_
   refine rf_ct ?_
   refine rf_s (AV.rp (cParam e23)) (ix_for he23) ?_
   refine rf_s (AV.agg (cParam e23)) rfl ?_
   refine rf_s (cParam e23) rfl ?_
   refine rf_s (cParam e23) (sp_cParam _ _ rfl) ?_
   refine rf_s (AV.op w5.length 0) rfl ?_
   refine rf_s (AV.int .i64 e9.number) (by rw [hp_box hp21 1 rfl]; rfl) ?_
   refine rf_s (AV.str e23.name) rfl ?_
   refine rf_s (AV.agg (cKey (⟨e9.number, e23.name⟩ : KeyD))) rfl ?_
   refine rf_s (cKey (⟨e9.number, e23.name⟩ : KeyD)) rfl ?_
   refine rf_s (cKey (⟨e9.number, e23.name⟩ : KeyD)) (sp_cKey _ _ rfl) ?_
   refine rf_s (AV.int .i64 e23.default) rfl ?_
   refine rf_s (AV.agg (cKey (⟨e9.number, e23.name⟩ : KeyD))) rfl ?_
   refine rf_s (AV.tup [(AV.agg (cEntry ((tfind (⟨e9.number, e23.name⟩ : KeyD) a2).getD (⟨(⟨0, (⟨#[]⟩ : ByteArray)⟩ : KeyD), (⟨0, 0⟩ : ValueD), 0⟩ : EntryD)))), (AV.bool (tfind (⟨e9.number, e23.name⟩ : KeyD) a2).isSome)]) (fm_lookOkT (ek := (.s [0, 2])) (eK := (fun x => (AV.agg (cKey x)))) (eV := (fun x => (AV.agg (cEntry x)))) eqk_Key (⟨e9.number, e23.name⟩ : KeyD) (⟨(⟨0, (⟨#[]⟩ : ByteArray)⟩ : KeyD), (⟨0, 0⟩ : ValueD), 0⟩ : EntryD) rfl) ?_
   refine rf_s (AV.agg (cEntry ((tfind (⟨e9.number, e23.name⟩ : KeyD) a2).getD (⟨(⟨0, (⟨#[]⟩ : ByteArray)⟩ : KeyD), (⟨0, 0⟩ : ValueD), 0⟩ : EntryD)))) rfl ?_
   refine rf_s (AV.bool (tfind (⟨e9.number, e23.name⟩ : KeyD) a2).isSome) rfl ?_
   refine rf_s (cEntry ((tfind (⟨e9.number, e23.name⟩ : KeyD) a2).getD (⟨(⟨0, (⟨#[]⟩ : ByteArray)⟩ : KeyD), (⟨0, 0⟩ : ValueD), 0⟩ : EntryD))) rfl ?_
   refine rf_s (cEntry ((tfind (⟨e9.number, e23.name⟩ : KeyD) a2).getD (⟨(⟨0, (⟨#[]⟩ : ByteArray)⟩ : KeyD), (⟨0, 0⟩ : ValueD), 0⟩ : EntryD))) (sp_cEntry _ _ rfl) ?_
   refine rf_b (ω := Int) (fun j27 a => ∃ w28, a = (([(AV.lbx (cRig a0)), (AV.lbx (cKey (⟨e9.number, e23.name⟩ : KeyD))), (AV.int .i64 j27)] : List AV), w28) ∧ Hp σ w28 [(hh0, (Ct.s 3 (List.map cSetting s17))), ((AV.op w5.length 0), (Ct.b (cUnit e9)))]) (
     by
      refine rf_cb (c := (tfind (⟨e9.number, e23.name⟩ : KeyD) a2).isSome) (fun c26 => ?_) (fun c26 => ?_)
      ·refine rf_s (AV.agg (cKey (⟨e9.number, e23.name⟩ : KeyD))) rfl ?_
       refine rf_s (AV.agg (cValue (((tfind (⟨e9.number, e23.name⟩ : KeyD) a2).getD (⟨(⟨0, (⟨#[]⟩ : ByteArray)⟩ : KeyD), (⟨0, 0⟩ : ValueD), 0⟩ : EntryD)).value))) rfl ?_
       refine rf_o (fun r25 : (Int × Int) => ((AV.tup [(AV.int .i64 r25.1), (AV.int .i64 r25.2)]), w19)) (fun r25 hr25 => h_pick_Level hr25) (fun r25 hr25 => ?_)
       refine rf_s (AV.int .i64 r25.1) rfl ?_
       refine rf_s (AV.int .i64 r25.2) rfl ?_
       exact rf_ret ⟨_, rfl, hp21⟩
      exact rf_ret ⟨_, rfl, hp21⟩
     ) (fun j27 a ha => ?_)
   obtain ⟨w28, rfl, hp29⟩ := ha
   refine rf_s (AV.agg (cKey (⟨e9.number, e23.name⟩ : KeyD))) rfl ?_
   refine rf_s (AV.agg (cSetting (⟨(⟨(⟨e9.number, e23.name⟩ : KeyD).unit, (⟨e9.number, e23.name⟩ : KeyD).param⟩ : KeyD), j27⟩ : SettingD))) rfl ?_
   refine rf_s (sl 3 cSetting ([(⟨(⟨(⟨e9.number, e23.name⟩ : KeyD).unit, (⟨e9.number, e23.name⟩ : KeyD).param⟩ : KeyD), j27⟩ : SettingD)] : (List SettingD))) rfl ?_
   refine rf_tq (fun hm => ?_)
   obtain ⟨h33, w30, e32, hp31⟩ := hp_appT (c := cSetting) (ys := ([(⟨(⟨(⟨e9.number, e23.name⟩ : KeyD).unit, (⟨e9.number, e23.name⟩ : KeyD).param⟩ : KeyD), j27⟩ : SettingD)] : (List SettingD))) (most := 4398046511104) hp29 0 rfl hm
   change Hp σ w30 [(h33, (Ct.s 3 (List.map cSetting (s17 ++ ([(⟨(⟨(⟨e9.number, e23.name⟩ : KeyD).unit, (⟨e9.number, e23.name⟩ : KeyD).param⟩ : KeyD), j27⟩ : SettingD)] : (List SettingD)))))), ((AV.op w5.length 0), (Ct.b (cUnit e9)))] at hp31
   refine rf_s (h33, w30) e32 ?_
   refine rf_s (AV.int .i64 ((i24 + 1 : Nat) : Int)) (ix_inc he23 hle23) ?_
   exact rf_ret (rnd_go ⟨_, rfl, hp31⟩)
  ·intro hl s17 v w19 hI
   obtain ⟨hh0, rfl, hp21⟩ := hI
   refine rf_s (AV.bool false) (ix_end _) ?_
   refine rf_cf ?_
   exact rf_ret ⟨by simp, ⟨_, _, _, rfl, hp21⟩⟩
  ·intro hl b18 q hq
   obtain ⟨u35, hh0, w20, rfl, hp22⟩ := hq
   refine rf_bt rfl ?_
   refine rf_s (AV.int .i64 ((i10 + 1 : Nat) : Int)) (ix_inc he9 hle9) ?_
   exact rf_ret (rnd_go ⟨_, rfl, (hp_take hp22 1)⟩)
  ·intro hl b18 q hq
   exact False.elim hq
 ·intro hl s3 v w5 hI
  obtain ⟨hh0, rfl, hp7⟩ := hI
  refine rf_s (AV.bool false) (ix_end _) ?_
  refine rf_cf ?_
  exact rf_ret ⟨by simp, ⟨_, _, _, _, rfl, hp7⟩⟩
 ·intro hl b4 q hq
  obtain ⟨u3, u20, hh0, w6, rfl, hp8⟩ := hq
  refine rf_bt rfl ?_
  obtain ⟨ra0, fa0, fb0⟩ := fzv_own (c := cSetting) (l := b4) hp8 (k := 0) rfl fz_cSetting
  exact rf_fin _ (hp_fin hp8 fa0) ⟨(nn_own' fb0), rfl⟩
 ·intro hl b4 q hq
  exact False.elim hq

noncomputable def t_R2_Profile (a0 : (List ProfileD)) (a1 : ByteArray) : Option (ProfileD × Bool) :=
 forE a0 (fun (i8 : Nat) e7 (s1 : Unit) => (show Option (Lr Unit Unit (ProfileD × Bool)) from
   if e7.name = a1 then
    some (.ret (e7, true))
   else
   some (.go ()))) (fun s1 => some ()) () (fun b2 =>
  some ((⟨(⟨#[]⟩ : ByteArray), 0, []⟩ : ProfileD), false)) (fun b2 =>
  some (b2.1, b2.2))
theorem h_R2_Profile {a0 : (List ProfileD)} { a1 : ByteArray} {σ : Heap} {r : (ProfileD × Bool)} (h : t_R2_Profile a0 a1 = some r) : m_R2_Profile [(sl 3 cProfile a0), (AV.str a1)] σ = some ((AV.tup [(AV.agg (cProfile r.1)), (AV.bool r.2)]), σ) := by
 refine rf_wrap2 (f := r_R2_Profile) (y0 := (sl 3 cProfile a0)) (y1 := (AV.str a1)) (enc := fun r : (ProfileD × Bool) => (AV.tup [(AV.agg (cProfile r.1)), (AV.bool r.2)])) (T := t_R2_Profile a0 a1) rfl rfl ?_ r h
 unfold r_R2_Profile t_R2_Profile
 refine rf_s (AV.int .i64 (a0.length : Int)) (lenS_sl _ _ _) ?_
 refine rf_for (B := Unit) (R := (ProfileD × Bool)) (fun (i8 : Nat) (s1 : Unit) v w3 => v = [(AV.lbx [(AV.str (⟨#[]⟩ : ByteArray)), (AV.int .i64 0), AV.nsl]), (AV.bool false), (AV.int .i64 (i8 : Int))] ∧ σ = w3) (fun (b2 : Unit) (q : LS) => ∃ u5 u10, q = ((AX.exit 0), ([(AV.lbx [(AV.str (⟨#[]⟩ : ByteArray)), (AV.int .i64 0), AV.nsl]), u5, u10] : List AV), σ)) (fun (b2 : (ProfileD × Bool)) (q : LS) => ∃ u10, q = (AX.ret, ([(AV.lbx (cProfile b2.1)), (AV.bool b2.2), u10] : List AV), σ)) ?_ ?_ ⟨rfl, rfl⟩ ?_ ?_
 ·intro hle7 i8 e7 s1 v w3 he7 hI
  obtain ⟨rfl, rfl⟩ := hI
  refine rf_s (AV.bool true) (ix_lt he7) ?_
  refine rf_ct ?_
  refine rf_s (AV.rp (cProfile e7)) (ix_for he7) ?_
  refine rf_s (AV.agg (cProfile e7)) rfl ?_
  refine rf_s (cProfile e7) rfl ?_
  refine rf_s (cProfile e7) (sp_cProfile _ _ rfl) ?_
  refine rf_s (AV.str e7.name) rfl ?_
  refine rf_s (AV.bool (decide (e7.name = a1))) (aEqZ _ _) ?_
  refine rf_c (p := e7.name = a1) (fun c9 => ?_) (fun c9 => ?_)
  ·refine rf_s (AV.agg (cProfile e7)) rfl ?_
   refine rf_s _ rfl ?_
   refine rf_s (cProfile e7) rfl ?_
   refine rf_s (cProfile e7) (sp_cProfile _ _ rfl) ?_
   exact rf_ret (rnd_ret (by simp) ⟨_, rfl⟩)
  refine rf_s (AV.int .i64 ((i8 + 1 : Nat) : Int)) (ix_inc he7 hle7) ?_
  exact rf_ret (rnd_go ⟨rfl, rfl⟩)
 ·intro hl s1 v w3 hI
  obtain ⟨rfl, rfl⟩ := hI
  refine rf_s (AV.bool false) (ix_end _) ?_
  refine rf_cf ?_
  exact rf_ret ⟨by simp, ⟨_, _, rfl⟩⟩
 ·intro hl b2 q hq
  obtain ⟨u5, u10, rfl⟩ := hq
  refine rf_bt rfl ?_
  refine rf_s _ rfl ?_
  refine rf_s [(AV.str (⟨#[]⟩ : ByteArray)), (AV.int .i64 0), AV.nsl] rfl ?_
  refine rf_s [(AV.str (⟨#[]⟩ : ByteArray)), (AV.int .i64 0), AV.nsl] rfl ?_
  refine rf_s (AV.agg [(AV.str (⟨#[]⟩ : ByteArray)), (AV.int .i64 0), AV.nsl]) rfl ?_
  exact rf_fin _ (fin_same _ _) ⟨(nn_t (nn_t1 (nn_a (nn_t1 rfl (nn_t1 rfl (nn_t1 (by first | rfl | exact nn_eNil _ _) nn_t0)))) (nn_t1 rfl nn_t0))), rfl⟩
 ·intro hl b2 q hq
  obtain ⟨u10, rfl⟩ := hq
  refine rf_bf rfl ?_
  refine rf_bt rfl ?_
  refine rf_s (AV.agg (cProfile b2.1)) rfl ?_
  exact rf_fin _ (fin_same _ _) ⟨(nn_t (nn_t1 (nn_a (nn_t1 rfl (nn_t1 rfl (nn_t1 (nn_e (fun _ => rfl) _) nn_t0)))) (nn_t1 rfl nn_t0))), rfl⟩

noncomputable def t_R2_KeysOf (a0 : RigD) : Option (List KeyD) :=
 forE a0.units (fun (i10 : Nat) e9 (s3 : (List KeyD)) => (show Option (Lr (List KeyD) (List KeyD) Unit) from
   (t_R2_Profile a0.library e9.profile).bind fun r11 =>
   forE r11.1.params (fun (i19 : Nat) e18 (s12 : (List KeyD)) => (show Option (Lr (List KeyD) (List KeyD) Unit) from
     if s12.length + ([(⟨e9.number, e18.name⟩ : KeyD)] : (List KeyD)).length ≤ 5864062014805 then
     some (.go (s12 ++ ([(⟨e9.number, e18.name⟩ : KeyD)] : (List KeyD))))
     else none)) (fun s12 => some s12) s3 (fun b13 =>
    some (.go b13)) (fun b13 =>
    none))) (fun s3 => some s3) ([] : List KeyD) (fun b4 =>
  some b4) (fun b4 =>
  none)
theorem h_R2_KeysOf {a0 : RigD} {σ : Heap} {r : (List KeyD)} (h : t_R2_KeysOf a0 = some r) : m_R2_KeysOf [(AV.agg (cRig a0))] σ = some ((sl 2 cKey r), σ) := by
 refine rf_wrap1 (f := r_R2_KeysOf) (y0 := (AV.agg (cRig a0))) (enc := fun r : (List KeyD) => (sl 2 cKey r)) (T := t_R2_KeysOf a0) rfl rfl ?_ r h
 unfold r_R2_KeysOf t_R2_KeysOf
 refine rf_s (cRig a0) rfl ?_
 refine rf_s (sl 4 cUnit a0.units) rfl ?_
 refine rf_s (AV.int .i64 (a0.units.length : Int)) (lenS_sl _ _ _) ?_
 have hp1 : Hp σ σ [] := hp_nil σ
 have hp2 : Hp σ σ [(AV.nsl, (Ct.s 2 (List.map cKey ([] : List KeyD))))] := hp_nsl hp1 2
 refine rf_for (B := (List KeyD)) (R := Unit) (fun (i10 : Nat) (s3 : (List KeyD)) v w5 => ∃ hh0, v = [(AV.lbx (cRig a0)), hh0, (AV.int .i64 (i10 : Int))] ∧ Hp σ w5 [(hh0, (Ct.s 2 (List.map cKey s3)))]) (fun (b4 : (List KeyD)) (q : LS) => ∃ u1 u13 hh0 w6, q = ((AX.exit 0), ([u1, hh0, u13] : List AV), w6) ∧ Hp σ w6 [(hh0, (Ct.s 2 (List.map cKey b4)))]) (fun (b4 : Unit) (q : LS) => False) ?_ ?_ ⟨_, rfl, hp2⟩ ?_ ?_
 ·intro hle9 i10 e9 s3 v w5 he9 hI
  obtain ⟨hh0, rfl, hp7⟩ := hI
  refine rf_s (AV.bool true) (ix_lt he9) ?_
  refine rf_ct ?_
  refine rf_s (AV.rp (cUnit e9)) (ix_for he9) ?_
  refine rf_s (AV.agg (cUnit e9)) rfl ?_
  refine rf_s (cUnit e9) rfl ?_
  refine rf_s (cUnit e9) (sp_cUnit _ _ rfl) ?_
  refine rf_s _ rfl ?_
  refine rf_s (sl 3 cProfile a0.library) rfl ?_
  refine rf_s (AV.str e9.profile) rfl ?_
  refine rf_o (fun r11 : (ProfileD × Bool) => ((AV.tup [(AV.agg (cProfile r11.1)), (AV.bool r11.2)]), w5)) (fun r11 hr11 => h_R2_Profile hr11) (fun r11 hr11 => ?_)
  refine rf_s (AV.agg (cProfile r11.1)) rfl ?_
  refine rf_s (AV.bool r11.2) rfl ?_
  refine rf_s (cProfile r11.1) rfl ?_
  refine rf_s (cProfile r11.1) (sp_cProfile _ _ rfl) ?_
  refine rf_s (sl 7 cParam r11.1.params) rfl ?_
  refine rf_s (AV.int .i64 (r11.1.params.length : Int)) (lenS_sl _ _ _) ?_
  refine rf_for (B := (List KeyD)) (R := Unit) (fun (i19 : Nat) (s12 : (List KeyD)) v w14 => ∃ hh0, v = [(AV.lbx (cRig a0)), hh0, (AV.lbx (cUnit e9)), (AV.int .i64 (i19 : Int))] ∧ Hp σ w14 [(hh0, (Ct.s 2 (List.map cKey s12)))]) (fun (b13 : (List KeyD)) (q : LS) => ∃ u5 u28 hh0 w15, q = ((AX.exit 2), ([(AV.lbx (cRig a0)), hh0, u5, u28] : List AV), w15) ∧ Hp σ w15 [(hh0, (Ct.s 2 (List.map cKey b13)))]) (fun (b13 : Unit) (q : LS) => False) ?_ ?_ ⟨_, rfl, hp7⟩ ?_ ?_
  ·intro hle18 i19 e18 s12 v w14 he18 hI
   obtain ⟨hh0, rfl, hp16⟩ := hI
   refine rf_s (AV.bool true) (ix_lt he18) ?_
   refine rf_ct ?_
   refine rf_s (AV.rp (cParam e18)) (ix_for he18) ?_
   refine rf_s (AV.agg (cParam e18)) rfl ?_
   refine rf_s (cParam e18) rfl ?_
   refine rf_s (cParam e18) (sp_cParam _ _ rfl) ?_
   refine rf_s _ rfl ?_
   refine rf_s (AV.int .i64 e9.number) rfl ?_
   refine rf_s (AV.str e18.name) rfl ?_
   refine rf_s (AV.agg (cKey (⟨e9.number, e18.name⟩ : KeyD))) rfl ?_
   refine rf_s (sl 2 cKey ([(⟨e9.number, e18.name⟩ : KeyD)] : (List KeyD))) rfl ?_
   refine rf_tq (fun hm => ?_)
   obtain ⟨h23, w20, e22, hp21⟩ := hp_appT (c := cKey) (ys := ([(⟨e9.number, e18.name⟩ : KeyD)] : (List KeyD))) (most := 5864062014805) hp16 0 rfl hm
   change Hp σ w20 [(h23, (Ct.s 2 (List.map cKey (s12 ++ ([(⟨e9.number, e18.name⟩ : KeyD)] : (List KeyD))))))] at hp21
   refine rf_s (h23, w20) e22 ?_
   refine rf_s (AV.int .i64 ((i19 + 1 : Nat) : Int)) (ix_inc he18 hle18) ?_
   exact rf_ret (rnd_go ⟨_, rfl, hp21⟩)
  ·intro hl s12 v w14 hI
   obtain ⟨hh0, rfl, hp16⟩ := hI
   refine rf_s (AV.bool false) (ix_end _) ?_
   refine rf_cf ?_
   exact rf_ret ⟨by simp, ⟨_, _, _, _, rfl, hp16⟩⟩
  ·intro hl b13 q hq
   obtain ⟨u5, u28, hh0, w15, rfl, hp17⟩ := hq
   refine rf_bt rfl ?_
   refine rf_s (AV.int .i64 ((i10 + 1 : Nat) : Int)) (ix_inc he9 hle9) ?_
   exact rf_ret (rnd_go ⟨_, rfl, hp17⟩)
  ·intro hl b13 q hq
   exact False.elim hq
 ·intro hl s3 v w5 hI
  obtain ⟨hh0, rfl, hp7⟩ := hI
  refine rf_s (AV.bool false) (ix_end _) ?_
  refine rf_cf ?_
  exact rf_ret ⟨by simp, ⟨_, _, _, _, rfl, hp7⟩⟩
 ·intro hl b4 q hq
  obtain ⟨u1, u13, hh0, w6, rfl, hp8⟩ := hq
  refine rf_bt rfl ?_
  obtain ⟨ra0, fa0, fb0⟩ := fzv_own (c := cKey) (l := b4) hp8 (k := 0) rfl fz_cKey
  exact rf_fin _ (hp_fin hp8 fa0) ⟨(nn_own' fb0), rfl⟩
 ·intro hl b4 q hq
  exact False.elim hq

noncomputable def t_R5_levels (a0 : RigD) (a1 : (List PresetD)) (a2 : (List EntryD)) : Option (List SettingD) :=
 (t_R2_KeysOf a0).bind fun r1 =>
 forE r1 (fun (i11 : Nat) e10 (s4 : (List SettingD)) => (show Option (Lr (List SettingD) (List SettingD) Unit) from
   (tq (okRig a0) (paramOf a0 e10)).bind fun r12 =>
   (t_R5_place a2 e10).bind fun r13 =>
   (show Option Int from
     if r13.2 = true then
      (tIx a2 r13.1).bind fun x14 =>
      (t_R4_Level a1 e10 x14.value).bind fun r15 =>
      some r15.1
     else
     some r12.1.default).bind fun j17 =>
   if s4.length + ([(⟨(⟨e10.unit, e10.param⟩ : KeyD), j17⟩ : SettingD)] : (List SettingD)).length ≤ 4398046511104 then
   some (.go (s4 ++ ([(⟨(⟨e10.unit, e10.param⟩ : KeyD), j17⟩ : SettingD)] : (List SettingD))))
   else none)) (fun s4 => some s4) ([] : List SettingD) (fun b5 =>
  some b5) (fun b5 =>
  none)
theorem h_R5_levels {a0 : RigD} { a1 : (List PresetD)} { a2 : (List EntryD)} {σ : Heap} {r : (List SettingD)} (h : t_R5_levels a0 a1 a2 = some r) : m_R5_levels [(AV.agg (cRig a0)), (sl 3 cPreset a1), (sl 5 cEntry a2)] σ = some ((sl 3 cSetting r), σ) := by
 refine rf_wrap3 (f := r_R5_levels) (y0 := (AV.agg (cRig a0))) (y1 := (sl 3 cPreset a1)) (y2 := (sl 5 cEntry a2)) (enc := fun r : (List SettingD) => (sl 3 cSetting r)) (T := t_R5_levels a0 a1 a2) (nn_t1 (nn_a (nn_t1 (nn_e (fun _ => (nn_t1 rfl (nn_t1 rfl (nn_t1 (nn_e (fun _ => rfl) _) nn_t0)))) _) (nn_t1 rfl nn_t0))) (nn_t1 (nn_e (fun _ => rfl) _) (nn_t1 rfl rfl))) rfl ?_ r h
 unfold r_R5_levels t_R5_levels
 refine rf_s (cRig a0) rfl ?_
 refine rf_s (AV.agg (cRig a0)) rfl ?_
 refine rf_o (fun r1 : (List KeyD) => ((sl 2 cKey r1), σ)) (fun r1 hr1 => h_R2_KeysOf hr1) (fun r1 hr1 => ?_)
 refine rf_s (AV.int .i64 (r1.length : Int)) (lenS_sl _ _ _) ?_
 have hp2 : Hp σ σ [] := hp_nil σ
 have hp3 : Hp σ σ [(AV.nsl, (Ct.s 3 (List.map cSetting ([] : List SettingD))))] := hp_nsl hp2 3
 refine rf_for (B := (List SettingD)) (R := Unit) (fun (i11 : Nat) (s4 : (List SettingD)) v w6 => ∃ hh0, v = [(AV.lbx (cRig a0)), hh0, (AV.int .i64 (i11 : Int))] ∧ Hp σ w6 [(hh0, (Ct.s 3 (List.map cSetting s4)))]) (fun (b5 : (List SettingD)) (q : LS) => ∃ u3 u18 hh0 w7, q = ((AX.exit 0), ([u3, hh0, u18] : List AV), w7) ∧ Hp σ w7 [(hh0, (Ct.s 3 (List.map cSetting b5)))]) (fun (b5 : Unit) (q : LS) => False) ?_ ?_ ⟨_, rfl, hp3⟩ ?_ ?_
 ·intro hle10 i11 e10 s4 v w6 he10 hI
  obtain ⟨hh0, rfl, hp8⟩ := hI
  refine rf_s (AV.bool true) (ix_lt he10) ?_
  refine rf_ct ?_
  refine rf_s (AV.rp (cKey e10)) (ix_for he10) ?_
  refine rf_s (AV.agg (cKey e10)) rfl ?_
  refine rf_s (cKey e10) rfl ?_
  refine rf_s (cKey e10) (sp_cKey _ _ rfl) ?_
  refine rf_s (AV.agg (cRig a0)) rfl ?_
  refine rf_s (AV.agg (cKey e10)) rfl ?_
  refine rf_o (fun r12 : (ParamD × Bool) => ((AV.tup [(AV.agg (cParam r12.1)), (AV.bool r12.2)]), w6)) (fun r12 hr12 => (tq_of (e := fun r : (ParamD × Bool) => ((AV.tup [(AV.agg (cParam r.1)), (AV.bool r.2)]), w6)) (fun hs => ParamOf2_eq a0 hs e10 w6)) hr12) (fun r12 hr12 => ?_)
  refine rf_s (AV.agg (cParam r12.1)) rfl ?_
  refine rf_s (AV.bool r12.2) rfl ?_
  refine rf_s (cParam r12.1) rfl ?_
  refine rf_s (cParam r12.1) (sp_cParam _ _ rfl) ?_
  refine rf_s (AV.int .i64 r12.1.default) rfl ?_
  refine rf_s (AV.agg (cKey e10)) rfl ?_
  refine rf_o (fun r13 : (Int × Bool) => ((AV.tup [(AV.int .i64 r13.1), (AV.bool r13.2)]), w6)) (fun r13 hr13 => h_R5_place hr13) (fun r13 hr13 => ?_)
  refine rf_s (AV.int .i64 r13.1) rfl ?_
  refine rf_s (AV.bool r13.2) rfl ?_
  refine rf_b (ω := Int) (fun j17 a => ∃ w18, a = (([(AV.lbx (cRig a0)), (AV.lbx (cKey e10)), (AV.int .i64 j17)] : List AV), w18) ∧ Hp σ w18 [(hh0, (Ct.s 3 (List.map cSetting s4)))]) (
    by
     refine rf_cb (c := r13.2) (fun c16 => ?_) (fun c16 => ?_)
     ·refine rf_s (AV.agg (cKey e10)) rfl ?_
      refine rf_o (fun x14 : EntryD => (AV.rp (cEntry x14))) (fun x14 hx14 => ix_at hx14) (fun x14 hx14 => ?_)
      refine rf_s (AV.rp (List.drop 2 (cEntry x14))) rfl ?_
      refine rf_s (AV.agg (cValue x14.value)) rfl ?_
      refine rf_o (fun r15 : (Int × Int) => (AV.tup [(AV.int .i64 r15.1), (AV.int .i64 r15.2)])) (fun r15 hr15 => (quiet_of (h_R4_Level hr15))) (fun r15 hr15 => ?_)
      refine rf_s (AV.int .i64 r15.1) rfl ?_
      refine rf_s (AV.int .i64 r15.2) rfl ?_
      exact rf_ret ⟨_, rfl, hp8⟩
     exact rf_ret ⟨_, rfl, hp8⟩
    ) (fun j17 a ha => ?_)
  obtain ⟨w18, rfl, hp19⟩ := ha
  refine rf_s (AV.agg (cKey e10)) rfl ?_
  refine rf_s (AV.agg (cSetting (⟨(⟨e10.unit, e10.param⟩ : KeyD), j17⟩ : SettingD))) rfl ?_
  refine rf_s (sl 3 cSetting ([(⟨(⟨e10.unit, e10.param⟩ : KeyD), j17⟩ : SettingD)] : (List SettingD))) rfl ?_
  refine rf_tq (fun hm => ?_)
  obtain ⟨h23, w20, e22, hp21⟩ := hp_appT (c := cSetting) (ys := ([(⟨(⟨e10.unit, e10.param⟩ : KeyD), j17⟩ : SettingD)] : (List SettingD))) (most := 4398046511104) hp19 0 rfl hm
  change Hp σ w20 [(h23, (Ct.s 3 (List.map cSetting (s4 ++ ([(⟨(⟨e10.unit, e10.param⟩ : KeyD), j17⟩ : SettingD)] : (List SettingD))))))] at hp21
  refine rf_s (h23, w20) e22 ?_
  refine rf_s (AV.int .i64 ((i11 + 1 : Nat) : Int)) (ix_inc he10 hle10) ?_
  exact rf_ret (rnd_go ⟨_, rfl, hp21⟩)
 ·intro hl s4 v w6 hI
  obtain ⟨hh0, rfl, hp8⟩ := hI
  refine rf_s (AV.bool false) (ix_end _) ?_
  refine rf_cf ?_
  exact rf_ret ⟨by simp, ⟨_, _, _, _, rfl, hp8⟩⟩
 ·intro hl b5 q hq
  obtain ⟨u3, u18, hh0, w7, rfl, hp9⟩ := hq
  refine rf_bt rfl ?_
  obtain ⟨ra0, fa0, fb0⟩ := fzv_own (c := cSetting) (l := b5) hp9 (k := 0) rfl fz_cSetting
  exact rf_fin _ (hp_fin hp9 fa0) ⟨(nn_own' fb0), rfl⟩
 ·intro hl b5 q hq
  exact False.elim hq

noncomputable def t_slices_Equal_api_Setting (a0 : (List SettingD)) (a1 : (List SettingD)) : Option Bool :=
 if ¬ ((a0.length : Int) = (a1.length : Int)) then
  some false
 else
 forE a0 (fun (i8 : Nat) e7 (s1 : Unit) => (show Option (Lr Unit Unit Unit) from
   (tIx a1 (i8 : Int)).bind fun x9 =>
   if ¬ (e7 = x9) then
    some (.ret ())
   else
   some (.go ()))) (fun s1 => some ()) () (fun b2 =>
  some true) (fun b2 =>
  some false)
theorem h_slices_Equal_api_Setting {a0 : (List SettingD)} { a1 : (List SettingD)} {σ : Heap} {r : Bool} (h : t_slices_Equal_api_Setting a0 a1 = some r) : m_slices_Equal_api_Setting [(sl 3 cSetting a0), (sl 3 cSetting a1)] σ = some ((AV.bool r), σ) := by
 refine rf_wrap2 (f := r_slices_Equal_api_Setting) (y0 := (sl 3 cSetting a0)) (y1 := (sl 3 cSetting a1)) (enc := fun r : Bool => (AV.bool r)) (T := t_slices_Equal_api_Setting a0 a1) rfl rfl ?_ r h
 unfold r_slices_Equal_api_Setting t_slices_Equal_api_Setting
 refine rf_s (AV.int .i64 (a0.length : Int)) (lenS_sl _ _ _) ?_
 refine rf_s (AV.int .i64 (a1.length : Int)) (lenS_sl _ _ _) ?_
 refine rf_s (AV.bool (decide (¬ ((a0.length : Int) = (a1.length : Int))))) (aNe _ _ _) ?_
 refine rf_c (p := ¬ ((a0.length : Int) = (a1.length : Int))) (fun c11 => ?_) (fun c11 => ?_)
 ·exact rf_fin _ (fin_same _ _) ⟨rfl, rfl⟩
 refine rf_s (AV.int .i64 (a0.length : Int)) (lenS_sl _ _ _) ?_
 refine rf_for (B := Unit) (R := Unit) (fun (i8 : Nat) (s1 : Unit) v w3 => v = [(AV.bool false), (AV.int .i64 (i8 : Int))] ∧ σ = w3) (fun (b2 : Unit) (q : LS) => ∃ u4 u13, q = ((AX.exit 0), ([u4, u13] : List AV), σ)) (fun (b2 : Unit) (q : LS) => ∃ u13, q = (AX.ret, ([(AV.bool false), u13] : List AV), σ)) ?_ ?_ ⟨rfl, rfl⟩ ?_ ?_
 ·intro hle7 i8 e7 s1 v w3 he7 hI
  obtain ⟨rfl, rfl⟩ := hI
  refine rf_s (AV.bool true) (ix_lt he7) ?_
  refine rf_ct ?_
  refine rf_s (AV.rp (cSetting e7)) (ix_for he7) ?_
  refine rf_s (AV.agg (cSetting e7)) rfl ?_
  refine rf_o (fun x9 : SettingD => (AV.rp (cSetting x9))) (fun x9 hx9 => ix_at hx9) (fun x9 hx9 => ?_)
  refine rf_s (AV.agg (cSetting x9)) rfl ?_
  refine rf_s (AV.bool (decide (¬ (e7 = x9)))) (ne_Setting _ _) ?_
  refine rf_c (p := ¬ (e7 = x9)) (fun c10 => ?_) (fun c10 => ?_)
  ·exact rf_ret (rnd_ret (by simp) ⟨_, rfl⟩)
  refine rf_s (AV.int .i64 ((i8 + 1 : Nat) : Int)) (ix_inc he7 hle7) ?_
  exact rf_ret (rnd_go ⟨rfl, rfl⟩)
 ·intro hl s1 v w3 hI
  obtain ⟨rfl, rfl⟩ := hI
  refine rf_s (AV.bool false) (ix_end _) ?_
  refine rf_cf ?_
  exact rf_ret ⟨by simp, ⟨_, _, rfl⟩⟩
 ·intro hl b2 q hq
  obtain ⟨u4, u13, rfl⟩ := hq
  refine rf_bt rfl ?_
  exact rf_fin _ (fin_same _ _) ⟨rfl, rfl⟩
 ·intro hl b2 q hq
  obtain ⟨u13, rfl⟩ := hq
  refine rf_bf rfl ?_
  refine rf_bt rfl ?_
  exact rf_fin _ (fin_same _ _) ⟨rfl, rfl⟩

end Go.Proofs.YtphgchakmkankaaGreat

namespace Go.Proofs.YtphgchakmkankaaGreat
set_option linter.unusedSectionVars false
set_option linter.unusedVariables false
set_option linter.unusedSimpArgs false
theorem eqSelf {α : Type} {l : List α} {body : Nat → α → Unit → Option (Lr Unit Unit Unit)} {K : Unit → Option Bool} (hl : l.length ≤ mxl) (hb : ∀ i x, l[i]? = some x → body i x () = some (.go ())) : forE l body (fun s => some ()) () (fun _ => some true) K = some true := by
 rw [forE_find (p := fun _ => false) (r := fun _ => ()) hl (fun i x hx => by rw [hb i x hx]; rfl)]
 have : l.find? (fun _ => false) = none := by simp
 rw [this]
theorem EqualEn_t (l : List EntryD) (hl : l.length ≤ mxl) : t_slices_Equal_api_Entry l l = some true := by
 unfold t_slices_Equal_api_Entry
 simp only [not_true_eq_false, if_false]
 refine eqSelf hl fun i x hx => ?_
 rw [tIx_get (x := x) (by omega) (by simpa using hx)]
 simp
end Go.Proofs.YtphgchakmkankaaGreat

namespace Go.Proofs.YtphgchakmkankaaGreat
set_option linter.unusedSectionVars false
set_option linter.unusedVariables false
set_option linter.unusedSimpArgs false
def stLevel (presets : List PresetD) (st : KeyD → Option EntryD) (k : KeyD) (d : Int) : Int := match st k with
 | some e => (levelOf presets k e.value).1
 | none => d
def levRow (presets : List PresetD) (st : KeyD → Option EntryD) (u : UnitD) (x : ParamD) : SettingD := ⟨⟨u.number, x.name⟩, stLevel presets st ⟨u.number, x.name⟩ x.default⟩
def unitLev (lib : List ProfileD) (presets : List PresetD) (st : KeyD → Option EntryD) (u : UnitD) : List SettingD := (profOf u.profile lib).1.params.map (levRow presets st u)
def levelsF (r : RigD) (presets : List PresetD) (st : KeyD → Option EntryD) : List SettingD := r.units.flatMap (unitLev r.library presets st)
theorem chkU_prof (lib : List ProfileD) : ∀ (l pre : List UnitD), chkU lib pre l = 0 → ∀ u ∈ l, (profOf u.profile lib).2 = true
 | [], pre, h, u, hu => by simp at hu
 | v :: l, pre, h, u, hu => by
  rw [chkU] at h
  split at h
  ·simp at h
  split at h
  ·simp at h
  split at h
  ·simp at h
  rename_i h3
  split at h
  ·simp at h
  split at h
  ·simp at h
  simp only [List.mem_cons] at hu
  rcases hu with rfl | hu
  ·simpa using h3
  ·exact chkU_prof lib l _ h u hu
theorem rigF_prof {r : RigD} (h : rigF r = 0) : ∀ u ∈ r.units, (profOf u.profile r.library).2 = true := by
 unfold rigF at h
 split at h
 ·split at h
  ·simp at h
  ·exact chkU_prof _ _ _ h
 ·rename_i h2; exact absurd h h2
theorem chkP_nodup (size : Int) : ∀ (l pre : List ParamD), chkP size pre l = 0 → (∀ x ∈ l, memB x.name (pre.map (·.name)) = false) ∧ (l.map (·.name)).Nodup
 | [], pre, h => ⟨by simp, by simp⟩
 | x :: l, pre, h => by
  rw [chkP] at h
  split at h
  ·simp at h
  split at h
  ·simp at h
  rename_i h2
  split at h
  ·simp at h
  split at h
  ·simp at h
  split at h
  ·simp at h
  split at h
  case isFalse => rename_i h6; exact absurd h h6
  obtain ⟨q1, q2⟩ := chkP_nodup size l _ h
  refine ⟨fun y hy => ?_, ?_⟩
  ·simp only [List.mem_cons] at hy
   rcases hy with rfl | hy
   ·simpa using h2
   ·have := q1 y hy
    cases hc : memB y.name (pre.map (·.name))
    ·rfl
    ·rw [memB_iff] at hc
     have h3 : memB y.name ((pre ++ [x]).map (·.name)) = true := memB_iff.2 (by rw [List.map_append]; exact List.mem_append.2 (.inl hc))
     rw [this] at h3; cases h3
  ·rw [List.map_cons, List.nodup_cons]
   refine ⟨fun hx => ?_, q2⟩
   obtain ⟨y, hy, e⟩ := List.mem_map.1 hx
   have := q1 y hy
   have h3 : memB y.name ((pre ++ [x]).map (·.name)) = true := memB_iff.2 (by rw [List.map_append]; exact List.mem_append.2 (.inr (by simp [e])))
   rw [this] at h3; cases h3
theorem find_own {α β : Type} [DecidableEq β] (f : α → β) : ∀ (l : List α), (l.map f).Nodup → ∀ x ∈ l, l.find? (fun y => decide (f y = f x)) = some x
 | [], _, x, hx => by simp at hx
 | z :: l, h, x, hx => by
  rw [List.map_cons, List.nodup_cons] at h
  rw [List.find?_cons]
  by_cases e : f z = f x
  ·rw [decide_eq_true e]
   simp only [List.mem_cons] at hx
   rcases hx with rfl | hx
   ·rfl
   ·exact absurd (List.mem_map.2 ⟨x, hx, e.symm⟩) h.1
  ·rw [decide_eq_false e]
   simp only [List.mem_cons] at hx
   rcases hx with rfl | hx
   ·exact absurd rfl e
   ·exact find_own f l h.2 x hx
theorem prof_params {r : RigD} (h : rigF r = 0) (nm : ByteArray) : ((profOf nm r.library).1.params.map (·.name)).Nodup := by
 rw [profOf_find]
 cases hf : r.library.find? (fun x : ProfileD => decide (x.name = nm)) with
 | none => exact List.nodup_nil
 | some p =>
  have := libF_right (rigF_lib h) p (List.mem_of_find?_eq_some hf)
  unfold profileF at this
  repeat' split at this
  all_goals first | (simp at this; done) | exact (chkP_nodup _ _ _ this).2
theorem paramOf_at {r : RigD} (h : rigF r = 0) {u : UnitD} (hu : u ∈ r.units) {x : ParamD} (hx : x ∈ (profOf u.profile r.library).1.params) : paramOf r ⟨u.number, x.name⟩ = (x, true) := by
 unfold paramOf
 have hs : (r.units.map (·.number)).Nodup := (rigF_sorted h).imp fun q => by omega
 have h1 : r.units.find? (fun v => decide (v.number = (⟨u.number, x.name⟩ : KeyD).unit)) = some u := find_own (·.number) r.units hs u hu
 rw [h1, Option.elim_some]
 unfold paramB
 have h2 : (profOf u.profile r.library).1.params.find? (fun y => decide (y.name = (⟨u.number, x.name⟩ : KeyD).param)) = some x := find_own (·.name) _ (prof_params h _) x hx
 rw [h2, Option.elim_some]
theorem levels_keys {r : RigD} (h : rigF r = 0) (presets : List PresetD) (st : KeyD → Option EntryD) : (keysOf r).map (fun k => (⟨k, stLevel presets st k (paramOf r k).1.default⟩ : SettingD)) = levelsF r presets st := by
 unfold keysOf levelsF
 rw [List.map_flatMap]
 have key : ∀ (l : List UnitD), (∀ u ∈ l, u ∈ r.units) → (l.flatMap fun a => (unitKeys r.library a).map fun k => (⟨k, stLevel presets st k (paramOf r k).1.default⟩ : SettingD)) = l.flatMap (unitLev r.library presets st) := by
  intro l
  induction l with
  | nil => intro _; rfl
  | cons u l ih =>
   intro hl
   rw [List.flatMap_cons, List.flatMap_cons, ih fun v hv => hl v (by simp [hv])]
   congr 1
   unfold unitKeys unitLev
   rw [List.map_map]
   refine List.map_congr_left fun x hx => ?_
   show (⟨⟨u.number, x.name⟩, _⟩ : SettingD) = _
   rw [paramOf_at h (hl u (by simp)) hx]
   rfl
 exact key r.units fun u hu => hu
theorem foldl_push {α β : Type} (f : α → β) : ∀ (l : List α) (s : List β), l.foldl (fun s x => s ++ [f x]) s = s ++ l.map f
 | [], s => by simp
 | x :: l, s => by rw [List.foldl_cons, foldl_push f l]; simp
theorem foldl_many {α β : Type} (f : α → List β) : ∀ (l : List α) (s : List β), l.foldl (fun s x => s ++ f x) s = s ++ l.flatMap f
 | [], s => by simp
 | x :: l, s => by rw [List.foldl_cons, foldl_many f l]; simp
theorem levels_t {r : RigD} (hr : okRig r) (h : rigF r = 0) {presets : List PresetD} (hp : okL okPreset presets) (st : List (KeyD × EntryD)) : t_cue_levels r presets st = some (levelsF r presets fun k => tfind k st) := by
 unfold t_cue_levels
 have hu := rigF_units h
 rw [forE_fold (g := fun s u => s ++ unitLev r.library presets (fun k => tfind k st) u) (P := fun i s => s.length ≤ i * 40) hr.2.1 (by simp) ?_ ?_]
 ·show some (List.foldl _ [] r.units) = _
  rw [foldl_many]; rfl
 ·intro i u s hi hs
  have := params_len h u.profile
  rw [List.length_append, Nat.succ_mul]
  unfold unitLev
  rw [List.length_map]; omega
 ·intro i u s hi hs
  have hil := (List.getElem?_eq_some_iff.1 hi).1
  have hprof := rigF_prof h u (List.mem_of_getElem? hi)
  have hpl := params_len h u.profile
  have hix : ((tq (r.library.length ≤ mxl) (idxI (fun x => decide (x.name = u.profile)) r.library)).bind fun r15 => tIx r.library r15) = some (profOf u.profile r.library).1 := by
   rw [tq_pos hr.1.1, Option.bind_some]
   rw [profOf_find] at hprof ⊢
   rcases idxI_cases (fun x : ProfileD => decide (x.name = u.profile)) r.library with ⟨_, _, h3⟩ | ⟨k, x, h1, h2, h3, h4, _⟩
   ·rw [h3] at hprof; simp at hprof
   ·rw [h3, h4, tIx_get (x := x) (by omega) (by simpa using h1)]
  rw [← Option.bind_assoc, hix, Option.bind_some]
  have hs' : i * 40 ≤ 16000 := by omega
  rw [forE_fold (g := fun s x => s ++ [levRow presets (fun k => tfind k st) u x]) (P := fun j s => s.length ≤ 16000 + j) (by unfold mxl; omega) (by omega) (fun j x s _ hq => by rw [List.length_append, List.length_singleton]; omega) ?_]
  ·rw [Option.bind_some, foldl_push]; rfl
  intro j x s hj hq
  have hjl := (List.getElem?_eq_some_iff.1 hj).1
  have e1 : (if (tfind (⟨u.number, x.name⟩ : KeyD) st).isSome = true then (t_pick_Level presets (⟨u.number, x.name⟩ : KeyD) (((tfind (⟨u.number, x.name⟩ : KeyD) st).getD (⟨(⟨0, (⟨#[]⟩ : ByteArray)⟩ : KeyD), (⟨0, 0⟩ : ValueD), 0⟩ : EntryD)).value)).bind fun r25 => some r25.1 else some x.default) = some (stLevel presets (fun k => tfind k st) ⟨u.number, x.name⟩ x.default) := by
   unfold stLevel
   cases hf : tfind (⟨u.number, x.name⟩ : KeyD) st with
   | none => simp [hf]
   | some e => simp [hf, Level_t presets hp]
  show ((if (tfind (⟨u.number, x.name⟩ : KeyD) st).isSome = true then _ else _) : Option Int).bind _ = _
  rw [e1, Option.bind_some, if_pos (by simp; omega)]
  rfl
theorem Profile2_t {l : List ProfileD} (hl : l.length ≤ mxl) (nm : ByteArray) : t_R2_Profile l nm = some (profOf nm l) := by
 unfold t_R2_Profile
 rw [forE_find (p := fun p => decide (p.name = nm)) (r := fun p => (p, true)) hl (by intro i x _; simp only [decide_eq_true_eq, ite_pure]), profOf_find]
 cases l.find? fun p => decide (p.name = nm) <;> rfl
theorem KeysOf2_t {r : RigD} (hr : okRig r) (h : rigF r = 0) : t_R2_KeysOf r = some (keysOf r) := by
 unfold t_R2_KeysOf
 have hu := rigF_units h
 rw [forE_fold (g := fun s u => s ++ unitKeys r.library u) (P := fun i s => s.length ≤ i * 40) hr.2.1 (by simp) ?_ ?_]
 ·show some (List.foldl _ [] r.units) = _
  rw [foldl_many]; rfl
 ·intro i u s hi hs
  have := params_len h u.profile
  rw [List.length_append, Nat.succ_mul]
  unfold unitKeys
  rw [List.length_map]; omega
 ·intro i u s hi hs
  have hil := (List.getElem?_eq_some_iff.1 hi).1
  have hpl := params_len h u.profile
  rw [Profile2_t hr.1.1, Option.bind_some]
  have hs' : i * 40 ≤ 16000 := by omega
  rw [forE_fold (g := fun s x => s ++ [(⟨u.number, x.name⟩ : KeyD)]) (P := fun j s => s.length ≤ 16000 + j) (by unfold mxl; omega) (by omega) (fun j x s _ hq => by rw [List.length_append, List.length_singleton]; omega) ?_]
  ·rw [Option.bind_some, foldl_push (fun x : ParamD => (⟨u.number, x.name⟩ : KeyD))]; rfl
  intro j x s hj hq
  have hjl := (List.getElem?_eq_some_iff.1 hj).1
  rw [if_pos (by simp; omega)]
theorem levels5_t {r : RigD} (hr : okRig r) (h : rigF r = 0) {presets : List PresetD} (hp : okL okPreset presets) {st : List EntryD} (hs : srtE st) (hl : st.length < 4611686018427387904) : t_R5_levels r presets st = some (levelsF r presets (lookE st)) := by
 unfold t_R5_levels
 have hkl := keys_len h
 rw [KeysOf2_t hr h, Option.bind_some]
 rw [forE_fold (g := fun s k => s ++ [(⟨k, stLevel presets (lookE st) k (paramOf r k).1.default⟩ : SettingD)]) (P := fun j s => s.length ≤ j) (by unfold mxl; omega) (by simp) (fun j x s _ hq => by rw [List.length_append, List.length_singleton]; omega) ?_]
 ·show some (List.foldl _ [] (keysOf r)) = _
  rw [foldl_push (fun k => (⟨k, stLevel presets (lookE st) k (paramOf r k).1.default⟩ : SettingD)), ← levels_keys h]; rfl
 intro j k s hj hq
 have hjl := (List.getElem?_eq_some_iff.1 hj).1
 rw [tq_pos hr, Option.bind_some, place5_t hs hl, Option.bind_some]
 have e1 : (if hasE st k = true then (tIx st (posE st k : Int)).bind fun x14 => (t_R4_Level presets k x14.value).bind fun r15 => some r15.1 else some (paramOf r k).1.default) = some (stLevel presets (lookE st) k (paramOf r k).1.default) := by
  unfold stLevel
  cases hh : hasE st k
  ·rw [if_neg (by decide), look_no hh]
  ·obtain ⟨e, g1, g2⟩ := look_pos hs hh
   rw [if_pos rfl, tIx_get (x := e) (by omega) (by simpa using g1), Option.bind_some, Level4_t presets hp, g2]; rfl
 show ((if hasE st k = true then _ else _) : Option Int).bind _ = _
 rw [e1, Option.bind_some, if_pos (by simp; omega)]
theorem EqualSet_t (l : List SettingD) (hl : l.length ≤ mxl) : t_slices_Equal_api_Setting l l = some true := by
 unfold t_slices_Equal_api_Setting
 simp only [not_true_eq_false, if_false]
 refine eqSelf hl fun i x hx => ?_
 rw [tIx_get (x := x) (by omega) (by simpa using hx)]
 simp
end Go.Proofs.YtphgchakmkankaaGreat

namespace Go.Proofs.YtphgchakmkankaaGreat
set_option linter.unusedSectionVars false
set_option linter.unusedVariables false
set_option linter.unusedSimpArgs false
open HP
theorem state_bd (l : List CueD) (n : Int) : (stateRes l n).1.length ≤ 600000000 := by
 unfold stateRes
 split
 ·simp
 rename_i hz
 split
 ·simp
 have hg := good_of (Decidable.not_not.1 hz)
 have hlen := hg.len
 exact (beforeF_bound (l := l.take (posC l n + 1)) (by simp; omega) (fun c hc => (hg.mv c (List.mem_of_mem_take hc)).1)).2
section
variable {σ0 σ : Heap} {R : HP}
theorem equalE_t (l : List EntryD) (hl : l.length ≤ mxl) (σ : Heap) : A.quiet (m_slices_Equal_api_Entry [sl 5 cEntry l, sl 5 cEntry l] σ) σ = some (.bool true) := quiet_of (h_slices_Equal_api_Entry (EqualEn_t l hl))
end
end Go.Proofs.YtphgchakmkankaaGreat

namespace Go.Proofs.YtphgchakmkankaaGreat
set_option linter.unusedSectionVars false
set_option linter.unusedVariables false
set_option linter.unusedSimpArgs false
open HP Go.Sort
section
variable {σ0 σ : Heap} {R : HP}
theorem lent_fin {α : Type} {c : α → List AV} {sz : Nat} {ain : List Sh} {r : List AV → Heap → Option (AV × Heap)} {as0 ts : List AV} {l : List α} (hc : ∀ x, FzL (c x)) (h : LtL σ ain as0 ts) (e : KS (A.wrap true ain .k r) ts c sz l) : A.finC (.s sz) (A.wrap true ain .k r) as0 σ = some (sl sz c l, σ) := by
 obtain ⟨v, σ', e1, K⟩ := lentK (B := anyB) (fun _ _ => trivial) h e (hs_nil σ)
 obtain ⟨v', e2, e3⟩ := fin_slf hc K
 unfold A.finC
 rw [e1, Option.bind_some]
 simp only
 rw [e2, Option.map_some]
 simp only
 rw [e3]
end
end Go.Proofs.YtphgchakmkankaaGreat

namespace Go.Proofs.YtphgchakmkankaaGreat
set_option linter.unusedSectionVars false
set_option linter.unusedVariables false
set_option linter.unusedSimpArgs false
open HP
def levRes (r : RigD) (presets : List PresetD) (l : List CueD) (n : Int) : List SettingD × Int :=
 if ¬ (listF r presets l = 0) then ([], listF r presets l) else if hasC l n = false then ([], 8) else (levelsF r presets (lookE (beforeF (l.take (posC l n + 1)))), 0)
theorem listF_parts {r : RigD} {presets : List PresetD} {l : List CueD} (h : listF r presets l = 0) : rigF r = 0 ∧ formF l = 0 := by
 unfold listF at h
 by_cases h0 : presetsF r presets = 0
 case neg => rw [if_pos h0] at h; exact absurd h h0
 rw [if_neg (by simp [h0])] at h
 by_cases h1 : formF l = 0
 case neg => rw [if_pos h1] at h; exact absurd h h1
 exact ⟨presetsF_rig h0, h1⟩
theorem nn_rpl (r : RigD) (presets : List PresetD) (l : List CueD) (aas : List AV) : A.nnL [(.a [(.e 3 [.k, .k, (.e 7 [.k, .k, .k, .k, .k, .k, (.s 3)])]), (.s 4)]), (.e 3 [.k, .k, (.s 3)]), (.e 11 [.k, .k, .k, .k, .k, .k, .k, (.s 2), .k, .k, (.s 8)])] (.agg (cRig r) :: sl 3 cPreset presets :: sl 11 cCue l :: aas) = .agg (cRig r) :: sl 3 cPreset presets :: sl 11 cCue l :: aas :=
 nn_t1 (nn_a (nn_t1 (nn_e (fun _ => (nn_t1 rfl (nn_t1 rfl (nn_t1 (nn_e (fun _ => rfl) _) nn_t0)))) _) (nn_t1 rfl nn_t0))) (nn_t1 (nn_e (fun _ => rfl) _) (nn_t1 (nn_e (fun _ => rfl) _) rfl))
theorem nn_retL (l : List SettingD) (e : Int) : A.nn (.t [(.s 3), .k]) (.tup [sl 3 cSetting l, .int .i64 e]) = .tup [sl 3 cSetting l, .int .i64 e] := by
 show AV.tup (A.nnL [.s 3, .k] [sl 3 cSetting l, .int .i64 e]) = _
 rw [nn_t1 (show A.nn (.s 3) (sl 3 cSetting l) = sl 3 cSetting l by unfold sl; simp [A.nn]) (nn_t1 (nn_k _) nn_t0)]
theorem nn_retL0 (e : Int) : A.nn (.t [(.s 3), .k]) (.tup [.nsl, .int .i64 e]) = .tup [sl 3 cSetting [], .int .i64 e] := rfl
theorem Levels_t {r : RigD} {presets : List PresetD} {l : List CueD} (hr : okRig r) (hp : okL okPreset presets) (hl : okL okCue l) {n : Int} (hn : inI n) (σ : Heap) : m_cue_Levels [.agg (cRig r), sl 3 cPreset presets, sl 11 cCue l, .int .i64 n] σ = some (.tup [sl 3 cSetting (levRes r presets l n).1, .int .i64 (levRes r presets l n).2], σ) := by
 have run : ∃ b, r_cue_Levels (.agg (cRig r)) (sl 3 cPreset presets) (sl 11 cCue l) (.int .i64 n) σ = some (b, σ) ∧ A.nn (.t [(.s 3), .k]) b = .tup [sl 3 cSetting (levRes r presets l n).1, .int .i64 (levRes r presets l n).2] := by
  unfold r_cue_Levels levRes
  rw [show A.cells 2 (.agg (cRig r)) = some (cRig r) from rfl, Option.bind_some, show A.partA 0 2 (cRig r) = some (.agg (cRig r)) from rfl, Option.bind_some, h_cue_CheckList (CheckList_t r presets l hr hp hl), Option.bind_some, aNeI, Option.bind_some]
  by_cases hf : listF r presets l = 0
  case neg =>
   rw [decide_eq_true hf, cnd_t, if_pos hf]
   exact ⟨_, fin_same _ _, nn_retL0 _⟩
  obtain ⟨hrig, hform⟩ := listF_parts hf
  have hff : ¬ ¬ (listF r presets l = 0) := by simp [hf]
  have hg := good_of hform
  have hlen := hg.len
  rw [decide_eq_false hff, cnd_f, if_neg hff]
  obtain ⟨p, e1, e2, e3⟩ := place_t hg hn σ
  rw [e1, Option.bind_some, ext0, Option.bind_some, ext1, Option.bind_some, show A.not (.bool (hasC l n)) = some (.bool (!hasC l n)) from rfl, Option.bind_some]
  cases hh : hasC l n
  ·rw [show (!false) = true from rfl, cnd_t, if_pos rfl]
   exact ⟨_, fin_same _ _, nn_retL0 _⟩
  rw [show (!true) = false from rfl, cnd_f, if_neg (by decide)]
  have e4 := e3 (.inr hh)
  subst e4
  obtain ⟨x, hx, hxn⟩ := hasC_at hg hh
  generalize posC l n = a at hx ⊢
  have hal := (List.getElem?_eq_some_iff.1 hx).1
  have hcs : m_cue_state [sl 11 cCue (l.take (a + 1))] σ = some (fmS (stateF (l.take (a + 1))), σ) :=
   h_cue_state (state_t (by simp; unfold mxl; omega) (fun c hc => by have := (hg.mv c (List.mem_of_mem_take hc)).1; unfold mxl; omega))
  have hlv : m_cue_levels [.agg (cRig r), sl 3 cPreset presets, fmS (stateF (l.take (a + 1)))] σ = some (sl 3 cSetting (levelsF r presets (lookE (beforeF (l.take (a + 1))))), σ) := by
   have := h_cue_levels (σ := σ) (levels_t hr hrig hp (stateF (l.take (a + 1))))
   rw [show (fun k => tfind k (stateF (l.take (a + 1)))) = lookE (beforeF (l.take (a + 1))) from funext fun k => (same_state _).2.2 k] at this
   exact this
  simp only
  rw [tadd1 (by omega)]
  simp only [Option.bind_some]
  rw [show A.sliceS 11 (sl 11 cCue l) none (some (.int .i64 ((a + 1 : Nat) : Int))) σ = some (sl 11 cCue (l.take (a + 1))) from sliceS_take 11 cCue l (by omega), Option.bind_some, quiet_of hcs, Option.bind_some, quiet_of hlv, Option.bind_some]
  exact ⟨_, fin_same _ _, nn_retL _ _⟩
 obtain ⟨b, h1, h2⟩ := run
 refine wrap_eq rfl ?_ h2
 rw [nn_rpl]
 exact h1
theorem Levels5_t {r : RigD} {presets : List PresetD} {l : List CueD} (hr : okRig r) (hp : okL okPreset presets) (hl : okL okCue l) (n : Int) (σ : Heap) : m_R5_Levels [.agg (cRig r), sl 3 cPreset presets, sl 11 cCue l, .int .i64 n] σ = some (.tup [sl 3 cSetting (levRes r presets l n).1, .int .i64 (levRes r presets l n).2], σ) := by
 have run : ∃ b, r_R5_Levels (.agg (cRig r)) (sl 3 cPreset presets) (sl 11 cCue l) (.int .i64 n) σ = some (b, σ) ∧ A.nn (.t [(.s 3), .k]) b = .tup [sl 3 cSetting (levRes r presets l n).1, .int .i64 (levRes r presets l n).2] := by
  unfold r_R5_Levels levRes
  rw [show A.cells 2 (.agg (cRig r)) = some (cRig r) from rfl, Option.bind_some, show A.partA 0 2 (cRig r) = some (.agg (cRig r)) from rfl, Option.bind_some, h_R5_CheckList (CheckList5_t r presets l hr hp hl), Option.bind_some, aNeI, Option.bind_some]
  by_cases hf : listF r presets l = 0
  case neg =>
   rw [decide_eq_true hf, cnd_t, if_pos hf]
   exact ⟨_, fin_same _ _, nn_retL0 _⟩
  obtain ⟨hrig, hform⟩ := listF_parts hf
  have hff : ¬ ¬ (listF r presets l = 0) := by simp [hf]
  have hg := good_of hform
  have hlen := hg.len
  rw [decide_eq_false hff, cnd_f, if_neg hff]
  rw [h_R5_At (At_t l (by unfold mxl; omega) n), At5_pos hg, Option.bind_some, tlss0, Option.bind_some]
  cases hh : hasC l n
  ·rw [if_neg (by decide), decide_eq_true (by decide), cnd_t, if_pos rfl]
   exact ⟨_, fin_same _ _, nn_retL0 _⟩
  rw [if_pos rfl, decide_eq_false (by omega), cnd_f, if_neg (by decide)]
  obtain ⟨x, hx, hxn⟩ := hasC_at hg hh
  generalize posC l n = a at hx ⊢
  have hal := (List.getElem?_eq_some_iff.1 hx).1
  have hb : A.finC (.s 5) m_R5_Before [sl 11 cCue l, .int .i64 ((a + 1 : Nat) : Int)] σ = some (sl 5 cEntry (beforeF (l.take (a + 1))), σ) := lent_fin (σ := σ) fz_cEntry (ain := [.e 11 shCue]) (as0 := [sl 11 cCue l, .int .i64 ((a + 1 : Nat) : Int)]) (ts := [sl 11 cCue l, .int .i64 ((a + 1 : Nat) : Int)]) ⟨lt_fz (fz_sl fz_cCue _) rfl, lt_int _, trivial⟩ (Before_s (l := l) (n := a + 1) (by omega) (by omega) (fun c hc => by have := (hg.mv c hc).1; omega))
  obtain ⟨b1, b2⟩ := beforeF_bound (l := l.take (a + 1)) (by simp; omega) (fun c hc => (hg.mv c (List.mem_of_mem_take hc)).1)
  have hlv : m_R5_levels [.agg (cRig r), sl 3 cPreset presets, sl 5 cEntry (beforeF (l.take (a + 1)))] σ = some (sl 3 cSetting (levelsF r presets (lookE (beforeF (l.take (a + 1))))), σ) :=
   h_R5_levels (levels5_t hr hrig hp b1 (by omega))
  simp only
  rw [tadd1 (by omega)]
  simp only [Option.bind_some]
  rw [quiet_of hb, Option.bind_some, quiet_of hlv, Option.bind_some]
  exact ⟨_, fin_same _ _, nn_retL _ _⟩
 obtain ⟨b, h1, h2⟩ := run
 refine wrap_eq rfl ?_ h2
 rw [nn_rpl]
 exact h1
theorem levelsF_len {r : RigD} (h : rigF r = 0) (presets : List PresetD) (st : KeyD → Option EntryD) : (levelsF r presets st).length ≤ 16000 := by
 rw [← levels_keys h, List.length_map]; exact keys_len h
theorem levRes_len (r : RigD) (presets : List PresetD) (l : List CueD) (n : Int) : (levRes r presets l n).1.length ≤ mxl := by
 unfold levRes
 split
 ·simp
 rename_i h
 split
 ·simp
 ·have := levelsF_len (listF_parts (Decidable.not_not.1 h)).1 presets (lookE (beforeF (l.take (posC l n + 1))))
  unfold mxl
  show (levelsF _ _ _).length ≤ _
  omega
theorem h_W5_CueListsMatchSpec {r : RigD} {presets : List PresetD} {l : List CueD} {n : Int} {σ : Heap} (h : okRig r ∧ okL okPreset presets ∧ okL okCue l ∧ inI n) : m_W5_CueListsMatchSpec [.agg (cRig r), sl 3 cPreset presets, sl 11 cCue l, .int .i64 n] σ = some (.bool true, σ) := by
 obtain ⟨hr, hp, hl, hn⟩ := h
 have run : r_W5_CueListsMatchSpec (.agg (cRig r)) (sl 3 cPreset presets) (sl 11 cCue l) (.int .i64 n) σ = some (.bool true, σ) := by
  unfold r_W5_CueListsMatchSpec
  have hst : (stateRes l n).1.length ≤ mxl := by have := state_bd l n; unfold mxl; omega
  rw [show A.cells 2 (.agg (cRig r)) = some (cRig r) from rfl, Option.bind_some, State_t hl hn σ, Option.bind_some, ext0, Option.bind_some, ext1, Option.bind_some, State5_t hl n σ, Option.bind_some, ext0, Option.bind_some, ext1, Option.bind_some, show A.partA 0 2 (cRig r) = some (.agg (cRig r)) from rfl, Option.bind_some,
   quiet_of (h_cue_CheckList (σ := σ) (CheckList_t r presets l hr hp hl)), Option.bind_some, Option.bind_some, quiet_of (h_R5_CheckList (σ := σ) (CheckList5_t r presets l hr hp hl)), Option.bind_some, aNe, Option.bind_some, decide_eq_false (by simp)]
  simp only [gdF, gdT, gdFx, gdTx, pkF, pkT, notT, notF, Option.bind_some]
  rw [equalE_t _ hst]
  simp only [gdF, gdT, gdFx, gdTx, pkF, pkT, notT, notF, Option.bind_some]
  rw [aNe, decide_eq_false (by simp)]
  simp only [gdF, gdT, gdFx, gdTx, pkF, pkT, notT, notF, Option.bind_some]
  rw [cnd_f, Levels_t hr hp hl hn σ, Option.bind_some, ext0, Option.bind_some, ext1, Option.bind_some, Levels5_t hr hp hl n σ, Option.bind_some, ext0, Option.bind_some, ext1, Option.bind_some, h_slices_Equal_api_Setting (EqualSet_t _ (levRes_len r presets l n)), Option.bind_some]
  simp only [gdF, gdT, gdFx, gdTx, pkF, pkT, notT, notF, Option.bind_some]
  rw [aEq, decide_eq_true rfl]
  simp only [gdF, gdT, gdFx, gdTx, pkF, pkT, notT, notF, Option.bind_some]
  exact fin_same _ _
 refine wrap_eq rfl ?_ rfl
 rw [nn_rpl]
 exact run
theorem cueListsMatchSpec_true (r : RigD) (presets : List PresetD) (l : List CueD) (n : Int) (hr : okRig r) (hp : okL okPreset presets) (hl : okL okCue l) (hn : inI n) : okRig r ∧ okL okPreset presets ∧ okL okCue l ∧ inI n := ⟨hr, hp, hl, hn⟩
end Go.Proofs.YtphgchakmkankaaGreat

namespace Go.Proofs.YtphgchakmkankaaGreat
set_option linter.unusedSectionVars false
set_option linter.unusedSimpArgs false
set_option linter.unusedVariables false
open Go.ChangeShapes Go.WideShapes Go.ChangeAt Go.RowKit

theorem own : ownKnob Tryz.prog.godebug = none := by kernel_rfl
theorem laidOut : laidOutB Tryz.prog = true := by kernel_rfl

theorem trodAll_below {H : Type} {enc : TypeId × Value → H} {P : Program} (hl : laidOutB P = true) {W W' : World} (hb : Below W.heap.size W W') :
  ∀ {ts : List TypeId} {vs : List Value} {ds : List (DataW H)} {ps : List MemPlace}, (ts.all fun t => P.readableRec t && decide (t < P.types.size)) = true →
   DataW.TrodAll enc P W 0 (fun _ => true) true ts vs ds ps → (∀ x ∈ ps, x.block < W.heap.size) → DataW.TrodAll enc P W' 0 (fun b => decide (b < W.heap.size)) true ts vs ds ps
 | [], [], [], _, _, h, _ => h
 | t :: ts, v :: vs, d :: ds, ps, hts, h, hlt => by
  obtain ⟨p, q, h1, h2, rfl⟩ := h
  simp only [List.all_cons, Bool.and_eq_true, decide_eq_true_eq] at hts
  exact ⟨p, q, Below.trod hl hts.1.1 hts.1.2 h1 hb (fun x hx => hlt x (List.mem_append_left _ hx)),
   trodAll_below hl hb (by simpa using hts.2) h2 (fun x hx => hlt x (List.mem_append_right _ hx)), rfl⟩
 | [], _ :: _, _, _, _, h, _ => h.elim
 | [], [], _ :: _, _, _, h, _ => h.elim
 | _ :: _, [], _, _, _, h, _ => h.elim
 | _ :: _, _ :: _, [], _, _, h, _ => h.elim

theorem law_post {H : Type} {enc : TypeId × Value → H} {f : Func} {s : ChangeSpec} {W W' : World} {args : Array Value} {ds gs : List (DataW H)} {before : List MemPlace} {t : TypeId}
  (hts : (f.params.toList.all fun t => Tryz.prog.readableRec t && decide (t < Tryz.prog.types.size)) = true) (hrt : f.resultTypes = #[t]) (ht : Tryz.prog.underlying t = some .bool) (hvs : s.vars = [])
  (hW : DataW.Whole enc Tryz.prog f.params.toList s.vars false W args.toList ds gs before) (hb : Below W.heap.size W W')
  (hspec : s.fn H (ds ++ gs) = { results := [.lit (.bool true)], args := ds }) :
  s.post enc Tryz.prog f false true false false W args (.bool true) W' := by
 have hW' := hW
 obtain ⟨p, q, hA, hV, rfl, hfz, hnd⟩ := hW
 have hlt : ∀ x ∈ p ++ q, x.block < W.heap.size := fun x hx => hW'.lt x hx
 refine ⟨ds, gs, p ++ q, [], p, [], hW', ?_, ?_, ?_, hb.frame _, fun h => by cases h⟩
 ·rw [hspec, hrt]
  exact trodAll_cons_mk (shut_bool ht _) trodAll_mk0
 ·rw [hspec]
  exact trodAll_below laidOut hb hts hA (fun x hx => hlt x (List.mem_append_left _ hx))
 ·rw [hspec, hvs]
  exact rfl
end Go.Proofs.YtphgchakmkankaaGreat

namespace Go.Proofs.YtphgchakmkankaaGreat
set_option linter.unusedSectionVars false
open Go.RowKit
set_option linter.unusedVariables false
set_option linter.unusedSimpArgs false

def Gr (w w' : World) : Prop := Below w.heap.size w w'
theorem Gr.refl (w : World) : Gr w w := Below.refl _ _
theorem Gr.below {w w' : World} (h : Gr w w') : Below w.heap.size w w' := h
theorem Gr.of {w w' : World} (h : Below w.heap.size w w') : Gr w w' := h
theorem Gr.trans {a b c : World} (h : Gr a b) (k : Gr b c) : Gr a c := Below.trans h (Below.mono k (Below.size h))
theorem Gr.alloc {a b : World} (h : Gr a b) (o : Obj) : Gr a (b.alloc o) := Below.alloc h (Below.size h) o
theorem Gr.drew {a b : World} (h : Gr a b) : Gr a b.drew := Below.drew h
theorem Gr.drewN {a b : World} (h : Gr a b) (n : Nat) : Gr a (b.drewN n) := ⟨h.os, h.tape, h.output, h.size, h.block⟩
theorem Gr.set {a b : World} (h : Gr a b) {k o : Nat} (hp : a.heap.size ≤ k) (u : Value) : Gr a (b.setCell ⟨k, o, none⟩ u) := Below.setCell h hp u
theorem Gr.put {a b : World} {k o : Nat} (hp : a.heap.size ≤ k) (h : Gr a b) (u : Value) : Gr a (b.setCell ⟨k, o, none⟩ u) := Below.setCell h hp u
theorem Gr.after {a b c : World} (k : Gr b c) (h : Gr a b) : Gr a c := h.trans k
theorem Gr.size {a b : World} (h : Gr a b) : a.heap.size ≤ b.heap.size := Below.size h
theorem Gr.cell {a b : World} (h : Gr a b) {p : Addr} {v : Value} (hc : a.cell? p = some v) : b.cell? p = some v := by
 by_cases hp : p.block < a.heap.size
 ·rw [Below.cell h hp]; exact hc
 ·have : a.heap[p.block]? = none := Array.getElem?_eq_none (by omega)
  simp [World.cell?, this] at hc
theorem Gr.free {a b : World} (h : Gr a b) {p : Addr} (hp : p.block < a.heap.size) {x : Bool} (hc : a.frozen? p = x) : b.frozen? p = x := by
 rw [Below.frozen h hp]; exact hc
theorem Gr.lt {w w1 : World} {o : Obj} (h : Gr (w.alloc o) w1) : w.heap.size < w1.heap.size := by have := h.size; simp at this; omega
abbrev Box1 (w : World) (b : Nat) (v0 : Value) : Prop := (w.cell? ⟨b, 0, none⟩ = some v0) ∧ (w.frozen? ⟨b, 0, none⟩ = false) ∧ b < w.heap.size
theorem Box1.mono {w w1 : World} {b : Nat} {v0 : Value} (k : Box1 w b v0) (h : Gr w w1) : Box1 w1 b v0 := by
 obtain ⟨k0, f0, hlt⟩ := k
 exact ⟨h.cell k0, h.free (by exact hlt) f0, Nat.lt_of_lt_of_le hlt h.size⟩
theorem Box1.of {w : World} {b : Nat} {v0 : Value} {t : TypeId} (h : w.heap[b]? = some (.cells #[v0] t (0, 0))) : Box1 w b v0 := by
 have hlt : b < w.heap.size := (Array.getElem?_eq_some_iff.1 h).1
 refine ⟨?_, ?_, hlt⟩ <;> simp [World.cell?, World.frozen?, h]
theorem Box1.at {w w1 : World} {b : Nat} {v0 : Value} {t : TypeId} (g : Gr w w1) (h : w.heap[b]? = some (.cells #[v0] t (0, 0))) : Box1 w1 b v0 := (Box1.of h).mono g
abbrev Box2 (w : World) (b : Nat) (v0 v1 : Value) : Prop := (w.cell? ⟨b, 0, none⟩ = some v0 ∧ w.cell? ⟨b, 1, none⟩ = some v1) ∧ (w.frozen? ⟨b, 0, none⟩ = false ∧ w.frozen? ⟨b, 1, none⟩ = false) ∧ b < w.heap.size
theorem Box2.mono {w w1 : World} {b : Nat} {v0 v1 : Value} (k : Box2 w b v0 v1) (h : Gr w w1) : Box2 w1 b v0 v1 := by
 obtain ⟨⟨k0, k1⟩, ⟨f0, f1⟩, hlt⟩ := k
 exact ⟨⟨h.cell k0, h.cell k1⟩, ⟨h.free (by exact hlt) f0, h.free (by exact hlt) f1⟩, Nat.lt_of_lt_of_le hlt h.size⟩
theorem Box2.of {w : World} {b : Nat} {v0 v1 : Value} {t : TypeId} (h : w.heap[b]? = some (.cells #[v0, v1] t (0, 0))) : Box2 w b v0 v1 := by
 have hlt : b < w.heap.size := (Array.getElem?_eq_some_iff.1 h).1
 refine ⟨⟨?_, ?_⟩, ⟨?_, ?_⟩, hlt⟩ <;> simp [World.cell?, World.frozen?, h]
theorem Box2.at {w w1 : World} {b : Nat} {v0 v1 : Value} {t : TypeId} (g : Gr w w1) (h : w.heap[b]? = some (.cells #[v0, v1] t (0, 0))) : Box2 w1 b v0 v1 := (Box2.of h).mono g
abbrev Box3 (w : World) (b : Nat) (v0 v1 v2 : Value) : Prop := (w.cell? ⟨b, 0, none⟩ = some v0 ∧ w.cell? ⟨b, 1, none⟩ = some v1 ∧ w.cell? ⟨b, 2, none⟩ = some v2) ∧ (w.frozen? ⟨b, 0, none⟩ = false ∧ w.frozen? ⟨b, 1, none⟩ = false ∧ w.frozen? ⟨b, 2, none⟩ = false) ∧ b < w.heap.size
theorem Box3.mono {w w1 : World} {b : Nat} {v0 v1 v2 : Value} (k : Box3 w b v0 v1 v2) (h : Gr w w1) : Box3 w1 b v0 v1 v2 := by
 obtain ⟨⟨k0, k1, k2⟩, ⟨f0, f1, f2⟩, hlt⟩ := k
 exact ⟨⟨h.cell k0, h.cell k1, h.cell k2⟩, ⟨h.free (by exact hlt) f0, h.free (by exact hlt) f1, h.free (by exact hlt) f2⟩, Nat.lt_of_lt_of_le hlt h.size⟩
theorem Box3.of {w : World} {b : Nat} {v0 v1 v2 : Value} {t : TypeId} (h : w.heap[b]? = some (.cells #[v0, v1, v2] t (0, 0))) : Box3 w b v0 v1 v2 := by
 have hlt : b < w.heap.size := (Array.getElem?_eq_some_iff.1 h).1
 refine ⟨⟨?_, ?_, ?_⟩, ⟨?_, ?_, ?_⟩, hlt⟩ <;> simp [World.cell?, World.frozen?, h]
theorem Box3.at {w w1 : World} {b : Nat} {v0 v1 v2 : Value} {t : TypeId} (g : Gr w w1) (h : w.heap[b]? = some (.cells #[v0, v1, v2] t (0, 0))) : Box3 w1 b v0 v1 v2 := (Box3.of h).mono g
abbrev Box4 (w : World) (b : Nat) (v0 v1 v2 v3 : Value) : Prop := (w.cell? ⟨b, 0, none⟩ = some v0 ∧ w.cell? ⟨b, 1, none⟩ = some v1 ∧ w.cell? ⟨b, 2, none⟩ = some v2 ∧ w.cell? ⟨b, 3, none⟩ = some v3) ∧ (w.frozen? ⟨b, 0, none⟩ = false ∧ w.frozen? ⟨b, 1, none⟩ = false ∧ w.frozen? ⟨b, 2, none⟩ = false ∧ w.frozen? ⟨b, 3, none⟩ = false) ∧ b < w.heap.size
theorem Box4.mono {w w1 : World} {b : Nat} {v0 v1 v2 v3 : Value} (k : Box4 w b v0 v1 v2 v3) (h : Gr w w1) : Box4 w1 b v0 v1 v2 v3 := by
 obtain ⟨⟨k0, k1, k2, k3⟩, ⟨f0, f1, f2, f3⟩, hlt⟩ := k
 exact ⟨⟨h.cell k0, h.cell k1, h.cell k2, h.cell k3⟩, ⟨h.free (by exact hlt) f0, h.free (by exact hlt) f1, h.free (by exact hlt) f2, h.free (by exact hlt) f3⟩, Nat.lt_of_lt_of_le hlt h.size⟩
theorem Box4.of {w : World} {b : Nat} {v0 v1 v2 v3 : Value} {t : TypeId} (h : w.heap[b]? = some (.cells #[v0, v1, v2, v3] t (0, 0))) : Box4 w b v0 v1 v2 v3 := by
 have hlt : b < w.heap.size := (Array.getElem?_eq_some_iff.1 h).1
 refine ⟨⟨?_, ?_, ?_, ?_⟩, ⟨?_, ?_, ?_, ?_⟩, hlt⟩ <;> simp [World.cell?, World.frozen?, h]
theorem Box4.at {w w1 : World} {b : Nat} {v0 v1 v2 v3 : Value} {t : TypeId} (g : Gr w w1) (h : w.heap[b]? = some (.cells #[v0, v1, v2, v3] t (0, 0))) : Box4 w1 b v0 v1 v2 v3 := (Box4.of h).mono g
abbrev Box5 (w : World) (b : Nat) (v0 v1 v2 v3 v4 : Value) : Prop := (w.cell? ⟨b, 0, none⟩ = some v0 ∧ w.cell? ⟨b, 1, none⟩ = some v1 ∧ w.cell? ⟨b, 2, none⟩ = some v2 ∧ w.cell? ⟨b, 3, none⟩ = some v3 ∧ w.cell? ⟨b, 4, none⟩ = some v4) ∧ (w.frozen? ⟨b, 0, none⟩ = false ∧ w.frozen? ⟨b, 1, none⟩ = false ∧ w.frozen? ⟨b, 2, none⟩ = false ∧ w.frozen? ⟨b, 3, none⟩ = false ∧ w.frozen? ⟨b, 4, none⟩ = false) ∧ b < w.heap.size
theorem Box5.mono {w w1 : World} {b : Nat} {v0 v1 v2 v3 v4 : Value} (k : Box5 w b v0 v1 v2 v3 v4) (h : Gr w w1) : Box5 w1 b v0 v1 v2 v3 v4 := by
 obtain ⟨⟨k0, k1, k2, k3, k4⟩, ⟨f0, f1, f2, f3, f4⟩, hlt⟩ := k
 exact ⟨⟨h.cell k0, h.cell k1, h.cell k2, h.cell k3, h.cell k4⟩, ⟨h.free (by exact hlt) f0, h.free (by exact hlt) f1, h.free (by exact hlt) f2, h.free (by exact hlt) f3, h.free (by exact hlt) f4⟩, Nat.lt_of_lt_of_le hlt h.size⟩
theorem Box5.of {w : World} {b : Nat} {v0 v1 v2 v3 v4 : Value} {t : TypeId} (h : w.heap[b]? = some (.cells #[v0, v1, v2, v3, v4] t (0, 0))) : Box5 w b v0 v1 v2 v3 v4 := by
 have hlt : b < w.heap.size := (Array.getElem?_eq_some_iff.1 h).1
 refine ⟨⟨?_, ?_, ?_, ?_, ?_⟩, ⟨?_, ?_, ?_, ?_, ?_⟩, hlt⟩ <;> simp [World.cell?, World.frozen?, h]
theorem Box5.at {w w1 : World} {b : Nat} {v0 v1 v2 v3 v4 : Value} {t : TypeId} (g : Gr w w1) (h : w.heap[b]? = some (.cells #[v0, v1, v2, v3, v4] t (0, 0))) : Box5 w1 b v0 v1 v2 v3 v4 := (Box5.of h).mono g
abbrev Box6 (w : World) (b : Nat) (v0 v1 v2 v3 v4 v5 : Value) : Prop := (w.cell? ⟨b, 0, none⟩ = some v0 ∧ w.cell? ⟨b, 1, none⟩ = some v1 ∧ w.cell? ⟨b, 2, none⟩ = some v2 ∧ w.cell? ⟨b, 3, none⟩ = some v3 ∧ w.cell? ⟨b, 4, none⟩ = some v4 ∧ w.cell? ⟨b, 5, none⟩ = some v5) ∧ (w.frozen? ⟨b, 0, none⟩ = false ∧ w.frozen? ⟨b, 1, none⟩ = false ∧ w.frozen? ⟨b, 2, none⟩ = false ∧ w.frozen? ⟨b, 3, none⟩ = false ∧ w.frozen? ⟨b, 4, none⟩ = false ∧ w.frozen? ⟨b, 5, none⟩ = false) ∧ b < w.heap.size
theorem Box6.mono {w w1 : World} {b : Nat} {v0 v1 v2 v3 v4 v5 : Value} (k : Box6 w b v0 v1 v2 v3 v4 v5) (h : Gr w w1) : Box6 w1 b v0 v1 v2 v3 v4 v5 := by
 obtain ⟨⟨k0, k1, k2, k3, k4, k5⟩, ⟨f0, f1, f2, f3, f4, f5⟩, hlt⟩ := k
 exact ⟨⟨h.cell k0, h.cell k1, h.cell k2, h.cell k3, h.cell k4, h.cell k5⟩, ⟨h.free (by exact hlt) f0, h.free (by exact hlt) f1, h.free (by exact hlt) f2, h.free (by exact hlt) f3, h.free (by exact hlt) f4, h.free (by exact hlt) f5⟩, Nat.lt_of_lt_of_le hlt h.size⟩
theorem Box6.of {w : World} {b : Nat} {v0 v1 v2 v3 v4 v5 : Value} {t : TypeId} (h : w.heap[b]? = some (.cells #[v0, v1, v2, v3, v4, v5] t (0, 0))) : Box6 w b v0 v1 v2 v3 v4 v5 := by
 have hlt : b < w.heap.size := (Array.getElem?_eq_some_iff.1 h).1
 refine ⟨⟨?_, ?_, ?_, ?_, ?_, ?_⟩, ⟨?_, ?_, ?_, ?_, ?_, ?_⟩, hlt⟩ <;> simp [World.cell?, World.frozen?, h]
theorem Box6.at {w w1 : World} {b : Nat} {v0 v1 v2 v3 v4 v5 : Value} {t : TypeId} (g : Gr w w1) (h : w.heap[b]? = some (.cells #[v0, v1, v2, v3, v4, v5] t (0, 0))) : Box6 w1 b v0 v1 v2 v3 v4 v5 := (Box6.of h).mono g
abbrev Box7 (w : World) (b : Nat) (v0 v1 v2 v3 v4 v5 v6 : Value) : Prop := (w.cell? ⟨b, 0, none⟩ = some v0 ∧ w.cell? ⟨b, 1, none⟩ = some v1 ∧ w.cell? ⟨b, 2, none⟩ = some v2 ∧ w.cell? ⟨b, 3, none⟩ = some v3 ∧ w.cell? ⟨b, 4, none⟩ = some v4 ∧ w.cell? ⟨b, 5, none⟩ = some v5 ∧ w.cell? ⟨b, 6, none⟩ = some v6) ∧ (w.frozen? ⟨b, 0, none⟩ = false ∧ w.frozen? ⟨b, 1, none⟩ = false ∧ w.frozen? ⟨b, 2, none⟩ = false ∧ w.frozen? ⟨b, 3, none⟩ = false ∧ w.frozen? ⟨b, 4, none⟩ = false ∧ w.frozen? ⟨b, 5, none⟩ = false ∧ w.frozen? ⟨b, 6, none⟩ = false) ∧ b < w.heap.size
theorem Box7.mono {w w1 : World} {b : Nat} {v0 v1 v2 v3 v4 v5 v6 : Value} (k : Box7 w b v0 v1 v2 v3 v4 v5 v6) (h : Gr w w1) : Box7 w1 b v0 v1 v2 v3 v4 v5 v6 := by
 obtain ⟨⟨k0, k1, k2, k3, k4, k5, k6⟩, ⟨f0, f1, f2, f3, f4, f5, f6⟩, hlt⟩ := k
 exact ⟨⟨h.cell k0, h.cell k1, h.cell k2, h.cell k3, h.cell k4, h.cell k5, h.cell k6⟩, ⟨h.free (by exact hlt) f0, h.free (by exact hlt) f1, h.free (by exact hlt) f2, h.free (by exact hlt) f3, h.free (by exact hlt) f4, h.free (by exact hlt) f5, h.free (by exact hlt) f6⟩, Nat.lt_of_lt_of_le hlt h.size⟩
theorem Box7.of {w : World} {b : Nat} {v0 v1 v2 v3 v4 v5 v6 : Value} {t : TypeId} (h : w.heap[b]? = some (.cells #[v0, v1, v2, v3, v4, v5, v6] t (0, 0))) : Box7 w b v0 v1 v2 v3 v4 v5 v6 := by
 have hlt : b < w.heap.size := (Array.getElem?_eq_some_iff.1 h).1
 refine ⟨⟨?_, ?_, ?_, ?_, ?_, ?_, ?_⟩, ⟨?_, ?_, ?_, ?_, ?_, ?_, ?_⟩, hlt⟩ <;> simp [World.cell?, World.frozen?, h]
theorem Box7.at {w w1 : World} {b : Nat} {v0 v1 v2 v3 v4 v5 v6 : Value} {t : TypeId} (g : Gr w w1) (h : w.heap[b]? = some (.cells #[v0, v1, v2, v3, v4, v5, v6] t (0, 0))) : Box7 w1 b v0 v1 v2 v3 v4 v5 v6 := (Box7.of h).mono g
abbrev Box8 (w : World) (b : Nat) (v0 v1 v2 v3 v4 v5 v6 v7 : Value) : Prop := (w.cell? ⟨b, 0, none⟩ = some v0 ∧ w.cell? ⟨b, 1, none⟩ = some v1 ∧ w.cell? ⟨b, 2, none⟩ = some v2 ∧ w.cell? ⟨b, 3, none⟩ = some v3 ∧ w.cell? ⟨b, 4, none⟩ = some v4 ∧ w.cell? ⟨b, 5, none⟩ = some v5 ∧ w.cell? ⟨b, 6, none⟩ = some v6 ∧ w.cell? ⟨b, 7, none⟩ = some v7) ∧ (w.frozen? ⟨b, 0, none⟩ = false ∧ w.frozen? ⟨b, 1, none⟩ = false ∧ w.frozen? ⟨b, 2, none⟩ = false ∧ w.frozen? ⟨b, 3, none⟩ = false ∧ w.frozen? ⟨b, 4, none⟩ = false ∧ w.frozen? ⟨b, 5, none⟩ = false ∧ w.frozen? ⟨b, 6, none⟩ = false ∧ w.frozen? ⟨b, 7, none⟩ = false) ∧ b < w.heap.size
theorem Box8.mono {w w1 : World} {b : Nat} {v0 v1 v2 v3 v4 v5 v6 v7 : Value} (k : Box8 w b v0 v1 v2 v3 v4 v5 v6 v7) (h : Gr w w1) : Box8 w1 b v0 v1 v2 v3 v4 v5 v6 v7 := by
 obtain ⟨⟨k0, k1, k2, k3, k4, k5, k6, k7⟩, ⟨f0, f1, f2, f3, f4, f5, f6, f7⟩, hlt⟩ := k
 exact ⟨⟨h.cell k0, h.cell k1, h.cell k2, h.cell k3, h.cell k4, h.cell k5, h.cell k6, h.cell k7⟩, ⟨h.free (by exact hlt) f0, h.free (by exact hlt) f1, h.free (by exact hlt) f2, h.free (by exact hlt) f3, h.free (by exact hlt) f4, h.free (by exact hlt) f5, h.free (by exact hlt) f6, h.free (by exact hlt) f7⟩, Nat.lt_of_lt_of_le hlt h.size⟩
theorem Box8.of {w : World} {b : Nat} {v0 v1 v2 v3 v4 v5 v6 v7 : Value} {t : TypeId} (h : w.heap[b]? = some (.cells #[v0, v1, v2, v3, v4, v5, v6, v7] t (0, 0))) : Box8 w b v0 v1 v2 v3 v4 v5 v6 v7 := by
 have hlt : b < w.heap.size := (Array.getElem?_eq_some_iff.1 h).1
 refine ⟨⟨?_, ?_, ?_, ?_, ?_, ?_, ?_, ?_⟩, ⟨?_, ?_, ?_, ?_, ?_, ?_, ?_, ?_⟩, hlt⟩ <;> simp [World.cell?, World.frozen?, h]
theorem Box8.at {w w1 : World} {b : Nat} {v0 v1 v2 v3 v4 v5 v6 v7 : Value} {t : TypeId} (g : Gr w w1) (h : w.heap[b]? = some (.cells #[v0, v1, v2, v3, v4, v5, v6, v7] t (0, 0))) : Box8 w1 b v0 v1 v2 v3 v4 v5 v6 v7 := (Box8.of h).mono g
abbrev Box9 (w : World) (b : Nat) (v0 v1 v2 v3 v4 v5 v6 v7 v8 : Value) : Prop := (w.cell? ⟨b, 0, none⟩ = some v0 ∧ w.cell? ⟨b, 1, none⟩ = some v1 ∧ w.cell? ⟨b, 2, none⟩ = some v2 ∧ w.cell? ⟨b, 3, none⟩ = some v3 ∧ w.cell? ⟨b, 4, none⟩ = some v4 ∧ w.cell? ⟨b, 5, none⟩ = some v5 ∧ w.cell? ⟨b, 6, none⟩ = some v6 ∧ w.cell? ⟨b, 7, none⟩ = some v7 ∧ w.cell? ⟨b, 8, none⟩ = some v8) ∧ (w.frozen? ⟨b, 0, none⟩ = false ∧ w.frozen? ⟨b, 1, none⟩ = false ∧ w.frozen? ⟨b, 2, none⟩ = false ∧ w.frozen? ⟨b, 3, none⟩ = false ∧ w.frozen? ⟨b, 4, none⟩ = false ∧ w.frozen? ⟨b, 5, none⟩ = false ∧ w.frozen? ⟨b, 6, none⟩ = false ∧ w.frozen? ⟨b, 7, none⟩ = false ∧ w.frozen? ⟨b, 8, none⟩ = false) ∧ b < w.heap.size
theorem Box9.mono {w w1 : World} {b : Nat} {v0 v1 v2 v3 v4 v5 v6 v7 v8 : Value} (k : Box9 w b v0 v1 v2 v3 v4 v5 v6 v7 v8) (h : Gr w w1) : Box9 w1 b v0 v1 v2 v3 v4 v5 v6 v7 v8 := by
 obtain ⟨⟨k0, k1, k2, k3, k4, k5, k6, k7, k8⟩, ⟨f0, f1, f2, f3, f4, f5, f6, f7, f8⟩, hlt⟩ := k
 exact ⟨⟨h.cell k0, h.cell k1, h.cell k2, h.cell k3, h.cell k4, h.cell k5, h.cell k6, h.cell k7, h.cell k8⟩, ⟨h.free (by exact hlt) f0, h.free (by exact hlt) f1, h.free (by exact hlt) f2, h.free (by exact hlt) f3, h.free (by exact hlt) f4, h.free (by exact hlt) f5, h.free (by exact hlt) f6, h.free (by exact hlt) f7, h.free (by exact hlt) f8⟩, Nat.lt_of_lt_of_le hlt h.size⟩
theorem Box9.of {w : World} {b : Nat} {v0 v1 v2 v3 v4 v5 v6 v7 v8 : Value} {t : TypeId} (h : w.heap[b]? = some (.cells #[v0, v1, v2, v3, v4, v5, v6, v7, v8] t (0, 0))) : Box9 w b v0 v1 v2 v3 v4 v5 v6 v7 v8 := by
 have hlt : b < w.heap.size := (Array.getElem?_eq_some_iff.1 h).1
 refine ⟨⟨?_, ?_, ?_, ?_, ?_, ?_, ?_, ?_, ?_⟩, ⟨?_, ?_, ?_, ?_, ?_, ?_, ?_, ?_, ?_⟩, hlt⟩ <;> simp [World.cell?, World.frozen?, h]
theorem Box9.at {w w1 : World} {b : Nat} {v0 v1 v2 v3 v4 v5 v6 v7 v8 : Value} {t : TypeId} (g : Gr w w1) (h : w.heap[b]? = some (.cells #[v0, v1, v2, v3, v4, v5, v6, v7, v8] t (0, 0))) : Box9 w1 b v0 v1 v2 v3 v4 v5 v6 v7 v8 := (Box9.of h).mono g
abbrev Box10 (w : World) (b : Nat) (v0 v1 v2 v3 v4 v5 v6 v7 v8 v9 : Value) : Prop := (w.cell? ⟨b, 0, none⟩ = some v0 ∧ w.cell? ⟨b, 1, none⟩ = some v1 ∧ w.cell? ⟨b, 2, none⟩ = some v2 ∧ w.cell? ⟨b, 3, none⟩ = some v3 ∧ w.cell? ⟨b, 4, none⟩ = some v4 ∧ w.cell? ⟨b, 5, none⟩ = some v5 ∧ w.cell? ⟨b, 6, none⟩ = some v6 ∧ w.cell? ⟨b, 7, none⟩ = some v7 ∧ w.cell? ⟨b, 8, none⟩ = some v8 ∧ w.cell? ⟨b, 9, none⟩ = some v9) ∧ (w.frozen? ⟨b, 0, none⟩ = false ∧ w.frozen? ⟨b, 1, none⟩ = false ∧ w.frozen? ⟨b, 2, none⟩ = false ∧ w.frozen? ⟨b, 3, none⟩ = false ∧ w.frozen? ⟨b, 4, none⟩ = false ∧ w.frozen? ⟨b, 5, none⟩ = false ∧ w.frozen? ⟨b, 6, none⟩ = false ∧ w.frozen? ⟨b, 7, none⟩ = false ∧ w.frozen? ⟨b, 8, none⟩ = false ∧ w.frozen? ⟨b, 9, none⟩ = false) ∧ b < w.heap.size
theorem Box10.mono {w w1 : World} {b : Nat} {v0 v1 v2 v3 v4 v5 v6 v7 v8 v9 : Value} (k : Box10 w b v0 v1 v2 v3 v4 v5 v6 v7 v8 v9) (h : Gr w w1) : Box10 w1 b v0 v1 v2 v3 v4 v5 v6 v7 v8 v9 := by
 obtain ⟨⟨k0, k1, k2, k3, k4, k5, k6, k7, k8, k9⟩, ⟨f0, f1, f2, f3, f4, f5, f6, f7, f8, f9⟩, hlt⟩ := k
 exact ⟨⟨h.cell k0, h.cell k1, h.cell k2, h.cell k3, h.cell k4, h.cell k5, h.cell k6, h.cell k7, h.cell k8, h.cell k9⟩, ⟨h.free (by exact hlt) f0, h.free (by exact hlt) f1, h.free (by exact hlt) f2, h.free (by exact hlt) f3, h.free (by exact hlt) f4, h.free (by exact hlt) f5, h.free (by exact hlt) f6, h.free (by exact hlt) f7, h.free (by exact hlt) f8, h.free (by exact hlt) f9⟩, Nat.lt_of_lt_of_le hlt h.size⟩
theorem Box10.of {w : World} {b : Nat} {v0 v1 v2 v3 v4 v5 v6 v7 v8 v9 : Value} {t : TypeId} (h : w.heap[b]? = some (.cells #[v0, v1, v2, v3, v4, v5, v6, v7, v8, v9] t (0, 0))) : Box10 w b v0 v1 v2 v3 v4 v5 v6 v7 v8 v9 := by
 have hlt : b < w.heap.size := (Array.getElem?_eq_some_iff.1 h).1
 refine ⟨⟨?_, ?_, ?_, ?_, ?_, ?_, ?_, ?_, ?_, ?_⟩, ⟨?_, ?_, ?_, ?_, ?_, ?_, ?_, ?_, ?_, ?_⟩, hlt⟩ <;> simp [World.cell?, World.frozen?, h]
theorem Box10.at {w w1 : World} {b : Nat} {v0 v1 v2 v3 v4 v5 v6 v7 v8 v9 : Value} {t : TypeId} (g : Gr w w1) (h : w.heap[b]? = some (.cells #[v0, v1, v2, v3, v4, v5, v6, v7, v8, v9] t (0, 0))) : Box10 w1 b v0 v1 v2 v3 v4 v5 v6 v7 v8 v9 := (Box10.of h).mono g
abbrev Box11 (w : World) (b : Nat) (v0 v1 v2 v3 v4 v5 v6 v7 v8 v9 v10 : Value) : Prop := (w.cell? ⟨b, 0, none⟩ = some v0 ∧ w.cell? ⟨b, 1, none⟩ = some v1 ∧ w.cell? ⟨b, 2, none⟩ = some v2 ∧ w.cell? ⟨b, 3, none⟩ = some v3 ∧ w.cell? ⟨b, 4, none⟩ = some v4 ∧ w.cell? ⟨b, 5, none⟩ = some v5 ∧ w.cell? ⟨b, 6, none⟩ = some v6 ∧ w.cell? ⟨b, 7, none⟩ = some v7 ∧ w.cell? ⟨b, 8, none⟩ = some v8 ∧ w.cell? ⟨b, 9, none⟩ = some v9 ∧ w.cell? ⟨b, 10, none⟩ = some v10) ∧ (w.frozen? ⟨b, 0, none⟩ = false ∧ w.frozen? ⟨b, 1, none⟩ = false ∧ w.frozen? ⟨b, 2, none⟩ = false ∧ w.frozen? ⟨b, 3, none⟩ = false ∧ w.frozen? ⟨b, 4, none⟩ = false ∧ w.frozen? ⟨b, 5, none⟩ = false ∧ w.frozen? ⟨b, 6, none⟩ = false ∧ w.frozen? ⟨b, 7, none⟩ = false ∧ w.frozen? ⟨b, 8, none⟩ = false ∧ w.frozen? ⟨b, 9, none⟩ = false ∧ w.frozen? ⟨b, 10, none⟩ = false) ∧ b < w.heap.size
theorem Box11.mono {w w1 : World} {b : Nat} {v0 v1 v2 v3 v4 v5 v6 v7 v8 v9 v10 : Value} (k : Box11 w b v0 v1 v2 v3 v4 v5 v6 v7 v8 v9 v10) (h : Gr w w1) : Box11 w1 b v0 v1 v2 v3 v4 v5 v6 v7 v8 v9 v10 := by
 obtain ⟨⟨k0, k1, k2, k3, k4, k5, k6, k7, k8, k9, k10⟩, ⟨f0, f1, f2, f3, f4, f5, f6, f7, f8, f9, f10⟩, hlt⟩ := k
 exact ⟨⟨h.cell k0, h.cell k1, h.cell k2, h.cell k3, h.cell k4, h.cell k5, h.cell k6, h.cell k7, h.cell k8, h.cell k9, h.cell k10⟩, ⟨h.free (by exact hlt) f0, h.free (by exact hlt) f1, h.free (by exact hlt) f2, h.free (by exact hlt) f3, h.free (by exact hlt) f4, h.free (by exact hlt) f5, h.free (by exact hlt) f6, h.free (by exact hlt) f7, h.free (by exact hlt) f8, h.free (by exact hlt) f9, h.free (by exact hlt) f10⟩, Nat.lt_of_lt_of_le hlt h.size⟩
theorem Box11.of {w : World} {b : Nat} {v0 v1 v2 v3 v4 v5 v6 v7 v8 v9 v10 : Value} {t : TypeId} (h : w.heap[b]? = some (.cells #[v0, v1, v2, v3, v4, v5, v6, v7, v8, v9, v10] t (0, 0))) : Box11 w b v0 v1 v2 v3 v4 v5 v6 v7 v8 v9 v10 := by
 have hlt : b < w.heap.size := (Array.getElem?_eq_some_iff.1 h).1
 refine ⟨⟨?_, ?_, ?_, ?_, ?_, ?_, ?_, ?_, ?_, ?_, ?_⟩, ⟨?_, ?_, ?_, ?_, ?_, ?_, ?_, ?_, ?_, ?_, ?_⟩, hlt⟩ <;> simp [World.cell?, World.frozen?, h]
theorem Box11.at {w w1 : World} {b : Nat} {v0 v1 v2 v3 v4 v5 v6 v7 v8 v9 v10 : Value} {t : TypeId} (g : Gr w w1) (h : w.heap[b]? = some (.cells #[v0, v1, v2, v3, v4, v5, v6, v7, v8, v9, v10] t (0, 0))) : Box11 w1 b v0 v1 v2 v3 v4 v5 v6 v7 v8 v9 v10 := (Box11.of h).mono g
abbrev Box12 (w : World) (b : Nat) (v0 v1 v2 v3 v4 v5 v6 v7 v8 v9 v10 v11 : Value) : Prop := (w.cell? ⟨b, 0, none⟩ = some v0 ∧ w.cell? ⟨b, 1, none⟩ = some v1 ∧ w.cell? ⟨b, 2, none⟩ = some v2 ∧ w.cell? ⟨b, 3, none⟩ = some v3 ∧ w.cell? ⟨b, 4, none⟩ = some v4 ∧ w.cell? ⟨b, 5, none⟩ = some v5 ∧ w.cell? ⟨b, 6, none⟩ = some v6 ∧ w.cell? ⟨b, 7, none⟩ = some v7 ∧ w.cell? ⟨b, 8, none⟩ = some v8 ∧ w.cell? ⟨b, 9, none⟩ = some v9 ∧ w.cell? ⟨b, 10, none⟩ = some v10 ∧ w.cell? ⟨b, 11, none⟩ = some v11) ∧ (w.frozen? ⟨b, 0, none⟩ = false ∧ w.frozen? ⟨b, 1, none⟩ = false ∧ w.frozen? ⟨b, 2, none⟩ = false ∧ w.frozen? ⟨b, 3, none⟩ = false ∧ w.frozen? ⟨b, 4, none⟩ = false ∧ w.frozen? ⟨b, 5, none⟩ = false ∧ w.frozen? ⟨b, 6, none⟩ = false ∧ w.frozen? ⟨b, 7, none⟩ = false ∧ w.frozen? ⟨b, 8, none⟩ = false ∧ w.frozen? ⟨b, 9, none⟩ = false ∧ w.frozen? ⟨b, 10, none⟩ = false ∧ w.frozen? ⟨b, 11, none⟩ = false) ∧ b < w.heap.size
theorem Box12.mono {w w1 : World} {b : Nat} {v0 v1 v2 v3 v4 v5 v6 v7 v8 v9 v10 v11 : Value} (k : Box12 w b v0 v1 v2 v3 v4 v5 v6 v7 v8 v9 v10 v11) (h : Gr w w1) : Box12 w1 b v0 v1 v2 v3 v4 v5 v6 v7 v8 v9 v10 v11 := by
 obtain ⟨⟨k0, k1, k2, k3, k4, k5, k6, k7, k8, k9, k10, k11⟩, ⟨f0, f1, f2, f3, f4, f5, f6, f7, f8, f9, f10, f11⟩, hlt⟩ := k
 exact ⟨⟨h.cell k0, h.cell k1, h.cell k2, h.cell k3, h.cell k4, h.cell k5, h.cell k6, h.cell k7, h.cell k8, h.cell k9, h.cell k10, h.cell k11⟩, ⟨h.free (by exact hlt) f0, h.free (by exact hlt) f1, h.free (by exact hlt) f2, h.free (by exact hlt) f3, h.free (by exact hlt) f4, h.free (by exact hlt) f5, h.free (by exact hlt) f6, h.free (by exact hlt) f7, h.free (by exact hlt) f8, h.free (by exact hlt) f9, h.free (by exact hlt) f10, h.free (by exact hlt) f11⟩, Nat.lt_of_lt_of_le hlt h.size⟩
theorem Box12.of {w : World} {b : Nat} {v0 v1 v2 v3 v4 v5 v6 v7 v8 v9 v10 v11 : Value} {t : TypeId} (h : w.heap[b]? = some (.cells #[v0, v1, v2, v3, v4, v5, v6, v7, v8, v9, v10, v11] t (0, 0))) : Box12 w b v0 v1 v2 v3 v4 v5 v6 v7 v8 v9 v10 v11 := by
 have hlt : b < w.heap.size := (Array.getElem?_eq_some_iff.1 h).1
 refine ⟨⟨?_, ?_, ?_, ?_, ?_, ?_, ?_, ?_, ?_, ?_, ?_, ?_⟩, ⟨?_, ?_, ?_, ?_, ?_, ?_, ?_, ?_, ?_, ?_, ?_, ?_⟩, hlt⟩ <;> simp [World.cell?, World.frozen?, h]
theorem Box12.at {w w1 : World} {b : Nat} {v0 v1 v2 v3 v4 v5 v6 v7 v8 v9 v10 v11 : Value} {t : TypeId} (g : Gr w w1) (h : w.heap[b]? = some (.cells #[v0, v1, v2, v3, v4, v5, v6, v7, v8, v9, v10, v11] t (0, 0))) : Box12 w1 b v0 v1 v2 v3 v4 v5 v6 v7 v8 v9 v10 v11 := (Box12.of h).mono g
abbrev Box13 (w : World) (b : Nat) (v0 v1 v2 v3 v4 v5 v6 v7 v8 v9 v10 v11 v12 : Value) : Prop := (w.cell? ⟨b, 0, none⟩ = some v0 ∧ w.cell? ⟨b, 1, none⟩ = some v1 ∧ w.cell? ⟨b, 2, none⟩ = some v2 ∧ w.cell? ⟨b, 3, none⟩ = some v3 ∧ w.cell? ⟨b, 4, none⟩ = some v4 ∧ w.cell? ⟨b, 5, none⟩ = some v5 ∧ w.cell? ⟨b, 6, none⟩ = some v6 ∧ w.cell? ⟨b, 7, none⟩ = some v7 ∧ w.cell? ⟨b, 8, none⟩ = some v8 ∧ w.cell? ⟨b, 9, none⟩ = some v9 ∧ w.cell? ⟨b, 10, none⟩ = some v10 ∧ w.cell? ⟨b, 11, none⟩ = some v11 ∧ w.cell? ⟨b, 12, none⟩ = some v12) ∧ (w.frozen? ⟨b, 0, none⟩ = false ∧ w.frozen? ⟨b, 1, none⟩ = false ∧ w.frozen? ⟨b, 2, none⟩ = false ∧ w.frozen? ⟨b, 3, none⟩ = false ∧ w.frozen? ⟨b, 4, none⟩ = false ∧ w.frozen? ⟨b, 5, none⟩ = false ∧ w.frozen? ⟨b, 6, none⟩ = false ∧ w.frozen? ⟨b, 7, none⟩ = false ∧ w.frozen? ⟨b, 8, none⟩ = false ∧ w.frozen? ⟨b, 9, none⟩ = false ∧ w.frozen? ⟨b, 10, none⟩ = false ∧ w.frozen? ⟨b, 11, none⟩ = false ∧ w.frozen? ⟨b, 12, none⟩ = false) ∧ b < w.heap.size
theorem Box13.mono {w w1 : World} {b : Nat} {v0 v1 v2 v3 v4 v5 v6 v7 v8 v9 v10 v11 v12 : Value} (k : Box13 w b v0 v1 v2 v3 v4 v5 v6 v7 v8 v9 v10 v11 v12) (h : Gr w w1) : Box13 w1 b v0 v1 v2 v3 v4 v5 v6 v7 v8 v9 v10 v11 v12 := by
 obtain ⟨⟨k0, k1, k2, k3, k4, k5, k6, k7, k8, k9, k10, k11, k12⟩, ⟨f0, f1, f2, f3, f4, f5, f6, f7, f8, f9, f10, f11, f12⟩, hlt⟩ := k
 exact ⟨⟨h.cell k0, h.cell k1, h.cell k2, h.cell k3, h.cell k4, h.cell k5, h.cell k6, h.cell k7, h.cell k8, h.cell k9, h.cell k10, h.cell k11, h.cell k12⟩, ⟨h.free (by exact hlt) f0, h.free (by exact hlt) f1, h.free (by exact hlt) f2, h.free (by exact hlt) f3, h.free (by exact hlt) f4, h.free (by exact hlt) f5, h.free (by exact hlt) f6, h.free (by exact hlt) f7, h.free (by exact hlt) f8, h.free (by exact hlt) f9, h.free (by exact hlt) f10, h.free (by exact hlt) f11, h.free (by exact hlt) f12⟩, Nat.lt_of_lt_of_le hlt h.size⟩
theorem Box13.of {w : World} {b : Nat} {v0 v1 v2 v3 v4 v5 v6 v7 v8 v9 v10 v11 v12 : Value} {t : TypeId} (h : w.heap[b]? = some (.cells #[v0, v1, v2, v3, v4, v5, v6, v7, v8, v9, v10, v11, v12] t (0, 0))) : Box13 w b v0 v1 v2 v3 v4 v5 v6 v7 v8 v9 v10 v11 v12 := by
 have hlt : b < w.heap.size := (Array.getElem?_eq_some_iff.1 h).1
 refine ⟨⟨?_, ?_, ?_, ?_, ?_, ?_, ?_, ?_, ?_, ?_, ?_, ?_, ?_⟩, ⟨?_, ?_, ?_, ?_, ?_, ?_, ?_, ?_, ?_, ?_, ?_, ?_, ?_⟩, hlt⟩ <;> simp [World.cell?, World.frozen?, h]
theorem Box13.at {w w1 : World} {b : Nat} {v0 v1 v2 v3 v4 v5 v6 v7 v8 v9 v10 v11 v12 : Value} {t : TypeId} (g : Gr w w1) (h : w.heap[b]? = some (.cells #[v0, v1, v2, v3, v4, v5, v6, v7, v8, v9, v10, v11, v12] t (0, 0))) : Box13 w1 b v0 v1 v2 v3 v4 v5 v6 v7 v8 v9 v10 v11 v12 := (Box13.of h).mono g
abbrev Box14 (w : World) (b : Nat) (v0 v1 v2 v3 v4 v5 v6 v7 v8 v9 v10 v11 v12 v13 : Value) : Prop := (w.cell? ⟨b, 0, none⟩ = some v0 ∧ w.cell? ⟨b, 1, none⟩ = some v1 ∧ w.cell? ⟨b, 2, none⟩ = some v2 ∧ w.cell? ⟨b, 3, none⟩ = some v3 ∧ w.cell? ⟨b, 4, none⟩ = some v4 ∧ w.cell? ⟨b, 5, none⟩ = some v5 ∧ w.cell? ⟨b, 6, none⟩ = some v6 ∧ w.cell? ⟨b, 7, none⟩ = some v7 ∧ w.cell? ⟨b, 8, none⟩ = some v8 ∧ w.cell? ⟨b, 9, none⟩ = some v9 ∧ w.cell? ⟨b, 10, none⟩ = some v10 ∧ w.cell? ⟨b, 11, none⟩ = some v11 ∧ w.cell? ⟨b, 12, none⟩ = some v12 ∧ w.cell? ⟨b, 13, none⟩ = some v13) ∧ (w.frozen? ⟨b, 0, none⟩ = false ∧ w.frozen? ⟨b, 1, none⟩ = false ∧ w.frozen? ⟨b, 2, none⟩ = false ∧ w.frozen? ⟨b, 3, none⟩ = false ∧ w.frozen? ⟨b, 4, none⟩ = false ∧ w.frozen? ⟨b, 5, none⟩ = false ∧ w.frozen? ⟨b, 6, none⟩ = false ∧ w.frozen? ⟨b, 7, none⟩ = false ∧ w.frozen? ⟨b, 8, none⟩ = false ∧ w.frozen? ⟨b, 9, none⟩ = false ∧ w.frozen? ⟨b, 10, none⟩ = false ∧ w.frozen? ⟨b, 11, none⟩ = false ∧ w.frozen? ⟨b, 12, none⟩ = false ∧ w.frozen? ⟨b, 13, none⟩ = false) ∧ b < w.heap.size
theorem Box14.mono {w w1 : World} {b : Nat} {v0 v1 v2 v3 v4 v5 v6 v7 v8 v9 v10 v11 v12 v13 : Value} (k : Box14 w b v0 v1 v2 v3 v4 v5 v6 v7 v8 v9 v10 v11 v12 v13) (h : Gr w w1) : Box14 w1 b v0 v1 v2 v3 v4 v5 v6 v7 v8 v9 v10 v11 v12 v13 := by
 obtain ⟨⟨k0, k1, k2, k3, k4, k5, k6, k7, k8, k9, k10, k11, k12, k13⟩, ⟨f0, f1, f2, f3, f4, f5, f6, f7, f8, f9, f10, f11, f12, f13⟩, hlt⟩ := k
 exact ⟨⟨h.cell k0, h.cell k1, h.cell k2, h.cell k3, h.cell k4, h.cell k5, h.cell k6, h.cell k7, h.cell k8, h.cell k9, h.cell k10, h.cell k11, h.cell k12, h.cell k13⟩, ⟨h.free (by exact hlt) f0, h.free (by exact hlt) f1, h.free (by exact hlt) f2, h.free (by exact hlt) f3, h.free (by exact hlt) f4, h.free (by exact hlt) f5, h.free (by exact hlt) f6, h.free (by exact hlt) f7, h.free (by exact hlt) f8, h.free (by exact hlt) f9, h.free (by exact hlt) f10, h.free (by exact hlt) f11, h.free (by exact hlt) f12, h.free (by exact hlt) f13⟩, Nat.lt_of_lt_of_le hlt h.size⟩
theorem Box14.of {w : World} {b : Nat} {v0 v1 v2 v3 v4 v5 v6 v7 v8 v9 v10 v11 v12 v13 : Value} {t : TypeId} (h : w.heap[b]? = some (.cells #[v0, v1, v2, v3, v4, v5, v6, v7, v8, v9, v10, v11, v12, v13] t (0, 0))) : Box14 w b v0 v1 v2 v3 v4 v5 v6 v7 v8 v9 v10 v11 v12 v13 := by
 have hlt : b < w.heap.size := (Array.getElem?_eq_some_iff.1 h).1
 refine ⟨⟨?_, ?_, ?_, ?_, ?_, ?_, ?_, ?_, ?_, ?_, ?_, ?_, ?_, ?_⟩, ⟨?_, ?_, ?_, ?_, ?_, ?_, ?_, ?_, ?_, ?_, ?_, ?_, ?_, ?_⟩, hlt⟩ <;> simp [World.cell?, World.frozen?, h]
theorem Box14.at {w w1 : World} {b : Nat} {v0 v1 v2 v3 v4 v5 v6 v7 v8 v9 v10 v11 v12 v13 : Value} {t : TypeId} (g : Gr w w1) (h : w.heap[b]? = some (.cells #[v0, v1, v2, v3, v4, v5, v6, v7, v8, v9, v10, v11, v12, v13] t (0, 0))) : Box14 w1 b v0 v1 v2 v3 v4 v5 v6 v7 v8 v9 v10 v11 v12 v13 := (Box14.of h).mono g
end Go.Proofs.YtphgchakmkankaaGreat

namespace Go.Proofs.YtphgchakmkankaaGreat
set_option linter.unusedSectionVars false
open Go.RowKit Go.Deep
set_option linter.unusedVariables false
set_option linter.unusedSimpArgs false

theorem Gr.cells {w w' : World} (g : Gr w w') {a : Addr} {n : Nat} {cs : List Value} (h : ∀ i, i < n → w.cell? (a.add i) = cs[i]?) (hl : cs.length = n) : ∀ i, i < n → w'.cell? (a.add i) = cs[i]? := by
 intro i hi
 have h1 := h i hi
 rw [List.getElem?_eq_getElem (by omega)] at h1 ⊢
 exact g.cell h1

structure Cod (α : Type) where
 size : Nat
 is : World → List Value → α → Prop
 len : ∀ {w cs a}, is w cs a → cs.length = size
 mono : ∀ {w w' cs a}, is w cs a → Gr w w' → is w' cs a
 bulk : α → Nat

def intC : Cod Int where
 size := 1
 is := fun _ cs n => cs = [.int .i64 n] ∧ -9223372036854775808 ≤ n ∧ n ≤ 9223372036854775807
 len := fun h => by rw [h.1]; rfl
 mono := fun h _ => h
 bulk := fun _ => 1
def boolC : Cod Bool where
 size := 1
 is := fun _ cs b => cs = [.bool b]
 len := fun h => by rw [h]; rfl
 mono := fun h _ => h
 bulk := fun _ => 1
def strC : Cod ByteArray where
 size := 1
 is := fun _ cs s => cs = [.string s] ∧ s.size ≤ maxLen
 len := fun h => by rw [h.1]; rfl
 mono := fun h _ => h
 bulk := fun s => s.size + 1
def Cod.pair {α β : Type} (c : Cod α) (d : Cod β) : Cod (α × β) where
 size := c.size + d.size
 is := fun w cs x => c.is w (cs.take c.size) x.1 ∧ d.is w (cs.drop c.size) x.2
 len := fun {w cs a} h => by
  have h1 := c.len h.1
  have h2 := d.len h.2
  simp at h1 h2
  omega
 mono := fun h g => ⟨c.mono h.1 g, d.mono h.2 g⟩
 bulk := fun x => c.bulk x.1 + d.bulk x.2
def sliceC {α : Type} (c : Cod α) : Cod (List α) where
 size := 1
 is := fun w cs l => (cs = [.slice none 0 0] ∧ l = []) ∨ ∃ (b off : Nat) (sp : Option Nat) (cap : Nat), cs = [.slice (some ⟨b, off, sp⟩) l.length cap] ∧ l.length ≤ cap ∧ cap ≤ maxLen ∧
  ∀ i (h : i < l.length), sp = none ∧ ∃ cs', (∀ j, j < c.size → w.cell? ⟨b, off + (i * c.size + j), none⟩ = cs'[j]?) ∧ c.is w cs' l[i]
 len := fun h => by
  rcases h with ⟨rfl, _⟩ | ⟨b, off, sp, cap, rfl, _⟩ <;> rfl
 mono := fun {w w' cs l} h g => by
  rcases h with h | ⟨b, off, sp, cap, h1, h2, h3, h4⟩
  ·exact .inl h
  ·refine .inr ⟨b, off, sp, cap, h1, h2, h3, fun i hi => ?_⟩
   obtain ⟨e, cs', h5, h6⟩ := h4 i hi
   refine ⟨e, cs', fun j hj => ?_, c.mono h6 g⟩
   have h7 := h5 j hj
   have hl := c.len h6
   rw [List.getElem?_eq_getElem (by omega)] at h7 ⊢
   exact g.cell h7
 bulk := fun l => (l.map c.bulk).sum + 1

def ReadsF {α : Type} (F : Nat → Prop) (P : Program) (c : Cod α) (t : TypeId) : Prop :=
 ∀ ⦃H : Type⦄ ⦃enc : TypeId × Value → H⦄ ⦃w : World⦄ ⦃base : Nat⦄ ⦃spare : Nat → Bool⦄ ⦃held : Bool⦄ ⦃fuel : Nat⦄ ⦃cs : List Value⦄ ⦃x : DataW H × List MemPlace⦄, F fuel →
  DataW.trod enc P w base spare held fuel t cs = some x → ∃ a, c.is w cs a ∧ c.bulk a ≤ Rows.uptoBulk x.1
abbrev Reads {α : Type} (P : Program) (c : Cod α) (t : TypeId) : Prop := ReadsF (fun _ => True) P c t
theorem bulkAll_sum {H : Type} (l : List (DataW H)) : Rows.uptoBulkAll l = (l.map Rows.uptoBulk).sum := by
 induction l with
 | nil => rfl
 | cons x r ih => simp only [Rows.uptoBulkAll, List.map_cons, List.sum_cons, ih]
theorem sum_le_range {α : Type} (f : α → Nat) (D : Nat → Nat) : ∀ (l : List α) (o : Nat), (∀ i (h : i < l.length), f l[i] ≤ D (o + i)) → (l.map f).sum ≤ ((List.range' o l.length).map D).sum
 | [], _, _ => by simp
 | x :: r, o, h => by
  simp only [List.length_cons, List.range'_succ, List.map_cons, List.sum_cons]
  have h0 := h 0 (by simp)
  have := sum_le_range f D r (o + 1) (fun i hi => by have := h (i + 1) (by simp; omega); simp only [List.getElem_cons_succ] at this; rw [show o + 1 + i = o + (i + 1) by omega]; exact this)
  simp at h0
  omega

theorem wf_i64 {n : Int} (h : (Lit.int .i64 n).wf = true) : -9223372036854775808 ≤ n ∧ n ≤ 9223372036854775807 := by
 simpa [Lit.wf, IntKind.min, IntKind.max, IntKind.signed, IntKind.bits] using h
theorem bulk_pos {H : Type} (d : DataW H) : 1 ≤ Rows.uptoBulk d := by
 cases d with
 | lit l => cases l <;> simp [Rows.uptoBulk]
 | _ => simp [Rows.uptoBulk]
theorem reads_int {F : Nat → Prop} {P : Program} {t : TypeId} (ht : P.underlying t = some (.int .i64)) : ReadsF F P intC t := by
 intro H enc w base spare held fuel cs x _ h
 obtain ⟨n, rfl, _, hw⟩ := DataW.trod_int ht h
 exact ⟨n, ⟨rfl, wf_i64 hw⟩, bulk_pos _⟩
theorem reads_bool {F : Nat → Prop} {P : Program} {t : TypeId} (ht : P.underlying t = some .bool) : ReadsF F P boolC t := by
 intro H enc w base spare held fuel cs x _ h
 obtain ⟨n, rfl, _⟩ := DataW.trod_bool ht h
 exact ⟨n, rfl, bulk_pos _⟩
theorem reads_str {F : Nat → Prop} {P : Program} {t : TypeId} (ht : P.underlying t = some .string) : ReadsF F P strC t := by
 intro H enc w base spare held fuel cs x _ h
 obtain ⟨n, rfl, hx, hw⟩ := DataW.trod_string ht h
 refine ⟨n, ⟨rfl, hw⟩, ?_⟩
 subst hx
 simp only [Rows.uptoBulk, strC]
 first | (simp; done) | omega
theorem reads_slice {F : Nat → Prop} {P : Program} {α : Type} {c : Cod α} {t e : TypeId} (ht : P.underlying t = some (.slice e)) (hz : P.cellsOf e = c.size) (hp : 0 < c.size) (hr : ReadsF (fun m => F (m + 1)) P c e) : ReadsF F P (sliceC c) t := by
 intro H enc w base spare held fuel cs x hF h
 rcases DataW.trod_slice ht h with ⟨rfl, rfl⟩ | ⟨a, len, cap, elems, rest, n, hfu, rfl, hxe, hb, hl, hm, hlen, hel, h8, h9⟩
 ·exact ⟨[], .inl ⟨rfl, rfl⟩, by simp [sliceC, Rows.uptoBulk]⟩
 ·obtain ⟨D, hD⟩ : ∃ D : Nat → DataW H, D = fun i => (elems.getD i (.nil, [])).1 := ⟨_, rfl⟩
  have key : ∀ i, i < len → ∃ (y : α) (cs' : List Value), (∀ j, j < c.size → w.cell? (a.add (i * c.size + j)) = cs'[j]?) ∧ c.is w cs' y ∧ c.bulk y ≤ Rows.uptoBulk (D i) := by
   intro i hi
   have hk := hel i hi
   rw [List.getElem?_eq_getElem (by omega)] at hk
   obtain ⟨cs', h1, h2⟩ := Option.bind_eq_some_iff.1 hk
   obtain ⟨y, hy, hyb⟩ := hr (by subst hfu; exact hF) h2
   have hyb : c.bulk y ≤ Rows.uptoBulk (D i) := by
    rw [hD]
    simpa [List.getD, List.getElem?_eq_getElem (show i < elems.length by omega)] using hyb
   obtain ⟨_, h3, h4⟩ := World.cells?_some h1
   refine ⟨y, cs', fun j hj => ?_, hy, hyb⟩
   have := h4 j (by rw [hz]; exact hj)
   rw [hz] at this
   rw [← this, add_add]
  obtain ⟨ys, hys⟩ : ∃ ys : List α, ys.length = len ∧ ∀ i (h : i < ys.length), c.bulk ys[i] ≤ Rows.uptoBulk (D i) ∧ ∃ cs', (∀ j, j < c.size → w.cell? (a.add (i * c.size + j)) = cs'[j]?) ∧ c.is w cs' ys[i] := by
   clear hel hlen h hl hxe h8 h9
   induction len with
   | zero => exact ⟨[], rfl, fun i h => by simp at h⟩
   | succ k ih =>
    obtain ⟨ys, h1, h2⟩ := ih (fun i hi => key i (by omega))
    obtain ⟨y, cs', h3, h4, h4b⟩ := key k (by omega)
    refine ⟨ys ++ [y], by simp [h1], fun i hi => ?_⟩
    by_cases hk : i < ys.length
    ·rw [List.getElem_append_left hk]; exact h2 i hk
    ·have : i = k := by simp at hi; omega
     subst this
     rw [List.getElem_append_right (by omega)]
     simp only [h1, Nat.sub_self, List.getElem_cons_zero]
     exact ⟨h4b, cs', h3, h4⟩
  obtain ⟨h1, h2⟩ := hys
  obtain ⟨b, off, sp⟩ := a
  refine ⟨ys, .inr ⟨b, off, sp, cap, by rw [h1], by omega, hm, fun i hi => ?_⟩, ?_⟩
  ·have hs : sp = none := by
    cases sp with
    | none => rfl
    | some q =>
     exfalso
     obtain ⟨_, cs', h3, h4⟩ := h2 0 (by omega)
     have h5 := h3 0 hp
     have hl := c.len h4
     rw [List.getElem?_eq_getElem (by omega)] at h5
     simp only [Nat.zero_mul, Nat.zero_add, World.cell?, Addr.add] at h5
     split at h5 <;> simp at h5
   obtain ⟨_, cs', h3, h4⟩ := h2 i hi
   subst hs
   refine ⟨rfl, cs', fun j hj => ?_, h4⟩
   have h6 := h3 j hj
   rw [← h6]
   congr 1
   simp only [Addr.add]
   split
   ·rename_i h7; simp only [h7, Nat.add_zero]
   ·rfl
  ·subst hxe
   simp only [sliceC, Rows.uptoBulk, bulkAll_sum, List.map_map]
   have := sum_le_range c.bulk (fun i => Rows.uptoBulk (D i)) ys 0 (fun i hi => by simpa using (h2 i hi).1)
   rw [h1, ← List.range_eq_range'] at this
   have e : List.map (Rows.uptoBulk ∘ fun x => x.1) elems = List.map (fun i => Rows.uptoBulk (D i)) (List.range len) := by
    rw [← hlen, hD]
    apply List.ext_getElem (by simp)
    intro i h3 h4
    simp at h3
    simp [List.getD, List.getElem?_eq_getElem h3]
   rw [e]
   omega
theorem take_drop_all {α : Type} (l : List α) (o n : Nat) (h : l.length = o + n) : (l.drop o).take n = l.drop o := List.take_of_length_le (by simp; omega)

theorem list_of_len2 {α : Type} (l : List α) (h : l.length = 2) : ∃ x0 x1, l = [x0, x1] := by
 match l, h with
 | [x0, x1], _ => exact ⟨x0, x1, rfl⟩
theorem reads_struct2 {F : Nat → Prop} {P : Program} {α0 α1 : Type} {t : TypeId} {f0 f1 : Field} {c0 : Cod α0} {c1 : Cod α1} (ht : P.underlying t = some (.struct #[f0, f1])) (hz : P.cellsOf t = c0.size + c1.size) (o0 : f0.offset = 0) (o1 : f1.offset = c0.size) (z0 : P.cellsOf f0.type = c0.size) (z1 : P.cellsOf f1.type = c1.size) (r0 : ReadsF (fun m => F (m + 1)) P c0 f0.type) (r1 : ReadsF (fun m => F (m + 1)) P c1 f1.type) : ReadsF F P (c0.pair c1) t := by
 intro H enc w base spare held fuel cs x hF h
 obtain ⟨xs, m, hfu, hxx, hlen, hxl, hf⟩ := DataW.trod_struct ht h
 rw [hz] at hlen
 have hxl : xs.length = 2 := hxl
 have h0 := hf 0 f0 rfl
 rw [o0, z0, List.getElem?_eq_getElem (show 0 < xs.length by omega)] at h0
 obtain ⟨a0, k0, b0⟩ := r0 (by subst hfu; exact hF) h0
 have h1 := hf 1 f1 rfl
 rw [o1, z1, List.getElem?_eq_getElem (show 1 < xs.length by omega)] at h1
 obtain ⟨a1, k1, b1⟩ := r1 (by subst hfu; exact hF) h1
 rw [take_drop_all cs (c0.size) c1.size (by omega)] at k1
 refine ⟨(a0, a1), ?_, ?_⟩
 ·exact ⟨by simpa using k0, (by simpa [List.drop_drop, Nat.add_assoc] using k1)⟩
 ·subst hxx
  simp only [Rows.uptoBulk, bulkAll_sum, Cod.pair]
  have hs : (List.map Rows.uptoBulk (xs.map (·.1))).sum = Rows.uptoBulk xs[0].1 + (Rows.uptoBulk xs[1].1) := by
   obtain ⟨x0, x1, rfl⟩ := list_of_len2 xs hxl
   simp
  rw [hs]
  exact Nat.le_succ_of_le (Nat.add_le_add b0 b1)
theorem list_of_len3 {α : Type} (l : List α) (h : l.length = 3) : ∃ x0 x1 x2, l = [x0, x1, x2] := by
 match l, h with
 | [x0, x1, x2], _ => exact ⟨x0, x1, x2, rfl⟩
theorem reads_struct3 {F : Nat → Prop} {P : Program} {α0 α1 α2 : Type} {t : TypeId} {f0 f1 f2 : Field} {c0 : Cod α0} {c1 : Cod α1} {c2 : Cod α2} (ht : P.underlying t = some (.struct #[f0, f1, f2])) (hz : P.cellsOf t = c0.size + c1.size + c2.size) (o0 : f0.offset = 0) (o1 : f1.offset = c0.size) (o2 : f2.offset = c0.size + c1.size) (z0 : P.cellsOf f0.type = c0.size) (z1 : P.cellsOf f1.type = c1.size) (z2 : P.cellsOf f2.type = c2.size) (r0 : ReadsF (fun m => F (m + 1)) P c0 f0.type) (r1 : ReadsF (fun m => F (m + 1)) P c1 f1.type) (r2 : ReadsF (fun m => F (m + 1)) P c2 f2.type) : ReadsF F P (c0.pair (c1.pair c2)) t := by
 intro H enc w base spare held fuel cs x hF h
 obtain ⟨xs, m, hfu, hxx, hlen, hxl, hf⟩ := DataW.trod_struct ht h
 rw [hz] at hlen
 have hxl : xs.length = 3 := hxl
 have h0 := hf 0 f0 rfl
 rw [o0, z0, List.getElem?_eq_getElem (show 0 < xs.length by omega)] at h0
 obtain ⟨a0, k0, b0⟩ := r0 (by subst hfu; exact hF) h0
 have h1 := hf 1 f1 rfl
 rw [o1, z1, List.getElem?_eq_getElem (show 1 < xs.length by omega)] at h1
 obtain ⟨a1, k1, b1⟩ := r1 (by subst hfu; exact hF) h1
 have h2 := hf 2 f2 rfl
 rw [o2, z2, List.getElem?_eq_getElem (show 2 < xs.length by omega)] at h2
 obtain ⟨a2, k2, b2⟩ := r2 (by subst hfu; exact hF) h2
 rw [take_drop_all cs (c0.size + c1.size) c2.size (by omega)] at k2
 refine ⟨(a0, (a1, a2)), ?_, ?_⟩
 ·exact ⟨by simpa using k0, ⟨by simpa [List.drop_drop, Nat.add_assoc] using k1, (by simpa [List.drop_drop, Nat.add_assoc] using k2)⟩⟩
 ·subst hxx
  simp only [Rows.uptoBulk, bulkAll_sum, Cod.pair]
  have hs : (List.map Rows.uptoBulk (xs.map (·.1))).sum = Rows.uptoBulk xs[0].1 + (Rows.uptoBulk xs[1].1 + (Rows.uptoBulk xs[2].1)) := by
   obtain ⟨x0, x1, x2, rfl⟩ := list_of_len3 xs hxl
   simp
  rw [hs]
  exact Nat.le_succ_of_le (Nat.add_le_add b0 (Nat.add_le_add b1 b2))
theorem list_of_len4 {α : Type} (l : List α) (h : l.length = 4) : ∃ x0 x1 x2 x3, l = [x0, x1, x2, x3] := by
 match l, h with
 | [x0, x1, x2, x3], _ => exact ⟨x0, x1, x2, x3, rfl⟩
theorem reads_struct4 {F : Nat → Prop} {P : Program} {α0 α1 α2 α3 : Type} {t : TypeId} {f0 f1 f2 f3 : Field} {c0 : Cod α0} {c1 : Cod α1} {c2 : Cod α2} {c3 : Cod α3} (ht : P.underlying t = some (.struct #[f0, f1, f2, f3])) (hz : P.cellsOf t = c0.size + c1.size + c2.size + c3.size) (o0 : f0.offset = 0) (o1 : f1.offset = c0.size) (o2 : f2.offset = c0.size + c1.size) (o3 : f3.offset = c0.size + c1.size + c2.size) (z0 : P.cellsOf f0.type = c0.size) (z1 : P.cellsOf f1.type = c1.size) (z2 : P.cellsOf f2.type = c2.size) (z3 : P.cellsOf f3.type = c3.size) (r0 : ReadsF (fun m => F (m + 1)) P c0 f0.type) (r1 : ReadsF (fun m => F (m + 1)) P c1 f1.type) (r2 : ReadsF (fun m => F (m + 1)) P c2 f2.type) (r3 : ReadsF (fun m => F (m + 1)) P c3 f3.type) : ReadsF F P (c0.pair (c1.pair (c2.pair c3))) t := by
 intro H enc w base spare held fuel cs x hF h
 obtain ⟨xs, m, hfu, hxx, hlen, hxl, hf⟩ := DataW.trod_struct ht h
 rw [hz] at hlen
 have hxl : xs.length = 4 := hxl
 have h0 := hf 0 f0 rfl
 rw [o0, z0, List.getElem?_eq_getElem (show 0 < xs.length by omega)] at h0
 obtain ⟨a0, k0, b0⟩ := r0 (by subst hfu; exact hF) h0
 have h1 := hf 1 f1 rfl
 rw [o1, z1, List.getElem?_eq_getElem (show 1 < xs.length by omega)] at h1
 obtain ⟨a1, k1, b1⟩ := r1 (by subst hfu; exact hF) h1
 have h2 := hf 2 f2 rfl
 rw [o2, z2, List.getElem?_eq_getElem (show 2 < xs.length by omega)] at h2
 obtain ⟨a2, k2, b2⟩ := r2 (by subst hfu; exact hF) h2
 have h3 := hf 3 f3 rfl
 rw [o3, z3, List.getElem?_eq_getElem (show 3 < xs.length by omega)] at h3
 obtain ⟨a3, k3, b3⟩ := r3 (by subst hfu; exact hF) h3
 rw [take_drop_all cs (c0.size + c1.size + c2.size) c3.size (by omega)] at k3
 refine ⟨(a0, (a1, (a2, a3))), ?_, ?_⟩
 ·exact ⟨by simpa using k0, ⟨by simpa [List.drop_drop, Nat.add_assoc] using k1, ⟨by simpa [List.drop_drop, Nat.add_assoc] using k2, (by simpa [List.drop_drop, Nat.add_assoc] using k3)⟩⟩⟩
 ·subst hxx
  simp only [Rows.uptoBulk, bulkAll_sum, Cod.pair]
  have hs : (List.map Rows.uptoBulk (xs.map (·.1))).sum = Rows.uptoBulk xs[0].1 + (Rows.uptoBulk xs[1].1 + (Rows.uptoBulk xs[2].1 + (Rows.uptoBulk xs[3].1))) := by
   obtain ⟨x0, x1, x2, x3, rfl⟩ := list_of_len4 xs hxl
   simp
  rw [hs]
  exact Nat.le_succ_of_le (Nat.add_le_add b0 (Nat.add_le_add b1 (Nat.add_le_add b2 b3)))
theorem list_of_len6 {α : Type} (l : List α) (h : l.length = 6) : ∃ x0 x1 x2 x3 x4 x5, l = [x0, x1, x2, x3, x4, x5] := by
 match l, h with
 | [x0, x1, x2, x3, x4, x5], _ => exact ⟨x0, x1, x2, x3, x4, x5, rfl⟩
theorem reads_struct6 {F : Nat → Prop} {P : Program} {α0 α1 α2 α3 α4 α5 : Type} {t : TypeId} {f0 f1 f2 f3 f4 f5 : Field} {c0 : Cod α0} {c1 : Cod α1} {c2 : Cod α2} {c3 : Cod α3} {c4 : Cod α4} {c5 : Cod α5} (ht : P.underlying t = some (.struct #[f0, f1, f2, f3, f4, f5])) (hz : P.cellsOf t = c0.size + c1.size + c2.size + c3.size + c4.size + c5.size) (o0 : f0.offset = 0) (o1 : f1.offset = c0.size) (o2 : f2.offset = c0.size + c1.size) (o3 : f3.offset = c0.size + c1.size + c2.size) (o4 : f4.offset = c0.size + c1.size + c2.size + c3.size) (o5 : f5.offset = c0.size + c1.size + c2.size + c3.size + c4.size) (z0 : P.cellsOf f0.type = c0.size) (z1 : P.cellsOf f1.type = c1.size) (z2 : P.cellsOf f2.type = c2.size) (z3 : P.cellsOf f3.type = c3.size) (z4 : P.cellsOf f4.type = c4.size) (z5 : P.cellsOf f5.type = c5.size) (r0 : ReadsF (fun m => F (m + 1)) P c0 f0.type) (r1 : ReadsF (fun m => F (m + 1)) P c1 f1.type) (r2 : ReadsF (fun m => F (m + 1)) P c2 f2.type) (r3 : ReadsF (fun m => F (m + 1)) P c3 f3.type) (r4 : ReadsF (fun m => F (m + 1)) P c4 f4.type) (r5 : ReadsF (fun m => F (m + 1)) P c5 f5.type) : ReadsF F P (c0.pair (c1.pair (c2.pair (c3.pair (c4.pair c5))))) t := by
 intro H enc w base spare held fuel cs x hF h
 obtain ⟨xs, m, hfu, hxx, hlen, hxl, hf⟩ := DataW.trod_struct ht h
 rw [hz] at hlen
 have hxl : xs.length = 6 := hxl
 have h0 := hf 0 f0 rfl
 rw [o0, z0, List.getElem?_eq_getElem (show 0 < xs.length by omega)] at h0
 obtain ⟨a0, k0, b0⟩ := r0 (by subst hfu; exact hF) h0
 have h1 := hf 1 f1 rfl
 rw [o1, z1, List.getElem?_eq_getElem (show 1 < xs.length by omega)] at h1
 obtain ⟨a1, k1, b1⟩ := r1 (by subst hfu; exact hF) h1
 have h2 := hf 2 f2 rfl
 rw [o2, z2, List.getElem?_eq_getElem (show 2 < xs.length by omega)] at h2
 obtain ⟨a2, k2, b2⟩ := r2 (by subst hfu; exact hF) h2
 have h3 := hf 3 f3 rfl
 rw [o3, z3, List.getElem?_eq_getElem (show 3 < xs.length by omega)] at h3
 obtain ⟨a3, k3, b3⟩ := r3 (by subst hfu; exact hF) h3
 have h4 := hf 4 f4 rfl
 rw [o4, z4, List.getElem?_eq_getElem (show 4 < xs.length by omega)] at h4
 obtain ⟨a4, k4, b4⟩ := r4 (by subst hfu; exact hF) h4
 have h5 := hf 5 f5 rfl
 rw [o5, z5, List.getElem?_eq_getElem (show 5 < xs.length by omega)] at h5
 obtain ⟨a5, k5, b5⟩ := r5 (by subst hfu; exact hF) h5
 rw [take_drop_all cs (c0.size + c1.size + c2.size + c3.size + c4.size) c5.size (by omega)] at k5
 refine ⟨(a0, (a1, (a2, (a3, (a4, a5))))), ?_, ?_⟩
 ·exact ⟨by simpa using k0, ⟨by simpa [List.drop_drop, Nat.add_assoc] using k1, ⟨by simpa [List.drop_drop, Nat.add_assoc] using k2, ⟨by simpa [List.drop_drop, Nat.add_assoc] using k3, ⟨by simpa [List.drop_drop, Nat.add_assoc] using k4, (by simpa [List.drop_drop, Nat.add_assoc] using k5)⟩⟩⟩⟩⟩
 ·subst hxx
  simp only [Rows.uptoBulk, bulkAll_sum, Cod.pair]
  have hs : (List.map Rows.uptoBulk (xs.map (·.1))).sum = Rows.uptoBulk xs[0].1 + (Rows.uptoBulk xs[1].1 + (Rows.uptoBulk xs[2].1 + (Rows.uptoBulk xs[3].1 + (Rows.uptoBulk xs[4].1 + (Rows.uptoBulk xs[5].1))))) := by
   obtain ⟨x0, x1, x2, x3, x4, x5, rfl⟩ := list_of_len6 xs hxl
   simp
  rw [hs]
  exact Nat.le_succ_of_le (Nat.add_le_add b0 (Nat.add_le_add b1 (Nat.add_le_add b2 (Nat.add_le_add b3 (Nat.add_le_add b4 b5)))))
theorem list_of_len7 {α : Type} (l : List α) (h : l.length = 7) : ∃ x0 x1 x2 x3 x4 x5 x6, l = [x0, x1, x2, x3, x4, x5, x6] := by
 match l, h with
 | [x0, x1, x2, x3, x4, x5, x6], _ => exact ⟨x0, x1, x2, x3, x4, x5, x6, rfl⟩
theorem reads_struct7 {F : Nat → Prop} {P : Program} {α0 α1 α2 α3 α4 α5 α6 : Type} {t : TypeId} {f0 f1 f2 f3 f4 f5 f6 : Field} {c0 : Cod α0} {c1 : Cod α1} {c2 : Cod α2} {c3 : Cod α3} {c4 : Cod α4} {c5 : Cod α5} {c6 : Cod α6} (ht : P.underlying t = some (.struct #[f0, f1, f2, f3, f4, f5, f6])) (hz : P.cellsOf t = c0.size + c1.size + c2.size + c3.size + c4.size + c5.size + c6.size) (o0 : f0.offset = 0) (o1 : f1.offset = c0.size) (o2 : f2.offset = c0.size + c1.size) (o3 : f3.offset = c0.size + c1.size + c2.size) (o4 : f4.offset = c0.size + c1.size + c2.size + c3.size) (o5 : f5.offset = c0.size + c1.size + c2.size + c3.size + c4.size) (o6 : f6.offset = c0.size + c1.size + c2.size + c3.size + c4.size + c5.size) (z0 : P.cellsOf f0.type = c0.size) (z1 : P.cellsOf f1.type = c1.size) (z2 : P.cellsOf f2.type = c2.size) (z3 : P.cellsOf f3.type = c3.size) (z4 : P.cellsOf f4.type = c4.size) (z5 : P.cellsOf f5.type = c5.size) (z6 : P.cellsOf f6.type = c6.size) (r0 : ReadsF (fun m => F (m + 1)) P c0 f0.type) (r1 : ReadsF (fun m => F (m + 1)) P c1 f1.type) (r2 : ReadsF (fun m => F (m + 1)) P c2 f2.type) (r3 : ReadsF (fun m => F (m + 1)) P c3 f3.type) (r4 : ReadsF (fun m => F (m + 1)) P c4 f4.type) (r5 : ReadsF (fun m => F (m + 1)) P c5 f5.type) (r6 : ReadsF (fun m => F (m + 1)) P c6 f6.type) : ReadsF F P (c0.pair (c1.pair (c2.pair (c3.pair (c4.pair (c5.pair c6)))))) t := by
 intro H enc w base spare held fuel cs x hF h
 obtain ⟨xs, m, hfu, hxx, hlen, hxl, hf⟩ := DataW.trod_struct ht h
 rw [hz] at hlen
 have hxl : xs.length = 7 := hxl
 have h0 := hf 0 f0 rfl
 rw [o0, z0, List.getElem?_eq_getElem (show 0 < xs.length by omega)] at h0
 obtain ⟨a0, k0, b0⟩ := r0 (by subst hfu; exact hF) h0
 have h1 := hf 1 f1 rfl
 rw [o1, z1, List.getElem?_eq_getElem (show 1 < xs.length by omega)] at h1
 obtain ⟨a1, k1, b1⟩ := r1 (by subst hfu; exact hF) h1
 have h2 := hf 2 f2 rfl
 rw [o2, z2, List.getElem?_eq_getElem (show 2 < xs.length by omega)] at h2
 obtain ⟨a2, k2, b2⟩ := r2 (by subst hfu; exact hF) h2
 have h3 := hf 3 f3 rfl
 rw [o3, z3, List.getElem?_eq_getElem (show 3 < xs.length by omega)] at h3
 obtain ⟨a3, k3, b3⟩ := r3 (by subst hfu; exact hF) h3
 have h4 := hf 4 f4 rfl
 rw [o4, z4, List.getElem?_eq_getElem (show 4 < xs.length by omega)] at h4
 obtain ⟨a4, k4, b4⟩ := r4 (by subst hfu; exact hF) h4
 have h5 := hf 5 f5 rfl
 rw [o5, z5, List.getElem?_eq_getElem (show 5 < xs.length by omega)] at h5
 obtain ⟨a5, k5, b5⟩ := r5 (by subst hfu; exact hF) h5
 have h6 := hf 6 f6 rfl
 rw [o6, z6, List.getElem?_eq_getElem (show 6 < xs.length by omega)] at h6
 obtain ⟨a6, k6, b6⟩ := r6 (by subst hfu; exact hF) h6
 rw [take_drop_all cs (c0.size + c1.size + c2.size + c3.size + c4.size + c5.size) c6.size (by omega)] at k6
 refine ⟨(a0, (a1, (a2, (a3, (a4, (a5, a6)))))), ?_, ?_⟩
 ·exact ⟨by simpa using k0, ⟨by simpa [List.drop_drop, Nat.add_assoc] using k1, ⟨by simpa [List.drop_drop, Nat.add_assoc] using k2, ⟨by simpa [List.drop_drop, Nat.add_assoc] using k3, ⟨by simpa [List.drop_drop, Nat.add_assoc] using k4, ⟨by simpa [List.drop_drop, Nat.add_assoc] using k5, (by simpa [List.drop_drop, Nat.add_assoc] using k6)⟩⟩⟩⟩⟩⟩
 ·subst hxx
  simp only [Rows.uptoBulk, bulkAll_sum, Cod.pair]
  have hs : (List.map Rows.uptoBulk (xs.map (·.1))).sum = Rows.uptoBulk xs[0].1 + (Rows.uptoBulk xs[1].1 + (Rows.uptoBulk xs[2].1 + (Rows.uptoBulk xs[3].1 + (Rows.uptoBulk xs[4].1 + (Rows.uptoBulk xs[5].1 + (Rows.uptoBulk xs[6].1)))))) := by
   obtain ⟨x0, x1, x2, x3, x4, x5, x6, rfl⟩ := list_of_len7 xs hxl
   simp
  rw [hs]
  exact Nat.le_succ_of_le (Nat.add_le_add b0 (Nat.add_le_add b1 (Nat.add_le_add b2 (Nat.add_le_add b3 (Nat.add_le_add b4 (Nat.add_le_add b5 b6))))))
theorem list_of_len10 {α : Type} (l : List α) (h : l.length = 10) : ∃ x0 x1 x2 x3 x4 x5 x6 x7 x8 x9, l = [x0, x1, x2, x3, x4, x5, x6, x7, x8, x9] := by
 match l, h with
 | [x0, x1, x2, x3, x4, x5, x6, x7, x8, x9], _ => exact ⟨x0, x1, x2, x3, x4, x5, x6, x7, x8, x9, rfl⟩
theorem reads_struct10 {F : Nat → Prop} {P : Program} {α0 α1 α2 α3 α4 α5 α6 α7 α8 α9 : Type} {t : TypeId} {f0 f1 f2 f3 f4 f5 f6 f7 f8 f9 : Field} {c0 : Cod α0} {c1 : Cod α1} {c2 : Cod α2} {c3 : Cod α3} {c4 : Cod α4} {c5 : Cod α5} {c6 : Cod α6} {c7 : Cod α7} {c8 : Cod α8} {c9 : Cod α9} (ht : P.underlying t = some (.struct #[f0, f1, f2, f3, f4, f5, f6, f7, f8, f9])) (hz : P.cellsOf t = c0.size + c1.size + c2.size + c3.size + c4.size + c5.size + c6.size + c7.size + c8.size + c9.size) (o0 : f0.offset = 0) (o1 : f1.offset = c0.size) (o2 : f2.offset = c0.size + c1.size) (o3 : f3.offset = c0.size + c1.size + c2.size) (o4 : f4.offset = c0.size + c1.size + c2.size + c3.size) (o5 : f5.offset = c0.size + c1.size + c2.size + c3.size + c4.size) (o6 : f6.offset = c0.size + c1.size + c2.size + c3.size + c4.size + c5.size) (o7 : f7.offset = c0.size + c1.size + c2.size + c3.size + c4.size + c5.size + c6.size) (o8 : f8.offset = c0.size + c1.size + c2.size + c3.size + c4.size + c5.size + c6.size + c7.size) (o9 : f9.offset = c0.size + c1.size + c2.size + c3.size + c4.size + c5.size + c6.size + c7.size + c8.size) (z0 : P.cellsOf f0.type = c0.size) (z1 : P.cellsOf f1.type = c1.size) (z2 : P.cellsOf f2.type = c2.size) (z3 : P.cellsOf f3.type = c3.size) (z4 : P.cellsOf f4.type = c4.size) (z5 : P.cellsOf f5.type = c5.size) (z6 : P.cellsOf f6.type = c6.size) (z7 : P.cellsOf f7.type = c7.size) (z8 : P.cellsOf f8.type = c8.size) (z9 : P.cellsOf f9.type = c9.size) (r0 : ReadsF (fun m => F (m + 1)) P c0 f0.type) (r1 : ReadsF (fun m => F (m + 1)) P c1 f1.type) (r2 : ReadsF (fun m => F (m + 1)) P c2 f2.type) (r3 : ReadsF (fun m => F (m + 1)) P c3 f3.type) (r4 : ReadsF (fun m => F (m + 1)) P c4 f4.type) (r5 : ReadsF (fun m => F (m + 1)) P c5 f5.type) (r6 : ReadsF (fun m => F (m + 1)) P c6 f6.type) (r7 : ReadsF (fun m => F (m + 1)) P c7 f7.type) (r8 : ReadsF (fun m => F (m + 1)) P c8 f8.type) (r9 : ReadsF (fun m => F (m + 1)) P c9 f9.type) : ReadsF F P (c0.pair (c1.pair (c2.pair (c3.pair (c4.pair (c5.pair (c6.pair (c7.pair (c8.pair c9))))))))) t := by
 intro H enc w base spare held fuel cs x hF h
 obtain ⟨xs, m, hfu, hxx, hlen, hxl, hf⟩ := DataW.trod_struct ht h
 rw [hz] at hlen
 have hxl : xs.length = 10 := hxl
 have h0 := hf 0 f0 rfl
 rw [o0, z0, List.getElem?_eq_getElem (show 0 < xs.length by omega)] at h0
 obtain ⟨a0, k0, b0⟩ := r0 (by subst hfu; exact hF) h0
 have h1 := hf 1 f1 rfl
 rw [o1, z1, List.getElem?_eq_getElem (show 1 < xs.length by omega)] at h1
 obtain ⟨a1, k1, b1⟩ := r1 (by subst hfu; exact hF) h1
 have h2 := hf 2 f2 rfl
 rw [o2, z2, List.getElem?_eq_getElem (show 2 < xs.length by omega)] at h2
 obtain ⟨a2, k2, b2⟩ := r2 (by subst hfu; exact hF) h2
 have h3 := hf 3 f3 rfl
 rw [o3, z3, List.getElem?_eq_getElem (show 3 < xs.length by omega)] at h3
 obtain ⟨a3, k3, b3⟩ := r3 (by subst hfu; exact hF) h3
 have h4 := hf 4 f4 rfl
 rw [o4, z4, List.getElem?_eq_getElem (show 4 < xs.length by omega)] at h4
 obtain ⟨a4, k4, b4⟩ := r4 (by subst hfu; exact hF) h4
 have h5 := hf 5 f5 rfl
 rw [o5, z5, List.getElem?_eq_getElem (show 5 < xs.length by omega)] at h5
 obtain ⟨a5, k5, b5⟩ := r5 (by subst hfu; exact hF) h5
 have h6 := hf 6 f6 rfl
 rw [o6, z6, List.getElem?_eq_getElem (show 6 < xs.length by omega)] at h6
 obtain ⟨a6, k6, b6⟩ := r6 (by subst hfu; exact hF) h6
 have h7 := hf 7 f7 rfl
 rw [o7, z7, List.getElem?_eq_getElem (show 7 < xs.length by omega)] at h7
 obtain ⟨a7, k7, b7⟩ := r7 (by subst hfu; exact hF) h7
 have h8 := hf 8 f8 rfl
 rw [o8, z8, List.getElem?_eq_getElem (show 8 < xs.length by omega)] at h8
 obtain ⟨a8, k8, b8⟩ := r8 (by subst hfu; exact hF) h8
 have h9 := hf 9 f9 rfl
 rw [o9, z9, List.getElem?_eq_getElem (show 9 < xs.length by omega)] at h9
 obtain ⟨a9, k9, b9⟩ := r9 (by subst hfu; exact hF) h9
 rw [take_drop_all cs (c0.size + c1.size + c2.size + c3.size + c4.size + c5.size + c6.size + c7.size + c8.size) c9.size (by omega)] at k9
 refine ⟨(a0, (a1, (a2, (a3, (a4, (a5, (a6, (a7, (a8, a9))))))))), ?_, ?_⟩
 ·exact ⟨by simpa using k0, ⟨by simpa [List.drop_drop, Nat.add_assoc] using k1, ⟨by simpa [List.drop_drop, Nat.add_assoc] using k2, ⟨by simpa [List.drop_drop, Nat.add_assoc] using k3, ⟨by simpa [List.drop_drop, Nat.add_assoc] using k4, ⟨by simpa [List.drop_drop, Nat.add_assoc] using k5, ⟨by simpa [List.drop_drop, Nat.add_assoc] using k6, ⟨by simpa [List.drop_drop, Nat.add_assoc] using k7, ⟨by simpa [List.drop_drop, Nat.add_assoc] using k8, (by simpa [List.drop_drop, Nat.add_assoc] using k9)⟩⟩⟩⟩⟩⟩⟩⟩⟩
 ·subst hxx
  simp only [Rows.uptoBulk, bulkAll_sum, Cod.pair]
  have hs : (List.map Rows.uptoBulk (xs.map (·.1))).sum = Rows.uptoBulk xs[0].1 + (Rows.uptoBulk xs[1].1 + (Rows.uptoBulk xs[2].1 + (Rows.uptoBulk xs[3].1 + (Rows.uptoBulk xs[4].1 + (Rows.uptoBulk xs[5].1 + (Rows.uptoBulk xs[6].1 + (Rows.uptoBulk xs[7].1 + (Rows.uptoBulk xs[8].1 + (Rows.uptoBulk xs[9].1))))))))) := by
   obtain ⟨x0, x1, x2, x3, x4, x5, x6, x7, x8, x9, rfl⟩ := list_of_len10 xs hxl
   simp
  rw [hs]
  exact Nat.le_succ_of_le (Nat.add_le_add b0 (Nat.add_le_add b1 (Nat.add_le_add b2 (Nat.add_le_add b3 (Nat.add_le_add b4 (Nat.add_le_add b5 (Nat.add_le_add b6 (Nat.add_le_add b7 (Nat.add_le_add b8 b9)))))))))
end Go.Proofs.YtphgchakmkankaaGreat

namespace Go.Proofs.YtphgchakmkankaaGreat
set_option linter.unusedSectionVars false
open Go.RowKit Go.Deep
set_option linter.unusedVariables false
set_option linter.unusedSimpArgs false

theorem ReadsF.imp {F : Nat → Prop} {P : Program} {α β : Type} {c : Cod α} {d : Cod β} {t : TypeId} (h : ReadsF F P c t) (k : ∀ w cs a, c.is w cs a → ∃ b, d.is w cs b ∧ d.bulk b ≤ c.bulk a) : ReadsF F P d t := by
 intro H enc w base spare held fuel cs x hF h1
 obtain ⟨a, ha, hb⟩ := h hF h1
 obtain ⟨b, h2, h3⟩ := k _ _ _ ha
 exact ⟨b, h2, Nat.le_trans h3 hb⟩
theorem cells_split {α : Type} {cs a b : List α} {n : Nat} (h1 : cs.take n = a) (h2 : cs.drop n = b) : cs = a ++ b := by rw [← h1, ← h2, List.take_append_drop]
def pointC : Cod PointD where
 size := 2
 is := fun w cs x => cs = [.int .i64 x.time, .int .i64 x.way] ∧ inI x.time ∧ inI x.way
 len := fun h => by obtain ⟨rfl, _⟩ := h; rfl
 mono := fun h _ => h
 bulk := fun x => intC.bulk x.time + (intC.bulk x.way)
theorem reads_point : Reads Tryz.prog pointC 94 :=
 (reads_struct2 (F := fun _ => True) Tryz.underlying94 (c0 := intC) (c1 := intC) (by kernel_rfl) rfl rfl (by kernel_rfl) (by kernel_rfl) (reads_int Tryz.underlying3) (reads_int Tryz.underlying3)).imp fun w cs a h => by
  obtain ⟨a0, a1⟩ := a
  obtain ⟨h0, h1⟩ := h
  obtain ⟨e0, b0⟩ := h0
  obtain ⟨e1, b1⟩ := h1
  have e100 := cells_split e0 e1
  exact ⟨⟨a0, a1⟩, ⟨by rw [e100]; rfl, b0, b1⟩, Nat.le_refl _⟩
theorem reads_points : Reads Tryz.prog (sliceC pointC) 68 := reads_slice Tryz.underlying68 (c := pointC) (by kernel_rfl) (by decide) reads_point
def curveC : Cod CurveD where
 size := 2
 is := fun w cs x => ∃ v0 : Value, cs = [.int .i64 x.kind, v0] ∧ inI x.kind ∧ (sliceC pointC).is w [v0] x.points
 len := fun h => by obtain ⟨v0, rfl, _⟩ := h; rfl
 mono := fun {w w' cs x} h g => by obtain ⟨v0, e, h0, h1⟩ := h; exact ⟨v0, e, h0, ((sliceC pointC)).mono h1 g⟩
 bulk := fun x => intC.bulk x.kind + ((sliceC pointC).bulk x.points)
theorem reads_curve : Reads Tryz.prog curveC 70 :=
 (reads_struct2 (F := fun _ => True) Tryz.underlying70 (c0 := intC) (c1 := (sliceC pointC)) (by kernel_rfl) rfl rfl (by kernel_rfl) (by kernel_rfl) (reads_int Tryz.underlying3) reads_points).imp fun w cs a h => by
  obtain ⟨a0, a1⟩ := a
  obtain ⟨h0, h1⟩ := h
  obtain ⟨e0, b0⟩ := h0
  obtain ⟨s1, e1⟩ := List.length_eq_one_iff.1 (((sliceC pointC)).len h1); rw [e1] at h1
  have e100 := cells_split e0 e1
  exact ⟨⟨a0, a1⟩, ⟨s1, by rw [e100]; rfl, b0, h1⟩, Nat.le_refl _⟩
def rangeC : Cod RangeD where
 size := 3
 is := fun w cs x => cs = [.int .i64 x.low, .int .i64 x.high, .string x.name] ∧ inI x.low ∧ inI x.high ∧ x.name.size ≤ maxLen
 len := fun h => by obtain ⟨rfl, _⟩ := h; rfl
 mono := fun h _ => h
 bulk := fun x => intC.bulk x.low + (intC.bulk x.high + (strC.bulk x.name))
theorem reads_range : Reads Tryz.prog rangeC 238 :=
 (reads_struct3 (F := fun _ => True) Tryz.underlying238 (c0 := intC) (c1 := intC) (c2 := strC) (by kernel_rfl) rfl rfl rfl (by kernel_rfl) (by kernel_rfl) (by kernel_rfl) (reads_int Tryz.underlying3) (reads_int Tryz.underlying3) (reads_str Tryz.underlying9)).imp fun w cs a h => by
  obtain ⟨a0, a1, a2⟩ := a
  obtain ⟨h0, h1, h2⟩ := h
  obtain ⟨e0, b0⟩ := h0
  obtain ⟨e1, b1⟩ := h1
  obtain ⟨e2, b2⟩ := h2
  have e101 := cells_split e1 e2
  have e100 := cells_split e0 e101
  exact ⟨⟨a0, a1, a2⟩, ⟨by rw [e100]; rfl, b0, b1, b2⟩, Nat.le_refl _⟩
theorem reads_ranges : Reads Tryz.prog (sliceC rangeC) 116 := reads_slice Tryz.underlying116 (c := rangeC) (by kernel_rfl) (by decide) reads_range
def paramC : Cod ParamD where
 size := 7
 is := fun w cs x => ∃ v0 : Value, cs = [.string x.name, .int .i64 x.group, .int .i64 x.att, .int .i64 x.fine, .int .i64 x.default, .bool x.snap, v0] ∧ x.name.size ≤ maxLen ∧ inI x.group ∧ inI x.att ∧ inI x.fine ∧ inI x.default ∧ (sliceC rangeC).is w [v0] x.ranges
 len := fun h => by obtain ⟨v0, rfl, _⟩ := h; rfl
 mono := fun {w w' cs x} h g => by obtain ⟨v0, e, h0, h1, h2, h3, h4, h5⟩ := h; exact ⟨v0, e, h0, h1, h2, h3, h4, ((sliceC rangeC)).mono h5 g⟩
 bulk := fun x => strC.bulk x.name + (intC.bulk x.group + (intC.bulk x.att + (intC.bulk x.fine + (intC.bulk x.default + (boolC.bulk x.snap + ((sliceC rangeC).bulk x.ranges))))))
theorem reads_param : Reads Tryz.prog paramC 118 :=
 (reads_struct7 (F := fun _ => True) Tryz.underlying118 (c0 := strC) (c1 := intC) (c2 := intC) (c3 := intC) (c4 := intC) (c5 := boolC) (c6 := (sliceC rangeC)) (by kernel_rfl) rfl rfl rfl rfl rfl rfl rfl (by kernel_rfl) (by kernel_rfl) (by kernel_rfl) (by kernel_rfl) (by kernel_rfl) (by kernel_rfl) (by kernel_rfl) (reads_str Tryz.underlying9) (reads_int Tryz.underlying3) (reads_int Tryz.underlying3) (reads_int Tryz.underlying3) (reads_int Tryz.underlying3) (reads_bool Tryz.underlying4) reads_ranges).imp fun w cs a h => by
  obtain ⟨a0, a1, a2, a3, a4, a5, a6⟩ := a
  obtain ⟨h0, h1, h2, h3, h4, h5, h6⟩ := h
  obtain ⟨e0, b0⟩ := h0
  obtain ⟨e1, b1⟩ := h1
  obtain ⟨e2, b2⟩ := h2
  obtain ⟨e3, b3⟩ := h3
  obtain ⟨e4, b4⟩ := h4
  have e5 := h5; simp only [boolC] at e5
  obtain ⟨s6, e6⟩ := List.length_eq_one_iff.1 (((sliceC rangeC)).len h6); rw [e6] at h6
  have e105 := cells_split e5 e6
  have e104 := cells_split e4 e105
  have e103 := cells_split e3 e104
  have e102 := cells_split e2 e103
  have e101 := cells_split e1 e102
  have e100 := cells_split e0 e101
  exact ⟨⟨a0, a1, a2, a3, a4, a5, a6⟩, ⟨s6, by rw [e100]; rfl, b0, b1, b2, b3, b4, h6⟩, Nat.le_refl _⟩
theorem reads_params : Reads Tryz.prog (sliceC paramC) 131 := reads_slice Tryz.underlying131 (c := paramC) (by kernel_rfl) (by decide) reads_param
def profileC : Cod ProfileD where
 size := 3
 is := fun w cs x => ∃ v0 : Value, cs = [.string x.name, .int .i64 x.size, v0] ∧ x.name.size ≤ maxLen ∧ inI x.size ∧ (sliceC paramC).is w [v0] x.params
 len := fun h => by obtain ⟨v0, rfl, _⟩ := h; rfl
 mono := fun {w w' cs x} h g => by obtain ⟨v0, e, h0, h1, h2⟩ := h; exact ⟨v0, e, h0, h1, ((sliceC paramC)).mono h2 g⟩
 bulk := fun x => strC.bulk x.name + (intC.bulk x.size + ((sliceC paramC).bulk x.params))
theorem reads_profile : Reads Tryz.prog profileC 133 :=
 (reads_struct3 (F := fun _ => True) Tryz.underlying133 (c0 := strC) (c1 := intC) (c2 := (sliceC paramC)) (by kernel_rfl) rfl rfl rfl (by kernel_rfl) (by kernel_rfl) (by kernel_rfl) (reads_str Tryz.underlying9) (reads_int Tryz.underlying3) reads_params).imp fun w cs a h => by
  obtain ⟨a0, a1, a2⟩ := a
  obtain ⟨h0, h1, h2⟩ := h
  obtain ⟨e0, b0⟩ := h0
  obtain ⟨e1, b1⟩ := h1
  obtain ⟨s2, e2⟩ := List.length_eq_one_iff.1 (((sliceC paramC)).len h2); rw [e2] at h2
  have e101 := cells_split e1 e2
  have e100 := cells_split e0 e101
  exact ⟨⟨a0, a1, a2⟩, ⟨s2, by rw [e100]; rfl, b0, b1, h2⟩, Nat.le_refl _⟩
theorem reads_profiles : Reads Tryz.prog (sliceC profileC) 22 := reads_slice Tryz.underlying22 (c := profileC) (by kernel_rfl) (by decide) reads_profile
def unitC : Cod UnitD where
 size := 4
 is := fun w cs x => cs = [.int .i64 x.number, .string x.profile, .int .i64 x.univ, .int .i64 x.address] ∧ inI x.number ∧ x.profile.size ≤ maxLen ∧ inI x.univ ∧ inI x.address
 len := fun h => by obtain ⟨rfl, _⟩ := h; rfl
 mono := fun h _ => h
 bulk := fun x => intC.bulk x.number + (strC.bulk x.profile + (intC.bulk x.univ + (intC.bulk x.address)))
theorem reads_unit : Reads Tryz.prog unitC 129 :=
 (reads_struct4 (F := fun _ => True) Tryz.underlying129 (c0 := intC) (c1 := strC) (c2 := intC) (c3 := intC) (by kernel_rfl) rfl rfl rfl rfl (by kernel_rfl) (by kernel_rfl) (by kernel_rfl) (by kernel_rfl) (reads_int Tryz.underlying3) (reads_str Tryz.underlying9) (reads_int Tryz.underlying3) (reads_int Tryz.underlying3)).imp fun w cs a h => by
  obtain ⟨a0, a1, a2, a3⟩ := a
  obtain ⟨h0, h1, h2, h3⟩ := h
  obtain ⟨e0, b0⟩ := h0
  obtain ⟨e1, b1⟩ := h1
  obtain ⟨e2, b2⟩ := h2
  obtain ⟨e3, b3⟩ := h3
  have e102 := cells_split e2 e3
  have e101 := cells_split e1 e102
  have e100 := cells_split e0 e101
  exact ⟨⟨a0, a1, a2, a3⟩, ⟨by rw [e100]; rfl, b0, b1, b2, b3⟩, Nat.le_refl _⟩
theorem reads_units : Reads Tryz.prog (sliceC unitC) 23 := reads_slice Tryz.underlying23 (c := unitC) (by kernel_rfl) (by decide) reads_unit
def rigC : Cod RigD where
 size := 2
 is := fun w cs x => ∃ v0 v1 : Value, cs = [v0, v1] ∧ (sliceC profileC).is w [v0] x.library ∧ (sliceC unitC).is w [v1] x.units
 len := fun h => by obtain ⟨v0, v1, rfl, _⟩ := h; rfl
 mono := fun {w w' cs x} h g => by obtain ⟨v0, v1, e, h0, h1⟩ := h; exact ⟨v0, v1, e, ((sliceC profileC)).mono h0 g, ((sliceC unitC)).mono h1 g⟩
 bulk := fun x => (sliceC profileC).bulk x.library + ((sliceC unitC).bulk x.units)
theorem reads_rig : Reads Tryz.prog rigC 25 :=
 (reads_struct2 (F := fun _ => True) Tryz.underlying25 (c0 := (sliceC profileC)) (c1 := (sliceC unitC)) (by kernel_rfl) rfl rfl (by kernel_rfl) (by kernel_rfl) reads_profiles reads_units).imp fun w cs a h => by
  obtain ⟨a0, a1⟩ := a
  obtain ⟨h0, h1⟩ := h
  obtain ⟨s0, e0⟩ := List.length_eq_one_iff.1 (((sliceC profileC)).len h0); rw [e0] at h0
  obtain ⟨s1, e1⟩ := List.length_eq_one_iff.1 (((sliceC unitC)).len h1); rw [e1] at h1
  have e100 := cells_split e0 e1
  exact ⟨⟨a0, a1⟩, ⟨s0, s1, by rw [e100]; rfl, h0, h1⟩, Nat.le_refl _⟩
def keyC : Cod KeyD where
 size := 2
 is := fun w cs x => cs = [.int .i64 x.unit, .string x.param] ∧ inI x.unit ∧ x.param.size ≤ maxLen
 len := fun h => by obtain ⟨rfl, _⟩ := h; rfl
 mono := fun h _ => h
 bulk := fun x => intC.bulk x.unit + (strC.bulk x.param)
theorem reads_key : Reads Tryz.prog keyC 47 :=
 (reads_struct2 (F := fun _ => True) Tryz.underlying47 (c0 := intC) (c1 := strC) (by kernel_rfl) rfl rfl (by kernel_rfl) (by kernel_rfl) (reads_int Tryz.underlying3) (reads_str Tryz.underlying9)).imp fun w cs a h => by
  obtain ⟨a0, a1⟩ := a
  obtain ⟨h0, h1⟩ := h
  obtain ⟨e0, b0⟩ := h0
  obtain ⟨e1, b1⟩ := h1
  have e100 := cells_split e0 e1
  exact ⟨⟨a0, a1⟩, ⟨by rw [e100]; rfl, b0, b1⟩, Nat.le_refl _⟩
def settingC : Cod SettingD where
 size := 3
 is := fun w cs x => cs = [.int .i64 x.key.unit, .string x.key.param, .int .i64 x.level] ∧ inI x.key.unit ∧ x.key.param.size ≤ maxLen ∧ inI x.level
 len := fun h => by obtain ⟨rfl, _⟩ := h; rfl
 mono := fun h _ => h
 bulk := fun x => keyC.bulk x.key + (intC.bulk x.level)
theorem reads_setting : Reads Tryz.prog settingC 57 :=
 (reads_struct2 (F := fun _ => True) Tryz.underlying57 (c0 := keyC) (c1 := intC) (by kernel_rfl) rfl rfl (by kernel_rfl) (by kernel_rfl) reads_key (reads_int Tryz.underlying3)).imp fun w cs a h => by
  obtain ⟨a0, a1⟩ := a
  obtain ⟨h0, h1⟩ := h
  obtain ⟨e0, b0⟩ := h0
  obtain ⟨b0_0, b0_1⟩ := b0
  obtain ⟨e1, b1⟩ := h1
  have e100 := cells_split e0 e1
  exact ⟨⟨a0, a1⟩, ⟨by rw [e100]; rfl, b0_0, b0_1, b1⟩, Nat.le_refl _⟩
theorem reads_settings : Reads Tryz.prog (sliceC settingC) 52 := reads_slice Tryz.underlying52 (c := settingC) (by kernel_rfl) (by decide) reads_setting
def presetC : Cod PresetD where
 size := 3
 is := fun w cs x => ∃ v0 : Value, cs = [.int .i64 x.number, .string x.title, v0] ∧ inI x.number ∧ x.title.size ≤ maxLen ∧ (sliceC settingC).is w [v0] x.settings
 len := fun h => by obtain ⟨v0, rfl, _⟩ := h; rfl
 mono := fun {w w' cs x} h g => by obtain ⟨v0, e, h0, h1, h2⟩ := h; exact ⟨v0, e, h0, h1, ((sliceC settingC)).mono h2 g⟩
 bulk := fun x => intC.bulk x.number + (strC.bulk x.title + ((sliceC settingC).bulk x.settings))
theorem reads_preset : Reads Tryz.prog presetC 171 :=
 (reads_struct3 (F := fun _ => True) Tryz.underlying171 (c0 := intC) (c1 := strC) (c2 := (sliceC settingC)) (by kernel_rfl) rfl rfl rfl (by kernel_rfl) (by kernel_rfl) (by kernel_rfl) (reads_int Tryz.underlying3) (reads_str Tryz.underlying9) reads_settings).imp fun w cs a h => by
  obtain ⟨a0, a1, a2⟩ := a
  obtain ⟨h0, h1, h2⟩ := h
  obtain ⟨e0, b0⟩ := h0
  obtain ⟨e1, b1⟩ := h1
  obtain ⟨s2, e2⟩ := List.length_eq_one_iff.1 (((sliceC settingC)).len h2); rw [e2] at h2
  have e101 := cells_split e1 e2
  have e100 := cells_split e0 e101
  exact ⟨⟨a0, a1, a2⟩, ⟨s2, by rw [e100]; rfl, b0, b1, h2⟩, Nat.le_refl _⟩
theorem reads_presets : Reads Tryz.prog (sliceC presetC) 26 := reads_slice Tryz.underlying26 (c := presetC) (by kernel_rfl) (by decide) reads_preset
def valueC : Cod ValueD where
 size := 2
 is := fun w cs x => cs = [.int .i64 x.level, .int .i64 x.preset] ∧ inI x.level ∧ inI x.preset
 len := fun h => by obtain ⟨rfl, _⟩ := h; rfl
 mono := fun h _ => h
 bulk := fun x => intC.bulk x.level + (intC.bulk x.preset)
theorem reads_value : Reads Tryz.prog valueC 49 :=
 (reads_struct2 (F := fun _ => True) Tryz.underlying49 (c0 := intC) (c1 := intC) (by kernel_rfl) rfl rfl (by kernel_rfl) (by kernel_rfl) (reads_int Tryz.underlying3) (reads_int Tryz.underlying3)).imp fun w cs a h => by
  obtain ⟨a0, a1⟩ := a
  obtain ⟨h0, h1⟩ := h
  obtain ⟨e0, b0⟩ := h0
  obtain ⟨e1, b1⟩ := h1
  have e100 := cells_split e0 e1
  exact ⟨⟨a0, a1⟩, ⟨by rw [e100]; rfl, b0, b1⟩, Nat.le_refl _⟩
def moveC : Cod MoveD where
 size := 8
 is := fun w cs x => cs = [.int .i64 x.key.unit, .string x.key.param, .int .i64 x.value.level, .int .i64 x.value.preset, .bool x.release, .bool x.timed, .int .i64 x.delay, .int .i64 x.time] ∧ inI x.key.unit ∧ x.key.param.size ≤ maxLen ∧ inI x.value.level ∧ inI x.value.preset ∧ inI x.delay ∧ inI x.time
 len := fun h => by obtain ⟨rfl, _⟩ := h; rfl
 mono := fun h _ => h
 bulk := fun x => keyC.bulk x.key + (valueC.bulk x.value + (boolC.bulk x.release + (boolC.bulk x.timed + (intC.bulk x.delay + (intC.bulk x.time)))))
theorem reads_move : Reads Tryz.prog moveC 74 :=
 (reads_struct6 (F := fun _ => True) Tryz.underlying74 (c0 := keyC) (c1 := valueC) (c2 := boolC) (c3 := boolC) (c4 := intC) (c5 := intC) (by kernel_rfl) rfl rfl rfl rfl rfl rfl (by kernel_rfl) (by kernel_rfl) (by kernel_rfl) (by kernel_rfl) (by kernel_rfl) (by kernel_rfl) reads_key reads_value (reads_bool Tryz.underlying4) (reads_bool Tryz.underlying4) (reads_int Tryz.underlying3) (reads_int Tryz.underlying3)).imp fun w cs a h => by
  obtain ⟨a0, a1, a2, a3, a4, a5⟩ := a
  obtain ⟨h0, h1, h2, h3, h4, h5⟩ := h
  obtain ⟨e0, b0⟩ := h0
  obtain ⟨b0_0, b0_1⟩ := b0
  obtain ⟨e1, b1⟩ := h1
  obtain ⟨b1_0, b1_1⟩ := b1
  have e2 := h2; simp only [boolC] at e2
  have e3 := h3; simp only [boolC] at e3
  obtain ⟨e4, b4⟩ := h4
  obtain ⟨e5, b5⟩ := h5
  have e104 := cells_split e4 e5
  have e103 := cells_split e3 e104
  have e102 := cells_split e2 e103
  have e101 := cells_split e1 e102
  have e100 := cells_split e0 e101
  exact ⟨⟨a0, a1, a2, a3, a4, a5⟩, ⟨by rw [e100]; rfl, b0_0, b0_1, b1_0, b1_1, b4, b5⟩, Nat.le_refl _⟩
theorem reads_moves : Reads Tryz.prog (sliceC moveC) 66 := reads_slice Tryz.underlying66 (c := moveC) (by kernel_rfl) (by decide) reads_move
def cueC : Cod CueD where
 size := 11
 is := fun w cs x => ∃ v0 v1 : Value, cs = [.int .i64 x.number, .string x.title, .int .i64 x.delay, .int .i64 x.up, .int .i64 x.down, .int .i64 x.other, .int .i64 x.curve.kind, v0, .bool x.block, .int .i64 x.follow, v1] ∧ inI x.number ∧ x.title.size ≤ maxLen ∧ inI x.delay ∧ inI x.up ∧ inI x.down ∧ inI x.other ∧ inI x.curve.kind ∧ (sliceC pointC).is w [v0] x.curve.points ∧ inI x.follow ∧ (sliceC moveC).is w [v1] x.moves
 len := fun h => by obtain ⟨v0, v1, rfl, _⟩ := h; rfl
 mono := fun {w w' cs x} h g => by obtain ⟨v0, v1, e, h0, h1, h2, h3, h4, h5, h6, h7, h8, h9⟩ := h; exact ⟨v0, v1, e, h0, h1, h2, h3, h4, h5, h6, ((sliceC pointC)).mono h7 g, h8, ((sliceC moveC)).mono h9 g⟩
 bulk := fun x => intC.bulk x.number + (strC.bulk x.title + (intC.bulk x.delay + (intC.bulk x.up + (intC.bulk x.down + (intC.bulk x.other + (curveC.bulk x.curve + (boolC.bulk x.block + (intC.bulk x.follow + ((sliceC moveC).bulk x.moves)))))))))
theorem reads_cue : Reads Tryz.prog cueC 72 :=
 (reads_struct10 (F := fun _ => True) Tryz.underlying72 (c0 := intC) (c1 := strC) (c2 := intC) (c3 := intC) (c4 := intC) (c5 := intC) (c6 := curveC) (c7 := boolC) (c8 := intC) (c9 := (sliceC moveC)) (by kernel_rfl) rfl rfl rfl rfl rfl rfl rfl rfl rfl rfl (by kernel_rfl) (by kernel_rfl) (by kernel_rfl) (by kernel_rfl) (by kernel_rfl) (by kernel_rfl) (by kernel_rfl) (by kernel_rfl) (by kernel_rfl) (by kernel_rfl) (reads_int Tryz.underlying3) (reads_str Tryz.underlying9) (reads_int Tryz.underlying3) (reads_int Tryz.underlying3) (reads_int Tryz.underlying3) (reads_int Tryz.underlying3) reads_curve (reads_bool Tryz.underlying4) (reads_int Tryz.underlying3) reads_moves).imp fun w cs a h => by
  obtain ⟨a0, a1, a2, a3, a4, a5, a6, a7, a8, a9⟩ := a
  obtain ⟨h0, h1, h2, h3, h4, h5, h6, h7, h8, h9⟩ := h
  obtain ⟨e0, b0⟩ := h0
  obtain ⟨e1, b1⟩ := h1
  obtain ⟨e2, b2⟩ := h2
  obtain ⟨e3, b3⟩ := h3
  obtain ⟨e4, b4⟩ := h4
  obtain ⟨e5, b5⟩ := h5
  obtain ⟨s6_0, e6, b6⟩ := h6
  obtain ⟨b6_0, b6_1⟩ := b6
  have e7 := h7; simp only [boolC] at e7
  obtain ⟨e8, b8⟩ := h8
  obtain ⟨s9, e9⟩ := List.length_eq_one_iff.1 (((sliceC moveC)).len h9); rw [e9] at h9
  have e108 := cells_split e8 e9
  have e107 := cells_split e7 e108
  have e106 := cells_split e6 e107
  have e105 := cells_split e5 e106
  have e104 := cells_split e4 e105
  have e103 := cells_split e3 e104
  have e102 := cells_split e2 e103
  have e101 := cells_split e1 e102
  have e100 := cells_split e0 e101
  exact ⟨⟨a0, a1, a2, a3, a4, a5, a6, a7, a8, a9⟩, ⟨s6_0, s9, by rw [e100]; rfl, b0, b1, b2, b3, b4, b5, b6_0, b6_1, b8, h9⟩, Nat.le_refl _⟩
theorem reads_cues : Reads Tryz.prog (sliceC cueC) 27 := reads_slice Tryz.underlying27 (c := cueC) (by kernel_rfl) (by decide) reads_cue
end Go.Proofs.YtphgchakmkankaaGreat

namespace Go.Proofs.YtphgchakmkankaaGreat
set_option linter.unusedSectionVars false
open Go.RowKit Go.Deep
set_option linter.unusedVariables false
set_option linter.unusedSimpArgs false
section
variable {c : RC}
theorem repL_nil : RepL c [] [] := by simp [RepL]
theorem repL_cons {a : AV} {v : Value} {l : List AV} {vs : List Value} (h : Rep c a v) (k : RepL c l vs) : RepL c (a :: l) (v :: vs) := by
 simp only [RepL]; exact ⟨v, vs, rfl, h, k⟩
theorem rep_int (k : IntKind) (n : Int) : Rep c (.int k n) (.int k n) := by simp [Rep]
theorem rep_bool (b : Bool) : Rep c (.bool b) (.bool b) := by simp [Rep]
theorem rep_str (s : ByteArray) : Rep c (.str s) (.string s) := by simp [Rep]
def RP {α : Type} (c : RC) (d : Cod α) (e : α → List AV) (ok : α → Prop) : Prop := ∀ cs x, d.is c.w cs x → RepL c (e x) cs ∧ ok x ∧ (∀ v ∈ cs, one1 v = true)
theorem repL_len : ∀ {l : List AV} {vs : List Value}, RepL c l vs → l.length = vs.length
 | [], vs, h => by simp only [RepL] at h; subst h; rfl
 | a :: l, vs, h => by
  simp only [RepL] at h
  obtain ⟨v, vs', rfl, _, h⟩ := h
  simp [repL_len h]
theorem repCs_of {b : Nat} : ∀ {l : List AV} {vs : List Value} {off : Nat}, RepL c l vs → (∀ v ∈ vs, one1 v = true) → (∀ j, j < vs.length → c.w.cell? ⟨b, off + j, none⟩ = vs[j]?) → RepCs c b off l
 | [], vs, off, h, _, _ => by simp [RepCs]
 | a :: l, vs, off, h, ho, hc => by
  simp only [RepL] at h
  obtain ⟨v, vs', rfl, h1, h2⟩ := h
  simp only [RepCs]
  refine ⟨⟨v, by simpa using hc 0 (by simp), ho v (by simp), h1⟩, repCs_of h2 (fun v hv => ho v (by simp [hv])) fun j hj => ?_⟩
  have := hc (j + 1) (by simpa using hj)
  rw [show off + 1 + j = off + (j + 1) by omega]
  simpa using this
theorem repEs_of {α : Type} {d : Cod α} {e : α → List AV} {ok : α → Prop} (H : RP c d e ok) {b sz : Nat} (hsz : d.size = sz) : ∀ {l : List α} {off : Nat}, (∀ (i : Nat) (x : α), l[i]? = some x → ∃ cs', (∀ j, j < d.size → c.w.cell? ⟨b, off + (i * d.size + j), none⟩ = cs'[j]?) ∧ d.is c.w cs' x) → RepEs c sz b off (l.map e) ∧ ∀ x ∈ l, ok x
 | [], off, h => by simp [RepEs]
 | x :: l, off, h => by
  obtain ⟨cs, h1, h2⟩ := h 0 x rfl
  obtain ⟨k1, k2, k3⟩ := H cs x h2
  have hl : cs.length = d.size := d.len h2
  obtain ⟨r1, r2⟩ := repEs_of H hsz (l := l) (off := off + sz) (fun i y hy => by
   obtain ⟨cs', q1, q2⟩ := h (i + 1) y (by simpa using hy)
   refine ⟨cs', fun j hj => ?_, q2⟩
   have := q1 j hj
   rw [← hsz]
   rwa [show off + d.size + (i * d.size + j) = off + ((i + 1) * d.size + j) by rw [Nat.succ_mul]; omega])
  refine ⟨?_, fun y hy => ?_⟩
  ·simp only [List.map_cons, RepEs]
   refine ⟨by rw [repL_len k1, hl, hsz], repCs_of k1 k3 fun j hj => ?_, r1⟩
   have := h1 j (by rw [← hl]; exact hj)
   simpa using this
  ·rcases List.mem_cons.1 hy with rfl | hy
   ·exact k2
   ·exact r2 y hy
theorem cell_in {w : World} {b off : Nat} {v : Value} (h : w.cell? ⟨b, off, none⟩ = some v) : b < w.heap.size := by
 rcases Nat.lt_or_ge b w.heap.size with k | k
 ·exact k
 ·simp [World.cell?, Array.getElem?_eq_none k] at h
theorem rp_slice {α : Type} {d : Cod α} {e : α → List AV} {ok : α → Prop} (hX : ∀ b, ¬ c.X b) (H : RP c d e ok) {sz : Nat} (hsz : d.size = sz) (h0 : 0 < sz) {v : Value} {l : List α} (h : (sliceC d).is c.w [v] l) : Rep c (sl sz e l) v ∧ okL ok l ∧ one1 v = true := by
 rcases h with ⟨h1, rfl⟩ | ⟨b, off, sp, cap, h1, h2, h3, h4⟩
 ·simp only [List.cons.injEq, and_true] at h1
  subst h1
  exact ⟨by simp [sl, Rep, h0], ⟨by simp, by simp⟩, rfl⟩
 ·simp only [List.cons.injEq, and_true] at h1
  subst h1
  have hes : sp = none ∨ l = [] := by
   cases l with
   | nil => exact .inr rfl
   | cons x l => exact .inl (h4 0 (by simp)).1
  have hh : ∀ (i : Nat) (x : α), l[i]? = some x → ∃ cs', (∀ j, j < d.size → c.w.cell? ⟨b, off + (i * d.size + j), none⟩ = cs'[j]?) ∧ d.is c.w cs' x := by
   intro i x hx
   obtain ⟨hi, hx⟩ := List.getElem?_eq_some_iff.1 hx
   subst hx
   exact (h4 i hi).2
  obtain ⟨r1, r2⟩ := repEs_of H hsz hh
  refine ⟨?_, ⟨by unfold maxLen at h3; unfold mxl; omega, r2⟩, rfl⟩
  simp only [sl, Rep]
  refine ⟨some ⟨b, off, sp⟩, cap, by simp, by simpa using h2, h0, ?_⟩
  rcases hes with rfl | rfl
  ·cases l with
   | nil => exact .inl rfl
   | cons x l =>
    refine .inr ⟨b, off, rfl, ?_, hX b, r1⟩
    obtain ⟨cs, q1, q2⟩ := hh 0 x rfl
    have hl : cs.length = d.size := d.len q2
    have := q1 0 (by omega)
    obtain ⟨y, hy⟩ : ∃ y, cs[0]? = some y := ⟨cs[0], List.getElem?_eq_getElem (by omega)⟩
    rw [hy] at this
    exact cell_in this
  ·exact .inl rfl
theorem one_nil : ∀ v ∈ ([] : List Value), one1 v = true := by simp
theorem one_cons {v : Value} {vs : List Value} (h : one1 v = true) (k : ∀ x ∈ vs, one1 x = true) : ∀ x ∈ v :: vs, one1 x = true := by
 intro x hx
 rcases List.mem_cons.1 hx with rfl | hx
 ·exact h
 ·exact k x hx
theorem rp_Point : RP c pointC cPoint okPoint := by
 rintro cs x ⟨rfl, h0, h1⟩
 exact ⟨(repL_cons (rep_int _ _) (repL_cons (rep_int _ _) repL_nil)), ⟨h0, h1⟩, (one_cons rfl (one_cons rfl one_nil))⟩
theorem rp_Range : RP c rangeC cRange okRange := by
 rintro cs x ⟨rfl, h0, h1, h2⟩
 exact ⟨(repL_cons (rep_int _ _) (repL_cons (rep_int _ _) (repL_cons (rep_str _) repL_nil))), ⟨h0, h1, (show okS _ by unfold okS mxl; have := h2; unfold maxLen at this; omega)⟩, (one_cons rfl (one_cons rfl (one_cons rfl one_nil)))⟩
theorem rp_Param (hX : ∀ b, ¬ c.X b) : RP c paramC cParam okParam := by
 rintro cs x ⟨v0, rfl, h0, h1, h2, h3, h4, h6⟩
 obtain ⟨r6, o6, n6⟩ := rp_slice hX rp_Range (sz := 3) rfl (by decide) h6
 exact ⟨(repL_cons (rep_str _) (repL_cons (rep_int _ _) (repL_cons (rep_int _ _) (repL_cons (rep_int _ _) (repL_cons (rep_int _ _) (repL_cons (rep_bool _) (repL_cons r6 repL_nil))))))), ⟨(show okS _ by unfold okS mxl; have := h0; unfold maxLen at this; omega), h1, h2, h3, h4, o6⟩, (one_cons rfl (one_cons rfl (one_cons rfl (one_cons rfl (one_cons rfl (one_cons rfl (one_cons n6 one_nil)))))))⟩
theorem rp_Profile (hX : ∀ b, ¬ c.X b) : RP c profileC cProfile okProfile := by
 rintro cs x ⟨v0, rfl, h0, h1, h2⟩
 obtain ⟨r2, o2, n2⟩ := rp_slice hX (rp_Param hX) (sz := 7) rfl (by decide) h2
 exact ⟨(repL_cons (rep_str _) (repL_cons (rep_int _ _) (repL_cons r2 repL_nil))), ⟨(show okS _ by unfold okS mxl; have := h0; unfold maxLen at this; omega), h1, o2⟩, (one_cons rfl (one_cons rfl (one_cons n2 one_nil)))⟩
theorem rp_Unit : RP c unitC cUnit okUnit := by
 rintro cs x ⟨rfl, h0, h1, h2, h3⟩
 exact ⟨(repL_cons (rep_int _ _) (repL_cons (rep_str _) (repL_cons (rep_int _ _) (repL_cons (rep_int _ _) repL_nil)))), ⟨h0, (show okS _ by unfold okS mxl; have := h1; unfold maxLen at this; omega), h2, h3⟩, (one_cons rfl (one_cons rfl (one_cons rfl (one_cons rfl one_nil))))⟩
theorem rp_Rig (hX : ∀ b, ¬ c.X b) : RP c rigC cRig okRig := by
 rintro cs x ⟨v0, v1, rfl, h0, h1⟩
 obtain ⟨r0, o0, n0⟩ := rp_slice hX (rp_Profile hX) (sz := 3) rfl (by decide) h0
 obtain ⟨r1, o1, n1⟩ := rp_slice hX rp_Unit (sz := 4) rfl (by decide) h1
 exact ⟨(repL_cons r0 (repL_cons r1 repL_nil)), ⟨o0, o1⟩, (one_cons n0 (one_cons n1 one_nil))⟩
theorem rp_Setting : RP c settingC cSetting okSetting := by
 rintro cs x ⟨rfl, h0, h1, h2⟩
 exact ⟨(repL_cons (rep_int _ _) (repL_cons (rep_str _) (repL_cons (rep_int _ _) repL_nil))), ⟨⟨h0, (show okS _ by unfold okS mxl; have := h1; unfold maxLen at this; omega)⟩, h2⟩, (one_cons rfl (one_cons rfl (one_cons rfl one_nil)))⟩
theorem rp_Preset (hX : ∀ b, ¬ c.X b) : RP c presetC cPreset okPreset := by
 rintro cs x ⟨v0, rfl, h0, h1, h2⟩
 obtain ⟨r2, o2, n2⟩ := rp_slice hX rp_Setting (sz := 3) rfl (by decide) h2
 exact ⟨(repL_cons (rep_int _ _) (repL_cons (rep_str _) (repL_cons r2 repL_nil))), ⟨h0, (show okS _ by unfold okS mxl; have := h1; unfold maxLen at this; omega), o2⟩, (one_cons rfl (one_cons rfl (one_cons n2 one_nil)))⟩
theorem rp_Move : RP c moveC cMove okMove := by
 rintro cs x ⟨rfl, h0, h1, h2, h3, h6, h7⟩
 exact ⟨(repL_cons (rep_int _ _) (repL_cons (rep_str _) (repL_cons (rep_int _ _) (repL_cons (rep_int _ _) (repL_cons (rep_bool _) (repL_cons (rep_bool _) (repL_cons (rep_int _ _) (repL_cons (rep_int _ _) repL_nil)))))))), ⟨⟨h0, (show okS _ by unfold okS mxl; have := h1; unfold maxLen at this; omega)⟩, ⟨h2, h3⟩, h6, h7⟩, (one_cons rfl (one_cons rfl (one_cons rfl (one_cons rfl (one_cons rfl (one_cons rfl (one_cons rfl (one_cons rfl one_nil))))))))⟩
theorem rp_Cue (hX : ∀ b, ¬ c.X b) : RP c cueC cCue okCue := by
 rintro cs x ⟨v0, v1, rfl, h0, h1, h2, h3, h4, h5, h6, h7, h9, h10⟩
 obtain ⟨r7, o7, n7⟩ := rp_slice hX rp_Point (sz := 2) rfl (by decide) h7
 obtain ⟨r10, o10, n10⟩ := rp_slice hX rp_Move (sz := 8) rfl (by decide) h10
 exact ⟨(repL_cons (rep_int _ _) (repL_cons (rep_str _) (repL_cons (rep_int _ _) (repL_cons (rep_int _ _) (repL_cons (rep_int _ _) (repL_cons (rep_int _ _) (repL_cons (rep_int _ _) (repL_cons r7 (repL_cons (rep_bool _) (repL_cons (rep_int _ _) (repL_cons r10 repL_nil))))))))))), ⟨h0, (show okS _ by unfold okS mxl; have := h1; unfold maxLen at this; omega), h2, h3, h4, h5, ⟨h6, o7⟩, h9, o10⟩, (one_cons rfl (one_cons rfl (one_cons rfl (one_cons rfl (one_cons rfl (one_cons rfl (one_cons rfl (one_cons n7 (one_cons rfl (one_cons rfl (one_cons n10 one_nil)))))))))))⟩
theorem rp_agg {α : Type} {d : Cod α} {e : α → List AV} {ok : α → Prop} (H : RP c d e ok) {cs : Array Value} {x : α} (h : d.is c.w cs.toList x) : Rep c (.agg (e x)) (.agg cs) ∧ ok x := by
 obtain ⟨h1, h2, h3⟩ := H _ _ h
 simp only [Rep]
 exact ⟨⟨cs, rfl, h1, h3⟩, h2⟩
end
end Go.Proofs.YtphgchakmkankaaGreat

namespace Go.Proofs.YtphgchakmkankaaGreat
set_option linter.unusedSectionVars false
set_option linter.unusedSimpArgs false
set_option linter.unusedVariables false
open Go.RowKit
noncomputable def base (W : World) : RC := ctx ⟨W, [], fun _ => False, nmT⟩ W [] nopb
theorem base_X (W : World) : ∀ b, ¬ (base W).X b := by
 rintro b (k | ⟨p, hp, _⟩ | ⟨i, k⟩)
 ·exact k
 ·cases hp
 ·cases k
theorem law_run {n : FuncId} {m : List AV → Heap → Option (AV × Heap)} {avs : List AV} (hs : Sound Tryz.prog nmT n m) (hc : ∀ us w, (callFunc n us).run Tryz.prog w = .ok (.enter n us) w) (W : World) (vs : Array Value) (hr : RepL (base W) avs vs.toList) (hm : m avs [] = some (.bool true, [])) :
  Calls Tryz.prog n vs W fun e W' => e = .returned (.bool true) ∧ Below W.heap.size W W' := by
 have hh0 : HeapRel (ctx ⟨W, [], fun _ => False, nmT⟩ W [] nopb) [] := by
  refine ⟨rfl, fun i j p q hp => ?_, fun i p x hp => ?_⟩
  ·simp [ctx] at hp
  ·simp [ctx] at hp
 rcases hs _ _ _ _ hm with ⟨g, h1, h2⟩ | hv
 case inr =>
  obtain ⟨v, w', E', k1, _⟩ := hv ⟨W, [], fun _ => False, nmT⟩ vs rfl (fun b k => k.elim) hh0 hr
  rw [hc] at k1
  injection k1 with k1
  cases k1
 have hg : g = n := by
  have e1 := h1 #[] W
  rw [hc #[] W] at e1
  injection e1 with e1
  injection e1 with e1
  exact e1.symm
 subst hg
 have hh : HeapRel (ctx ⟨W, [], fun _ => False, nmT⟩ W [] nopb) [] := by
  refine ⟨rfl, fun i j p q hp => ?_, fun i p x hp => ?_⟩
  ·simp [ctx] at hp
  ·simp [ctx] at hp
 refine (h2 ⟨W, [], fun _ => False, nmT⟩ vs rfl (fun b k => k.elim) hh hr).mono ?_
 rintro e w' ⟨v, E', rfl, ho, _, hv⟩
 simp only [Rep] at hv
 subst hv
 exact ⟨rfl, ho.os, ho.tape, ho.output, ho.size, fun k hk => ho.stay k hk (fun p hp => by cases hp)⟩
end Go.Proofs.YtphgchakmkankaaGreat

