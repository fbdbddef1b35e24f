/- Parts of the proof of StampDueIsCut, in order. -/
import Derived.Orders
import Derived.Below
import Derived.WalkKit
import Derived.Laws.StructEq
import Derived.Laws.Append
import Derived.Laws.AppendOwn
import Derived.Test.YtohbeolimnpehaaRows
import Derived.KernelRfl
import Derived.Lib.Bytealg
import Derived.Sort.Defs
import Derived.Lib.BitFns
import Derived.Test.YtohbeolimnpehaaShelf
import Derived.IntWalk
import Derived.Lib.Strings
import Derived.Test.YtohbeolimnpehaaKStampDueIsCut3
namespace Go.Proofs.Ytohbeolimnpehaa
set_option linter.unusedSectionVars false
set_option linter.unusedVariables false
set_option linter.unusedSimpArgs false
inductive Ct where
 | s (sz : Nat) (es : List (List AV))
 | m (es : List (AV × AV))
 | b (cs : List AV)
def idOf : AV → Option Nat
 | .os id _ _ _ _ => some id
 | .om id => some id
 | .op id _ => some id
 | _ => none
def Own (n : Nat) (σ : Heap) (p : AV × Ct) : Prop := match p.2 with
 | .s sz es => (p.1 = .nsl ∧ es = []) ∨ ∃ id g off a, p.1 = .os id g sz off es.length ∧ n ≤ id ∧ σ[id]? = some (.arr g sz a) ∧ off ≤ a.length ∧ a.drop off = es
 | .m es => ∃ id, p.1 = .om id ∧ n ≤ id ∧ σ[id]? = some (.map es)
 | .b cs => ∃ id, p.1 = .op id 0 ∧ n ≤ id ∧ σ[id]? = some (.box cs)
structure Hp (σ0 σ : Heap) (L : List (AV × Ct)) : Prop where
 pre : ∃ bs, σ = σ0 ++ bs
 own : ∀ (i : Nat) p, L[i]? = some p → Own σ0.length σ p
 sep : ∀ (i j : Nat) p q a, L[i]? = some p → L[j]? = some q → idOf p.1 = some a → idOf q.1 = some a → i = j
section
variable {σ0 σ σ' : Heap} {L : List (AV × Ct)} {n : Nat}
theorem hp_nil (σ : Heap) : Hp σ σ [] := ⟨⟨[], by simp⟩, by simp, by simp⟩
theorem own_lt {p : AV × Ct} {a : Nat} (h : Own n σ p) (e : idOf p.1 = some a) : n ≤ a ∧ a < σ.length := by
 obtain ⟨v, c⟩ := p
 cases c with
 | s sz es =>
  rcases h with ⟨h1, _⟩ | ⟨id, g, off, x, h1, h2, h3, _⟩
  ·simp only at h1; subst h1; cases e
  ·simp only at h1; subst h1; injection e with e; subst e; exact ⟨h2, (List.getElem?_eq_some_iff.1 h3).1⟩
 | m es => obtain ⟨id, h1, h2, h3⟩ := h; simp only at h1; subst h1; injection e with e; subst e; exact ⟨h2, (List.getElem?_eq_some_iff.1 h3).1⟩
 | b es => obtain ⟨id, h1, h2, h3⟩ := h; simp only at h1; subst h1; injection e with e; subst e; exact ⟨h2, (List.getElem?_eq_some_iff.1 h3).1⟩
theorem own_mono {p : AV × Ct} (h : Own n σ p) (k : ∀ a, idOf p.1 = some a → σ'[a]? = σ[a]?) : Own n σ' p := by
 obtain ⟨v, c⟩ := p
 cases c with
 | s sz es =>
  rcases h with h | ⟨id, g, off, x, h1, h2, h3, h4⟩
  ·exact .inl h
  ·simp only at h1; subst h1; exact .inr ⟨id, g, off, x, rfl, h2, by rw [k id rfl]; exact h3, h4⟩
 | m es => obtain ⟨id, h1, h2, h3⟩ := h; simp only at h1; subst h1; exact ⟨id, rfl, h2, by rw [k id rfl]; exact h3⟩
 | b es => obtain ⟨id, h1, h2, h3⟩ := h; simp only at h1; subst h1; exact ⟨id, rfl, h2, by rw [k id rfl]; exact h3⟩
theorem pre_set (h : ∃ bs, σ = σ0 ++ bs) {id : Nat} (hn : σ0.length ≤ id) (b : Blk) : ∃ bs, σ.set id b = σ0 ++ bs := by
 obtain ⟨bs, rfl⟩ := h
 exact ⟨bs.set (id - σ0.length) b, by rw [List.set_append_right _ _ hn]⟩
theorem hp_set (H : Hp σ0 σ L) {k id : Nat} {h h' : AV} {c c' : Ct} {b : Blk} (hk : L[k]? = some (h, c)) (hi : idOf h = some id) (hi' : idOf h' = some id) (ho : Own σ0.length (σ.set id b) (h', c')) : Hp σ0 (σ.set id b) (L.set k (h', c')) := by
 have hid := own_lt (H.own k _ hk) hi
 have hkl := (List.getElem?_eq_some_iff.1 hk).1
 refine ⟨pre_set H.pre hid.1 b, fun i p hp => ?_, fun i j p q a hp hq e1 e2 => ?_⟩
 ·rw [List.getElem?_set] at hp
  split at hp
  ·rename_i e; subst e; simp [hkl] at hp; subst hp; exact ho
  ·rename_i e
   refine own_mono (H.own i p hp) fun a ha => ?_
   rw [List.getElem?_set]
   split
   ·rename_i e'; subst e'; exact absurd (H.sep k i _ _ id hk hp hi ha) e
   ·rfl
 ·have key : ∀ (i : Nat) (p : AV × Ct), (L.set k (h', c'))[i]? = some p → idOf p.1 = some a → ∃ p', L[i]? = some p' ∧ idOf p'.1 = some a := by
   intro i p hp e
   rw [List.getElem?_set] at hp
   split at hp
   ·rename_i e'; subst e'; simp [hkl] at hp; subst hp; exact ⟨_, hk, by rw [hi]; rw [hi'] at e; exact e⟩
   ·exact ⟨p, hp, e⟩
  obtain ⟨p', hp', e1'⟩ := key i p hp e1
  obtain ⟨q', hq', e2'⟩ := key j q hq e2
  exact H.sep i j p' q' a hp' hq' e1' e2'
theorem hp_put (H : Hp σ0 σ L) {k : Nat} {h h' : AV} {c c' : Ct} {b : Blk} (hk : L[k]? = some (h, c)) (hi : idOf h = none) (hi' : idOf h' = some σ.length) (ho : Own σ0.length (σ ++ [b]) (h', c')) : Hp σ0 (σ ++ [b]) (L.set k (h', c')) := by
 have hkl := (List.getElem?_eq_some_iff.1 hk).1
 refine ⟨?_, fun i p hp => ?_, fun i j p q a hp hq e1 e2 => ?_⟩
 ·obtain ⟨bs, rfl⟩ := H.pre; exact ⟨bs ++ [b], by simp⟩
 ·rw [List.getElem?_set] at hp
  split at hp
  ·rename_i e; subst e; simp [hkl] at hp; subst hp; exact ho
  ·refine own_mono (H.own i p hp) fun a ha => ?_
   have := (own_lt (H.own i p hp) ha).2
   rw [List.getElem?_append_left this]
 ·have key : ∀ (i : Nat) (p : AV × Ct), (L.set k (h', c'))[i]? = some p → idOf p.1 = some a → (i = k ∧ a = σ.length) ∨ (L[i]? = some p ∧ a < σ.length) := by
   intro i p hp e
   rw [List.getElem?_set] at hp
   split at hp
   ·rename_i e'; subst e'; simp [hkl] at hp; subst hp; rw [hi'] at e; injection e with e; exact .inl ⟨rfl, e.symm⟩
   ·exact .inr ⟨hp, (own_lt (H.own i p hp) e).2⟩
  rcases key i p hp e1 with ⟨a1, a2⟩ | ⟨a1, a2⟩ <;> rcases key j q hq e2 with ⟨b1, b2⟩ | ⟨b1, b2⟩
  ·omega
  ·omega
  ·omega
  ·exact H.sep i j p q a a1 b1 e1 e2
theorem hp_push (H : Hp σ0 σ L) {h' : AV} {c' : Ct} {b : Blk} (hi' : idOf h' = some σ.length) (ho : Own σ0.length (σ ++ [b]) (h', c')) : Hp σ0 (σ ++ [b]) (L ++ [(h', c')]) := by
 refine ⟨?_, fun i p hp => ?_, fun i j p q a hp hq e1 e2 => ?_⟩
 ·obtain ⟨bs, rfl⟩ := H.pre; exact ⟨bs ++ [b], by simp⟩
 ·rw [List.getElem?_append] at hp
  split at hp
  ·refine own_mono (H.own i p hp) fun a ha => ?_
   have := (own_lt (H.own i p hp) ha).2
   rw [List.getElem?_append_left this]
  ·have hp' := (List.getElem?_eq_some_iff.1 hp).2
   simp at hp'; subst hp'; exact ho
 ·have key : ∀ (i : Nat) (p : AV × Ct), (L ++ [(h', c')])[i]? = some p → idOf p.1 = some a → (i = L.length ∧ a = σ.length) ∨ (L[i]? = some p ∧ a < σ.length) := by
   intro i p hp e
   rw [List.getElem?_append] at hp
   split at hp
   ·exact .inr ⟨hp, (own_lt (H.own i p hp) e).2⟩
   ·obtain ⟨h1, h2⟩ := List.getElem?_eq_some_iff.1 hp
    simp at h1 h2; subst h2; rw [hi'] at e; injection e with e; exact .inl ⟨by omega, e.symm⟩
  rcases key i p hp e1 with ⟨a1, a2⟩ | ⟨a1, a2⟩ <;> rcases key j q hq e2 with ⟨b1, b2⟩ | ⟨b1, b2⟩
  ·omega
  ·omega
  ·omega
  ·exact H.sep i j p q a a1 b1 e1 e2
theorem hp_nsl (H : Hp σ0 σ L) (sz : Nat) : Hp σ0 σ (L ++ [(.nsl, .s sz [])]) := by
 refine ⟨H.pre, fun i p hp => ?_, fun i j p q a hp hq e1 e2 => ?_⟩
 ·rw [List.getElem?_append] at hp
  split at hp
  ·exact H.own i p hp
  ·have hp' := (List.getElem?_eq_some_iff.1 hp).2
   simp at hp'; subst hp'; exact .inl ⟨rfl, rfl⟩
 ·have key : ∀ (i : Nat) (p : AV × Ct), (L ++ [((.nsl : AV), Ct.s sz [])])[i]? = some p → idOf p.1 = some a → L[i]? = some p := by
   intro i p hp e
   rw [List.getElem?_append] at hp
   split at hp
   ·exact hp
   ·have hp' := (List.getElem?_eq_some_iff.1 hp).2
    simp at hp'; subst hp'; cases e
  exact H.sep i j p q a (key i p hp e1) (key j q hq e2) e1 e2
theorem hp_om (H : Hp σ0 σ L) : Hp σ0 (σ ++ [.map []]) (L ++ [(.om σ.length, .m [])]) := by
 have hl : σ0.length ≤ σ.length := by obtain ⟨bs, rfl⟩ := H.pre; simp
 exact hp_push H rfl ⟨σ.length, rfl, hl, by simp⟩
theorem hp_op (H : Hp σ0 σ L) (cs : List AV) : Hp σ0 (σ ++ [.box cs]) (L ++ [(.op σ.length 0, .b cs)]) := by
 have hl : σ0.length ≤ σ.length := by obtain ⟨bs, rfl⟩ := H.pre; simp
 exact hp_push H rfl ⟨σ.length, rfl, hl, by simp⟩
theorem hp_take (H : Hp σ0 σ L) (n : Nat) : Hp σ0 σ (L.take n) := by
 have key : ∀ (i : Nat) (p : AV × Ct), (L.take n)[i]? = some p → L[i]? = some p := by
  intro i p h
  rw [List.getElem?_take] at h
  split at h
  ·exact h
  ·cases h
 exact ⟨H.pre, fun i p hp => H.own i p (key i p hp), fun i j p q a hp hq => H.sep i j p q a (key i p hp) (key j q hq)⟩
theorem hp_weak (H : Hp σ0 σ L) : Hp σ0 σ [] := ⟨H.pre, by simp, by simp⟩
theorem hp_app (H : Hp σ0 σ L) {k sz most : Nat} {h : AV} {es ys : List (List AV)} (hk : L[k]? = some (h, .s sz es)) (hm : es.length + ys.length ≤ most) : ∃ h' σ', A.append sz most h (.sl sz ys) σ = some (h', σ') ∧ Hp σ0 σ' (L.set k (h', .s sz (es ++ ys))) := by
 have hl : σ0.length ≤ σ.length := by obtain ⟨bs, rfl⟩ := H.pre; simp
 rcases H.own k _ hk with ⟨h1, h2⟩ | ⟨id, g, off, a, h1, h2, h3, h4, h5⟩
 ·simp only at h1 h2
  subst h1 h2
  by_cases hy : ys = []
  ·subst hy
   refine ⟨.nsl, σ, by simp [A.append, A.appendL, A.elems], ?_⟩
   have : L.set k (.nsl, .s sz ([] ++ [])) = L := by
    apply List.ext_getElem?
    intro i
    rw [List.getElem?_set]
    split
    ·rename_i e; subst e; rw [hk]; simp [(List.getElem?_eq_some_iff.1 hk).1]
    ·rfl
   rw [this]; exact H
  ·refine ⟨.os σ.length ys.length sz 0 ys.length, σ ++ [.arr ys.length sz ys], ?_, ?_⟩
   ·have : ys.length ≤ most := by simpa using hm
    simp [A.append, A.appendL, A.elems, hy, this]
   ·exact hp_put H hk rfl rfl (.inr ⟨σ.length, ys.length, 0, ys, by simp, hl, by simp, by simp, by simp⟩)
 ·simp only at h1 h5
  subst h1
  have hid := (List.getElem?_eq_some_iff.1 h3).1
  have h6 : off + es.length = a.length := by rw [← h5, List.length_drop]; omega
  by_cases hy : ys = []
  ·subst hy
   refine ⟨.os id g sz off es.length, σ, ?_, ?_⟩
   ·have : es.length ≤ most := by simpa using hm
    simp [A.append, A.appendL, A.elems, h3, h6, this]
   ·have : L.set k (.os id g sz off es.length, .s sz (es ++ [])) = L := by
     apply List.ext_getElem?
     intro i
     rw [List.getElem?_set]
     split
     ·rename_i e; subst e; rw [hk]; simp [(List.getElem?_eq_some_iff.1 hk).1]
     ·rfl
    rw [this]; exact H
  ·refine ⟨.os id (g + ys.length) sz 0 (es.length + ys.length), σ.set id (.arr (g + ys.length) sz (es ++ ys)), ?_, ?_⟩
   ·have ht : (a.drop off).take es.length = es := by rw [h5]; simp
    have hp : 0 < ys.length := List.length_pos_iff.2 hy
    simp [A.append, A.appendL, A.elems, h3, h6, hm, hy, ht, hp]
   ·refine hp_set H hk rfl rfl (.inr ⟨id, g + ys.length, 0, es ++ ys, by simp, h2, by simp [hid], by simp, by simp [h5]⟩)
theorem hp_mupd (H : Hp σ0 σ L) {k : Nat} {h key v : AV} {ek : A.EK} {es es' : List (AV × AV)} (hk : L[k]? = some (h, .m es)) (hok : A.keyOk ek key = true) (he : A.upd ek key v es = some es') : ∃ σ', A.mupd ek h key v σ = some σ' ∧ Hp σ0 σ' (L.set k (h, .m es')) := by
 obtain ⟨id, h1, h2, h3⟩ := H.own k _ hk
 simp only at h1 h3
 subst h1
 have hid := (List.getElem?_eq_some_iff.1 h3).1
 exact ⟨σ.set id (.map es'), by simp [A.mupd, hok, h3, he], hp_set H hk rfl rfl ⟨id, rfl, h2, by simp [hid]⟩⟩
theorem hp_look (H : Hp σ0 σ L) {k : Nat} {h key z : AV} {ek : A.EK} {es : List (AV × AV)} {r : Option AV} (hk : L[k]? = some (h, .m es)) (hok : A.keyOk ek key = true) (he : A.find ek key es = some r) : A.look ek h key z σ = some (r.getD z) := by
 obtain ⟨id, h1, h2, h3⟩ := H.own k _ hk
 simp only at h1 h3
 subst h1
 rw [look_at ek hok h3, he]; rfl
theorem hp_box (H : Hp σ0 σ L) (k : Nat) {id : Nat} {cs : List AV} (hk : L[k]? = some (.op id 0, .b cs)) (off : Nat) : A.deref (.op id off) σ = some (cs.drop off) := by
 obtain ⟨i, h1, h2, h3⟩ := H.own k _ hk
 simp only [AV.op.injEq] at h1
 obtain ⟨rfl, _⟩ := h1
 simp [A.deref, h3]
theorem hp_boxset (H : Hp σ0 σ L) (k : Nat) {id : Nat} {cs cs' new : List AV} (hk : L[k]? = some (.op id 0, .b cs)) (off : Nat) (hs : A.splice off new cs = some cs') : ∃ σ', A.storeAt (.op id off) new σ = some σ' ∧ Hp σ0 σ' (L.set k (.op id 0, .b cs')) := by
 obtain ⟨i, h1, h2, h3⟩ := H.own k _ hk
 simp only [AV.op.injEq] at h1
 obtain ⟨rfl, _⟩ := h1
 have hid := (List.getElem?_eq_some_iff.1 h3).1
 exact ⟨σ.set id (.box cs'), by simp [A.storeAt, h3, hs], hp_set H hk rfl rfl ⟨id, rfl, h2, by simp [hid]⟩⟩
theorem cap_own (H : Hp σ0 σ L) (k : Nat) {id : Nat} {cs : List AV} (hk : L[k]? = some (.op id 0, .b cs)) (hz : FzL cs) {ain : List Sh} {rout : Sh} {r : List AV → Heap → Option (AV × Heap)} {x v : AV} (hx : Fz x) (hxo : A.own x = false) (hs : A.scal v = true) (e : A.wrap true ain rout r [x, .rp cs] [] = some (v, [])) : A.wrap true ain rout r [x, .op id 0] σ = some (v, σ) := by
 obtain ⟨i, h1, h2, h3⟩ := H.own k _ hk
 simp only [AV.op.injEq] at h1
 obtain ⟨rfl, _⟩ := h1
 refine wrap_own (args' := [x, .rp cs]) (by simp [A.own, A.own1]) ?_ (by rw [List.any_cons, hxo]; rfl) e hs
 have q : A.frzL' σ 0 7 cs = some cs := by rw [frzL_eq]; exact hz σ 0 7
 simp [A.frzL, hx σ 0 8, A.frz, h3, q]
def Fzv (σ0 σ : Heap) (r r' : AV) : Prop := (∀ d, A.frz σ σ0.length (d + 1) r = some r') ∧ (σ = σ0 → r' = r)
def FzvL (σ0 σ : Heap) (l l' : List AV) : Prop := (∀ d, A.frzL σ σ0.length (d + 1) l = some l') ∧ (σ = σ0 → l' = l)
theorem fzv_fz {r : AV} (h : Fz r) : Fzv σ0 σ r r := ⟨fun d => h σ _ (d + 1), fun _ => rfl⟩
theorem fzvL_nil : FzvL σ0 σ [] [] := ⟨fun d => by simp [A.frzL], fun _ => rfl⟩
theorem fzvL_cons {a a' : AV} {l l' : List AV} (h : Fzv σ0 σ a a') (k : FzvL σ0 σ l l') : FzvL σ0 σ (a :: l) (a' :: l') := ⟨fun d => by simp [A.frzL, h.1 d, k.1 d], fun e => by rw [h.2 e, k.2 e]⟩
theorem fzv_tup {l l' : List AV} (h : FzvL σ0 σ l l') : Fzv σ0 σ (.tup l) (.tup l') := ⟨fun d => by simp [A.frz, h.1 d], fun e => by rw [h.2 e]⟩
theorem fzv_own {α : Type} (H : Hp σ0 σ L) {k sz : Nat} {h : AV} {c : α → List AV} {l : List α} (hk : L[k]? = some (h, .s sz (l.map c))) (hc : ∀ x, FzL (c x)) : ∃ r', Fzv σ0 σ h r' ∧ ((r' = .nsl ∧ l = []) ∨ r' = sl sz c l) := by
 rcases H.own k _ hk with ⟨h1, h2⟩ | ⟨id, g, off, a, h1, h2, h3, h4, h5⟩
 ·simp only at h1 h2
  have : l = [] := by simpa using h2
  subst this; subst h1
  exact ⟨.nsl, fzv_fz fz_nsl, .inl ⟨rfl, rfl⟩⟩
 ·simp only at h1 h5
  subst h1
  refine ⟨sl sz c l, ⟨fun d => ?_, fun e => ?_⟩, .inr rfl⟩
  ·have h6 : off + (l.map c).length = a.length := by rw [← h5, List.length_drop]; omega
   simp only [A.frz, Nat.not_lt.2 h2, if_false, h3]
   rw [if_pos (by simp; simp at h6; omega), frzLL_eq, h5, List.take_of_length_le (Nat.le_refl _), fzLL hc]
   rfl
  ·subst e
   have := (List.getElem?_eq_some_iff.1 h3).1
   omega
theorem nn_own' {α : Type} {sz : Nat} {c : α → List AV} {l : List α} {r : AV} (h : (r = .nsl ∧ l = []) ∨ r = sl sz c l) : A.nn (.s sz) r = sl sz c l := by
 rcases h with ⟨rfl, rfl⟩ | rfl <;> rfl
theorem nn_t1 {s1 : Sh} {v1 w1 : AV} {ss : List Sh} {vs ws : List AV} (h1 : A.nn s1 v1 = w1) (h2 : A.nnL ss vs = ws) : A.nnL (s1 :: ss) (v1 :: vs) = w1 :: ws := by simp only [A.nnL, h1, h2]
theorem nn_t0 : A.nnL [] [] = [] := by simp [A.nnL]
theorem nn_a {ss : List Sh} {vs ws : List AV} (h : A.nnL ss vs = ws) : A.nn (.a ss) (.agg vs) = .agg ws := by simp only [A.nn, h]
theorem nn_t {ss : List Sh} {vs ws : List AV} (h : A.nnL ss vs = ws) : A.nn (.t ss) (.tup vs) = .tup ws := by simp only [A.nn, h]
theorem frzM_fz (d : Nat) : ∀ {es : List (AV × AV)}, (∀ p ∈ es, Fz p.1 ∧ Fz p.2) → A.frzM' σ n d es = some es
 | [], _ => by simp [A.frzM']
 | (k, v) :: es, h => by
  have h1 := h (k, v) (by simp)
  simp only [A.frzM', h1.1 σ n d, h1.2 σ n d, Option.bind_some, frzM_fz d (es := es) (fun p hp => h p (by simp [hp])), Option.map_some]
theorem fzv_om (H : Hp σ0 σ L) {k : Nat} {h : AV} {es : List (AV × AV)} (hk : L[k]? = some (h, .m es)) (hc : ∀ p ∈ es, Fz p.1 ∧ Fz p.2) : Fzv σ0 σ h (.fm es) := by
 obtain ⟨id, h1, h2, h3⟩ := H.own k _ hk
 simp only at h1 h3
 subst h1
 refine ⟨fun d => ?_, fun e => ?_⟩
 ·simp only [A.frz, Nat.not_lt.2 h2, if_false, h3, frzM_fz d hc, Option.map_some]
 ·subst e
  have := (List.getElem?_eq_some_iff.1 h3).1
  omega
theorem hp_fin (H : Hp σ0 σ L) {r r' : AV} (h : Fzv σ0 σ r r') : A.fin σ0 r σ = some (r', σ0) := by
 obtain ⟨bs, hb⟩ := H.pre
 subst hb
 by_cases hbs : bs = []
 ·subst hbs
  rw [List.append_nil] at h ⊢
  rw [fin_same, h.2 rfl]
 ·unfold A.fin
  rw [if_neg (by simpa using hbs), if_pos (by simp), h.1 7]; rfl
end
section
variable {κ ν : Type} [DecidableEq κ]
def tfind (k : κ) : List (κ × ν) → Option ν
 | [] => none
 | (k', v) :: r => if k = k' then some v else tfind k r
def tupd (k : κ) (v : ν) : List (κ × ν) → List (κ × ν)
 | [] => [(k, v)]
 | (k', v') :: r => if k = k' then (k, v) :: r else (k', v') :: tupd k v r
variable {ek : A.EK} {eK : κ → AV} {eV : ν → AV} (hq : ∀ a b, A.eqK ek (eK a) (eK b) = some (decide (a = b)))
include hq
theorem find_t (k : κ) : ∀ l : List (κ × ν), A.find ek (eK k) (l.map fun p => (eK p.1, eV p.2)) = some ((tfind k l).map eV)
 | [] => rfl
 | (k', v) :: r => by
  simp only [List.map_cons, A.find, hq, Option.bind_some, tfind]
  by_cases h : k = k'
  ·simp [h]
  ·simp [h, find_t k r]
theorem upd_t (k : κ) (v : ν) : ∀ l : List (κ × ν), A.upd ek (eK k) (eV v) (l.map fun p => (eK p.1, eV p.2)) = some ((tupd k v l).map fun p => (eK p.1, eV p.2))
 | [] => rfl
 | (k', v') :: r => by
  simp only [List.map_cons, A.upd, hq, Option.bind_some, tupd]
  by_cases h : k = k'
  ·simp [h]
  ·simp [h, upd_t k v r]
end
theorem getD_map {α : Type} (o : Option α) (f : α → AV) (d : α) : (o.map f).getD (f d) = f (o.getD d) := by cases o <;> rfl
def fmE {κ ν : Type} (eK : κ → AV) (eV : ν → AV) (l : List (κ × ν)) : AV := .fm (l.map fun p => (eK p.1, eV p.2))
section
variable {κ ν : Type} [DecidableEq κ] {ek : A.EK} {eK : κ → AV} {eV : ν → AV} {σ0 σ : Heap} {L : List (AV × Ct)} {h : AV} {l : List (κ × ν)}
theorem hp_updT (H : Hp σ0 σ L) (k : Nat) (hk : L[k]? = some (h, .m (l.map fun p => (eK p.1, eV p.2)))) (hq : ∀ a b, A.eqK ek (eK a) (eK b) = some (decide (a = b))) (x : κ) (v : ν) (hok : A.keyOk ek (eK x) = true) : ∃ σ', A.mupd ek h (eK x) (eV v) σ = some σ' ∧ Hp σ0 σ' (L.set k (h, .m ((tupd x v l).map fun p => (eK p.1, eV p.2)))) := hp_mupd H hk hok (upd_t hq x v l)
theorem hp_lookT (H : Hp σ0 σ L) (k : Nat) (hk : L[k]? = some (h, .m (l.map fun p => (eK p.1, eV p.2)))) (hq : ∀ a b, A.eqK ek (eK a) (eK b) = some (decide (a = b))) (x : κ) (z : ν) (hok : A.keyOk ek (eK x) = true) : A.look ek h (eK x) (eV z) σ = some (eV ((tfind x l).getD z)) := by
 rw [hp_look H hk hok (find_t hq x l), getD_map]
theorem fm_lookT (hq : ∀ a b, A.eqK ek (eK a) (eK b) = some (decide (a = b))) (x : κ) (z : ν) (hok : A.keyOk ek (eK x) = true) : A.look ek (fmE eK eV l) (eK x) (eV z) σ = some (eV ((tfind x l).getD z)) := by
 simp only [A.look, fmE, hok, cond_true, A.entries, Option.bind_some, find_t hq, Option.map_some, getD_map]
end
section
variable {α : Type} {c : α → List AV} {l ys : List α} {σ0 σ : Heap} {L : List (AV × Ct)} {h : AV} {sz : Nat}
theorem hp_appT (H : Hp σ0 σ L) (k : Nat) {most : Nat} (hk : L[k]? = some (h, .s sz (l.map c))) (hm : l.length + ys.length ≤ most) : ∃ h' σ', A.append sz most h (sl sz c ys) σ = some (h', σ') ∧ Hp σ0 σ' (L.set k (h', .s sz ((l ++ ys).map c))) := by
 rw [List.map_append]
 exact hp_app H hk (by simpa using hm)
end
end Go.Proofs.Ytohbeolimnpehaa

namespace Go.Proofs.Ytohbeolimnpehaa
set_option linter.unusedSectionVars false
set_option linter.unusedVariables false
set_option linter.unusedSimpArgs false
def chkE {α : Type} (f : Nat → α → Int) : List α → Nat → Int
 | [], _ => 0
 | x :: l, i => if f i x = 0 then chkE f l (i + 1) else f i x
section
variable {α β γ S B R : Type}
theorem chkE_zero {f : Nat → α → Int} : ∀ (l : List α) (i : Nat), chkE f l i = 0 ↔ ∀ j x, l[j]? = some x → f (i + j) x = 0
 | [], i => by simp [chkE]
 | y :: l, i => by
  rw [chkE]
  by_cases h : f i y = 0
  ·rw [if_pos h, chkE_zero l (i + 1)]
   constructor
   ·intro k j x hx
    cases j with
    | zero => simp at hx; subst hx; exact h
    | succ j => have := k j x (by simpa using hx); rwa [show i + 1 + j = i + (j + 1) by omega] at this
   ·intro k j x hx
    have := k (j + 1) x (by simpa using hx)
    rwa [show i + (j + 1) = i + 1 + j by omega] at this
  ·rw [if_neg h]
   exact ⟨fun e => absurd e h, fun k => absurd (k 0 y rfl) h⟩
theorem forE_le {l : List α} {body : Nat → α → S → Option (Lr S B R)} {fin : S → Option B} {s : S} {K1 : B → Option γ} {K2 : R → Option γ} (hl : l.length ≤ mxl) : forE l body fin s K1 K2 = (forL body fin l 0 s).bind fun q => q.elim K1 K2 := if_pos hl
theorem forE_chk {f : Nat → α → Int} {l : List α} {body : Nat → α → Unit → Option (Lr Unit Unit Int)} {fin : Unit → Option Unit} {s : Unit} {K1 : Unit → Option γ} {K2 : Int → Option γ} (hl : l.length ≤ mxl) (hb : ∀ i x, l[i]? = some x → body i x () = some (if f i x = 0 then .go () else .ret (f i x))) (hf : fin () = some () := by rfl) : forE l body fin s K1 K2 = if chkE f l 0 = 0 then K1 () else K2 (chkE f l 0) := by
 rw [forE_le hl]
 have key : ∀ (rest pre : List α), l = pre ++ rest → forL body fin rest pre.length () = some (if chkE f rest pre.length = 0 then .inl () else .inr (chkE f rest pre.length)) := by
  intro rest
  induction rest with
  | nil => intro pre _; simp [forL, hf, chkE]
  | cons x rest ih =>
   intro pre hp
   rw [forL, hb pre.length x (by rw [hp]; simp), Option.bind_some, chkE]
   by_cases h : f pre.length x = 0
   ·simp only [h, if_true]
    have := ih (pre ++ [x]) (by simpa using hp)
    simpa using this
   ·simp only [h, if_false]
 have k := key l [] rfl
 rw [List.length_nil] at k
 rw [show s = () from rfl, k, Option.bind_some]
 split <;> rfl
theorem ite_ret {p : Prop} [Decidable p] {k f : Int} {Y : Option (Lr Unit Unit Int)} (hk : k ≠ 0) (h : Y = some (if f = 0 then .go () else .ret f)) : (if p then some (.ret k) else Y) = some (if (if p then k else f) = 0 then .go () else .ret (if p then k else f)) := by
 by_cases hp : p
 ·simp [hp, hk]
 ·simp [hp, h]
theorem go_ret : (some (.go ()) : Option (Lr Unit Unit Int)) = some (if (0 : Int) = 0 then .go () else .ret 0) := rfl
theorem elim_ret (k : Int) : (if k = 0 then some (.go ()) else some (.ret k) : Option (Lr Unit Unit Int)) = some (if k = 0 then .go () else .ret k) := by split <;> rfl
theorem forE_find {p : α → Bool} {l : List α} {body : Nat → α → Unit → Option (Lr Unit Unit R)} {r : α → R} {fin : Unit → Option Unit} {s : Unit} {K1 : Unit → Option γ} {K2 : R → Option γ} (hl : l.length ≤ mxl) (hb : ∀ i x, l[i]? = some x → body i x () = some (if p x = true then .ret (r x) else .go ())) (hf : fin () = some () := by rfl) : forE l body fin s K1 K2 = match l.find? p with | some x => K2 (r x) | none => K1 () := by
 rw [forE_le hl]
 have key : ∀ (rest pre : List α), l = pre ++ rest → forL body fin rest pre.length () = some (match rest.find? p with | some x => .inr (r x) | none => .inl ()) := by
  intro rest
  induction rest with
  | nil => intro pre _; simp [forL, hf]
  | cons x rest ih =>
   intro pre hp
   rw [forL, hb pre.length x (by rw [hp]; simp), Option.bind_some, List.find?_cons]
   cases h : p x
   ·simp only [Bool.false_eq_true, if_false]
    have := ih (pre ++ [x]) (by simpa using hp)
    simpa using this
   ·simp only [if_true]
 have k := key l [] rfl
 rw [List.length_nil] at k
 rw [show s = () from rfl, k, Option.bind_some]
 cases l.find? p <;> rfl
theorem forE_fold {l : List α} {body : Nat → α → S → Option (Lr S B R)} {fin : S → Option B} {s : S} {K1 : B → Option γ} {K2 : R → Option γ} (g : S → α → S) (P : Nat → S → Prop) (hl : l.length ≤ mxl) (h0 : P 0 s) (hP : ∀ i x s, l[i]? = some x → P i s → P (i + 1) (g s x)) (hb : ∀ i x s, l[i]? = some x → P i s → body i x s = some (.go (g s x))) : forE l body fin s K1 K2 = (fin (l.foldl g s)).bind K1 := by
 rw [forE_le hl]
 have key : ∀ (rest pre : List α) (s : S), l = pre ++ rest → P pre.length s → forL body fin rest pre.length s = (fin (rest.foldl g s)).map .inl := by
  intro rest
  induction rest with
  | nil => intro pre s _ _; simp [forL]
  | cons x rest ih =>
   intro pre s hp hq
   have hx : l[pre.length]? = some x := by rw [hp]; simp
   rw [forL, hb pre.length x s hx hq, Option.bind_some, List.foldl_cons]
   have := ih (pre ++ [x]) (g s x) (by simpa using hp) (by simpa using hP _ _ _ hx hq)
   simpa using this
 have k := key l [] s rfl h0
 rw [List.length_nil] at k
 rw [k]
 cases fin (l.foldl g s) <;> rfl
def pv [Inhabited α] (l : List α) (i : Nat) : α := if 0 < i then l.getD (i - 1) default else default
theorem tIx_get {l : List α} {i : Int} {x : α} (h0 : 0 ≤ i) (h : l[i.toNat]? = some x) : tIx l i = some x := by rw [tIx, if_pos h0, h]
theorem prev_at [Inhabited α] {l : List α} {i : Nat} {x : α} (h : l[i]? = some x) (hl : l.length ≤ mxl) : (if decide (0 < (i : Int)) = true then tIx l (IntKind.i64.wrap ((i : Int) - 1)) else some default) = some (pv l i) := by
 have hi := (List.getElem?_eq_some_iff.1 h).1
 unfold pv
 by_cases h0 : 0 < i
 ·rw [if_pos (by simpa using h0), if_pos h0, wrap64 (by unfold inI; unfold mxl at hl; omega)]
  refine tIx_get (by omega) ?_
  have : ((i : Int) - 1).toNat = i - 1 := by omega
  rw [this, List.getD, List.getElem?_eq_getElem (by omega)]
  rfl
 ·rw [if_neg (by simpa using h0), if_neg h0]
theorem find2 {a b : Int} : (([a, b] : List Int).find? fun n => decide (¬ n = 0)).getD 0 = if ¬ (a = 0) then a else b := by
 by_cases ha : a = 0
 ·by_cases hb : b = 0 <;> simp [ha, hb, List.find?]
 ·simp [ha, List.find?]
theorem find3 {a b c : Int} : (([a, b, c] : List Int).find? fun n => decide (¬ n = 0)).getD 0 = if ¬ (a = 0) then a else if ¬ (b = 0) then b else c := by
 by_cases ha : a = 0
 ·by_cases hb : b = 0
  ·by_cases hc : c = 0 <;> simp [ha, hb, hc, List.find?]
  ·simp [ha, hb, List.find?]
 ·simp [ha, List.find?]
end
theorem toList_d (s : ByteArray) : s.toList = s.data.toList := ByteArray.toList_eq s
theorem cmpB_lt : ∀ (a b : List UInt8), Lib.compareBytes a b < 0 ↔ Op.bytesLess a b = true
 | [], [] => by simp [Lib.compareBytes, Op.bytesLess]
 | [], _ :: _ => by simp [Lib.compareBytes, Op.bytesLess]
 | _ :: _, [] => by simp [Lib.compareBytes, Op.bytesLess]
 | a :: x, b :: y => by
  rw [Lib.compareBytes, Op.bytesLess]
  by_cases h1 : a < b
  ·simp [h1]
  ·by_cases h2 : b < a
   ·have : a ≠ b := by rintro rfl; exact h1 h2
    simp [h1, h2, this]
   ·have : a = b := UInt8.le_antisymm (UInt8.not_lt.1 h2) (UInt8.not_lt.1 h1)
    subst this
    simp [UInt8.lt_irrefl, cmpB_lt x y]
def ltK (a b : KeyD) : Bool := decide (a.unit < b.unit) || (decide (a.unit = b.unit) && Op.bytesLess a.param.toList b.param.toList)
def cmpK (a b : KeyD) : Int := if ¬ (a.unit = b.unit) then (if a.unit < b.unit then -1 else 1) else Lib.compareBytes a.param.data.toList b.param.data.toList
theorem cmpK_lt (a b : KeyD) : cmpK a b < 0 ↔ ltK a b = true := by
 unfold cmpK ltK
 by_cases h : a.unit = b.unit
 ·simp [h, toList_d, cmpB_lt]
 ·by_cases h2 : a.unit < b.unit <;> simp [h, h2]
theorem cmpK_ge (a b : KeyD) : decide (0 ≤ cmpK a b) = !ltK a b := by
 have := cmpK_lt a b
 cases h : ltK a b
 ·rw [h] at this; simp at this; simp [this]
 ·rw [h] at this; simp at this; simp [this]
end Go.Proofs.Ytohbeolimnpehaa

namespace Go.Proofs.Ytohbeolimnpehaa
set_option linter.unusedSectionVars false
set_option linter.unusedVariables false
set_option linter.unusedSimpArgs false
def withinB (n lo hi : Int) : Bool := decide (lo ≤ n ∧ n ≤ hi)
def okc (c : UInt8) : Bool := decide (97 ≤ c.toNat ∧ c.toNat ≤ 122) || decide (48 ≤ c.toNat ∧ c.toNat ≤ 57) || decide (c.toNat = 45)
def rowB (s : ByteArray) : Bool := s.data.toList.all okc && decide (0 < s.size)
def nameB (s : ByteArray) : Bool := rowB s && decide (s.size ≤ 20) && decide (97 ≤ (s.data.toList.getD 0 0).toNat) && decide ((s.data.toList.getD 0 0).toNat ≤ 122)
def pc (c : UInt8) : Bool := decide (32 ≤ c.toNat ∧ c.toNat ≤ 126)
def edgeB (s : ByteArray) : Bool := decide (0 < s.size) && decide (s.size ≤ 60) && (decide ((s.data.toList.getD 0 0).toNat ≠ 32) && decide ((s.data.toList.getD (s.size - 1) 0).toNat ≠ 32))
def titleB (s : ByteArray) : Bool := s.data.toList.all pc && edgeB s
theorem getD_byte (s : ByteArray) (i : Nat) (h : i < s.size) : s.data.toList.getD i 0 = s[i] := by
 rw [List.getD_eq_getElem?_getD, List.getElem?_eq_getElem (by simpa using h)]; rfl
def chkR (pre : List RangeD) : List RangeD → Int
 | [] => 0
 | r :: rest =>
  if withinB r.low 0 65535 = false ∨ withinB r.high 0 65535 = false ∨ r.high < r.low then 1
  else if 0 < pre.length ∧ r.low ≤ (pre.getLast?.map (·.high)).getD 0 then 7
  else if nameB r.name = false then 5
  else if memB r.name (pre.map (·.name)) = true then 6
  else chkR (pre ++ [r]) rest
def rangesF (l : List RangeD) : Int := if 30 < l.length then 2 else chkR [] l
def slotsOf (l : List ParamD) : List Int := l.flatMap fun x => if 0 < x.fine then [x.att, x.fine] else [x.att]
theorem slotsOf_snoc (l : List ParamD) (x : ParamD) : slotsOf (l ++ [x]) = slotsOf l ++ (if 0 < x.fine then [x.att, x.fine] else [x.att]) := by simp [slotsOf]
def chkP (size : Int) (pre : List ParamD) : List ParamD → Int
 | [] => 0
 | x :: rest =>
  if nameB x.name = false then 5
  else if memB x.name (pre.map (·.name)) = true then 6
  else if withinB x.group 1 4 = false then 4
  else if withinB x.att 1 size = false ∨ withinB x.fine 0 size = false ∨ withinB x.default 0 65535 = false then 1
  else if x.att = x.fine ∨ memB x.att (slotsOf pre) = true ∨ (0 < x.fine ∧ memB x.fine (slotsOf pre) = true) then 12
  else if rangesF x.ranges = 0 then chkP size (pre ++ [x]) rest else rangesF x.ranges
def profileF (p : ProfileD) : Int :=
 if nameB p.name = false then 5 else if withinB p.size 1 512 = false then 1 else if p.params.length = 0 then 8 else if 40 < p.params.length then 2 else chkP p.size [] p.params
def chkL (pre : List ProfileD) : List ProfileD → Int
 | [] => 0
 | p :: rest => if profileF p = 0 then (if memB p.name (pre.map (·.name)) = true then 6 else chkL (pre ++ [p]) rest) else profileF p
def libF (l : List ProfileD) : Int := if 60 < l.length then 2 else chkL [] l
def profOf (nm : ByteArray) : List ProfileD → ProfileD × Bool
 | [] => (⟨⟨#[]⟩, 0, []⟩, false)
 | p :: rest => if p.name = nm then (p, true) else profOf nm rest
def freeF (f : Nat → Bool) : Nat → Nat → Bool
 | 0, _ => true
 | n + 1, a => if 512 < a ∨ f a = true then false else freeF f n (a + 1)
def markF (f : Int → Nat → Bool) (u : Int) (a s : Nat) : Int → Nat → Bool := fun v k => if v = u ∧ a ≤ k ∧ k < a + s then true else f v k
def ordB (pre : List Int) (n : Int) : Bool := match pre.getLast? with | some m => decide (n ≤ m) | none => false
def lastU (lib : List ProfileD) (u : UnitD) : Int := u.address + (profOf u.profile lib).1.size - 1
def clashU (lib : List ProfileD) (u : UnitD) (pre : List UnitD) : Bool := pre.any fun x => decide (x.univ = u.univ ∧ x.address ≤ lastU lib u ∧ u.address ≤ lastU lib x)
def chkU (lib : List ProfileD) (pre : List UnitD) : List UnitD → Int
 | [] => 0
 | u :: rest =>
  if withinB u.number 1 9999 = false then 1
  else if ordB (pre.map (·.number)) u.number = true then 7
  else if (profOf u.profile lib).2 = false then 5
  else if withinB u.univ 1 64 = false ∨ withinB u.address 1 512 = false ∨ 512 < lastU lib u then 1
  else if clashU lib u pre = true then 12
  else chkU lib (pre ++ [u]) rest
def rigF (r : RigD) : Int := if libF r.library = 0 then (if 400 < r.units.length then 2 else chkU r.library [] r.units) else libF r.library
def UnitsOk (lib : List ProfileD) (pre : List UnitD) : Prop := ∀ x ∈ pre, 1 ≤ x.address ∧ x.address ≤ lastU lib x ∧ lastU lib x ≤ 512
def MarksP (lib : List ProfileD) (pre : List UnitD) (f : Int → Nat → Bool) : Prop := ∀ v k, f v k = true ↔ ∃ x ∈ pre, x.univ = v ∧ x.address ≤ (k : Int) ∧ (k : Int) ≤ lastU lib x
theorem MarksP.nil (lib : List ProfileD) : MarksP lib [] (fun _ _ => false) := fun v k => by simp
theorem MarksP.snoc {lib : List ProfileD} {pre : List UnitD} {f : Int → Nat → Bool} (h : MarksP lib pre f) (u : UnitD) (a s : Nat) (ha : u.address = a) (hs : lastU lib u = (a : Int) + s - 1) : MarksP lib (pre ++ [u]) (markF f u.univ a s) := by
 intro v k
 unfold markF
 by_cases e : v = u.univ ∧ a ≤ k ∧ k < a + s
 ·rw [if_pos e]
  refine ⟨fun _ => ⟨u, by simp, e.1.symm, by omega, by omega⟩, fun _ => rfl⟩
 ·rw [if_neg e, h v k]
  constructor
  ·rintro ⟨x, hx, h1⟩
   exact ⟨x, by simp [hx], h1⟩
  ·rintro ⟨x, hx, h1, h2, h3⟩
   simp only [List.mem_append, List.mem_singleton] at hx
   rcases hx with hx | rfl
   ·exact ⟨x, hx, h1, h2, h3⟩
   ·exact absurd ⟨h1.symm, by omega, by omega⟩ e
theorem freeF_iff (f : Nat → Bool) : ∀ (s a : Nat), freeF f s a = true ↔ ∀ k, a ≤ k → k < a + s → k ≤ 512 ∧ f k = false
 | 0, a => by simp [freeF]; intro k h1 h2; omega
 | s + 1, a => by
  rw [freeF]
  by_cases e : 512 < a ∨ f a = true
  ·rw [if_pos e]
   simp only [Bool.false_eq_true, false_iff]
   intro h
   have := h a (Nat.le_refl _) (by omega)
   rcases e with e | e
   ·omega
   ·rw [e] at this; simp at this
  ·rw [if_neg e, freeF_iff f s (a + 1)]
   constructor
   ·intro h k h1 h2
    by_cases hk : k = a
    ·subst hk
     refine ⟨by omega, ?_⟩
     cases hf : f k
     ·rfl
     ·exact absurd (.inr hf) e
    ·exact h k (by omega) (by omega)
   ·intro h k h1 h2
    exact h k (by omega) (by omega)
theorem free_clash {lib : List ProfileD} {pre : List UnitD} {f : Int → Nat → Bool} (h : MarksP lib pre f) (hok : UnitsOk lib pre) (u : UnitD) (a s : Nat) (ha : u.address = a) (h1 : 1 ≤ s) (hs : lastU lib u = (a : Int) + s - 1) (h2 : lastU lib u ≤ 512) : freeF (f u.univ) s a = !clashU lib u pre := by
 rw [Bool.eq_iff_iff, freeF_iff]
 simp only [Bool.not_eq_true', clashU, List.any_eq_false, decide_eq_true_eq, not_and]
 constructor
 ·intro hf x hx e1 e2 e3
  have hx' := hok x hx
  obtain ⟨k, hk⟩ : ∃ k : Nat, (k : Int) = max x.address a := ⟨(max x.address (a : Int)).toNat, by omega⟩
  have hf' := (hf k (by omega) (by omega)).2
  have : f u.univ k = true := (h u.univ k).2 ⟨x, hx, e1, by omega, by omega⟩
  rw [this] at hf'; simp at hf'
 ·intro hf k h3 h4
  refine ⟨by omega, ?_⟩
  cases hfk : f u.univ k
  ·rfl
  ·obtain ⟨x, hx, e1, e2, e3⟩ := (h u.univ k).1 hfk
   exact absurd (show u.address ≤ lastU lib x by omega) (hf x hx e1 (by omega))
theorem profileF_size {p : ProfileD} (h : profileF p = 0) : 1 ≤ p.size ∧ p.size ≤ 512 := by
 unfold profileF at h
 by_cases h1 : nameB p.name = false
 ·rw [if_pos h1] at h; simp at h
 ·rw [if_neg h1] at h
  by_cases h2 : withinB p.size 1 512 = false
  ·rw [if_pos h2] at h; simp at h
  ·simpa [withinB] using h2
theorem chkL_sizes : ∀ (l pre : List ProfileD), chkL pre l = 0 → ∀ p ∈ l, 1 ≤ p.size ∧ p.size ≤ 512
 | [], pre, h, p, hp => by simp at hp
 | q :: rest, pre, h, p, hp => by
  rw [chkL] at h
  by_cases e : profileF q = 0
  ·rw [if_pos e] at h
   by_cases e2 : memB q.name (pre.map (·.name)) = true
   ·rw [if_pos e2] at h; simp at h
   ·rw [if_neg e2] at h
    simp only [List.mem_cons] at hp
    rcases hp with rfl | hp
    ·exact profileF_size e
    ·exact chkL_sizes rest _ h p hp
  ·rw [if_neg e] at h; exact absurd h e
theorem libF_sizes {l : List ProfileD} (h : libF l = 0) : ∀ p ∈ l, 1 ≤ p.size ∧ p.size ≤ 512 := by
 unfold libF at h
 by_cases e : 60 < l.length
 ·rw [if_pos e] at h; simp at h
 ·rw [if_neg e] at h; exact chkL_sizes l [] h
theorem profOf_mem (nm : ByteArray) : ∀ (l : List ProfileD), (profOf nm l).2 = true → (profOf nm l).1 ∈ l
 | [], h => by simp [profOf] at h
 | p :: r, h => by
  rw [profOf] at h ⊢
  by_cases e : p.name = nm
  ·rw [if_pos e]; simp
  ·rw [if_neg e] at h ⊢
   exact List.mem_cons_of_mem _ (profOf_mem nm r h)
theorem UnitsOk.snoc {lib : List ProfileD} {pre : List UnitD} (h : UnitsOk lib pre) {u : UnitD} (h1 : 1 ≤ u.address ∧ u.address ≤ lastU lib u ∧ lastU lib u ≤ 512) : UnitsOk lib (pre ++ [u]) := fun x hx => by
 simp only [List.mem_append, List.mem_singleton] at hx
 rcases hx with hx | rfl
 ·exact h x hx
 ·exact h1
end Go.Proofs.Ytohbeolimnpehaa

namespace Go.Proofs.Ytohbeolimnpehaa
set_option linter.unusedSectionVars false
set_option linter.unusedVariables false
set_option linter.unusedSimpArgs false
theorem Within_eq (n lo hi : Int) (σ : Heap) : m_word_Within [.int .i64 n, .int .i64 lo, .int .i64 hi] σ = some (.bool (withinB n lo hi), σ) := by
 refine wrap_eq rfl ?_ rfl
 show r_word_Within _ _ _ σ = _
 unfold r_word_Within withinB
 by_cases h : lo ≤ n <;> simp only [MSb, reduceCtorEq, h, true_and, false_and]
theorem When_eq (b : Bool) (n : Int) (σ : Heap) : m_word_When [.bool b, .int .i64 n] σ = some (.int .i64 (if b = true then n else 0), σ) := by
 refine wrap_eq rfl ?_ rfl
 show r_word_When _ _ σ = _
 unfold r_word_When
 cases b <;> simp [MSb, reduceCtorEq]
theorem sidx_eq (s : ByteArray) {i : Nat} (h : i < s.size) : A.sidx (.str s) (.int .i64 (i : Int)) = some (.int .u8 (s.data.toList.getD i 0).toNat) := by
 have h1 : s[i]? = some s[i] := by simp [h]
 simp [A.sidx, A.idx, h, getD_byte s i h]
 rfl
theorem isEmpty_ne (s : ByteArray) : (decide (¬ s = ⟨#[]⟩)) = decide (0 < s.size) := by
 rw [decide_eq_decide]
 constructor
 ·intro h
  rcases Nat.eq_zero_or_pos s.size with e | e
  ·exact absurd (ByteArray.ext (Array.eq_empty_of_size_eq_zero e)) h
  ·exact e
 ·rintro h rfl; exact absurd h (by decide)
theorem Row_eq (s : ByteArray) (hs : okS s) (σ : Heap) : m_word_Row [.str s] σ = some (.bool (rowB s), σ) := by
 refine wrap_eq rfl ?_ rfl
 show r_word_Row _ σ = _
 unfold r_word_Row
 simp only [MSb, reduceCtorEq]
 refine (all_loop (p := okc) s (some (.bool false, σ)) ?_ ?_ ?_).trans ?_
 ·intro i c hi hc
  have h1 : inI ((i : Int) + 1) := by unfold okS mxl at hs; unfold inI; omega
  have h2 : (i : Int) < s.size := by omega
  simp only [MSb, reduceCtorEq, h2, hc, wrap64 h1, okc]
  clear hc h1
  repeat' ((first | rw [gDp] | rw [gDb] | rw [cDp] | rw [cDnp] | rw [cDn] | rw [cDb]); split <;> try simp only [MSb, reduceCtorEq, *])
  all_goals first | rfl | (refine (if_pos ?_).symm; simp; omega) | (refine (if_neg ?_).symm; simp; omega) | (refine congrArg some (congrArg (fun b => (AV.bool b, σ)) ?_); rw [Bool.eq_iff_iff]; simp; omega)
 ·simp only [MSb, reduceCtorEq, Int.lt_irrefl]
 ·intro i; simp only [MSb, reduceCtorEq]
 ·simp only [MSb, reduceCtorEq, isEmpty_ne, rowB]
  cases s.data.toList.all okc <;> simp
theorem rowB_pos {s : ByteArray} (h : rowB s = true) : 0 < s.size := by
 simp only [rowB, Bool.and_eq_true, decide_eq_true_eq] at h; exact h.2
theorem Name_eq (s : ByteArray) (hs : okS s) (σ : Heap) : m_word_Name [.str s] σ = some (.bool (nameB s), σ) := by
 refine wrap_eq rfl ?_ rfl
 show r_word_Name _ σ = _
 unfold r_word_Name
 simp only [MSb, reduceCtorEq, Row_eq s hs]
 cases h : rowB s
 ·simp [MSb, reduceCtorEq, nameB, h]
 ·have h0 := rowB_pos h
  have := sidx_eq s h0
  simp only [Int.ofNat_zero] at this
  simp only [MSb, reduceCtorEq, this]
  simp only [nameB, h, Bool.true_and]
  generalize s.data.toList.getD 0 0 = c0 at *
  repeat' ((first | rw [gDp] | rw [gDb] | rw [cDp] | rw [cDnp] | rw [cDn] | rw [cDb]); split <;> try simp only [MSb, reduceCtorEq, *])
  all_goals first | rfl | (refine (if_pos ?_).symm; simp; omega) | (refine (if_neg ?_).symm; simp; omega) | (refine congrArg some (congrArg (fun b => (AV.bool b, σ)) ?_); rw [Bool.eq_iff_iff]; simp; omega)
theorem Title_eq (s : ByteArray) (hs : okS s) (σ : Heap) : m_word_Title [.str s] σ = some (.bool (titleB s), σ) := by
 refine wrap_eq rfl ?_ rfl
 show r_word_Title _ σ = _
 unfold r_word_Title
 simp only [MSb, reduceCtorEq]
 refine (all_loop (p := pc) s (some (.bool false, σ)) ?_ ?_ ?_).trans ?_
 ·intro i c hi hc
  have h1 : inI ((i : Int) + 1) := by unfold okS mxl at hs; unfold inI; omega
  have h2 : (i : Int) < s.size := by omega
  simp only [MSb, reduceCtorEq, h2, hc, wrap64 h1, pc]
  clear h1
  repeat' ((first | rw [gDp] | rw [gDb] | rw [cDp] | rw [cDnp] | rw [cDn] | rw [cDb]); split <;> try simp only [MSb, reduceCtorEq, *])
  all_goals first | rfl | (refine (if_pos ?_).symm; simp; omega) | (refine (if_neg ?_).symm; simp; omega) | (refine congrArg some (congrArg (fun b => (AV.bool b, σ)) ?_); rw [Bool.eq_iff_iff]; simp; omega)
 ·simp only [MSb, reduceCtorEq, Int.lt_irrefl]
 ·intro i; simp only [MSb, reduceCtorEq]
 ·simp only [MSb, reduceCtorEq, isEmpty_ne, titleB]
  cases s.data.toList.all pc
  ·simp
  ·simp only [if_true, Bool.true_and]
   by_cases h0 : 0 < s.size
   ·by_cases h60 : s.size ≤ 60
    ·have e0 := sidx_eq s h0
     have e1 := sidx_eq s (i := s.size - 1) (by omega)
     simp only [Int.ofNat_zero] at e0
     rw [show ((s.size - 1 : Nat) : Int) = (s.size : Int) - 1 by omega] at e1
     have h1 : inI ((s.size : Int) - 1) := by unfold okS mxl at hs; unfold inI; omega
     have h60' : (s.size : Int) ≤ 60 := by omega
     have hw := wrap64 h1
     simp only [edgeB, h0, h60]
     generalize s.data.toList.getD 0 0 = c0 at *
     generalize s.data.toList.getD (s.size - 1) 0 = c1 at *
     simp only [MSb, reduceCtorEq, h0, h60', e0, e1, hw]
     repeat' ((first | rw [gDp] | rw [gDb] | rw [cDp] | rw [cDnp] | rw [cDn] | rw [cDb]); split <;> try simp only [MSb, reduceCtorEq, *])
     all_goals first | rfl | (refine (if_pos ?_).symm; simp; omega) | (refine (if_neg ?_).symm; simp; omega) | (refine congrArg some (congrArg (fun b => (AV.bool b, σ)) ?_); rw [Bool.eq_iff_iff]; simp; omega)
    ·have h60' : ¬ (s.size : Int) ≤ 60 := by omega
     simp [MSb, reduceCtorEq, h0, h60', edgeB, h60]
   ·simp [MSb, reduceCtorEq, h0, edgeB]
end Go.Proofs.Ytohbeolimnpehaa

namespace Go.Proofs.Ytohbeolimnpehaa
set_option linter.unusedSectionVars false
set_option linter.unusedVariables false
set_option linter.unusedSimpArgs false
theorem loop_anyN {γ : Type} {f : List AV → Heap → Option (AX × List AV × Heap)} (a n : Nat) (p : Nat → Bool) (vs : Nat → List AV) (σ : Heap) (fin : AX × List AV × Heap) (ret : Nat → AX × List AV × Heap) {k : AX × List AV × Heap → Option γ} (K1 K2 : Option γ)
  (hstep : ∀ (i : Nat), a ≤ i → i < a + n → f (vs i) σ = if p i = true then some (ret i) else some (.normal, vs (i + 1), σ)) (hend : f (vs (a + n)) σ = some fin) (hk1 : k fin = K1) (hk2 : ∀ i, k (ret i) = K2)
  (hfin : fin.1 ≠ .normal := by simp) (hret : ∀ i, (ret i).1 ≠ .normal := by intros; simp) {v : List AV} {σ' : Heap} (hv : v = vs a := by rfl) (hσ : σ' = σ := by rfl) :
  (A.loop f v σ').bind k = if (List.range' a n).any p = true then K2 else K1 := by
 refine loop_any (List.range' a n) p (fun i => vs (a + i)) σ fin (fun i => ret (a + i)) K1 K2 ?_ (by rw [List.length_range']; exact hend) hk1 (fun i => hk2 _) hfin (fun i => hret _) hv hσ
 intro i x hx
 obtain ⟨h1, h2⟩ := List.getElem?_eq_some_iff.1 hx
 rw [List.length_range'] at h1
 obtain rfl : a + i = x := by simpa [List.getElem_range'] using h2
 exact hstep (a + i) (by omega) (by omega)
def zPoint : PointD := ⟨0, 0⟩
def badP (p : PointD) : Bool := !(withinB p.time 0 1000) || !(withinB p.way 0 1000)
def ordP (l : List PointD) (i : Nat) : Bool := decide ((l.getD i zPoint).time ≤ (l.getD (i - 1) zPoint).time ∨ (l.getD i zPoint).way < (l.getD (i - 1) zPoint).way)
def ptsF (l : List PointD) : Int :=
 if l.any badP = true then 1
 else if ¬ ((l.getD 0 zPoint).time = 0 ∧ (l.getD 0 zPoint).way = 0) then 3
 else if ¬ ((l.getD (l.length - 1) zPoint).time = 1000 ∧ (l.getD (l.length - 1) zPoint).way = 1000) then 3
 else if (List.range' 1 (l.length - 1)).any (ordP l) = true then 7 else 0
def curveF (c : CurveD) : Int :=
 if withinB c.kind 1 6 = false then 4
 else if c.kind = 6 then (if c.points.length < 2 then 8 else if 20 < c.points.length then 2 else ptsF c.points)
 else if 0 < c.points.length then 3 else 0
theorem ne_point (x : PointD) (a b : Int) : A.neq (.s [0, 0]) (.agg (cPoint x)) (.agg [.int .i64 a, .int .i64 b]) = some (.bool (decide (¬ (x.time = a ∧ x.way = b)))) := by
 simp only [A.neq, A.eqK, cPoint, A.eqAll, A.eqC, A.eqI, if_true, Option.bind_some, Option.map_some]
 congr 2
 rw [Bool.eq_iff_iff]
 simp
theorem spl20 (a b c : AV) : A.splice 0 [a] [b, c] = some [a, c] := rfl
theorem spl21 (a b c : AV) : A.splice 1 [a] [b, c] = some [b, a] := rfl
theorem getD_at {l : List PointD} {i : Nat} (h : i < l.length) : l[i]? = some (l.getD i zPoint) := by simp [h]
end Go.Proofs.Ytohbeolimnpehaa

namespace Go.Proofs.Ytohbeolimnpehaa
set_option linter.unusedSectionVars false
set_option linter.unusedVariables false
set_option linter.unusedSimpArgs false
theorem CheckCurve_eq (c : CurveD) (σ : Heap) : m_level_CheckCurve [.agg (cCurve c)] σ = some (.int .i64 (curveF c), σ) := by
 refine wrap_eq rfl ?_ rfl
 show r_level_CheckCurve (.agg (cCurve c)) σ = _
 unfold r_level_CheckCurve curveF
 simp only [MSb, reduceCtorEq, p1_cCurve_0, p1_cCurve_1, pA_cCurve, ce_cCurve, sp_cCurve, Within_eq]
 cases hk : withinB c.kind 1 6
 ·simp only [MSb, reduceCtorEq]
 by_cases h6 : c.kind = 6
 case neg =>
  by_cases h0 : 0 < c.points.length
  ·simp only [MSb, reduceCtorEq, p1_cCurve_0, p1_cCurve_1, pA_cCurve, ce_cCurve, sp_cCurve, h6, h0, When_eq, show (0 : Int) < c.points.length by omega]
  ·simp only [MSb, reduceCtorEq, p1_cCurve_0, p1_cCurve_1, pA_cCurve, ce_cCurve, sp_cCurve, h6, h0, When_eq, show ¬ (0 : Int) < c.points.length by omega]
 by_cases h2 : c.points.length < 2
 ·simp only [MSb, reduceCtorEq, p1_cCurve_0, p1_cCurve_1, pA_cCurve, ce_cCurve, sp_cCurve, h6, h2, show (c.points.length : Int) < 2 by omega]
 by_cases h20 : 20 < c.points.length
 ·simp only [MSb, reduceCtorEq, p1_cCurve_0, p1_cCurve_1, pA_cCurve, ce_cCurve, sp_cCurve, h6, h2, h20, show ¬ (c.points.length : Int) < 2 by omega, show (20 : Int) < c.points.length by omega]
 simp only [MSb, reduceCtorEq, p1_cCurve_0, p1_cCurve_1, pA_cCurve, ce_cCurve, sp_cCurve, h6, h2, h20, show ¬ (c.points.length : Int) < 2 by omega, show ¬ (20 : Int) < c.points.length by omega]
 have hmx : c.points.length ≤ mxl := by unfold mxl; omega
 refine (loop_any c.points badP (fun i => [.int .i64 0, .int .i64 (i : Int)]) σ (.exit 0, [.int .i64 0, .int .i64 (c.points.length : Int)], σ) (fun i => (.ret, [.int .i64 1, .int .i64 (i : Int)], σ))
  (some (.int .i64 (if ¬ ((c.points.getD 0 zPoint).time = 0 ∧ (c.points.getD 0 zPoint).way = 0) then 3
 else if ¬ ((c.points.getD (c.points.length - 1) zPoint).time = 1000 ∧ (c.points.getD (c.points.length - 1) zPoint).way = 1000) then 3
 else if (List.range' 1 (c.points.length - 1)).any (ordP c.points) = true then 7 else 0), σ)) (some (.int .i64 1, σ)) ?_ ?_ ?_ ?_).trans ?_
 ·intro i x hx
  obtain ⟨g1, g2, g3⟩ := iaddr_at 2 cPoint hx
  have g3 := g3 hmx
  simp only [MSb, reduceCtorEq, p1_cPoint_0, p1_cPoint_1, pA_cPoint, ce_cPoint, sp_cPoint, g1, g2, g3, Within_eq, badP]
  rcases Bool.eq_false_or_eq_true (withinB x.time 0 1000) with e | e
  ·rcases Bool.eq_false_or_eq_true (withinB x.way 0 1000) with e' | e' <;> simp only [MSb, reduceCtorEq, Within_eq, e, e', Bool.false_or, Bool.or_false]
  ·simp only [MSb, reduceCtorEq, e, Bool.true_or]
 ·exact hend_lss _ _ _
 ·have g0 := iaddr_sl 2 cPoint c.points (getD_at (l := c.points) (i := 0) (by omega))
  have gl := iaddr_pred 2 cPoint c.points (k := c.points.length) (by omega) (getD_at (by omega))
  have hw : IntKind.i64.wrap ((c.points.length : Int) - 1) = (c.points.length : Int) - 1 := wrap64 (by unfold inI; omega)
  simp only [Int.ofNat_zero, Int.natCast_zero] at g0
  simp only [MSb, reduceCtorEq, p1_cCurve_0, p1_cCurve_1, pA_cCurve, ce_cCurve, sp_cCurve, p1_cPoint_0, p1_cPoint_1, pA_cPoint, ce_cPoint, sp_cPoint, g0, ne_point]
  by_cases e1 : (c.points.getD 0 zPoint).time = 0 ∧ (c.points.getD 0 zPoint).way = 0
  case neg => simp only [MSb, reduceCtorEq, e1]
  simp only [MSb, reduceCtorEq, p1_cCurve_0, p1_cCurve_1, pA_cCurve, ce_cCurve, sp_cCurve, e1, hw, gl, p1_cPoint_0, p1_cPoint_1, pA_cPoint, ce_cPoint, sp_cPoint]
  by_cases e2 : (c.points.getD (c.points.length - 1) zPoint).time = 1000 ∧ (c.points.getD (c.points.length - 1) zPoint).way = 1000
  case neg =>
   simp only [spl20, spl21, MSb, reduceCtorEq, ne_point, e2]
  simp only [spl20, spl21, MSb, reduceCtorEq, ne_point, e2]
  refine (loop_anyN 1 (c.points.length - 1) (ordP c.points) (fun i => [.int .i64 0, .int .i64 (i : Int)]) σ (.exit 2, [.int .i64 0, .int .i64 (c.points.length : Int)], σ) (fun i => (.ret, [.int .i64 7, .int .i64 (i : Int)], σ)) (some (AV.int .i64 0, σ)) (some (AV.int .i64 7, σ)) ?_ ?_ ?_ ?_).trans ?_
  ·intro i hi1 hi2
   have k1 := iaddr_sl 2 cPoint c.points (getD_at (l := c.points) (i := i) (by omega))
   have k2 := iaddr_pred 2 cPoint c.points (k := i) (by omega) (getD_at (by omega))
   have k3 : IntKind.i64.wrap ((i : Int) - 1) = (i : Int) - 1 := wrap64 (by unfold inI; omega)
   have k4 : IntKind.i64.wrap ((i : Int) + 1) = ((i + 1 : Nat) : Int) := by rw [wrap64 (by unfold inI; omega)]; omega
   have k5 : (i : Int) < c.points.length := by omega
   simp only [MSb, reduceCtorEq, p1_cCurve_0, p1_cCurve_1, pA_cCurve, ce_cCurve, sp_cCurve, p1_cPoint_0, p1_cPoint_1, pA_cPoint, ce_cPoint, sp_cPoint, k1, k2, k3, k5, ordP]
   by_cases q1 : (c.points.getD i zPoint).time ≤ (c.points.getD (i - 1) zPoint).time
   ·simp only [MSb, reduceCtorEq, q1]
   ·by_cases q2 : (c.points.getD i zPoint).way < (c.points.getD (i - 1) zPoint).way <;> simp only [MSb, reduceCtorEq, p1_cCurve_0, p1_cCurve_1, pA_cCurve, ce_cCurve, sp_cCurve, p1_cPoint_0, p1_cPoint_1, pA_cPoint, ce_cPoint, sp_cPoint, k1, k2, k3, k4, q1, q2]
  ·rw [show 1 + (c.points.length - 1) = c.points.length by omega]
   simp only [MSb, reduceCtorEq, p1_cCurve_0, p1_cCurve_1, pA_cCurve, ce_cCurve, sp_cCurve, Int.lt_irrefl]
  ·simp only [MSb, reduceCtorEq]
  ·intro i; simp only [MSb, reduceCtorEq]
  ·cases (List.range' 1 (c.points.length - 1)).any (ordP c.points) <;> rfl
 ·intro i; simp only [MSb, reduceCtorEq]
 ·unfold ptsF
  cases c.points.any badP <;> rfl
end Go.Proofs.Ytohbeolimnpehaa

namespace Go.Proofs.Ytohbeolimnpehaa
set_option linter.unusedSectionVars false
set_option linter.unusedVariables false
set_option linter.unusedSimpArgs false
theorem First_eq (l : List Int) (hl : l.length ≤ mxl) (σ : Heap) : m_word_First [sl 1 cInt l] σ = some (.int .i64 ((l.find? fun n => decide (¬ n = 0)).getD 0), σ) := by
 refine wrap_eq rfl ?_ rfl
 show r_word_First (sl 1 cInt l) σ = _
 unfold r_word_First
 simp only [MSb, reduceCtorEq]
 refine (loop_find l (fun n => decide (¬ n = 0)) (fun i => [.int .i64 0, .int .i64 (i : Int)]) σ (.exit 0, [.int .i64 0, .int .i64 (l.length : Int)], σ) (fun i n => (.ret, [.int .i64 n, .int .i64 (i : Int)], σ)) (some (AV.int .i64 0, σ)) (fun n => some (AV.int .i64 n, σ)) ?_ ?_ ?_ ?_).trans ?_
 ·intro i x hx
  obtain ⟨g1, g2, g3⟩ := iaddr_at 1 cInt hx
  have g3 := g3 hl
  simp only [MSb, reduceCtorEq, g1, g2, g3]
  repeat' ((first | rw [gDp] | rw [gDb] | rw [cDp] | rw [cDnp] | rw [cDn] | rw [cDb]); split <;> try simp only [MSb, reduceCtorEq, *])
  all_goals first | with_reducible rfl | (simp [*]; done) | (simp_all; done) | (simp_all; omega) | rfl
 ·exact hend_lss _ _ _
 ·simp only [MSb, reduceCtorEq]
 ·intro i n; simp only [MSb, reduceCtorEq]
 ·cases l.find? (fun n => decide (¬ n = 0)) <;> rfl
end Go.Proofs.Ytohbeolimnpehaa

namespace Go.Proofs.Ytohbeolimnpehaa
set_option linter.unusedSectionVars false
set_option linter.unusedVariables false
set_option linter.unusedSimpArgs false
theorem isLevelF_eq (n : Int) (σ : Heap) : m_fixture_isLevel [.int .i64 n] σ = some (.bool (withinB n 0 65535), σ) := by
 refine wrap_eq rfl ?_ rfl
 show r_fixture_isLevel _ σ = _
 unfold r_fixture_isLevel
 simp only [MSb, reduceCtorEq, Within_eq]
theorem checkRanges_eq (l : List RangeD) (hok : okL okRange l) (σ : Heap) : m_fixture_checkRanges [sl 3 cRange l] σ = some (.int .i64 (rangesF l), σ) := by
 refine wrap_eq rfl ?_ rfl
 show r_fixture_checkRanges (sl 3 cRange l) σ = _
 unfold r_fixture_checkRanges rangesF
 simp only [MSb, reduceCtorEq]
 by_cases h30 : 30 < l.length
 ·have h30' : (30 : Int) < l.length := by omega
  simp only [MSb, reduceCtorEq, h30, h30']
 ·have h30' : ¬ (30 : Int) < l.length := by omega
  simp only [MSb, reduceCtorEq, h30, h30']
  refine (loop_pre (S := Unit) (R := Int) l (fun pre x _ =>
    if withinB x.low 0 65535 = false ∨ withinB x.high 0 65535 = false ∨ x.high < x.low then .out 1
    else if 0 < pre.length ∧ x.low ≤ (pre.getLast?.map (·.high)).getD 0 then .out 7
    else if nameB x.name = false then .out 5
    else if memB x.name (pre.map (·.name)) = true then .out 6 else .go ())
   (fun pre _ => [.int .i64 0, .int .i64 (pre.length : Int)]) (fun pre _ => σ ++ [Blk.map (setZ (·.name) pre)])
   (fun _ => (.exit 0, [.int .i64 0, .int .i64 (l.length : Int)], σ ++ [Blk.map (setZ (·.name) l)])) (fun pre _ r => (.ret, [.int .i64 r, .int .i64 (pre.length : Int)], σ ++ [Blk.map (setZ (·.name) pre)]))
   (fun _ _ => True) () (fun _ => some (AV.int .i64 0, σ)) (fun r => some (AV.int .i64 r, σ)) ?_ ?_ trivial (fun _ _ _ _ _ _ _ _ => trivial) ?_ ?_).trans ?_
  ·intro pre x rest u hl _
   have hx := pre_get hl
   have hlt := pre_lt hl
   have hi1 : IntKind.i64.wrap ((pre.length : Int) + 1) = (pre.length : Int) + 1 := wrap64 (by unfold inI; omega)
   have hi2 : IntKind.i64.wrap ((pre.length : Int) - 1) = (pre.length : Int) - 1 := wrap64 (by unfold inI; omega)
   have hlt' : (pre.length : Int) < (l.length : Int) := by omega
   have hnm := (hok.2 x (by rw [hl]; simp)).2.2
   have hia := iaddr_sl 3 cRange l hx
   have hN := Name_eq _ hnm
   by_cases h0 : 0 < pre.length
   ·obtain ⟨y, hy, hy2⟩ := pre_last hl h0
    have hia2 := iaddr_pred 3 cRange l h0 hy2
    have h0' : (0 : Int) < pre.length := by omega
    clear hl hx hlt hok h30 h30' hy2 hnm
    simp only [MSb, reduceCtorEq, p1_cRange_0, p1_cRange_1, p1_cRange_2, pA_cRange, ce_cRange, sp_cRange, hlt', hia, isLevelF_eq, hi1, hi2, hN, h0', hy, h0]
    repeat' ((first | rw [gDp] | rw [gDb] | rw [cDp] | rw [cDnp] | rw [cDn] | rw [cDb]); split <;> try simp only [MSb, reduceCtorEq, p1_cRange_0, p1_cRange_1, p1_cRange_2, pA_cRange, ce_cRange, sp_cRange, isLevelF_eq, *])
    all_goals first | with_reducible rfl | (simp [*]; done) | (simp_all; done) | (simp_all; omega) | rfl
   ·have h0' : ¬ (0 : Int) < pre.length := by omega
    clear hl hx hlt hok h30 h30' hnm
    simp only [MSb, reduceCtorEq, p1_cRange_0, p1_cRange_1, p1_cRange_2, pA_cRange, ce_cRange, sp_cRange, hlt', hia, isLevelF_eq, hi1, hi2, hN, h0', h0]
    repeat' ((first | rw [gDp] | rw [gDb] | rw [cDp] | rw [cDnp] | rw [cDn] | rw [cDb]); split <;> try simp only [MSb, reduceCtorEq, p1_cRange_0, p1_cRange_1, p1_cRange_2, pA_cRange, ce_cRange, sp_cRange, isLevelF_eq, *])
    all_goals first | with_reducible rfl | (simp [*]; done) | (simp_all; done) | (simp_all; omega) | rfl
  ·intro u _
   simp only [MSb, reduceCtorEq, Int.lt_irrefl]
  ·intro u _; simp only [MSb, reduceCtorEq]
  ·intros; simp only [MSb, reduceCtorEq]
  ·refine (runP_fault (chk := chkR) ?_ ?_ (fun n => some (AV.int .i64 n, σ)) l []).trans ?_
   ·intro pre; rfl
   ·intro pre x rest; rw [chkR]; simp only [el_ite, el_out, el_go]
   ·rfl

theorem CheckProfile_eq (p : ProfileD) (hok : okProfile p) (σ : Heap) : m_fixture_CheckProfile [.agg (cProfile p)] σ = some (.int .i64 (profileF p), σ) := by
 refine wrap_eq rfl ?_ rfl
 show r_fixture_CheckProfile (.agg (cProfile p)) σ = _
 obtain ⟨pn, ps, l⟩ := p
 obtain ⟨hnm, hps, hokl⟩ := hok
 simp only at hnm hps hokl
 have hN := Name_eq _ hnm
 unfold r_fixture_CheckProfile profileF
 simp only [MSb, reduceCtorEq, p1_cProfile_0, p1_cProfile_1, p1_cProfile_2, pA_cProfile, ce_cProfile, sp_cProfile, hN, Within_eq]
 cases hn : nameB pn
 ·simp only [MSb, reduceCtorEq]
 cases hz : withinB ps 1 512
 ·simp only [MSb, reduceCtorEq]
 by_cases h0 : l.length = 0
 ·obtain rfl : l = [] := List.eq_nil_of_length_eq_zero h0
  simp [MSb, reduceCtorEq]
 have h0' : ¬ (l.length : Int) = 0 := by omega
 by_cases h40 : 40 < l.length
 ·have h40' : (40 : Int) < l.length := by omega
  simp only [MSb, reduceCtorEq, h0, h0', h40, h40']
 have h40' : ¬ (40 : Int) < l.length := by omega
 simp only [MSb, reduceCtorEq, h0, h0', h40, h40']
 refine (loop_pre (S := Unit) (R := Int) l (fun pre x _ =>
   if nameB x.name = false then .out 5
   else if memB x.name (pre.map (·.name)) = true then .out 6
   else if withinB x.group 1 4 = false then .out 4
   else if withinB x.att 1 ps = false ∨ withinB x.fine 0 ps = false ∨ withinB x.default 0 65535 = false then .out 1
   else if x.att = x.fine ∨ memB x.att (slotsOf pre) = true ∨ (0 < x.fine ∧ memB x.fine (slotsOf pre) = true) then .out 12
   else if rangesF x.ranges = 0 then .go () else .out (rangesF x.ranges))
  (fun pre _ => [.lbx (cProfile ⟨pn, ps, l⟩), .int .i64 0, .int .i64 (pre.length : Int)]) (fun pre _ => σ ++ [Blk.map (setZ (·.name) pre), Blk.map (setI id (slotsOf pre))])
  (fun _ => (.exit 1, [.lbx (cProfile ⟨pn, ps, l⟩), .int .i64 0, .int .i64 (l.length : Int)], σ ++ [Blk.map (setZ (·.name) l), Blk.map (setI id (slotsOf l))]))
  (fun pre _ r => (.ret, [.lbx (cProfile ⟨pn, ps, l⟩), .int .i64 r, .int .i64 (pre.length : Int)], σ ++ [Blk.map (setZ (·.name) pre), Blk.map (setI id (slotsOf pre))]))
  (fun _ _ => True) () (fun _ => some (AV.int .i64 0, σ)) (fun r => some (AV.int .i64 r, σ)) ?_ ?_ trivial (fun _ _ _ _ _ _ _ _ => trivial) ?_ ?_).trans ?_
 ·intro pre x rest u hl _
  have hx := pre_get hl; have hlt := pre_lt hl; have hi1 : IntKind.i64.wrap ((pre.length : Int) + 1) = (pre.length : Int) + 1 := wrap64 (by unfold inI; omega); have hi2 : IntKind.i64.wrap ((pre.length : Int) - 1) = (pre.length : Int) - 1 := wrap64 (by unfold inI; omega); have hlt' : (pre.length : Int) < (l.length : Int) := by omega
  obtain ⟨k1, k2, k3, k4, k5, k6⟩ := hokl.2 x (by rw [hl]; simp)
  have hNx := Name_eq _ k1
  have hRx := checkRanges_eq _ k6
  have hia := iaddr_sl 7 cParam l hx
  clear hl hx hlt hokl h40 h40' h0 h0' k1 k2 k3 k4 k5 k6 hnm hps hN hn hz
  simp only [MSb, reduceCtorEq, p1_cParam_0, p1_cParam_1, p1_cParam_2, p1_cParam_3, p1_cParam_4, p1_cParam_5, p1_cParam_6, pA_cParam, ce_cParam, sp_cParam, p1_cProfile_0, p1_cProfile_1, p1_cProfile_2, pA_cProfile, ce_cProfile, sp_cProfile, hlt', hia, Within_eq, isLevelF_eq, hi1, hi2, hNx, hRx, List.map_id]
  repeat' ((first | rw [gDp] | rw [gDb] | rw [cDp] | rw [cDnp] | rw [cDn] | rw [cDb]); split <;> try simp only [MSb, reduceCtorEq, p1_cParam_0, p1_cParam_1, p1_cParam_2, p1_cParam_3, p1_cParam_4, p1_cParam_5, p1_cParam_6, pA_cParam, ce_cParam, sp_cParam, p1_cProfile_0, p1_cProfile_1, p1_cProfile_2, pA_cProfile, ce_cProfile, sp_cProfile, Within_eq, isLevelF_eq, List.map_id, setI_fold, memB_snoc, Bool.or_false, *])
  all_goals first | rfl | (simp_all; done) | (simp_all [slotsOf_snoc, setI_fold]; done) | (simp only [slotsOf_snoc, ite_false, ite_true, if_false, if_true, *] <;> simp_all)
 ·intro u _
  simp only [MSb, reduceCtorEq, Int.lt_irrefl]
 ·intro u _; simp only [MSb, reduceCtorEq]
 ·intros; simp only [MSb, reduceCtorEq]
 ·refine (runP_fault (chk := chkP ps) ?_ ?_ (fun n => some (AV.int .i64 n, σ)) l []).trans ?_
  ·intro pre; rfl
  ·intro pre x rest; rw [chkP]; simp only [el_ite, el_out, el_go]
  ·rfl
theorem CheckLibrary_eq (l : List ProfileD) (hok : okL okProfile l) (σ : Heap) : m_fixture_CheckLibrary [sl 3 cProfile l] σ = some (.int .i64 (libF l), σ) := by
 refine wrap_eq rfl ?_ rfl
 show r_fixture_CheckLibrary (sl 3 cProfile l) σ = _
 unfold r_fixture_CheckLibrary libF
 simp only [MSb, reduceCtorEq]
 by_cases h60 : 60 < l.length
 ·have h60' : (60 : Int) < l.length := by omega
  simp only [MSb, reduceCtorEq, h60, h60']
 have h60' : ¬ (60 : Int) < l.length := by omega
 simp only [MSb, reduceCtorEq, h60, h60']
 refine (loop_pre (S := Unit) (R := Int) l (fun pre x _ => if profileF x = 0 then (if memB x.name (pre.map (·.name)) = true then .out 6 else .go ()) else .out (profileF x))
  (fun pre _ => [.int .i64 0, .int .i64 (pre.length : Int)]) (fun pre _ => σ ++ [Blk.map (setZ (·.name) pre)])
  (fun _ => (.exit 0, [.int .i64 0, .int .i64 (l.length : Int)], σ ++ [Blk.map (setZ (·.name) l)])) (fun pre _ r => (.ret, [.int .i64 r, .int .i64 (pre.length : Int)], σ ++ [Blk.map (setZ (·.name) pre)]))
  (fun _ _ => True) () (fun _ => some (AV.int .i64 0, σ)) (fun r => some (AV.int .i64 r, σ)) ?_ ?_ trivial (fun _ _ _ _ _ _ _ _ => trivial) ?_ ?_).trans ?_
 ·intro pre x rest u hl _
  have hx := pre_get hl; have hlt := pre_lt hl; have hi1 : IntKind.i64.wrap ((pre.length : Int) + 1) = (pre.length : Int) + 1 := wrap64 (by unfold inI; omega); have hi2 : IntKind.i64.wrap ((pre.length : Int) - 1) = (pre.length : Int) - 1 := wrap64 (by unfold inI; omega); have hlt' : (pre.length : Int) < (l.length : Int) := by omega
  have hP := CheckProfile_eq x (hok.2 x (by rw [hl]; simp))
  have hia := iaddr_sl 3 cProfile l hx
  clear hl hx hlt hok h60 h60'
  simp only [MSb, reduceCtorEq, p1_cProfile_0, p1_cProfile_1, p1_cProfile_2, pA_cProfile, ce_cProfile, sp_cProfile, hlt', hia, hi1, hP]
  repeat' ((first | rw [gDp] | rw [gDb] | rw [cDp] | rw [cDnp] | rw [cDn] | rw [cDb]); split <;> try simp only [MSb, reduceCtorEq, p1_cProfile_0, p1_cProfile_1, p1_cProfile_2, pA_cProfile, ce_cProfile, sp_cProfile, *])
  all_goals first | with_reducible rfl | (simp [*]; done) | (simp_all; done) | (simp_all; omega) | rfl
 ·intro u _
  simp only [MSb, reduceCtorEq, Int.lt_irrefl]
 ·intro u _; simp only [MSb, reduceCtorEq]
 ·intros; simp only [MSb, reduceCtorEq]
 ·refine (runP_fault (chk := chkL) ?_ ?_ (fun n => some (AV.int .i64 n, σ)) l []).trans ?_
  ·intro pre; rfl
  ·intro pre x rest; rw [chkL]; simp only [el_ite, el_out, el_go]
  ·rfl
end Go.Proofs.Ytohbeolimnpehaa

namespace Go.Proofs.Ytohbeolimnpehaa
set_option linter.unusedSectionVars false
set_option linter.unusedVariables false
set_option linter.unusedSimpArgs false
theorem idxI_any {α : Type} (p : α → Bool) (l : List α) : decide (0 ≤ idxI p l) = l.any p := by
 rcases idxI_cases p l with ⟨h1, h2, _⟩ | ⟨k, x, h1, h2, h3, _⟩
 ·rw [h1, Bool.eq_iff_iff]
  simp only [decide_eq_true_eq, List.any_eq_true]
  exact ⟨fun h => by omega, fun ⟨x, hx, hp⟩ => by rw [h2 x hx] at hp; cases hp⟩
 ·rw [h3, Bool.eq_iff_iff]
  simp only [decide_eq_true_eq, List.any_eq_true]
  exact ⟨fun _ => ⟨x, List.mem_of_getElem? h1, h2⟩, fun _ => by omega⟩
theorem m_slices_IndexFunc_api_Profile_eq (dyn : Nat → List AV → Heap → Option (AV × Heap)) (l : List ProfileD) (hl : l.length ≤ mxl) (n : Nat) (caps : List AV) (p : ProfileD → Bool) (σ : Heap) (hd : ∀ x ∈ l, dyn n ((.agg (cProfile x) : AV) :: caps) σ = some (.bool (p x), σ)) : m_slices_IndexFunc_api_Profile dyn [sl 3 cProfile l, .fn n caps] σ = some (.int .i64 (idxI p l), σ) := by
 refine wrap_eq rfl ?_ rfl
 show r_slices_IndexFunc_api_Profile dyn (sl 3 cProfile l) (.fn n caps) σ = _
 unfold r_slices_IndexFunc_api_Profile
 simp only [MSb, reduceCtorEq]
 refine (loop_pre (S := Unit) (R := Int) l (fun pre x _ => if p x = true then .out (pre.length : Int) else .go ())
  (fun pre _ => [.int .i64 0, .int .i64 (pre.length : Int)]) (fun _ _ => σ) (fun _ => (.exit 0, [.int .i64 0, .int .i64 (l.length : Int)], σ)) (fun pre _ r => (.ret, [.int .i64 (pre.length : Int), .int .i64 (pre.length : Int)], σ))
  (fun _ _ => True) () (fun _ => some (AV.int .i64 (-1), σ)) (fun r => some (AV.int .i64 r, σ)) ?_ ?_ trivial (fun _ _ _ _ _ _ _ _ => trivial) ?_ ?_).trans ?_
 ·intro pre x rest u hl' _
  have hx := pre_get hl'
  have hlt := pre_lt hl'
  have hi1 : IntKind.i64.wrap ((pre.length : Int) + 1) = (pre.length : Int) + 1 := wrap64 (by unfold inI; unfold mxl at hl; omega)
  have hlt' : (pre.length : Int) < (l.length : Int) := by omega
  have hia := iaddr_sl 3 cProfile l hx
  have hdx := hd x (by rw [hl']; simp)
  simp only [MSb, reduceCtorEq, p1_cProfile_0, p1_cProfile_1, p1_cProfile_2, pA_cProfile, ce_cProfile, sp_cProfile, hlt', hia, A.callv, List.cons_append, List.nil_append, hdx, hi1]
  cases p x <;> simp [MSb, reduceCtorEq]
 ·intro u _; simp only [MSb, reduceCtorEq, Int.lt_irrefl]
 ·intro u _; simp only [MSb, reduceCtorEq]
 ·intro pre x rest s q hl' _ hb
  have : q = (pre.length : Int) := by
   cases hpx : p x
   ·rw [hpx] at hb; cases hb
   ·rw [hpx] at hb; simp at hb; exact hb.symm
  simp only [MSb, reduceCtorEq, this]
 ·rw [idxI_run p _ _ l [] (by simp)]
  simp only [List.nil_append]
  split
  ·rename_i h; rw [h]
  ·rfl
theorem m_slices_IndexFunc_api_Cue_eq (dyn : Nat → List AV → Heap → Option (AV × Heap)) (l : List CueD) (hl : l.length ≤ mxl) (n : Nat) (caps : List AV) (p : CueD → Bool) (σ : Heap) (hd : ∀ x ∈ l, dyn n ((.agg (cCue x) : AV) :: caps) σ = some (.bool (p x), σ)) : m_slices_IndexFunc_api_Cue dyn [sl 11 cCue l, .fn n caps] σ = some (.int .i64 (idxI p l), σ) := by
 refine wrap_eq rfl ?_ rfl
 show r_slices_IndexFunc_api_Cue dyn (sl 11 cCue l) (.fn n caps) σ = _
 unfold r_slices_IndexFunc_api_Cue
 simp only [MSb, reduceCtorEq]
 refine (loop_pre (S := Unit) (R := Int) l (fun pre x _ => if p x = true then .out (pre.length : Int) else .go ())
  (fun pre _ => [.int .i64 0, .int .i64 (pre.length : Int)]) (fun _ _ => σ) (fun _ => (.exit 0, [.int .i64 0, .int .i64 (l.length : Int)], σ)) (fun pre _ r => (.ret, [.int .i64 (pre.length : Int), .int .i64 (pre.length : Int)], σ))
  (fun _ _ => True) () (fun _ => some (AV.int .i64 (-1), σ)) (fun r => some (AV.int .i64 r, σ)) ?_ ?_ trivial (fun _ _ _ _ _ _ _ _ => trivial) ?_ ?_).trans ?_
 ·intro pre x rest u hl' _
  have hx := pre_get hl'
  have hlt := pre_lt hl'
  have hi1 : IntKind.i64.wrap ((pre.length : Int) + 1) = (pre.length : Int) + 1 := wrap64 (by unfold inI; unfold mxl at hl; omega)
  have hlt' : (pre.length : Int) < (l.length : Int) := by omega
  have hia := iaddr_sl 11 cCue l hx
  have hdx := hd x (by rw [hl']; simp)
  simp only [MSb, reduceCtorEq, p1_cCue_0, p1_cCue_1, p1_cCue_2, p1_cCue_3, p1_cCue_4, p1_cCue_5, p1_cCue_6, p1_cCue_7, p1_cCue_8, p1_cCue_9, p1_cCue_10, pA_cCue_curve, pA_cCue, ce_cCue, sp_cCue, hlt', hia, A.callv, List.cons_append, List.nil_append, hdx, hi1]
  cases p x <;> simp [MSb, reduceCtorEq]
 ·intro u _; simp only [MSb, reduceCtorEq, Int.lt_irrefl]
 ·intro u _; simp only [MSb, reduceCtorEq]
 ·intro pre x rest s q hl' _ hb
  have : q = (pre.length : Int) := by
   cases hpx : p x
   ·rw [hpx] at hb; cases hb
   ·rw [hpx] at hb; simp at hb; exact hb.symm
  simp only [MSb, reduceCtorEq, this]
 ·rw [idxI_run p _ _ l [] (by simp)]
  simp only [List.nil_append]
  split
  ·rename_i h; rw [h]
  ·rfl
theorem m_slices_ContainsFunc_api_Cue_eq (dyn : Nat → List AV → Heap → Option (AV × Heap)) (l : List CueD) (hl : l.length ≤ mxl) (n : Nat) (caps : List AV) (p : CueD → Bool) (σ : Heap) (hd : ∀ x ∈ l, dyn n ((.agg (cCue x) : AV) :: caps) σ = some (.bool (p x), σ)) : m_slices_ContainsFunc_api_Cue dyn [sl 11 cCue l, .fn n caps] σ = some (.bool (l.any p), σ) := by
 refine wrap_eq rfl ?_ rfl
 show r_slices_ContainsFunc_api_Cue dyn (sl 11 cCue l) (.fn n caps) σ = _
 unfold r_slices_ContainsFunc_api_Cue
 simp only [MSb, reduceCtorEq, m_slices_IndexFunc_api_Cue_eq dyn l hl n caps p σ hd]
 refine congrArg some (congrArg (fun b => (AV.bool b, σ)) ?_)
 exact idxI_any p l
theorem m_slices_IndexFunc_api_List_eq (dyn : Nat → List AV → Heap → Option (AV × Heap)) (l : List ListD) (hl : l.length ≤ mxl) (n : Nat) (caps : List AV) (p : ListD → Bool) (σ : Heap) (hd : ∀ x ∈ l, dyn n ((.agg (cList x) : AV) :: caps) σ = some (.bool (p x), σ)) : m_slices_IndexFunc_api_List dyn [sl 2 cList l, .fn n caps] σ = some (.int .i64 (idxI p l), σ) := by
 refine wrap_eq rfl ?_ rfl
 show r_slices_IndexFunc_api_List dyn (sl 2 cList l) (.fn n caps) σ = _
 unfold r_slices_IndexFunc_api_List
 simp only [MSb, reduceCtorEq]
 refine (loop_pre (S := Unit) (R := Int) l (fun pre x _ => if p x = true then .out (pre.length : Int) else .go ())
  (fun pre _ => [.int .i64 0, .int .i64 (pre.length : Int)]) (fun _ _ => σ) (fun _ => (.exit 0, [.int .i64 0, .int .i64 (l.length : Int)], σ)) (fun pre _ r => (.ret, [.int .i64 (pre.length : Int), .int .i64 (pre.length : Int)], σ))
  (fun _ _ => True) () (fun _ => some (AV.int .i64 (-1), σ)) (fun r => some (AV.int .i64 r, σ)) ?_ ?_ trivial (fun _ _ _ _ _ _ _ _ => trivial) ?_ ?_).trans ?_
 ·intro pre x rest u hl' _
  have hx := pre_get hl'
  have hlt := pre_lt hl'
  have hi1 : IntKind.i64.wrap ((pre.length : Int) + 1) = (pre.length : Int) + 1 := wrap64 (by unfold inI; unfold mxl at hl; omega)
  have hlt' : (pre.length : Int) < (l.length : Int) := by omega
  have hia := iaddr_sl 2 cList l hx
  have hdx := hd x (by rw [hl']; simp)
  simp only [MSb, reduceCtorEq, p1_cList_0, p1_cList_1, pA_cList, ce_cList, sp_cList, hlt', hia, A.callv, List.cons_append, List.nil_append, hdx, hi1]
  cases p x <;> simp [MSb, reduceCtorEq]
 ·intro u _; simp only [MSb, reduceCtorEq, Int.lt_irrefl]
 ·intro u _; simp only [MSb, reduceCtorEq]
 ·intro pre x rest s q hl' _ hb
  have : q = (pre.length : Int) := by
   cases hpx : p x
   ·rw [hpx] at hb; cases hb
   ·rw [hpx] at hb; simp at hb; exact hb.symm
  simp only [MSb, reduceCtorEq, this]
 ·rw [idxI_run p _ _ l [] (by simp)]
  simp only [List.nil_append]
  split
  ·rename_i h; rw [h]
  ·rfl
theorem m_slices_IndexFunc_api_Playback_eq (dyn : Nat → List AV → Heap → Option (AV × Heap)) (l : List PlaybackD) (hl : l.length ≤ mxl) (n : Nat) (caps : List AV) (p : PlaybackD → Bool) (σ : Heap) (hd : ∀ x ∈ l, dyn n ((.agg (cPlayback x) : AV) :: caps) σ = some (.bool (p x), σ)) : m_slices_IndexFunc_api_Playback dyn [sl 3 cPlayback l, .fn n caps] σ = some (.int .i64 (idxI p l), σ) := by
 refine wrap_eq rfl ?_ rfl
 show r_slices_IndexFunc_api_Playback dyn (sl 3 cPlayback l) (.fn n caps) σ = _
 unfold r_slices_IndexFunc_api_Playback
 simp only [MSb, reduceCtorEq]
 refine (loop_pre (S := Unit) (R := Int) l (fun pre x _ => if p x = true then .out (pre.length : Int) else .go ())
  (fun pre _ => [.int .i64 0, .int .i64 (pre.length : Int)]) (fun _ _ => σ) (fun _ => (.exit 0, [.int .i64 0, .int .i64 (l.length : Int)], σ)) (fun pre _ r => (.ret, [.int .i64 (pre.length : Int), .int .i64 (pre.length : Int)], σ))
  (fun _ _ => True) () (fun _ => some (AV.int .i64 (-1), σ)) (fun r => some (AV.int .i64 r, σ)) ?_ ?_ trivial (fun _ _ _ _ _ _ _ _ => trivial) ?_ ?_).trans ?_
 ·intro pre x rest u hl' _
  have hx := pre_get hl'
  have hlt := pre_lt hl'
  have hi1 : IntKind.i64.wrap ((pre.length : Int) + 1) = (pre.length : Int) + 1 := wrap64 (by unfold inI; unfold mxl at hl; omega)
  have hlt' : (pre.length : Int) < (l.length : Int) := by omega
  have hia := iaddr_sl 3 cPlayback l hx
  have hdx := hd x (by rw [hl']; simp)
  simp only [MSb, reduceCtorEq, p1_cPlayback_0, p1_cPlayback_1, p1_cPlayback_2, pA_cPlayback, ce_cPlayback, sp_cPlayback, hlt', hia, A.callv, List.cons_append, List.nil_append, hdx, hi1]
  cases p x <;> simp [MSb, reduceCtorEq]
 ·intro u _; simp only [MSb, reduceCtorEq, Int.lt_irrefl]
 ·intro u _; simp only [MSb, reduceCtorEq]
 ·intro pre x rest s q hl' _ hb
  have : q = (pre.length : Int) := by
   cases hpx : p x
   ·rw [hpx] at hb; cases hb
   ·rw [hpx] at hb; simp at hb; exact hb.symm
  simp only [MSb, reduceCtorEq, this]
 ·rw [idxI_run p _ _ l [] (by simp)]
  simp only [List.nil_append]
  split
  ·rename_i h; rw [h]
  ·rfl
theorem m_slices_ContainsFunc_api_Playback_eq (dyn : Nat → List AV → Heap → Option (AV × Heap)) (l : List PlaybackD) (hl : l.length ≤ mxl) (n : Nat) (caps : List AV) (p : PlaybackD → Bool) (σ : Heap) (hd : ∀ x ∈ l, dyn n ((.agg (cPlayback x) : AV) :: caps) σ = some (.bool (p x), σ)) : m_slices_ContainsFunc_api_Playback dyn [sl 3 cPlayback l, .fn n caps] σ = some (.bool (l.any p), σ) := by
 refine wrap_eq rfl ?_ rfl
 show r_slices_ContainsFunc_api_Playback dyn (sl 3 cPlayback l) (.fn n caps) σ = _
 unfold r_slices_ContainsFunc_api_Playback
 simp only [MSb, reduceCtorEq, m_slices_IndexFunc_api_Playback_eq dyn l hl n caps p σ hd]
 refine congrArg some (congrArg (fun b => (AV.bool b, σ)) ?_)
 exact idxI_any p l
end Go.Proofs.Ytohbeolimnpehaa

namespace Go.Proofs.Ytohbeolimnpehaa
set_option linter.unusedSectionVars false
set_option linter.unusedVariables false
set_option linter.unusedSimpArgs false
theorem profOf_find (nm : ByteArray) : ∀ (l : List ProfileD), profOf nm l = match l.find? (fun x : ProfileD => decide (x.name = nm)) with | some p => (p, true) | none => (⟨⟨#[]⟩, 0, []⟩, false)
 | [] => rfl
 | p :: l => by
  rw [profOf]
  by_cases h : p.name = nm
  ·simp [h]
  ·simp [h, profOf_find nm l]
theorem profile_fn1_eq (x : ProfileD) (nm : ByteArray) (σ : Heap) : m_fixture_profile_fn1 [.agg (cProfile x), .rp [.str nm]] σ = some (.bool (decide (x.name = nm)), σ) := by
 refine wrap_eq rfl ?_ rfl
 show r_fixture_profile_fn1 (.agg (cProfile x)) (.rp [.str nm]) σ = _
 unfold r_fixture_profile_fn1
 simp only [MSb, reduceCtorEq, p1_cProfile_0, p1_cProfile_1, p1_cProfile_2, pA_cProfile, ce_cProfile, sp_cProfile]
 show (some (AV.str nm)).bind _ = _
 simp only [MSb, reduceCtorEq]
theorem nnP (x : ParamD) : A.nnL [.k, .k, .k, .k, .k, .k, (.s 3)] (cParam x) = cParam x := rfl
theorem nnProf (p : ProfileD) (b : Bool) : A.nn (.t [(.a [.k, .k, (.e 7 [.k, .k, .k, .k, .k, .k, (.s 3)])]), .k]) (.tup [.agg (cProfile p), .bool b]) = .tup [.agg (cProfile p), .bool b] := by
 show AV.tup [.agg [.str p.name, .int .i64 p.size, A.nn (.e 7 [.k, .k, .k, .k, .k, .k, (.s 3)]) (sl 7 cParam p.params)], .bool b] = _
 rw [nn_e nnP]; rfl
theorem profile_eq (l : List ProfileD) (hl : l.length ≤ mxl) (nm : ByteArray) (σ : Heap) : m_fixture_profile [sl 3 cProfile l, .str nm] σ = some (.tup [.agg (cProfile (profOf nm l).1), .bool (profOf nm l).2], σ) := by
 have key : ∃ w, r_fixture_profile (sl 3 cProfile l) (.str nm) σ = some (w, σ) ∧ A.nn (.t [(.a [.k, .k, (.e 7 [.k, .k, .k, .k, .k, .k, (.s 3)])]), .k]) w = .tup [.agg (cProfile (profOf nm l).1), .bool (profOf nm l).2] := by
  unfold r_fixture_profile
  simp only [MSb, reduceCtorEq]
  rw [m_slices_IndexFunc_api_Profile_eq _ l hl 64 [.rp [.str nm]] (fun x => decide (x.name = nm)) σ (fun x _ => profile_fn1_eq x nm σ)]
  simp only [MSb, reduceCtorEq]
  rw [profOf_find]
  rcases idxI_cases (fun x : ProfileD => decide (x.name = nm)) l with ⟨h1, _, h3⟩ | ⟨k, x, h1, h2, h3, h4, _⟩
  ·refine ⟨.tup [.agg [.str ⟨#[]⟩, .int .i64 0, .nsl], .bool false], ?_, ?_⟩
   ·rw [h1]
    simp only [MSb, reduceCtorEq, show ((-1 : Int) < 0) from by decide]
    rfl
   ·rw [h3]; rfl
  ·refine ⟨.tup [.agg (cProfile x), .bool true], ?_, ?_⟩
   ·rw [h3]
    simp only [MSb, reduceCtorEq, p1_cProfile_0, p1_cProfile_1, p1_cProfile_2, pA_cProfile, ce_cProfile, sp_cProfile, show ¬ ((k : Int) < 0) from by omega, iaddr_sl 3 cProfile l h1]
   ·rw [h4]; exact nnProf x true
 obtain ⟨w, h1, h2⟩ := key
 exact wrap_eq rfl h1 h2
end Go.Proofs.Ytohbeolimnpehaa

namespace Go.Proofs.Ytohbeolimnpehaa
set_option linter.unusedSectionVars false
set_option linter.unusedVariables false
set_option linter.unusedSimpArgs false
def marks (f : Nat → Bool) : List AV := (List.range 513).map fun k => .bool (f k)
theorem marks_get (f : Nat → Bool) {k : Nat} (h : k < 513) : (marks f)[k]? = some (.bool (f k)) := by simp [marks, h]
theorem marks_len (f : Nat → Bool) : (marks f).length = 513 := by simp [marks]
theorem freeF_run (f : Nat → Bool) {γ : Type} (K1 K2 : γ) : ∀ (s a : Nat) (pre : List Nat), (runP (fun _ k (_ : Unit) => if 512 < k ∨ f k = true then (Rd.out () : Rd Unit Unit) else .go ()) pre (List.range' a s) ()).el (fun _ => K1) (fun _ => K2) = if freeF f s a = true then K1 else K2
 | 0, a, pre => by simp [runP, freeF, Rd.el]
 | s + 1, a, pre => by
  rw [List.range'_succ, runP, freeF]
  by_cases h : 512 < a ∨ f a = true
  ·simp only [if_pos h, Rd.el]; simp
  ·simp only [if_neg h]
   exact freeF_run f K1 K2 s (a + 1) _
theorem free_np (a s : Int) (h : inI (a + s)) (h' : inI (a + s - 1)) (σ : Heap) : m_fixture_slots_free [.np, .int .i64 a, .int .i64 s] σ = some (.bool (decide (a + s - 1 ≤ 512)), σ) := by
 refine wrap_eq rfl ?_ rfl
 show r_fixture_slots_free .np (.int .i64 a) (.int .i64 s) σ = _
 unfold r_fixture_slots_free
 simp only [MSb, reduceCtorEq, show A.eql .p AV.np AV.np = some (.bool true) from rfl, wrap64 h, wrap64 h']
theorem aaddr_rp (cs : List AV) {k : Nat} (h : k < 513) : A.aaddr 513 1 (.rp cs) (.int .i64 (k : Int)) = some (.rp (cs.drop k)) := by
 have h1 : A.idx 513 (.int .i64 (k : Int)) = some k := by
  show (if (0 : Int) ≤ (k : Int) ∧ (k : Int) < ((513 : Nat) : Int) then some (k : Int).toNat else none) = some k
  rw [if_pos ⟨by omega, by omega⟩]; rfl
 unfold A.aaddr
 rw [h1]
 simp only [Option.bind_some, Nat.mul_one]
theorem free_rp (f : Nat → Bool) (a s : Nat) (hs : a ≤ 1024 ∧ s ≤ 1024) (σ : Heap) : m_fixture_slots_free [.rp (marks f), .int .i64 (a : Int), .int .i64 (s : Int)] σ = some (.bool (freeF f s a), σ) := by
 refine wrap_eq rfl ?_ rfl
 show r_fixture_slots_free (.rp (marks f)) (.int .i64 (a : Int)) (.int .i64 (s : Int)) σ = _
 unfold r_fixture_slots_free
 have hw : IntKind.i64.wrap ((a : Int) + s) = (a : Int) + s := wrap64 (by unfold inI; omega)
 simp only [MSb, reduceCtorEq, show A.eql .p (AV.rp (marks f)) AV.np = some (.bool false) from rfl, hw]
 refine (loop_pre (S := Unit) (R := Unit) (List.range' a s) (fun _ k (_ : Unit) => if 512 < k ∨ f k = true then (Rd.out () : Rd Unit Unit) else .go ())
  (fun pre _ => [.bool false, .int .i64 ((a : Int) + (pre.length : Int))]) (fun _ _ => σ) (fun _ => (.exit 0, [.bool false, .int .i64 ((a : Int) + s)], σ)) (fun pre _ _ => (.ret, [.bool false, .int .i64 ((a : Int) + (pre.length : Int))], σ))
  (fun _ _ => True) () (fun _ => some (AV.bool true, σ)) (fun _ => some (AV.bool false, σ)) ?_ ?_ trivial (fun _ _ _ _ _ _ _ _ => trivial) ?_ ?_ (hv := by simp)).trans ?_
 ·intro pre k rest u hl _
  have hx := pre_get hl
  have hlt := pre_lt hl
  rw [List.length_range'] at hlt
  obtain rfl : a + pre.length = k := by
   have := (List.getElem?_eq_some_iff.1 hx).2
   simpa [List.getElem_range'] using this
  have hlt' : (a : Int) + (pre.length : Int) < (a : Int) + s := by omega
  have hi1 : IntKind.i64.wrap ((a : Int) + (pre.length : Int) + 1) = (a : Int) + ((pre.length : Int) + 1) := by rw [wrap64 (by unfold inI; omega)]; omega
  have ecast : (a : Int) + (pre.length : Int) = ((a + pre.length : Nat) : Int) := by omega
  clear hl hx
  by_cases h5 : 512 < a + pre.length
  ·have h5' : (512 : Int) < (a : Int) + (pre.length : Int) := by omega
   simp only [MSb, reduceCtorEq, hlt', h5, h5']
  have h5' : ¬ (512 : Int) < (a : Int) + (pre.length : Int) := by omega
  have hp : A.part1 0 ((marks f).drop (a + pre.length)) = some (.bool (f (a + pre.length))) := by
   rw [p1D]; simp only [A.part1, Nat.add_zero, marks_get f (show a + pre.length < 513 by omega)]; rfl
  simp only [MSb, reduceCtorEq, hlt', h5, h5', show A.nilck (AV.rp (marks f)) = some (.rp (marks f)) from rfl]
  rw [ecast, aaddr_rp _ (by omega)]
  simp only [MSb, reduceCtorEq, hp]
  cases hf : f (a + pre.length)
  ·simp only [MSb, reduceCtorEq, ← ecast, hi1]
  ·simp only [MSb, reduceCtorEq, ← ecast]
 ·intro u _
  rw [List.length_range']
  exact hend_lss _ _ _
 ·intro u _; simp only [MSb, reduceCtorEq]
 ·intros; simp only [MSb, reduceCtorEq]
 ·rw [freeF_run]
  cases freeF f s a <;> rfl
theorem free_op (f : Nat → Bool) (a s : Nat) (hs : a ≤ 1024 ∧ s ≤ 1024) {σ : Heap} {id : Nat} (h : σ[id]? = some (.box (marks f))) : m_fixture_slots_free [.op id 0, .int .i64 (a : Int), .int .i64 (s : Int)] σ = some (.bool (freeF f s a), σ) := by
 refine wrap_own (args' := [.rp (marks f), .int .i64 (a : Int), .int .i64 (s : Int)]) rfl ?_ rfl (free_rp f a s hs []) rfl
 have e : A.frzL' σ 0 7 (marks f) = some (marks f) := by
  have key : ∀ (l : List Nat), A.frzL' σ 0 7 (l.map fun k => AV.bool (f k)) = some (l.map fun k => AV.bool (f k)) := by
   intro l
   induction l with
   | nil => simp [A.frzL']
   | cons x l ih => simp [A.frzL', A.frz, ih]
  exact key _
 simp [A.frzL, A.frz, h, e]
end Go.Proofs.Ytohbeolimnpehaa

namespace Go.Proofs.Ytohbeolimnpehaa
set_option linter.unusedSectionVars false
set_option linter.unusedVariables false
set_option linter.unusedSimpArgs false
def usE (b : Nat) : List Int → List (AV × AV)
 | [] => []
 | v :: r => (.int .i64 v, .op b 0) :: usE (b + 1) r
def usH (σ : Heap) (vs : List Int) (f : Int → Nat → Bool) : Heap := σ ++ (Blk.map (usE (σ.length + 1) vs) :: vs.map fun v => Blk.box (marks (f v)))
theorem usE_snoc (v : Int) : ∀ (vs : List Int) (b : Nat), usE b (vs ++ [v]) = usE b vs ++ [(.int .i64 v, .op (b + vs.length) 0)]
 | [], b => rfl
 | w :: r, b => by
  simp only [List.cons_append, usE, usE_snoc v r (b + 1), List.length_cons]
  rw [show b + 1 + r.length = b + (r.length + 1) by omega]
theorem usE_find (v : Int) : ∀ (vs : List Int) (b : Nat), A.find .i (.int .i64 v) (usE b vs) = some (if v ∈ vs then some (.op (b + vs.idxOf v) 0) else none)
 | [], b => rfl
 | w :: r, b => by
  simp only [usE, A.find, A.eqK, A.eqI, if_true, Option.bind_some]
  by_cases h : v = w
  ·subst h; simp
  ·have h1 : (v == w) = false := by simpa using h
   have h2 : (w == v) = false := by simpa using fun e : w = v => h e.symm
   simp only [h1, cond_false, usE_find v r (b + 1), List.mem_cons, h, false_or, List.idxOf_cons, h2]
   rw [show b + 1 + r.idxOf v = b + (r.idxOf v + 1) by omega]
theorem usE_upd (v : Int) (w : AV) : ∀ (vs : List Int) (b : Nat), v ∉ vs → A.upd .i (.int .i64 v) w (usE b vs) = some (usE b vs ++ [(.int .i64 v, w)])
 | [], b, _ => rfl
 | x :: r, b, h => by
  simp only [List.mem_cons, not_or] at h
  have h1 : (v == x) = false := by simpa using h.1
  simp only [usE, A.upd, A.eqK, A.eqI, if_true, Option.bind_some, h1, cond_false, usE_upd v w r (b + 1) h.2, Option.map_some, List.cons_append]
theorem usH_len (σ : Heap) (vs : List Int) (f : Int → Nat → Bool) : (usH σ vs f).length = σ.length + 1 + vs.length := by simp [usH]; omega
theorem usH_map (σ : Heap) (vs : List Int) (f : Int → Nat → Bool) : (usH σ vs f)[σ.length]? = some (.map (usE (σ.length + 1) vs)) := by simp [usH]
theorem usH_box (σ : Heap) {vs : List Int} (f : Int → Nat → Bool) {v : Int} (h : v ∈ vs) : (usH σ vs f)[σ.length + 1 + vs.idxOf v]? = some (.box (marks (f v))) := by
 unfold usH
 rw [List.getElem?_append_right (by omega), show σ.length + 1 + vs.idxOf v - σ.length = vs.idxOf v + 1 by omega, List.getElem?_cons_succ, List.getElem?_map]
 have : vs[vs.idxOf v]? = some v := by
  have hl := List.idxOf_lt_length_of_mem h
  rw [List.getElem?_eq_getElem hl, List.getElem_idxOf hl]
 rw [this]; rfl
theorem usH_set (σ : Heap) {vs : List Int} (hn : vs.Nodup) {f f' : Int → Nat → Bool} {v : Int} (h : v ∈ vs) (ho : ∀ w, w ≠ v → f' w = f w) : (usH σ vs f).set (σ.length + 1 + vs.idxOf v) (.box (marks (f' v))) = usH σ vs f' := by
 unfold usH
 rw [List.set_append_right _ _ (by omega), show σ.length + 1 + vs.idxOf v - σ.length = vs.idxOf v + 1 by omega, List.set_cons_succ]
 refine congrArg (fun z => σ ++ (Blk.map (usE (σ.length + 1) vs) :: z)) ?_
 clear σ
 induction vs with
 | nil => cases h
 | cons w r ih =>
  rw [List.nodup_cons] at hn
  rw [List.idxOf_cons]
  by_cases e : w = v
  ·subst e
   simp only [beq_self_eq_true, cond_true, List.map_cons, List.set_cons_zero]
   exact congrArg (Blk.box (marks (f' w)) :: ·) (List.map_congr_left fun x hx => by rw [ho x (fun e => hn.1 (e ▸ hx))])
  ·have e2 : (w == v) = false := by simpa using e
   simp only [e2, cond_false, List.map_cons, List.set_cons_succ]
   rw [ih hn.2 ((List.mem_cons.1 h).resolve_left fun q => e q.symm), ho w e]
theorem usH_new (σ : Heap) (vs : List Int) {f : Int → Nat → Bool} {v : Int} (h : ∀ k, f v k = false) : ((usH σ vs f) ++ [Blk.box (List.replicate 513 (AV.bool false))]).set σ.length (.map (usE (σ.length + 1) (vs ++ [v]))) = usH σ (vs ++ [v]) f := by
 have e : marks (f v) = List.replicate 513 (AV.bool false) := by
  rw [show f v = fun _ => false from funext h]
  refine List.eq_replicate_iff.2 ⟨marks_len _, fun b hb => ?_⟩
  obtain ⟨k, _, rfl⟩ := List.mem_map.1 hb
  rfl
 unfold usH
 simp only [List.append_assoc, List.cons_append]
 rw [List.set_append_right _ _ (Nat.le_refl _), Nat.sub_self, List.set_cons_zero, List.map_append, List.map_cons, e]
 rfl
theorem marks_set (g g' : Nat → Bool) {k : Nat} (hk : k < 513) (h1 : g' k = true) (h2 : ∀ j, j ≠ k → g' j = g j) : A.splice k [AV.bool true] (marks g) = some (marks g') := by
 unfold A.splice
 rw [if_pos (by rw [marks_len]; simp; omega)]
 refine congrArg some (List.ext_getElem? fun j => ?_)
 simp only [List.append_assoc, List.cons_append, List.nil_append, List.length_cons, List.length_nil]
 by_cases hj : j < k
 ·rw [List.getElem?_append_left (by rw [List.length_take, marks_len]; omega), List.getElem?_take_of_lt hj, marks_get _ (by omega), marks_get _ (by omega), h2 j (by omega)]
 ·rw [List.getElem?_append_right (by rw [List.length_take, marks_len]; omega), List.length_take, marks_len, Nat.min_eq_left (by omega)]
  by_cases e : j = k
  ·subst e
   rw [Nat.sub_self, List.getElem?_cons_zero, marks_get _ hk, h1]
  ·rw [show j - k = (j - k - 1) + 1 by omega, List.getElem?_cons_succ, List.getElem?_drop, show k + (0 + 1) + (j - k - 1) = j by omega]
   by_cases hj2 : j < 513
   ·rw [marks_get _ hj2, marks_get _ hj2, h2 j e]
   ·rw [List.getElem?_eq_none (by rw [marks_len]; omega), List.getElem?_eq_none (by rw [marks_len]; omega)]
theorem run_go {α γ : Type} (K1 : Unit → γ) (K2 : Unit → γ) : ∀ (l pre : List α), (runP (fun _ (x : α) (_ : Unit) => (Rd.go () : Rd Unit Unit)) pre l ()).el K1 K2 = K1 ()
 | [], pre => rfl
 | x :: l, pre => by rw [runP]; exact run_go K1 K2 l _
theorem runP_state {α S : Type} {body : List α → α → S → Rd S Int} {chk : List α → List α → Int} (h0 : ∀ pre, chk pre [] = 0) (h : ∀ pre x rest s, chk pre (x :: rest) = (body pre x s).el (fun _ => chk (pre ++ [x]) rest) (fun r => r)) {γ : Type} (K : Int → γ) :
  ∀ (l pre : List α) (s : S), (runP body pre l s).el (fun _ => K 0) K = K (chk pre l)
 | [], pre, s => by rw [runP, h0]; rfl
 | x :: l, pre, s => by
  rw [runP, h pre x l s]
  cases body pre x s with
  | go s' => exact runP_state h0 h K l (pre ++ [x]) s'
  | out r => rfl
theorem markF_zero (f : Int → Nat → Bool) (v : Int) (a : Nat) : markF f v a 0 = f := by
 funext w k
 unfold markF
 rw [if_neg (by omega)]
theorem take_loop {γ : Type} (σ : Heap) {vs : List Int} (hn : vs.Nodup) (f : Int → Nat → Bool) (u : UnitD) (a s : Nat) (ha : u.address = a) (hs : a + s ≤ 513) (hm : u.univ ∈ vs) (K : List AV → Heap → Option γ) :
  (A.loop (fun v11 s12 =>
   ((A.lb (v11.getD 0 AV.undef)).bind fun _ => some (3)).bind fun p13 =>
   ((A.lb (v11.getD 0 AV.undef)).bind fun c14 => A.part1 p13 c14).bind fun x15 =>
   (A.add x15 (.int .i64 (s : Int))).bind fun x16 =>
   (A.lss (v11.getD 1 AV.undef) x16).bind fun x17 =>
   A.cond x17 (
    ((A.lb (v11.getD 0 AV.undef)).bind fun _ => some (2)).bind fun p18 =>
    ((A.lb (v11.getD 0 AV.undef)).bind fun c19 => A.part1 p18 c19).bind fun x20 =>
    (A.look .i (.om σ.length) x20 AV.np s12).bind fun x21 =>
    (A.nilck x21).bind fun x22 =>
    (A.aaddr 513 1 x22 (v11.getD 1 AV.undef)).bind fun x23 =>
    (A.storeAt x23 [AV.bool true] s12).bind fun c25 =>
    (A.add (v11.getD 1 AV.undef) (AV.int .i64 1)).bind fun x26 =>
    some (AX.normal, [(v11.getD 0 AV.undef), x26], c25)) (
    some (AX.exit 0, [(v11.getD 0 AV.undef), (v11.getD 1 AV.undef)], s12))) [.lbx (cUnit u), .int .i64 (a : Int)] (usH σ vs f)).bind (fun r27 =>
 bif decide (r27.1 = AX.exit 0) then K r27.2.1 r27.2.2 else none) = K [.lbx (cUnit u), .int .i64 ((a : Int) + s)] (usH σ vs (markF f u.univ a s)) := by
 have hw : IntKind.i64.wrap ((a : Int) + s) = (a : Int) + s := wrap64 (by unfold inI; omega)
 refine (loop_pre (S := Unit) (R := Unit) (List.range' a s) (fun _ k (_ : Unit) => (Rd.go () : Rd Unit Unit))
  (fun pre _ => [.lbx (cUnit u), .int .i64 ((a : Int) + (pre.length : Int))]) (fun pre _ => usH σ vs (markF f u.univ a pre.length)) (fun _ => (.exit 0, [.lbx (cUnit u), .int .i64 ((a : Int) + s)], usH σ vs (markF f u.univ a s))) (fun pre _ _ => (.ret, [], σ))
  (fun _ _ => True) () (fun _ => K [.lbx (cUnit u), .int .i64 ((a : Int) + s)] (usH σ vs (markF f u.univ a s))) (fun _ => none) ?_ ?_ trivial (fun _ _ _ _ _ _ _ _ => trivial) ?_ ?_ (hv := by simp) (hσ := by rw [List.length_nil, markF_zero])).trans (run_go _ _ _ _)
 ·intro pre k rest t hl _
  have hx := pre_get hl
  have hlt := pre_lt hl
  rw [List.length_range'] at hlt
  obtain rfl : a + pre.length = k := by
   have := (List.getElem?_eq_some_iff.1 hx).2
   simpa [List.getElem_range'] using this
  have hlt' : (a : Int) + (pre.length : Int) < (a : Int) + s := by omega
  have hi1 : IntKind.i64.wrap ((a : Int) + (pre.length : Int) + 1) = (a : Int) + ((pre.length : Int) + 1) := by rw [wrap64 (by unfold inI; omega)]; omega
  have ecast : (a : Int) + (pre.length : Int) = ((a + pre.length : Nat) : Int) := by omega
  clear hl hx
  have hlook : A.look .i (.om σ.length) (.int .i64 u.univ) AV.np (usH σ vs (markF f u.univ a pre.length)) = some (.op (σ.length + 1 + vs.idxOf u.univ) 0) := by
   rw [look_at .i rfl (usH_map σ vs _), usE_find, if_pos hm]; rfl
  have hadr : A.aaddr 513 1 (.op (σ.length + 1 + vs.idxOf u.univ) 0) (.int .i64 ((a + pre.length : Nat) : Int)) = some (.op (σ.length + 1 + vs.idxOf u.univ) (a + pre.length)) := by
   have h1 : A.idx 513 (.int .i64 ((a + pre.length : Nat) : Int)) = some (a + pre.length) := by
    show (if (0 : Int) ≤ ((a + pre.length : Nat) : Int) ∧ ((a + pre.length : Nat) : Int) < ((513 : Nat) : Int) then some ((a + pre.length : Nat) : Int).toNat else none) = _
    rw [if_pos ⟨by omega, by omega⟩]; rfl
   unfold A.aaddr
   rw [h1]
   simp only [Option.bind_some, Nat.mul_one, Nat.zero_add]
  have hst : A.storeAt (.op (σ.length + 1 + vs.idxOf u.univ) (a + pre.length)) [.bool true] (usH σ vs (markF f u.univ a pre.length)) = some (usH σ vs (markF f u.univ a (pre.length + 1))) := by
   simp only [A.storeAt, usH_box σ _ hm]
   rw [marks_set _ (markF f u.univ a (pre.length + 1) u.univ) (by omega) (by unfold markF; rw [if_pos ⟨rfl, by omega, by omega⟩]) (fun j hj => by
    unfold markF
    by_cases q : a ≤ j ∧ j < a + pre.length
    ·rw [if_pos ⟨rfl, by omega, by omega⟩, if_pos ⟨rfl, q.1, q.2⟩]
    ·rw [if_neg (by omega), if_neg (by omega)])]
   simp only [Option.map_some]
   rw [usH_set σ hn hm (fun w hw => by funext j; unfold markF; rw [if_neg (fun q => hw q.1), if_neg (fun q => hw q.1)])]
  simp only [MSb, reduceCtorEq, p1_cUnit_0, p1_cUnit_1, p1_cUnit_2, p1_cUnit_3, pA_cUnit, ce_cUnit, sp_cUnit, ha, hw, hlt', hlook, show A.nilck (.op (σ.length + 1 + vs.idxOf u.univ) 0) = some (.op (σ.length + 1 + vs.idxOf u.univ) 0) from rfl]
  rw [ecast, hadr]
  simp only [MSb, reduceCtorEq, hst, ← ecast, hi1]
 ·intro t _
  rw [List.length_range']
  simp only [MSb, reduceCtorEq, p1_cUnit_0, p1_cUnit_1, p1_cUnit_2, p1_cUnit_3, pA_cUnit, ce_cUnit, sp_cUnit, ha, hw, Int.lt_irrefl]
 ·intro t _; simp only [MSb, reduceCtorEq]
 ·intro pre x rest t r _ _ hb; cases hb
theorem take_eq (σ : Heap) {vs : List Int} (hn : vs.Nodup) (f : Int → Nat → Bool) (u : UnitD) (a s : Nat) (ha : u.address = a) (hs : a + s ≤ 513) (hf : u.univ ∉ vs → ∀ k, f u.univ k = false) :
  m_fixture_take [.om σ.length, .agg (cUnit u), .int .i64 (s : Int)] (usH σ vs f) = some (.tup [], usH σ (if u.univ ∈ vs then vs else vs ++ [u.univ]) (markF f u.univ a s)) := by
 have e : r_fixture_take (.om σ.length) (.agg (cUnit u)) (.int .i64 (s : Int)) (usH σ vs f) = some (.tup [], usH σ (if u.univ ∈ vs then vs else vs ++ [u.univ]) (markF f u.univ a s)) := by
  unfold r_fixture_take
  have hlook : A.look .i (.om σ.length) (.int .i64 u.univ) AV.np (usH σ vs f) = some (if u.univ ∈ vs then .op (σ.length + 1 + vs.idxOf u.univ) 0 else .np) := by
   rw [look_at .i rfl (usH_map σ vs _), usE_find]
   by_cases hm : u.univ ∈ vs <;> simp [hm]
  simp only [MSb, reduceCtorEq, p1_cUnit_0, p1_cUnit_1, p1_cUnit_2, p1_cUnit_3, pA_cUnit, ce_cUnit, sp_cUnit, hlook]
  by_cases hm : u.univ ∈ vs
  ·simp only [if_pos hm, show A.eql .p (.op (σ.length + 1 + vs.idxOf u.univ) 0) AV.np = some (.bool false) from rfl, MSb, reduceCtorEq, p1_cUnit_0, p1_cUnit_1, p1_cUnit_2, p1_cUnit_3, pA_cUnit, ce_cUnit, sp_cUnit, ha]
   exact take_loop σ hn f u a s ha hs hm fun _ h => some (AV.tup [], h)
  ·have hup : A.mupd .i (.om σ.length) (.int .i64 u.univ) (.op (usH σ vs f).length 0) (usH σ vs f ++ [Blk.box (List.replicate 513 (AV.bool false))]) = some (usH σ (vs ++ [u.univ]) f) := by
    rw [mupd_at .i rfl (es := usE (σ.length + 1) vs) (by rw [List.getElem?_append_left (by rw [usH_len]; omega)]; exact usH_map σ vs f), usE_upd _ _ _ _ hm]
    rw [Option.map_some, usH_len, ← usE_snoc, usH_new σ vs (hf hm)]
   simp only [if_neg hm, show A.eql .p AV.np AV.np = some (.bool true) from rfl, MSb, reduceCtorEq, p1_cUnit_0, p1_cUnit_1, p1_cUnit_2, p1_cUnit_3, pA_cUnit, ce_cUnit, sp_cUnit, hup, ha]
   exact take_loop σ (by rw [List.nodup_append]; exact ⟨hn, by simp, fun x hx y hy e => hm (by simp at hy; rw [← hy, ← e]; exact hx)⟩) f u a s ha hs (by simp) fun _ h => some (AV.tup [], h)
 unfold m_fixture_take A.wrap
 rw [Bool.false_and, cond_false]
 show (r_fixture_take (.om σ.length) (.agg (cUnit u)) (.int .i64 (s : Int)) (usH σ vs f)).map _ = _
 rw [e]; rfl
end Go.Proofs.Ytohbeolimnpehaa

namespace Go.Proofs.Ytohbeolimnpehaa
set_option linter.unusedSectionVars false
set_option linter.unusedVariables false
set_option linter.unusedSimpArgs false
theorem ordB_cases {α : Type} (f : α → Int) {l pre rest : List α} {x : α} (h : l = pre ++ x :: rest) (n : Int) : (∃ y, 0 < pre.length ∧ l[pre.length - 1]? = some y ∧ ordB (pre.map f) n = decide (n ≤ f y)) ∨ (¬ 0 < pre.length ∧ ordB (pre.map f) n = false) := by
 by_cases h0 : 0 < pre.length
 ·obtain ⟨y, hy, hy2⟩ := pre_last h h0
  exact .inl ⟨y, h0, hy2, by simp [ordB, List.getLast?_map, hy]⟩
 ·obtain rfl : pre = [] := List.eq_nil_of_length_eq_zero (by omega)
  exact .inr ⟨h0, rfl⟩
end Go.Proofs.Ytohbeolimnpehaa

namespace Go.Proofs.Ytohbeolimnpehaa
set_option linter.unusedSectionVars false
set_option linter.unusedVariables false
set_option linter.unusedSimpArgs false
theorem usH_look (σ : Heap) (vs : List Int) (f : Int → Nat → Bool) (v : Int) : A.look .i (.om σ.length) (.int .i64 v) AV.np (usH σ vs f) = some (if v ∈ vs then .op (σ.length + 1 + vs.idxOf v) 0 else .np) := by
 rw [look_at .i rfl (usH_map σ vs _), usE_find]
 by_cases hm : v ∈ vs <;> simp [hm]
theorem fin_usH (σ : Heap) (vs : List Int) (f : Int → Nat → Bool) (n : Int) : A.fin σ (.int .i64 n) (usH σ vs f) = some (.int .i64 n, σ) := fin_int _ _ _ _
theorem CheckRig_eq (r : RigD) (hok : okRig r) (σ : Heap) : m_fixture_CheckRig [.agg (cRig r)] σ = some (.int .i64 (rigF r), σ) := by
 refine wrap_eq rfl ?_ rfl
 show r_fixture_CheckRig (.agg (cRig r)) σ = _
 obtain ⟨hlib, hus⟩ := hok
 have hmx := hlib.1
 unfold r_fixture_CheckRig rigF
 simp only [MSb, reduceCtorEq, p1_cRig_0, p1_cRig_1, pA_cRig, ce_cRig, sp_cRig, CheckLibrary_eq _ hlib]
 by_cases hf : libF r.library = 0
 case neg => simp only [MSb, reduceCtorEq, hf]
 by_cases h4 : 400 < r.units.length
 ·have h4' : (400 : Int) < r.units.length := by omega
  simp only [MSb, reduceCtorEq, p1_cRig_0, p1_cRig_1, pA_cRig, ce_cRig, sp_cRig, hf, h4, h4']
 have h4' : ¬ (400 : Int) < r.units.length := by omega
 simp only [MSb, reduceCtorEq, p1_cRig_0, p1_cRig_1, pA_cRig, ce_cRig, sp_cRig, hf, h4, h4']
 have hsizes := libF_sizes hf
 generalize hlq : r.units = l at *
 refine (loop_pre (S := List Int × (Int → Nat → Bool)) (R := Int) l (fun pre u s => if withinB u.number 1 9999 = false then .out 1
    else if ordB (pre.map (·.number)) u.number = true then .out 7
    else if (profOf u.profile r.library).2 = false then .out 5
    else if withinB u.univ 1 64 = false ∨ withinB u.address 1 512 = false ∨ 512 < lastU r.library u then .out 1
    else if clashU r.library u pre = true then .out 12 else .go (if u.univ ∈ s.1 then s.1 else s.1 ++ [u.univ], markF s.2 u.univ u.address.toNat (profOf u.profile r.library).1.size.toNat))
  (fun pre _ => [.lbx (cRig r), .int .i64 0, .int .i64 (pre.length : Int)]) (fun pre s => usH σ s.1 s.2)
  (fun s => (.exit 0, [.lbx (cRig r), .int .i64 0, .int .i64 (l.length : Int)], usH σ s.1 s.2)) (fun pre s n => (.ret, [.lbx (cRig r), .int .i64 n, .int .i64 (pre.length : Int)], usH σ s.1 s.2))
  (fun pre s => UnitsOk r.library pre ∧ MarksP r.library pre s.2 ∧ s.1.Nodup ∧ ∀ v, v ∉ s.1 → ∀ k, s.2 v k = false) ([], fun _ _ => false) (fun _ => some (AV.int .i64 0, σ)) (fun n => some (AV.int .i64 n, σ)) ?_ ?_ ⟨(by intro x hx; simp at hx), MarksP.nil _, List.nodup_nil, fun _ _ _ => rfl⟩ ?_ ?_ ?_).trans ?_
 ·intro pre u rest s hl hP
  have hx := pre_get hl; have hlt := pre_lt hl; have hi1 : IntKind.i64.wrap ((pre.length : Int) + 1) = (pre.length : Int) + 1 := wrap64 (by unfold inI; omega); have hi2 : IntKind.i64.wrap ((pre.length : Int) - 1) = (pre.length : Int) - 1 := wrap64 (by unfold inI; omega); have hlt' : (pre.length : Int) < (l.length : Int) := by omega
  have hmp : pre.length ≤ mxl := by unfold mxl; omega
  have hia := iaddr_sl 4 cUnit l hx
  have hPr := profile_eq r.library hmx u.profile
  have ho := ordB_cases (·.number) hl u.number
  obtain ⟨vs, f⟩ := s
  obtain ⟨hP1, hP2, hP3, hP4⟩ := hP
  dsimp only at hP1 hP2 hP3 hP4 ⊢
  clear hus h4 h4' hl hx
  simp only [MSb, reduceCtorEq, p1_cUnit_0, p1_cUnit_1, p1_cUnit_2, p1_cUnit_3, pA_cUnit, ce_cUnit, sp_cUnit, p1_cRig_0, p1_cRig_1, pA_cRig, ce_cRig, sp_cRig, hlq, hlt', hia, hPr, p1_cProfile_0, p1_cProfile_1, p1_cProfile_2, pA_cProfile, ce_cProfile, sp_cProfile, Within_eq]
  cases h1 : withinB u.number 1 9999
  ·simp only [MSb, reduceCtorEq]
  simp only [MSb, reduceCtorEq]
  rcases ho with ⟨y, h0, hy, ho⟩ | ⟨h0, ho⟩
  case' inl =>
   have h0' : (0 : Int) < pre.length := by omega
   have hia2 := iaddr_pred 4 cUnit l h0 hy
   by_cases hq : u.number ≤ y.number
   ·simp only [MSb, reduceCtorEq, p1_cUnit_0, p1_cUnit_1, p1_cUnit_2, p1_cUnit_3, pA_cUnit, ce_cUnit, sp_cUnit, p1_cRig_0, p1_cRig_1, pA_cRig, ce_cRig, sp_cRig, hlq, h0', hi2, hia2, ho, hq]
   simp only [MSb, reduceCtorEq, p1_cUnit_0, p1_cUnit_1, p1_cUnit_2, p1_cUnit_3, pA_cUnit, ce_cUnit, sp_cUnit, p1_cRig_0, p1_cRig_1, pA_cRig, ce_cRig, sp_cRig, hlq, h0', hi2, hia2, ho, hq]
  case' inr =>
   have h0' : ¬ (0 : Int) < pre.length := by omega
   simp only [MSb, reduceCtorEq, h0', ho]
  all_goals
   try simp only [MSb, reduceCtorEq, p1_cUnit_0, p1_cUnit_1, p1_cUnit_2, p1_cUnit_3, pA_cUnit, ce_cUnit, sp_cUnit, p1_cRig_0, p1_cRig_1, pA_cRig, ce_cRig, sp_cRig, hlq, hPr]
   cases hp : (profOf u.profile r.library).2
   ·simp only [MSb, reduceCtorEq, p1_cProfile_0, p1_cProfile_1, p1_cProfile_2, pA_cProfile, ce_cProfile, sp_cProfile]
   have hsz := hsizes _ (profOf_mem _ _ hp)
   try simp only [MSb, reduceCtorEq, p1_cUnit_0, p1_cUnit_1, p1_cUnit_2, p1_cUnit_3, pA_cUnit, ce_cUnit, sp_cUnit, p1_cProfile_0, p1_cProfile_1, p1_cProfile_2, pA_cProfile, ce_cProfile, sp_cProfile, Within_eq]
   cases hu : withinB u.univ 1 64
   ·simp only [MSb, reduceCtorEq]
   cases ha : withinB u.address 1 512
   ·simp only [MSb, reduceCtorEq, p1_cUnit_0, p1_cUnit_1, p1_cUnit_2, p1_cUnit_3, pA_cUnit, ce_cUnit, sp_cUnit, Within_eq, ha]
   have ha' : 1 ≤ u.address ∧ u.address ≤ 512 := by simpa [withinB] using ha
   have hw1 : IntKind.i64.wrap (u.address + (profOf u.profile r.library).1.size) = u.address + (profOf u.profile r.library).1.size := wrap64 (by unfold inI; omega)
   have hw2 : IntKind.i64.wrap (u.address + (profOf u.profile r.library).1.size - 1) = lastU r.library u := wrap64 (by unfold inI; omega)
   have hlu : lastU r.library u = u.address + (profOf u.profile r.library).1.size - 1 := rfl
   by_cases h5 : 512 < lastU r.library u
   ·simp only [MSb, reduceCtorEq, p1_cUnit_0, p1_cUnit_1, p1_cUnit_2, p1_cUnit_3, pA_cUnit, ce_cUnit, sp_cUnit, p1_cProfile_0, p1_cProfile_1, p1_cProfile_2, pA_cProfile, ce_cProfile, sp_cProfile, Within_eq, ha, hw1, hw2, h5]
   obtain ⟨a, hae⟩ : ∃ a : Nat, u.address = a := ⟨u.address.toNat, by omega⟩
   obtain ⟨n, hne⟩ : ∃ n : Nat, (profOf u.profile r.library).1.size = n := ⟨(profOf u.profile r.library).1.size.toNat, by omega⟩
   have hfc := free_clash hP2 hP1 u a n hae (by omega) (by omega) (by omega)
   have hfree : m_fixture_slots_free [if u.univ ∈ vs then .op (σ.length + 1 + vs.idxOf u.univ) 0 else .np, .int .i64 (a : Int), .int .i64 (n : Int)] (usH σ vs f) = some (.bool (!clashU r.library u pre), usH σ vs f) := by
    by_cases hm : u.univ ∈ vs
    ·rw [if_pos hm, free_op (f u.univ) a n (by omega) (usH_box σ f hm), hfc]
    ·rw [if_neg hm, free_np a n (by unfold inI; omega) (by unfold inI; omega), ← hfc]
     have e : freeF (f u.univ) n a = true := (freeF_iff _ _ _).2 fun k h1 h2 => ⟨by omega, hP4 _ hm k⟩
     rw [e, show decide ((a : Int) + n - 1 ≤ 512) = true from decide_eq_true (by omega)]
   have htk := take_eq σ hP3 f u a n hae (by omega) (hP4 u.univ)
   simp only [MSb, reduceCtorEq, p1_cUnit_0, p1_cUnit_1, p1_cUnit_2, p1_cUnit_3, pA_cUnit, ce_cUnit, sp_cUnit, p1_cProfile_0, p1_cProfile_1, p1_cProfile_2, pA_cProfile, ce_cProfile, sp_cProfile, Within_eq, ha, hw1, hw2, h5, usH_look]
   rw [hae, hne]
   simp only [MSb, reduceCtorEq, hfree]
   cases hc : clashU r.library u pre
   ·simp only [MSb, reduceCtorEq, p1_cUnit_0, p1_cUnit_1, p1_cUnit_2, p1_cUnit_3, pA_cUnit, ce_cUnit, sp_cUnit, p1_cProfile_0, p1_cProfile_1, p1_cProfile_2, pA_cProfile, ce_cProfile, sp_cProfile, hne, htk, hi1, Int.toNat_natCast]
   ·simp only [MSb, reduceCtorEq]
 ·intro s _
  exact hend_lss _ _ _
 ·intro pre u rest s s' hl hP hb
  obtain ⟨vs, f⟩ := s
  obtain ⟨hP1, hP2, hP3, hP4⟩ := hP
  dsimp only at hP1 hP2 hP3 hP4 hb
  split at hb
  ·cases hb
  split at hb
  ·cases hb
  split at hb
  ·cases hb
  rename_i hp
  split at hb
  ·cases hb
  rename_i hw
  split at hb
  ·cases hb
  injection hb with hb
  subst hb
  simp only [not_or, Bool.not_eq_false, withinB, Bool.and_eq_true, decide_eq_true_eq] at hw hp
  have hsz := hsizes _ (profOf_mem _ _ (by simpa using hp))
  have hlu : lastU r.library u = u.address + (profOf u.profile r.library).1.size - 1 := rfl
  refine ⟨hP1.snoc ⟨hw.2.1.1, by omega, by omega⟩, hP2.snoc u u.address.toNat _ (by omega) (by omega), ?_, ?_⟩
  ·dsimp only
   split
   ·exact hP3
   ·rename_i hm
    rw [List.nodup_append]; exact ⟨hP3, by simp, fun x hx y hy e => hm (by simp at hy; rw [← hy, ← e]; exact hx)⟩
  ·intro v hv k
   dsimp only at hv ⊢
   have h1 : v ≠ u.univ ∧ v ∉ vs := by
    split at hv
    ·rename_i hm
     exact ⟨fun e => hv (e ▸ hm), hv⟩
    ·simp only [List.mem_append, List.mem_singleton, not_or] at hv
     exact ⟨hv.2, hv.1⟩
   unfold markF
   rw [if_neg (fun q => h1.1 q.1)]
   exact hP4 v h1.2 k
 ·intro s _; simp only [MSb, reduceCtorEq, fin_usH]
 ·intros; simp only [MSb, reduceCtorEq, fin_usH]
 ·refine (runP_state (chk := chkU r.library) ?_ ?_ (fun n => some (AV.int .i64 n, σ)) l [] _).trans ?_
  ·intro pre; rfl
  ·intro pre x rest s; rw [chkU]; simp only [el_ite, el_out, el_go]
  ·rfl
end Go.Proofs.Ytohbeolimnpehaa

namespace Go.Proofs.Ytohbeolimnpehaa
set_option linter.unusedSectionVars false
set_option linter.unusedVariables false
set_option linter.unusedSimpArgs false
def unitKeys (lib : List ProfileD) (u : UnitD) : List KeyD := (profOf u.profile lib).1.params.map fun x => ⟨u.number, x.name⟩
def keysOf (r : RigD) : List KeyD := r.units.flatMap (unitKeys r.library)
theorem profileF_params {p : ProfileD} (h : profileF p = 0) : p.params.length ≤ 40 := by
 unfold profileF at h
 repeat' split at h
 all_goals first | (simp at h; done) | omega
theorem chkL_right : ∀ (l pre : List ProfileD), chkL pre l = 0 → ∀ p ∈ l, profileF p = 0
 | [], pre, h, p, hp => by simp at hp
 | q :: rest, pre, h, p, hp => by
  rw [chkL] at h
  by_cases e : profileF q = 0
  ·rw [if_pos e] at h
   by_cases e2 : memB q.name (pre.map (·.name)) = true
   ·rw [if_pos e2] at h; simp at h
   ·rw [if_neg e2] at h
    simp only [List.mem_cons] at hp
    rcases hp with rfl | hp
    ·exact e
    ·exact chkL_right rest _ h p hp
  ·rw [if_neg e] at h; exact absurd h e
theorem rigF_lib {r : RigD} (h : rigF r = 0) : libF r.library = 0 := by
 unfold rigF at h
 split at h
 ·assumption
 ·rename_i h2; exact absurd h h2
theorem libF_right {l : List ProfileD} (h : libF l = 0) : ∀ p ∈ l, profileF p = 0 := by
 unfold libF at h
 by_cases e : 60 < l.length
 ·rw [if_pos e] at h; simp at h
 ·rw [if_neg e] at h; exact chkL_right l [] h
theorem params_len {r : RigD} (h : rigF r = 0) (nm : ByteArray) : (profOf nm r.library).1.params.length ≤ 40 := by
 rw [profOf_find]
 cases hf : r.library.find? (fun x : ProfileD => decide (x.name = nm)) with
 | none => exact Nat.zero_le _
 | some p => exact profileF_params (libF_right (rigF_lib h) p (List.mem_of_find?_eq_some hf))
theorem unitKeys_len {r : RigD} (h : rigF r = 0) : ∀ (l : List UnitD), (l.flatMap (unitKeys r.library)).length ≤ l.length * 40
 | [] => by simp
 | u :: l => by
  have h1 := params_len h u.profile
  have h2 := unitKeys_len h l
  rw [List.flatMap_cons, List.length_append, List.length_cons, Nat.succ_mul]
  have h3 : (unitKeys r.library u).length = (profOf u.profile r.library).1.params.length := by simp [unitKeys]
  omega
theorem nnKeys (l : List KeyD) (n : Int) : A.nn (.t [(.s 2), .k]) (.tup [if l = [] then .nsl else sl 2 cKey l, .int .i64 n]) = .tup [sl 2 cKey l, .int .i64 n] := by
 show AV.tup [A.nn (.s 2) (if l = [] then .nsl else sl 2 cKey l), .int .i64 n] = _
 rw [nn_own]
theorem rigF_units {r : RigD} (h : rigF r = 0) : r.units.length ≤ 400 := by
 unfold rigF at h
 split at h
 ·split at h
  ·cases h
  ·omega
 ·rename_i h2; exact absurd h h2
theorem Keys_eq (r : RigD) (hok : okRig r) (σ : Heap) : m_fixture_Keys [.agg (cRig r)] σ = some (.tup [sl 2 cKey (if rigF r = 0 then keysOf r else []), .int .i64 (rigF r)], σ) := by
 by_cases hf : rigF r = 0
 ·refine wrap_eq rfl (v := .tup [if keysOf r = [] then .nsl else sl 2 cKey (keysOf r), .int .i64 0]) ?_ (by rw [if_pos hf, hf]; exact nnKeys _ _)
  show r_fixture_Keys (.agg (cRig r)) σ = _
  unfold r_fixture_Keys
  have hu := rigF_units hf
  have hlib := hok.1.2
  simp only [MSb, reduceCtorEq, p1_cRig_0, p1_cRig_1, pA_cRig, ce_cRig, sp_cRig, CheckRig_eq r hok, hf]
  refine (loop_pre (S := Unit) (R := Unit) r.units (fun pre u _ => (Rd.go () : Rd Unit Unit))
   (fun pre _ => [.lbx (cRig r), ownV σ.length 2 (pre.flatMap (unitKeys r.library)), .int .i64 (pre.length : Int)]) (fun pre _ => σ ++ ownB 2 cKey (pre.flatMap (unitKeys r.library)))
   (fun _ => (.exit 0, [.lbx (cRig r), ownV σ.length 2 (keysOf r), .int .i64 (r.units.length : Int)], σ ++ ownB 2 cKey (keysOf r))) (fun pre _ _ => (.ret, [], σ))
   (fun _ _ => True) () (fun _ => some (AV.tup [if keysOf r = [] then .nsl else sl 2 cKey (keysOf r), .int .i64 0], σ)) (fun _ => none) ?_ ?_ trivial (fun _ _ _ _ _ _ _ _ => trivial) ?_ ?_ (hσ := by simp [ownB_nil])).trans (run_go _ _ _ _)
  ·intro pre u rest s hl _
   have hx := pre_get hl
   have hlt := pre_lt hl
   have hi1 : IntKind.i64.wrap ((pre.length : Int) + 1) = (pre.length : Int) + 1 := wrap64 (by unfold inI; omega)
   have hlt' : (pre.length : Int) < (r.units.length : Int) := by omega
   have hia := iaddr_sl 4 cUnit r.units hx
   have hPr := profile_eq r.library hok.1.1 u.profile
   have hps := params_len hf u.profile
   have hkl := unitKeys_len hf pre
   have hsn : (pre ++ [u]).flatMap (unitKeys r.library) = pre.flatMap (unitKeys r.library) ++ unitKeys r.library u := by simp
   have hpre4 : pre.length ≤ 399 := by omega
   generalize hK : pre.flatMap (unitKeys r.library) = K at *
   generalize hq : (profOf u.profile r.library).1 = p at *
   simp only [MSb, reduceCtorEq, p1_cUnit_0, p1_cUnit_1, p1_cUnit_2, p1_cUnit_3, pA_cUnit, ce_cUnit, sp_cUnit, p1_cRig_0, p1_cRig_1, pA_cRig, ce_cRig, sp_cRig, hlt', hia, hPr, hq, p1_cProfile_0, p1_cProfile_1, p1_cProfile_2, pA_cProfile, ce_cProfile, sp_cProfile]
   refine (loop_pre (S := Unit) (R := Unit) p.params (fun pre u _ => (Rd.go () : Rd Unit Unit))
    (fun qre _ => [.lbx (cRig r), ownV σ.length 2 (K ++ qre.map fun x => (⟨u.number, x.name⟩ : KeyD)), .lbx (cUnit u), .int .i64 (qre.length : Int)]) (fun qre _ => σ ++ ownB 2 cKey (K ++ qre.map fun x => (⟨u.number, x.name⟩ : KeyD)))
    (fun _ => (.exit 2, [.lbx (cRig r), ownV σ.length 2 (K ++ unitKeys r.library u), .lbx (cUnit u), .int .i64 (p.params.length : Int)], σ ++ ownB 2 cKey (K ++ unitKeys r.library u))) (fun pre _ _ => (.ret, [], σ))
    (fun _ _ => True) () (fun _ => some (.normal, [.lbx (cRig r), ownV σ.length 2 (K ++ unitKeys r.library u), .int .i64 ((pre.length : Int) + 1)], σ ++ ownB 2 cKey (K ++ unitKeys r.library u))) (fun _ => none) ?_ ?_ trivial (fun _ _ _ _ _ _ _ _ => trivial) ?_ ?_ (hv := by simp) (hσ := by simp)).trans ((run_go _ _ _ _).trans ?_)
   ·intro qre x rest' s hl' _
    have gx := pre_get hl'
    have glt := pre_lt hl'
    have gi1 : IntKind.i64.wrap ((qre.length : Int) + 1) = (qre.length : Int) + 1 := wrap64 (by unfold inI; omega)
    have glt' : (qre.length : Int) < (p.params.length : Int) := by omega
    have gia := iaddr_sl 7 cParam p.params gx
    have hap := own_append (most := 140737488355328 / 24) (sz := 2) cKey (K ++ qre.map fun x => (⟨u.number, x.name⟩ : KeyD)) ⟨u.number, x.name⟩ σ (by
     rw [List.length_append, List.length_map]
     omega)
    have hsn' : (K ++ (qre ++ [x]).map fun x => (⟨u.number, x.name⟩ : KeyD)) = (K ++ qre.map fun x => (⟨u.number, x.name⟩ : KeyD)) ++ [⟨u.number, x.name⟩] := by simp
    clear hl gx glt hx hlt hkl hl'
    rw [hsn']
    have hch : AV.sl 2 (chunks 2 1 [AV.int .i64 u.number, AV.str x.name]) = .sl 2 [cKey ⟨u.number, x.name⟩] := rfl
    simp only [MSb, reduceCtorEq, p1_cParam_0, p1_cParam_1, p1_cParam_2, p1_cParam_3, p1_cParam_4, p1_cParam_5, p1_cParam_6, pA_cParam, ce_cParam, sp_cParam, p1_cUnit_0, p1_cUnit_1, p1_cUnit_2, p1_cUnit_3, pA_cUnit, ce_cUnit, sp_cUnit, glt', gia, gi1]
    show (A.append 2 _ _ (AV.sl 2 [cKey ⟨u.number, x.name⟩]) _).bind _ = _
    rw [hap]
    simp only [MSb, reduceCtorEq, gi1]
   ·intro s _
    refine (hend_lss _ _ _).trans ?_
    subst hq
    rfl
   ·intro s _; simp only [MSb, reduceCtorEq, hi1]
   ·intros; rename_i hb; cases hb
   ·rw [hsn]
  ·intro s _
   exact hend_lss _ _ _
  ·intro s _
   simp only [MSb, reduceCtorEq, fin_own2 fz_cKey]
  ·intros; rename_i hb; cases hb
 ·refine wrap_eq rfl (v := .tup [.nsl, .int .i64 (rigF r)]) ?_ (by rw [if_neg hf]; rfl)
  show r_fixture_Keys (.agg (cRig r)) σ = _
  unfold r_fixture_Keys
  simp only [MSb, reduceCtorEq, p1_cRig_0, p1_cRig_1, pA_cRig, ce_cRig, sp_cRig, CheckRig_eq r hok, hf]
end Go.Proofs.Ytohbeolimnpehaa

namespace Go.Proofs.Ytohbeolimnpehaa
set_option linter.unusedSectionVars false
set_option linter.unusedVariables false
set_option linter.unusedSimpArgs false
theorem isLevelP_eq (n : Int) (σ : Heap) : m_pick_isLevel [.int .i64 n] σ = some (.bool (withinB n 0 65535), σ) := by
 refine wrap_eq rfl ?_ rfl
 show r_pick_isLevel (.int .i64 n) σ = _
 unfold r_pick_isLevel
 simp only [MSb, reduceCtorEq, Within_eq]
def blankB (s : ByteArray) : Bool := if s = ⟨#[]⟩ then true else titleB s
theorem blank_eq (s : ByteArray) (hs : okS s) (σ : Heap) : m_pick_blank [.str s] σ = some (.bool (blankB s), σ) := by
 refine wrap_eq rfl ?_ rfl
 show r_pick_blank (.str s) σ = _
 unfold r_pick_blank blankB
 by_cases h : s = ⟨#[]⟩
 ·simp only [MSb, reduceCtorEq, h]
 ·simp only [MSb, reduceCtorEq, h, Title_eq s hs]
end Go.Proofs.Ytohbeolimnpehaa

namespace Go.Proofs.Ytohbeolimnpehaa
set_option linter.unusedSectionVars false
set_option linter.unusedVariables false
set_option linter.unusedSimpArgs false
def zParam : ParamD := ⟨⟨#[]⟩, 0, 0, 0, 0, false, []⟩
def paramB (p : ProfileD) (nm : ByteArray) : ParamD × Bool := (p.params.find? fun x => decide (x.name = nm)).elim (zParam, false) fun x => (x, true)
def paramOf (r : RigD) (k : KeyD) : ParamD × Bool := (r.units.find? fun u => decide (u.number = k.unit)).elim (zParam, false) fun u => paramB (profOf u.profile r.library).1 k.param
end Go.Proofs.Ytohbeolimnpehaa

namespace Go.Proofs.Ytohbeolimnpehaa
set_option linter.unusedSectionVars false
set_option linter.unusedVariables false
set_option linter.unusedSimpArgs false
set_option maxRecDepth 100000
noncomputable def t_cue_isTime (a0 : Int) : Option Bool :=
 some (withinB a0 0 36000000)
theorem h_cue_isTime {a0 : Int} {σ : Heap} {r : Bool} (h : t_cue_isTime a0 = some r) : m_cue_isTime [(AV.int .i64 a0)] σ = some ((AV.bool r), σ) := by
 refine rf_wrap1 (f := r_cue_isTime) (y0 := (AV.int .i64 a0)) (enc := fun r : Bool => (AV.bool r)) (T := t_cue_isTime a0) rfl rfl ?_ r h
 unfold r_cue_isTime t_cue_isTime
 refine rf_s ((AV.bool (withinB a0 0 36000000)), σ) (Within_eq a0 0 36000000 σ) ?_
 exact rf_fin _ (fin_same _ _) ⟨rfl, rfl⟩

noncomputable def t_cue_compare (a0 : KeyD) (a1 : KeyD) : Option Int :=
 if ¬ (a0.unit = a1.unit) then
  if a0.unit < a1.unit then
   some (-1)
  else
  some 1
 else
 some (Lib.compareBytes a0.param.data.toList a1.param.data.toList)
theorem h_cue_compare {a0 : KeyD} { a1 : KeyD} {σ : Heap} {r : Int} (h : t_cue_compare a0 a1 = some r) : m_cue_compare [(AV.agg (cKey a0)), (AV.agg (cKey a1))] σ = some ((AV.int .i64 r), σ) := by
 refine rf_wrap2 (f := r_cue_compare) (y0 := (AV.agg (cKey a0))) (y1 := (AV.agg (cKey a1))) (enc := fun r : Int => (AV.int .i64 r)) (T := t_cue_compare a0 a1) rfl rfl ?_ r h
 unfold r_cue_compare t_cue_compare
 refine rf_s (cKey a0) rfl ?_
 refine rf_s (cKey a1) rfl ?_
 refine rf_s (AV.int .i64 a0.unit) rfl ?_
 refine rf_s (AV.int .i64 a1.unit) rfl ?_
 refine rf_s (AV.bool (decide (¬ (a0.unit = a1.unit)))) (aNe _ _ _) ?_
 refine rf_c (p := ¬ (a0.unit = a1.unit)) (fun c2 => ?_) (fun c2 => ?_)
 ·refine rf_s (AV.int .i64 a0.unit) rfl ?_
  refine rf_s (AV.int .i64 a1.unit) rfl ?_
  refine rf_s (AV.bool (decide (a0.unit < a1.unit))) rfl ?_
  refine rf_c (p := a0.unit < a1.unit) (fun c1 => ?_) (fun c1 => ?_)
  ·exact rf_fin _ (fin_same _ _) ⟨rfl, rfl⟩
  exact rf_fin _ (fin_same _ _) ⟨rfl, rfl⟩
 refine rf_s (AV.str a0.param) rfl ?_
 refine rf_s (AV.str a1.param) rfl ?_
 refine rf_s ((AV.int .i64 (Lib.compareBytes a0.param.data.toList a1.param.data.toList)), σ) (rfl) ?_
 exact rf_fin _ (fin_same _ _) ⟨rfl, rfl⟩

noncomputable def t_cue_checkMoves (a0 : (List MoveD)) : Option Int :=
 forE a0 (fun (i8 : Nat) e7 (s1 : Unit) => (show Option (Lr Unit Unit Int) from
   if (!(withinB e7.key.unit 1 9999)) = true then
    some (.ret 1)
   else
   (tq (okS e7.key.param) (nameB e7.key.param)).bind fun r9 =>
   if (!r9) = true then
    some (.ret 5)
   else
   if ((e7.release && (decide (¬ (e7.value = (⟨0, 0⟩ : ValueD))))) || ((decide (¬ (e7.value.level = 0))) && (decide (¬ (e7.value.preset = 0))))) = true then
    some (.ret 3)
   else
   if ((!(withinB e7.value.level 0 65535)) || (!(withinB e7.value.preset 0 999))) = true then
    some (.ret 1)
   else
   if ((!e7.timed) && ((decide (¬ (e7.delay = 0))) || (decide (¬ (e7.time = 0))))) = true then
    some (.ret 3)
   else
   if ((!((withinB e7.delay 0 36000000))) || (!((withinB e7.time 0 36000000)))) = true then
    some (.ret 1)
   else
   (if decide (0 < (i8 : Int)) = true then tIx a0 (IntKind.i64.wrap ((i8 : Int) - 1)) else some default).bind fun x10 =>
   (if decide (0 < (i8 : Int)) = true then t_cue_compare x10.key e7.key else some default).bind fun r11 =>
   if ((decide (0 < (i8 : Int))) && (decide (0 ≤ r11))) = true then
    some (.ret 7)
   else
   some (.go ()))) (fun s1 => some ()) () (fun b2 =>
  some 0) (fun b2 =>
  some b2)
theorem h_cue_checkMoves {a0 : (List MoveD)} {σ : Heap} {r : Int} (h : t_cue_checkMoves a0 = some r) : m_cue_checkMoves [(sl 8 cMove a0)] σ = some ((AV.int .i64 r), σ) := by
 refine rf_wrap1 (f := r_cue_checkMoves) (y0 := (sl 8 cMove a0)) (enc := fun r : Int => (AV.int .i64 r)) (T := t_cue_checkMoves a0) rfl rfl ?_ r h
 unfold r_cue_checkMoves t_cue_checkMoves
 refine rf_s (AV.int .i64 (a0.length : Int)) (lenS_sl _ _ _) ?_
 refine rf_for (B := Unit) (R := Int) (fun (i8 : Nat) (s1 : Unit) v w3 => v = [(AV.int .i64 0), (AV.int .i64 (i8 : Int))] ∧ σ = w3) (fun (b2 : Unit) (q : LS) => ∃ u2 u7, q = ((AX.exit 0), ([u2, u7] : List AV), σ)) (fun (b2 : Int) (q : LS) => ∃ u7, q = (AX.ret, ([(AV.int .i64 b2), u7] : List AV), σ)) ?_ ?_ ⟨rfl, rfl⟩ ?_ ?_
 ·intro hle7 i8 e7 s1 v w3 he7 hI
  obtain ⟨rfl, rfl⟩ := hI
  refine rf_s (AV.bool true) (ix_lt he7) ?_
  refine rf_ct ?_
  refine rf_s (AV.rp (cMove e7)) (ix_for he7) ?_
  refine rf_s (AV.agg (cMove e7)) rfl ?_
  refine rf_s (cMove e7) rfl ?_
  refine rf_s (cMove e7) (sp_cMove _ _ rfl) ?_
  refine rf_s (AV.int .i64 e7.key.unit) rfl ?_
  refine rf_s ((AV.bool (withinB e7.key.unit 1 9999)), σ) (Within_eq e7.key.unit 1 9999 σ) ?_
  refine rf_s (AV.bool (!(withinB e7.key.unit 1 9999))) rfl ?_
  refine rf_cb (c := (!(withinB e7.key.unit 1 9999))) (fun c18 => ?_) (fun c18 => ?_)
  ·exact rf_ret (rnd_ret (by simp) ⟨_, rfl⟩)
  refine rf_s (AV.str e7.key.param) rfl ?_
  refine rf_o (fun r9 : Bool => ((AV.bool r9), σ)) (fun r9 hr9 => (tq_of (e := fun r : Bool => ((AV.bool r), σ)) (fun hs => Name_eq e7.key.param hs σ)) hr9) (fun r9 hr9 => ?_)
  refine rf_s (AV.bool (!r9)) rfl ?_
  refine rf_cb (c := (!r9)) (fun c17 => ?_) (fun c17 => ?_)
  ·exact rf_ret (rnd_ret (by simp) ⟨_, rfl⟩)
  refine rf_s (AV.bool e7.release) rfl ?_
  refine rf_gt (AV.agg (cValue e7.value)) (fun hg => rfl) ?_
  refine rf_gt (AV.agg (cValue (⟨0, 0⟩ : ValueD))) (fun hg => rfl) ?_
  refine rf_gt (AV.bool (decide (¬ (e7.value = (⟨0, 0⟩ : ValueD))))) (fun hg => by
    simp only [hg, Bool.true_and, cond_true]; first | done | exact (ne_Value _ _)) ?_
  refine rf_s (AV.bool (e7.release && (decide (¬ (e7.value = (⟨0, 0⟩ : ValueD)))))) (pk_and _ _) ?_
  refine rf_gf (AV.int .i64 e7.value.level) (fun hg => rfl) ?_
  refine rf_gf (AV.bool (decide (¬ (e7.value.level = 0)))) (fun hg => by
    simp only [hg, Bool.true_and, cond_true]; first | done | exact (aNe _ _ _)) ?_
  refine rf_gf (AV.bool (decide (¬ (e7.value.level = 0)))) (fun hg => by
    simp only [hg, Bool.true_and, cond_true]; first | done | exact rfl) ?_
  refine rf_ggt (AV.int .i64 e7.value.preset) (fun hg => rfl) ?_
  refine rf_ggt (AV.bool (decide (¬ (e7.value.preset = 0)))) (fun hg => by
    simp only [hg, Bool.true_and, cond_true]; first | done | exact (aNe _ _ _)) ?_
  refine rf_gf (AV.bool ((decide (¬ (e7.value.level = 0))) && (decide (¬ (e7.value.preset = 0))))) (fun hg => by
    simp only [hg, Bool.true_and, cond_true]; first | done | exact (pk_and _ _)) ?_
  refine rf_s (AV.bool ((e7.release && (decide (¬ (e7.value = (⟨0, 0⟩ : ValueD))))) || ((decide (¬ (e7.value.level = 0))) && (decide (¬ (e7.value.preset = 0)))))) (pk_or _ _) ?_
  refine rf_cb (c := ((e7.release && (decide (¬ (e7.value = (⟨0, 0⟩ : ValueD))))) || ((decide (¬ (e7.value.level = 0))) && (decide (¬ (e7.value.preset = 0)))))) (fun c16 => ?_) (fun c16 => ?_)
  ·exact rf_ret (rnd_ret (by simp) ⟨_, rfl⟩)
  refine rf_s (AV.int .i64 e7.value.level) rfl ?_
  refine rf_s ((AV.bool (withinB e7.value.level 0 65535)), σ) (Within_eq e7.value.level 0 65535 σ) ?_
  refine rf_s (AV.bool (!(withinB e7.value.level 0 65535))) rfl ?_
  refine rf_gf (AV.int .i64 e7.value.preset) (fun hg => rfl) ?_
  refine rf_gf (AV.bool (withinB e7.value.preset 0 999)) (fun hg => by
    simp only [hg, Bool.true_and, cond_true]; first | done | exact (quiet_of (Within_eq e7.value.preset 0 999 σ))) ?_
  refine rf_gf (AV.bool (!(withinB e7.value.preset 0 999))) (fun hg => by
    simp only [hg, Bool.true_and, cond_true]; first | done | exact rfl) ?_
  refine rf_s (AV.bool ((!(withinB e7.value.level 0 65535)) || (!(withinB e7.value.preset 0 999)))) (pk_or _ _) ?_
  refine rf_cb (c := ((!(withinB e7.value.level 0 65535)) || (!(withinB e7.value.preset 0 999)))) (fun c15 => ?_) (fun c15 => ?_)
  ·exact rf_ret (rnd_ret (by simp) ⟨_, rfl⟩)
  refine rf_s (AV.bool e7.timed) rfl ?_
  refine rf_s (AV.bool (!e7.timed)) rfl ?_
  refine rf_gt (AV.int .i64 e7.delay) (fun hg => rfl) ?_
  refine rf_gt (AV.bool (decide (¬ (e7.delay = 0)))) (fun hg => by
    simp only [hg, Bool.true_and, cond_true]; first | done | exact (aNe _ _ _)) ?_
  refine rf_gt (AV.bool (decide (¬ (e7.delay = 0)))) (fun hg => by
    simp only [hg, Bool.true_and, cond_true]; first | done | exact rfl) ?_
  refine rf_ggf (AV.int .i64 e7.time) (fun hg => rfl) ?_
  refine rf_ggf (AV.bool (decide (¬ (e7.time = 0)))) (fun hg => by
    simp only [hg, Bool.true_and, cond_true]; first | done | exact (aNe _ _ _)) ?_
  refine rf_gt (AV.bool ((decide (¬ (e7.delay = 0))) || (decide (¬ (e7.time = 0))))) (fun hg => by
    simp only [hg, Bool.true_and, cond_true]; first | done | exact (pk_or _ _)) ?_
  refine rf_s (AV.bool ((!e7.timed) && ((decide (¬ (e7.delay = 0))) || (decide (¬ (e7.time = 0)))))) (pk_and _ _) ?_
  refine rf_cb (c := ((!e7.timed) && ((decide (¬ (e7.delay = 0))) || (decide (¬ (e7.time = 0)))))) (fun c14 => ?_) (fun c14 => ?_)
  ·exact rf_ret (rnd_ret (by simp) ⟨_, rfl⟩)
  refine rf_s (AV.int .i64 e7.delay) rfl ?_
  refine rf_s ((AV.bool ((withinB e7.delay 0 36000000))), σ) (h_cue_isTime (σ := σ) (r := (withinB e7.delay 0 36000000)) rfl) ?_
  refine rf_s (AV.bool (!((withinB e7.delay 0 36000000)))) rfl ?_
  refine rf_gf (AV.int .i64 e7.time) (fun hg => rfl) ?_
  refine rf_gf (AV.bool ((withinB e7.time 0 36000000))) (fun hg => by
    simp only [hg, Bool.true_and, cond_true]; first | done | exact (quiet_of (h_cue_isTime (σ := σ) (r := (withinB e7.time 0 36000000)) rfl))) ?_
  refine rf_gf (AV.bool (!((withinB e7.time 0 36000000)))) (fun hg => by
    simp only [hg, Bool.true_and, cond_true]; first | done | exact rfl) ?_
  refine rf_s (AV.bool ((!((withinB e7.delay 0 36000000))) || (!((withinB e7.time 0 36000000))))) (pk_or _ _) ?_
  refine rf_cb (c := ((!((withinB e7.delay 0 36000000))) || (!((withinB e7.time 0 36000000))))) (fun c13 => ?_) (fun c13 => ?_)
  ·exact rf_ret (rnd_ret (by simp) ⟨_, rfl⟩)
  refine rf_s (AV.bool (decide (0 < (i8 : Int)))) rfl ?_
  refine rf_gt (sl 8 cMove a0) (fun hg => rfl) ?_
  refine rf_gt (AV.int .i64 (i8 : Int)) (fun hg => rfl) ?_
  refine rf_gt (AV.int .i64 (IntKind.i64.wrap ((i8 : Int) - 1))) (fun hg => by
    simp only [hg, Bool.true_and, cond_true]; first | done | exact rfl) ?_
  refine rf_gto (ω := MoveD) (fun x10 => (AV.rp (cMove x10))) (fun hg x10 hx10 => by
    simp only [hg, Bool.true_and, cond_true]; first | done | exact ix_at hx10) (fun x10 hx10 => ?_)
  refine rf_gt (AV.rp (cMove x10)) (fun hg => by
    simp only [hg, Bool.true_and, cond_true]; first | done | exact rfl) ?_
  refine rf_gt (AV.agg (cKey x10.key)) (fun hg => by
    simp only [hg, Bool.true_and, cond_true]; first | done | exact rfl) ?_
  refine rf_gt (AV.agg (cKey e7.key)) (fun hg => rfl) ?_
  refine rf_gto (ω := Int) (fun r11 => (AV.int .i64 r11)) (fun hg r11 hr11 => by
    simp only [hg, Bool.true_and, cond_true]; first | done | exact (quiet_of (h_cue_compare hr11))) (fun r11 hr11 => ?_)
  refine rf_gt (AV.bool (decide (0 ≤ r11))) (fun hg => by
    simp only [hg, Bool.true_and, cond_true]; first | done | exact rfl) ?_
  refine rf_s (AV.bool ((decide (0 < (i8 : Int))) && (decide (0 ≤ r11)))) (pk_and _ _) ?_
  refine rf_cb (c := ((decide (0 < (i8 : Int))) && (decide (0 ≤ r11)))) (fun c12 => ?_) (fun c12 => ?_)
  ·exact rf_ret (rnd_ret (by simp) ⟨_, rfl⟩)
  refine rf_s (AV.int .i64 ((i8 + 1 : Nat) : Int)) (ix_inc he7 hle7) ?_
  exact rf_ret (rnd_go ⟨rfl, rfl⟩)
 ·intro hl s1 v w3 hI
  obtain ⟨rfl, rfl⟩ := hI
  refine rf_s (AV.bool false) (ix_end _) ?_
  refine rf_cf ?_
  exact rf_ret ⟨by simp, ⟨_, _, rfl⟩⟩
 ·intro hl b2 q hq
  obtain ⟨u2, u7, rfl⟩ := hq
  refine rf_bt rfl ?_
  exact rf_fin _ (fin_same _ _) ⟨rfl, rfl⟩
 ·intro hl b2 q hq
  obtain ⟨u7, rfl⟩ := hq
  refine rf_bf rfl ?_
  refine rf_bt rfl ?_
  exact rf_fin _ (fin_same _ _) ⟨rfl, rfl⟩

noncomputable def t_cue_form (a0 : (List CueD)) : Option Int :=
 if 300 < (a0.length : Int) then
  some 2
 else
 forE a0 (fun (i8 : Nat) e7 (s1 : Int) => (show Option (Lr Int Int Int) from
   if (!(withinB e7.number 1 9999999)) = true then
    some (.ret 1)
   else
   (if decide (0 < (i8 : Int)) = true then tIx a0 (IntKind.i64.wrap ((i8 : Int) - 1)) else some default).bind fun x9 =>
   if ((decide (0 < (i8 : Int))) && (decide (e7.number ≤ x9.number))) = true then
    some (.ret 7)
   else
   (if decide (¬ (e7.title = (⟨#[]⟩ : ByteArray))) = true then tq (okS e7.title) (titleB e7.title) else some default).bind fun r10 =>
   if ((decide (¬ (e7.title = (⟨#[]⟩ : ByteArray)))) && (!r10)) = true then
    some (.ret 3)
   else
   if (((((!((withinB e7.delay 0 36000000))) || (!((withinB e7.up 0 36000000)))) || (!((withinB e7.down 0 36000000)))) || (!((withinB e7.other 0 36000000)))) || (!(withinB e7.follow (-1) 36000000))) = true then
    some (.ret 1)
   else
   if ¬ ((curveF e7.curve) = 0) then
    some (.ret (curveF e7.curve))
   else
   if 2000 < (e7.moves.length : Int) then
    some (.ret 2)
   else
   (t_cue_checkMoves e7.moves).bind fun r11 =>
   if ¬ (r11 = 0) then
    some (.ret r11)
   else
   some (.go (IntKind.i64.wrap (s1 + (e7.moves.length : Int)))))) (fun s1 => some s1) 0 (fun b2 =>
  some (if (decide (10000 < b2)) = true then 2 else 0)) (fun b2 =>
  some b2)
theorem h_cue_form {a0 : (List CueD)} {σ : Heap} {r : Int} (h : t_cue_form a0 = some r) : m_cue_form [(sl 11 cCue a0)] σ = some ((AV.int .i64 r), σ) := by
 refine rf_wrap1 (f := r_cue_form) (y0 := (sl 11 cCue a0)) (enc := fun r : Int => (AV.int .i64 r)) (T := t_cue_form a0) (nn_t1 (nn_e (fun _ => rfl) _) rfl) rfl ?_ r h
 unfold r_cue_form t_cue_form
 refine rf_s (AV.int .i64 (a0.length : Int)) (lenS_sl _ _ _) ?_
 refine rf_s (AV.bool (decide (300 < (a0.length : Int)))) rfl ?_
 refine rf_c (p := 300 < (a0.length : Int)) (fun c19 => ?_) (fun c19 => ?_)
 ·exact rf_fin _ (fin_same _ _) ⟨rfl, rfl⟩
 refine rf_s (AV.int .i64 (a0.length : Int)) (lenS_sl _ _ _) ?_
 refine rf_for (B := Int) (R := Int) (fun (i8 : Nat) (s1 : Int) v w3 => v = [(AV.int .i64 0), (AV.int .i64 s1), (AV.int .i64 (i8 : Int))] ∧ σ = w3) (fun (b2 : Int) (q : LS) => ∃ u2 u13, q = ((AX.exit 0), ([u2, (AV.int .i64 b2), u13] : List AV), σ)) (fun (b2 : Int) (q : LS) => ∃ u3 u13, q = (AX.ret, ([(AV.int .i64 b2), u3, u13] : List AV), σ)) ?_ ?_ ⟨rfl, rfl⟩ ?_ ?_
 ·intro hle7 i8 e7 s1 v w3 he7 hI
  obtain ⟨rfl, rfl⟩ := hI
  refine rf_s (AV.bool true) (ix_lt he7) ?_
  refine rf_ct ?_
  refine rf_s (AV.rp (cCue e7)) (ix_for he7) ?_
  refine rf_s (AV.agg (cCue e7)) rfl ?_
  refine rf_s (cCue e7) rfl ?_
  refine rf_s (cCue e7) (sp_cCue _ _ rfl) ?_
  refine rf_s (AV.int .i64 e7.number) rfl ?_
  refine rf_s ((AV.bool (withinB e7.number 1 9999999)), σ) (Within_eq e7.number 1 9999999 σ) ?_
  refine rf_s (AV.bool (!(withinB e7.number 1 9999999))) rfl ?_
  refine rf_cb (c := (!(withinB e7.number 1 9999999))) (fun c18 => ?_) (fun c18 => ?_)
  ·exact rf_ret (rnd_ret (by simp) ⟨_, _, rfl⟩)
  refine rf_s (AV.bool (decide (0 < (i8 : Int)))) rfl ?_
  refine rf_gt (AV.int .i64 e7.number) (fun hg => rfl) ?_
  refine rf_gt (sl 11 cCue a0) (fun hg => rfl) ?_
  refine rf_gt (AV.int .i64 (i8 : Int)) (fun hg => rfl) ?_
  refine rf_gt (AV.int .i64 (IntKind.i64.wrap ((i8 : Int) - 1))) (fun hg => by
    simp only [hg, Bool.true_and, cond_true]; first | done | exact rfl) ?_
  refine rf_gto (ω := CueD) (fun x9 => (AV.rp (cCue x9))) (fun hg x9 hx9 => by
    simp only [hg, Bool.true_and, cond_true]; first | done | exact ix_at hx9) (fun x9 hx9 => ?_)
  refine rf_gt (AV.rp (cCue x9)) (fun hg => by
    simp only [hg, Bool.true_and, cond_true]; first | done | exact rfl) ?_
  refine rf_gt (AV.int .i64 x9.number) (fun hg => by
    simp only [hg, Bool.true_and, cond_true]; first | done | exact rfl) ?_
  refine rf_gt (AV.bool (decide (e7.number ≤ x9.number))) (fun hg => by
    simp only [hg, Bool.true_and, cond_true]; first | done | exact rfl) ?_
  refine rf_s (AV.bool ((decide (0 < (i8 : Int))) && (decide (e7.number ≤ x9.number)))) (pk_and _ _) ?_
  refine rf_cb (c := ((decide (0 < (i8 : Int))) && (decide (e7.number ≤ x9.number)))) (fun c17 => ?_) (fun c17 => ?_)
  ·exact rf_ret (rnd_ret (by simp) ⟨_, _, rfl⟩)
  refine rf_s (AV.str e7.title) rfl ?_
  refine rf_s (AV.bool (decide (¬ (e7.title = (⟨#[]⟩ : ByteArray))))) (aNeZ _ _) ?_
  refine rf_gt (AV.str e7.title) (fun hg => rfl) ?_
  refine rf_gto (ω := Bool) (fun r10 => (AV.bool r10)) (fun hg r10 hr10 => by
    simp only [hg, Bool.true_and, cond_true]; first | done | exact (quiet_of ((tq_of (e := fun r : Bool => ((AV.bool r), σ)) (fun hs => Title_eq e7.title hs σ)) hr10))) (fun r10 hr10 => ?_)
  refine rf_gt (AV.bool (!r10)) (fun hg => by
    simp only [hg, Bool.true_and, cond_true]; first | done | exact rfl) ?_
  refine rf_s (AV.bool ((decide (¬ (e7.title = (⟨#[]⟩ : ByteArray)))) && (!r10))) (pk_and _ _) ?_
  refine rf_cb (c := ((decide (¬ (e7.title = (⟨#[]⟩ : ByteArray)))) && (!r10))) (fun c16 => ?_) (fun c16 => ?_)
  ·exact rf_ret (rnd_ret (by simp) ⟨_, _, rfl⟩)
  refine rf_s (AV.int .i64 e7.delay) rfl ?_
  refine rf_s ((AV.bool ((withinB e7.delay 0 36000000))), σ) (h_cue_isTime (σ := σ) (r := (withinB e7.delay 0 36000000)) rfl) ?_
  refine rf_s (AV.bool (!((withinB e7.delay 0 36000000)))) rfl ?_
  refine rf_gf (AV.int .i64 e7.up) (fun hg => rfl) ?_
  refine rf_gf (AV.bool ((withinB e7.up 0 36000000))) (fun hg => by
    simp only [hg, Bool.true_and, cond_true]; first | done | exact (quiet_of (h_cue_isTime (σ := σ) (r := (withinB e7.up 0 36000000)) rfl))) ?_
  refine rf_gf (AV.bool (!((withinB e7.up 0 36000000)))) (fun hg => by
    simp only [hg, Bool.true_and, cond_true]; first | done | exact rfl) ?_
  refine rf_s (AV.bool ((!((withinB e7.delay 0 36000000))) || (!((withinB e7.up 0 36000000))))) (pk_or _ _) ?_
  refine rf_gf (AV.int .i64 e7.down) (fun hg => rfl) ?_
  refine rf_gf (AV.bool ((withinB e7.down 0 36000000))) (fun hg => by
    simp only [hg, Bool.true_and, cond_true]; first | done | exact (quiet_of (h_cue_isTime (σ := σ) (r := (withinB e7.down 0 36000000)) rfl))) ?_
  refine rf_gf (AV.bool (!((withinB e7.down 0 36000000)))) (fun hg => by
    simp only [hg, Bool.true_and, cond_true]; first | done | exact rfl) ?_
  refine rf_s (AV.bool (((!((withinB e7.delay 0 36000000))) || (!((withinB e7.up 0 36000000)))) || (!((withinB e7.down 0 36000000))))) (pk_or _ _) ?_
  refine rf_gf (AV.int .i64 e7.other) (fun hg => rfl) ?_
  refine rf_gf (AV.bool ((withinB e7.other 0 36000000))) (fun hg => by
    simp only [hg, Bool.true_and, cond_true]; first | done | exact (quiet_of (h_cue_isTime (σ := σ) (r := (withinB e7.other 0 36000000)) rfl))) ?_
  refine rf_gf (AV.bool (!((withinB e7.other 0 36000000)))) (fun hg => by
    simp only [hg, Bool.true_and, cond_true]; first | done | exact rfl) ?_
  refine rf_s (AV.bool ((((!((withinB e7.delay 0 36000000))) || (!((withinB e7.up 0 36000000)))) || (!((withinB e7.down 0 36000000)))) || (!((withinB e7.other 0 36000000))))) (pk_or _ _) ?_
  refine rf_gf (AV.int .i64 e7.follow) (fun hg => rfl) ?_
  refine rf_gf (AV.bool (withinB e7.follow (-1) 36000000)) (fun hg => by
    simp only [hg, Bool.true_and, cond_true]; first | done | exact (quiet_of (Within_eq e7.follow (-1) 36000000 σ))) ?_
  refine rf_gf (AV.bool (!(withinB e7.follow (-1) 36000000))) (fun hg => by
    simp only [hg, Bool.true_and, cond_true]; first | done | exact rfl) ?_
  refine rf_s (AV.bool (((((!((withinB e7.delay 0 36000000))) || (!((withinB e7.up 0 36000000)))) || (!((withinB e7.down 0 36000000)))) || (!((withinB e7.other 0 36000000)))) || (!(withinB e7.follow (-1) 36000000)))) (pk_or _ _) ?_
  refine rf_cb (c := (((((!((withinB e7.delay 0 36000000))) || (!((withinB e7.up 0 36000000)))) || (!((withinB e7.down 0 36000000)))) || (!((withinB e7.other 0 36000000)))) || (!(withinB e7.follow (-1) 36000000)))) (fun c15 => ?_) (fun c15 => ?_)
  ·exact rf_ret (rnd_ret (by simp) ⟨_, _, rfl⟩)
  refine rf_s (AV.agg (cCurve e7.curve)) rfl ?_
  refine rf_s ((AV.int .i64 (curveF e7.curve)), σ) (CheckCurve_eq e7.curve σ) ?_
  refine rf_s (AV.bool (decide (¬ ((curveF e7.curve) = 0)))) (aNe _ _ _) ?_
  refine rf_c (p := ¬ ((curveF e7.curve) = 0)) (fun c14 => ?_) (fun c14 => ?_)
  ·exact rf_ret (rnd_ret (by simp) ⟨_, _, rfl⟩)
  refine rf_s (sl 8 cMove e7.moves) rfl ?_
  refine rf_s (AV.int .i64 (e7.moves.length : Int)) (lenS_sl _ _ _) ?_
  refine rf_s (AV.bool (decide (2000 < (e7.moves.length : Int)))) rfl ?_
  refine rf_c (p := 2000 < (e7.moves.length : Int)) (fun c13 => ?_) (fun c13 => ?_)
  ·exact rf_ret (rnd_ret (by simp) ⟨_, _, rfl⟩)
  refine rf_s (sl 8 cMove e7.moves) rfl ?_
  refine rf_o (fun r11 : Int => ((AV.int .i64 r11), σ)) (fun r11 hr11 => h_cue_checkMoves hr11) (fun r11 hr11 => ?_)
  refine rf_s (AV.bool (decide (¬ (r11 = 0)))) (aNe _ _ _) ?_
  refine rf_c (p := ¬ (r11 = 0)) (fun c12 => ?_) (fun c12 => ?_)
  ·exact rf_ret (rnd_ret (by simp) ⟨_, _, rfl⟩)
  refine rf_s (sl 8 cMove e7.moves) rfl ?_
  refine rf_s (AV.int .i64 (e7.moves.length : Int)) (lenS_sl _ _ _) ?_
  refine rf_s (AV.int .i64 (IntKind.i64.wrap (s1 + (e7.moves.length : Int)))) rfl ?_
  refine rf_s (AV.int .i64 ((i8 + 1 : Nat) : Int)) (ix_inc he7 hle7) ?_
  exact rf_ret (rnd_go ⟨rfl, rfl⟩)
 ·intro hl s1 v w3 hI
  obtain ⟨rfl, rfl⟩ := hI
  refine rf_s (AV.bool false) (ix_end _) ?_
  refine rf_cf ?_
  exact rf_ret ⟨by simp, ⟨_, _, rfl⟩⟩
 ·intro hl b2 q hq
  obtain ⟨u2, u13, rfl⟩ := hq
  refine rf_bt rfl ?_
  refine rf_s (AV.bool (decide (10000 < b2))) rfl ?_
  refine rf_s ((AV.int .i64 (if (decide (10000 < b2)) = true then 2 else 0)), σ) (When_eq (decide (10000 < b2)) 2 σ) ?_
  exact rf_fin _ (fin_same _ _) ⟨rfl, rfl⟩
 ·intro hl b2 q hq
  obtain ⟨u3, u13, rfl⟩ := hq
  refine rf_bf rfl ?_
  refine rf_bt rfl ?_
  exact rf_fin _ (fin_same _ _) ⟨rfl, rfl⟩

noncomputable def t_pick_keys (a0 : RigD) : Option (List (KeyD × Bool)) :=
 (tq (okRig a0) (((if rigF a0 = 0 then keysOf a0 else [] : List KeyD), rigF a0))).bind fun r1 =>
 forE r1.1 (fun (i11 : Nat) e10 (s4 : (List (KeyD × Bool))) => (show Option (Lr (List (KeyD × Bool)) (List (KeyD × Bool)) Unit) from
   some (.go (tupd e10 true s4)))) (fun s4 => some s4) ([] : List (KeyD × Bool)) (fun b5 =>
  some b5) (fun b5 =>
  none)
theorem h_pick_keys {a0 : RigD} {σ : Heap} {r : (List (KeyD × Bool))} (h : t_pick_keys a0 = some r) : m_pick_keys [(AV.agg (cRig a0))] σ = some ((fmE (fun x => (AV.agg (cKey x))) (fun x => (AV.bool x)) r), σ) := by
 refine rf_wrap1 (f := r_pick_keys) (y0 := (AV.agg (cRig a0))) (enc := fun r : (List (KeyD × Bool)) => (fmE (fun x => (AV.agg (cKey x))) (fun x => (AV.bool x)) r)) (T := t_pick_keys a0) rfl rfl ?_ r h
 unfold r_pick_keys t_pick_keys
 refine rf_s (cRig a0) rfl ?_
 refine rf_s (AV.agg (cRig a0)) rfl ?_
 refine rf_o (fun r1 : ((List KeyD) × Int) => ((AV.tup [(sl 2 cKey r1.1), (AV.int .i64 r1.2)]), σ)) (fun r1 hr1 => (tq_of (e := fun r : ((List KeyD) × Int) => ((AV.tup [(sl 2 cKey r.1), (AV.int .i64 r.2)]), σ)) (fun hs => Keys_eq a0 hs σ)) hr1) (fun r1 hr1 => ?_)
 refine rf_s (sl 2 cKey r1.1) rfl ?_
 refine rf_s (AV.int .i64 r1.2) rfl ?_
 have hp2 : Hp σ σ [] := hp_nil σ
 have hp3 : Hp σ (σ ++ [Blk.map []]) [((AV.om σ.length), (Ct.m (List.map (fun p => ((fun x => (AV.agg (cKey x))) p.1, (fun x => (AV.bool x)) p.2)) ([] : List (KeyD × Bool)))))] := hp_om hp2
 refine rf_s (AV.int .i64 (r1.1.length : Int)) (lenS_sl _ _ _) ?_
 refine rf_for (B := (List (KeyD × Bool))) (R := Unit) (fun (i11 : Nat) (s4 : (List (KeyD × Bool))) v w6 => v = [(AV.int .i64 (i11 : Int))] ∧ Hp σ w6 [((AV.om σ.length), (Ct.m (List.map (fun p => ((fun x => (AV.agg (cKey x))) p.1, (fun x => (AV.bool x)) p.2)) s4)))]) (fun (b5 : (List (KeyD × Bool))) (q : LS) => ∃ u16 w7, q = ((AX.exit 0), ([u16] : List AV), w7) ∧ Hp σ w7 [((AV.om σ.length), (Ct.m (List.map (fun p => ((fun x => (AV.agg (cKey x))) p.1, (fun x => (AV.bool x)) p.2)) b5)))]) (fun (b5 : Unit) (q : LS) => False) ?_ ?_ ⟨rfl, hp3⟩ ?_ ?_
 ·intro hle10 i11 e10 s4 v w6 he10 hI
  obtain ⟨rfl, hp8⟩ := hI
  refine rf_s (AV.bool true) (ix_lt he10) ?_
  refine rf_ct ?_
  refine rf_s (AV.rp (cKey e10)) (ix_for he10) ?_
  refine rf_s (AV.agg (cKey e10)) rfl ?_
  refine rf_s (cKey e10) rfl ?_
  refine rf_s (cKey e10) (sp_cKey _ _ rfl) ?_
  refine rf_s (AV.agg (cKey e10)) rfl ?_
  obtain ⟨w12, e14, hp13⟩ := hp_updT (ek := (.s [0, 2])) (eK := (fun x => (AV.agg (cKey x)))) (eV := (fun x => (AV.bool x))) hp8 0 rfl eqk_Key e10 true rfl
  change Hp σ w12 [((AV.om σ.length), (Ct.m (List.map (fun p => ((fun x => (AV.agg (cKey x))) p.1, (fun x => (AV.bool x)) p.2)) (tupd e10 true s4))))] at hp13
  refine rf_s w12 e14 ?_
  refine rf_s (AV.int .i64 ((i11 + 1 : Nat) : Int)) (ix_inc he10 hle10) ?_
  exact rf_ret (rnd_go ⟨rfl, hp13⟩)
 ·intro hl s4 v w6 hI
  obtain ⟨rfl, hp8⟩ := hI
  refine rf_s (AV.bool false) (ix_end _) ?_
  refine rf_cf ?_
  exact rf_ret ⟨by simp, ⟨_, _, rfl, hp8⟩⟩
 ·intro hl b5 q hq
  obtain ⟨u16, w7, rfl, hp9⟩ := hq
  refine rf_bt rfl ?_
  exact rf_fin _ (hp_fin hp9 (fzv_om hp9 (k := 0) rfl (by intro p hp; obtain ⟨x, _, rfl⟩ := List.mem_map.1 hp; exact ⟨(fz_agg (fz_cKey _)), (fz_bool _)⟩))) ⟨rfl, rfl⟩
 ·intro hl b5 q hq
  exact False.elim hq

noncomputable def t_pick_before (a0 : KeyD) (a1 : KeyD) : Option Bool :=
 if ¬ (a0.unit = a1.unit) then
  some (decide (a0.unit < a1.unit))
 else
 some (decide ((Lib.compareBytes a0.param.data.toList a1.param.data.toList) < 0))
theorem h_pick_before {a0 : KeyD} { a1 : KeyD} {σ : Heap} {r : Bool} (h : t_pick_before a0 a1 = some r) : m_pick_before [(AV.agg (cKey a0)), (AV.agg (cKey a1))] σ = some ((AV.bool r), σ) := by
 refine rf_wrap2 (f := r_pick_before) (y0 := (AV.agg (cKey a0))) (y1 := (AV.agg (cKey a1))) (enc := fun r : Bool => (AV.bool r)) (T := t_pick_before a0 a1) rfl rfl ?_ r h
 unfold r_pick_before t_pick_before
 refine rf_s (cKey a0) rfl ?_
 refine rf_s (cKey a1) rfl ?_
 refine rf_s (AV.int .i64 a0.unit) rfl ?_
 refine rf_s (AV.int .i64 a1.unit) rfl ?_
 refine rf_s (AV.bool (decide (¬ (a0.unit = a1.unit)))) (aNe _ _ _) ?_
 refine rf_c (p := ¬ (a0.unit = a1.unit)) (fun c1 => ?_) (fun c1 => ?_)
 ·refine rf_s (AV.int .i64 a0.unit) rfl ?_
  refine rf_s (AV.int .i64 a1.unit) rfl ?_
  refine rf_s (AV.bool (decide (a0.unit < a1.unit))) rfl ?_
  exact rf_fin _ (fin_same _ _) ⟨rfl, rfl⟩
 refine rf_s (AV.str a0.param) rfl ?_
 refine rf_s (AV.str a1.param) rfl ?_
 refine rf_s ((AV.int .i64 (Lib.compareBytes a0.param.data.toList a1.param.data.toList)), σ) (rfl) ?_
 refine rf_s (AV.bool (decide ((Lib.compareBytes a0.param.data.toList a1.param.data.toList) < 0))) rfl ?_
 exact rf_fin _ (fin_same _ _) ⟨rfl, rfl⟩

noncomputable def t_pick_CheckPresets (a0 : RigD) (a1 : (List PresetD)) : Option Int :=
 (tq (okRig a0) (rigF a0)).bind fun r1 =>
 (tq (([r1, (if (decide (200 < (a1.length : Int))) = true then 2 else 0)] : (List Int)).length ≤ mxl) ((([r1, (if (decide (200 < (a1.length : Int))) = true then 2 else 0)] : (List Int)).find? fun n => decide (¬ n = 0)).getD 0)).bind fun r2 =>
 if ¬ (r2 = 0) then
  some r2
 else
 (t_pick_keys a0).bind fun r3 =>
 forE a1 (fun (i11 : Nat) e10 (s4 : Unit) => (show Option (Lr Unit Unit Int) from
   if (!(withinB e10.number 1 999)) = true then
    some (.ret 1)
   else
   (if decide (0 < (i11 : Int)) = true then tIx a1 (IntKind.i64.wrap ((i11 : Int) - 1)) else some default).bind fun x12 =>
   if ((decide (0 < (i11 : Int))) && (decide (e10.number ≤ x12.number))) = true then
    some (.ret 7)
   else
   (tq (okS e10.title) (blankB e10.title)).bind fun r13 =>
   if (!r13) = true then
    some (.ret 3)
   else
   if 2000 < (e10.settings.length : Int) then
    some (.ret 2)
   else
   forE e10.settings (fun (i21 : Nat) e20 (s14 : Unit) => (show Option (Lr Unit Unit Int) from
     if (!((tfind e20.key r3).getD false)) = true then
      some (.ret 8)
     else
     if (!(withinB e20.level 0 65535)) = true then
      some (.ret 1)
     else
     (if decide (0 < (i21 : Int)) = true then tIx e10.settings (IntKind.i64.wrap ((i21 : Int) - 1)) else some default).bind fun x22 =>
     (if decide (0 < (i21 : Int)) = true then t_pick_before x22.key e20.key else some default).bind fun r23 =>
     if ((decide (0 < (i21 : Int))) && (!r23)) = true then
      some (.ret 7)
     else
     some (.go ()))) (fun s14 => some ()) () (fun b15 =>
    some (.go ())) (fun b15 =>
    some (.ret b15)))) (fun s4 => some ()) () (fun b5 =>
  some 0) (fun b5 =>
  some b5)
theorem h_pick_CheckPresets {a0 : RigD} { a1 : (List PresetD)} {σ : Heap} {r : Int} (h : t_pick_CheckPresets a0 a1 = some r) : m_pick_CheckPresets [(AV.agg (cRig a0)), (sl 3 cPreset a1)] σ = some ((AV.int .i64 r), σ) := by
 refine rf_wrap2 (f := r_pick_CheckPresets) (y0 := (AV.agg (cRig a0))) (y1 := (sl 3 cPreset a1)) (enc := fun r : Int => (AV.int .i64 r)) (T := t_pick_CheckPresets a0 a1) rfl rfl ?_ r h
 unfold r_pick_CheckPresets t_pick_CheckPresets
 refine rf_s (cRig a0) rfl ?_
 refine rf_s (AV.agg (cRig a0)) rfl ?_
 refine rf_o (fun r1 : Int => ((AV.int .i64 r1), σ)) (fun r1 hr1 => (tq_of (e := fun r : Int => ((AV.int .i64 r), σ)) (fun hs => CheckRig_eq a0 hs σ)) hr1) (fun r1 hr1 => ?_)
 refine rf_s (AV.int .i64 (a1.length : Int)) (lenS_sl _ _ _) ?_
 refine rf_s (AV.bool (decide (200 < (a1.length : Int)))) rfl ?_
 refine rf_s ((AV.int .i64 (if (decide (200 < (a1.length : Int))) = true then 2 else 0)), σ) (When_eq (decide (200 < (a1.length : Int))) 2 σ) ?_
 refine rf_s (sl 1 cInt ([r1, (if (decide (200 < (a1.length : Int))) = true then 2 else 0)] : (List Int))) rfl ?_
 refine rf_o (fun r2 : Int => ((AV.int .i64 r2), σ)) (fun r2 hr2 => (tq_of (e := fun r : Int => ((AV.int .i64 r), σ)) (fun hs => First_eq ([r1, (if (decide (200 < (a1.length : Int))) = true then 2 else 0)] : (List Int)) hs σ)) hr2) (fun r2 hr2 => ?_)
 refine rf_s (AV.bool (decide (¬ (r2 = 0)))) (aNe _ _ _) ?_
 refine rf_c (p := ¬ (r2 = 0)) (fun c31 => ?_) (fun c31 => ?_)
 ·exact rf_fin _ (fin_same _ _) ⟨rfl, rfl⟩
 refine rf_s (AV.agg (cRig a0)) rfl ?_
 refine rf_o (fun r3 : (List (KeyD × Bool)) => ((fmE (fun x => (AV.agg (cKey x))) (fun x => (AV.bool x)) r3), σ)) (fun r3 hr3 => h_pick_keys hr3) (fun r3 hr3 => ?_)
 refine rf_s (AV.int .i64 (a1.length : Int)) (lenS_sl _ _ _) ?_
 refine rf_for (B := Unit) (R := Int) (fun (i11 : Nat) (s4 : Unit) v w6 => ∃ u4, v = [u4, (AV.int .i64 (i11 : Int))] ∧ σ = w6) (fun (b5 : Unit) (q : LS) => ∃ u4 u26, q = ((AX.exit 0), ([u4, u26] : List AV), σ)) (fun (b5 : Int) (q : LS) => ∃ u26, q = (AX.ret, ([(AV.int .i64 b5), u26] : List AV), σ)) ?_ ?_ ⟨_, rfl, rfl⟩ ?_ ?_
 ·intro hle10 i11 e10 s4 v w6 he10 hI
  obtain ⟨u4, rfl, rfl⟩ := hI
  refine rf_s (AV.bool true) (ix_lt he10) ?_
  refine rf_ct ?_
  refine rf_s (AV.rp (cPreset e10)) (ix_for he10) ?_
  refine rf_s (AV.agg (cPreset e10)) rfl ?_
  refine rf_s (cPreset e10) rfl ?_
  refine rf_s (cPreset e10) (sp_cPreset _ _ rfl) ?_
  refine rf_s (AV.int .i64 e10.number) rfl ?_
  refine rf_s ((AV.bool (withinB e10.number 1 999)), σ) (Within_eq e10.number 1 999 σ) ?_
  refine rf_s (AV.bool (!(withinB e10.number 1 999))) rfl ?_
  refine rf_cb (c := (!(withinB e10.number 1 999))) (fun c30 => ?_) (fun c30 => ?_)
  ·exact rf_ret (rnd_ret (by simp) ⟨_, rfl⟩)
  refine rf_s (AV.bool (decide (0 < (i11 : Int)))) rfl ?_
  refine rf_gt (AV.int .i64 e10.number) (fun hg => rfl) ?_
  refine rf_gt (sl 3 cPreset a1) (fun hg => rfl) ?_
  refine rf_gt (AV.int .i64 (i11 : Int)) (fun hg => rfl) ?_
  refine rf_gt (AV.int .i64 (IntKind.i64.wrap ((i11 : Int) - 1))) (fun hg => by
    simp only [hg, Bool.true_and, cond_true]; first | done | exact rfl) ?_
  refine rf_gto (ω := PresetD) (fun x12 => (AV.rp (cPreset x12))) (fun hg x12 hx12 => by
    simp only [hg, Bool.true_and, cond_true]; first | done | exact ix_at hx12) (fun x12 hx12 => ?_)
  refine rf_gt (AV.rp (cPreset x12)) (fun hg => by
    simp only [hg, Bool.true_and, cond_true]; first | done | exact rfl) ?_
  refine rf_gt (AV.int .i64 x12.number) (fun hg => by
    simp only [hg, Bool.true_and, cond_true]; first | done | exact rfl) ?_
  refine rf_gt (AV.bool (decide (e10.number ≤ x12.number))) (fun hg => by
    simp only [hg, Bool.true_and, cond_true]; first | done | exact rfl) ?_
  refine rf_s (AV.bool ((decide (0 < (i11 : Int))) && (decide (e10.number ≤ x12.number)))) (pk_and _ _) ?_
  refine rf_cb (c := ((decide (0 < (i11 : Int))) && (decide (e10.number ≤ x12.number)))) (fun c29 => ?_) (fun c29 => ?_)
  ·exact rf_ret (rnd_ret (by simp) ⟨_, rfl⟩)
  refine rf_s (AV.str e10.title) rfl ?_
  refine rf_o (fun r13 : Bool => ((AV.bool r13), σ)) (fun r13 hr13 => (tq_of (e := fun r : Bool => ((AV.bool r), σ)) (fun hs => blank_eq e10.title hs σ)) hr13) (fun r13 hr13 => ?_)
  refine rf_s (AV.bool (!r13)) rfl ?_
  refine rf_cb (c := (!r13)) (fun c28 => ?_) (fun c28 => ?_)
  ·exact rf_ret (rnd_ret (by simp) ⟨_, rfl⟩)
  refine rf_s (sl 3 cSetting e10.settings) rfl ?_
  refine rf_s (AV.int .i64 (e10.settings.length : Int)) (lenS_sl _ _ _) ?_
  refine rf_s (AV.bool (decide (2000 < (e10.settings.length : Int)))) rfl ?_
  refine rf_c (p := 2000 < (e10.settings.length : Int)) (fun c27 => ?_) (fun c27 => ?_)
  ·exact rf_ret (rnd_ret (by simp) ⟨_, rfl⟩)
  refine rf_s (sl 3 cSetting e10.settings) rfl ?_
  refine rf_s (AV.int .i64 (e10.settings.length : Int)) (lenS_sl _ _ _) ?_
  refine rf_for (B := Unit) (R := Int) (fun (i21 : Nat) (s14 : Unit) v w16 => ∃ u4, v = [u4, (AV.lbx (cPreset e10)), (AV.int .i64 (i21 : Int))] ∧ σ = w16) (fun (b15 : Unit) (q : LS) => ∃ u4 u8 u63, q = ((AX.exit 3), ([u4, u8, u63] : List AV), σ)) (fun (b15 : Int) (q : LS) => ∃ u8 u63, q = (AX.ret, ([(AV.int .i64 b15), u8, u63] : List AV), σ)) ?_ ?_ ⟨_, rfl, rfl⟩ ?_ ?_
  ·intro hle20 i21 e20 s14 v w16 he20 hI
   obtain ⟨u4, rfl, rfl⟩ := hI
   refine rf_s (AV.bool true) (ix_lt he20) ?_
   refine rf_ct ?_
   refine rf_s (AV.rp (cSetting e20)) (ix_for he20) ?_
   refine rf_s (AV.agg (cSetting e20)) rfl ?_
   refine rf_s (cSetting e20) rfl ?_
   refine rf_s (cSetting e20) (sp_cSetting _ _ rfl) ?_
   refine rf_s (AV.agg (cKey e20.key)) rfl ?_
   refine rf_s (AV.bool ((tfind e20.key r3).getD false)) (fm_lookT (ek := (.s [0, 2])) (eK := (fun x => (AV.agg (cKey x)))) (eV := (fun x => (AV.bool x))) eqk_Key e20.key false rfl) ?_
   refine rf_s (AV.bool (!((tfind e20.key r3).getD false))) rfl ?_
   refine rf_cb (c := (!((tfind e20.key r3).getD false))) (fun c26 => ?_) (fun c26 => ?_)
   ·exact rf_ret (rnd_ret (by simp) ⟨_, _, rfl⟩)
   refine rf_s (AV.int .i64 e20.level) rfl ?_
   refine rf_s ((AV.bool (withinB e20.level 0 65535)), σ) (isLevelP_eq e20.level σ) ?_
   refine rf_s (AV.bool (!(withinB e20.level 0 65535))) rfl ?_
   refine rf_cb (c := (!(withinB e20.level 0 65535))) (fun c25 => ?_) (fun c25 => ?_)
   ·exact rf_ret (rnd_ret (by simp) ⟨_, _, rfl⟩)
   refine rf_s (AV.bool (decide (0 < (i21 : Int)))) rfl ?_
   refine rf_s _ rfl ?_
   refine rf_gt (sl 3 cSetting e10.settings) (fun hg => rfl) ?_
   refine rf_gt (AV.int .i64 (i21 : Int)) (fun hg => rfl) ?_
   refine rf_gt (AV.int .i64 (IntKind.i64.wrap ((i21 : Int) - 1))) (fun hg => by
     simp only [hg, Bool.true_and, cond_true]; first | done | exact rfl) ?_
   refine rf_gto (ω := SettingD) (fun x22 => (AV.rp (cSetting x22))) (fun hg x22 hx22 => by
     simp only [hg, Bool.true_and, cond_true]; first | done | exact ix_at hx22) (fun x22 hx22 => ?_)
   refine rf_gt (AV.rp (cSetting x22)) (fun hg => by
     simp only [hg, Bool.true_and, cond_true]; first | done | exact rfl) ?_
   refine rf_gt (AV.agg (cKey x22.key)) (fun hg => by
     simp only [hg, Bool.true_and, cond_true]; first | done | exact rfl) ?_
   refine rf_gt (AV.agg (cKey e20.key)) (fun hg => rfl) ?_
   refine rf_gto (ω := Bool) (fun r23 => (AV.bool r23)) (fun hg r23 hr23 => by
     simp only [hg, Bool.true_and, cond_true]; first | done | exact (quiet_of (h_pick_before hr23))) (fun r23 hr23 => ?_)
   refine rf_gt (AV.bool (!r23)) (fun hg => by
     simp only [hg, Bool.true_and, cond_true]; first | done | exact rfl) ?_
   refine rf_s (AV.bool ((decide (0 < (i21 : Int))) && (!r23))) (pk_and _ _) ?_
   refine rf_cb (c := ((decide (0 < (i21 : Int))) && (!r23))) (fun c24 => ?_) (fun c24 => ?_)
   ·exact rf_ret (rnd_ret (by simp) ⟨_, _, rfl⟩)
   refine rf_s (AV.int .i64 ((i21 + 1 : Nat) : Int)) (ix_inc he20 hle20) ?_
   exact rf_ret (rnd_go ⟨_, rfl, rfl⟩)
  ·intro hl s14 v w16 hI
   obtain ⟨u4, rfl, rfl⟩ := hI
   refine rf_s (AV.bool false) (ix_end _) ?_
   refine rf_cf ?_
   exact rf_ret ⟨by simp, ⟨_, _, _, rfl⟩⟩
  ·intro hl b15 q hq
   obtain ⟨u4, u8, u63, rfl⟩ := hq
   refine rf_bt rfl ?_
   refine rf_s (AV.int .i64 ((i11 + 1 : Nat) : Int)) (ix_inc he10 hle10) ?_
   exact rf_ret (rnd_go ⟨_, rfl, rfl⟩)
  ·intro hl b15 q hq
   obtain ⟨u8, u63, rfl⟩ := hq
   refine rf_bf rfl ?_
   refine rf_bt rfl ?_
   exact rf_ret (rnd_ret (by simp) ⟨_, rfl⟩)
 ·intro hl s4 v w6 hI
  obtain ⟨u4, rfl, rfl⟩ := hI
  refine rf_s (AV.bool false) (ix_end _) ?_
  refine rf_cf ?_
  exact rf_ret ⟨by simp, ⟨_, _, rfl⟩⟩
 ·intro hl b5 q hq
  obtain ⟨u4, u26, rfl⟩ := hq
  refine rf_bt rfl ?_
  exact rf_fin _ (fin_same _ _) ⟨rfl, rfl⟩
 ·intro hl b5 q hq
  obtain ⟨u26, rfl⟩ := hq
  refine rf_bf rfl ?_
  refine rf_bt rfl ?_
  exact rf_fin _ (fin_same _ _) ⟨rfl, rfl⟩

noncomputable def t_pick_Level (a0 : (List PresetD)) (a1 : KeyD) (a2 : ValueD) : Option (Int × Int) :=
 if ((decide (¬ (a2.level = 0))) && (decide (¬ (a2.preset = 0)))) = true then
  some (0, 3)
 else
 if (!(withinB a2.level 0 65535)) = true then
  some (0, 1)
 else
 if a2.preset = 0 then
  some (a2.level, 0)
 else
 forE a0 (fun (i8 : Nat) e7 (s1 : Unit) => (show Option (Lr Unit Unit Int) from
   if ¬ (e7.number = a2.preset) then
    some (.go ())
   else
   forE e7.settings (fun (i16 : Nat) e15 (s9 : Unit) => (show Option (Lr Unit Unit Int) from
     if e15.key = a1 then
      some (.ret e15.level)
     else
     some (.go ()))) (fun s9 => some ()) () (fun b10 =>
    some (.brk ())) (fun b10 =>
    some (.ret b10)))) (fun s1 => some ()) () (fun b2 =>
  some (0, 8)) (fun b2 =>
  some (b2, 0))
theorem h_pick_Level {a0 : (List PresetD)} { a1 : KeyD} { a2 : ValueD} {σ : Heap} {r : (Int × Int)} (h : t_pick_Level a0 a1 a2 = some r) : m_pick_Level [(sl 3 cPreset a0), (AV.agg (cKey a1)), (AV.agg (cValue a2))] σ = some ((AV.tup [(AV.int .i64 r.1), (AV.int .i64 r.2)]), σ) := by
 refine rf_wrap3 (f := r_pick_Level) (y0 := (sl 3 cPreset a0)) (y1 := (AV.agg (cKey a1))) (y2 := (AV.agg (cValue a2))) (enc := fun r : (Int × Int) => (AV.tup [(AV.int .i64 r.1), (AV.int .i64 r.2)])) (T := t_pick_Level a0 a1 a2) rfl rfl ?_ r h
 unfold r_pick_Level t_pick_Level
 refine rf_s (cKey a1) rfl ?_
 refine rf_s (cValue a2) rfl ?_
 refine rf_s (AV.int .i64 a2.level) rfl ?_
 refine rf_s (AV.bool (decide (¬ (a2.level = 0)))) (aNe _ _ _) ?_
 refine rf_gt (AV.int .i64 a2.preset) (fun hg => rfl) ?_
 refine rf_gt (AV.bool (decide (¬ (a2.preset = 0)))) (fun hg => by
   simp only [hg, Bool.true_and, cond_true]; first | done | exact (aNe _ _ _)) ?_
 refine rf_s (AV.bool ((decide (¬ (a2.level = 0))) && (decide (¬ (a2.preset = 0))))) (pk_and _ _) ?_
 refine rf_cb (c := ((decide (¬ (a2.level = 0))) && (decide (¬ (a2.preset = 0))))) (fun c21 => ?_) (fun c21 => ?_)
 ·exact rf_fin _ (fin_same _ _) ⟨rfl, rfl⟩
 refine rf_s (AV.int .i64 a2.level) rfl ?_
 refine rf_s ((AV.bool (withinB a2.level 0 65535)), σ) (isLevelP_eq a2.level σ) ?_
 refine rf_s (AV.bool (!(withinB a2.level 0 65535))) rfl ?_
 refine rf_cb (c := (!(withinB a2.level 0 65535))) (fun c20 => ?_) (fun c20 => ?_)
 ·exact rf_fin _ (fin_same _ _) ⟨rfl, rfl⟩
 refine rf_s (AV.int .i64 a2.preset) rfl ?_
 refine rf_s (AV.bool (decide (a2.preset = 0))) (aEq _ _ _) ?_
 refine rf_c (p := a2.preset = 0) (fun c19 => ?_) (fun c19 => ?_)
 ·refine rf_s (AV.int .i64 a2.level) rfl ?_
  exact rf_fin _ (fin_same _ _) ⟨rfl, rfl⟩
 refine rf_s (AV.int .i64 (a0.length : Int)) (lenS_sl _ _ _) ?_
 refine rf_for (B := Unit) (R := Int) (fun (i8 : Nat) (s1 : Unit) v w3 => v = [(AV.lbx (cKey a1)), (AV.lbx (cValue a2)), (AV.int .i64 0), (AV.int .i64 0), (AV.int .i64 (i8 : Int))] ∧ σ = w3) (fun (b2 : Unit) (q : LS) => ∃ u4 u5 u6 u7 u31, q = ((AX.exit 0), ([u4, u5, u6, u7, u31] : List AV), σ)) (fun (b2 : Int) (q : LS) => ∃ u4 u5 u31, q = (AX.ret, ([u4, u5, (AV.int .i64 b2), (AV.int .i64 0), u31] : List AV), σ)) ?_ ?_ ⟨rfl, rfl⟩ ?_ ?_
 ·intro hle7 i8 e7 s1 v w3 he7 hI
  obtain ⟨rfl, rfl⟩ := hI
  refine rf_s (AV.bool true) (ix_lt he7) ?_
  refine rf_ct ?_
  refine rf_s (AV.rp (cPreset e7)) (ix_for he7) ?_
  refine rf_s (AV.agg (cPreset e7)) rfl ?_
  refine rf_s (cPreset e7) rfl ?_
  refine rf_s (cPreset e7) (sp_cPreset _ _ rfl) ?_
  refine rf_s (AV.int .i64 e7.number) rfl ?_
  refine rf_s _ rfl ?_
  refine rf_s (AV.int .i64 a2.preset) rfl ?_
  refine rf_s (AV.bool (decide (¬ (e7.number = a2.preset)))) (aNe _ _ _) ?_
  refine rf_c (p := ¬ (e7.number = a2.preset)) (fun c18 => ?_) (fun c18 => ?_)
  ·refine rf_s (AV.int .i64 ((i8 + 1 : Nat) : Int)) (ix_inc he7 hle7) ?_
   exact rf_ret (rnd_go ⟨rfl, rfl⟩)
  refine rf_s (sl 3 cSetting e7.settings) rfl ?_
  refine rf_s (AV.int .i64 (e7.settings.length : Int)) (lenS_sl _ _ _) ?_
  refine rf_for (B := Unit) (R := Int) (fun (i16 : Nat) (s9 : Unit) v w11 => v = [(AV.lbx (cKey a1)), (AV.int .i64 0), (AV.int .i64 0), (AV.int .i64 (i16 : Int))] ∧ σ = w11) (fun (b10 : Unit) (q : LS) => ∃ u4 u6 u7 u43, q = ((AX.exit 2), ([u4, u6, u7, u43] : List AV), σ)) (fun (b10 : Int) (q : LS) => ∃ u4 u43, q = (AX.ret, ([u4, (AV.int .i64 b10), (AV.int .i64 0), u43] : List AV), σ)) ?_ ?_ ⟨rfl, rfl⟩ ?_ ?_
  ·intro hle15 i16 e15 s9 v w11 he15 hI
   obtain ⟨rfl, rfl⟩ := hI
   refine rf_s (AV.bool true) (ix_lt he15) ?_
   refine rf_ct ?_
   refine rf_s (AV.rp (cSetting e15)) (ix_for he15) ?_
   refine rf_s (AV.agg (cSetting e15)) rfl ?_
   refine rf_s (cSetting e15) rfl ?_
   refine rf_s (cSetting e15) (sp_cSetting _ _ rfl) ?_
   refine rf_s (AV.agg (cKey e15.key)) rfl ?_
   refine rf_s (AV.agg (cKey a1)) rfl ?_
   refine rf_s (AV.bool (decide (e15.key = a1))) (eq_Key _ _) ?_
   refine rf_c (p := e15.key = a1) (fun c17 => ?_) (fun c17 => ?_)
   ·refine rf_s (AV.int .i64 e15.level) rfl ?_
    exact rf_ret (rnd_ret (by simp) ⟨_, _, rfl⟩)
   refine rf_s (AV.int .i64 ((i16 + 1 : Nat) : Int)) (ix_inc he15 hle15) ?_
   exact rf_ret (rnd_go ⟨rfl, rfl⟩)
  ·intro hl s9 v w11 hI
   obtain ⟨rfl, rfl⟩ := hI
   refine rf_s (AV.bool false) (ix_end _) ?_
   refine rf_cf ?_
   exact rf_ret ⟨by simp, ⟨_, _, _, _, rfl⟩⟩
  ·intro hl b10 q hq
   obtain ⟨u4, u6, u7, u43, rfl⟩ := hq
   refine rf_bt rfl ?_
   exact rf_ret (rnd_brk (by simp) ⟨_, _, _, _, _, rfl⟩)
  ·intro hl b10 q hq
   obtain ⟨u4, u43, rfl⟩ := hq
   refine rf_bf rfl ?_
   refine rf_bt rfl ?_
   exact rf_ret (rnd_ret (by simp) ⟨_, _, _, rfl⟩)
 ·intro hl s1 v w3 hI
  obtain ⟨rfl, rfl⟩ := hI
  refine rf_s (AV.bool false) (ix_end _) ?_
  refine rf_cf ?_
  exact rf_ret ⟨by simp, ⟨_, _, _, _, _, rfl⟩⟩
 ·intro hl b2 q hq
  obtain ⟨u4, u5, u6, u7, u31, rfl⟩ := hq
  refine rf_bt rfl ?_
  exact rf_fin _ (fin_same _ _) ⟨rfl, rfl⟩
 ·intro hl b2 q hq
  obtain ⟨u4, u5, u31, rfl⟩ := hq
  refine rf_bf rfl ?_
  refine rf_bt rfl ?_
  exact rf_fin _ (fin_same _ _) ⟨rfl, rfl⟩

noncomputable def t_cue_CheckList (a0 : RigD) (a1 : (List PresetD)) (a2 : (List CueD)) : Option Int :=
 (t_pick_CheckPresets a0 a1).bind fun r1 =>
 (t_cue_form a2).bind fun r2 =>
 (tq (([r1, r2] : (List Int)).length ≤ mxl) ((([r1, r2] : (List Int)).find? fun n => decide (¬ n = 0)).getD 0)).bind fun r3 =>
 if ¬ (r3 = 0) then
  some r3
 else
 (tq (okRig a0) (((if rigF a0 = 0 then keysOf a0 else [] : List KeyD), rigF a0))).bind fun r4 =>
 forE r4.1 (fun (i14 : Nat) e13 (s7 : (List (KeyD × Bool))) => (show Option (Lr (List (KeyD × Bool)) (List (KeyD × Bool)) Unit) from
   some (.go (tupd e13 true s7)))) (fun s7 => some s7) ([] : List (KeyD × Bool)) (fun b8 =>
  forE a2 (fun (i25 : Nat) e24 (s18 : Unit) => (show Option (Lr Unit Unit Int) from
    forE e24.moves (fun (i33 : Nat) e32 (s26 : Unit) => (show Option (Lr Unit Unit Int) from
      if (!((tfind e32.key b8).getD false)) = true then
       some (.ret 8)
      else
      (t_pick_Level a1 e32.key e32.value).bind fun r34 =>
      if ¬ (r34.2 = 0) then
       some (.ret r34.2)
      else
      some (.go ()))) (fun s26 => some ()) () (fun b27 =>
     some (.go ())) (fun b27 =>
     some (.ret b27)))) (fun s18 => some ()) () (fun b19 =>
   some 0) (fun b19 =>
   some b19)) (fun b8 =>
  none)
theorem h_cue_CheckList {a0 : RigD} { a1 : (List PresetD)} { a2 : (List CueD)} {σ : Heap} {r : Int} (h : t_cue_CheckList a0 a1 a2 = some r) : m_cue_CheckList [(AV.agg (cRig a0)), (sl 3 cPreset a1), (sl 11 cCue a2)] σ = some ((AV.int .i64 r), σ) := by
 refine rf_wrap3 (f := r_cue_CheckList) (y0 := (AV.agg (cRig a0))) (y1 := (sl 3 cPreset a1)) (y2 := (sl 11 cCue a2)) (enc := fun r : Int => (AV.int .i64 r)) (T := t_cue_CheckList a0 a1 a2) (nn_t1 (nn_a (nn_t1 (nn_e (fun _ => (nn_t1 rfl (nn_t1 rfl (nn_t1 (nn_e (fun _ => rfl) _) nn_t0)))) _) (nn_t1 rfl nn_t0))) (nn_t1 (nn_e (fun _ => rfl) _) (nn_t1 (nn_e (fun _ => rfl) _) rfl))) rfl ?_ r h
 unfold r_cue_CheckList t_cue_CheckList
 refine rf_s (cRig a0) rfl ?_
 refine rf_s (AV.agg (cRig a0)) rfl ?_
 refine rf_o (fun r1 : Int => ((AV.int .i64 r1), σ)) (fun r1 hr1 => h_pick_CheckPresets hr1) (fun r1 hr1 => ?_)
 refine rf_o (fun r2 : Int => ((AV.int .i64 r2), σ)) (fun r2 hr2 => h_cue_form hr2) (fun r2 hr2 => ?_)
 refine rf_s (sl 1 cInt ([r1, r2] : (List Int))) rfl ?_
 refine rf_o (fun r3 : Int => ((AV.int .i64 r3), σ)) (fun r3 hr3 => (tq_of (e := fun r : Int => ((AV.int .i64 r), σ)) (fun hs => First_eq ([r1, r2] : (List Int)) hs σ)) hr3) (fun r3 hr3 => ?_)
 refine rf_s (AV.bool (decide (¬ (r3 = 0)))) (aNe _ _ _) ?_
 refine rf_c (p := ¬ (r3 = 0)) (fun c37 => ?_) (fun c37 => ?_)
 ·exact rf_fin _ (fin_same _ _) ⟨rfl, rfl⟩
 refine rf_s (AV.agg (cRig a0)) rfl ?_
 refine rf_o (fun r4 : ((List KeyD) × Int) => ((AV.tup [(sl 2 cKey r4.1), (AV.int .i64 r4.2)]), σ)) (fun r4 hr4 => (tq_of (e := fun r : ((List KeyD) × Int) => ((AV.tup [(sl 2 cKey r.1), (AV.int .i64 r.2)]), σ)) (fun hs => Keys_eq a0 hs σ)) hr4) (fun r4 hr4 => ?_)
 refine rf_s (sl 2 cKey r4.1) rfl ?_
 refine rf_s (AV.int .i64 r4.2) rfl ?_
 have hp5 : Hp σ σ [] := hp_nil σ
 have hp6 : Hp σ (σ ++ [Blk.map []]) [((AV.om σ.length), (Ct.m (List.map (fun p => ((fun x => (AV.agg (cKey x))) p.1, (fun x => (AV.bool x)) p.2)) ([] : List (KeyD × Bool)))))] := hp_om hp5
 refine rf_s (AV.int .i64 (r4.1.length : Int)) (lenS_sl _ _ _) ?_
 refine rf_for (B := (List (KeyD × Bool))) (R := Unit) (fun (i14 : Nat) (s7 : (List (KeyD × Bool))) v w9 => v = [(AV.int .i64 (i14 : Int))] ∧ Hp σ w9 [((AV.om σ.length), (Ct.m (List.map (fun p => ((fun x => (AV.agg (cKey x))) p.1, (fun x => (AV.bool x)) p.2)) s7)))]) (fun (b8 : (List (KeyD × Bool))) (q : LS) => ∃ u37 w10, q = ((AX.exit 0), ([u37] : List AV), w10) ∧ Hp σ w10 [((AV.om σ.length), (Ct.m (List.map (fun p => ((fun x => (AV.agg (cKey x))) p.1, (fun x => (AV.bool x)) p.2)) b8)))]) (fun (b8 : Unit) (q : LS) => False) ?_ ?_ ⟨rfl, hp6⟩ ?_ ?_
 ·intro hle13 i14 e13 s7 v w9 he13 hI
  obtain ⟨rfl, hp11⟩ := hI
  refine rf_s (AV.bool true) (ix_lt he13) ?_
  refine rf_ct ?_
  refine rf_s (AV.rp (cKey e13)) (ix_for he13) ?_
  refine rf_s (AV.agg (cKey e13)) rfl ?_
  refine rf_s (cKey e13) rfl ?_
  refine rf_s (cKey e13) (sp_cKey _ _ rfl) ?_
  refine rf_s (AV.agg (cKey e13)) rfl ?_
  obtain ⟨w15, e17, hp16⟩ := hp_updT (ek := (.s [0, 2])) (eK := (fun x => (AV.agg (cKey x)))) (eV := (fun x => (AV.bool x))) hp11 0 rfl eqk_Key e13 true rfl
  change Hp σ w15 [((AV.om σ.length), (Ct.m (List.map (fun p => ((fun x => (AV.agg (cKey x))) p.1, (fun x => (AV.bool x)) p.2)) (tupd e13 true s7))))] at hp16
  refine rf_s w15 e17 ?_
  refine rf_s (AV.int .i64 ((i14 + 1 : Nat) : Int)) (ix_inc he13 hle13) ?_
  exact rf_ret (rnd_go ⟨rfl, hp16⟩)
 ·intro hl s7 v w9 hI
  obtain ⟨rfl, hp11⟩ := hI
  refine rf_s (AV.bool false) (ix_end _) ?_
  refine rf_cf ?_
  exact rf_ret ⟨by simp, ⟨_, _, rfl, hp11⟩⟩
 ·intro hl b8 q hq
  obtain ⟨u37, w10, rfl, hp12⟩ := hq
  refine rf_bt rfl ?_
  refine rf_s (AV.int .i64 (a2.length : Int)) (lenS_sl _ _ _) ?_
  refine rf_for (B := Unit) (R := Int) (fun (i25 : Nat) (s18 : Unit) v w20 => ∃ u6, v = [u6, (AV.int .i64 (i25 : Int))] ∧ Hp σ w20 [((AV.om σ.length), (Ct.m (List.map (fun p => ((fun x => (AV.agg (cKey x))) p.1, (fun x => (AV.bool x)) p.2)) b8)))]) (fun (b19 : Unit) (q : LS) => ∃ u6 u46 w21, q = ((AX.exit 2), ([u6, u46] : List AV), w21) ∧ Hp σ w21 [((AV.om σ.length), (Ct.m (List.map (fun p => ((fun x => (AV.agg (cKey x))) p.1, (fun x => (AV.bool x)) p.2)) b8)))]) (fun (b19 : Int) (q : LS) => ∃ u46 w21, q = (AX.ret, ([(AV.int .i64 b19), u46] : List AV), w21) ∧ Hp σ w21 []) ?_ ?_ ⟨_, rfl, hp12⟩ ?_ ?_
  ·intro hle24 i25 e24 s18 v w20 he24 hI
   obtain ⟨u6, rfl, hp22⟩ := hI
   refine rf_s (AV.bool true) (ix_lt he24) ?_
   refine rf_ct ?_
   refine rf_s (AV.rp (cCue e24)) (ix_for he24) ?_
   refine rf_s (AV.agg (cCue e24)) rfl ?_
   refine rf_s (cCue e24) rfl ?_
   refine rf_s (cCue e24) (sp_cCue _ _ rfl) ?_
   refine rf_s (sl 8 cMove e24.moves) rfl ?_
   refine rf_s (AV.int .i64 (e24.moves.length : Int)) (lenS_sl _ _ _) ?_
   refine rf_for (B := Unit) (R := Int) (fun (i33 : Nat) (s26 : Unit) v w28 => ∃ u6, v = [u6, (AV.int .i64 (i33 : Int))] ∧ Hp σ w28 [((AV.om σ.length), (Ct.m (List.map (fun p => ((fun x => (AV.agg (cKey x))) p.1, (fun x => (AV.bool x)) p.2)) b8)))]) (fun (b27 : Unit) (q : LS) => ∃ u6 u53 w29, q = ((AX.exit 4), ([u6, u53] : List AV), w29) ∧ Hp σ w29 [((AV.om σ.length), (Ct.m (List.map (fun p => ((fun x => (AV.agg (cKey x))) p.1, (fun x => (AV.bool x)) p.2)) b8)))]) (fun (b27 : Int) (q : LS) => ∃ u53 w29, q = (AX.ret, ([(AV.int .i64 b27), u53] : List AV), w29) ∧ Hp σ w29 []) ?_ ?_ ⟨_, rfl, hp22⟩ ?_ ?_
   ·intro hle32 i33 e32 s26 v w28 he32 hI
    obtain ⟨u6, rfl, hp30⟩ := hI
    refine rf_s (AV.bool true) (ix_lt he32) ?_
    refine rf_ct ?_
    refine rf_s (AV.rp (cMove e32)) (ix_for he32) ?_
    refine rf_s (AV.agg (cMove e32)) rfl ?_
    refine rf_s (cMove e32) rfl ?_
    refine rf_s (cMove e32) (sp_cMove _ _ rfl) ?_
    refine rf_s (AV.agg (cKey e32.key)) rfl ?_
    refine rf_s (AV.bool ((tfind e32.key b8).getD false)) (hp_lookT (ek := (.s [0, 2])) (eK := (fun x => (AV.agg (cKey x)))) (eV := (fun x => (AV.bool x))) hp30 0 rfl eqk_Key e32.key false rfl) ?_
    refine rf_s (AV.bool (!((tfind e32.key b8).getD false))) rfl ?_
    refine rf_cb (c := (!((tfind e32.key b8).getD false))) (fun c36 => ?_) (fun c36 => ?_)
    ·exact rf_ret (rnd_ret (by simp) ⟨_, _, rfl, (hp_weak hp30)⟩)
    refine rf_s (AV.agg (cKey e32.key)) rfl ?_
    refine rf_s (AV.agg (cValue e32.value)) rfl ?_
    refine rf_o (fun r34 : (Int × Int) => ((AV.tup [(AV.int .i64 r34.1), (AV.int .i64 r34.2)]), w28)) (fun r34 hr34 => h_pick_Level hr34) (fun r34 hr34 => ?_)
    refine rf_s (AV.int .i64 r34.1) rfl ?_
    refine rf_s (AV.int .i64 r34.2) rfl ?_
    refine rf_s (AV.bool (decide (¬ (r34.2 = 0)))) (aNe _ _ _) ?_
    refine rf_c (p := ¬ (r34.2 = 0)) (fun c35 => ?_) (fun c35 => ?_)
    ·exact rf_ret (rnd_ret (by simp) ⟨_, _, rfl, (hp_weak hp30)⟩)
    refine rf_s (AV.int .i64 ((i33 + 1 : Nat) : Int)) (ix_inc he32 hle32) ?_
    exact rf_ret (rnd_go ⟨_, rfl, hp30⟩)
   ·intro hl s26 v w28 hI
    obtain ⟨u6, rfl, hp30⟩ := hI
    refine rf_s (AV.bool false) (ix_end _) ?_
    refine rf_cf ?_
    exact rf_ret ⟨by simp, ⟨_, _, _, rfl, hp30⟩⟩
   ·intro hl b27 q hq
    obtain ⟨u6, u53, w29, rfl, hp31⟩ := hq
    refine rf_bt rfl ?_
    refine rf_s (AV.int .i64 ((i25 + 1 : Nat) : Int)) (ix_inc he24 hle24) ?_
    exact rf_ret (rnd_go ⟨_, rfl, hp31⟩)
   ·intro hl b27 q hq
    obtain ⟨u53, w29, rfl, hp31⟩ := hq
    refine rf_bf rfl ?_
    refine rf_bt rfl ?_
    exact rf_ret (rnd_ret (by simp) ⟨_, _, rfl, (hp_weak hp31)⟩)
  ·intro hl s18 v w20 hI
   obtain ⟨u6, rfl, hp22⟩ := hI
   refine rf_s (AV.bool false) (ix_end _) ?_
   refine rf_cf ?_
   exact rf_ret ⟨by simp, ⟨_, _, _, rfl, hp22⟩⟩
  ·intro hl b19 q hq
   obtain ⟨u6, u46, w21, rfl, hp23⟩ := hq
   refine rf_bt rfl ?_
   exact rf_fin _ (hp_fin hp23 (fzv_fz (fz_int _ _))) ⟨rfl, rfl⟩
  ·intro hl b19 q hq
   obtain ⟨u46, w21, rfl, hp23⟩ := hq
   refine rf_bf rfl ?_
   refine rf_bt rfl ?_
   exact rf_fin _ (hp_fin hp23 (fzv_fz (fz_int _ _))) ⟨rfl, rfl⟩
 ·intro hl b8 q hq
  exact False.elim hq

end Go.Proofs.Ytohbeolimnpehaa

namespace Go.Proofs.Ytohbeolimnpehaa
set_option linter.unusedSectionVars false
set_option linter.unusedVariables false
set_option linter.unusedSimpArgs false
set_option maxRecDepth 100000
noncomputable def t_play_list_fn1 (a0 : ListD) (a1 : Int) : Option Bool :=
 some (decide (a0.number = a1))
theorem h_play_list_fn1 {a0 : ListD} { a1 : Int} {σ : Heap} {r : Bool} (h : t_play_list_fn1 a0 a1 = some r) : m_play_list_fn1 [(AV.agg (cList a0)), (AV.rp [(AV.int .i64 a1)])] σ = some ((AV.bool r), σ) := by
 refine rf_wrap2 (f := r_play_list_fn1) (y0 := (AV.agg (cList a0))) (y1 := (AV.rp [(AV.int .i64 a1)])) (enc := fun r : Bool => (AV.bool r)) (T := t_play_list_fn1 a0 a1) rfl rfl ?_ r h
 unfold r_play_list_fn1 t_play_list_fn1
 refine rf_s (cList a0) rfl ?_
 refine rf_s (AV.int .i64 a0.number) rfl ?_
 refine rf_s (AV.int .i64 a1) rfl ?_
 refine rf_s (AV.bool (decide (a0.number = a1))) (aEq _ _ _) ?_
 exact rf_fin _ (fin_same _ _) ⟨rfl, rfl⟩

noncomputable def t_play_list (a0 : SetupD) (a1 : Int) : Option (ListD × Bool) :=
 (tq (a0.lists.length ≤ mxl) (idxI (fun x => (decide (x.number = a1))) a0.lists)).bind fun r1 =>
 if r1 < 0 then
  some ((⟨0, []⟩ : ListD), false)
 else
 (tIx a0.lists r1).bind fun x2 =>
 some (x2, true)
theorem h_play_list {a0 : SetupD} { a1 : Int} {σ : Heap} {r : (ListD × Bool)} (h : t_play_list a0 a1 = some r) : m_play_list [(AV.agg (cSetup a0)), (AV.int .i64 a1)] σ = some ((AV.tup [(AV.agg (cList r.1)), (AV.bool r.2)]), σ) := by
 refine rf_wrap2 (f := r_play_list) (y0 := (AV.agg (cSetup a0))) (y1 := (AV.int .i64 a1)) (enc := fun r : (ListD × Bool) => (AV.tup [(AV.agg (cList r.1)), (AV.bool r.2)])) (T := t_play_list a0 a1) rfl rfl ?_ r h
 unfold r_play_list t_play_list
 refine rf_s (cSetup a0) rfl ?_
 refine rf_s (AV.rp [(AV.int .i64 a1)]) rfl ?_
 refine rf_s (sl 2 cList a0.lists) rfl ?_
 refine rf_o (fun r1 : Int => ((AV.int .i64 r1), σ)) (fun r1 hr1 => (tq_of (e := fun r : Int => ((AV.int .i64 r), σ)) (fun hs => m_slices_IndexFunc_api_List_eq _ a0.lists hs _ _ (fun x => (decide (x.number = a1))) σ (fun x hx => h_play_list_fn1 (σ := σ) (r := (decide (x.number = a1))) rfl))) hr1) (fun r1 hr1 => ?_)
 refine rf_s (AV.bool (decide (r1 < 0))) rfl ?_
 refine rf_c (p := r1 < 0) (fun c3 => ?_) (fun c3 => ?_)
 ·refine rf_s [(AV.int .i64 0), AV.nsl] rfl ?_
  refine rf_s [(AV.int .i64 0), AV.nsl] rfl ?_
  refine rf_s (AV.agg [(AV.int .i64 0), AV.nsl]) rfl ?_
  exact rf_fin _ (fin_same _ _) ⟨(nn_t (nn_t1 (nn_a (nn_t1 rfl (nn_t1 (by first | rfl | exact nn_eNil _ _) nn_t0))) (nn_t1 rfl nn_t0))), rfl⟩
 refine rf_s (sl 2 cList a0.lists) rfl ?_
 refine rf_o (fun x2 : ListD => (AV.rp (cList x2))) (fun x2 hx2 => ix_at hx2) (fun x2 hx2 => ?_)
 refine rf_s (AV.agg (cList x2)) rfl ?_
 refine rf_s (cList x2) rfl ?_
 refine rf_s (cList x2) (sp_cList _ _ rfl) ?_
 refine rf_s (AV.agg (cList x2)) rfl ?_
 exact rf_fin _ (fin_same _ _) ⟨(nn_t (nn_t1 (nn_a (nn_t1 rfl (nn_t1 (nn_e (fun _ => rfl) _) nn_t0))) (nn_t1 rfl nn_t0))), rfl⟩

noncomputable def t_play_CheckSetup (a0 : SetupD) : Option Int :=
 (t_pick_CheckPresets a0.rig a0.presets).bind fun r1 =>
 (tq (([r1, (if (decide (30 < (a0.lists.length : Int))) = true then 2 else 0)] : (List Int)).length ≤ mxl) ((([r1, (if (decide (30 < (a0.lists.length : Int))) = true then 2 else 0)] : (List Int)).find? fun n => decide (¬ n = 0)).getD 0)).bind fun r2 =>
 if ¬ (r2 = 0) then
  some r2
 else
 forE a0.lists (fun (i10 : Nat) e9 (s3 : Unit) => (show Option (Lr Unit Unit Int) from
   if (!(withinB e9.number 1 999)) = true then
    some (.ret 1)
   else
   (if decide (0 < (i10 : Int)) = true then tIx a0.lists (IntKind.i64.wrap ((i10 : Int) - 1)) else some default).bind fun x11 =>
   if ((decide (0 < (i10 : Int))) && (decide (e9.number ≤ x11.number))) = true then
    some (.ret 7)
   else
   (t_cue_CheckList a0.rig a0.presets e9.cues).bind fun r12 =>
   if ¬ (r12 = 0) then
    some (.ret r12)
   else
   some (.go ()))) (fun s3 => some ()) () (fun b4 =>
  if 40 < (a0.playbacks.length : Int) then
   some 2
  else
  forE a0.playbacks (fun (i23 : Nat) e22 (s16 : Unit) => (show Option (Lr Unit Unit Int) from
    if (!(withinB e22.number 1 40)) = true then
     some (.ret 1)
    else
    (if decide (0 < (i23 : Int)) = true then tIx a0.playbacks (IntKind.i64.wrap ((i23 : Int) - 1)) else some default).bind fun x24 =>
    if ((decide (0 < (i23 : Int))) && (decide (e22.number ≤ x24.number))) = true then
     some (.ret 7)
    else
    (t_play_list a0 e22.list).bind fun r25 =>
    if (!r25.2) = true then
     some (.ret 8)
    else
    if (!(withinB e22.priority 0 100)) = true then
     some (.ret 1)
    else
    some (.go ()))) (fun s16 => some ()) () (fun b17 =>
   some 0) (fun b17 =>
   some b17)) (fun b4 =>
  some b4)
theorem h_play_CheckSetup {a0 : SetupD} {σ : Heap} {r : Int} (h : t_play_CheckSetup a0 = some r) : m_play_CheckSetup [(AV.agg (cSetup a0))] σ = some ((AV.int .i64 r), σ) := by
 refine rf_wrap1 (f := r_play_CheckSetup) (y0 := (AV.agg (cSetup a0))) (enc := fun r : Int => (AV.int .i64 r)) (T := t_play_CheckSetup a0) rfl rfl ?_ r h
 unfold r_play_CheckSetup t_play_CheckSetup
 refine rf_s (cSetup a0) rfl ?_
 refine rf_s (AV.agg (cRig a0.rig)) rfl ?_
 refine rf_s (sl 3 cPreset a0.presets) rfl ?_
 refine rf_o (fun r1 : Int => (AV.int .i64 r1)) (fun r1 hr1 => (quiet_of (h_pick_CheckPresets hr1))) (fun r1 hr1 => ?_)
 refine rf_s (sl 2 cList a0.lists) rfl ?_
 refine rf_s (AV.int .i64 (a0.lists.length : Int)) (lenS_sl _ _ _) ?_
 refine rf_s (AV.bool (decide (30 < (a0.lists.length : Int)))) rfl ?_
 refine rf_s (AV.int .i64 (if (decide (30 < (a0.lists.length : Int))) = true then 2 else 0)) (quiet_of (When_eq (decide (30 < (a0.lists.length : Int))) 2 σ)) ?_
 refine rf_s (sl 1 cInt ([r1, (if (decide (30 < (a0.lists.length : Int))) = true then 2 else 0)] : (List Int))) rfl ?_
 refine rf_o (fun r2 : Int => (AV.int .i64 r2)) (fun r2 hr2 => (quiet_of ((tq_of (e := fun r : Int => ((AV.int .i64 r), σ)) (fun hs => First_eq ([r1, (if (decide (30 < (a0.lists.length : Int))) = true then 2 else 0)] : (List Int)) hs σ)) hr2))) (fun r2 hr2 => ?_)
 refine rf_s (AV.bool (decide (¬ (r2 = 0)))) (aNe _ _ _) ?_
 refine rf_c (p := ¬ (r2 = 0)) (fun c31 => ?_) (fun c31 => ?_)
 ·exact rf_fin _ (fin_same _ _) ⟨rfl, rfl⟩
 refine rf_s (sl 2 cList a0.lists) rfl ?_
 refine rf_s (AV.int .i64 (a0.lists.length : Int)) (lenS_sl _ _ _) ?_
 refine rf_for (B := Unit) (R := Int) (fun (i10 : Nat) (s3 : Unit) v w5 => v = [(AV.lbx (cSetup a0)), (AV.int .i64 0), (AV.int .i64 (i10 : Int))] ∧ σ = w5) (fun (b4 : Unit) (q : LS) => ∃ u2 u29, q = ((AX.exit 0), ([(AV.lbx (cSetup a0)), u2, u29] : List AV), σ)) (fun (b4 : Int) (q : LS) => ∃ u1 u29, q = (AX.ret, ([u1, (AV.int .i64 b4), u29] : List AV), σ)) ?_ ?_ ⟨rfl, rfl⟩ ?_ ?_
 ·intro hle9 i10 e9 s3 v w5 he9 hI
  obtain ⟨rfl, rfl⟩ := hI
  refine rf_s (AV.bool true) (ix_lt he9) ?_
  refine rf_ct ?_
  refine rf_s (AV.rp (cList e9)) (ix_for he9) ?_
  refine rf_s (AV.agg (cList e9)) rfl ?_
  refine rf_s (cList e9) rfl ?_
  refine rf_s (cList e9) (sp_cList _ _ rfl) ?_
  refine rf_s (AV.int .i64 e9.number) rfl ?_
  refine rf_s ((AV.bool (withinB e9.number 1 999)), σ) (Within_eq e9.number 1 999 σ) ?_
  refine rf_s (AV.bool (!(withinB e9.number 1 999))) rfl ?_
  refine rf_cb (c := (!(withinB e9.number 1 999))) (fun c15 => ?_) (fun c15 => ?_)
  ·exact rf_ret (rnd_ret (by simp) ⟨_, _, rfl⟩)
  refine rf_s (AV.bool (decide (0 < (i10 : Int)))) rfl ?_
  refine rf_gt (AV.int .i64 e9.number) (fun hg => rfl) ?_
  refine rf_s _ rfl ?_
  refine rf_gt (sl 2 cList a0.lists) (fun hg => rfl) ?_
  refine rf_gt (AV.int .i64 (i10 : Int)) (fun hg => rfl) ?_
  refine rf_gt (AV.int .i64 (IntKind.i64.wrap ((i10 : Int) - 1))) (fun hg => by
    simp only [hg, Bool.true_and, cond_true]; first | done | exact rfl) ?_
  refine rf_gto (ω := ListD) (fun x11 => (AV.rp (cList x11))) (fun hg x11 hx11 => by
    simp only [hg, Bool.true_and, cond_true]; first | done | exact ix_at hx11) (fun x11 hx11 => ?_)
  refine rf_gt (AV.rp (cList x11)) (fun hg => by
    simp only [hg, Bool.true_and, cond_true]; first | done | exact rfl) ?_
  refine rf_gt (AV.int .i64 x11.number) (fun hg => by
    simp only [hg, Bool.true_and, cond_true]; first | done | exact rfl) ?_
  refine rf_gt (AV.bool (decide (e9.number ≤ x11.number))) (fun hg => by
    simp only [hg, Bool.true_and, cond_true]; first | done | exact rfl) ?_
  refine rf_s (AV.bool ((decide (0 < (i10 : Int))) && (decide (e9.number ≤ x11.number)))) (pk_and _ _) ?_
  refine rf_cb (c := ((decide (0 < (i10 : Int))) && (decide (e9.number ≤ x11.number)))) (fun c14 => ?_) (fun c14 => ?_)
  ·exact rf_ret (rnd_ret (by simp) ⟨_, _, rfl⟩)
  refine rf_s _ rfl ?_
  refine rf_s (AV.agg (cRig a0.rig)) rfl ?_
  refine rf_s _ rfl ?_
  refine rf_s (sl 3 cPreset a0.presets) rfl ?_
  refine rf_s (sl 11 cCue e9.cues) rfl ?_
  refine rf_o (fun r12 : Int => ((AV.int .i64 r12), σ)) (fun r12 hr12 => h_cue_CheckList hr12) (fun r12 hr12 => ?_)
  refine rf_s (AV.bool (decide (¬ (r12 = 0)))) (aNe _ _ _) ?_
  refine rf_c (p := ¬ (r12 = 0)) (fun c13 => ?_) (fun c13 => ?_)
  ·exact rf_ret (rnd_ret (by simp) ⟨_, _, rfl⟩)
  refine rf_s (AV.int .i64 ((i10 + 1 : Nat) : Int)) (ix_inc he9 hle9) ?_
  exact rf_ret (rnd_go ⟨rfl, rfl⟩)
 ·intro hl s3 v w5 hI
  obtain ⟨rfl, rfl⟩ := hI
  refine rf_s (AV.bool false) (ix_end _) ?_
  refine rf_cf ?_
  exact rf_ret ⟨by simp, ⟨_, _, rfl⟩⟩
 ·intro hl b4 q hq
  obtain ⟨u2, u29, rfl⟩ := hq
  refine rf_bt rfl ?_
  refine rf_s _ rfl ?_
  refine rf_s (sl 3 cPlayback a0.playbacks) rfl ?_
  refine rf_s (AV.int .i64 (a0.playbacks.length : Int)) (lenS_sl _ _ _) ?_
  refine rf_s (AV.bool (decide (40 < (a0.playbacks.length : Int)))) rfl ?_
  refine rf_c (p := 40 < (a0.playbacks.length : Int)) (fun c30 => ?_) (fun c30 => ?_)
  ·exact rf_fin _ (fin_same _ _) ⟨rfl, rfl⟩
  refine rf_s _ rfl ?_
  refine rf_s (sl 3 cPlayback a0.playbacks) rfl ?_
  refine rf_s (AV.int .i64 (a0.playbacks.length : Int)) (lenS_sl _ _ _) ?_
  refine rf_for (B := Unit) (R := Int) (fun (i23 : Nat) (s16 : Unit) v w18 => ∃ u2, v = [(AV.lbx (cSetup a0)), u2, (AV.int .i64 (i23 : Int))] ∧ σ = w18) (fun (b17 : Unit) (q : LS) => ∃ u1 u2 u70, q = ((AX.exit 2), ([u1, u2, u70] : List AV), σ)) (fun (b17 : Int) (q : LS) => ∃ u1 u70, q = (AX.ret, ([u1, (AV.int .i64 b17), u70] : List AV), σ)) ?_ ?_ ⟨_, rfl, rfl⟩ ?_ ?_
  ·intro hle22 i23 e22 s16 v w18 he22 hI
   obtain ⟨u2, rfl, rfl⟩ := hI
   refine rf_s (AV.bool true) (ix_lt he22) ?_
   refine rf_ct ?_
   refine rf_s (AV.rp (cPlayback e22)) (ix_for he22) ?_
   refine rf_s (AV.agg (cPlayback e22)) rfl ?_
   refine rf_s (cPlayback e22) rfl ?_
   refine rf_s (cPlayback e22) (sp_cPlayback _ _ rfl) ?_
   refine rf_s (AV.int .i64 e22.number) rfl ?_
   refine rf_s ((AV.bool (withinB e22.number 1 40)), σ) (Within_eq e22.number 1 40 σ) ?_
   refine rf_s (AV.bool (!(withinB e22.number 1 40))) rfl ?_
   refine rf_cb (c := (!(withinB e22.number 1 40))) (fun c29 => ?_) (fun c29 => ?_)
   ·exact rf_ret (rnd_ret (by simp) ⟨_, _, rfl⟩)
   refine rf_s (AV.bool (decide (0 < (i23 : Int)))) rfl ?_
   refine rf_gt (AV.int .i64 e22.number) (fun hg => rfl) ?_
   refine rf_s _ rfl ?_
   refine rf_gt (sl 3 cPlayback a0.playbacks) (fun hg => rfl) ?_
   refine rf_gt (AV.int .i64 (i23 : Int)) (fun hg => rfl) ?_
   refine rf_gt (AV.int .i64 (IntKind.i64.wrap ((i23 : Int) - 1))) (fun hg => by
     simp only [hg, Bool.true_and, cond_true]; first | done | exact rfl) ?_
   refine rf_gto (ω := PlaybackD) (fun x24 => (AV.rp (cPlayback x24))) (fun hg x24 hx24 => by
     simp only [hg, Bool.true_and, cond_true]; first | done | exact ix_at hx24) (fun x24 hx24 => ?_)
   refine rf_gt (AV.rp (cPlayback x24)) (fun hg => by
     simp only [hg, Bool.true_and, cond_true]; first | done | exact rfl) ?_
   refine rf_gt (AV.int .i64 x24.number) (fun hg => by
     simp only [hg, Bool.true_and, cond_true]; first | done | exact rfl) ?_
   refine rf_gt (AV.bool (decide (e22.number ≤ x24.number))) (fun hg => by
     simp only [hg, Bool.true_and, cond_true]; first | done | exact rfl) ?_
   refine rf_s (AV.bool ((decide (0 < (i23 : Int))) && (decide (e22.number ≤ x24.number)))) (pk_and _ _) ?_
   refine rf_cb (c := ((decide (0 < (i23 : Int))) && (decide (e22.number ≤ x24.number)))) (fun c28 => ?_) (fun c28 => ?_)
   ·exact rf_ret (rnd_ret (by simp) ⟨_, _, rfl⟩)
   refine rf_s (AV.agg (cSetup a0)) rfl ?_
   refine rf_s (AV.int .i64 e22.list) rfl ?_
   refine rf_o (fun r25 : (ListD × Bool) => ((AV.tup [(AV.agg (cList r25.1)), (AV.bool r25.2)]), σ)) (fun r25 hr25 => h_play_list hr25) (fun r25 hr25 => ?_)
   refine rf_s (AV.agg (cList r25.1)) rfl ?_
   refine rf_s (AV.bool r25.2) rfl ?_
   refine rf_s (cList r25.1) rfl ?_
   refine rf_s (cList r25.1) (sp_cList _ _ rfl) ?_
   refine rf_s (AV.bool (!r25.2)) rfl ?_
   refine rf_cb (c := (!r25.2)) (fun c27 => ?_) (fun c27 => ?_)
   ·exact rf_ret (rnd_ret (by simp) ⟨_, _, rfl⟩)
   refine rf_s (AV.int .i64 e22.priority) rfl ?_
   refine rf_s ((AV.bool (withinB e22.priority 0 100)), σ) (Within_eq e22.priority 0 100 σ) ?_
   refine rf_s (AV.bool (!(withinB e22.priority 0 100))) rfl ?_
   refine rf_cb (c := (!(withinB e22.priority 0 100))) (fun c26 => ?_) (fun c26 => ?_)
   ·exact rf_ret (rnd_ret (by simp) ⟨_, _, rfl⟩)
   refine rf_s (AV.int .i64 ((i23 + 1 : Nat) : Int)) (ix_inc he22 hle22) ?_
   exact rf_ret (rnd_go ⟨_, rfl, rfl⟩)
  ·intro hl s16 v w18 hI
   obtain ⟨u2, rfl, rfl⟩ := hI
   refine rf_s (AV.bool false) (ix_end _) ?_
   refine rf_cf ?_
   exact rf_ret ⟨by simp, ⟨_, _, _, rfl⟩⟩
  ·intro hl b17 q hq
   obtain ⟨u1, u2, u70, rfl⟩ := hq
   refine rf_bt rfl ?_
   exact rf_fin _ (fin_same _ _) ⟨rfl, rfl⟩
  ·intro hl b17 q hq
   obtain ⟨u1, u70, rfl⟩ := hq
   refine rf_bf rfl ?_
   refine rf_bt rfl ?_
   exact rf_fin _ (fin_same _ _) ⟨rfl, rfl⟩
 ·intro hl b4 q hq
  obtain ⟨u1, u29, rfl⟩ := hq
  refine rf_bf rfl ?_
  refine rf_bt rfl ?_
  exact rf_fin _ (fin_same _ _) ⟨rfl, rfl⟩

end Go.Proofs.Ytohbeolimnpehaa

namespace Go.Proofs.Ytohbeolimnpehaa
set_option linter.unusedSectionVars false
set_option linter.unusedVariables false
set_option linter.unusedSimpArgs false
section
variable {κ ν : Type} [DecidableEq κ]
theorem tfind_tupd (k a : κ) (v : ν) : ∀ (l : List (κ × ν)), tfind k (tupd a v l) = if k = a then some v else tfind k l
 | [] => by simp [tupd, tfind]
 | (b, w) :: l => by
  rw [tupd]
  by_cases h : a = b
  ·subst h
   rw [if_pos rfl, tfind, tfind]
   split <;> rfl
  ·rw [if_neg h, tfind, tfind, tfind_tupd k a v l]
   by_cases h2 : k = b
   ·subst h2; rw [if_pos rfl, if_pos rfl, if_neg (fun e => h e.symm)]
   ·rw [if_neg h2, if_neg h2]
theorem tfind_set (k : κ) : ∀ (l : List κ) (s : List (κ × Bool)), (tfind k (l.foldl (fun s x => tupd x true s) s)).getD false = (decide (k ∈ l) || (tfind k s).getD false)
 | [], s => by simp
 | x :: l, s => by
  rw [List.foldl_cons, tfind_set k l, tfind_tupd]
  by_cases h : k = x
  ·simp [h]
  ·simp [h]
end
theorem sorted_snoc {l : List Int} {n : Int} (h : l.Pairwise (· < ·)) (k : ordB l n = false) : (l ++ [n]).Pairwise (· < ·) := by
 rw [List.pairwise_append]
 refine ⟨h, by simp, fun a ha b hb => ?_⟩
 simp at hb
 subst hb
 unfold ordB at k
 cases hl : l.getLast? with
 | none => rw [List.getLast?_eq_none_iff] at hl; subst hl; simp at ha
 | some m =>
  rw [hl] at k
  simp at k
  obtain ⟨ys, rfl⟩ := List.getLast?_eq_some_iff.1 hl
  rw [List.pairwise_append] at h
  rcases List.mem_append.1 ha with ha | ha
  ·have := h.2.2 a ha m (by simp); omega
  ·simp at ha; omega
theorem chkU_sorted {lib : List ProfileD} : ∀ (rest pre : List UnitD), chkU lib pre rest = 0 → (pre.map (·.number)).Pairwise (· < ·) → ((pre ++ rest).map (·.number)).Pairwise (· < ·)
 | [], pre, _, h => by simpa using h
 | u :: rest, pre, hc, h => by
  rw [chkU] at hc
  split at hc
  ·cases hc
  split at hc
  ·cases hc
  rename_i ho
  split at hc
  ·cases hc
  split at hc
  ·cases hc
  split at hc
  ·cases hc
  have := chkU_sorted rest (pre ++ [u]) hc (by rw [List.map_append]; exact sorted_snoc h (by simpa using ho))
  simpa using this
theorem rigF_sorted {r : RigD} (h : rigF r = 0) : (r.units.map (·.number)).Pairwise (· < ·) := by
 unfold rigF at h
 split at h
 ·split at h
  ·cases h
  ·simpa using chkU_sorted r.units [] h (by simp)
 ·rename_i h2; exact absurd h h2
theorem paramB_mem (p : ProfileD) (nm : ByteArray) : (paramB p nm).2 = true ↔ ∃ x ∈ p.params, x.name = nm := by
 unfold paramB
 cases h : p.params.find? fun x => decide (x.name = nm) with
 | none =>
  simp only [Option.elim_none, Bool.false_eq_true, false_iff]
  rintro ⟨x, hx, e⟩
  have := List.find?_eq_none.1 h x hx
  simp [e] at this
 | some x =>
  simp only [Option.elim_some, true_iff]
  exact ⟨x, List.mem_of_find?_eq_some h, by simpa using List.find?_some h⟩
theorem uniq_unit {l : List UnitD} (h : (l.map (·.number)).Pairwise (· < ·)) {u v : UnitD} (hu : u ∈ l) (hv : v ∈ l) (e : u.number = v.number) : u = v := by
 induction l with
 | nil => simp at hu
 | cons x l ih =>
  rw [List.map_cons, List.pairwise_cons] at h
  rcases List.mem_cons.1 hu with hu1 | hu1 <;> rcases List.mem_cons.1 hv with hv1 | hv1
  ·rw [hu1, hv1]
  ·have := h.1 v.number (List.mem_map.2 ⟨v, hv1, rfl⟩); rw [← hu1] at this; omega
  ·have := h.1 u.number (List.mem_map.2 ⟨u, hu1, rfl⟩); rw [← hv1] at this; omega
  ·exact ih h.2 hu1 hv1
def hasK (r : RigD) (k : KeyD) : Bool := (paramOf r k).2
theorem hasK_mem {r : RigD} (h : rigF r = 0) (k : KeyD) : hasK r k = decide (k ∈ keysOf r) := by
 rw [Bool.eq_iff_iff, decide_eq_true_iff]
 unfold hasK paramOf keysOf
 rw [List.mem_flatMap]
 cases hf : r.units.find? fun u => decide (u.number = k.unit) with
 | none =>
  simp only [Option.elim_none, Bool.false_eq_true, false_iff]
  rintro ⟨u, hu, hk⟩
  obtain ⟨x, _, rfl⟩ := List.mem_map.1 hk
  have := List.find?_eq_none.1 hf u hu
  simp at this
 | some u =>
  have hu := List.mem_of_find?_eq_some hf
  have hn : u.number = k.unit := by simpa using List.find?_some hf
  simp only [Option.elim_some, paramB_mem]
  constructor
  ·rintro ⟨x, hx, e⟩
   exact ⟨u, hu, List.mem_map.2 ⟨x, hx, by rw [hn, e]⟩⟩
  ·rintro ⟨v, hv, hk⟩
   obtain ⟨x, hx, rfl⟩ := List.mem_map.1 hk
   obtain rfl := uniq_unit (rigF_sorted h) hu hv hn
   exact ⟨x, hx, rfl⟩
theorem keys_len {r : RigD} (h : rigF r = 0) : (keysOf r).length ≤ 16000 := by
 have h1 := unitKeys_len h r.units
 have h2 := rigF_units h
 show (r.units.flatMap (unitKeys r.library)).length ≤ _
 omega
theorem ite_pure {α : Type} {p : Prop} [Decidable p] (a b : α) : (if p then some a else some b) = some (if p then a else b) := by split <;> rfl
theorem bind_ite2 {α β : Type} {p : Prop} [Decidable p] (a b : α) (f : α → Option β) : (if p then some a else some b).bind f = f (if p then a else b) := by split <;> rfl
theorem before_eq (a b : KeyD) : t_pick_before a b = some (ltK a b) := by
 unfold t_pick_before ltK
 by_cases h : a.unit = b.unit
 ·simp [h, toList_d, cmpB_lt]
 ·by_cases h2 : a.unit < b.unit <;> simp [h, h2]
theorem compare_eq (a b : KeyD) : t_cue_compare a b = some (cmpK a b) := by
 unfold t_cue_compare cmpK
 by_cases h : a.unit = b.unit
 ·simp [h]
 ·by_cases h2 : a.unit < b.unit <;> simp [h, h2]
def settF (has : KeyD → Bool) (l : List SettingD) (i : Nat) (x : SettingD) : Int :=
 if (!has x.key) = true then 8
 else if (!(withinB x.level 0 65535)) = true then 1
 else if (decide (0 < (i : Int)) && !ltK (pv l i).key x.key) = true then 7 else 0
def presetF (has : KeyD → Bool) (l : List PresetD) (i : Nat) (p : PresetD) : Int :=
 if (!(withinB p.number 1 999)) = true then 1
 else if (decide (0 < (i : Int)) && decide (p.number ≤ (pv l i).number)) = true then 7
 else if (!(blankB p.title)) = true then 3
 else if 2000 < (p.settings.length : Int) then 2
 else chkE (settF has p.settings) p.settings 0
def presetsF (r : RigD) (l : List PresetD) : Int :=
 if ¬ (rigF r = 0) then rigF r else if 200 < (l.length : Int) then 2 else chkE (presetF (hasK r) l) l 0
theorem guard_before (c : Bool) (a b : KeyD) : (c && !(if c = true then ltK a b else (default : Bool))) = (c && !ltK a b) := by cases c <;> rfl
theorem guard_cmp (c : Bool) (a b : KeyD) : (c && decide (0 ≤ (if c = true then cmpK a b else (default : Int)))) = (c && !ltK a b) := by
 cases c
 ·rfl
 ·simp only [if_true, Bool.true_and]; exact cmpK_ge a b
theorem guard_title (s : ByteArray) : (decide (¬ (s = (⟨#[]⟩ : ByteArray))) && !(if decide (¬ (s = (⟨#[]⟩ : ByteArray))) = true then titleB s else (default : Bool))) = !blankB s := by
 unfold blankB
 by_cases h : s = ⟨#[]⟩ <;> simp [h]
theorem CheckPresets_t (r : RigD) (l : List PresetD) (hr : okRig r) (hl : okL okPreset l) : t_pick_CheckPresets r l = some (presetsF r l) := by
 unfold t_pick_CheckPresets presetsF
 simp only [tq_pos hr, Option.bind_some]
 rw [tq_pos (by show 2 ≤ mxl; unfold mxl; omega)]
 simp only [find2, Option.bind_some]
 by_cases h0 : rigF r = 0
 case neg => simp [h0]
 by_cases h1 : 200 < (l.length : Int)
 ·simp [h0, h1]
 have hk : t_pick_keys r = some ((keysOf r).foldl (fun s x => tupd x true s) []) := by
  unfold t_pick_keys
  have := keys_len h0
  simp only [tq_pos hr, Option.bind_some, h0, if_true]
  rw [forE_fold (fun s x => tupd x true s) (fun _ _ => True) (by unfold mxl; omega) trivial (fun _ _ _ _ _ => trivial) (fun _ _ _ _ _ => rfl)]
  rfl
 simp only [h0, h1, not_true_eq_false, if_false, decide_false, Bool.false_eq_true, hk, Option.bind_some]
 have has : ∀ k, (tfind k ((keysOf r).foldl (fun s x => tupd x true s) [])).getD false = hasK r k := by
  intro k; rw [tfind_set, hasK_mem h0]; simp [tfind]
 rw [forE_chk (f := presetF (hasK r) l) hl.1 ?_]
 ·split
  ·rename_i h; rw [h]
  ·rfl
 intro i p hp
 have hpm := hl.2 p (List.mem_of_getElem? hp)
 obtain ⟨_, ht, hs⟩ := hpm
 simp only [prev_at hp hl.1, Option.bind_some, tq_pos ht, has]
 rw [forE_chk (f := settF (hasK r) p.settings) hs.1 ?_]
 ·unfold presetF
  repeat first | exact elim_ret _ | exact go_ret | refine ite_ret (by decide) ?_
 intro j x hx
 simp only [prev_at hx hs.1, Option.bind_some, before_eq, bind_ite2, guard_before]
 unfold settF
 repeat first | exact go_ret | refine ite_ret (by decide) ?_
def levelOf (l : List PresetD) (k : KeyD) (v : ValueD) : Int × Int :=
 if (decide (¬ (v.level = 0)) && decide (¬ (v.preset = 0))) = true then (0, 3)
 else if (!(withinB v.level 0 65535)) = true then (0, 1)
 else if v.preset = 0 then (v.level, 0)
 else match l.find? fun p => decide (p.number = v.preset) with
  | none => (0, 8)
  | some p => match p.settings.find? fun s => decide (s.key = k) with | none => (0, 8) | some s => (s.level, 0)
theorem forE_find2 {α γ R : Type} {p : α → Bool} {l : List α} {body : Nat → α → Unit → Option (Lr Unit Unit R)} {r : α → Option R} {fin : Unit → Option Unit} {s : Unit} {K1 : Unit → Option γ} {K2 : R → Option γ} (hl : l.length ≤ mxl) (hb : ∀ i x, l[i]? = some x → body i x () = if p x = true then some (match r x with | some q => .ret q | none => .brk ()) else some (.go ())) (hf : fin () = some () := by rfl) : forE l body fin s K1 K2 = match l.find? p with | some x => (match r x with | some q => K2 q | none => K1 ()) | none => K1 () := by
 rw [forE_le hl]
 have key : ∀ (rest pre : List α), l = pre ++ rest → forL body fin rest pre.length () = some (match rest.find? p with | some x => (match r x with | some q => .inr q | none => .inl ()) | none => .inl ()) := by
  intro rest
  induction rest with
  | nil => intro pre _; simp [forL, hf]
  | cons x rest ih =>
   intro pre hp
   rw [forL, hb pre.length x (by rw [hp]; simp), List.find?_cons]
   cases h : p x
   ·simp only [Bool.false_eq_true, if_false, Option.bind_some]
    have := ih (pre ++ [x]) (by simpa using hp)
    simpa using this
   ·simp only [if_true, Option.bind_some]
    cases r x <;> rfl
 have k := key l [] rfl
 rw [List.length_nil] at k
 rw [show s = () from rfl, k, Option.bind_some]
 cases l.find? p with
 | none => rfl
 | some x =>
  simp only
  cases r x <;> rfl
theorem Level_t (l : List PresetD) (hl : okL okPreset l) (k : KeyD) (v : ValueD) : t_pick_Level l k v = some (levelOf l k v) := by
 unfold t_pick_Level levelOf
 split
 ·rfl
 split
 ·rfl
 split
 ·rfl
 rw [forE_find2 (p := fun p => decide (p.number = v.preset)) (r := fun p => (p.settings.find? fun s => decide (s.key = k)).map (·.level)) hl.1 ?_]
 ·cases hf : l.find? fun p => decide (p.number = v.preset) with
  | none => rfl
  | some p =>
   simp only
   cases p.settings.find? fun s => decide (s.key = k) <;> rfl
 intro i p hp
 have hpm := hl.2 p (List.mem_of_getElem? hp)
 by_cases hn : p.number = v.preset
 ·simp only [hn, not_true_eq_false, if_false, decide_true, if_true]
  rw [forE_find (p := fun s => decide (s.key = k)) (r := fun s => s.level) hpm.2.2.1 (by intro i x _; simp only [decide_eq_true_eq, ite_pure])]
  cases p.settings.find? fun s => decide (s.key = k) <;> rfl
 ·simp [hn]
def moveF (l : List MoveD) (i : Nat) (m : MoveD) : Int :=
 if (!(withinB m.key.unit 1 9999)) = true then 1
 else if (!(nameB m.key.param)) = true then 5
 else if ((m.release && (decide (¬ (m.value = (⟨0, 0⟩ : ValueD))))) || ((decide (¬ (m.value.level = 0))) && (decide (¬ (m.value.preset = 0))))) = true then 3
 else if ((!(withinB m.value.level 0 65535)) || (!(withinB m.value.preset 0 999))) = true then 1
 else if ((!m.timed) && ((decide (¬ (m.delay = 0))) || (decide (¬ (m.time = 0))))) = true then 3
 else if ((!(withinB m.delay 0 36000000)) || (!(withinB m.time 0 36000000))) = true then 1
 else if (decide (0 < (i : Int)) && !ltK (pv l i).key m.key) = true then 7 else 0
def movesF (l : List MoveD) : Int := chkE (moveF l) l 0
theorem checkMoves_t (l : List MoveD) (hl : okL okMove l) : t_cue_checkMoves l = some (movesF l) := by
 unfold t_cue_checkMoves movesF
 rw [forE_chk (f := moveF l) hl.1 ?_]
 ·split
  ·rename_i h; rw [h]
  ·rfl
 intro i m hm
 have hmm := hl.2 m (List.mem_of_getElem? hm)
 simp only [prev_at hm hl.1, Option.bind_some, tq_pos hmm.1.2, compare_eq, bind_ite2, guard_cmp]
 unfold moveF
 repeat first | exact go_ret | refine ite_ret (by decide) ?_
def cueF (l : List CueD) (i : Nat) (c : CueD) : Int :=
 if (!(withinB c.number 1 9999999)) = true then 1
 else if (decide (0 < (i : Int)) && decide (c.number ≤ (pv l i).number)) = true then 7
 else if (!(blankB c.title)) = true then 3
 else if (((((!(withinB c.delay 0 36000000)) || (!(withinB c.up 0 36000000))) || (!(withinB c.down 0 36000000))) || (!(withinB c.other 0 36000000))) || (!(withinB c.follow (-1) 36000000))) = true then 1
 else if ¬ (curveF c.curve = 0) then curveF c.curve
 else if 2000 < (c.moves.length : Int) then 2
 else movesF c.moves
def manyF (l : List CueD) : Int := l.foldl (fun s c => IntKind.i64.wrap (s + (c.moves.length : Int))) 0
def formF (l : List CueD) : Int :=
 if 300 < (l.length : Int) then 2 else if ¬ (chkE (cueF l) l 0 = 0) then chkE (cueF l) l 0 else if 10000 < manyF l then 2 else 0
theorem forE_chkS {α γ S B : Type} {f : Nat → α → Int} {g : S → α → S} {l : List α} {body : Nat → α → S → Option (Lr S B Int)} {fin : S → Option B} {s : S} {K1 : B → Option γ} {K2 : Int → Option γ} (hl : l.length ≤ mxl) (hb : ∀ i x s, l[i]? = some x → body i x s = some (if f i x = 0 then .go (g s x) else .ret (f i x))) : forE l body fin s K1 K2 = if chkE f l 0 = 0 then (fin (l.foldl g s)).bind K1 else K2 (chkE f l 0) := by
 rw [forE_le hl]
 have key : ∀ (rest pre : List α) (s : S), l = pre ++ rest → forL body fin rest pre.length s = if chkE f rest pre.length = 0 then (fin (rest.foldl g s)).map .inl else some (.inr (chkE f rest pre.length)) := by
  intro rest
  induction rest with
  | nil => intro pre s _; simp [forL, chkE]
  | cons x rest ih =>
   intro pre s hp
   rw [forL, hb pre.length x s (by rw [hp]; simp), Option.bind_some, chkE]
   by_cases h : f pre.length x = 0
   ·simp only [h, if_true]
    have := ih (pre ++ [x]) (g s x) (by simpa using hp)
    simpa using this
   ·simp only [h, if_false]
 have k := key l [] s rfl
 rw [List.length_nil] at k
 rw [k]
 split
 ·cases fin (l.foldl g s) <;> rfl
 ·rfl
theorem ite_retS {S B : Type} {p : Prop} [Decidable p] {k f : Int} {t : S} {Y : Option (Lr S B Int)} (hk : k ≠ 0) (h : Y = some (if f = 0 then .go t else .ret f)) : (if p then some (.ret k) else Y) = some (if (if p then k else f) = 0 then .go t else .ret (if p then k else f)) := by
 by_cases hp : p
 ·simp [hp, hk]
 ·simp [hp, h]
theorem ite_retvS {S B : Type} {k f : Int} {t : S} {Y : Option (Lr S B Int)} (h : Y = some (if f = 0 then .go t else .ret f)) : (if ¬ (k = 0) then some (.ret k) else Y) = some (if (if ¬ (k = 0) then k else f) = 0 then .go t else .ret (if ¬ (k = 0) then k else f)) := by
 by_cases hp : k = 0
 ·simp [hp, h]
 ·simp [hp]
theorem ite_lastS {S B : Type} {k : Int} {t : S} : (if ¬ (k = 0) then some (.ret k) else some (.go t) : Option (Lr S B Int)) = some (if k = 0 then .go t else .ret k) := by
 by_cases hp : k = 0 <;> simp [hp]
theorem form_t (l : List CueD) (hl : okL okCue l) : t_cue_form l = some (formF l) := by
 unfold t_cue_form formF
 split
 ·rfl
 rw [forE_chkS (f := cueF l) (g := fun s c => IntKind.i64.wrap (s + (c.moves.length : Int))) hl.1 ?_]
 ·show (if chkE (cueF l) l 0 = 0 then some (if decide (10000 < manyF l) = true then (2 : Int) else 0) else some (chkE (cueF l) l 0)) = _
  by_cases h : chkE (cueF l) l 0 = 0
  ·by_cases h2 : 10000 < manyF l <;> simp [h, h2]
  ·simp [h]
 intro i c s hc
 obtain ⟨_, ht, _, _, _, _, _, _, hm⟩ := hl.2 c (List.mem_of_getElem? hc)
 simp only [prev_at hc hl.1, Option.bind_some, tq_pos ht, checkMoves_t _ hm, bind_ite2, guard_title]
 unfold cueF
 repeat first | exact ite_lastS | refine ite_retS (by decide) ?_ | refine ite_retvS ?_
def useF (r : RigD) (presets : List PresetD) (m : MoveD) : Int :=
 if (!hasK r m.key) = true then 8 else (levelOf presets m.key m.value).2
def usesF (r : RigD) (presets : List PresetD) (l : List CueD) : Int := chkE (fun _ c => chkE (fun _ m => useF r presets m) c.moves 0) l 0
def listF (r : RigD) (presets : List PresetD) (l : List CueD) : Int :=
 if ¬ (presetsF r presets = 0) then presetsF r presets else if ¬ (formF l = 0) then formF l else usesF r presets l
theorem presetsF_rig {r : RigD} {l : List PresetD} (h : presetsF r l = 0) : rigF r = 0 := by
 unfold presetsF at h
 by_cases h0 : rigF r = 0
 ·exact h0
 ·rw [if_pos h0] at h; exact h
theorem okCue_moves {c : CueD} (h : okCue c) : okL okMove c.moves := by
 obtain ⟨_, _, _, _, _, _, _, _, hm⟩ := h; exact hm
theorem CheckList_t (r : RigD) (presets : List PresetD) (l : List CueD) (hr : okRig r) (hp : okL okPreset presets) (hl : okL okCue l) : t_cue_CheckList r presets l = some (listF r presets l) := by
 unfold t_cue_CheckList listF
 simp only [CheckPresets_t r presets hr hp, form_t l hl, Option.bind_some]
 rw [tq_pos (by show 2 ≤ mxl; unfold mxl; omega)]
 simp only [find2, Option.bind_some]
 by_cases h0 : presetsF r presets = 0
 case neg => simp [h0]
 by_cases h1 : formF l = 0
 case neg => simp [h0, h1]
 have hrig := presetsF_rig h0
 have hkl := keys_len hrig
 simp only [h0, h1, not_true_eq_false, if_false, tq_pos hr, Option.bind_some, hrig, if_true]
 rw [forE_fold (fun s x => tupd x true s) (fun _ _ => True) (by unfold mxl; omega) trivial (fun _ _ _ _ _ => trivial) (fun _ _ _ _ _ => rfl)]
 simp only [Option.bind_some]
 have has : ∀ k, (tfind k ((keysOf r).foldl (fun s x => tupd x true s) [])).getD false = hasK r k := by
  intro k; rw [tfind_set, hasK_mem hrig]; simp [tfind]
 rw [forE_chk (f := fun _ c => chkE (fun _ m => useF r presets m) c.moves 0) hl.1 ?_]
 ·show (if usesF r presets l = 0 then some (0 : Int) else some (usesF r presets l)) = _
  split
  ·rename_i h; rw [h]
  ·rfl
 intro i c hc
 rw [forE_chk (f := fun _ m => useF r presets m) (okCue_moves (hl.2 c (List.mem_of_getElem? hc))).1 ?_]
 ·exact elim_ret _
 intro j m hm
 simp only [has, Level_t presets hp, Option.bind_some]
 unfold useF
 repeat first | exact ite_lastS | refine ite_ret (by decide) ?_
def listOf (l : List ListD) (n : Int) : ListD × Bool := match l.find? fun x => decide (x.number = n) with | some x => (x, true) | none => (⟨0, []⟩, false)
theorem list_t (s : SetupD) (hl : s.lists.length ≤ mxl) (n : Int) : t_play_list s n = some (listOf s.lists n) := by
 unfold t_play_list listOf
 rw [tq_pos hl, Option.bind_some]
 rcases idxI_cases (fun x : ListD => decide (x.number = n)) s.lists with ⟨h1, _, h3⟩ | ⟨k, x, h1, h2, h3, h4, _⟩
 ·rw [h1, h3]; rfl
 ·rw [h3, h4, if_neg (by omega), tIx_get (x := x) (by omega) (by simpa using h1)]; rfl
def listEF (s : SetupD) (i : Nat) (x : ListD) : Int :=
 if (!(withinB x.number 1 999)) = true then 1
 else if (decide (0 < (i : Int)) && decide (x.number ≤ (pv s.lists i).number)) = true then 7
 else listF s.rig s.presets x.cues
def playF (s : SetupD) (i : Nat) (p : PlaybackD) : Int :=
 if (!(withinB p.number 1 40)) = true then 1
 else if (decide (0 < (i : Int)) && decide (p.number ≤ (pv s.playbacks i).number)) = true then 7
 else if (!(listOf s.lists p.list).2) = true then 8
 else if (!(withinB p.priority 0 100)) = true then 1 else 0
def setupF (s : SetupD) : Int :=
 if ¬ (presetsF s.rig s.presets = 0) then presetsF s.rig s.presets
 else if 30 < (s.lists.length : Int) then 2
 else if ¬ (chkE (listEF s) s.lists 0 = 0) then chkE (listEF s) s.lists 0
 else if 40 < (s.playbacks.length : Int) then 2
 else chkE (playF s) s.playbacks 0
theorem CheckSetup_t (s : SetupD) (hs : okSetup s) : t_play_CheckSetup s = some (setupF s) := by
 obtain ⟨hr, hp, hl, hb⟩ := hs
 unfold t_play_CheckSetup setupF
 simp only [CheckPresets_t _ _ hr hp, Option.bind_some]
 rw [tq_pos (by show 2 ≤ mxl; unfold mxl; omega)]
 simp only [find2, Option.bind_some]
 by_cases h0 : presetsF s.rig s.presets = 0
 case neg => simp [h0]
 by_cases h1 : 30 < (s.lists.length : Int)
 ·simp [h0, h1]
 simp only [h0, h1, not_true_eq_false, if_false, decide_false, Bool.false_eq_true]
 rw [forE_chk (f := listEF s) hl.1 ?_]
 ·by_cases h2 : chkE (listEF s) s.lists 0 = 0
  case neg => simp [h2]
  simp only [h2, if_true, not_true_eq_false, if_false]
  split
  ·rfl
  rw [forE_chk (f := playF s) hb.1 ?_]
  ·split
   ·rename_i h; rw [h]
   ·rfl
  intro i p hpp
  simp only [prev_at hpp hb.1, Option.bind_some, list_t s hl.1]
  unfold playF
  repeat first | exact go_ret | refine ite_ret (by decide) ?_
 intro i x hx
 simp only [prev_at hx hl.1, Option.bind_some, CheckList_t _ _ _ hr hp (hl.2 x (List.mem_of_getElem? hx)).2]
 unfold listEF
 repeat first | exact ite_lastS | refine ite_ret (by decide) ?_
end Go.Proofs.Ytohbeolimnpehaa

namespace Go.Proofs.Ytohbeolimnpehaa
set_option linter.unusedSectionVars false
set_option linter.unusedVariables false
set_option linter.unusedSimpArgs false
set_option maxRecDepth 100000
noncomputable def t_play_CheckRanges_fn1 (a0 : PlaybackD) (a1 : ActionD) : Option Bool :=
 some (decide (a0.number = a1.playback))
theorem h_play_CheckRanges_fn1 {a0 : PlaybackD} { a1 : ActionD} {σ : Heap} {r : Bool} (h : t_play_CheckRanges_fn1 a0 a1 = some r) : m_play_CheckRanges_fn1 [(AV.agg (cPlayback a0)), (AV.rp (cAction a1))] σ = some ((AV.bool r), σ) := by
 refine rf_wrap2 (f := r_play_CheckRanges_fn1) (y0 := (AV.agg (cPlayback a0))) (y1 := (AV.rp (cAction a1))) (enc := fun r : Bool => (AV.bool r)) (T := t_play_CheckRanges_fn1 a0 a1) rfl rfl ?_ r h
 unfold r_play_CheckRanges_fn1 t_play_CheckRanges_fn1
 refine rf_s (cPlayback a0) rfl ?_
 refine rf_s (AV.int .i64 a0.number) rfl ?_
 refine rf_s (AV.rp (List.drop 2 (cAction a1))) rfl ?_
 refine rf_s (AV.int .i64 a1.playback) rfl ?_
 refine rf_s (AV.bool (decide (a0.number = a1.playback))) (aEq _ _ _) ?_
 exact rf_fin _ (fin_same _ _) ⟨rfl, rfl⟩

noncomputable def t_play_CheckFields (a0 : ActionD) : Option Int :=
 if (!(withinB a0.kind 1 9)) = true then
  some 4
 else
 if (((((decide (a0.kind = 8)) || (decide (a0.kind = 9))) && (decide (¬ (a0.playback = 0)))) || ((decide (¬ (a0.kind = 3))) && (decide (¬ (a0.cue = 0))))) || ((!((((decide (a0.kind = 8)) || (decide (a0.kind = 9))) || (decide (a0.kind = 6))) || (decide (a0.kind = 7)))) && (decide (¬ (a0.level = 0))))) = true then
  some 3
 else
 some 0
theorem h_play_CheckFields {a0 : ActionD} {σ : Heap} {r : Int} (h : t_play_CheckFields a0 = some r) : m_play_CheckFields [(AV.agg (cAction a0))] σ = some ((AV.int .i64 r), σ) := by
 refine rf_wrap1 (f := r_play_CheckFields) (y0 := (AV.agg (cAction a0))) (enc := fun r : Int => (AV.int .i64 r)) (T := t_play_CheckFields a0) rfl rfl ?_ r h
 unfold r_play_CheckFields t_play_CheckFields
 refine rf_s (cAction a0) rfl ?_
 refine rf_s (AV.int .i64 a0.kind) rfl ?_
 refine rf_s ((AV.bool (withinB a0.kind 1 9)), σ) (Within_eq a0.kind 1 9 σ) ?_
 refine rf_s (AV.bool (!(withinB a0.kind 1 9))) rfl ?_
 refine rf_cb (c := (!(withinB a0.kind 1 9))) (fun c2 => ?_) (fun c2 => ?_)
 ·exact rf_fin _ (fin_same _ _) ⟨rfl, rfl⟩
 refine rf_s (AV.int .i64 a0.kind) rfl ?_
 refine rf_s (AV.bool (decide (a0.kind = 8))) (aEq _ _ _) ?_
 refine rf_gf (AV.int .i64 a0.kind) (fun hg => rfl) ?_
 refine rf_gf (AV.bool (decide (a0.kind = 9))) (fun hg => by
   simp only [hg, Bool.true_and, cond_true]; first | done | exact (aEq _ _ _)) ?_
 refine rf_s (AV.bool ((decide (a0.kind = 8)) || (decide (a0.kind = 9)))) (pk_or _ _) ?_
 refine rf_gf (AV.int .i64 a0.kind) (fun hg => rfl) ?_
 refine rf_gf (AV.bool (decide (a0.kind = 6))) (fun hg => by
   simp only [hg, Bool.true_and, cond_true]; first | done | exact (aEq _ _ _)) ?_
 refine rf_s (AV.bool (((decide (a0.kind = 8)) || (decide (a0.kind = 9))) || (decide (a0.kind = 6)))) (pk_or _ _) ?_
 refine rf_gf (AV.int .i64 a0.kind) (fun hg => rfl) ?_
 refine rf_gf (AV.bool (decide (a0.kind = 7))) (fun hg => by
   simp only [hg, Bool.true_and, cond_true]; first | done | exact (aEq _ _ _)) ?_
 refine rf_s (AV.bool ((((decide (a0.kind = 8)) || (decide (a0.kind = 9))) || (decide (a0.kind = 6))) || (decide (a0.kind = 7)))) (pk_or _ _) ?_
 refine rf_gt (AV.int .i64 a0.playback) (fun hg => rfl) ?_
 refine rf_gt (AV.bool (decide (¬ (a0.playback = 0)))) (fun hg => by
   simp only [hg, Bool.true_and, cond_true]; first | done | exact (aNe _ _ _)) ?_
 refine rf_s (AV.bool (((decide (a0.kind = 8)) || (decide (a0.kind = 9))) && (decide (¬ (a0.playback = 0))))) (pk_and _ _) ?_
 refine rf_gf (AV.int .i64 a0.kind) (fun hg => rfl) ?_
 refine rf_gf (AV.bool (decide (¬ (a0.kind = 3)))) (fun hg => by
   simp only [hg, Bool.true_and, cond_true]; first | done | exact (aNe _ _ _)) ?_
 refine rf_gf (AV.bool (decide (¬ (a0.kind = 3)))) (fun hg => by
   simp only [hg, Bool.true_and, cond_true]; first | done | exact rfl) ?_
 refine rf_ggt (AV.int .i64 a0.cue) (fun hg => rfl) ?_
 refine rf_ggt (AV.bool (decide (¬ (a0.cue = 0)))) (fun hg => by
   simp only [hg, Bool.true_and, cond_true]; first | done | exact (aNe _ _ _)) ?_
 refine rf_gf (AV.bool ((decide (¬ (a0.kind = 3))) && (decide (¬ (a0.cue = 0))))) (fun hg => by
   simp only [hg, Bool.true_and, cond_true]; first | done | exact (pk_and _ _)) ?_
 refine rf_s (AV.bool ((((decide (a0.kind = 8)) || (decide (a0.kind = 9))) && (decide (¬ (a0.playback = 0)))) || ((decide (¬ (a0.kind = 3))) && (decide (¬ (a0.cue = 0)))))) (pk_or _ _) ?_
 refine rf_gf (AV.bool ((((decide (a0.kind = 8)) || (decide (a0.kind = 9))) || (decide (a0.kind = 6))) || (decide (a0.kind = 7)))) (fun hg => rfl) ?_
 refine rf_gf (AV.bool (!((((decide (a0.kind = 8)) || (decide (a0.kind = 9))) || (decide (a0.kind = 6))) || (decide (a0.kind = 7))))) (fun hg => by
   simp only [hg, Bool.true_and, cond_true]; first | done | exact rfl) ?_
 refine rf_gf (AV.bool (!((((decide (a0.kind = 8)) || (decide (a0.kind = 9))) || (decide (a0.kind = 6))) || (decide (a0.kind = 7))))) (fun hg => by
   simp only [hg, Bool.true_and, cond_true]; first | done | exact rfl) ?_
 refine rf_ggt (AV.int .i64 a0.level) (fun hg => rfl) ?_
 refine rf_ggt (AV.bool (decide (¬ (a0.level = 0)))) (fun hg => by
   simp only [hg, Bool.true_and, cond_true]; first | done | exact (aNe _ _ _)) ?_
 refine rf_gf (AV.bool ((!((((decide (a0.kind = 8)) || (decide (a0.kind = 9))) || (decide (a0.kind = 6))) || (decide (a0.kind = 7)))) && (decide (¬ (a0.level = 0))))) (fun hg => by
   simp only [hg, Bool.true_and, cond_true]; first | done | exact (pk_and _ _)) ?_
 refine rf_s (AV.bool (((((decide (a0.kind = 8)) || (decide (a0.kind = 9))) && (decide (¬ (a0.playback = 0)))) || ((decide (¬ (a0.kind = 3))) && (decide (¬ (a0.cue = 0))))) || ((!((((decide (a0.kind = 8)) || (decide (a0.kind = 9))) || (decide (a0.kind = 6))) || (decide (a0.kind = 7)))) && (decide (¬ (a0.level = 0)))))) (pk_or _ _) ?_
 refine rf_cb (c := (((((decide (a0.kind = 8)) || (decide (a0.kind = 9))) && (decide (¬ (a0.playback = 0)))) || ((decide (¬ (a0.kind = 3))) && (decide (¬ (a0.cue = 0))))) || ((!((((decide (a0.kind = 8)) || (decide (a0.kind = 9))) || (decide (a0.kind = 6))) || (decide (a0.kind = 7)))) && (decide (¬ (a0.level = 0)))))) (fun c1 => ?_) (fun c1 => ?_)
 ·exact rf_fin _ (fin_same _ _) ⟨rfl, rfl⟩
 exact rf_fin _ (fin_same _ _) ⟨rfl, rfl⟩

noncomputable def t_play_CheckRanges (a0 : SetupD) (a1 : ActionD) : Option Int :=
 (if (!((decide (a1.kind = 8)) || (decide (a1.kind = 9)))) = true then tq (a0.playbacks.length ≤ mxl) (a0.playbacks.any (fun x => (decide (x.number = a1.playback)))) else some default).bind fun r1 =>
 if ((!((decide (a1.kind = 8)) || (decide (a1.kind = 9)))) && (!r1)) = true then
  some 8
 else
 (show Option Int from
   if a1.kind = 6 then
    some 36000000
   else
   (show Option Int from
     if a1.kind = 9 then
      some 1
     else
     some 65535).bind fun j3 =>
   some j3).bind fun j7 =>
 some (if (!(withinB a1.level 0 j7)) = true then 1 else 0)
theorem h_play_CheckRanges {a0 : SetupD} { a1 : ActionD} {σ : Heap} {r : Int} (h : t_play_CheckRanges a0 a1 = some r) : m_play_CheckRanges [(AV.agg (cSetup a0)), (AV.agg (cAction a1))] σ = some ((AV.int .i64 r), σ) := by
 refine rf_wrap2 (f := r_play_CheckRanges) (y0 := (AV.agg (cSetup a0))) (y1 := (AV.agg (cAction a1))) (enc := fun r : Int => (AV.int .i64 r)) (T := t_play_CheckRanges a0 a1) rfl rfl ?_ r h
 unfold r_play_CheckRanges t_play_CheckRanges
 refine rf_s (cSetup a0) rfl ?_
 refine rf_s (AV.rp (cAction a1)) rfl ?_
 refine rf_s (AV.rp (List.drop 1 (cAction a1))) rfl ?_
 refine rf_s (AV.int .i64 a1.kind) rfl ?_
 refine rf_s (AV.bool (decide (a1.kind = 8))) (aEq _ _ _) ?_
 refine rf_gf (AV.rp (List.drop 1 (cAction a1))) (fun hg => rfl) ?_
 refine rf_gf (AV.int .i64 a1.kind) (fun hg => by
   simp only [hg, Bool.true_and, cond_true]; first | done | exact rfl) ?_
 refine rf_gf (AV.bool (decide (a1.kind = 9))) (fun hg => by
   simp only [hg, Bool.true_and, cond_true]; first | done | exact (aEq _ _ _)) ?_
 refine rf_s (AV.bool ((decide (a1.kind = 8)) || (decide (a1.kind = 9)))) (pk_or _ _) ?_
 refine rf_s (AV.bool (!((decide (a1.kind = 8)) || (decide (a1.kind = 9))))) rfl ?_
 refine rf_gt (sl 3 cPlayback a0.playbacks) (fun hg => rfl) ?_
 refine rf_gt (AV.fn 152 [(AV.rp (cAction a1))]) (fun hg => rfl) ?_
 refine rf_gto (ω := Bool) (fun r1 => (AV.bool r1)) (fun hg r1 hr1 => by
   simp only [hg, Bool.true_and, cond_true]; first | done | exact (quiet_of ((tq_of (e := fun r : Bool => ((AV.bool r), σ)) (fun hs => m_slices_ContainsFunc_api_Playback_eq _ a0.playbacks hs _ _ (fun x => (decide (x.number = a1.playback))) σ (fun x hx => h_play_CheckRanges_fn1 (σ := σ) (r := (decide (x.number = a1.playback))) rfl))) hr1))) (fun r1 hr1 => ?_)
 refine rf_gt (AV.bool (!r1)) (fun hg => by
   simp only [hg, Bool.true_and, cond_true]; first | done | exact rfl) ?_
 refine rf_s (AV.bool ((!((decide (a1.kind = 8)) || (decide (a1.kind = 9)))) && (!r1))) (pk_and _ _) ?_
 refine rf_cb (c := ((!((decide (a1.kind = 8)) || (decide (a1.kind = 9)))) && (!r1))) (fun c10 => ?_) (fun c10 => ?_)
 ·exact rf_fin _ (fin_same _ _) ⟨rfl, rfl⟩
 refine rf_s (AV.rp (List.drop 1 (cAction a1))) rfl ?_
 refine rf_s (AV.int .i64 a1.kind) rfl ?_
 refine rf_s (AV.bool (decide (a1.kind = 6))) (aEq _ _ _) ?_
 refine rf_b (ω := Int) (fun j7 a => a = (([(AV.int .i64 j7)] : List AV), σ)) (
   by
    refine rf_c (p := a1.kind = 6) (fun c6 => ?_) (fun c6 => ?_)
    ·exact rf_ret rfl
    refine rf_s (AV.bool (decide (a1.kind = 9))) (aEq _ _ _) ?_
    refine rf_b (ω := Int) (fun j3 a => a = (([(AV.int .i64 j3)] : List AV), σ)) (
      by
       refine rf_c (p := a1.kind = 9) (fun c2 => ?_) (fun c2 => ?_)
       ·exact rf_ret rfl
       exact rf_ret rfl
      ) (fun j3 a ha => ?_)
    subst ha
    exact rf_ret rfl
   ) (fun j7 a ha => ?_)
 subst ha
 refine rf_s (AV.rp (List.drop 4 (cAction a1))) rfl ?_
 refine rf_s (AV.int .i64 a1.level) rfl ?_
 refine rf_s ((AV.bool (withinB a1.level 0 j7)), σ) (Within_eq a1.level 0 j7 σ) ?_
 refine rf_s (AV.bool (!(withinB a1.level 0 j7))) rfl ?_
 refine rf_s ((AV.int .i64 (if (!(withinB a1.level 0 j7)) = true then 1 else 0)), σ) (When_eq (!(withinB a1.level 0 j7)) 1 σ) ?_
 exact rf_fin _ (fin_same _ _) ⟨rfl, rfl⟩

noncomputable def t_stamp_speed (a0 : Int) : Option (Int × Int × Bool) :=
 (show Option Bool from
   if a0 = 24 then
    some (decide (a0 = 24))
   else
   (show Option Bool from
     if a0 = 25 then
      some (decide (a0 = 25))
     else
     some (decide (a0 = 30))).bind fun j2 =>
   some j2).bind fun j6 =>
 if j6 = true then
  some (a0, 1, true)
 else
 if a0 = 29 then
  some (30000, 1001, true)
 else
 some (0, 0, false)
theorem h_stamp_speed {a0 : Int} {σ : Heap} {r : (Int × Int × Bool)} (h : t_stamp_speed a0 = some r) : m_stamp_speed [(AV.int .i64 a0)] σ = some ((AV.tup [(AV.int .i64 r.1), (AV.int .i64 r.2.1), (AV.bool r.2.2)]), σ) := by
 refine rf_wrap1 (f := r_stamp_speed) (y0 := (AV.int .i64 a0)) (enc := fun r : (Int × Int × Bool) => (AV.tup [(AV.int .i64 r.1), (AV.int .i64 r.2.1), (AV.bool r.2.2)])) (T := t_stamp_speed a0) rfl rfl ?_ r h
 unfold r_stamp_speed t_stamp_speed
 refine rf_s (AV.bool (decide (a0 = 24))) (aEq _ _ _) ?_
 refine rf_b (ω := Bool) (fun j6 a => a = (([(AV.bool j6)] : List AV), σ)) (
   by
    refine rf_c (p := a0 = 24) (fun c5 => ?_) (fun c5 => ?_)
    ·exact rf_ret rfl
    refine rf_s (AV.bool (decide (a0 = 25))) (aEq _ _ _) ?_
    refine rf_b (ω := Bool) (fun j2 a => a = (([(AV.bool j2)] : List AV), σ)) (
      by
       refine rf_c (p := a0 = 25) (fun c1 => ?_) (fun c1 => ?_)
       ·exact rf_ret rfl
       refine rf_s (AV.bool (decide (a0 = 30))) (aEq _ _ _) ?_
       exact rf_ret rfl
      ) (fun j2 a ha => ?_)
    subst ha
    exact rf_ret rfl
   ) (fun j6 a ha => ?_)
 subst ha
 refine rf_cb (c := j6) (fun c10 => ?_) (fun c10 => ?_)
 ·exact rf_fin _ (fin_same _ _) ⟨rfl, rfl⟩
 refine rf_s (AV.bool (decide (a0 = 29))) (aEq _ _ _) ?_
 refine rf_c (p := a0 = 29) (fun c9 => ?_) (fun c9 => ?_)
 ·exact rf_fin _ (fin_same _ _) ⟨rfl, rfl⟩
 exact rf_fin _ (fin_same _ _) ⟨rfl, rfl⟩

noncomputable def t_stamp_mode (a0 : Int) : Option Int :=
 (t_stamp_speed a0).bind fun r1 =>
 some (if (!r1.2.2) = true then 16 else 0)
theorem h_stamp_mode {a0 : Int} {σ : Heap} {r : Int} (h : t_stamp_mode a0 = some r) : m_stamp_mode [(AV.int .i64 a0)] σ = some ((AV.int .i64 r), σ) := by
 refine rf_wrap1 (f := r_stamp_mode) (y0 := (AV.int .i64 a0)) (enc := fun r : Int => (AV.int .i64 r)) (T := t_stamp_mode a0) rfl rfl ?_ r h
 unfold r_stamp_mode t_stamp_mode
 refine rf_o (fun r1 : (Int × Int × Bool) => ((AV.tup [(AV.int .i64 r1.1), (AV.int .i64 r1.2.1), (AV.bool r1.2.2)]), σ)) (fun r1 hr1 => h_stamp_speed hr1) (fun r1 hr1 => ?_)
 refine rf_s (AV.int .i64 r1.1) rfl ?_
 refine rf_s (AV.int .i64 r1.2.1) rfl ?_
 refine rf_s (AV.bool r1.2.2) rfl ?_
 refine rf_s (AV.bool (!r1.2.2)) rfl ?_
 refine rf_s ((AV.int .i64 (if (!r1.2.2) = true then 16 else 0)), σ) (When_eq (!r1.2.2) 16 σ) ?_
 exact rf_fin _ (fin_same _ _) ⟨rfl, rfl⟩

noncomputable def t_stamp_day (a0 : Int) : Option Int :=
 if a0 = 29 then
  some 2589408
 else
 some (IntKind.i64.wrap (86400 * a0))
theorem h_stamp_day {a0 : Int} {σ : Heap} {r : Int} (h : t_stamp_day a0 = some r) : m_stamp_day [(AV.int .i64 a0)] σ = some ((AV.int .i64 r), σ) := by
 refine rf_wrap1 (f := r_stamp_day) (y0 := (AV.int .i64 a0)) (enc := fun r : Int => (AV.int .i64 r)) (T := t_stamp_day a0) rfl rfl ?_ r h
 unfold r_stamp_day t_stamp_day
 refine rf_s (AV.bool (decide (a0 = 29))) (aEq _ _ _) ?_
 refine rf_c (p := a0 = 29) (fun c1 => ?_) (fun c1 => ?_)
 ·exact rf_fin _ (fin_same _ _) ⟨rfl, rfl⟩
 refine rf_s (AV.int .i64 (IntKind.i64.wrap (86400 * a0))) rfl ?_
 exact rf_fin _ (fin_same _ _) ⟨rfl, rfl⟩

noncomputable def t_stamp_cuesOf (a0 : SetupD) (a1 : Int) : Option (List CueD) :=
 forE a0.playbacks (fun (i8 : Nat) e7 (s1 : Unit) => (show Option (Lr Unit Unit (List CueD)) from
   forE a0.lists (fun (i16 : Nat) e15 (s9 : Unit) => (show Option (Lr Unit Unit (List CueD)) from
     if ((decide (e7.number = a1)) && (decide (e15.number = e7.list))) = true then
      some (.ret e15.cues)
     else
     some (.go ()))) (fun s9 => some ()) () (fun b10 =>
    some (.go ())) (fun b10 =>
    some (.ret b10)))) (fun s1 => some ()) () (fun b2 =>
  some ([])) (fun b2 =>
  some b2)
theorem h_stamp_cuesOf {a0 : SetupD} { a1 : Int} {σ : Heap} {r : (List CueD)} (h : t_stamp_cuesOf a0 a1 = some r) : m_stamp_cuesOf [(AV.agg (cSetup a0)), (AV.int .i64 a1)] σ = some ((sl 11 cCue r), σ) := by
 refine rf_wrap2 (f := r_stamp_cuesOf) (y0 := (AV.agg (cSetup a0))) (y1 := (AV.int .i64 a1)) (enc := fun r : (List CueD) => (sl 11 cCue r)) (T := t_stamp_cuesOf a0 a1) rfl rfl ?_ r h
 unfold r_stamp_cuesOf t_stamp_cuesOf
 refine rf_s (cSetup a0) rfl ?_
 refine rf_s (sl 3 cPlayback a0.playbacks) rfl ?_
 refine rf_s (AV.int .i64 (a0.playbacks.length : Int)) (lenS_sl _ _ _) ?_
 refine rf_for (B := Unit) (R := (List CueD)) (fun (i8 : Nat) (s1 : Unit) v w3 => ∃ u4, v = [(AV.lbx (cSetup a0)), u4, (AV.int .i64 (i8 : Int))] ∧ σ = w3) (fun (b2 : Unit) (q : LS) => ∃ u2 u4 u12, q = ((AX.exit 0), ([u2, u4, u12] : List AV), σ)) (fun (b2 : (List CueD)) (q : LS) => ∃ u2 u12, q = (AX.ret, ([u2, (sl 11 cCue b2), u12] : List AV), σ)) ?_ ?_ ⟨_, rfl, rfl⟩ ?_ ?_
 ·intro hle7 i8 e7 s1 v w3 he7 hI
  obtain ⟨u4, rfl, rfl⟩ := hI
  refine rf_s (AV.bool true) (ix_lt he7) ?_
  refine rf_ct ?_
  refine rf_s (AV.rp (cPlayback e7)) (ix_for he7) ?_
  refine rf_s (AV.agg (cPlayback e7)) rfl ?_
  refine rf_s (cPlayback e7) rfl ?_
  refine rf_s (cPlayback e7) (sp_cPlayback _ _ rfl) ?_
  refine rf_s _ rfl ?_
  refine rf_s (sl 2 cList a0.lists) rfl ?_
  refine rf_s (AV.int .i64 (a0.lists.length : Int)) (lenS_sl _ _ _) ?_
  refine rf_for (B := Unit) (R := (List CueD)) (fun (i16 : Nat) (s9 : Unit) v w11 => ∃ u4, v = [(AV.lbx (cSetup a0)), u4, (AV.lbx (cPlayback e7)), (AV.int .i64 (i16 : Int))] ∧ σ = w11) (fun (b10 : Unit) (q : LS) => ∃ u4 u6 u19, q = ((AX.exit 2), ([(AV.lbx (cSetup a0)), u4, u6, u19] : List AV), σ)) (fun (b10 : (List CueD)) (q : LS) => ∃ u2 u6 u19, q = (AX.ret, ([u2, (sl 11 cCue b10), u6, u19] : List AV), σ)) ?_ ?_ ⟨_, rfl, rfl⟩ ?_ ?_
  ·intro hle15 i16 e15 s9 v w11 he15 hI
   obtain ⟨u4, rfl, rfl⟩ := hI
   refine rf_s (AV.bool true) (ix_lt he15) ?_
   refine rf_ct ?_
   refine rf_s (AV.rp (cList e15)) (ix_for he15) ?_
   refine rf_s (AV.agg (cList e15)) rfl ?_
   refine rf_s (cList e15) rfl ?_
   refine rf_s (cList e15) (sp_cList _ _ rfl) ?_
   refine rf_s _ rfl ?_
   refine rf_s (AV.int .i64 e7.number) rfl ?_
   refine rf_s (AV.bool (decide (e7.number = a1))) (aEq _ _ _) ?_
   refine rf_gt (AV.int .i64 e15.number) (fun hg => rfl) ?_
   refine rf_s _ rfl ?_
   refine rf_gt (AV.int .i64 e7.list) (fun hg => rfl) ?_
   refine rf_gt (AV.bool (decide (e15.number = e7.list))) (fun hg => by
     simp only [hg, Bool.true_and, cond_true]; first | done | exact (aEq _ _ _)) ?_
   refine rf_s (AV.bool ((decide (e7.number = a1)) && (decide (e15.number = e7.list)))) (pk_and _ _) ?_
   refine rf_cb (c := ((decide (e7.number = a1)) && (decide (e15.number = e7.list)))) (fun c17 => ?_) (fun c17 => ?_)
   ·refine rf_s (sl 11 cCue e15.cues) rfl ?_
    exact rf_ret (rnd_ret (by simp) ⟨_, _, _, rfl⟩)
   refine rf_s (AV.int .i64 ((i16 + 1 : Nat) : Int)) (ix_inc he15 hle15) ?_
   exact rf_ret (rnd_go ⟨_, rfl, rfl⟩)
  ·intro hl s9 v w11 hI
   obtain ⟨u4, rfl, rfl⟩ := hI
   refine rf_s (AV.bool false) (ix_end _) ?_
   refine rf_cf ?_
   exact rf_ret ⟨by simp, ⟨_, _, _, rfl⟩⟩
  ·intro hl b10 q hq
   obtain ⟨u4, u6, u19, rfl⟩ := hq
   refine rf_bt rfl ?_
   refine rf_s (AV.int .i64 ((i8 + 1 : Nat) : Int)) (ix_inc he7 hle7) ?_
   exact rf_ret (rnd_go ⟨_, rfl, rfl⟩)
  ·intro hl b10 q hq
   obtain ⟨u2, u6, u19, rfl⟩ := hq
   refine rf_bf rfl ?_
   refine rf_bt rfl ?_
   exact rf_ret (rnd_ret (by simp) ⟨_, _, rfl⟩)
 ·intro hl s1 v w3 hI
  obtain ⟨u4, rfl, rfl⟩ := hI
  refine rf_s (AV.bool false) (ix_end _) ?_
  refine rf_cf ?_
  exact rf_ret ⟨by simp, ⟨_, _, _, rfl⟩⟩
 ·intro hl b2 q hq
  obtain ⟨u2, u4, u12, rfl⟩ := hq
  refine rf_bt rfl ?_
  exact rf_fin _ (fin_same _ _) ⟨(by first | rfl | exact nn_eNil _ _), rfl⟩
 ·intro hl b2 q hq
  obtain ⟨u2, u12, rfl⟩ := hq
  refine rf_bf rfl ?_
  refine rf_bt rfl ?_
  exact rf_fin _ (fin_same _ _) ⟨(nn_e (fun _ => rfl) _), rfl⟩

noncomputable def t_stamp_CheckEvents_fn1 (a0 : CueD) (a1 : ActionD) : Option Bool :=
 some (decide (a0.number = a1.cue))
theorem h_stamp_CheckEvents_fn1 {a0 : CueD} { a1 : ActionD} {σ : Heap} {r : Bool} (h : t_stamp_CheckEvents_fn1 a0 a1 = some r) : m_stamp_CheckEvents_fn1 [(AV.agg (cCue a0)), (AV.rp (cAction a1))] σ = some ((AV.bool r), σ) := by
 refine rf_wrap2 (f := r_stamp_CheckEvents_fn1) (y0 := (AV.agg (cCue a0))) (y1 := (AV.rp (cAction a1))) (enc := fun r : Bool => (AV.bool r)) (T := t_stamp_CheckEvents_fn1 a0 a1) rfl rfl ?_ r h
 unfold r_stamp_CheckEvents_fn1 t_stamp_CheckEvents_fn1
 refine rf_s (cCue a0) rfl ?_
 refine rf_s (AV.int .i64 a0.number) rfl ?_
 refine rf_s (AV.rp (List.drop 3 (cAction a1))) rfl ?_
 refine rf_s (AV.int .i64 a1.cue) rfl ?_
 refine rf_s (AV.bool (decide (a0.number = a1.cue))) (aEq _ _ _) ?_
 exact rf_fin _ (fin_same _ _) ⟨rfl, rfl⟩

noncomputable def t_stamp_CheckEvents (a0 : SetupD) (a1 : Int) (a2 : (List EventD)) : Option Int :=
 (t_play_CheckSetup a0).bind fun r1 =>
 (t_stamp_mode a1).bind fun r2 =>
 (tq (([r1, r2, (if (decide (2000 < (a2.length : Int))) = true then 2 else 0)] : (List Int)).length ≤ mxl) ((([r1, r2, (if (decide (2000 < (a2.length : Int))) = true then 2 else 0)] : (List Int)).find? fun n => decide (¬ n = 0)).getD 0)).bind fun r3 =>
 if ¬ (r3 = 0) then
  some r3
 else
 forE a2 (fun (i29 : Nat) e28 (s22 : Unit) => (show Option (Lr Unit Unit Int) from
   (t_stamp_day a1).bind fun r34 =>
   (if decide (0 < (i29 : Int)) = true then tIx a2 (IntKind.i64.wrap ((i29 : Int) - 1)) else some default).bind fun x35 =>
   (tq (([(if (!(withinB e28.att 0 (IntKind.i64.wrap (r34 - 1)))) = true then 1 else 0), (if ((decide (0 < (i29 : Int))) && (decide (e28.att < x35.att))) = true then 7 else 0)] : (List Int)).length ≤ mxl) ((([(if (!(withinB e28.att 0 (IntKind.i64.wrap (r34 - 1)))) = true then 1 else 0), (if ((decide (0 < (i29 : Int))) && (decide (e28.att < x35.att))) = true then 7 else 0)] : (List Int)).find? fun n => decide (¬ n = 0)).getD 0)).bind fun r36 =>
   (t_play_CheckFields e28.action).bind fun r37 =>
   (t_play_CheckRanges a0 e28.action).bind fun r38 =>
   (tq (([r36, r37, (if (decide (¬ (e28.action.time = 0))) = true then 3 else 0), r38] : (List Int)).length ≤ mxl) ((([r36, r37, (if (decide (¬ (e28.action.time = 0))) = true then 3 else 0), r38] : (List Int)).find? fun n => decide (¬ n = 0)).getD 0)).bind fun r39 =>
   if ¬ (r39 = 0) then
    some (.ret r39)
   else
   (if decide (e28.action.kind = 3) = true then t_stamp_cuesOf a0 e28.action.playback else some default).bind fun r40 =>
   (if decide (e28.action.kind = 3) = true then tq (r40.length ≤ mxl) (r40.any (fun x => (decide (x.number = e28.action.cue)))) else some default).bind fun r41 =>
   if ((decide (e28.action.kind = 3)) && (!r41)) = true then
    some (.ret 8)
   else
   some (.go ()))) (fun s22 => some ()) () (fun b23 =>
  some 0) (fun b23 =>
  some b23)
theorem h_stamp_CheckEvents {a0 : SetupD} { a1 : Int} { a2 : (List EventD)} {σ : Heap} {r : Int} (h : t_stamp_CheckEvents a0 a1 a2 = some r) : m_stamp_CheckEvents [(AV.agg (cSetup a0)), (AV.int .i64 a1), (sl 6 cEvent a2)] σ = some ((AV.int .i64 r), σ) := by
 refine rf_wrap3 (f := r_stamp_CheckEvents) (y0 := (AV.agg (cSetup a0))) (y1 := (AV.int .i64 a1)) (y2 := (sl 6 cEvent a2)) (enc := fun r : Int => (AV.int .i64 r)) (T := t_stamp_CheckEvents a0 a1 a2) rfl rfl ?_ r h
 unfold r_stamp_CheckEvents t_stamp_CheckEvents
 refine rf_s (cSetup a0) rfl ?_
 refine rf_s (AV.agg (cSetup a0)) rfl ?_
 refine rf_o (fun r1 : Int => ((AV.int .i64 r1), σ)) (fun r1 hr1 => h_play_CheckSetup hr1) (fun r1 hr1 => ?_)
 refine rf_o (fun r2 : Int => ((AV.int .i64 r2), σ)) (fun r2 hr2 => h_stamp_mode hr2) (fun r2 hr2 => ?_)
 refine rf_s (AV.int .i64 (a2.length : Int)) (lenS_sl _ _ _) ?_
 refine rf_s (AV.bool (decide (2000 < (a2.length : Int)))) rfl ?_
 refine rf_s ((AV.int .i64 (if (decide (2000 < (a2.length : Int))) = true then 2 else 0)), σ) (When_eq (decide (2000 < (a2.length : Int))) 2 σ) ?_
 refine rf_s (sl 1 cInt ([r1, r2, (if (decide (2000 < (a2.length : Int))) = true then 2 else 0)] : (List Int))) rfl ?_
 refine rf_o (fun r3 : Int => ((AV.int .i64 r3), σ)) (fun r3 hr3 => (tq_of (e := fun r : Int => ((AV.int .i64 r), σ)) (fun hs => First_eq ([r1, r2, (if (decide (2000 < (a2.length : Int))) = true then 2 else 0)] : (List Int)) hs σ)) hr3) (fun r3 hr3 => ?_)
 refine rf_s (AV.bool (decide (¬ (r3 = 0)))) (aNe _ _ _) ?_
 refine rf_c (p := ¬ (r3 = 0)) (fun c44 => ?_) (fun c44 => ?_)
 ·exact rf_fin _ (fin_same _ _) ⟨rfl, rfl⟩
 refine rf_s (AV.int .i64 (a2.length : Int)) (lenS_sl _ _ _) ?_
 have hp21 : Hp σ σ [] := hp_nil σ
 refine rf_for (B := Unit) (R := Int) (fun (i29 : Nat) (s22 : Unit) v w24 => v = [(AV.lbx (cSetup a0)), (AV.int .i64 0), (AV.int .i64 (i29 : Int))] ∧ Hp σ w24 []) (fun (b23 : Unit) (q : LS) => ∃ u3 u6 u27 w25, q = ((AX.exit 0), ([u3, u6, u27] : List AV), w25) ∧ Hp σ w25 []) (fun (b23 : Int) (q : LS) => ∃ u3 u27 w25, q = (AX.ret, ([u3, (AV.int .i64 b23), u27] : List AV), w25) ∧ Hp σ w25 []) ?_ ?_ ⟨rfl, hp21⟩ ?_ ?_
 ·intro hle28 i29 e28 s22 v w24 he28 hI
  obtain ⟨rfl, hp26⟩ := hI
  refine rf_s (AV.bool true) (ix_lt he28) ?_
  refine rf_ct ?_
  refine rf_s (AV.rp (cEvent e28)) (ix_for he28) ?_
  refine rf_s (AV.agg (cEvent e28)) rfl ?_
  refine rf_s (cEvent e28) rfl ?_
  refine rf_s (cEvent e28) (sp_cEvent _ _ rfl) ?_
  refine rf_s (AV.agg (cAction e28.action)) rfl ?_
  have hp30 : Hp σ (w24 ++ [Blk.box [(AV.int .i64 0), (AV.int .i64 0), (AV.int .i64 0), (AV.int .i64 0), (AV.int .i64 0)]]) [((AV.op w24.length 0), (Ct.b (cAction (⟨0, 0, 0, 0, 0⟩ : ActionD))))] := hp_op hp26 _
  refine rf_s (cAction e28.action) rfl ?_
  obtain ⟨w31, e33, hp32⟩ := hp_boxset (cs' := (cAction e28.action)) hp30 0 rfl 0 (by first | rfl | exact sp_cAction _ _ rfl)
  change Hp σ w31 [((AV.op w24.length 0), (Ct.b (cAction e28.action)))] at hp32
  refine rf_s w31 e33 ?_
  refine rf_s (AV.int .i64 e28.att) rfl ?_
  refine rf_o (fun r34 : Int => (AV.int .i64 r34)) (fun r34 hr34 => (quiet_of (h_stamp_day hr34))) (fun r34 hr34 => ?_)
  refine rf_s (AV.int .i64 (IntKind.i64.wrap (r34 - 1))) rfl ?_
  refine rf_s (AV.bool (withinB e28.att 0 (IntKind.i64.wrap (r34 - 1)))) (quiet_of (Within_eq e28.att 0 (IntKind.i64.wrap (r34 - 1)) w31)) ?_
  refine rf_s (AV.bool (!(withinB e28.att 0 (IntKind.i64.wrap (r34 - 1))))) rfl ?_
  refine rf_s (AV.int .i64 (if (!(withinB e28.att 0 (IntKind.i64.wrap (r34 - 1)))) = true then 1 else 0)) (quiet_of (When_eq (!(withinB e28.att 0 (IntKind.i64.wrap (r34 - 1)))) 1 w31)) ?_
  refine rf_s (AV.bool (decide (0 < (i29 : Int)))) rfl ?_
  refine rf_gt (AV.int .i64 e28.att) (fun hg => rfl) ?_
  refine rf_gt (sl 6 cEvent a2) (fun hg => rfl) ?_
  refine rf_gt (AV.int .i64 (i29 : Int)) (fun hg => rfl) ?_
  refine rf_gt (AV.int .i64 (IntKind.i64.wrap ((i29 : Int) - 1))) (fun hg => by
    simp only [hg, Bool.true_and, cond_true]; first | done | exact rfl) ?_
  refine rf_gto (ω := EventD) (fun x35 => (AV.rp (cEvent x35))) (fun hg x35 hx35 => by
    simp only [hg, Bool.true_and, cond_true]; first | done | exact ix_at hx35) (fun x35 hx35 => ?_)
  refine rf_gt (AV.rp (cEvent x35)) (fun hg => by
    simp only [hg, Bool.true_and, cond_true]; first | done | exact rfl) ?_
  refine rf_gt (AV.int .i64 x35.att) (fun hg => by
    simp only [hg, Bool.true_and, cond_true]; first | done | exact rfl) ?_
  refine rf_gt (AV.bool (decide (e28.att < x35.att))) (fun hg => by
    simp only [hg, Bool.true_and, cond_true]; first | done | exact rfl) ?_
  refine rf_s (AV.bool ((decide (0 < (i29 : Int))) && (decide (e28.att < x35.att)))) (pk_and _ _) ?_
  refine rf_s (AV.int .i64 (if ((decide (0 < (i29 : Int))) && (decide (e28.att < x35.att))) = true then 7 else 0)) (quiet_of (When_eq ((decide (0 < (i29 : Int))) && (decide (e28.att < x35.att))) 7 w31)) ?_
  refine rf_s (sl 1 cInt ([(if (!(withinB e28.att 0 (IntKind.i64.wrap (r34 - 1)))) = true then 1 else 0), (if ((decide (0 < (i29 : Int))) && (decide (e28.att < x35.att))) = true then 7 else 0)] : (List Int))) rfl ?_
  refine rf_o (fun r36 : Int => (AV.int .i64 r36)) (fun r36 hr36 => (quiet_of ((tq_of (e := fun r : Int => ((AV.int .i64 r), w31)) (fun hs => First_eq ([(if (!(withinB e28.att 0 (IntKind.i64.wrap (r34 - 1)))) = true then 1 else 0), (if ((decide (0 < (i29 : Int))) && (decide (e28.att < x35.att))) = true then 7 else 0)] : (List Int)) hs w31)) hr36))) (fun r36 hr36 => ?_)
  refine rf_s (AV.agg (cAction e28.action)) (by rw [hp_box hp32 0 rfl]; rfl) ?_
  refine rf_o (fun r37 : Int => (AV.int .i64 r37)) (fun r37 hr37 => (quiet_of (h_play_CheckFields hr37))) (fun r37 hr37 => ?_)
  refine rf_s (AV.op w24.length 0) rfl ?_
  refine rf_s (AV.int .i64 e28.action.time) (by rw [hp_box hp32 0 rfl]; rfl) ?_
  refine rf_s (AV.bool (decide (¬ (e28.action.time = 0)))) (aNe _ _ _) ?_
  refine rf_s (AV.int .i64 (if (decide (¬ (e28.action.time = 0))) = true then 3 else 0)) (quiet_of (When_eq (decide (¬ (e28.action.time = 0))) 3 w31)) ?_
  refine rf_s (AV.agg (cSetup a0)) rfl ?_
  refine rf_s (AV.agg (cAction e28.action)) (by rw [hp_box hp32 0 rfl]; rfl) ?_
  refine rf_o (fun r38 : Int => (AV.int .i64 r38)) (fun r38 hr38 => (quiet_of (h_play_CheckRanges hr38))) (fun r38 hr38 => ?_)
  refine rf_s (sl 1 cInt ([r36, r37, (if (decide (¬ (e28.action.time = 0))) = true then 3 else 0), r38] : (List Int))) rfl ?_
  refine rf_o (fun r39 : Int => (AV.int .i64 r39)) (fun r39 hr39 => (quiet_of ((tq_of (e := fun r : Int => ((AV.int .i64 r), w31)) (fun hs => First_eq ([r36, r37, (if (decide (¬ (e28.action.time = 0))) = true then 3 else 0), r38] : (List Int)) hs w31)) hr39))) (fun r39 hr39 => ?_)
  refine rf_s (AV.bool (decide (¬ (r39 = 0)))) (aNe _ _ _) ?_
  refine rf_c (p := ¬ (r39 = 0)) (fun c43 => ?_) (fun c43 => ?_)
  ·exact rf_ret (rnd_ret (by simp) ⟨_, _, _, rfl, (hp_weak hp32)⟩)
  refine rf_s (AV.op w24.length 1) rfl ?_
  refine rf_s (AV.int .i64 e28.action.kind) (by rw [hp_box hp32 0 rfl]; rfl) ?_
  refine rf_s (AV.bool (decide (e28.action.kind = 3))) (aEq _ _ _) ?_
  refine rf_gt (AV.agg (cSetup a0)) (fun hg => rfl) ?_
  refine rf_gt (AV.op w24.length 2) (fun hg => rfl) ?_
  refine rf_gt (AV.int .i64 e28.action.playback) (fun hg => by
    simp only [hg, Bool.true_and, cond_true]; first | done | exact (by rw [hp_box hp32 0 rfl]; rfl)) ?_
  refine rf_gto (ω := (List CueD)) (fun r40 => (sl 11 cCue r40)) (fun hg r40 hr40 => by
    simp only [hg, Bool.true_and, cond_true]; first | done | exact (quiet_of (h_stamp_cuesOf hr40))) (fun r40 hr40 => ?_)
  refine rf_gt (AV.fn 157 [(AV.op w24.length 0)]) (fun hg => rfl) ?_
  refine rf_gto (ω := Bool) (fun r41 => (AV.bool r41)) (fun hg r41 hr41 => by
    simp only [hg, Bool.true_and, cond_true]; first | done | exact (quiet_of ((tq_of (e := fun r : Bool => ((AV.bool r), w31)) (fun hs => m_slices_ContainsFunc_api_Cue_eq _ r40 hs _ _ (fun x => (decide (x.number = e28.action.cue))) w31 (fun x hx => cap_own hp32 0 rfl (fz_cAction _) (fz_agg (fz_cCue _)) rfl rfl (h_stamp_CheckEvents_fn1 (σ := []) (r := (decide (x.number = e28.action.cue))) rfl)))) hr41))) (fun r41 hr41 => ?_)
  refine rf_gt (AV.bool (!r41)) (fun hg => by
    simp only [hg, Bool.true_and, cond_true]; first | done | exact rfl) ?_
  refine rf_s (AV.bool ((decide (e28.action.kind = 3)) && (!r41))) (pk_and _ _) ?_
  refine rf_cb (c := ((decide (e28.action.kind = 3)) && (!r41))) (fun c42 => ?_) (fun c42 => ?_)
  ·exact rf_ret (rnd_ret (by simp) ⟨_, _, _, rfl, (hp_weak hp32)⟩)
  refine rf_s (AV.int .i64 ((i29 + 1 : Nat) : Int)) (ix_inc he28 hle28) ?_
  exact rf_ret (rnd_go ⟨rfl, (hp_take hp32 0)⟩)
 ·intro hl s22 v w24 hI
  obtain ⟨rfl, hp26⟩ := hI
  refine rf_s (AV.bool false) (ix_end _) ?_
  refine rf_cf ?_
  exact rf_ret ⟨by simp, ⟨_, _, _, _, rfl, hp26⟩⟩
 ·intro hl b23 q hq
  obtain ⟨u3, u6, u27, w25, rfl, hp27⟩ := hq
  refine rf_bt rfl ?_
  exact rf_fin _ (hp_fin hp27 (fzv_fz (fz_int _ _))) ⟨rfl, rfl⟩
 ·intro hl b23 q hq
  obtain ⟨u3, u27, w25, rfl, hp27⟩ := hq
  refine rf_bf rfl ?_
  refine rf_bt rfl ?_
  exact rf_fin _ (hp_fin hp27 (fzv_fz (fz_int _ _))) ⟨rfl, rfl⟩

noncomputable def t_stamp_due (a0 : SetupD) (a1 : Int) (a2 : (List EventD)) (a3 : Int) (a4 : Int) : Option ((List EventD) × Int) :=
 (t_stamp_CheckEvents a0 a1 a2).bind fun r1 =>
 (if ((decide (0 ≤ a3)) && (decide (a3 ≤ a4))) = true then t_stamp_day a1 else some default).bind fun r2 =>
 (tq (([r1, (if (!(((decide (0 ≤ a3)) && (decide (a3 ≤ a4))) && (decide (a4 ≤ r2)))) = true then 1 else 0)] : (List Int)).length ≤ mxl) ((([r1, (if (!(((decide (0 ≤ a3)) && (decide (a3 ≤ a4))) && (decide (a4 ≤ r2)))) = true then 1 else 0)] : (List Int)).find? fun n => decide (¬ n = 0)).getD 0)).bind fun r3 =>
 if ¬ (r3 = 0) then
  some ([], r3)
 else
 forE a2 (fun (i13 : Nat) e12 (s6 : (List EventD)) => (show Option (Lr (List EventD) (List EventD) Unit) from
   (show Option (List EventD) from
     if ((decide (a3 ≤ e12.att)) && (decide (e12.att < a4))) = true then
      if s6.length + ([e12] : (List EventD)).length ≤ 2932031007402 then
      some (s6 ++ ([e12] : (List EventD)))
      else none
     else
     some s6).bind fun j19 =>
   some (.go j19))) (fun s6 => some s6) ([] : List EventD) (fun b7 =>
  some (b7, 0)) (fun b7 =>
  none)
theorem h_stamp_due {a0 : SetupD} { a1 : Int} { a2 : (List EventD)} { a3 : Int} { a4 : Int} {σ : Heap} {r : ((List EventD) × Int)} (h : t_stamp_due a0 a1 a2 a3 a4 = some r) : m_stamp_due [(AV.agg (cSetup a0)), (AV.int .i64 a1), (sl 6 cEvent a2), (AV.int .i64 a3), (AV.int .i64 a4)] σ = some ((AV.tup [(sl 6 cEvent r.1), (AV.int .i64 r.2)]), σ) := by
 refine rf_wrap5 (f := r_stamp_due) (y0 := (AV.agg (cSetup a0))) (y1 := (AV.int .i64 a1)) (y2 := (sl 6 cEvent a2)) (y3 := (AV.int .i64 a3)) (y4 := (AV.int .i64 a4)) (enc := fun r : ((List EventD) × Int) => (AV.tup [(sl 6 cEvent r.1), (AV.int .i64 r.2)])) (T := t_stamp_due a0 a1 a2 a3 a4) rfl rfl ?_ r h
 unfold r_stamp_due t_stamp_due
 refine rf_s (cSetup a0) rfl ?_
 refine rf_s (AV.agg (cSetup a0)) rfl ?_
 refine rf_o (fun r1 : Int => ((AV.int .i64 r1), σ)) (fun r1 hr1 => h_stamp_CheckEvents hr1) (fun r1 hr1 => ?_)
 refine rf_s (AV.bool (decide (0 ≤ a3))) rfl ?_
 refine rf_gt (AV.int .i64 a3) (fun hg => rfl) ?_
 refine rf_gt (AV.int .i64 a4) (fun hg => rfl) ?_
 refine rf_gt (AV.bool (decide (a3 ≤ a4))) (fun hg => by
   simp only [hg, Bool.true_and, cond_true]; first | done | exact rfl) ?_
 refine rf_s (AV.bool ((decide (0 ≤ a3)) && (decide (a3 ≤ a4)))) (pk_and _ _) ?_
 refine rf_gt (AV.int .i64 a4) (fun hg => rfl) ?_
 refine rf_gt (AV.int .i64 a1) (fun hg => rfl) ?_
 refine rf_gto (ω := Int) (fun r2 => (AV.int .i64 r2)) (fun hg r2 hr2 => by
   simp only [hg, Bool.true_and, cond_true]; first | done | exact (quiet_of (h_stamp_day hr2))) (fun r2 hr2 => ?_)
 refine rf_gt (AV.bool (decide (a4 ≤ r2))) (fun hg => by
   simp only [hg, Bool.true_and, cond_true]; first | done | exact rfl) ?_
 refine rf_s (AV.bool (((decide (0 ≤ a3)) && (decide (a3 ≤ a4))) && (decide (a4 ≤ r2)))) (pk_and _ _) ?_
 refine rf_s (AV.bool (!(((decide (0 ≤ a3)) && (decide (a3 ≤ a4))) && (decide (a4 ≤ r2))))) rfl ?_
 refine rf_s ((AV.int .i64 (if (!(((decide (0 ≤ a3)) && (decide (a3 ≤ a4))) && (decide (a4 ≤ r2)))) = true then 1 else 0)), σ) (When_eq (!(((decide (0 ≤ a3)) && (decide (a3 ≤ a4))) && (decide (a4 ≤ r2)))) 1 σ) ?_
 refine rf_s (sl 1 cInt ([r1, (if (!(((decide (0 ≤ a3)) && (decide (a3 ≤ a4))) && (decide (a4 ≤ r2)))) = true then 1 else 0)] : (List Int))) rfl ?_
 refine rf_o (fun r3 : Int => ((AV.int .i64 r3), σ)) (fun r3 hr3 => (tq_of (e := fun r : Int => ((AV.int .i64 r), σ)) (fun hs => First_eq ([r1, (if (!(((decide (0 ≤ a3)) && (decide (a3 ≤ a4))) && (decide (a4 ≤ r2)))) = true then 1 else 0)] : (List Int)) hs σ)) hr3) (fun r3 hr3 => ?_)
 refine rf_s (AV.bool (decide (¬ (r3 = 0)))) (aNe _ _ _) ?_
 refine rf_c (p := ¬ (r3 = 0)) (fun c22 => ?_) (fun c22 => ?_)
 ·exact rf_fin _ (fin_same _ _) ⟨(nn_t (nn_t1 (by first | rfl | exact nn_eNil _ _) (nn_t1 rfl nn_t0))), rfl⟩
 refine rf_s (AV.int .i64 (a2.length : Int)) (lenS_sl _ _ _) ?_
 have hp4 : Hp σ σ [] := hp_nil σ
 have hp5 : Hp σ σ [(AV.nsl, (Ct.s 6 (List.map cEvent ([] : List EventD))))] := hp_nsl hp4 6
 refine rf_for (B := (List EventD)) (R := Unit) (fun (i13 : Nat) (s6 : (List EventD)) v w8 => ∃ hh0, v = [hh0, (AV.int .i64 (i13 : Int))] ∧ Hp σ w8 [(hh0, (Ct.s 6 (List.map cEvent s6)))]) (fun (b7 : (List EventD)) (q : LS) => ∃ u42 hh0 w9, q = ((AX.exit 0), ([hh0, u42] : List AV), w9) ∧ Hp σ w9 [(hh0, (Ct.s 6 (List.map cEvent b7)))]) (fun (b7 : Unit) (q : LS) => False) ?_ ?_ ⟨_, rfl, hp5⟩ ?_ ?_
 ·intro hle12 i13 e12 s6 v w8 he12 hI
  obtain ⟨hh0, rfl, hp10⟩ := hI
  refine rf_s (AV.bool true) (ix_lt he12) ?_
  refine rf_ct ?_
  refine rf_s (AV.rp (cEvent e12)) (ix_for he12) ?_
  refine rf_s (AV.agg (cEvent e12)) rfl ?_
  refine rf_s (cEvent e12) rfl ?_
  refine rf_s (cEvent e12) (sp_cEvent _ _ rfl) ?_
  refine rf_s (AV.int .i64 e12.att) rfl ?_
  refine rf_s (AV.bool (decide (a3 ≤ e12.att))) rfl ?_
  refine rf_gt (AV.int .i64 e12.att) (fun hg => rfl) ?_
  refine rf_gt (AV.int .i64 a4) (fun hg => rfl) ?_
  refine rf_gt (AV.bool (decide (e12.att < a4))) (fun hg => by
    simp only [hg, Bool.true_and, cond_true]; first | done | exact rfl) ?_
  refine rf_s (AV.bool ((decide (a3 ≤ e12.att)) && (decide (e12.att < a4)))) (pk_and _ _) ?_
  refine rf_b (ω := (List EventD)) (fun j19 a => ∃ hh0 w20, a = (([hh0] : List AV), w20) ∧ Hp σ w20 [(hh0, (Ct.s 6 (List.map cEvent j19)))]) (
    by
     refine rf_cb (c := ((decide (a3 ≤ e12.att)) && (decide (e12.att < a4)))) (fun c18 => ?_) (fun c18 => ?_)
     ·refine rf_s (AV.agg (cEvent e12)) rfl ?_
      refine rf_s (sl 6 cEvent ([e12] : (List EventD))) rfl ?_
      refine rf_tq (fun hm => ?_)
      obtain ⟨h17, w14, e16, hp15⟩ := hp_appT (c := cEvent) (ys := ([e12] : (List EventD))) (most := 2932031007402) hp10 0 rfl hm
      change Hp σ w14 [(h17, (Ct.s 6 (List.map cEvent (s6 ++ ([e12] : (List EventD))))))] at hp15
      refine rf_s (h17, w14) e16 ?_
      exact rf_ret ⟨_, _, rfl, hp15⟩
     exact rf_ret ⟨_, _, rfl, hp10⟩
    ) (fun j19 a ha => ?_)
  obtain ⟨hh0, w20, rfl, hp21⟩ := ha
  refine rf_s (AV.int .i64 ((i13 + 1 : Nat) : Int)) (ix_inc he12 hle12) ?_
  exact rf_ret (rnd_go ⟨_, rfl, hp21⟩)
 ·intro hl s6 v w8 hI
  obtain ⟨hh0, rfl, hp10⟩ := hI
  refine rf_s (AV.bool false) (ix_end _) ?_
  refine rf_cf ?_
  exact rf_ret ⟨by simp, ⟨_, _, _, rfl, hp10⟩⟩
 ·intro hl b7 q hq
  obtain ⟨u42, hh0, w9, rfl, hp11⟩ := hq
  refine rf_bt rfl ?_
  obtain ⟨ra0, fa0, fb0⟩ := fzv_own (c := cEvent) (l := b7) hp11 (k := 0) rfl fz_cEvent
  exact rf_fin _ (hp_fin hp11 (fzv_tup (fzvL_cons fa0 (fzvL_cons (fzv_fz (fz_int _ _)) fzvL_nil)))) ⟨(nn_t (nn_t1 (nn_own' fb0) (nn_t1 rfl nn_t0))), rfl⟩
 ·intro hl b7 q hq
  exact False.elim hq

noncomputable def t_stamp_Due (a0 : SetupD) (a1 : Int) (a2 : (List EventD)) (a3 : Int) (a4 : Int) : Option ((List EventD) × Int) :=
 (t_stamp_due a0 a1 a2 a3 a4).bind fun r1 =>
 some (r1.1, r1.2)
theorem h_stamp_Due {a0 : SetupD} { a1 : Int} { a2 : (List EventD)} { a3 : Int} { a4 : Int} {σ : Heap} {r : ((List EventD) × Int)} (h : t_stamp_Due a0 a1 a2 a3 a4 = some r) : m_stamp_Due [(AV.agg (cSetup a0)), (AV.int .i64 a1), (sl 6 cEvent a2), (AV.int .i64 a3), (AV.int .i64 a4)] σ = some ((AV.tup [(sl 6 cEvent r.1), (AV.int .i64 r.2)]), σ) := by
 refine rf_wrap5 (f := r_stamp_Due) (y0 := (AV.agg (cSetup a0))) (y1 := (AV.int .i64 a1)) (y2 := (sl 6 cEvent a2)) (y3 := (AV.int .i64 a3)) (y4 := (AV.int .i64 a4)) (enc := fun r : ((List EventD) × Int) => (AV.tup [(sl 6 cEvent r.1), (AV.int .i64 r.2)])) (T := t_stamp_Due a0 a1 a2 a3 a4) rfl rfl ?_ r h
 unfold r_stamp_Due t_stamp_Due
 refine rf_s (cSetup a0) rfl ?_
 refine rf_s (AV.agg (cSetup a0)) rfl ?_
 refine rf_o (fun r1 : ((List EventD) × Int) => ((AV.tup [(sl 6 cEvent r1.1), (AV.int .i64 r1.2)]), σ)) (fun r1 hr1 => h_stamp_due hr1) (fun r1 hr1 => ?_)
 refine rf_s (sl 6 cEvent r1.1) rfl ?_
 refine rf_s (AV.int .i64 r1.2) rfl ?_
 exact rf_fin _ (fin_same _ _) ⟨(nn_t (nn_t1 rfl (nn_t1 rfl nn_t0))), rfl⟩

noncomputable def t_stamp_Day (a0 : Int) : Option (Int × Int) :=
 (t_stamp_mode a0).bind fun r1 =>
 if ¬ (r1 = 0) then
  some (0, r1)
 else
 (t_stamp_day a0).bind fun r2 =>
 some (r2, 0)
theorem h_stamp_Day {a0 : Int} {σ : Heap} {r : (Int × Int)} (h : t_stamp_Day a0 = some r) : m_stamp_Day [(AV.int .i64 a0)] σ = some ((AV.tup [(AV.int .i64 r.1), (AV.int .i64 r.2)]), σ) := by
 refine rf_wrap1 (f := r_stamp_Day) (y0 := (AV.int .i64 a0)) (enc := fun r : (Int × Int) => (AV.tup [(AV.int .i64 r.1), (AV.int .i64 r.2)])) (T := t_stamp_Day a0) rfl rfl ?_ r h
 unfold r_stamp_Day t_stamp_Day
 refine rf_o (fun r1 : Int => ((AV.int .i64 r1), σ)) (fun r1 hr1 => h_stamp_mode hr1) (fun r1 hr1 => ?_)
 refine rf_s (AV.bool (decide (¬ (r1 = 0)))) (aNe _ _ _) ?_
 refine rf_c (p := ¬ (r1 = 0)) (fun c3 => ?_) (fun c3 => ?_)
 ·exact rf_fin _ (fin_same _ _) ⟨rfl, rfl⟩
 refine rf_o (fun r2 : Int => ((AV.int .i64 r2), σ)) (fun r2 hr2 => h_stamp_day hr2) (fun r2 hr2 => ?_)
 exact rf_fin _ (fin_same _ _) ⟨rfl, rfl⟩

noncomputable def t_slices_Equal_api_Event (a0 : (List EventD)) (a1 : (List EventD)) : Option Bool :=
 if ¬ ((a0.length : Int) = (a1.length : Int)) then
  some false
 else
 forE a0 (fun (i8 : Nat) e7 (s1 : Unit) => (show Option (Lr Unit Unit Unit) from
   (tIx a1 (i8 : Int)).bind fun x9 =>
   if ¬ (e7 = x9) then
    some (.ret ())
   else
   some (.go ()))) (fun s1 => some ()) () (fun b2 =>
  some true) (fun b2 =>
  some false)
theorem h_slices_Equal_api_Event {a0 : (List EventD)} { a1 : (List EventD)} {σ : Heap} {r : Bool} (h : t_slices_Equal_api_Event a0 a1 = some r) : m_slices_Equal_api_Event [(sl 6 cEvent a0), (sl 6 cEvent a1)] σ = some ((AV.bool r), σ) := by
 refine rf_wrap2 (f := r_slices_Equal_api_Event) (y0 := (sl 6 cEvent a0)) (y1 := (sl 6 cEvent a1)) (enc := fun r : Bool => (AV.bool r)) (T := t_slices_Equal_api_Event a0 a1) rfl rfl ?_ r h
 unfold r_slices_Equal_api_Event t_slices_Equal_api_Event
 refine rf_s (AV.int .i64 (a0.length : Int)) (lenS_sl _ _ _) ?_
 refine rf_s (AV.int .i64 (a1.length : Int)) (lenS_sl _ _ _) ?_
 refine rf_s (AV.bool (decide (¬ ((a0.length : Int) = (a1.length : Int))))) (aNe _ _ _) ?_
 refine rf_c (p := ¬ ((a0.length : Int) = (a1.length : Int))) (fun c11 => ?_) (fun c11 => ?_)
 ·exact rf_fin _ (fin_same _ _) ⟨rfl, rfl⟩
 refine rf_s (AV.int .i64 (a0.length : Int)) (lenS_sl _ _ _) ?_
 refine rf_for (B := Unit) (R := Unit) (fun (i8 : Nat) (s1 : Unit) v w3 => v = [(AV.bool false), (AV.int .i64 (i8 : Int))] ∧ σ = w3) (fun (b2 : Unit) (q : LS) => ∃ u4 u13, q = ((AX.exit 0), ([u4, u13] : List AV), σ)) (fun (b2 : Unit) (q : LS) => ∃ u13, q = (AX.ret, ([(AV.bool false), u13] : List AV), σ)) ?_ ?_ ⟨rfl, rfl⟩ ?_ ?_
 ·intro hle7 i8 e7 s1 v w3 he7 hI
  obtain ⟨rfl, rfl⟩ := hI
  refine rf_s (AV.bool true) (ix_lt he7) ?_
  refine rf_ct ?_
  refine rf_s (AV.rp (cEvent e7)) (ix_for he7) ?_
  refine rf_s (AV.agg (cEvent e7)) rfl ?_
  refine rf_o (fun x9 : EventD => (AV.rp (cEvent x9))) (fun x9 hx9 => ix_at hx9) (fun x9 hx9 => ?_)
  refine rf_s (AV.agg (cEvent x9)) rfl ?_
  refine rf_s (AV.bool (decide (¬ (e7 = x9)))) (ne_Event _ _) ?_
  refine rf_c (p := ¬ (e7 = x9)) (fun c10 => ?_) (fun c10 => ?_)
  ·exact rf_ret (rnd_ret (by simp) ⟨_, rfl⟩)
  refine rf_s (AV.int .i64 ((i8 + 1 : Nat) : Int)) (ix_inc he7 hle7) ?_
  exact rf_ret (rnd_go ⟨rfl, rfl⟩)
 ·intro hl s1 v w3 hI
  obtain ⟨rfl, rfl⟩ := hI
  refine rf_s (AV.bool false) (ix_end _) ?_
  refine rf_cf ?_
  exact rf_ret ⟨by simp, ⟨_, _, rfl⟩⟩
 ·intro hl b2 q hq
  obtain ⟨u4, u13, rfl⟩ := hq
  refine rf_bt rfl ?_
  exact rf_fin _ (fin_same _ _) ⟨rfl, rfl⟩
 ·intro hl b2 q hq
  obtain ⟨u13, rfl⟩ := hq
  refine rf_bf rfl ?_
  refine rf_bt rfl ?_
  exact rf_fin _ (fin_same _ _) ⟨rfl, rfl⟩
end Go.Proofs.Ytohbeolimnpehaa

namespace Go.Proofs.Ytohbeolimnpehaa
set_option linter.unusedSectionVars false
set_option linter.unusedVariables false
set_option linter.unusedSimpArgs false
section
variable {α γ R S B : Type}
theorem forE_some {q : α → Option R} {l : List α} {body : Nat → α → Unit → Option (Lr Unit Unit R)} {fin : Unit → Option Unit} {s : Unit} {K1 : Unit → Option γ} {K2 : R → Option γ} (hl : l.length ≤ mxl) (hb : ∀ i x, l[i]? = some x → body i x () = some (match q x with | some r => .ret r | none => .go ())) (hf : fin () = some () := by rfl) : forE l body fin s K1 K2 = match l.findSome? q with | some r => K2 r | none => K1 () := by
 rw [forE_le hl]
 have key : ∀ (rest pre : List α), l = pre ++ rest → forL body fin rest pre.length () = some (match rest.findSome? q with | some r => .inr r | none => .inl ()) := by
  intro rest
  induction rest with
  | nil => intro pre _; simp [forL, hf]
  | cons x rest ih =>
   intro pre hp
   rw [forL, hb pre.length x (by rw [hp]; simp), Option.bind_some, List.findSome?_cons]
   cases h : q x
   ·have := ih (pre ++ [x]) (by simpa using hp)
    simpa using this
   ·simp only
 have k := key l [] rfl
 rw [List.length_nil] at k
 rw [show s = () from rfl, k, Option.bind_some]
 cases l.findSome? q <;> rfl
end
end Go.Proofs.Ytohbeolimnpehaa

namespace Go.Proofs.Ytohbeolimnpehaa
set_option linter.unusedSectionVars false
set_option linter.unusedVariables false
set_option linter.unusedSimpArgs false
def cntF (r : Int) : Int := if r = 24 then 24 else if r = 25 then 25 else if r = 30 then 30 else if r = 29 then 30 else 0
def modeF (r : Int) : Int := if cntF r = 0 then 16 else 0
def dayF (r : Int) : Int := if r = 29 then 2589408 else 86400 * cntF r
theorem mode_t (r : Int) : t_stamp_mode r = some (modeF r) := by
 unfold t_stamp_mode t_stamp_speed modeF cntF
 by_cases h1 : r = 24
 ·subst h1; rfl
 by_cases h2 : r = 25
 ·subst h2; rfl
 by_cases h3 : r = 30
 ·subst h3; rfl
 by_cases h4 : r = 29
 ·subst h4; rfl
 simp [h1, h2, h3, h4]
theorem rate_cases {r : Int} (h : cntF r ≠ 0) : r = 24 ∨ r = 25 ∨ r = 30 ∨ r = 29 := by
 unfold cntF at h
 by_cases h1 : r = 24
 ·exact .inl h1
 by_cases h2 : r = 25
 ·exact .inr (.inl h2)
 by_cases h3 : r = 30
 ·exact .inr (.inr (.inl h3))
 by_cases h4 : r = 29
 ·exact .inr (.inr (.inr h4))
 simp [h1, h2, h3, h4] at h
theorem day_t {r : Int} (h : cntF r ≠ 0) : t_stamp_day r = some (dayF r) := by
 rcases rate_cases h with rfl | rfl | rfl | rfl <;> rfl
theorem Day_t (r : Int) : t_stamp_Day r = some (if modeF r = 0 then dayF r else 0, modeF r) := by
 unfold t_stamp_Day
 simp only [mode_t, Option.bind_some]
 by_cases h : cntF r = 0
 ·simp [modeF, h]
 ·simp [modeF, h, day_t h]
def fieldsF (a : ActionD) : Int :=
 if (!(withinB a.kind 1 9)) = true then 4
 else if (((((decide (a.kind = 8)) || (decide (a.kind = 9))) && (decide (¬ (a.playback = 0)))) || ((decide (¬ (a.kind = 3))) && (decide (¬ (a.cue = 0))))) || ((decide (¬ (6 ≤ a.kind))) && (decide (¬ (a.level = 0))))) = true then 3 else 0
theorem CheckFields_t (a : ActionD) : t_play_CheckFields a = some (fieldsF a) := by
 unfold t_play_CheckFields fieldsF
 by_cases h : withinB a.kind 1 9 = true
 case neg => simp [h]
 have hk : 1 ≤ a.kind ∧ a.kind ≤ 9 := by simpa [withinB] using h
 have e : (!((((decide (a.kind = 8)) || (decide (a.kind = 9))) || (decide (a.kind = 6))) || (decide (a.kind = 7)))) = decide (¬ (6 ≤ a.kind)) := by
  rw [Bool.eq_iff_iff]
  simp only [Bool.not_eq_true', Bool.or_eq_false_iff, decide_eq_false_iff_not, decide_eq_true_eq]
  omega
 simp only [h, Bool.not_true, Bool.false_eq_true, if_false, e, ite_pure]
def levelFormF (a : ActionD) : Int :=
 if (((decide (a.kind = 7)) || (decide (a.kind = 8))) && (!(withinB a.level 0 65535))) = true then 1
 else if ((decide (a.kind = 6)) && (!(withinB a.level 0 36000000))) = true then 1
 else if ((decide (a.kind = 9)) && (!(withinB a.level 0 1))) = true then 1 else 0
def hasPlay (s : SetupD) (n : Int) : Bool := s.playbacks.any fun x => decide (x.number = n)
def mostF (k : Int) : Int := if k = 6 then 36000000 else if k = 9 then 1 else 65535
def rangesPF (s : SetupD) (a : ActionD) : Int :=
 if (!((decide (a.kind = 8)) || (decide (a.kind = 9))) && !hasPlay s a.playback) = true then 8 else if (!(withinB a.level 0 (mostF a.kind))) = true then 1 else 0
theorem CheckRanges_t (s : SetupD) (hs : s.playbacks.length ≤ mxl) (a : ActionD) : t_play_CheckRanges s a = some (rangesPF s a) := by
 unfold t_play_CheckRanges rangesPF
 rw [tq_pos hs]
 simp only [bind_ite2]
 have e : (!(decide (a.kind = 8) || decide (a.kind = 9)) && !(if (!(decide (a.kind = 8) || decide (a.kind = 9))) = true then s.playbacks.any (fun x => decide (x.number = a.playback)) else (default : Bool))) = (!(decide (a.kind = 8) || decide (a.kind = 9)) && !hasPlay s a.playback) := by
  cases decide (a.kind = 8) || decide (a.kind = 9) <;> rfl
 rw [e]
 split
 ·rfl
 unfold mostF
 by_cases h6 : a.kind = 6
 ·simp only [h6, if_true, Option.bind_some, ite_pure]
 ·by_cases h9 : a.kind = 9 <;> simp [h6, h9]
def playbackOf (s : SetupD) (n : Int) : PlaybackD × Bool := match s.playbacks.find? fun x => decide (x.number = n) with | some x => (x, true) | none => (⟨0, 0, 0⟩, false)
theorem playbackOf_has (s : SetupD) (n : Int) : (playbackOf s n).2 = hasPlay s n := by
 unfold playbackOf hasPlay
 cases h : s.playbacks.find? fun x => decide (x.number = n) with
 | none =>
  symm
  rw [Bool.eq_false_iff]
  intro k
  obtain ⟨x, hx, hp⟩ := List.any_eq_true.1 k
  have := List.find?_eq_none.1 h x hx
  exact this hp
 | some x =>
  symm
  have hx := List.find?_some h
  exact List.any_eq_true.2 ⟨x, List.mem_of_find?_eq_some h, by simpa using hx⟩
def cuesF (s : SetupD) (n : Int) : List CueD := (listOf s.lists (playbackOf s n).1.list).1.cues
theorem setupF_play {s : SetupD} (h : setupF s = 0) : ∀ p ∈ s.playbacks, (listOf s.lists p.list).2 = true := by
 intro p hp
 unfold setupF at h
 by_cases h0 : presetsF s.rig s.presets = 0
 case neg => rw [if_pos h0] at h; exact absurd h h0
 by_cases h1 : 30 < (s.lists.length : Int)
 ·simp [h0, h1] at h
 by_cases h2 : chkE (listEF s) s.lists 0 = 0
 case neg => simp [h0, h1, h2] at h
 by_cases h3 : 40 < (s.playbacks.length : Int)
 ·simp [h0, h1, h2, h3] at h
 simp only [h0, h1, h2, h3, not_true_eq_false, if_false] at h
 obtain ⟨i, hi⟩ := List.mem_iff_getElem?.1 hp
 have := (chkE_zero _ _).1 h i p hi
 unfold playF at this
 cases hl : (listOf s.lists p.list).2
 ·rw [hl] at this
  split at this
  ·cases this
  split at this
  ·cases this
  simp at this
 ·rfl
theorem cuesOf_t (s : SetupD) (h1 : s.playbacks.length ≤ mxl) (h2 : s.lists.length ≤ mxl) (n : Int) (h : setupF s = 0) (hp : hasPlay s n = true) : t_stamp_cuesOf s n = some (cuesF s n) := by
 unfold t_stamp_cuesOf
 rw [forE_some (q := fun e => s.lists.findSome? fun x => if e.number = n ∧ x.number = e.list then some x.cues else none) h1 ?_]
 ·rw [← playbackOf_has] at hp
  unfold cuesF
  have hex := setupF_play h
  unfold playbackOf at hp ⊢
  cases hf : s.playbacks.find? fun x => decide (x.number = n) with
  | none => rw [hf] at hp; cases hp
  | some p =>
   simp only
   have key : ∀ (l : List PlaybackD), (∀ x ∈ l, (listOf s.lists x.list).2 = true) → l.find? (fun x => decide (x.number = n)) = some p → (l.findSome? fun e => s.lists.findSome? fun x => if e.number = n ∧ x.number = e.list then some x.cues else none) = some (listOf s.lists p.list).1.cues := by
    intro l
    induction l with
    | nil => intro _ h; cases h
    | cons x l ih =>
     intro hex hf
     rw [List.find?_cons] at hf
     rw [List.findSome?_cons]
     by_cases hx : x.number = n
     ·simp only [hx, decide_true] at hf
      injection hf with hf
      subst hf
      have hl := hex x (by simp)
      unfold listOf at hl ⊢
      have inner : ∀ (m : List ListD), (m.findSome? fun y => if x.number = n ∧ y.number = x.list then some y.cues else none) = (m.find? fun y => decide (y.number = x.list)).map (·.cues) := by
       intro m
       induction m with
       | nil => rfl
       | cons y m ihm =>
        rw [List.findSome?_cons, List.find?_cons]
        by_cases hy : y.number = x.list
        ·simp [hx, hy]
        ·simp only [hy, and_false, if_false, decide_false]; exact ihm
      rw [inner]
      cases hq : s.lists.find? fun y => decide (y.number = x.list) with
      | none => rw [hq] at hl; cases hl
      | some y => rfl
     ·have e : (s.lists.findSome? fun y => if x.number = n ∧ y.number = x.list then some y.cues else none) = none := by
       rw [List.findSome?_eq_none_iff]
       intro y _
       simp [hx]
      rw [e]
      simp only [hx, decide_false] at hf
      exact ih (fun y hy => hex y (by simp [hy])) hf
   rw [key s.playbacks hex hf]
 ·intro i e he
  rw [forE_some (q := fun x => if e.number = n ∧ x.number = e.list then some x.cues else none) h2 ?_]
  ·cases s.lists.findSome? fun x => if e.number = n ∧ x.number = e.list then some x.cues else none <;> rfl
  ·intro j x hx
   by_cases h1 : e.number = n <;> by_cases h2 : x.number = e.list <;> simp [h1, h2]
def jumpB (s : SetupD) (a : ActionD) : Bool := (cuesF s a.playback).any fun c => decide (c.number = a.cue)
def actF (s : SetupD) (a : ActionD) : Int :=
 if fieldsF a = 4 then fieldsF a
 else if ((decide (¬ (fieldsF a = 0))) || (decide (¬ (a.time = 0)))) = true then 3
 else if ((decide (a.kind < 8)) && (!hasPlay s a.playback)) = true then 8
 else if ¬ (levelFormF a = 0) then levelFormF a
 else if a.kind = 3 then (if jumpB s a = true then 0 else 8) else 0
theorem listOf_len {s : SetupD} (hs : okL okList s.lists) (n : Int) : (listOf s.lists n).1.cues.length ≤ mxl := by
 unfold listOf
 cases h : s.lists.find? fun x => decide (x.number = n) with
 | none => exact Nat.zero_le _
 | some x => exact (hs.2 x (List.mem_of_find?_eq_some h)).2.1
theorem act_eq (s : SetupD) (a : ActionD) : (if ¬ (fieldsF a = 0) then fieldsF a else if ¬ ((if decide (¬ (a.time = 0)) = true then (3 : Int) else 0) = 0) then (if decide (¬ (a.time = 0)) = true then (3 : Int) else 0) else rangesPF s a) = if fieldsF a = 4 then fieldsF a
 else if ((decide (¬ (fieldsF a = 0))) || (decide (¬ (a.time = 0)))) = true then 3
 else if ((decide (a.kind < 8)) && (!hasPlay s a.playback)) = true then 8
 else if ¬ (levelFormF a = 0) then levelFormF a else 0 := by
 have hf : fieldsF a = 4 ∨ fieldsF a = 3 ∨ fieldsF a = 0 := by
  unfold fieldsF; split
  ·exact .inl rfl
  split
  ·exact .inr (.inl rfl)
  ·exact .inr (.inr rfl)
 rcases hf with h | h | h
 ·simp [h]
 ·simp [h]
 by_cases ht : a.time = 0
 case neg => simp [h, ht]
 simp only [h, ht, not_true_eq_false, if_false, decide_false, Bool.false_eq_true, Bool.or_self, show ¬ ((0 : Int) = 4) by decide]
 unfold fieldsF at h
 split at h
 ·cases h
 rename_i hk
 split at h
 ·cases h
 rename_i hz
 have hk' : 1 ≤ a.kind ∧ a.kind ≤ 9 := by simpa [withinB] using hk
 have e8 : (!(decide (a.kind = 8) || decide (a.kind = 9))) = decide (a.kind < 8) := by
  rw [Bool.eq_iff_iff]
  simp only [Bool.not_eq_true', Bool.or_eq_false_iff, decide_eq_false_iff_not, decide_eq_true_eq]
  omega
 unfold rangesPF
 rw [e8]
 split
 ·rfl
 have hlev : a.kind < 6 → a.level = 0 := by
  intro hlt
  simp only [Bool.or_eq_true, Bool.and_eq_true, decide_eq_true_eq, not_or, not_and, Decidable.not_not] at hz
  exact hz.2 (by omega)
 unfold levelFormF mostF
 rcases (show a.kind < 6 ∨ a.kind = 6 ∨ a.kind = 7 ∨ a.kind = 8 ∨ a.kind = 9 by omega) with q | q | q | q | q
 ·rw [hlev q]
  have e1 : ¬ a.kind = 6 := by omega
  have e2 : ¬ a.kind = 7 := by omega
  have e3 : ¬ a.kind = 8 := by omega
  have e4 : ¬ a.kind = 9 := by omega
  simp [e1, e2, e3, e4, withinB]
 ·simp only [q]; cases hw : withinB a.level 0 36000000 <;> simp [hw]
 ·simp only [q]; cases hw : withinB a.level 0 65535 <;> simp [hw]
 ·simp only [q]; cases hw : withinB a.level 0 65535 <;> simp [hw]
 ·simp only [q]; cases hw : withinB a.level 0 1 <;> simp [hw]
def eventF (s : SetupD) (d : Int) (l : List EventD) (i : Nat) (e : EventD) : Int :=
 if (!(withinB e.att 0 (IntKind.i64.wrap (d - 1)))) = true then 1
 else if (decide (0 < (i : Int)) && decide (e.att < (pv l i).att)) = true then 7
 else if ¬ (actF s e.action = 0) then actF s e.action else 0
def eventsF (s : SetupD) (r : Int) (l : List EventD) : Int :=
 if ¬ (setupF s = 0) then setupF s else if cntF r = 0 then 16 else if 2000 < (l.length : Int) then 2 else chkE (eventF s (dayF r) l) l 0
theorem find4 {a b c d : Int} : (([a, b, c, d] : List Int).find? fun n => decide (¬ n = 0)).getD 0 = if ¬ (a = 0) then a else if ¬ (b = 0) then b else if ¬ (c = 0) then c else d := by
 by_cases ha : a = 0
 ·by_cases hb : b = 0
  ·by_cases hc : c = 0
   ·by_cases hd : d = 0 <;> simp [ha, hb, hc, hd, List.find?]
   ·simp [ha, hb, hc, List.find?]
  ·simp [ha, hb, List.find?]
 ·simp [ha, List.find?]
theorem CheckEvents_t (s : SetupD) (hs : okSetup s) (r : Int) (l : List EventD) (hl : l.length ≤ mxl) : t_stamp_CheckEvents s r l = some (eventsF s r l) := by
 obtain ⟨_, _, hli, hb⟩ := id hs
 unfold t_stamp_CheckEvents eventsF
 simp only [CheckSetup_t s hs, mode_t, Option.bind_some]
 rw [tq_pos (by show 3 ≤ mxl; unfold mxl; omega)]
 simp only [find3, Option.bind_some]
 by_cases h0 : setupF s = 0
 case neg => simp [h0]
 by_cases h1 : cntF r = 0
 ·simp [h0, modeF, h1]
 have hm : modeF r = 0 := by simp [modeF, h1]
 by_cases h2 : 2000 < (l.length : Int)
 ·simp [h0, h1, hm, h2]
 simp only [h0, h1, hm, h2, not_true_eq_false, if_false, decide_false, Bool.false_eq_true]
 rw [forE_chk (f := eventF s (dayF r) l) hl ?_]
 ·split
  ·rename_i h; rw [h]
  ·rfl
 intro i e he
 simp only [day_t h1, Option.bind_some, prev_at he hl]
 rw [tq_pos (by show 2 ≤ mxl; unfold mxl; omega)]
 simp only [find2, Option.bind_some, CheckFields_t, CheckRanges_t s hb.1]
 rw [tq_pos (by show 4 ≤ mxl; unfold mxl; omega)]
 simp only [find4, Option.bind_some, act_eq]
 unfold eventF
 by_cases c1 : withinB e.att 0 (IntKind.i64.wrap (dayF r - 1)) = true
 case neg => simp [c1]
 by_cases c2 : (decide (0 < (i : Int)) && decide (e.att < (pv l i).att)) = true
 ·simp only [c1, c2, Bool.not_true, Bool.false_eq_true, if_false, if_true, not_true_eq_false, not_false_eq_true, show ¬ ((7 : Int) = 0) by decide]
 simp only [c1, c2, Bool.not_true, Bool.false_eq_true, if_false, not_true_eq_false]
 unfold actF
 generalize (decide (¬ (fieldsF e.action = 0)) || decide (¬ (e.action.time = 0))) = b1
 generalize hb2 : (decide (e.action.kind < 8) && !hasPlay s e.action.playback) = b2
 by_cases d1 : fieldsF e.action = 4
 ·simp [d1]
 cases b1
 case true => simp [d1]
 cases b2
 case true => simp [d1]
 by_cases d4 : levelFormF e.action = 0
 case neg => simp [d1, d4]
 simp only [d1, d4, not_true_eq_false, if_false, if_true, Bool.false_eq_true]
 by_cases d5 : e.action.kind = 3
 case neg => simp [d5]
 have hp : hasPlay s e.action.playback = true := by
  rw [d5] at hb2
  simpa using hb2
 have hcl : (cuesF s e.action.playback).length ≤ mxl := listOf_len hli _
 simp only [d5, decide_true, if_true, cuesOf_t s hb.1 hli.1 _ h0 hp, Option.bind_some, tq_pos hcl, Bool.true_and]
 show (if (!jumpB s e.action) = true then _ else _) = _
 cases jumpB s e.action <;> simp
def dueL (a b : Int) (l : List EventD) : List EventD := l.filter fun e => decide (a ≤ e.att) && decide (e.att < b)
def dueF (s : SetupD) (r : Int) (l : List EventD) (a b : Int) : List EventD × Int :=
 if ¬ (eventsF s r l = 0) then ([], eventsF s r l) else if 0 ≤ a ∧ a ≤ b ∧ b ≤ dayF r then (dueL a b l, 0) else ([], 1)
theorem eventsF_len {s : SetupD} {r : Int} {l : List EventD} (h : eventsF s r l = 0) : l.length ≤ 2000 ∧ cntF r ≠ 0 ∧ setupF s = 0 := by
 unfold eventsF at h
 by_cases h0 : setupF s = 0
 case neg => rw [if_pos h0] at h; exact absurd h h0
 by_cases h1 : cntF r = 0
 ·simp [h0, h1] at h
 by_cases h2 : 2000 < (l.length : Int)
 ·simp [h0, h1, h2] at h
 exact ⟨by omega, h1, h0⟩
theorem filter_fold {α : Type} (p : α → Bool) : ∀ (l acc : List α), l.foldl (fun s x => if p x = true then s ++ [x] else s) acc = acc ++ l.filter p
 | [], acc => by simp
 | x :: l, acc => by
  rw [List.foldl_cons, filter_fold p l, List.filter_cons]
  cases p x <;> simp
theorem due_loop {γ : Type} {l : List EventD} {a b : Int} (hl : l.length ≤ 2000) {body : Nat → EventD → List EventD → Option (Lr (List EventD) (List EventD) Unit)} {K1 : List EventD → Option γ} {K2 : Unit → Option γ}
  (hb : ∀ i e s, body i e s = (if (decide (a ≤ e.att) && decide (e.att < b)) = true then (if s.length + ([e] : List EventD).length ≤ 2932031007402 then some (s ++ [e]) else none) else some s).bind fun j => some (.go j)) :
  forE l body (fun s => some s) [] K1 K2 = K1 (dueL a b l) := by
 rw [forE_fold (fun s e => if (decide (a ≤ e.att) && decide (e.att < b)) = true then s ++ [e] else s) (fun i s => s.length ≤ i) (by unfold mxl; omega) (Nat.le_refl _) ?_ ?_]
 ·rw [filter_fold]; rfl
 ·intro i x s hx hs
  show List.length (if (decide (a ≤ x.att) && decide (x.att < b)) = true then s ++ [x] else s) ≤ i + 1
  split
  ·simp; omega
  ·omega
 ·intro i x s hx hs
  have hi := (List.getElem?_eq_some_iff.1 hx).1
  rw [hb]
  by_cases h : (decide (a ≤ x.att) && decide (x.att < b)) = true
  ·simp only [h, if_true]
   rw [if_pos (by simp; omega)]
   rfl
  ·simp only [h, if_false, Bool.false_eq_true]; rfl
theorem Due_t (s : SetupD) (hs : okSetup s) (r : Int) (l : List EventD) (hl : l.length ≤ mxl) (a b : Int) : t_stamp_Due s r l a b = some (dueF s r l a b) := by
 unfold t_stamp_Due t_stamp_due dueF
 simp only [CheckEvents_t s hs r l hl, Option.bind_some]
 by_cases h0 : eventsF s r l = 0
 case neg =>
  have hd : ∃ x, (if ((decide (0 ≤ a)) && (decide (a ≤ b))) = true then t_stamp_day r else some default) = some x := by
   split
   ·unfold t_stamp_day; split <;> exact ⟨_, rfl⟩
   ·exact ⟨_, rfl⟩
  obtain ⟨x, hx⟩ := hd
  simp only [hx, Option.bind_some]
  rw [tq_pos (by show 2 ≤ mxl; unfold mxl; omega)]
  simp [find2, h0]
 obtain ⟨h1, h2, _⟩ := eventsF_len h0
 simp only [day_t h2, bind_ite2]
 rw [tq_pos (by show 2 ≤ mxl; unfold mxl; omega)]
 simp only [find2, Option.bind_some, h0, not_true_eq_false, if_false]
 have e : (!(((decide (0 ≤ a)) && (decide (a ≤ b))) && (decide (b ≤ if ((decide (0 ≤ a)) && (decide (a ≤ b))) = true then dayF r else default)))) = decide (¬ (0 ≤ a ∧ a ≤ b ∧ b ≤ dayF r)) := by
  by_cases q1 : 0 ≤ a <;> by_cases q2 : a ≤ b <;> by_cases q3 : b ≤ dayF r <;> simp [q1, q2, q3] <;> omega
 rw [e]
 by_cases hq : 0 ≤ a ∧ a ≤ b ∧ b ≤ dayF r
 case neg => simp [hq]
 simp only [hq, not_true_eq_false, decide_false, Bool.false_eq_true, if_false, and_self, if_true]
 rw [due_loop (a := a) (b := b) h1 (fun i e s => rfl)]
 rfl
theorem EqualE_t (l : List EventD) (hl : l.length ≤ mxl) : t_slices_Equal_api_Event l l = some true := by
 unfold t_slices_Equal_api_Event
 simp only [not_true_eq_false, if_false]
 rw [forE_find (p := fun _ => false) (r := fun _ => ()) hl ?_]
 ·have : l.find? (fun _ => false) = none := by simp
  rw [this]
 ·intro i x hx
  have hi := (List.getElem?_eq_some_iff.1 hx).1
  rw [tIx_get (x := x) (by omega) (by simpa using hx)]
  simp
end Go.Proofs.Ytohbeolimnpehaa

namespace Go.Proofs.Ytohbeolimnpehaa
set_option linter.unusedSectionVars false
set_option linter.unusedVariables false
set_option linter.unusedSimpArgs false
def HP := (Nat → Option Blk) → Prop
namespace HP
set_option linter.unusedSectionVars false
def blk (id : Nat) (b : Blk) : HP := fun h => ∀ i, h i = if i = id then some b else none
def star (P Q : HP) : HP := fun h => ∃ f g, P f ∧ Q g ∧ (∀ i, f i = none ∨ g i = none) ∧ ∀ i, h i = (f i).or (g i)
def pr (p : Prop) : HP := fun h => p ∧ ∀ i, h i = none
instance : Mul HP := ⟨star⟩
theorem star_comm (P Q : HP) : P * Q = Q * P := by
 have key : ∀ P Q : HP, ∀ h, (P * Q) h → (Q * P) h := by
  rintro P Q h ⟨f, g, hf, hg, hd, hh⟩
  refine ⟨g, f, hg, hf, fun i => (hd i).symm, fun i => ?_⟩
  rw [hh i]
  rcases hd i with e | e <;> rw [e] <;> simp
 funext h
 exact propext ⟨key P Q h, key Q P h⟩
theorem star_assoc (P Q R : HP) : P * Q * R = P * (Q * R) := by
 funext h
 apply propext
 constructor
 ·rintro ⟨f, g, ⟨f1, f2, h1, h2, hd1, hf⟩, hg, hd, hh⟩
  refine ⟨f1, fun i => (f2 i).or (g i), h1, ⟨f2, g, h2, hg, fun i => ?_, fun i => rfl⟩, fun i => ?_, fun i => ?_⟩
  ·have := hd i; rw [hf i] at this
   rcases this with e | e
   ·cases h : f1 i <;> simp [h] at e <;> exact .inl e
   ·exact .inr e
  ·have a := hd i; have b := hd1 i; rw [hf i] at a
   rcases b with b | b
   ·exact .inl b
   ·rcases a with a | a
    ·cases h : f1 i <;> simp [h] at a; exact .inl rfl
    ·exact .inr (show (f2 i).or (g i) = none by rw [b, a]; rfl)
  ·rw [hh i, hf i]; cases f1 i <;> simp
 ·rintro ⟨f, g, hf, ⟨g1, g2, h1, h2, hd1, hg⟩, hd, hh⟩
  refine ⟨fun i => (f i).or (g1 i), g2, ⟨f, g1, hf, h1, fun i => ?_, fun i => rfl⟩, h2, fun i => ?_, fun i => ?_⟩
  ·have := hd i; rw [hg i] at this
   rcases this with e | e
   ·exact .inl e
   ·cases h : g1 i <;> simp [h] at e; exact .inr rfl
  ·have a := hd i; have b := hd1 i; rw [hg i] at a
   rcases b with b | b
   ·rcases a with a | a
    ·exact .inl (show (f i).or (g1 i) = none by rw [a, b]; rfl)
    ·rw [b] at a; exact .inr (by simpa using a)
   ·exact .inr b
  ·show h i = ((f i).or (g1 i)).or (g2 i)
   rw [hh i, hg i]; cases f i <;> simp
instance : Std.Associative (α := HP) (· * ·) := ⟨star_assoc⟩
instance : Std.Commutative (α := HP) (· * ·) := ⟨star_comm⟩
end HP
open HP
structure Hs (B : Blk → Prop) (σ0 σ : Heap) (P : HP) : Prop where
 pre : ∃ bs, σ = σ0 ++ bs ∧ ∀ b ∈ bs, B b
 own : ∃ h, P h ∧ ∀ i b, h i = some b → σ0.length ≤ i ∧ σ[i]? = some b
def anyB : Blk → Prop := fun _ => True
section
variable {B : Blk → Prop} {σ0 σ : Heap} {P Q R : HP} {id : Nat} {b b' : Blk}
end
section
variable {α : Type} {E : List AV → α → HP} {B : Blk → Prop} {σ0 σ : Heap} {R : HP}
def fl (c : α → List AV) : List AV → α → HP := fun e x => pr (e = c x)
variable {sz : Nat} {v : AV} {l : List α}
end
end Go.Proofs.Ytohbeolimnpehaa

namespace Go.Proofs.Ytohbeolimnpehaa
set_option linter.unusedSectionVars false
set_option linter.unusedVariables false
set_option linter.unusedSimpArgs false
open HP
section
variable {σ : Heap} {id g sz off len : Nat} {es : List (List AV)}
theorem cnd_t {α : Type} {X Y : Option α} : A.cond (.bool true) X Y = X := rfl
theorem cnd_f {α : Type} {X Y : Option α} : A.cond (.bool false) X Y = Y := rfl
theorem bnd_s {y d k : Nat} (h : k ≤ y) : A.bound y d (some (.int .i64 (k : Int))) = some k := by
 have : (k : Int) ≤ y := by omega
 simp [A.bound, this]
theorem bnd_n {y d : Nat} : A.bound y d none = some d := rfl
theorem room_arr (h : σ[id]? = some (.arr g sz es)) (hl : off + len ≤ es.length) : A.room σ id g sz off len = es.length - off := by simp [A.room, h, hl]
theorem slo {lo hi : Option AV} {r h l : Nat} (hr : A.room σ id g sz off len = r) (hh : A.bound r len hi = some h) (hl : A.bound h 0 lo = some l) : A.sliceS sz (.os id g sz off len) lo hi σ = some (.os id g sz (off + l) (h - l)) := by
 simp [A.sliceS, hr, hh, hl]
end
section
variable {α : Type} {E : List AV → α → HP} {σ0 σ : Heap} {R : HP} {sz most : Nat} {zs : List AV} {rot : List AV → Heap → Option (AV × Heap)} {v : AV} {l : List α} {y : α} {ye : List AV} {i : Nat}
end
end Go.Proofs.Ytohbeolimnpehaa

namespace Go.Proofs.Ytohbeolimnpehaa
set_option linter.unusedSectionVars false
set_option linter.unusedVariables false
set_option linter.unusedSimpArgs false
theorem tadd {a b : Nat} (h : a + b < 9223372036854775808) : A.add (.int .i64 (a : Int)) (.int .i64 (b : Int)) = some (.int .i64 ((a + b : Nat) : Int)) := by
 rw [aAdd, wrap64 (by unfold inI; omega)]; simp
theorem exb {α : Type} {X Y : α} : (bif (AX.exit 0 == AX.exit 0) then X else Y) = X := rfl
end Go.Proofs.Ytohbeolimnpehaa

namespace Go.Proofs.Ytohbeolimnpehaa
set_option linter.unusedSectionVars false
set_option linter.unusedVariables false
set_option linter.unusedSimpArgs false
def srtM (l : List MoveD) : Prop := l.Pairwise fun a b => ltK a.key b.key = true
structure Good (l : List CueD) : Prop where
 len : l.length ≤ 300
 num : ∀ c ∈ l, 1 ≤ c.number ∧ c.number ≤ 9999999
 srt : l.Pairwise fun a b => a.number < b.number
 mv : ∀ c ∈ l, c.moves.length ≤ 2000 ∧ srtM c.moves
 pts : ∀ c ∈ l, c.curve.points.length ≤ 20
theorem srt_of_step {α : Type} [Inhabited α] {r : α → α → Prop} (tr : ∀ a b c, r a b → r b c → r a c) : ∀ (l : List α), (∀ i x, l[i + 1]? = some x → r (l[i]?.getD default) x) → l.Pairwise r
 | [], _ => List.Pairwise.nil
 | [a], _ => by simp
 | a :: b :: l, h => by
  have ih := srt_of_step tr (b :: l) (fun i x hx => h (i + 1) x hx)
  have hab : r a b := h 0 b rfl
  refine List.pairwise_cons.2 ⟨fun x hx => ?_, ih⟩
  rcases List.mem_cons.1 hx with rfl | hx
  ·exact hab
  ·exact tr _ _ _ hab ((List.pairwise_cons.1 ih).1 x hx)
end Go.Proofs.Ytohbeolimnpehaa

namespace Go.Proofs.Ytohbeolimnpehaa
set_option linter.unusedSectionVars false
set_option linter.unusedVariables false
set_option linter.unusedSimpArgs false
theorem pv_succ {α : Type} [Inhabited α] (l : List α) (i : Nat) : pv l (i + 1) = l[i]?.getD default := by
 simp [pv, List.getD_eq_getElem?_getD]
section
variable {α R γ S B : Type}
end
end Go.Proofs.Ytohbeolimnpehaa

