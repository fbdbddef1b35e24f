/- Parts of the proof of CueCopiesMatchSpec, in order. -/
import Derived.Orders
import Derived.Below
import Derived.WalkKit
import Derived.Laws.StructEq
import Derived.Laws.Append
import Derived.Laws.AppendOwn
import Derived.Test.YtphgchakmkankaaGreatRows
import Derived.KernelRfl
import Derived.Lib.Bytealg
import Derived.Sort.Defs
import Derived.Lib.BitFns
import Derived.Test.YtphgchakmkankaaGreatShelf
import Derived.Lib.Overlaps
import Derived.IntWalk
import Derived.Sort.Statements
import Derived.Shelf.SlSortCmp.WholeK
import Derived.Shelf.SlSortCmp.NoneTotal
import Derived.Sort.AssemblyPlain
import Derived.Lib.Strings
import Derived.Test.YtphgchakmkankaaGreatKCueCopiesMatchSpec3
namespace Go.Proofs.YtphgchakmkankaaGreat
set_option linter.unusedSectionVars false
set_option linter.unusedVariables false
set_option linter.unusedSimpArgs false
def Rf {β τ : Type} (M : Option β) (T : Option τ) (Q : τ → β → Prop) : Prop := ∀ t, T = some t → ∃ b, M = some b ∧ Q t b
section
variable {α β ω τ ζ : Type}
theorem rf_s {M0 : Option α} {K : α → Option β} {T : Option τ} {Q : τ → β → Prop} (a : α) (h : M0 = some a) (k : Rf (K a) T Q) : Rf (M0.bind K) T Q := by
 intro t ht; obtain ⟨b, h1, h2⟩ := k t ht; exact ⟨b, by rw [h]; exact h1, h2⟩
theorem rf_o {M0 : Option α} {K : α → Option β} {o : Option ω} {K' : ω → Option τ} {Q : τ → β → Prop} (e : ω → α) (h : ∀ t, o = some t → M0 = some (e t)) (k : ∀ t, o = some t → Rf (K (e t)) (K' t) Q) : Rf (M0.bind K) (o.bind K') Q := by
 intro t ht
 obtain ⟨x, h1, h2⟩ := Option.bind_eq_some_iff.1 ht
 obtain ⟨b, h3, h4⟩ := k x h1 t h2
 exact ⟨b, by rw [h x h1]; exact h3, h4⟩
theorem rf_b {M0 : Option α} {K : α → Option β} {o : Option ω} {K' : ω → Option τ} {Q : τ → β → Prop} (Q0 : ω → α → Prop) (h : Rf M0 o Q0) (k : ∀ t a, Q0 t a → Rf (K a) (K' t) Q) : Rf (M0.bind K) (o.bind K') Q := by
 intro t ht
 obtain ⟨x, h1, h2⟩ := Option.bind_eq_some_iff.1 ht
 obtain ⟨a, h3, h4⟩ := h x h1
 obtain ⟨b, h5, h6⟩ := k x a h4 t h2
 exact ⟨b, by rw [h3]; exact h5, h6⟩
theorem rf_ret {t : τ} {b : β} {Q : τ → β → Prop} (h : Q t b) : Rf (some b) (some t) Q := by
 intro u hu; cases hu; exact ⟨b, rfl, h⟩
theorem rf_fin {M : Option β} {t : τ} {Q : τ → β → Prop} (b : β) (e : M = some b) (h : Q t b) : Rf M (some t) Q := by
 rw [e]; exact rf_ret h
theorem rf_none {M : Option β} {Q : τ → β → Prop} : Rf M (none : Option τ) Q := by intro u hu; cases hu
theorem rf_tq {M : Option β} {p : Prop} [Decidable p] {T : Option τ} {Q : τ → β → Prop} (h : p → Rf M T Q) : Rf M (if p then T else none) Q := by
 split
 ·exact h ‹_›
 ·exact rf_none
theorem rf_c {p : Prop} [Decidable p] {X Y : Option β} {X' Y' : Option τ} {Q : τ → β → Prop} (h1 : p → Rf X X' Q) (h2 : ¬ p → Rf Y Y' Q) : Rf (A.cond (.bool (decide p)) X Y) (if p then X' else Y') Q := by
 by_cases h : p
 ·simp only [h, decide_true, if_true]; exact h1 h
 ·simp only [h, decide_false, if_false]; exact h2 h
theorem rf_cb {c : Bool} {X Y : Option β} {X' Y' : Option τ} {Q : τ → β → Prop} (h1 : c = true → Rf X X' Q) (h2 : c = false → Rf Y Y' Q) : Rf (A.cond (.bool c) X Y) (if c = true then X' else Y') Q := by
 cases c
 ·exact h2 rfl
 ·exact h1 rfl
theorem rf_ct {X Y : Option β} {T : Option τ} {Q : τ → β → Prop} (h : Rf X T Q) : Rf (A.cond (.bool true) X Y) T Q := h
theorem rf_cf {X Y : Option β} {T : Option τ} {Q : τ → β → Prop} (h : Rf Y T Q) : Rf (A.cond (.bool false) X Y) T Q := h
theorem rf_bt {c : Bool} {X Y : Option β} {T : Option τ} {Q : τ → β → Prop} (e : c = true) (h : Rf X T Q) : Rf (bif c then X else Y) T Q := by rw [e]; exact h
theorem rf_bf {c : Bool} {X Y : Option β} {T : Option τ} {Q : τ → β → Prop} (e : c = false) (h : Rf Y T Q) : Rf (bif c then X else Y) T Q := by rw [e]; exact h
def gv {α : Type} (g : Bool) (e : α → AV) (t : α) : AV := bif g then e t else .tup []
end
inductive Lr (S B R : Type) where
 | go (s : S)
 | brk (b : B)
 | ret (r : R)
def forL {α S B R : Type} (body : Nat → α → S → Option (Lr S B R)) (fin : S → Option B) : List α → Nat → S → Option (B ⊕ R)
 | [], _, s => (fin s).map .inl
 | x :: l, i, s => (body i x s).bind fun q => match q with | .go s' => forL body fin l (i + 1) s' | .brk b => some (.inl b) | .ret r => some (.inr r)
def forE {α S B R γ : Type} (l : List α) (body : Nat → α → S → Option (Lr S B R)) (fin : S → Option B) (s : S) (K1 : B → Option γ) (K2 : R → Option γ) : Option γ :=
 if l.length ≤ mxl then (forL body fin l 0 s).bind fun q => q.elim K1 K2 else none
def itL {S B R : Type} (body : S → Option (Lr S B R)) : Nat → S → Option (B ⊕ R)
 | 0, _ => none
 | n + 1, s => (body s).bind fun q => match q with | .go s' => itL body n s' | .brk b => some (.inl b) | .ret r => some (.inr r)
noncomputable def whL {S B R : Type} (body : S → Option (Lr S B R)) (s : S) : Option (B ⊕ R) := open Classical in if h : ∃ n r, itL body n s = some r then some (Classical.choose (Classical.choose_spec h)) else none
noncomputable def whE {S B R γ : Type} (body : S → Option (Lr S B R)) (s : S) (K1 : B → Option γ) (K2 : R → Option γ) : Option γ := (whL body s).bind fun q => q.elim K1 K2
theorem itL_one {S B R : Type} {body : S → Option (Lr S B R)} : ∀ {n m : Nat} {s : S} {r r' : B ⊕ R}, itL body n s = some r → itL body m s = some r' → r = r' := by
 intro n
 induction n with
 | zero => intro m s r r' h; cases h
 | succ n ih =>
  intro m s r r' h1 h2
  cases m with
  | zero => cases h2
  | succ m =>
   simp only [itL] at h1 h2
   cases hf : body s with
   | none => rw [hf] at h1; cases h1
   | some q =>
    rw [hf] at h1 h2
    simp only [Option.bind_some] at h1 h2
    cases q with
    | go s' => exact ih h1 h2
    | brk b => simp only at h1 h2; rw [h1] at h2; injection h2
    | ret b => simp only at h1 h2; rw [h1] at h2; injection h2
theorem whL_of {S B R : Type} {body : S → Option (Lr S B R)} {n : Nat} {s : S} {r : B ⊕ R} (h : itL body n s = some r) : whL body s = some r := by
 have hex : ∃ n r, itL body n s = some r := ⟨n, r, h⟩
 unfold whL
 rw [dif_pos hex]
 exact congrArg some (itL_one (Classical.choose_spec (Classical.choose_spec hex)) h)
theorem whL_it {S B R : Type} {body : S → Option (Lr S B R)} {s : S} {r : B ⊕ R} (h : whL body s = some r) : ∃ n, itL body n s = some r := by
 unfold whL at h
 split at h
 ·rename_i hx
  injection h with h
  subst h
  exact ⟨_, Classical.choose_spec (Classical.choose_spec hx)⟩
 ·cases h
theorem whL_step {S B R : Type} (body : S → Option (Lr S B R)) (s : S) : whL body s = (body s).bind fun q => match q with | .go s' => whL body s' | .brk b => some (.inl b) | .ret r => some (.inr r) := by
 cases hf : body s with
 | none =>
  rw [Option.bind_none]
  unfold whL
  rw [dif_neg]
  rintro ⟨n, r, h⟩
  cases n with
  | zero => cases h
  | succ n => simp [itL, hf] at h
 | some q =>
  rw [Option.bind_some]
  cases q with
  | brk b => exact whL_of (n := 1) (by simp [itL, hf])
  | ret b => exact whL_of (n := 1) (by simp [itL, hf])
  | go s' =>
   show whL body s = whL body s'
   cases h : whL body s' with
   | some r =>
    obtain ⟨n, hn⟩ := whL_it h
    exact whL_of (n := n + 1) (by simp [itL, hf, hn])
   | none =>
    cases h2 : whL body s with
    | none => rfl
    | some r =>
     obtain ⟨n, hn⟩ := whL_it h2
     cases n with
     | zero => cases hn
     | succ n =>
      simp only [itL, hf, Option.bind_some] at hn
      rw [whL_of hn] at h; cases h
section
variable {α S B R β τ : Type}
abbrev LS := AX × List AV × Heap
def Rnd (I : S → List AV → Heap → Prop) (QB : B → LS → Prop) (QR : R → LS → Prop) (t : Lr S B R) (q : LS) : Prop := match t with
 | .go s => q.1 = .normal ∧ I s q.2.1 q.2.2
 | .brk b => q.1 ≠ .normal ∧ QB b q
 | .ret r => q.1 ≠ .normal ∧ QR r q
theorem rnd_go {I : S → List AV → Heap → Prop} {QB : B → LS → Prop} {QR : R → LS → Prop} {s : S} {v : List AV} {σ : Heap} (h : I s v σ) : Rnd I QB QR (.go s) (.normal, v, σ) := ⟨rfl, h⟩
theorem rnd_brk {I : S → List AV → Heap → Prop} {QB : B → LS → Prop} {QR : R → LS → Prop} {b : B} {q : LS} (n : q.1 ≠ .normal) (h : QB b q) : Rnd I QB QR (.brk b) q := ⟨n, h⟩
theorem rnd_ret {I : S → List AV → Heap → Prop} {QB : B → LS → Prop} {QR : R → LS → Prop} {r : R} {q : LS} (n : q.1 ≠ .normal) (h : QR r q) : Rnd I QB QR (.ret r) q := ⟨n, h⟩
theorem rf_for {f : List AV → Heap → Option LS} {K : LS → Option β} {Q : τ → β → Prop} {l : List α} {body : Nat → α → S → Option (Lr S B R)} {fin : S → Option B} {s0 : S} {K1 : B → Option τ} {K2 : R → Option τ} {v0 : List AV} {σ0 : Heap}
  (I : Nat → S → List AV → Heap → Prop) (QB : B → LS → Prop) (QR : R → LS → Prop)
  (hstep : l.length ≤ mxl → ∀ i x s v σ, l[i]? = some x → I i s v σ → Rf (f v σ) (body i x s) (Rnd (I (i + 1)) QB QR))
  (hend : l.length ≤ mxl → ∀ s v σ, I l.length s v σ → Rf (f v σ) (fin s) (fun b q => q.1 ≠ .normal ∧ QB b q))
  (h0 : I 0 s0 v0 σ0) (k1 : l.length ≤ mxl → ∀ b q, QB b q → Rf (K q) (K1 b) Q) (k2 : l.length ≤ mxl → ∀ r q, QR r q → Rf (K q) (K2 r) Q) :
  Rf ((A.loop f v0 σ0).bind K) (forE l body fin s0 K1 K2) Q := by
 unfold forE
 refine rf_tq fun hl => ?_
 have hstep := hstep hl
 have hend := hend hl
 have key : ∀ (rest pre : List α) (s : S) (v : List AV) (σ : Heap), l = pre ++ rest → I pre.length s v σ → ∀ t, forL body fin rest pre.length s = some t → ∃ q, (∃ n, A.iter f n v σ = some q) ∧ (match t with | .inl b => QB b q | .inr r => QR r q) := by
  intro rest
  induction rest with
  | nil =>
   intro pre s v σ hl hI t ht
   rw [List.append_nil] at hl
   subst hl
   simp only [forL] at ht
   obtain ⟨b, hb, rfl⟩ := Option.map_eq_some_iff.1 ht
   obtain ⟨q, h1, h2, h3⟩ := hend s v σ hI b hb
   exact ⟨q, loop_done h1 h2, h3⟩
  | cons x rest ih =>
   intro pre s v σ hl hI t ht
   simp only [forL] at ht
   obtain ⟨y, hy, h2⟩ := Option.bind_eq_some_iff.1 ht
   obtain ⟨q, h3, h4⟩ := hstep pre.length x s v σ (by rw [hl]; simp) hI y hy
   obtain ⟨e, v', σ'⟩ := q
   cases y with
   | go s' =>
    obtain ⟨rfl, hI'⟩ := h4
    obtain ⟨q, h5, h6⟩ := ih (pre ++ [x]) s' v' σ' (by simpa using hl) (by simpa using hI') t (by simpa using h2)
    exact ⟨q, loop_step h3 h5, h6⟩
   | brk b => simp only [Option.some.injEq] at h2; subst h2; exact ⟨_, loop_done h3 h4.1, h4.2⟩
   | ret b => simp only [Option.some.injEq] at h2; subst h2; exact ⟨_, loop_done h3 h4.1, h4.2⟩
 intro t ht
 obtain ⟨y, hy, h2⟩ := Option.bind_eq_some_iff.1 ht
 obtain ⟨q, ⟨n, hn⟩, h3⟩ := key l [] s0 v0 σ0 rfl h0 y hy
 cases y with
 | inl b => obtain ⟨z, h4, h5⟩ := k1 hl b q h3 t h2; exact ⟨z, by rw [loop_of_iter hn]; exact h4, h5⟩
 | inr b => obtain ⟨z, h4, h5⟩ := k2 hl b q h3 t h2; exact ⟨z, by rw [loop_of_iter hn]; exact h4, h5⟩
theorem rf_wh {f : List AV → Heap → Option LS} {K : LS → Option β} {Q : τ → β → Prop} {body : S → Option (Lr S B R)} {s0 : S} {K1 : B → Option τ} {K2 : R → Option τ} {v0 : List AV} {σ0 : Heap}
  (I : S → List AV → Heap → Prop) (QB : B → LS → Prop) (QR : R → LS → Prop)
  (hstep : ∀ s v σ, I s v σ → Rf (f v σ) (body s) (Rnd I QB QR))
  (h0 : I s0 v0 σ0) (k1 : ∀ b q, QB b q → Rf (K q) (K1 b) Q) (k2 : ∀ r q, QR r q → Rf (K q) (K2 r) Q) :
  Rf ((A.loop f v0 σ0).bind K) (whE body s0 K1 K2) Q := by
 have key : ∀ (n : Nat) (s : S) (v : List AV) (σ : Heap), I s v σ → ∀ t, itL body n s = some t → ∃ q, (∃ n, A.iter f n v σ = some q) ∧ (match t with | .inl b => QB b q | .inr r => QR r q) := by
  intro n
  induction n with
  | zero => intro s v σ hI t ht; cases ht
  | succ n ih =>
   intro s v σ hI t ht
   simp only [itL] at ht
   obtain ⟨y, hy, h2⟩ := Option.bind_eq_some_iff.1 ht
   obtain ⟨q, h3, h4⟩ := hstep s v σ hI y hy
   obtain ⟨e, v', σ'⟩ := q
   cases y with
   | go s' =>
    obtain ⟨rfl, hI'⟩ := h4
    obtain ⟨q, h5, h6⟩ := ih s' v' σ' hI' t h2
    exact ⟨q, loop_step h3 h5, h6⟩
   | brk b => simp only [Option.some.injEq] at h2; subst h2; exact ⟨_, loop_done h3 h4.1, h4.2⟩
   | ret b => simp only [Option.some.injEq] at h2; subst h2; exact ⟨_, loop_done h3 h4.1, h4.2⟩
 intro t ht
 obtain ⟨y, hy, h2⟩ := Option.bind_eq_some_iff.1 ht
 obtain ⟨n, hn⟩ := whL_it hy
 obtain ⟨q, ⟨m, hm⟩, h3⟩ := key n s0 v0 σ0 h0 y hn
 cases y with
 | inl b => obtain ⟨z, h4, h5⟩ := k1 b q h3 t h2; exact ⟨z, by rw [loop_of_iter hm]; exact h4, h5⟩
 | inr b => obtain ⟨z, h4, h5⟩ := k2 b q h3 t h2; exact ⟨z, by rw [loop_of_iter hm]; exact h4, h5⟩
theorem ix_lt {l : List α} {i : Nat} {x : α} (h : l[i]? = some x) : A.lss (.int .i64 (i : Int)) (.int .i64 (l.length : Int)) = some (.bool true) := by
 have := (List.getElem?_eq_some_iff.1 h).1
 rw [aLss]; simp; omega
theorem ix_end (l : List α) : A.lss (.int .i64 (l.length : Int)) (.int .i64 (l.length : Int)) = some (.bool false) := by rw [aLss]; simp
theorem ix_inc {l : List α} {i : Nat} {x : α} (h : l[i]? = some x) (hl : l.length ≤ mxl) : A.add (.int .i64 (i : Int)) (.int .i64 1) = some (.int .i64 ((i + 1 : Nat) : Int)) := by
 have := (List.getElem?_eq_some_iff.1 h).1
 rw [aAdd, wrap64 (by unfold inI; unfold mxl at hl; omega)]
 simp
def tIx (l : List α) (i : Int) : Option α := if 0 ≤ i then l[i.toNat]? else none
theorem ix_at {sz : Nat} {c : α → List AV} {l : List α} {i : Int} {x : α} (h : tIx l i = some x) : A.iaddr sz (sl sz c l) (.int .i64 i) = some (.rp (c x)) := by
 unfold tIx at h
 split at h
 ·exact iaddr_int sz c l ‹_› h
 ·cases h
theorem ix_for {sz : Nat} {c : α → List AV} {l : List α} {i : Nat} {x : α} (h : l[i]? = some x) : A.iaddr sz (sl sz c l) (.int .i64 (i : Int)) = some (.rp (c x)) := iaddr_sl sz c l h
end
theorem quiet_of {M : Option (AV × Heap)} {v : AV} {σ : Heap} (h : M = some (v, σ)) : A.quiet M σ = some v := by rw [h, quiet_same]
noncomputable def tq {α : Type} (p : Prop) (x : α) : Option α := open Classical in if p then some x else none
theorem tq_pos {α : Type} {p : Prop} {x : α} (h : p) : tq p x = some x := if_pos h
theorem tq_of {α β : Type} {p : Prop} {x r : α} {M : Option β} {e : α → β} (h : p → M = some (e x)) (k : tq p x = some r) : M = some (e r) := by
 unfold tq at k
 split at k
 ·rename_i hp; injection k with k; subst k; exact h hp
 ·cases k
theorem pk_and (b t : Bool) : A.pick (.bool b) (bif b then .bool t else .tup []) (.bool false) = some (.bool (b && t)) := by cases b <;> rfl
theorem pk_or (b t : Bool) : A.pick (.bool b) (.bool true) (bif !b then .bool t else .tup []) = some (.bool (b || t)) := by cases b <;> rfl
section
variable {α β ω τ : Type} {G b : Bool} {M0 : Option AV} {K : AV → Option β} {T : Option τ} {K' : ω → Option τ} {o : Option ω} {Q : τ → β → Prop}
theorem rf_gt (a : AV) (h : b = true → M0 = some a) (k : Rf (K (bif b then a else .tup [])) T Q) : Rf ((A.guard (.bool b) true M0 (some (.tup []))).bind K) T Q := by
 refine rf_s _ ?_ k
 cases b <;> simp_all [A.guard]
theorem rf_gf (a : AV) (h : (!b) = true → M0 = some a) (k : Rf (K (bif !b then a else .tup [])) T Q) : Rf ((A.guard (.bool b) false M0 (some (.tup []))).bind K) T Q := by
 refine rf_s _ ?_ k
 cases b <;> simp_all [A.guard]
theorem rf_ggt (a : AV) (h : (G && b) = true → M0 = some a) (k : Rf (K (bif G && b then a else .tup [])) T Q) : Rf ((A.guard (bif G then .bool b else .tup []) true M0 (some (.tup []))).bind K) T Q := by
 refine rf_s _ ?_ k
 cases G <;> cases b <;> simp_all [A.guard]
theorem rf_ggf (a : AV) (h : (G && !b) = true → M0 = some a) (k : Rf (K (bif G && !b then a else .tup [])) T Q) : Rf ((A.guard (bif G then .bool b else .tup []) false M0 (some (.tup []))).bind K) T Q := by
 refine rf_s _ ?_ k
 cases G <;> cases b <;> simp_all [A.guard]
theorem rf_go {g : Bool} {M : Option AV} {d : ω} (e : ω → AV) (hM : M = bif g then M0 else some (.tup [])) (h : g = true → ∀ t, o = some t → M0 = some (e t)) (k : ∀ t, (g = true → o = some t) → Rf (K (bif g then e t else .tup [])) (K' t) Q) : Rf (M.bind K) ((if g = true then o else some d).bind K') Q := by
 subst hM
 cases g
 ·exact k d (by simp)
 ·intro t ht
  simp only [if_true] at ht
  obtain ⟨x, h1, h2⟩ := Option.bind_eq_some_iff.1 ht
  obtain ⟨y, h3, h4⟩ := k x (fun _ => h1) t h2
  refine ⟨y, ?_, h4⟩
  simp only [cond_true, h rfl x h1, Option.bind_some]
  exact h3
theorem rf_gto {d : ω} (e : ω → AV) (h : b = true → ∀ t, o = some t → M0 = some (e t)) (k : ∀ t, (b = true → o = some t) → Rf (K (bif b then e t else .tup [])) (K' t) Q) : Rf ((A.guard (.bool b) true M0 (some (.tup []))).bind K) ((if b = true then o else some d).bind K') Q := rf_go e (by cases b <;> rfl) h k
theorem aEqB (b c : Bool) : A.eql .b (.bool b) (.bool c) = some (.bool (decide (b = c))) := by cases b <;> cases c <;> rfl
end
theorem wrap_nn {ro : Bool} {ain : List Sh} {rout : Sh} {r : List AV → Heap → Option (AV × Heap)} {args args' : List AV} {σ : Heap} (hn : A.nnL ain args = A.nnL ain args') (h1 : args.any A.own = false) (h2 : args'.any A.own = false) : A.wrap ro ain rout r args σ = A.wrap ro ain rout r args' σ := by
 unfold A.wrap
 rw [h1, h2, hn, Bool.and_false, cond_false, cond_false]
theorem rf_wrap {τ : Type} {ro : Bool} {ain : List Sh} {rout : Sh} {r : List AV → Heap → Option (AV × Heap)} {args args' : List AV} {σ : Heap} {T : Option τ} {enc : τ → AV} (hn : A.nnL ain args = args') (h : args.any A.own = false) (e : Rf (r args' σ) T (fun t b => A.nn rout b.1 = enc t ∧ b.2 = σ)) : ∀ t, T = some t → A.wrap ro ain rout r args σ = some (enc t, σ) := by
 intro t ht
 obtain ⟨⟨v, σ'⟩, h1, h2, h3⟩ := e t ht
 simp only at h2 h3
 subst h3
 exact wrap_eq h (by rw [hn]; exact h1) h2
theorem rf_wrap1 {τ : Type} {ro : Bool} {ain : List Sh} {rout : Sh} {f : AV → Heap → Option (AV × Heap)} {x0 y0 : AV} {σ : Heap} {T : Option τ} {enc : τ → AV} (hn : A.nnL ain [x0] = [y0]) (h : ([x0] : List AV).any A.own = false) (e : Rf (f y0 σ) T (fun t b => A.nn rout b.1 = enc t ∧ b.2 = σ)) : ∀ t, T = some t → A.wrap ro ain rout (A.ar1 f) [x0] σ = some (enc t, σ) := rf_wrap hn h e
theorem rf_wrap2 {τ : Type} {ro : Bool} {ain : List Sh} {rout : Sh} {f : AV → AV → Heap → Option (AV × Heap)} {x0 x1 y0 y1 : AV} {σ : Heap} {T : Option τ} {enc : τ → AV} (hn : A.nnL ain [x0, x1] = [y0, y1]) (h : ([x0, x1] : List AV).any A.own = false) (e : Rf (f y0 y1 σ) T (fun t b => A.nn rout b.1 = enc t ∧ b.2 = σ)) : ∀ t, T = some t → A.wrap ro ain rout (A.ar2 f) [x0, x1] σ = some (enc t, σ) := rf_wrap hn h e
theorem rf_wrap3 {τ : Type} {ro : Bool} {ain : List Sh} {rout : Sh} {f : AV → AV → AV → Heap → Option (AV × Heap)} {x0 x1 x2 y0 y1 y2 : AV} {σ : Heap} {T : Option τ} {enc : τ → AV} (hn : A.nnL ain [x0, x1, x2] = [y0, y1, y2]) (h : ([x0, x1, x2] : List AV).any A.own = false) (e : Rf (f y0 y1 y2 σ) T (fun t b => A.nn rout b.1 = enc t ∧ b.2 = σ)) : ∀ t, T = some t → A.wrap ro ain rout (A.ar3 f) [x0, x1, x2] σ = some (enc t, σ) := rf_wrap hn h e
end Go.Proofs.YtphgchakmkankaaGreat

namespace Go.Proofs.YtphgchakmkankaaGreat
set_option linter.unusedSectionVars false
set_option linter.unusedVariables false
set_option linter.unusedSimpArgs false
inductive Ct where
 | s (sz : Nat) (es : List (List AV))
 | m (es : List (AV × AV))
 | b (cs : List AV)
def idOf : AV → Option Nat
 | .os id _ _ _ _ => some id
 | .om id => some id
 | .op id _ => some id
 | _ => none
def Own (n : Nat) (σ : Heap) (p : AV × Ct) : Prop := match p.2 with
 | .s sz es => (p.1 = .nsl ∧ es = []) ∨ ∃ id g off a, p.1 = .os id g sz off es.length ∧ n ≤ id ∧ σ[id]? = some (.arr g sz a) ∧ off ≤ a.length ∧ a.drop off = es
 | .m es => ∃ id, p.1 = .om id ∧ n ≤ id ∧ σ[id]? = some (.map es)
 | .b cs => ∃ id, p.1 = .op id 0 ∧ n ≤ id ∧ σ[id]? = some (.box cs)
structure Hp (σ0 σ : Heap) (L : List (AV × Ct)) : Prop where
 pre : ∃ bs, σ = σ0 ++ bs
 own : ∀ (i : Nat) p, L[i]? = some p → Own σ0.length σ p
 sep : ∀ (i j : Nat) p q a, L[i]? = some p → L[j]? = some q → idOf p.1 = some a → idOf q.1 = some a → i = j
section
variable {σ0 σ σ' : Heap} {L : List (AV × Ct)} {n : Nat}
theorem hp_nil (σ : Heap) : Hp σ σ [] := ⟨⟨[], by simp⟩, by simp, by simp⟩
theorem own_lt {p : AV × Ct} {a : Nat} (h : Own n σ p) (e : idOf p.1 = some a) : n ≤ a ∧ a < σ.length := by
 obtain ⟨v, c⟩ := p
 cases c with
 | s sz es =>
  rcases h with ⟨h1, _⟩ | ⟨id, g, off, x, h1, h2, h3, _⟩
  ·simp only at h1; subst h1; cases e
  ·simp only at h1; subst h1; injection e with e; subst e; exact ⟨h2, (List.getElem?_eq_some_iff.1 h3).1⟩
 | m es => obtain ⟨id, h1, h2, h3⟩ := h; simp only at h1; subst h1; injection e with e; subst e; exact ⟨h2, (List.getElem?_eq_some_iff.1 h3).1⟩
 | b es => obtain ⟨id, h1, h2, h3⟩ := h; simp only at h1; subst h1; injection e with e; subst e; exact ⟨h2, (List.getElem?_eq_some_iff.1 h3).1⟩
theorem own_mono {p : AV × Ct} (h : Own n σ p) (k : ∀ a, idOf p.1 = some a → σ'[a]? = σ[a]?) : Own n σ' p := by
 obtain ⟨v, c⟩ := p
 cases c with
 | s sz es =>
  rcases h with h | ⟨id, g, off, x, h1, h2, h3, h4⟩
  ·exact .inl h
  ·simp only at h1; subst h1; exact .inr ⟨id, g, off, x, rfl, h2, by rw [k id rfl]; exact h3, h4⟩
 | m es => obtain ⟨id, h1, h2, h3⟩ := h; simp only at h1; subst h1; exact ⟨id, rfl, h2, by rw [k id rfl]; exact h3⟩
 | b es => obtain ⟨id, h1, h2, h3⟩ := h; simp only at h1; subst h1; exact ⟨id, rfl, h2, by rw [k id rfl]; exact h3⟩
theorem pre_set (h : ∃ bs, σ = σ0 ++ bs) {id : Nat} (hn : σ0.length ≤ id) (b : Blk) : ∃ bs, σ.set id b = σ0 ++ bs := by
 obtain ⟨bs, rfl⟩ := h
 exact ⟨bs.set (id - σ0.length) b, by rw [List.set_append_right _ _ hn]⟩
theorem hp_set (H : Hp σ0 σ L) {k id : Nat} {h h' : AV} {c c' : Ct} {b : Blk} (hk : L[k]? = some (h, c)) (hi : idOf h = some id) (hi' : idOf h' = some id) (ho : Own σ0.length (σ.set id b) (h', c')) : Hp σ0 (σ.set id b) (L.set k (h', c')) := by
 have hid := own_lt (H.own k _ hk) hi
 have hkl := (List.getElem?_eq_some_iff.1 hk).1
 refine ⟨pre_set H.pre hid.1 b, fun i p hp => ?_, fun i j p q a hp hq e1 e2 => ?_⟩
 ·rw [List.getElem?_set] at hp
  split at hp
  ·rename_i e; subst e; simp [hkl] at hp; subst hp; exact ho
  ·rename_i e
   refine own_mono (H.own i p hp) fun a ha => ?_
   rw [List.getElem?_set]
   split
   ·rename_i e'; subst e'; exact absurd (H.sep k i _ _ id hk hp hi ha) e
   ·rfl
 ·have key : ∀ (i : Nat) (p : AV × Ct), (L.set k (h', c'))[i]? = some p → idOf p.1 = some a → ∃ p', L[i]? = some p' ∧ idOf p'.1 = some a := by
   intro i p hp e
   rw [List.getElem?_set] at hp
   split at hp
   ·rename_i e'; subst e'; simp [hkl] at hp; subst hp; exact ⟨_, hk, by rw [hi]; rw [hi'] at e; exact e⟩
   ·exact ⟨p, hp, e⟩
  obtain ⟨p', hp', e1'⟩ := key i p hp e1
  obtain ⟨q', hq', e2'⟩ := key j q hq e2
  exact H.sep i j p' q' a hp' hq' e1' e2'
theorem hp_push (H : Hp σ0 σ L) {h' : AV} {c' : Ct} {b : Blk} (hi' : idOf h' = some σ.length) (ho : Own σ0.length (σ ++ [b]) (h', c')) : Hp σ0 (σ ++ [b]) (L ++ [(h', c')]) := by
 refine ⟨?_, fun i p hp => ?_, fun i j p q a hp hq e1 e2 => ?_⟩
 ·obtain ⟨bs, rfl⟩ := H.pre; exact ⟨bs ++ [b], by simp⟩
 ·rw [List.getElem?_append] at hp
  split at hp
  ·refine own_mono (H.own i p hp) fun a ha => ?_
   have := (own_lt (H.own i p hp) ha).2
   rw [List.getElem?_append_left this]
  ·have hp' := (List.getElem?_eq_some_iff.1 hp).2
   simp at hp'; subst hp'; exact ho
 ·have key : ∀ (i : Nat) (p : AV × Ct), (L ++ [(h', c')])[i]? = some p → idOf p.1 = some a → (i = L.length ∧ a = σ.length) ∨ (L[i]? = some p ∧ a < σ.length) := by
   intro i p hp e
   rw [List.getElem?_append] at hp
   split at hp
   ·exact .inr ⟨hp, (own_lt (H.own i p hp) e).2⟩
   ·obtain ⟨h1, h2⟩ := List.getElem?_eq_some_iff.1 hp
    simp at h1 h2; subst h2; rw [hi'] at e; injection e with e; exact .inl ⟨by omega, e.symm⟩
  rcases key i p hp e1 with ⟨a1, a2⟩ | ⟨a1, a2⟩ <;> rcases key j q hq e2 with ⟨b1, b2⟩ | ⟨b1, b2⟩
  ·omega
  ·omega
  ·omega
  ·exact H.sep i j p q a a1 b1 e1 e2
theorem hp_om (H : Hp σ0 σ L) : Hp σ0 (σ ++ [.map []]) (L ++ [(.om σ.length, .m [])]) := by
 have hl : σ0.length ≤ σ.length := by obtain ⟨bs, rfl⟩ := H.pre; simp
 exact hp_push H rfl ⟨σ.length, rfl, hl, by simp⟩
theorem hp_mupd (H : Hp σ0 σ L) {k : Nat} {h key v : AV} {ek : A.EK} {es es' : List (AV × AV)} (hk : L[k]? = some (h, .m es)) (hok : A.keyOk ek key = true) (he : A.upd ek key v es = some es') : ∃ σ', A.mupd ek h key v σ = some σ' ∧ Hp σ0 σ' (L.set k (h, .m es')) := by
 obtain ⟨id, h1, h2, h3⟩ := H.own k _ hk
 simp only at h1 h3
 subst h1
 have hid := (List.getElem?_eq_some_iff.1 h3).1
 exact ⟨σ.set id (.map es'), by simp [A.mupd, hok, h3, he], hp_set H hk rfl rfl ⟨id, rfl, h2, by simp [hid]⟩⟩
theorem hp_mdel (H : Hp σ0 σ L) {k : Nat} {h key : AV} {ek : A.EK} {es es' : List (AV × AV)} (hk : L[k]? = some (h, .m es)) (hok : A.keyOk ek key = true) (he : A.del ek key es = some es') : ∃ σ', A.mdel ek h key σ = some σ' ∧ Hp σ0 σ' (L.set k (h, .m es')) := by
 obtain ⟨id, h1, h2, h3⟩ := H.own k _ hk
 simp only at h1 h3
 subst h1
 have hid := (List.getElem?_eq_some_iff.1 h3).1
 exact ⟨σ.set id (.map es'), by simp [A.mdel, hok, h3, he], hp_set H hk rfl rfl ⟨id, rfl, h2, by simp [hid]⟩⟩
def Fzv (σ0 σ : Heap) (r r' : AV) : Prop := (∀ d, A.frz σ σ0.length (d + 1) r = some r') ∧ (σ = σ0 → r' = r)
theorem nn_t1 {s1 : Sh} {v1 w1 : AV} {ss : List Sh} {vs ws : List AV} (h1 : A.nn s1 v1 = w1) (h2 : A.nnL ss vs = ws) : A.nnL (s1 :: ss) (v1 :: vs) = w1 :: ws := by simp only [A.nnL, h1, h2]
theorem nn_t0 : A.nnL [] [] = [] := by simp [A.nnL]
theorem nn_a {ss : List Sh} {vs ws : List AV} (h : A.nnL ss vs = ws) : A.nn (.a ss) (.agg vs) = .agg ws := by simp only [A.nn, h]
theorem frzM_fz (d : Nat) : ∀ {es : List (AV × AV)}, (∀ p ∈ es, Fz p.1 ∧ Fz p.2) → A.frzM' σ n d es = some es
 | [], _ => by simp [A.frzM']
 | (k, v) :: es, h => by
  have h1 := h (k, v) (by simp)
  simp only [A.frzM', h1.1 σ n d, h1.2 σ n d, Option.bind_some, frzM_fz d (es := es) (fun p hp => h p (by simp [hp])), Option.map_some]
theorem fzv_om (H : Hp σ0 σ L) {k : Nat} {h : AV} {es : List (AV × AV)} (hk : L[k]? = some (h, .m es)) (hc : ∀ p ∈ es, Fz p.1 ∧ Fz p.2) : Fzv σ0 σ h (.fm es) := by
 obtain ⟨id, h1, h2, h3⟩ := H.own k _ hk
 simp only at h1 h3
 subst h1
 refine ⟨fun d => ?_, fun e => ?_⟩
 ·simp only [A.frz, Nat.not_lt.2 h2, if_false, h3, frzM_fz d hc, Option.map_some]
 ·subst e
  have := (List.getElem?_eq_some_iff.1 h3).1
  omega
theorem hp_fin (H : Hp σ0 σ L) {r r' : AV} (h : Fzv σ0 σ r r') : A.fin σ0 r σ = some (r', σ0) := by
 obtain ⟨bs, hb⟩ := H.pre
 subst hb
 by_cases hbs : bs = []
 ·subst hbs
  rw [List.append_nil] at h ⊢
  rw [fin_same, h.2 rfl]
 ·unfold A.fin
  rw [if_neg (by simpa using hbs), if_pos (by simp), h.1 7]; rfl
end
section
variable {κ ν : Type} [DecidableEq κ]
def tfind (k : κ) : List (κ × ν) → Option ν
 | [] => none
 | (k', v) :: r => if k = k' then some v else tfind k r
def tupd (k : κ) (v : ν) : List (κ × ν) → List (κ × ν)
 | [] => [(k, v)]
 | (k', v') :: r => if k = k' then (k, v) :: r else (k', v') :: tupd k v r
def tdel (k : κ) : List (κ × ν) → List (κ × ν)
 | [] => []
 | (k', v') :: r => if k = k' then r else (k', v') :: tdel k r
variable {ek : A.EK} {eK : κ → AV} {eV : ν → AV} (hq : ∀ a b, A.eqK ek (eK a) (eK b) = some (decide (a = b)))
include hq
theorem find_t (k : κ) : ∀ l : List (κ × ν), A.find ek (eK k) (l.map fun p => (eK p.1, eV p.2)) = some ((tfind k l).map eV)
 | [] => rfl
 | (k', v) :: r => by
  simp only [List.map_cons, A.find, hq, Option.bind_some, tfind]
  by_cases h : k = k'
  ·simp [h]
  ·simp [h, find_t k r]
theorem upd_t (k : κ) (v : ν) : ∀ l : List (κ × ν), A.upd ek (eK k) (eV v) (l.map fun p => (eK p.1, eV p.2)) = some ((tupd k v l).map fun p => (eK p.1, eV p.2))
 | [] => rfl
 | (k', v') :: r => by
  simp only [List.map_cons, A.upd, hq, Option.bind_some, tupd]
  by_cases h : k = k'
  ·simp [h]
  ·simp [h, upd_t k v r]
theorem del_t (k : κ) : ∀ l : List (κ × ν), A.del ek (eK k) (l.map fun p => (eK p.1, eV p.2)) = some ((tdel k l).map fun p => (eK p.1, eV p.2))
 | [] => rfl
 | (k', v') :: r => by
  simp only [List.map_cons, A.del, hq, Option.bind_some, tdel]
  by_cases h : k = k'
  ·simp [h]
  ·simp [h, del_t k r]
end
theorem getD_map {α : Type} (o : Option α) (f : α → AV) (d : α) : (o.map f).getD (f d) = f (o.getD d) := by cases o <;> rfl
theorem isSome_map {α : Type} (o : Option α) (f : α → AV) : (o.map f).isSome = o.isSome := by cases o <;> rfl
def fmE {κ ν : Type} (eK : κ → AV) (eV : ν → AV) (l : List (κ × ν)) : AV := .fm (l.map fun p => (eK p.1, eV p.2))
section
variable {κ ν : Type} [DecidableEq κ] {ek : A.EK} {eK : κ → AV} {eV : ν → AV} {σ0 σ : Heap} {L : List (AV × Ct)} {h : AV} {l : List (κ × ν)}
theorem hp_updT (H : Hp σ0 σ L) (k : Nat) (hk : L[k]? = some (h, .m (l.map fun p => (eK p.1, eV p.2)))) (hq : ∀ a b, A.eqK ek (eK a) (eK b) = some (decide (a = b))) (x : κ) (v : ν) (hok : A.keyOk ek (eK x) = true) : ∃ σ', A.mupd ek h (eK x) (eV v) σ = some σ' ∧ Hp σ0 σ' (L.set k (h, .m ((tupd x v l).map fun p => (eK p.1, eV p.2)))) := hp_mupd H hk hok (upd_t hq x v l)
theorem hp_delT (H : Hp σ0 σ L) (k : Nat) (hk : L[k]? = some (h, .m (l.map fun p => (eK p.1, eV p.2)))) (hq : ∀ a b, A.eqK ek (eK a) (eK b) = some (decide (a = b))) (x : κ) (hok : A.keyOk ek (eK x) = true) : ∃ σ', A.mdel ek h (eK x) σ = some σ' ∧ Hp σ0 σ' (L.set k (h, .m ((tdel x l).map fun p => (eK p.1, eV p.2)))) := hp_mdel H hk hok (del_t hq x l)
theorem fm_lookOkT (hq : ∀ a b, A.eqK ek (eK a) (eK b) = some (decide (a = b))) (x : κ) (z : ν) (hok : A.keyOk ek (eK x) = true) : A.lookOk ek (fmE eK eV l) (eK x) (eV z) σ = some (.tup [eV ((tfind x l).getD z), .bool (tfind x l).isSome]) := by
 simp only [A.lookOk, fmE, hok, cond_true, A.entries, Option.bind_some, find_t hq, Option.map_some, getD_map, isSome_map]
end
section
variable {α : Type} {c : α → List AV} {l ys : List α} {σ0 σ : Heap} {L : List (AV × Ct)} {h : AV} {sz : Nat}
end
def tSl {α : Type} (l : List α) (lo hi : Option Int) : Option (List α) :=
 let h := hi.getD l.length
 let k := lo.getD 0
 if 0 ≤ k ∧ k ≤ h ∧ h ≤ l.length then some ((l.take h.toNat).drop k.toNat) else none
theorem sls_at {α : Type} {sz : Nat} {c : α → List AV} {l r : List α} {lo hi : Option Int} {σ : Heap} (h : tSl l lo hi = some r) : A.sliceS sz (sl sz c l) (lo.map (.int .i64)) (hi.map (.int .i64)) σ = some (sl sz c r) := by
 unfold tSl at h
 simp only at h
 split at h
 ·rename_i hc
  injection h with h
  subst h
  obtain ⟨h1, h2, h3⟩ := hc
  simp only [A.sliceS, sl, if_true, List.length_map]
  have e1 : A.bound l.length l.length (hi.map (.int .i64)) = some (hi.getD l.length).toNat := by
   cases hi with
   | none => simp [A.bound]
   | some h => simp only [Option.getD_some] at h2 h3; simp [A.bound, show 0 ≤ h by omega, h3]
  have e2 : A.bound (hi.getD l.length).toNat 0 (lo.map (.int .i64)) = some (lo.getD 0).toNat := by
   cases lo with
   | none => simp [A.bound]
   | some k =>
    simp only [Option.getD_some] at h1 h2
    have : k ≤ ((hi.getD l.length).toNat : Int) := by omega
    simp only [Option.map_some, A.bound, Option.getD_some]
    rw [if_pos ⟨h1, this⟩]
  rw [e1, Option.bind_some, e2, Option.map_some, List.map_drop, List.map_take]
 ·cases h
end Go.Proofs.YtphgchakmkankaaGreat

namespace Go.Proofs.YtphgchakmkankaaGreat
set_option linter.unusedSectionVars false
set_option linter.unusedVariables false
set_option linter.unusedSimpArgs false
def chkE {α : Type} (f : Nat → α → Int) : List α → Nat → Int
 | [], _ => 0
 | x :: l, i => if f i x = 0 then chkE f l (i + 1) else f i x
section
variable {α β γ S B R : Type}
theorem chkE_zero {f : Nat → α → Int} : ∀ (l : List α) (i : Nat), chkE f l i = 0 ↔ ∀ j x, l[j]? = some x → f (i + j) x = 0
 | [], i => by simp [chkE]
 | y :: l, i => by
  rw [chkE]
  by_cases h : f i y = 0
  ·rw [if_pos h, chkE_zero l (i + 1)]
   constructor
   ·intro k j x hx
    cases j with
    | zero => simp at hx; subst hx; exact h
    | succ j => have := k j x (by simpa using hx); rwa [show i + 1 + j = i + (j + 1) by omega] at this
   ·intro k j x hx
    have := k (j + 1) x (by simpa using hx)
    rwa [show i + (j + 1) = i + 1 + j by omega] at this
  ·rw [if_neg h]
   exact ⟨fun e => absurd e h, fun k => absurd (k 0 y rfl) h⟩
theorem forE_le {l : List α} {body : Nat → α → S → Option (Lr S B R)} {fin : S → Option B} {s : S} {K1 : B → Option γ} {K2 : R → Option γ} (hl : l.length ≤ mxl) : forE l body fin s K1 K2 = (forL body fin l 0 s).bind fun q => q.elim K1 K2 := if_pos hl
theorem forE_chk {f : Nat → α → Int} {l : List α} {body : Nat → α → Unit → Option (Lr Unit Unit Int)} {fin : Unit → Option Unit} {s : Unit} {K1 : Unit → Option γ} {K2 : Int → Option γ} (hl : l.length ≤ mxl) (hb : ∀ i x, l[i]? = some x → body i x () = some (if f i x = 0 then .go () else .ret (f i x))) (hf : fin () = some () := by rfl) : forE l body fin s K1 K2 = if chkE f l 0 = 0 then K1 () else K2 (chkE f l 0) := by
 rw [forE_le hl]
 have key : ∀ (rest pre : List α), l = pre ++ rest → forL body fin rest pre.length () = some (if chkE f rest pre.length = 0 then .inl () else .inr (chkE f rest pre.length)) := by
  intro rest
  induction rest with
  | nil => intro pre _; simp [forL, hf, chkE]
  | cons x rest ih =>
   intro pre hp
   rw [forL, hb pre.length x (by rw [hp]; simp), Option.bind_some, chkE]
   by_cases h : f pre.length x = 0
   ·simp only [h, if_true]
    have := ih (pre ++ [x]) (by simpa using hp)
    simpa using this
   ·simp only [h, if_false]
 have k := key l [] rfl
 rw [List.length_nil] at k
 rw [show s = () from rfl, k, Option.bind_some]
 split <;> rfl
theorem ite_ret {p : Prop} [Decidable p] {k f : Int} {Y : Option (Lr Unit Unit Int)} (hk : k ≠ 0) (h : Y = some (if f = 0 then .go () else .ret f)) : (if p then some (.ret k) else Y) = some (if (if p then k else f) = 0 then .go () else .ret (if p then k else f)) := by
 by_cases hp : p
 ·simp [hp, hk]
 ·simp [hp, h]
theorem go_ret : (some (.go ()) : Option (Lr Unit Unit Int)) = some (if (0 : Int) = 0 then .go () else .ret 0) := rfl
theorem forE_find {p : α → Bool} {l : List α} {body : Nat → α → Unit → Option (Lr Unit Unit R)} {r : α → R} {fin : Unit → Option Unit} {s : Unit} {K1 : Unit → Option γ} {K2 : R → Option γ} (hl : l.length ≤ mxl) (hb : ∀ i x, l[i]? = some x → body i x () = some (if p x = true then .ret (r x) else .go ())) (hf : fin () = some () := by rfl) : forE l body fin s K1 K2 = match l.find? p with | some x => K2 (r x) | none => K1 () := by
 rw [forE_le hl]
 have key : ∀ (rest pre : List α), l = pre ++ rest → forL body fin rest pre.length () = some (match rest.find? p with | some x => .inr (r x) | none => .inl ()) := by
  intro rest
  induction rest with
  | nil => intro pre _; simp [forL, hf]
  | cons x rest ih =>
   intro pre hp
   rw [forL, hb pre.length x (by rw [hp]; simp), Option.bind_some, List.find?_cons]
   cases h : p x
   ·simp only [Bool.false_eq_true, if_false]
    have := ih (pre ++ [x]) (by simpa using hp)
    simpa using this
   ·simp only [if_true]
 have k := key l [] rfl
 rw [List.length_nil] at k
 rw [show s = () from rfl, k, Option.bind_some]
 cases l.find? p <;> rfl
theorem forE_fold {l : List α} {body : Nat → α → S → Option (Lr S B R)} {fin : S → Option B} {s : S} {K1 : B → Option γ} {K2 : R → Option γ} (g : S → α → S) (P : Nat → S → Prop) (hl : l.length ≤ mxl) (h0 : P 0 s) (hP : ∀ i x s, l[i]? = some x → P i s → P (i + 1) (g s x)) (hb : ∀ i x s, l[i]? = some x → P i s → body i x s = some (.go (g s x))) : forE l body fin s K1 K2 = (fin (l.foldl g s)).bind K1 := by
 rw [forE_le hl]
 have key : ∀ (rest pre : List α) (s : S), l = pre ++ rest → P pre.length s → forL body fin rest pre.length s = (fin (rest.foldl g s)).map .inl := by
  intro rest
  induction rest with
  | nil => intro pre s _ _; simp [forL]
  | cons x rest ih =>
   intro pre s hp hq
   have hx : l[pre.length]? = some x := by rw [hp]; simp
   rw [forL, hb pre.length x s hx hq, Option.bind_some, List.foldl_cons]
   have := ih (pre ++ [x]) (g s x) (by simpa using hp) (by simpa using hP _ _ _ hx hq)
   simpa using this
 have k := key l [] s rfl h0
 rw [List.length_nil] at k
 rw [k]
 cases fin (l.foldl g s) <;> rfl
def pv [Inhabited α] (l : List α) (i : Nat) : α := if 0 < i then l.getD (i - 1) default else default
theorem tIx_get {l : List α} {i : Int} {x : α} (h0 : 0 ≤ i) (h : l[i.toNat]? = some x) : tIx l i = some x := by rw [tIx, if_pos h0, h]
theorem prev_at [Inhabited α] {l : List α} {i : Nat} {x : α} (h : l[i]? = some x) (hl : l.length ≤ mxl) : (if decide (0 < (i : Int)) = true then tIx l (IntKind.i64.wrap ((i : Int) - 1)) else some default) = some (pv l i) := by
 have hi := (List.getElem?_eq_some_iff.1 h).1
 unfold pv
 by_cases h0 : 0 < i
 ·rw [if_pos (by simpa using h0), if_pos h0, wrap64 (by unfold inI; unfold mxl at hl; omega)]
  refine tIx_get (by omega) ?_
  have : ((i : Int) - 1).toNat = i - 1 := by omega
  rw [this, List.getD, List.getElem?_eq_getElem (by omega)]
  rfl
 ·rw [if_neg (by simpa using h0), if_neg h0]
theorem last_at [Inhabited α] {l : List α} {i : Nat} {x : α} (h : l[i]? = some x) (hl : l.length ≤ mxl) : (if decide (0 < ((l.take i).length : Int)) = true then tIx (l.take i) (IntKind.i64.wrap (((l.take i).length : Int) - 1)) else some default) = some (pv l i) := by
 have hi := (List.getElem?_eq_some_iff.1 h).1
 have e : (l.take i).length = i := by simp; omega
 rw [e]
 unfold pv
 by_cases h0 : 0 < i
 ·rw [if_pos (by simpa using h0), if_pos h0, wrap64 (by unfold inI; unfold mxl at hl; omega)]
  refine tIx_get (by omega) ?_
  have : ((i : Int) - 1).toNat = i - 1 := by omega
  rw [this, List.getD, List.getElem?_take, if_pos (by omega), List.getElem?_eq_getElem (by omega)]
  rfl
 ·rw [if_neg (by simpa using h0), if_neg h0]
theorem tSl_pre {l : List α} {i : Nat} (h : i ≤ l.length) : tSl l none (some (i : Int)) = some (l.take i) := by
 simp [tSl, h]
theorem find2 {a b : Int} : (([a, b] : List Int).find? fun n => decide (¬ n = 0)).getD 0 = if ¬ (a = 0) then a else b := by
 by_cases ha : a = 0
 ·by_cases hb : b = 0 <;> simp [ha, hb, List.find?]
 ·simp [ha, List.find?]
theorem find3 {a b c : Int} : (([a, b, c] : List Int).find? fun n => decide (¬ n = 0)).getD 0 = if ¬ (a = 0) then a else if ¬ (b = 0) then b else c := by
 by_cases ha : a = 0
 ·by_cases hb : b = 0
  ·by_cases hc : c = 0 <;> simp [ha, hb, hc, List.find?]
  ·simp [ha, hb, List.find?]
 ·simp [ha, List.find?]
end
theorem toList_d (s : ByteArray) : s.toList = s.data.toList := ByteArray.toList_eq s
theorem cmpB_lt : ∀ (a b : List UInt8), Lib.compareBytes a b < 0 ↔ Op.bytesLess a b = true
 | [], [] => by simp [Lib.compareBytes, Op.bytesLess]
 | [], _ :: _ => by simp [Lib.compareBytes, Op.bytesLess]
 | _ :: _, [] => by simp [Lib.compareBytes, Op.bytesLess]
 | a :: x, b :: y => by
  rw [Lib.compareBytes, Op.bytesLess]
  by_cases h1 : a < b
  ·simp [h1]
  ·by_cases h2 : b < a
   ·have : a ≠ b := by rintro rfl; exact h1 h2
    simp [h1, h2, this]
   ·have : a = b := UInt8.le_antisymm (UInt8.not_lt.1 h2) (UInt8.not_lt.1 h1)
    subst this
    simp [UInt8.lt_irrefl, cmpB_lt x y]
theorem cmpB_eq : ∀ (a b : List UInt8), Lib.compareBytes a b = 0 ↔ a = b
 | [], [] => by simp [Lib.compareBytes]
 | [], _ :: _ => by simp [Lib.compareBytes]
 | _ :: _, [] => by simp [Lib.compareBytes]
 | a :: x, b :: y => by
  rw [Lib.compareBytes]
  by_cases h1 : a < b
  ·have : a ≠ b := by rintro rfl; exact UInt8.lt_irrefl _ h1
   simp [h1, this]
  ·by_cases h2 : b < a
   ·have : a ≠ b := by rintro rfl; exact UInt8.lt_irrefl _ h2
    simp [h1, h2, this]
   ·have : a = b := UInt8.le_antisymm (UInt8.not_lt.1 h2) (UInt8.not_lt.1 h1)
    subst this
    simp [UInt8.lt_irrefl, cmpB_eq x y]
def ltK (a b : KeyD) : Bool := decide (a.unit < b.unit) || (decide (a.unit = b.unit) && Op.bytesLess a.param.toList b.param.toList)
def cmpK (a b : KeyD) : Int := if ¬ (a.unit = b.unit) then (if a.unit < b.unit then -1 else 1) else Lib.compareBytes a.param.data.toList b.param.data.toList
theorem cmpK_lt (a b : KeyD) : cmpK a b < 0 ↔ ltK a b = true := by
 unfold cmpK ltK
 by_cases h : a.unit = b.unit
 ·simp [h, toList_d, cmpB_lt]
 ·by_cases h2 : a.unit < b.unit <;> simp [h, h2]
theorem cmpK_ge (a b : KeyD) : decide (0 ≤ cmpK a b) = !ltK a b := by
 have := cmpK_lt a b
 cases h : ltK a b
 ·rw [h] at this; simp at this; simp [this]
 ·rw [h] at this; simp at this; simp [this]
theorem cmpK_eq (a b : KeyD) : cmpK a b = 0 ↔ a = b := by
 obtain ⟨u, p⟩ := a
 obtain ⟨v, q⟩ := b
 unfold cmpK
 by_cases h : u = v
 ·subst h
  simp only [not_true_eq_false, if_false, cmpB_eq, KeyD.mk.injEq, true_and]
  exact ⟨fun e => by obtain ⟨⟨p⟩⟩ := p; obtain ⟨⟨q⟩⟩ := q; simp at e; subst e; rfl, fun e => by rw [e]⟩
 ·by_cases h2 : u < v <;> simp [h, h2]
end Go.Proofs.YtphgchakmkankaaGreat

namespace Go.Proofs.YtphgchakmkankaaGreat
set_option linter.unusedSectionVars false
set_option linter.unusedVariables false
set_option linter.unusedSimpArgs false
open Go.Sort
theorem bl_irr : ∀ a : List UInt8, Op.bytesLess a a = false
 | [] => rfl
 | x :: l => by simp [Op.bytesLess, UInt8.lt_irrefl, bl_irr l]
theorem bl_trans : ∀ a b c : List UInt8, Op.bytesLess a b = true → Op.bytesLess b c = true → Op.bytesLess a c = true
 | [], [], c, h, _ => by simp [Op.bytesLess] at h
 | [], _ :: _, [], _, k => by simp [Op.bytesLess] at k
 | [], _ :: _, _ :: _, _, _ => rfl
 | _ :: _, [], c, h, _ => by simp [Op.bytesLess] at h
 | _ :: _, _ :: _, [], _, k => by simp [Op.bytesLess] at k
 | x :: a, y :: b, z :: c, h, k => by
  rw [Op.bytesLess] at h k ⊢
  simp only [Bool.or_eq_true, Bool.and_eq_true, decide_eq_true_eq, beq_iff_eq] at h k ⊢
  rcases h with h | ⟨rfl, h⟩ <;> rcases k with k | ⟨rfl, k⟩
  ·exact .inl (UInt8.lt_trans h k)
  ·exact .inl h
  ·exact .inl k
  ·exact .inr ⟨rfl, bl_trans a b c h k⟩
theorem ltK_irr (a : KeyD) : ltK a a = false := by simp [ltK, bl_irr]
theorem ltK_trans {a b c : KeyD} (h : ltK a b = true) (k : ltK b c = true) : ltK a c = true := by
 simp only [ltK, Bool.or_eq_true, Bool.and_eq_true, decide_eq_true_eq] at h k ⊢
 rcases h with h | ⟨h1, h2⟩ <;> rcases k with k | ⟨k1, k2⟩
 ·left; omega
 ·left; omega
 ·left; omega
 ·right; exact ⟨by omega, bl_trans _ _ _ h2 k2⟩
theorem ltK_tri {a b : KeyD} (h : ltK a b = false) (k : ltK b a = false) : a = b := by
 rw [← cmpK_eq]
 have h1 : ¬ cmpK a b < 0 := fun e => by rw [(cmpK_lt a b).1 e] at h; cases h
 have hba : cmpK b a = - cmpK a b ∨ True := .inr trivial
 -- what is neither smaller nor greater is the same
 unfold cmpK at h1 ⊢
 simp only [ltK, Bool.or_eq_false_iff, Bool.and_eq_false_iff, decide_eq_false_iff_not] at h k
 have hu : a.unit = b.unit := by omega
 simp only [hu, not_true_eq_false, if_false] at h1 ⊢
 have e1 : Op.bytesLess a.param.data.toList b.param.data.toList = false := by
  rcases h.2 with q | q
  ·exact absurd hu q
  ·simpa [toList_d] using q
 have e2 : Op.bytesLess b.param.data.toList a.param.data.toList = false := by
  rcases k.2 with q | q
  ·exact absurd hu.symm q
  ·simpa [toList_d] using q
 rw [cmpB_eq]
 have tri : ∀ x y : List UInt8, Op.bytesLess x y = false → Op.bytesLess y x = false → x = y := by
  intro x
  induction x with
  | nil => intro y p q; cases y with | nil => rfl | cons y l => simp [Op.bytesLess] at p
  | cons x xs ih =>
   intro y p q
   cases y with
   | nil => simp [Op.bytesLess] at q
   | cons y ys =>
    rw [Op.bytesLess] at p q
    by_cases h1 : x < y
    ·simp [h1] at p
    ·by_cases h2 : y < x
     ·simp [h2] at q
     ·have : x = y := UInt8.le_antisymm (UInt8.not_lt.1 h2) (UInt8.not_lt.1 h1)
      subst this
      simp [h1] at p q
      rw [ih ys p q]
 exact tri _ _ e1 e2
theorem cmpKey_lt (a b : KeyD) : cmpKey a b < 0 ↔ ltK a b = true := cmpK_lt a b
theorem swo_key {α : Type} (f : α → KeyD) : SWO (fun x y => decide (cmpKey (f x) (f y) < 0)) := by
 refine ⟨fun x => ?_, fun x y z h k => ?_, fun x y z h k => ?_⟩
 ·exact decide_eq_false fun h => by rw [cmpKey_lt, ltK_irr] at h; cases h
 ·have h := (cmpKey_lt _ _).1 (of_decide_eq_true h)
  have k := (cmpKey_lt _ _).1 (of_decide_eq_true k)
  exact decide_eq_true ((cmpKey_lt _ _).2 (ltK_trans h k))
 ·have h : ltK (f x) (f y) = false := by
   cases q : ltK (f x) (f y)
   ·rfl
   ·exact absurd ((cmpKey_lt _ _).2 q) (of_decide_eq_false h)
  have k : ltK (f y) (f z) = false := by
   cases q : ltK (f y) (f z)
   ·rfl
   ·exact absurd ((cmpKey_lt _ _).2 q) (of_decide_eq_false k)
  refine decide_eq_false fun q => ?_
  have q := (cmpKey_lt _ _).1 q
  cases e : ltK (f y) (f x)
  ·have := ltK_tri h e
   rw [this, k] at q; cases q
  ·have := ltK_trans e q
   rw [k] at this; cases this
theorem cMove_inj (x y : MoveD) (h : cMove x = cMove y) : x = y := by
 obtain ⟨⟨a, b⟩, ⟨p, q⟩, r, t, d, u⟩ := x
 obtain ⟨⟨a', b'⟩, ⟨p', q'⟩, r', t', d', u'⟩ := y
 simp [cMove] at h
 obtain ⟨rfl, rfl, rfl, rfl, rfl, rfl, rfl, rfl⟩ := h
 rfl
end Go.Proofs.YtphgchakmkankaaGreat

namespace Go.Proofs.YtphgchakmkankaaGreat
set_option linter.unusedSectionVars false
open Go.RowKit Go.Sort
set_option maxRecDepth 100000
set_option linter.unusedVariables false
set_option linter.unusedSimpArgs false
theorem sorted_world {α : Type} [Inhabited α] {enc : α → List Value} {k : Nat} (hk : ∀ x, (enc x).length = k) {w : World} {b off n : Nat} {d d' : Array α} {os : Array Obj} {arr : Array Value} {bt : TypeId} (hs : d'.size = d.size)
  (hb : w.heap[b]? = some (.cells arr bt (0, 0))) (hfit : off + d.size * k ≤ arr.size) :
  Below w.heap.size (w.setB b (.cells (spl arr off (d'.toList.flatMap enc)) bt (0, 0))) (sortWorldK enc k w b off n d' os) := by
 have hlt : b < w.heap.size := (Array.getElem?_eq_some_iff.1 hb).1
 have hfl : (d'.toList.flatMap enc).length = d'.size * k := by
  have : ∀ l : List α, (l.flatMap enc).length = l.length * k := by
   intro l
   induction l with
   | nil => simp
   | cons x l ih => simp [hk, ih, Nat.add_mul]; omega
  rw [this, Array.length_toList]
 have hget : ∀ (l : List α) (t : Nat), t < l.length * k → (l.flatMap enc)[t]? = some ((enc l.toArray[t / k]!)[t % k]!) := by
  intro l
  induction l with
  | nil => intro t ht; simp at ht
  | cons x l ih =>
   intro t ht
   have hk0 : 0 < k := Nat.pos_of_ne_zero fun e => by subst e; simp at ht
   rw [List.flatMap_cons]
   by_cases h : t < k
   ·rw [List.getElem?_append_left (by rw [hk]; exact h), Nat.div_eq_of_lt h, Nat.mod_eq_of_lt h]
    simp [hk, h]
   ·rw [List.getElem?_append_right (by rw [hk]; omega), hk, ih (t - k) (by simp [Nat.add_mul] at ht; omega)]
    have e1 : t / k = (t - k) / k + 1 := by rw [Nat.div_eq_sub_div hk0 (by omega)]
    have e2 : t % k = (t - k) % k := by rw [Nat.mod_eq_sub_mod (by omega)]
    rw [e1, e2]
    simp
 have hcells : putCells id off (flatK enc k d') arr = spl arr off (d'.toList.flatMap enc) := by
  apply Array.ext_getElem?
  intro j
  rw [spl_get _ _ _ (by rw [hfl, hs]; omega)]
  simp only [putCells, Array.getElem?_mapIdx, size_flatK]
  by_cases hj : off ≤ j ∧ j < off + d'.size * k
  ·rw [if_pos (by rw [hfl]; exact hj)]
   have hja : j < arr.size := by rw [hs] at hj; omega
   rw [Array.getElem?_eq_getElem hja, Option.map_some, if_pos hj]
   have := hget d'.toList (j - off) (by rw [Array.length_toList]; omega)
   rw [this]
   simp only [id]
   rw [get_flatK _ _ _ _ (by omega)]
  ·rw [if_neg (by rw [hfl]; exact hj)]
   by_cases hja : j < arr.size
   ·rw [Array.getElem?_eq_getElem hja, Option.map_some, if_neg hj]
   ·rw [Array.getElem?_eq_none (by omega), Option.map_none]
 refine ⟨rfl, rfl, rfl, ?_, fun i hi => ?_⟩
 ·rw [size_setB]
  simp [sortWorldK, grow, putRowK, putRow, mapBlock, Sort.ahead]
 ·have hi' : i < (putRowK enc k (Sort.ahead w n) b off d').heap.size := by simp [putRowK, putRow, mapBlock, Sort.ahead]; exact hi
  show (grow (putRowK enc k (Sort.ahead w n) b off d') os).heap[i]? = _
  unfold grow
  simp only
  rw [Array.getElem?_append_left hi']
  simp only [putRowK, putRow, mapBlock, Sort.ahead]
  rw [Array.getElem?_modify]
  by_cases h : b = i
  ·subst h
   rw [if_pos rfl, heap_setB_same _ hlt, hb]
   simp only [Option.map_some, onCells, hcells]
  ·rw [if_neg h, heap_setB_other _ h]
theorem sort_sound {P : Program} {nm : List Nat} {f g : FuncId} {α : Type} [Inhabited α] {sz : Nat} {c : α → List AV} {enc : α → List Value} {cf : α → α → Int} (hsz : 0 < sz) (hinj : ∀ x y, c x = c y → x = y) (hcl : ∀ x, (c x).length = sz)
  (hrep : ∀ cc x, RepL cc (c x) (enc x)) (huniq : ∀ cc x vs, RepL cc (c x) vs → vs = enc x) (hone : ∀ x, ∀ v ∈ enc x, one1 v = true)
  (hf : ∀ us w, (callFunc f us).run P w = .ok (.enter f us) w) (hnone : ∀ w, Calls P f #[.slice none 0 0, .func (.func g) #[] #[]] w fun e w' => e = .returned (.tuple #[]) ∧ Below w.heap.size w w')
  (hmain : ∀ (blk off cap : Nat) (d : Array α) (w : World), HoldsK enc sz w blk off d → blk < w.heap.size → d.size < 4611686018427387904 → Calls P f #[.slice (some ⟨blk, off, none⟩) d.size cap, .func (.func g) #[] #[]] w fun e w' =>
   e = .returned (.tuple #[]) ∧ ∃ n os, w' = sortWorldK enc sz w blk off n (pdq (fun x y => decide (cf x y < 0)) d 0 d.size (Lib.bitLen d.size) true true) os)
  (hsize : ∀ d : Array α, (pdq (fun x y => decide (cf x y < 0)) d 0 d.size (Lib.bitLen d.size) true true).size = d.size)
  {x : AV} {σ : Heap} {r : AV} {σ' : Heap} (hm : A.sortG sz c cf x σ = some (r, σ')) {n : Nat} (hn : ∀ f, nm.getD f 0 = n → f = g) : ACalls P nm f [x, .fn n []] σ r σ' := by
 refine .inl ⟨f, hf, fun z vs e1 e2 hh ha => ?_⟩
 obtain ⟨v, u, rfl, r1, r2⟩ := repL2 ha
 simp only [Rep] at r2
 obtain ⟨f', us, rfl, k1, k2⟩ := r2
 have hf' : f' = g := hn f' (by rw [← e1]; exact k1)
 have hus : us = #[] := by simp only [RepL] at k2; exact Array.toList_inj.1 k2
 subst hf' hus
 have hout : Out z z.w z.E := ⟨rfl, rfl, rfl, Nat.le_refl _, fun _ _ _ => rfl, fun i p hp => .inr ⟨p, hp, rfl⟩, fun i p hp => ⟨p, hp, .inl rfl⟩, e2, fun p hp => hh.lt hp⟩
 unfold A.sortG at hm
 cases x <;> simp only at hm <;> first | (cases hm; done) | skip
 case nsl =>
  simp only [Option.some.injEq, Prod.mk.injEq] at hm
  obtain ⟨rfl, rfl⟩ := hm
  simp only [Rep] at r1; subst r1
  refine (hnone z.w).mono ?_
  rintro e w' ⟨rfl, hb⟩
  exact ⟨_, z.E, rfl, hout.grow hb, hh.mono (grow_ext hb) rfl (fun p hp => hb.block _ (hh.lt hp)), by simp [Rep, RepL]⟩
 case os =>
  rename_i id gg sz0 off len
  simp only [Rep] at r1
  obtain ⟨hg, p, k3, k4, qa, cap, rfl, hcap, rx⟩ := r1
  split at hm
  ·rename_i g' sz' es hs
   split at hm
   ·rename_i hc
    obtain ⟨⟨c1, c2, c3, c4, c5, c6⟩, c7⟩ := hc
    subst c1; subst c2; subst c3
    simp only [Option.some.injEq, Prod.mk.injEq] at hm
    obtain ⟨rfl, rfl⟩ := hm
    have hl := Classical.choose_spec c7
    generalize Classical.choose c7 = l at hl ⊢
    obtain ⟨j1, j2, j3, j4, ⟨arr, bt, j5, j6⟩, j7, j8, j9⟩ := hh.blk id p _ k3 hs
    obtain ⟨q1, q2, q3⟩ := rx j1.symm
    have hqa : qa = ⟨p.b, p.base + off * p.sz, none⟩ := q2.resolve_left (by omega)
    have hll : l.length = len := by
     have := congrArg List.length hl
     simp at this; omega
    have hmul : (off + len) * sz0 ≤ es.length * sz0 := Nat.mul_le_mul_right _ c4
    rw [Nat.add_mul] at hmul
    have j5' : z.w.heap[p.b]? = some (.cells arr bt (0, 0)) := j5
    have hlt : p.b < z.w.heap.size := (Array.getElem?_eq_some_iff.1 j5').1
    have hpsz : p.sz = sz0 := q1
    have hholds : HoldsK enc sz0 z.w p.b (p.base + off * sz0) l.toArray := by
     intro t ht
     simp only [size_flatK, List.size_toArray] at ht
     rw [get_flatK _ _ _ _ (by simpa using ht)]
     have htk : t / sz0 < l.length := by rw [Nat.div_lt_iff_lt_mul hsz]; exact ht
     have hes : es[off + t / sz0]? = some (c l[t / sz0]) := by
      have h1 : ((es.drop off).take len)[t / sz0]? = (l.map c)[t / sz0]? := by rw [hl]
      rw [List.getElem?_take_of_lt (by omega), List.getElem?_drop, List.getElem?_map, List.getElem?_eq_getElem htk] at h1
      exact h1
     obtain ⟨_, m2⟩ := RepEs.nth j8 hes
     obtain ⟨vs, m3, m4, m5⟩ := m2.toL
     have m6 := huniq _ _ _ m3
     subst m6
     have hmod : t % sz0 < (enc l[t / sz0]).length := by rw [← (hrep (ctx z z.w z.E nopb) _).length, hcl]; exact Nat.mod_lt _ hsz
     have m7 := m5 (t % sz0) _ (List.getElem?_eq_getElem hmod)
     have e : p.base + (off + t / sz0) * sz0 + t % sz0 = p.base + off * sz0 + t := by
      have := Nat.div_add_mod t sz0
      rw [Nat.add_mul, Nat.mul_comm (t / sz0)]; omega
     rw [e] at m7
     refine ⟨?_, by simp [World.frozen?, j5']⟩
     rw [show z.w.cell? ⟨p.b, p.base + off * sz0 + t, none⟩ = _ from m7]
     simp [htk, hmod]
    have hcon := hmain p.b (p.base + off * sz0) cap l.toArray z.w hholds hlt (by simpa [hll] using c6)
    rw [hqa, hpsz]
    simp only [List.size_toArray, hll] at hcon
    refine hcon.mono ?_
    rintro e w' ⟨rfl, nn, os, rfl⟩
    have hd' := hsize l.toArray
    simp only [List.size_toArray, hll] at hd'
    generalize hdd : pdq (fun x y => decide (cf x y < 0)) l.toArray 0 len (Lib.bitLen len) true true = d' at hd' ⊢
    have hsw := sorted_world (enc := enc) (k := sz0) (fun x => by rw [← (hrep (ctx z z.w z.E nopb) x).length, hcl]) (w := z.w) (b := p.b) (off := p.base + off * sz0) (n := nn) (d := l.toArray) (d' := d') (os := os) (by rw [hd']; simp [hll]) j5' (by simp [hll]; rw [j6]; omega)
    have hst0 : St ⟨P, nm, fun _ _ _ => none, fun _ _ _ => none, [], [], 0, []⟩ z ⟨[], fun _ => none, σ⟩ { tmps := #[], defers := [] } z.w z.E nopb :=
     ⟨rfl, rfl, fun i av hi => by simp at hi, fun i cs hi => by simp at hi, fun t p hp => (by cases hp), fun i b hb => (by cases hb), fun i j b hb => (by cases hb), hh, rfl, hout, e1.symm⟩
    have hnl : (d'.toList.map c).length = len := by rw [List.length_map, Array.length_toList, hd']
    obtain ⟨_, hst⟩ := bulk_own hst0 (i := off) (ys := d'.toList.map c) (news := d'.toList.flatMap enc) k3 hs j5 (by rw [hnl]; exact c4) (by
      generalize d'.toList = l'
      induction l' with
      | nil => simp [RepL]
      | cons x l' ih => simp only [List.map_cons, List.flatten_cons, List.flatMap_cons]; exact (hrep _ x).append ih)
     (fun x hx => by obtain ⟨y, _, hy⟩ := List.mem_flatMap.1 hx; exact hone y x hy) (fun y hy => by obtain ⟨x, _, rfl⟩ := List.mem_map.1 hy; exact hcl x)
     (by
      have : ∀ l : List α, (l.flatMap enc).length = l.length * sz0 := by
       intro l
       induction l with
       | nil => simp
       | cons x l ih => simp only [List.flatMap_cons, List.length_append, ih, ← (hrep (ctx z z.w z.E nopb) x).length, hcl, List.length_cons, Nat.add_mul]; omega
      rw [this, List.length_map])
    have hst2 := hst.grow (w' := sortWorldK enc sz0 z.w p.b (p.base + off * sz0) nn d' os) (by rw [size_setB]; exact hsw)
    refine ⟨_, z.E, rfl, hst2.out, ?_, by simp [Rep, RepL]⟩
    have hpd : pdqL cf l = d'.toList := by unfold pdqL; rw [hll, hdd]
    rw [hnl] at hst2
    rw [hpd]
    exact hst2.heap
   ·cases hm
  ·cases hm
def encMove (x : MoveD) : List Value := [.int .i64 x.key.unit, .string x.key.param, .int .i64 x.value.level, .int .i64 x.value.preset, .bool x.release, .bool x.timed, .int .i64 x.delay, .int .i64 x.time]
theorem grow_two {W : World} {o1 o2 : Obj} : ∃ q os', (W.alloc o1).alloc o2 = grow (W.drewN q) os' := ⟨0, _, by rw [alloc_eq_grow, alloc_eq_grow, grow_grow]; rfl⟩
theorem grow_more {W : World} {o1 o2 : Obj} {q : Nat} {os : Array Obj} : ∃ q' os', grow (((W.alloc o1).alloc o2).drewN q) os = grow (W.drewN q') os' := ⟨q, _, by rw [alloc_eq_grow, alloc_eq_grow, grow_grow]; show grow (grow (W.drewN q) _) os = _; rw [grow_grow]⟩
theorem compare_walk (a b : KeyD) (W : World) : Calls Tryz.prog 53 #[.agg #[.int .i64 a.unit, .string a.param], .agg #[.int .i64 b.unit, .string b.param]] W fun e w' => e = .returned (.int .i64 (cmpKey a b)) ∧ ∃ q os', w' = grow (W.drewN q) os' := by
 have hcon := fun (x y : ByteArray) W' => Tryz.strings_Compare x y W'
 go_enter Tryz.func53, Tryz.ntmps53
 go_wp2_with (go_at_call 98; refine (hcon _ _ _).mono ?_; rintro e w' ⟨rfl, rfl⟩)
 ·go_ret
  have h1 : a.unit ≠ b.unit := by omega
  exact ⟨by rw [cmpKey, if_pos h1, if_pos (by omega)]; rfl, grow_two⟩
 ·go_ret
  have h1 : a.unit ≠ b.unit := by simpa using ‹(a.unit != b.unit) = true›
  exact ⟨by rw [cmpKey, if_pos h1, if_neg (by omega)]; rfl, grow_two⟩
 ·go_ret
  have h1 : a.unit = b.unit := by first | simpa using ‹(a.unit != b.unit) = false› | simpa using ‹¬ (a.unit != b.unit) = true› | omega
  exact ⟨by rw [cmpKey, if_neg (by simpa using h1)]; rfl, grow_two⟩
theorem rep_move (cc : RC) (x : MoveD) : RepL cc (cMove x) (encMove x) := by
 obtain ⟨⟨a, b⟩, ⟨p, q⟩, r, t, d, u⟩ := x
 simp [cMove, encMove, RepL, Rep]
theorem uniq_move (cc : RC) (x : MoveD) (vs : List Value) (e : RepL cc (cMove x) vs) : vs = encMove x := by
 obtain ⟨⟨a, b⟩, ⟨p, q⟩, r, t, d, u⟩ := x
 simpa [cMove, encMove, RepL, Rep] using e
theorem one_move (x : MoveD) (v : Value) (h : v ∈ encMove x) : one1 v = true ∧ v.oneCell' = true := by
 simp [encMove] at h
 rcases h with rfl | rfl | rfl | rfl | rfl | rfl | rfl | rfl <;> exact ⟨rfl, rfl⟩
theorem pdq_size {α : Type} [Inhabited α] {cf : α → α → Int} (hS : SWO (fun x y => decide (cf x y < 0))) (d : Array α) : (pdq (fun x y => decide (cf x y < 0)) d 0 d.size (Lib.bitLen d.size) true true).size = d.size :=
 (pdq_sorts (fun x y => decide (cf x y < 0)) hS d 0 d.size (Lib.bitLen d.size) true true (Nat.zero_le _) (Nat.le_refl _) (Or.inl rfl)).1.1
theorem copyCmp_walk (a b : MoveD) (W : World) : Calls Tryz.prog 52 #[.agg (encMove a).toArray, .agg (encMove b).toArray] W fun e w' => e = .returned (.int .i64 (cmpKey a.key b.key)) ∧ ∃ q os', w' = grow (W.drewN q) os' := by
 have hcon := fun W' => compare_walk a.key b.key W'
 unfold encMove
 generalize cmpKey a.key b.key = r at hcon ⊢
 go_enter Tryz.func52, Tryz.ntmps52
 go_wp2_with (go_at_call 53; refine (hcon _).mono ?_; rintro e w' ⟨rfl, q, os', rfl⟩)
 go_ret
 exact ⟨rfl, grow_more⟩
theorem s_slices_SortFunc_api_Move_api_Move_ : Sound Tryz.prog nmT 51 m_slices_SortFunc_Move := by
 intro args σ r σ' h
 unfold m_slices_SortFunc_Move A.ar2 at h
 split at h
 ·rename_i x f σ0
  simp only at h
  split at h
  ·have eg : ∀ args w, (callFunc 52 args).run Tryz.prog w = .ok (.enter 52 args) w := Tryz.call52
   refine @sort_sound Tryz.prog nmT 51 52 MoveD ⟨⟨⟨0, ⟨#[]⟩⟩, ⟨0, 0⟩, false, false, 0, 0⟩⟩ 8 cMove encMove (fun a b => cmpKey a.key b.key) (by decide) (fun x y e => ?_) (fun _ => rfl) (fun cc x => ?_) (fun cc x vs e => ?_) (fun x v hv => ?_) Tryz.call51 (fun w => ?_) (fun blk off cap d w hH hb hd => ?_) (fun d => ?_) _ _ _ _ h _ (fun f hf => nm_one (by kernel_rfl) rfl hf)
   ·exact cMove_inj x y e
   ·exact rep_move cc x
   ·exact uniq_move cc x vs e
   ·exact (one_move x v hv).1
   ·exact (AnyF.slices_SortFunc_none (P := Tryz.prog) { Tryz.sort51 with } none 0 _ w).mono fun e w' ⟨h1, h2⟩ => ⟨h1, h2 ▸ Below.refl _ _⟩
   ·exact AnyQ.slices_SortFunc_eq Tryz.sort51 8 Tryz.isAgg74 Tryz.sizeOf74 encMove (fun _ => rfl) (fun x v hv => (one_move x v hv).2) (fun a b => cmpKey a.key b.key) (swo_key fun e : MoveD => e.key) 52 #[] blk off cap d w eg (fun _ _ _ _ x y => copyCmp_walk x y _) hH hb hd
   ·exact pdq_size (swo_key fun e : MoveD => e.key) d
  ·cases h
 ·cases h
end Go.Proofs.YtphgchakmkankaaGreat

namespace Go.Proofs.YtphgchakmkankaaGreat
set_option linter.unusedSectionVars false
set_option maxRecDepth 100000
set_option linter.unusedVariables false
set_option linter.unusedSimpArgs false
noncomputable def x_word_Within : Fx := ⟨Tryz.prog, nmT, A.tab (fun _ _ => none) [], (fun _ _ _ => none), [], [], 15, []⟩
theorem w_word_Within : Sound Tryz.prog nmT 91 (A.wrap true [] .k (A.ar3 (r_word_Within))) :=
 Sound.wrap (Sound.run3 (X := x_word_Within) (fn := Tryz.f91) (ann := (.s .n (.s .n .n))) .F trivial (Snd.of rfl All.nil (fun _ => Sound.none)) Tryz.func91 Tryz.call91 (fun a0 a1 a2 σ => by kernel_rfl)) _ _ _ rfl rfl
theorem s_word_Within : Sound Tryz.prog nmT 91 m_word_Within := w_word_Within
noncomputable def x_word_Title : Fx := ⟨Tryz.prog, nmT, A.tab (fun _ _ => none) [], (fun _ _ _ => none), [], [], 40, []⟩
theorem w_word_Title : Sound Tryz.prog nmT 92 (A.wrap true [] .k (A.ar1 (r_word_Title))) :=
 Sound.wrap (Sound.run1 (X := x_word_Title) (fn := Tryz.f92) (ann := (.s .n (.s (.s .n (.b (.l [2, 6] [.exit 0, .ret] (.s .n (.s (.j .n .n) (.s (.b (.s .n (.s .n (.j (.s .n .n) .n)))) .n)))))) (.s .n .n)))) .F trivial (Snd.of rfl All.nil (fun _ => Sound.none)) Tryz.func92 Tryz.call92 (fun a0 σ => by kernel_rfl)) _ _ _ rfl rfl
theorem s_word_Title : Sound Tryz.prog nmT 92 m_word_Title := w_word_Title
noncomputable def x_cue_isTime : Fx := ⟨Tryz.prog, nmT, A.tab (fun _ _ => none) [(91, m_word_Within)], (fun _ _ _ => none), [], [], 5, []⟩
theorem w_cue_isTime : Sound Tryz.prog nmT 93 (A.wrap true [] .k (A.ar1 (r_cue_isTime))) :=
 Sound.wrap (Sound.run1 (X := x_cue_isTime) (fn := Tryz.f93) (ann := (.s .n (.s .n .n))) .F trivial (Snd.of rfl (All.cons s_word_Within All.nil) (fun _ => Sound.none)) Tryz.func93 Tryz.call93 (fun a0 σ => by kernel_rfl)) _ _ _ rfl rfl
theorem s_cue_isTime : Sound Tryz.prog nmT 93 m_cue_isTime := w_cue_isTime
noncomputable def x_word_When : Fx := ⟨Tryz.prog, nmT, A.tab (fun _ _ => none) [], (fun _ _ _ => none), [], [], 7, []⟩
theorem w_word_When : Sound Tryz.prog nmT 46 (A.wrap true [] .k (A.ar2 (r_word_When))) :=
 Sound.wrap (Sound.run2 (X := x_word_When) (fn := Tryz.f46) (ann := (.s .n (.s (.s .n (.j (.s .n .n) .n)) (.s .n .n)))) .F trivial (Snd.of rfl All.nil (fun _ => Sound.none)) Tryz.func46 Tryz.call46 (fun a0 a1 σ => by kernel_rfl)) _ _ _ rfl rfl
theorem s_word_When : Sound Tryz.prog nmT 46 m_word_When := w_word_When
noncomputable def x_level_CheckCurve : Fx := ⟨Tryz.prog, nmT, A.tab (fun _ _ => none) [(91, m_word_Within), (46, m_word_When)], (fun _ _ _ => none), [1, 5], [], 90, []⟩
theorem w_level_CheckCurve : Sound Tryz.prog nmT 94 (A.wrap true [(.a [.k, (.s 2)])] .k (A.ar1 (r_level_CheckCurve))) :=
 Sound.wrap (Sound.run1 (X := x_level_CheckCurve) (fn := Tryz.f94) (ann := (.s .n (.s (.s .n (.j (.s .n .n) .n)) (.s .n (.s (.s .n (.j (.s .n .n) .n)) (.s (.s .n (.j (.s .n .n) .n)) (.s (.s .n (.j (.s .n .n) .n)) (.s (.s .n (.b (.l [2, 28] [.exit 0, .ret] (.s .n (.s (.j .n .n) (.s (.b (.s .n (.s .n (.j (.s .n .n) .n)))) .n)))))) (.s (.s .n (.j (.s .n .n) .n)) (.s (.s .n (.b (.l [2, 6] [.exit 2, .ret] (.s (.s .n (.j .n .n)) (.s (.b (.s .n (.j (.s .n .n) .n))) .n))))) (.s .n .n))))))))))) .F trivial (Snd.of rfl (All.cons s_word_Within (All.cons s_word_When All.nil)) (fun _ => Sound.none)) Tryz.func94 Tryz.call94 (fun a0 σ => by kernel_rfl)) _ _ _ rfl rfl
theorem s_level_CheckCurve : Sound Tryz.prog nmT 94 m_level_CheckCurve := w_level_CheckCurve
noncomputable def x_word_Row : Fx := ⟨Tryz.prog, nmT, A.tab (fun _ _ => none) [], (fun _ _ _ => none), [], [], 35, []⟩
theorem w_word_Row : Sound Tryz.prog nmT 170 (A.wrap true [] .k (A.ar1 (r_word_Row))) :=
 Sound.wrap (Sound.run1 (X := x_word_Row) (fn := Tryz.f170) (ann := (.s .n (.s (.s .n (.b (.l [2, 7] [.exit 0, .ret] (.s .n (.s (.j .n .n) (.s (.b (.s .n (.s .n (.s .n (.j (.s .n .n) .n))))) .n)))))) (.s .n .n)))) .F trivial (Snd.of rfl All.nil (fun _ => Sound.none)) Tryz.func170 Tryz.call170 (fun a0 σ => by kernel_rfl)) _ _ _ rfl rfl
theorem s_word_Row : Sound Tryz.prog nmT 170 m_word_Row := w_word_Row
noncomputable def x_word_Name : Fx := ⟨Tryz.prog, nmT, A.tab (fun _ _ => none) [(170, m_word_Row)], (fun _ _ _ => none), [], [], 20, []⟩
theorem w_word_Name : Sound Tryz.prog nmT 135 (A.wrap true [] .k (A.ar1 (r_word_Name))) :=
 Sound.wrap (Sound.run1 (X := x_word_Name) (fn := Tryz.f135) (ann := (.s .n (.s .n .n))) .F trivial (Snd.of rfl (All.cons s_word_Row All.nil) (fun _ => Sound.none)) Tryz.func135 Tryz.call135 (fun a0 σ => by kernel_rfl)) _ _ _ rfl rfl
theorem s_word_Name : Sound Tryz.prog nmT 135 m_word_Name := w_word_Name
noncomputable def x_cue_compare : Fx := ⟨Tryz.prog, nmT, A.tab (fun _ _ => none) [(98, m_strings_Compare)], (fun _ _ _ => none), [2, 3], [], 20, []⟩
theorem w_cue_compare : Sound Tryz.prog nmT 53 (A.wrap true [] .k (A.ar2 (r_cue_compare))) :=
 Sound.wrap (Sound.run2 (X := x_cue_compare) (fn := Tryz.f53) (ann := (.s .n (.s (.s .n (.j (.s (.s .n (.j (.s .n .n) .n)) (.s .n .n)) .n)) (.s .n .n)))) .F trivial (Snd.of rfl (All.cons s_strings_Compare All.nil) (fun _ => Sound.none)) Tryz.func53 Tryz.call53 (fun a0 a1 σ => by kernel_rfl)) _ _ _ rfl rfl
theorem s_cue_compare : Sound Tryz.prog nmT 53 m_cue_compare := w_cue_compare
noncomputable def x_cue_checkMoves : Fx := ⟨Tryz.prog, nmT, A.tab (fun _ _ => none) [(91, m_word_Within), (135, m_word_Name), (93, m_cue_isTime), (53, m_cue_compare)], (fun _ _ _ => none), [4], [], 99, []⟩
theorem w_cue_checkMoves : Sound Tryz.prog nmT 95 (A.wrap true [(.s 8)] .k (A.ar1 (r_cue_checkMoves))) :=
 Sound.wrap (Sound.run1 (X := x_cue_checkMoves) (fn := Tryz.f95) (ann := (.s .n (.s (.s .n (.b (.l [2, 7] [.exit 0, .ret] (.s .n (.s (.j .n .n) (.s (.b (.s .n (.b (.s .n (.j (.s .n .n) (.s .n (.j (.s .n .n) (.s .n (.j (.s .n .n) (.s .n (.j (.s .n .n) (.s .n (.j (.s .n .n) (.s .n (.j (.s .n .n) (.s .n (.j (.s .n .n) .n))))))))))))))))) .n)))))) (.s .n .n)))) .F trivial (Snd.of rfl (All.cons s_word_Within (All.cons s_word_Name (All.cons s_cue_isTime (All.cons s_cue_compare All.nil)))) (fun _ => Sound.none)) Tryz.func95 Tryz.call95 (fun a0 σ => by kernel_rfl)) _ _ _ rfl rfl
theorem s_cue_checkMoves : Sound Tryz.prog nmT 95 m_cue_checkMoves := w_cue_checkMoves
noncomputable def x_cue_form : Fx := ⟨Tryz.prog, nmT, A.tab (fun _ _ => none) [(91, m_word_Within), (92, m_word_Title), (93, m_cue_isTime), (94, m_level_CheckCurve), (95, m_cue_checkMoves), (46, m_word_When)], (fun _ _ _ => none), [5], [], 101, []⟩
theorem w_cue_form : Sound Tryz.prog nmT 44 (A.wrap true [(.e 11 [.k, .k, .k, .k, .k, .k, .k, (.s 2), .k, .k, (.s 8)])] .k (A.ar1 (r_cue_form))) :=
 Sound.wrap (Sound.run1 (X := x_cue_form) (fn := Tryz.f44) (ann := (.s .n (.s (.s .n (.j (.s .n .n) .n)) (.s .n (.s (.s .n (.b (.l [2, 3, 13] [.exit 0, .ret] (.s .n (.s (.j .n .n) (.s (.b (.s .n (.s (.b (.s .n (.j (.s .n .n) (.s .n (.j (.s .n .n) (.s .n (.j (.s .n .n) (.s .n (.j (.s .n .n) .n))))))))) (.s (.s .n (.s .n (.j (.s .n .n) .n))) (.s (.s .n (.j (.s .n .n) .n)) (.s (.s .n (.s .n (.j (.s .n .n) .n))) .n)))))) .n)))))) (.s .n .n)))))) .F trivial (Snd.of rfl (All.cons s_word_Within (All.cons s_word_Title (All.cons s_cue_isTime (All.cons s_level_CheckCurve (All.cons s_cue_checkMoves (All.cons s_word_When All.nil)))))) (fun _ => Sound.none)) Tryz.func44 Tryz.call44 (fun a0 σ => by kernel_rfl)) _ _ _ rfl rfl
theorem s_cue_form : Sound Tryz.prog nmT 44 m_cue_form := w_cue_form
noncomputable def x_slices_BinarySearchFunc_api_Cue_int (dyn : Nat → List AV → Heap → Option (AV × Heap)) : Fx := ⟨Tryz.prog, nmT, A.tab (fun _ _ => none) [], dyn, [], [], 49, []⟩
theorem w_slices_BinarySearchFunc_api_Cue_int (dyn : Nat → List AV → Heap → Option (AV × Heap)) (hd : ∀ f, Sound Tryz.prog nmT f (dyn (nmT.getD f 0))) : Sound Tryz.prog nmT 82 (A.wrap true [(.s 11)] .k (A.ar3 (r_slices_BinarySearchFunc_api_Cue_int dyn))) :=
 Sound.wrap (Sound.run3 (X := x_slices_BinarySearchFunc_api_Cue_int dyn) (fn := Tryz.f82) (ann := (.s .n (.s .n (.s .n (.s (.b (.l [9, 10] [.exit 0] (.s (.s .n (.j .n .n)) (.b (.s .n (.s .n (.c [9, 10] .n .n))))))) (.s .n .n)))))) .F trivial (Snd.of rfl All.nil (hd)) Tryz.func82 Tryz.call82 (fun a0 a1 a2 σ => by kernel_rfl)) _ _ _ rfl rfl
theorem s_slices_BinarySearchFunc_api_Cue_int (dyn : Nat → List AV → Heap → Option (AV × Heap)) (hd : ∀ f, Sound Tryz.prog nmT f (dyn (nmT.getD f 0))) : Sound Tryz.prog nmT 82 (m_slices_BinarySearchFunc_api_Cue_int dyn) := w_slices_BinarySearchFunc_api_Cue_int dyn hd
noncomputable def x_cue_place_fn1 : Fx := ⟨Tryz.prog, nmT, A.tab (fun _ _ => none) [], (fun _ _ _ => none), [2], [], 9, []⟩
theorem w_cue_place_fn1 : Sound Tryz.prog nmT 83 (A.wrap true [(.a [.k, .k, .k, .k, .k, .k, .k, (.s 2), .k, .k, (.s 8)])] .k (A.ar2 (r_cue_place_fn1))) :=
 Sound.wrap (Sound.run2 (X := x_cue_place_fn1) (fn := Tryz.f83) (ann := (.s .n (.s .n .n))) .F trivial (Snd.of rfl All.nil (fun _ => Sound.none)) Tryz.func83 Tryz.call83 (fun a0 a1 σ => by kernel_rfl)) _ _ _ rfl rfl
theorem s_cue_place_fn1 : Sound Tryz.prog nmT 83 m_cue_place_fn1 := w_cue_place_fn1
noncomputable def x_cue_place : Fx := ⟨Tryz.prog, nmT, A.tab (fun _ _ => none) [(82, m_slices_BinarySearchFunc_api_Cue_int (A.tab (fun _ _ => none) [(177, m_cue_place_fn1)]))], (A.tab (fun _ _ => none) [(177, m_cue_place_fn1)]), [], [], 11, []⟩
theorem w_cue_place : Sound Tryz.prog nmT 30 (A.wrap true [(.e 11 [.k, .k, .k, .k, .k, .k, .k, (.s 2), .k, .k, (.s 8)])] .k (A.ar2 (r_cue_place))) :=
 Sound.wrap (Sound.run2 (X := x_cue_place) (fn := Tryz.f30) (ann := (.s .n (.s .n .n))) .F trivial (Snd.of rfl (All.cons (s_slices_BinarySearchFunc_api_Cue_int _ (dyn_of (DAll.cons (nm_sound s_cue_place_fn1 (by kernel_rfl) rfl) DAll.nil))) All.nil) (dyn_of (DAll.cons (nm_sound s_cue_place_fn1 (by kernel_rfl) rfl) DAll.nil))) Tryz.func30 Tryz.call30 (fun a0 a1 σ => by kernel_rfl)) _ _ _ rfl rfl
theorem s_cue_place : Sound Tryz.prog nmT 30 m_cue_place := w_cue_place
noncomputable def x_cue_numberFault : Fx := ⟨Tryz.prog, nmT, A.tab (fun _ _ => none) [(91, m_word_Within), (46, m_word_When)], (fun _ _ _ => none), [], [], 7, []⟩
theorem w_cue_numberFault : Sound Tryz.prog nmT 47 (A.wrap true [] .k (A.ar1 (r_cue_numberFault))) :=
 Sound.wrap (Sound.run1 (X := x_cue_numberFault) (fn := Tryz.f47) (ann := (.s .n (.s .n .n))) .F trivial (Snd.of rfl (All.cons s_word_Within (All.cons s_word_When All.nil)) (fun _ => Sound.none)) Tryz.func47 Tryz.call47 (fun a0 σ => by kernel_rfl)) _ _ _ rfl rfl
theorem s_cue_numberFault : Sound Tryz.prog nmT 47 m_cue_numberFault := w_cue_numberFault
noncomputable def x_word_First : Fx := ⟨Tryz.prog, nmT, A.tab (fun _ _ => none) [], (fun _ _ _ => none), [], [], 15, []⟩
theorem w_word_First : Sound Tryz.prog nmT 45 (A.wrap true [(.s 1)] .k (A.ar1 (r_word_First))) :=
 Sound.wrap (Sound.run1 (X := x_word_First) (fn := Tryz.f45) (ann := (.s .n (.s (.s .n (.b (.l [2, 7] [.exit 0, .ret] (.s .n (.s (.j .n .n) (.s (.b (.s .n (.s .n (.j (.s .n .n) .n)))) .n)))))) (.s .n .n)))) .F trivial (Snd.of rfl All.nil (fun _ => Sound.none)) Tryz.func45 Tryz.call45 (fun a0 σ => by kernel_rfl)) _ _ _ rfl rfl
theorem s_word_First : Sound Tryz.prog nmT 45 m_word_First := w_word_First
noncomputable def x_cue_state : Fx := ⟨Tryz.prog, nmT, A.tab (fun _ _ => none) [], (fun _ _ _ => none), [5, 7], [], 40, []⟩
theorem w_cue_state : Sound Tryz.prog nmT 48 (A.wrap true [(.e 11 [.k, .k, .k, .k, .k, .k, .k, (.s 2), .k, .k, (.s 8)])] .k (A.ar1 (r_cue_state))) :=
 Sound.wrap (Sound.run1 (X := x_cue_state) (fn := Tryz.f48) (ann := (.s .n (.s .n (.s (.s .n (.b (.l [11] [.exit 0] (.s .n (.s (.j .n .n) (.s (.b (.s .n (.s .n (.b (.l [5, 18] [.exit 2] (.s .n (.s (.j .n .n) (.s (.b (.s .n (.s .n (.c [5] .n .n)))) .n)))))))) .n)))))) (.s .n .n))))) .F trivial (Snd.of rfl All.nil (fun _ => Sound.none)) Tryz.func48 Tryz.call48 (fun a0 σ => by kernel_rfl)) _ _ _ rfl rfl
theorem s_cue_state : Sound Tryz.prog nmT 48 m_cue_state := w_cue_state
noncomputable def x_slices_Clone_api_Point : Fx := ⟨Tryz.prog, nmT, A.tab (fun _ _ => none) [], (fun _ _ _ => none), [], [], 8, []⟩
theorem w_slices_Clone_api_Point : Sound Tryz.prog nmT 49 (A.wrap true [(.s 2)] .k (A.ar1 (r_slices_Clone_api_Point))) :=
 Sound.wrap (Sound.run1 (X := x_slices_Clone_api_Point) (fn := Tryz.f49) (ann := (.s .n (.s (.s .n (.j (.s .n .n) .n)) (.s .n .n)))) .K trivial (Snd.of rfl All.nil (fun _ => Sound.none)) Tryz.func49 Tryz.call49 (fun a0 σ => by kernel_rfl)) _ _ _ rfl rfl
theorem s_slices_Clone_api_Point : Sound Tryz.prog nmT 49 m_slices_Clone_api_Point := clone_sound w_slices_Clone_api_Point Tryz.call49 cz_Point
noncomputable def x_cue_move : Fx := ⟨Tryz.prog, nmT, A.tab (fun _ _ => none) [], (fun _ _ _ => none), [3, 4, 5], [], 19, []⟩
theorem w_cue_move : Sound Tryz.prog nmT 50 (A.wrap true [] .k (A.ar2 (r_cue_move))) :=
 Sound.wrap (Sound.run2 (X := x_cue_move) (fn := Tryz.f50) (ann := (.s .n (.s .n (.s .n .n)))) .F trivial (Snd.of rfl All.nil (fun _ => Sound.none)) Tryz.func50 Tryz.call50 (fun a0 a1 σ => by kernel_rfl)) _ _ _ rfl rfl
theorem s_cue_move : Sound Tryz.prog nmT 50 m_cue_move := w_cue_move
noncomputable def x_slices_Clone_api_Move : Fx := ⟨Tryz.prog, nmT, A.tab (fun _ _ => none) [], (fun _ _ _ => none), [], [], 8, []⟩
theorem w_slices_Clone_api_Move : Sound Tryz.prog nmT 81 (A.wrap true [(.s 8)] .k (A.ar1 (r_slices_Clone_api_Move))) :=
 Sound.wrap (Sound.run1 (X := x_slices_Clone_api_Move) (fn := Tryz.f81) (ann := (.s .n (.s (.s .n (.j (.s .n .n) .n)) (.s .n .n)))) .K trivial (Snd.of rfl All.nil (fun _ => Sound.none)) Tryz.func81 Tryz.call81 (fun a0 σ => by kernel_rfl)) _ _ _ rfl rfl
theorem s_slices_Clone_api_Move : Sound Tryz.prog nmT 81 m_slices_Clone_api_Move := clone_sound w_slices_Clone_api_Move Tryz.call81 cz_Move
noncomputable def x_cue_copied : Fx := ⟨Tryz.prog, nmT, A.tab (fun _ _ => none) [(49, m_slices_Clone_api_Point), (81, m_slices_Clone_api_Move)], (fun _ _ _ => none), [5], [], 28, []⟩
theorem w_cue_copied : Sound Tryz.prog nmT 29 (A.wrap true [(.e 11 [.k, .k, .k, .k, .k, .k, .k, (.s 2), .k, .k, (.s 8)])] .k (A.ar1 (r_cue_copied))) :=
 Sound.wrap (Sound.run1 (X := x_cue_copied) (fn := Tryz.f29) (ann := (.s .n (.s .n (.s (.s .n (.b (.l [3, 8] [.exit 0] (.s .n (.s (.j .n .n) (.s (.b (.s .n (.s .n (.s .n .n)))) .n)))))) (.s .n .n))))) .K trivial (Snd.of rfl (All.cons s_slices_Clone_api_Point (All.cons s_slices_Clone_api_Move All.nil)) (fun _ => Sound.none)) Tryz.func29 Tryz.call29 (fun a0 σ => by kernel_rfl)) _ _ _ rfl rfl
theorem s_cue_copied : Sound Tryz.prog nmT 29 m_cue_copied := w_cue_copied
noncomputable def x_slices_Reverse_api_Cue : Fx := ⟨Tryz.prog, nmT, A.tab (fun _ _ => none) [], (fun _ _ _ => none), [], [], 28, []⟩
theorem w_slices_Reverse_api_Cue : Sound Tryz.prog nmT 177 (A.wrap false [] .k (A.ar1 (r_slices_Reverse_api_Cue))) :=
 Sound.wrap (Sound.run1 (X := x_slices_Reverse_api_Cue) (fn := Tryz.f177) (ann := (.s .n (.b (.l [2, 3] [.exit 0] (.s (.s .n (.j .n .n)) (.s (.b .n) .n)))))) .K trivial (Snd.of rfl All.nil (fun _ => Sound.none)) Tryz.func177 Tryz.call177 (fun a0 σ => by kernel_rfl)) _ _ _ rfl rfl
theorem s_slices_Reverse_api_Cue : Sound Tryz.prog nmT 177 m_slices_Reverse_api_Cue := w_slices_Reverse_api_Cue
noncomputable def x_slices_rotateLeft_api_Cue : Fx := ⟨Tryz.prog, nmT, A.tab (fun _ _ => none) [(177, m_slices_Reverse_api_Cue)], (fun _ _ _ => none), [], [], 14, []⟩
theorem w_slices_rotateLeft_api_Cue : Sound Tryz.prog nmT 147 (A.wrap false [] .k (A.ar2 (r_slices_rotateLeft_api_Cue))) :=
 Sound.wrap (Sound.run2 (X := x_slices_rotateLeft_api_Cue) (fn := Tryz.f147) (ann := (.s .n (.s .n .n))) .K trivial (Snd.of rfl (All.cons s_slices_Reverse_api_Cue All.nil) (fun _ => Sound.none)) Tryz.func147 Tryz.call147 (fun a0 a1 σ => by kernel_rfl)) _ _ _ rfl rfl
theorem s_slices_rotateLeft_api_Cue : Sound Tryz.prog nmT 147 m_slices_rotateLeft_api_Cue := w_slices_rotateLeft_api_Cue
noncomputable def x_slices_rotateRight_api_Cue : Fx := ⟨Tryz.prog, nmT, A.tab (fun _ _ => none) [(147, m_slices_rotateLeft_api_Cue)], (fun _ _ _ => none), [], [], 10, []⟩
theorem w_slices_rotateRight_api_Cue : Sound Tryz.prog nmT 100 (A.wrap false [] .k (A.ar2 (r_slices_rotateRight_api_Cue))) :=
 Sound.wrap (Sound.run2 (X := x_slices_rotateRight_api_Cue) (fn := Tryz.f100) (ann := .n) .K trivial (Snd.of rfl (All.cons s_slices_rotateLeft_api_Cue All.nil) (fun _ => Sound.none)) Tryz.func100 Tryz.call100 (fun a0 a1 σ => by kernel_rfl)) _ _ _ rfl rfl
theorem s_slices_rotateRight_api_Cue : Sound Tryz.prog nmT 100 m_slices_rotateRight_api_Cue := w_slices_rotateRight_api_Cue
noncomputable def x_slices_Insert_api_Cue : Fx := ⟨Tryz.prog, nmT, A.tab (fun _ _ => none) [(99, m_slices_overlaps), (100, m_slices_rotateRight_api_Cue)], (fun _ _ _ => none), [], [], 95, []⟩
theorem w_slices_Insert_api_Cue : Sound Tryz.prog nmT 54 (A.wrap false [] .k (A.ar3 (r_slices_Insert_api_Cue))) :=
 Sound.wrap (Sound.run3 (X := x_slices_Insert_api_Cue) (fn := Tryz.f54) (ann := (.s .n (.s .n (.s .n (.s (.s .n (.j (.s .n .n) .n)) (.s .n (.s (.s .n (.j (.s .n .n) .n)) (.s (.s .n (.j (.s .n (.s .n (.s .n (.s .n .n)))) .n)) (.s .n (.s (.s .n (.j (.s .n (.s .n (.s .n .n))) .n)) (.s .n (.s .n (.s .n .n))))))))))))) .R trivial (Snd.of rfl (All.cons s_slices_overlaps_api_Cue_ (All.cons s_slices_rotateRight_api_Cue All.nil)) (fun _ => Sound.none)) Tryz.func54 Tryz.call54 (fun a0 a1 a2 σ => by kernel_rfl)) _ _ _ rfl rfl
theorem s_slices_Insert_api_Cue : Sound Tryz.prog nmT 54 m_slices_Insert_api_Cue := w_slices_Insert_api_Cue
noncomputable def x_cue_keysOf : Fx := ⟨Tryz.prog, nmT, A.tab (fun _ _ => none) [], (fun _ _ _ => none), [5], [], 19, []⟩
theorem w_cue_keysOf : Sound Tryz.prog nmT 56 (A.wrap true [(.s 8)] .k (A.ar1 (r_cue_keysOf))) :=
 Sound.wrap (Sound.run1 (X := x_cue_keysOf) (fn := Tryz.f56) (ann := (.s .n (.s .n (.s (.s .n (.b (.l [3, 8] [.exit 0] (.s .n (.s (.j .n .n) (.s (.b (.s .n .n)) .n)))))) (.s .n .n))))) .K trivial (Snd.of rfl All.nil (fun _ => Sound.none)) Tryz.func56 Tryz.call56 (fun a0 σ => by kernel_rfl)) _ _ _ rfl rfl
theorem s_cue_keysOf : Sound Tryz.prog nmT 56 m_cue_keysOf := w_cue_keysOf
noncomputable def x_slices_BinarySearchFunc_api_Move_api_Key (dyn : Nat → List AV → Heap → Option (AV × Heap)) : Fx := ⟨Tryz.prog, nmT, A.tab (fun _ _ => none) [], dyn, [4], [], 49, []⟩
theorem w_slices_BinarySearchFunc_api_Move_api_Key (dyn : Nat → List AV → Heap → Option (AV × Heap)) (hd : ∀ f, Sound Tryz.prog nmT f (dyn (nmT.getD f 0))) : Sound Tryz.prog nmT 84 (A.wrap true [(.s 8)] .k (A.ar3 (r_slices_BinarySearchFunc_api_Move_api_Key dyn))) :=
 Sound.wrap (Sound.run3 (X := x_slices_BinarySearchFunc_api_Move_api_Key dyn) (fn := Tryz.f84) (ann := (.s .n (.s .n (.s .n (.s (.b (.l [4, 9, 10] [.exit 0] (.s (.s .n (.j .n .n)) (.b (.s .n (.s .n (.c [4, 9, 10] .n .n))))))) (.s .n .n)))))) .F trivial (Snd.of rfl All.nil (hd)) Tryz.func84 Tryz.call84 (fun a0 a1 a2 σ => by kernel_rfl)) _ _ _ rfl rfl
theorem s_slices_BinarySearchFunc_api_Move_api_Key (dyn : Nat → List AV → Heap → Option (AV × Heap)) (hd : ∀ f, Sound Tryz.prog nmT f (dyn (nmT.getD f 0))) : Sound Tryz.prog nmT 84 (m_slices_BinarySearchFunc_api_Move_api_Key dyn) := w_slices_BinarySearchFunc_api_Move_api_Key dyn hd
noncomputable def x_cue_moveAt_fn1 : Fx := ⟨Tryz.prog, nmT, A.tab (fun _ _ => none) [(53, m_cue_compare)], (fun _ _ _ => none), [2, 3], [], 9, []⟩
theorem w_cue_moveAt_fn1 : Sound Tryz.prog nmT 85 (A.wrap true [] .k (A.ar2 (r_cue_moveAt_fn1))) :=
 Sound.wrap (Sound.run2 (X := x_cue_moveAt_fn1) (fn := Tryz.f85) (ann := (.s .n (.s .n .n))) .F trivial (Snd.of rfl (All.cons s_cue_compare All.nil) (fun _ => Sound.none)) Tryz.func85 Tryz.call85 (fun a0 a1 σ => by kernel_rfl)) _ _ _ rfl rfl
theorem s_cue_moveAt_fn1 : Sound Tryz.prog nmT 85 m_cue_moveAt_fn1 := w_cue_moveAt_fn1
noncomputable def x_cue_moveAt : Fx := ⟨Tryz.prog, nmT, A.tab (fun _ _ => none) [(84, m_slices_BinarySearchFunc_api_Move_api_Key (A.tab (fun _ _ => none) [(185, m_cue_moveAt_fn1)]))], (A.tab (fun _ _ => none) [(185, m_cue_moveAt_fn1)]), [2, 3], [], 12, []⟩
theorem w_cue_moveAt : Sound Tryz.prog nmT 32 (A.wrap true [(.a [.k, .k, .k, .k, .k, .k, .k, (.s 2), .k, .k, (.s 8)])] .k (A.ar2 (r_cue_moveAt))) :=
 Sound.wrap (Sound.run2 (X := x_cue_moveAt) (fn := Tryz.f32) (ann := (.s .n (.s .n .n))) .F trivial (Snd.of rfl (All.cons (s_slices_BinarySearchFunc_api_Move_api_Key _ (dyn_of (DAll.cons (nm_sound s_cue_moveAt_fn1 (by kernel_rfl) rfl) DAll.nil))) All.nil) (dyn_of (DAll.cons (nm_sound s_cue_moveAt_fn1 (by kernel_rfl) rfl) DAll.nil))) Tryz.func32 Tryz.call32 (fun a0 a1 σ => by kernel_rfl)) _ _ _ rfl rfl
theorem s_cue_moveAt : Sound Tryz.prog nmT 32 m_cue_moveAt := w_cue_moveAt
noncomputable def x_slices_Reverse_api_Move : Fx := ⟨Tryz.prog, nmT, A.tab (fun _ _ => none) [], (fun _ _ _ => none), [], [], 28, []⟩
theorem w_slices_Reverse_api_Move : Sound Tryz.prog nmT 188 (A.wrap false [] .k (A.ar1 (r_slices_Reverse_api_Move))) :=
 Sound.wrap (Sound.run1 (X := x_slices_Reverse_api_Move) (fn := Tryz.f188) (ann := (.s .n (.b (.l [2, 3] [.exit 0] (.s (.s .n (.j .n .n)) (.s (.b .n) .n)))))) .K trivial (Snd.of rfl All.nil (fun _ => Sound.none)) Tryz.func188 Tryz.call188 (fun a0 σ => by kernel_rfl)) _ _ _ rfl rfl
theorem s_slices_Reverse_api_Move : Sound Tryz.prog nmT 188 m_slices_Reverse_api_Move := w_slices_Reverse_api_Move
noncomputable def x_slices_rotateLeft_api_Move : Fx := ⟨Tryz.prog, nmT, A.tab (fun _ _ => none) [(188, m_slices_Reverse_api_Move)], (fun _ _ _ => none), [], [], 14, []⟩
theorem w_slices_rotateLeft_api_Move : Sound Tryz.prog nmT 169 (A.wrap false [] .k (A.ar2 (r_slices_rotateLeft_api_Move))) :=
 Sound.wrap (Sound.run2 (X := x_slices_rotateLeft_api_Move) (fn := Tryz.f169) (ann := (.s .n (.s .n .n))) .K trivial (Snd.of rfl (All.cons s_slices_Reverse_api_Move All.nil) (fun _ => Sound.none)) Tryz.func169 Tryz.call169 (fun a0 a1 σ => by kernel_rfl)) _ _ _ rfl rfl
theorem s_slices_rotateLeft_api_Move : Sound Tryz.prog nmT 169 m_slices_rotateLeft_api_Move := w_slices_rotateLeft_api_Move
noncomputable def x_slices_rotateRight_api_Move : Fx := ⟨Tryz.prog, nmT, A.tab (fun _ _ => none) [(169, m_slices_rotateLeft_api_Move)], (fun _ _ _ => none), [], [], 10, []⟩
theorem w_slices_rotateRight_api_Move : Sound Tryz.prog nmT 134 (A.wrap false [] .k (A.ar2 (r_slices_rotateRight_api_Move))) :=
 Sound.wrap (Sound.run2 (X := x_slices_rotateRight_api_Move) (fn := Tryz.f134) (ann := .n) .K trivial (Snd.of rfl (All.cons s_slices_rotateLeft_api_Move All.nil) (fun _ => Sound.none)) Tryz.func134 Tryz.call134 (fun a0 a1 σ => by kernel_rfl)) _ _ _ rfl rfl
theorem s_slices_rotateRight_api_Move : Sound Tryz.prog nmT 134 m_slices_rotateRight_api_Move := w_slices_rotateRight_api_Move
noncomputable def x_slices_Insert_api_Move : Fx := ⟨Tryz.prog, nmT, A.tab (fun _ _ => none) [(133, m_slices_overlaps), (134, m_slices_rotateRight_api_Move)], (fun _ _ _ => none), [], [], 95, []⟩
theorem w_slices_Insert_api_Move : Sound Tryz.prog nmT 86 (A.wrap false [] .k (A.ar3 (r_slices_Insert_api_Move))) :=
 Sound.wrap (Sound.run3 (X := x_slices_Insert_api_Move) (fn := Tryz.f86) (ann := (.s .n (.s .n (.s .n (.s (.s .n (.j (.s .n .n) .n)) (.s .n (.s (.s .n (.j (.s .n .n) .n)) (.s (.s .n (.j (.s .n (.s .n (.s .n (.s .n .n)))) .n)) (.s .n (.s (.s .n (.j (.s .n (.s .n (.s .n .n))) .n)) (.s .n (.s .n (.s .n .n))))))))))))) .R trivial (Snd.of rfl (All.cons s_slices_overlaps_api_Move_ (All.cons s_slices_rotateRight_api_Move All.nil)) (fun _ => Sound.none)) Tryz.func86 Tryz.call86 (fun a0 a1 a2 σ => by kernel_rfl)) _ _ _ rfl rfl
theorem s_slices_Insert_api_Move : Sound Tryz.prog nmT 86 m_slices_Insert_api_Move := w_slices_Insert_api_Move
noncomputable def x_cue_put : Fx := ⟨Tryz.prog, nmT, A.tab (fun _ _ => none) [(32, m_cue_moveAt), (86, m_slices_Insert_api_Move)], (fun _ _ _ => none), [3], [], 34, [86]⟩
theorem w_cue_put : Sound Tryz.prog nmT 34 (A.wrap false [] .k (A.ar2 (r_cue_put))) :=
 Sound.wrap (Sound.run2 (X := x_cue_put) (fn := Tryz.f34) (ann := (.s .n (.s .n (.s (.s .n (.j (.s .n .n) .n)) .n)))) .K trivial (Snd.of rfl (All.cons s_cue_moveAt (All.cons s_slices_Insert_api_Move All.nil)) (fun _ => Sound.none)) Tryz.func34 Tryz.call34 (fun a0 a1 σ => by kernel_rfl)) _ _ _ rfl rfl
theorem s_cue_put : Sound Tryz.prog nmT 34 m_cue_put := w_cue_put
noncomputable def x_cue_restore : Fx := ⟨Tryz.prog, nmT, A.tab (fun _ _ => none) [(32, m_cue_moveAt), (50, m_cue_move), (34, m_cue_put)], (fun _ _ _ => none), [7], [], 32, []⟩
theorem w_cue_restore : Sound Tryz.prog nmT 55 (A.wrap false [] .k (A.ar3 (r_cue_restore))) :=
 Sound.wrap (Sound.run3 (X := x_cue_restore) (fn := Tryz.f55) (ann := (.s .n (.b (.l [12] [.exit 0] (.s .n (.s (.j .n .n) (.s (.b (.s .n (.s .n (.s .n (.c [] .n .n))))) .n))))))) .K trivial (Snd.of rfl (All.cons s_cue_moveAt (All.cons s_cue_move (All.cons s_cue_put All.nil))) (fun _ => Sound.none)) Tryz.func55 Tryz.call55 (fun a0 a1 a2 σ => by kernel_rfl)) _ _ _ rfl rfl
theorem s_cue_restore : Sound Tryz.prog nmT 55 m_cue_restore := w_cue_restore
noncomputable def x_cue_done : Fx := ⟨Tryz.prog, nmT, A.tab (fun _ _ => none) [(44, m_cue_form)], (fun _ _ _ => none), [], [], 11, []⟩
theorem w_cue_done : Sound Tryz.prog nmT 35 (A.wrap false [] .k (A.ar1 (r_cue_done))) :=
 Sound.wrap (Sound.run1 (X := x_cue_done) (fn := Tryz.f35) (ann := (.s .n (.s (.s .n (.s .n (.j (.s .n .n) .n))) (.s .n .n)))) .K trivial (Snd.of rfl (All.cons s_cue_form All.nil) (fun _ => Sound.none)) Tryz.func35 Tryz.call35 (fun a0 σ => by kernel_rfl)) _ _ _ rfl rfl
theorem s_cue_done : Sound Tryz.prog nmT 35 m_cue_done := w_cue_done
noncomputable def x_cue_Copy_fn1 : Fx := ⟨Tryz.prog, nmT, A.tab (fun _ _ => none) [(53, m_cue_compare)], (fun _ _ _ => none), [2, 3], [], 10, []⟩
theorem w_cue_Copy_fn1 : Sound Tryz.prog nmT 52 (A.wrap true [] .k (A.ar2 (r_cue_Copy_fn1))) :=
 Sound.wrap (Sound.run2 (X := x_cue_Copy_fn1) (fn := Tryz.f52) (ann := (.s .n (.s .n .n))) .F trivial (Snd.of rfl (All.cons s_cue_compare All.nil) (fun _ => Sound.none)) Tryz.func52 Tryz.call52 (fun a0 a1 σ => by kernel_rfl)) _ _ _ rfl rfl
theorem s_cue_Copy_fn1 : Sound Tryz.prog nmT 52 m_cue_Copy_fn1 := w_cue_Copy_fn1
noncomputable def x_cue_Copy : Fx := ⟨Tryz.prog, nmT, A.tab (fun _ _ => none) [(44, m_cue_form), (30, m_cue_place), (46, m_word_When), (47, m_cue_numberFault), (45, m_word_First), (48, m_cue_state), (49, m_slices_Clone_api_Point), (50, m_cue_move), (51, m_slices_SortFunc_Move), (29, m_cue_copied), (54, m_slices_Insert_api_Cue), (56, A.finC (.s 2) m_cue_keysOf), (55, m_cue_restore), (35, m_cue_done)], (A.tab (fun _ _ => none) [(271, m_cue_Copy_fn1)]), [16, 17, 18, 19, 21, 22], [], 158, [29, 54, 55]⟩
theorem w_cue_Copy : Sound Tryz.prog nmT 12 (A.wrap true [(.e 11 [.k, .k, .k, .k, .k, .k, .k, (.s 2), .k, .k, (.s 8)])] (.t [(.e 11 [.k, .k, .k, .k, .k, .k, .k, (.s 2), .k, .k, (.s 8)]), .k]) (A.ar3 (r_cue_Copy))) :=
 Sound.wrap (Sound.run3 (X := x_cue_Copy) (fn := Tryz.f12) (ann := (.s .n (.s (.s .n (.s .n (.j (.s .n .n) .n))) (.s .n (.s .n (.s (.s .n (.s .n (.j (.s .n .n) .n))) (.s .n (.s .n (.s .n (.s .n (.s (.s .n (.b (.lc [16] [.exit 0] (.s .n (.s (.j .n .n) (.b (.s .n (.s .n (.s .n (.c [16] .n .n)))))))))) (.s (.s .n (.b (.lc [16] [.exit 2] (.s .n (.s (.j .n .n) (.b (.s .n (.s .n (.s .n (.c [16] .n .n)))))))))) (.s .n (.s .n (.s (.s .n (.c [] .n .n)) (.s .n .n)))))))))))))))) (.N (A.nn (.t [(.e 11 [.k, .k, .k, .k, .k, .k, .k, (.s 2), .k, .k, (.s 8)]), .k]))) (fun _ _ _ h => nn_rep _ _ _ rfl h) (Snd.of rfl (All.cons s_cue_form (All.cons s_cue_place (All.cons s_word_When (All.cons s_cue_numberFault (All.cons s_word_First (All.cons s_cue_state (All.cons s_slices_Clone_api_Point (All.cons s_cue_move (All.cons s_slices_SortFunc_api_Move_api_Move_ (All.cons s_cue_copied (All.cons s_slices_Insert_api_Cue (All.cons (Sound.finC s_cue_keysOf (.s 2) rfl) (All.cons s_cue_restore (All.cons s_cue_done All.nil)))))))))))))) (dyn_of (DAll.cons (nm_sound s_cue_Copy_fn1 (by kernel_rfl) rfl) DAll.nil))) Tryz.func12 Tryz.call12 (fun a0 a1 a2 σ => by kernel_rfl)) _ _ _ rfl rfl
theorem s_cue_Copy : Sound Tryz.prog nmT 12 m_cue_Copy := w_cue_Copy
noncomputable def x_R1_Within : Fx := ⟨Tryz.prog, nmT, A.tab (fun _ _ => none) [], (fun _ _ _ => none), [], [], 15, []⟩
theorem w_R1_Within : Sound Tryz.prog nmT 60 (A.wrap true [] .k (A.ar3 (r_R1_Within))) :=
 Sound.wrap (Sound.run3 (X := x_R1_Within) (fn := Tryz.f60) (ann := (.s .n (.s .n .n))) .F trivial (Snd.of rfl All.nil (fun _ => Sound.none)) Tryz.func60 Tryz.call60 (fun a0 a1 a2 σ => by kernel_rfl)) _ _ _ rfl rfl
theorem s_R1_Within : Sound Tryz.prog nmT 60 m_R1_Within := w_R1_Within
noncomputable def x_R1_IsTitle : Fx := ⟨Tryz.prog, nmT, A.tab (fun _ _ => none) [], (fun _ _ _ => none), [], [], 40, []⟩
theorem w_R1_IsTitle : Sound Tryz.prog nmT 105 (A.wrap true [] .k (A.ar1 (r_R1_IsTitle))) :=
 Sound.wrap (Sound.run1 (X := x_R1_IsTitle) (fn := Tryz.f105) (ann := (.s .n (.s (.s .n (.j (.s .n .n) .n)) (.s (.s .n (.b (.l [2, 26] [.exit 0, .ret] (.s .n (.s (.j .n .n) (.s (.b (.s .n (.s .n (.j (.s .n .n) .n)))) .n)))))) (.s .n .n))))) .F trivial (Snd.of rfl All.nil (fun _ => Sound.none)) Tryz.func105 Tryz.call105 (fun a0 σ => by kernel_rfl)) _ _ _ rfl rfl
theorem s_R1_IsTitle : Sound Tryz.prog nmT 105 m_R1_IsTitle := w_R1_IsTitle
noncomputable def x_R1_IsTime : Fx := ⟨Tryz.prog, nmT, A.tab (fun _ _ => none) [(60, m_R1_Within)], (fun _ _ _ => none), [], [], 5, []⟩
theorem w_R1_IsTime : Sound Tryz.prog nmT 106 (A.wrap true [] .k (A.ar1 (r_R1_IsTime))) :=
 Sound.wrap (Sound.run1 (X := x_R1_IsTime) (fn := Tryz.f106) (ann := (.s .n (.s .n .n))) .F trivial (Snd.of rfl (All.cons s_R1_Within All.nil) (fun _ => Sound.none)) Tryz.func106 Tryz.call106 (fun a0 σ => by kernel_rfl)) _ _ _ rfl rfl
theorem s_R1_IsTime : Sound Tryz.prog nmT 106 m_R1_IsTime := w_R1_IsTime
end Go.Proofs.YtphgchakmkankaaGreat

namespace Go.Proofs.YtphgchakmkankaaGreat
set_option linter.unusedSectionVars false
set_option maxRecDepth 100000
set_option linter.unusedVariables false
set_option linter.unusedSimpArgs false
noncomputable def x_R1_CheckCurve : Fx := ⟨Tryz.prog, nmT, A.tab (fun _ _ => none) [(60, m_R1_Within)], (fun _ _ _ => none), [1, 4], [], 108, []⟩
theorem w_R1_CheckCurve : Sound Tryz.prog nmT 107 (A.wrap true [(.a [.k, (.s 2)])] .k (A.ar1 (r_R1_CheckCurve))) :=
 Sound.wrap (Sound.run1 (X := x_R1_CheckCurve) (fn := Tryz.f107) (ann := (.s .n (.s (.b (.s .n (.j (.s .n .n) (.s .n (.j (.s .n .n) (.s .n (.j (.s .n .n) (.s .n (.j (.s .n .n) (.s .n (.j (.s .n .n) .n))))))))))) (.s (.s .n (.b (.l [1, 2, 38] [.exit 1, .ret] (.s .n (.s (.j .n .n) (.s (.b (.s .n (.s .n (.j (.s .n .n) .n)))) .n)))))) (.s (.s .n (.j (.s .n .n) .n)) (.s (.s .n (.b (.l [1, 2, 5] [.exit 3, .ret] (.s (.s .n (.j .n .n)) (.s (.b (.s .n (.j (.s .n .n) .n))) .n))))) (.s .n .n))))))) .F trivial (Snd.of rfl (All.cons s_R1_Within All.nil) (fun _ => Sound.none)) Tryz.func107 Tryz.call107 (fun a0 σ => by kernel_rfl)) _ _ _ rfl rfl
theorem s_R1_CheckCurve : Sound Tryz.prog nmT 107 m_R1_CheckCurve := w_R1_CheckCurve
noncomputable def x_R1_IsWord : Fx := ⟨Tryz.prog, nmT, A.tab (fun _ _ => none) [], (fun _ _ _ => none), [], [], 34, []⟩
theorem w_R1_IsWord : Sound Tryz.prog nmT 190 (A.wrap true [] .k (A.ar1 (r_R1_IsWord))) :=
 Sound.wrap (Sound.run1 (X := x_R1_IsWord) (fn := Tryz.f190) (ann := (.s .n (.s (.s .n (.b (.l [2, 7] [.exit 0, .ret] (.s .n (.s (.j .n .n) (.s (.b (.s .n (.s .n (.s .n (.j (.s .n .n) .n))))) .n)))))) (.s .n .n)))) .F trivial (Snd.of rfl All.nil (fun _ => Sound.none)) Tryz.func190 Tryz.call190 (fun a0 σ => by kernel_rfl)) _ _ _ rfl rfl
theorem s_R1_IsWord : Sound Tryz.prog nmT 190 m_R1_IsWord := w_R1_IsWord
noncomputable def x_R1_IsName : Fx := ⟨Tryz.prog, nmT, A.tab (fun _ _ => none) [(190, m_R1_IsWord)], (fun _ _ _ => none), [], [], 20, []⟩
theorem w_R1_IsName : Sound Tryz.prog nmT 178 (A.wrap true [] .k (A.ar1 (r_R1_IsName))) :=
 Sound.wrap (Sound.run1 (X := x_R1_IsName) (fn := Tryz.f178) (ann := (.s .n (.s .n .n))) .F trivial (Snd.of rfl (All.cons s_R1_IsWord All.nil) (fun _ => Sound.none)) Tryz.func178 Tryz.call178 (fun a0 σ => by kernel_rfl)) _ _ _ rfl rfl
theorem s_R1_IsName : Sound Tryz.prog nmT 178 m_R1_IsName := w_R1_IsName
noncomputable def x_R1_IsLevel : Fx := ⟨Tryz.prog, nmT, A.tab (fun _ _ => none) [(60, m_R1_Within)], (fun _ _ _ => none), [], [], 5, []⟩
theorem w_R1_IsLevel : Sound Tryz.prog nmT 122 (A.wrap true [] .k (A.ar1 (r_R1_IsLevel))) :=
 Sound.wrap (Sound.run1 (X := x_R1_IsLevel) (fn := Tryz.f122) (ann := (.s .n (.s .n .n))) .F trivial (Snd.of rfl (All.cons s_R1_Within All.nil) (fun _ => Sound.none)) Tryz.func122 Tryz.call122 (fun a0 σ => by kernel_rfl)) _ _ _ rfl rfl
theorem s_R1_IsLevel : Sound Tryz.prog nmT 122 m_R1_IsLevel := w_R1_IsLevel
noncomputable def x_R4_Before : Fx := ⟨Tryz.prog, nmT, A.tab (fun _ _ => none) [], (fun _ _ _ => none), [2, 3], [], 24, []⟩
theorem w_R4_Before : Sound Tryz.prog nmT 88 (A.wrap true [] .k (A.ar2 (r_R4_Before))) :=
 Sound.wrap (Sound.run2 (X := x_R4_Before) (fn := Tryz.f88) (ann := (.s .n (.s .n .n))) .F trivial (Snd.of rfl All.nil (fun _ => Sound.none)) Tryz.func88 Tryz.call88 (fun a0 a1 σ => by kernel_rfl)) _ _ _ rfl rfl
theorem s_R4_Before : Sound Tryz.prog nmT 88 m_R4_Before := w_R4_Before
noncomputable def x_R5_checkMove : Fx := ⟨Tryz.prog, nmT, A.tab (fun _ _ => none) [(60, m_R1_Within), (178, m_R1_IsName), (122, m_R1_IsLevel), (106, m_R1_IsTime), (88, m_R4_Before)], (fun _ _ _ => none), [2], [], 93, []⟩
theorem w_R5_checkMove : Sound Tryz.prog nmT 148 (A.wrap true [.k, (.s 8)] .k (A.ar2 (r_R5_checkMove))) :=
 Sound.wrap (Sound.run2 (X := x_R5_checkMove) (fn := Tryz.f148) (ann := (.s .n (.s (.b (.s .n (.j (.s .n .n) (.s .n (.j (.s .n .n) (.s .n (.j (.s .n .n) (.s .n (.j (.s .n .n) (.s .n (.j (.s .n .n) (.s .n (.j (.s .n .n) (.s .n (.j (.s .n .n) .n))))))))))))))) (.s .n .n)))) .F trivial (Snd.of rfl (All.cons s_R1_Within (All.cons s_R1_IsName (All.cons s_R1_IsLevel (All.cons s_R1_IsTime (All.cons s_R4_Before All.nil))))) (fun _ => Sound.none)) Tryz.func148 Tryz.call148 (fun a0 a1 σ => by kernel_rfl)) _ _ _ rfl rfl
theorem s_R5_checkMove : Sound Tryz.prog nmT 148 m_R5_checkMove := w_R5_checkMove
noncomputable def x_R5_checkMoves : Fx := ⟨Tryz.prog, nmT, A.tab (fun _ _ => none) [(148, m_R5_checkMove)], (fun _ _ _ => none), [4], [], 25, []⟩
theorem w_R5_checkMoves : Sound Tryz.prog nmT 108 (A.wrap true [(.s 8)] .k (A.ar1 (r_R5_checkMoves))) :=
 Sound.wrap (Sound.run1 (X := x_R5_checkMoves) (fn := Tryz.f108) (ann := (.s .n (.s (.s .n (.j (.s .n .n) .n)) (.s (.s .n (.b (.l [2, 11] [.exit 0, .ret] (.s .n (.s (.j .n .n) (.s (.b (.s .n (.s .n (.s .n (.j (.s .n .n) .n))))) .n)))))) (.s .n .n))))) .F trivial (Snd.of rfl (All.cons s_R5_checkMove All.nil) (fun _ => Sound.none)) Tryz.func108 Tryz.call108 (fun a0 σ => by kernel_rfl)) _ _ _ rfl rfl
theorem s_R5_checkMoves : Sound Tryz.prog nmT 108 m_R5_checkMoves := w_R5_checkMoves
noncomputable def x_R5_CheckForm : Fx := ⟨Tryz.prog, nmT, A.tab (fun _ _ => none) [(60, m_R1_Within), (105, m_R1_IsTitle), (106, m_R1_IsTime), (107, m_R1_CheckCurve), (108, m_R5_checkMoves)], (fun _ _ _ => none), [5], [], 96, []⟩
theorem w_R5_CheckForm : Sound Tryz.prog nmT 59 (A.wrap true [(.e 11 [.k, .k, .k, .k, .k, .k, .k, (.s 2), .k, .k, (.s 8)])] .k (A.ar1 (r_R5_CheckForm))) :=
 Sound.wrap (Sound.run1 (X := x_R5_CheckForm) (fn := Tryz.f59) (ann := (.s .n (.s (.s .n (.j (.s .n .n) .n)) (.s .n (.s (.s .n (.b (.l [2, 3, 13] [.exit 0, .ret] (.s .n (.s (.j .n .n) (.s (.b (.s .n (.s (.b (.s .n (.j (.s .n .n) (.s .n (.j (.s .n .n) (.s .n (.j (.s .n .n) (.s .n (.j (.s .n .n) .n))))))))) (.s (.s .n (.s .n (.j (.s .n .n) .n))) (.s (.s .n (.s .n (.j (.s .n .n) .n))) .n))))) .n)))))) (.s (.s .n (.j (.s .n .n) .n)) (.s .n .n))))))) .F trivial (Snd.of rfl (All.cons s_R1_Within (All.cons s_R1_IsTitle (All.cons s_R1_IsTime (All.cons s_R1_CheckCurve (All.cons s_R5_checkMoves All.nil))))) (fun _ => Sound.none)) Tryz.func59 Tryz.call59 (fun a0 σ => by kernel_rfl)) _ _ _ rfl rfl
theorem s_R5_CheckForm : Sound Tryz.prog nmT 59 m_R5_CheckForm := w_R5_CheckForm
noncomputable def x_R5_At : Fx := ⟨Tryz.prog, nmT, A.tab (fun _ _ => none) [], (fun _ _ _ => none), [6], [], 20, []⟩
theorem w_R5_At : Sound Tryz.prog nmT 37 (A.wrap true [(.e 11 [.k, .k, .k, .k, .k, .k, .k, (.s 2), .k, .k, (.s 8)])] .k (A.ar2 (r_R5_At))) :=
 Sound.wrap (Sound.run2 (X := x_R5_At) (fn := Tryz.f37) (ann := (.s .n (.s (.s .n (.b (.l [4, 9] [.exit 0, .ret] (.s .n (.s (.j .n .n) (.s (.b (.s .n (.s .n (.j (.s .n .n) .n)))) .n)))))) (.s .n .n)))) .F trivial (Snd.of rfl All.nil (fun _ => Sound.none)) Tryz.func37 Tryz.call37 (fun a0 a1 σ => by kernel_rfl)) _ _ _ rfl rfl
theorem s_R5_At : Sound Tryz.prog nmT 37 m_R5_At := w_R5_At
noncomputable def x_R5_checkCopy : Fx := ⟨Tryz.prog, nmT, A.tab (fun _ _ => none) [(59, m_R5_CheckForm), (37, m_R5_At), (60, m_R1_Within)], (fun _ _ _ => none), [], [], 27, []⟩
theorem w_R5_checkCopy : Sound Tryz.prog nmT 57 (A.wrap true [(.e 11 [.k, .k, .k, .k, .k, .k, .k, (.s 2), .k, .k, (.s 8)])] .k (A.ar3 (r_R5_checkCopy))) :=
 Sound.wrap (Sound.run3 (X := x_R5_checkCopy) (fn := Tryz.f57) (ann := (.s .n (.s (.s .n (.s .n (.j (.s .n .n) .n))) (.s (.b (.s .n (.j (.s .n .n) (.s .n (.j (.s .n .n) (.s .n (.j (.s .n .n) .n))))))) (.s .n .n))))) .F trivial (Snd.of rfl (All.cons s_R5_CheckForm (All.cons s_R5_At (All.cons s_R1_Within All.nil))) (fun _ => Sound.none)) Tryz.func57 Tryz.call57 (fun a0 a1 a2 σ => by kernel_rfl)) _ _ _ rfl rfl
theorem s_R5_checkCopy : Sound Tryz.prog nmT 57 m_R5_checkCopy := w_R5_checkCopy
noncomputable def x_slices_Clone_api_Cue : Fx := ⟨Tryz.prog, nmT, A.tab (fun _ _ => none) [], (fun _ _ _ => none), [], [], 8, []⟩
theorem w_slices_Clone_api_Cue : Sound Tryz.prog nmT 87 (A.wrap true [(.s 11)] .k (A.ar1 (r_slices_Clone_api_Cue))) :=
 Sound.wrap (Sound.run1 (X := x_slices_Clone_api_Cue) (fn := Tryz.f87) (ann := (.s .n (.s (.s .n (.j (.s .n .n) .n)) (.s .n .n)))) .K trivial (Snd.of rfl All.nil (fun _ => Sound.none)) Tryz.func87 Tryz.call87 (fun a0 σ => by kernel_rfl)) _ _ _ rfl rfl
theorem s_slices_Clone_api_Cue : Sound Tryz.prog nmT 87 m_slices_Clone_api_Cue := clone_sound w_slices_Clone_api_Cue Tryz.call87 cz_Cue
noncomputable def x_R5_cloned : Fx := ⟨Tryz.prog, nmT, A.tab (fun _ _ => none) [(87, m_slices_Clone_api_Cue), (81, m_slices_Clone_api_Move), (49, m_slices_Clone_api_Point)], (fun _ _ _ => none), [], [], 36, []⟩
theorem w_R5_cloned : Sound Tryz.prog nmT 36 (A.wrap true [(.e 11 [.k, .k, .k, .k, .k, .k, .k, (.s 2), .k, .k, (.s 8)])] .k (A.ar1 (r_R5_cloned))) :=
 Sound.wrap (Sound.run1 (X := x_R5_cloned) (fn := Tryz.f36) (ann := (.s .n (.s .n (.s (.s .n (.b (.l [9] [.exit 0] (.s .n (.s (.j .n .n) (.s (.b (.s .n (.s .n .n))) .n)))))) (.s .n .n))))) .K trivial (Snd.of rfl (All.cons s_slices_Clone_api_Cue (All.cons s_slices_Clone_api_Move (All.cons s_slices_Clone_api_Point All.nil))) (fun _ => Sound.none)) Tryz.func36 Tryz.call36 (fun a0 σ => by kernel_rfl)) _ _ _ rfl rfl
theorem s_R5_cloned : Sound Tryz.prog nmT 36 m_R5_cloned := w_R5_cloned
noncomputable def x_slices_Clone_api_Entry : Fx := ⟨Tryz.prog, nmT, A.tab (fun _ _ => none) [], (fun _ _ _ => none), [], [], 8, []⟩
theorem w_slices_Clone_api_Entry : Sound Tryz.prog nmT 159 (A.wrap true [(.s 5)] .k (A.ar1 (r_slices_Clone_api_Entry))) :=
 Sound.wrap (Sound.run1 (X := x_slices_Clone_api_Entry) (fn := Tryz.f159) (ann := (.s .n (.s (.s .n (.j (.s .n .n) .n)) (.s .n .n)))) .K trivial (Snd.of rfl All.nil (fun _ => Sound.none)) Tryz.func159 Tryz.call159 (fun a0 σ => by kernel_rfl)) _ _ _ rfl rfl
theorem s_slices_Clone_api_Entry : Sound Tryz.prog nmT 159 m_slices_Clone_api_Entry := clone_sound w_slices_Clone_api_Entry Tryz.call159 cz_Entry
noncomputable def x_R5_place : Fx := ⟨Tryz.prog, nmT, A.tab (fun _ _ => none) [(88, m_R4_Before)], (fun _ _ _ => none), [3], [], 36, []⟩
theorem w_R5_place : Sound Tryz.prog nmT 129 (A.wrap true [(.s 5)] .k (A.ar2 (r_R5_place))) :=
 Sound.wrap (Sound.run2 (X := x_R5_place) (fn := Tryz.f129) (ann := (.s .n (.s .n (.s (.b (.l [3, 6] [.exit 0] (.s (.s .n (.j .n .n)) (.b .n)))) (.s .n .n))))) .F trivial (Snd.of rfl (All.cons s_R4_Before All.nil) (fun _ => Sound.none)) Tryz.func129 Tryz.call129 (fun a0 a1 σ => by kernel_rfl)) _ _ _ rfl rfl
theorem s_R5_place : Sound Tryz.prog nmT 129 m_R5_place := w_R5_place
noncomputable def x_slices_Delete_api_Entry : Fx := ⟨Tryz.prog, nmT, A.tab (fun _ _ => none) [], (fun _ _ _ => none), [], [], 33, []⟩
theorem w_slices_Delete_api_Entry : Sound Tryz.prog nmT 160 (A.wrap false [] .k (A.ar3 (r_slices_Delete_api_Entry))) :=
 Sound.wrap (Sound.run3 (X := x_slices_Delete_api_Entry) (fn := Tryz.f160) (ann := (.s .n (.s .n (.s (.s .n (.j (.s .n .n) .n)) (.s .n (.s .n (.s .n (.s .n .n)))))))) .R trivial (Snd.of rfl All.nil (fun _ => Sound.none)) Tryz.func160 Tryz.call160 (fun a0 a1 a2 σ => by kernel_rfl)) _ _ _ rfl rfl
theorem s_slices_Delete_api_Entry : Sound Tryz.prog nmT 160 m_slices_Delete_api_Entry := w_slices_Delete_api_Entry
noncomputable def x_slices_Reverse_api_Entry : Fx := ⟨Tryz.prog, nmT, A.tab (fun _ _ => none) [], (fun _ _ _ => none), [], [], 28, []⟩
theorem w_slices_Reverse_api_Entry : Sound Tryz.prog nmT 197 (A.wrap false [] .k (A.ar1 (r_slices_Reverse_api_Entry))) :=
 Sound.wrap (Sound.run1 (X := x_slices_Reverse_api_Entry) (fn := Tryz.f197) (ann := (.s .n (.b (.l [2, 3] [.exit 0] (.s (.s .n (.j .n .n)) (.s (.b .n) .n)))))) .K trivial (Snd.of rfl All.nil (fun _ => Sound.none)) Tryz.func197 Tryz.call197 (fun a0 σ => by kernel_rfl)) _ _ _ rfl rfl
theorem s_slices_Reverse_api_Entry : Sound Tryz.prog nmT 197 m_slices_Reverse_api_Entry := w_slices_Reverse_api_Entry
noncomputable def x_slices_rotateLeft_api_Entry : Fx := ⟨Tryz.prog, nmT, A.tab (fun _ _ => none) [(197, m_slices_Reverse_api_Entry)], (fun _ _ _ => none), [], [], 14, []⟩
theorem w_slices_rotateLeft_api_Entry : Sound Tryz.prog nmT 193 (A.wrap false [] .k (A.ar2 (r_slices_rotateLeft_api_Entry))) :=
 Sound.wrap (Sound.run2 (X := x_slices_rotateLeft_api_Entry) (fn := Tryz.f193) (ann := (.s .n (.s .n .n))) .K trivial (Snd.of rfl (All.cons s_slices_Reverse_api_Entry All.nil) (fun _ => Sound.none)) Tryz.func193 Tryz.call193 (fun a0 a1 σ => by kernel_rfl)) _ _ _ rfl rfl
theorem s_slices_rotateLeft_api_Entry : Sound Tryz.prog nmT 193 m_slices_rotateLeft_api_Entry := w_slices_rotateLeft_api_Entry
noncomputable def x_slices_rotateRight_api_Entry : Fx := ⟨Tryz.prog, nmT, A.tab (fun _ _ => none) [(193, m_slices_rotateLeft_api_Entry)], (fun _ _ _ => none), [], [], 10, []⟩
theorem w_slices_rotateRight_api_Entry : Sound Tryz.prog nmT 185 (A.wrap false [] .k (A.ar2 (r_slices_rotateRight_api_Entry))) :=
 Sound.wrap (Sound.run2 (X := x_slices_rotateRight_api_Entry) (fn := Tryz.f185) (ann := .n) .K trivial (Snd.of rfl (All.cons s_slices_rotateLeft_api_Entry All.nil) (fun _ => Sound.none)) Tryz.func185 Tryz.call185 (fun a0 a1 σ => by kernel_rfl)) _ _ _ rfl rfl
theorem s_slices_rotateRight_api_Entry : Sound Tryz.prog nmT 185 m_slices_rotateRight_api_Entry := w_slices_rotateRight_api_Entry
noncomputable def x_slices_Insert_api_Entry : Fx := ⟨Tryz.prog, nmT, A.tab (fun _ _ => none) [(184, m_slices_overlaps), (185, m_slices_rotateRight_api_Entry)], (fun _ _ _ => none), [], [], 95, []⟩
theorem w_slices_Insert_api_Entry : Sound Tryz.prog nmT 161 (A.wrap false [] .k (A.ar3 (r_slices_Insert_api_Entry))) :=
 Sound.wrap (Sound.run3 (X := x_slices_Insert_api_Entry) (fn := Tryz.f161) (ann := (.s .n (.s .n (.s .n (.s (.s .n (.j (.s .n .n) .n)) (.s .n (.s (.s .n (.j (.s .n .n) .n)) (.s (.s .n (.j (.s .n (.s .n (.s .n (.s .n .n)))) .n)) (.s .n (.s (.s .n (.j (.s .n (.s .n (.s .n .n))) .n)) (.s .n (.s .n (.s .n .n))))))))))))) .R trivial (Snd.of rfl (All.cons s_slices_overlaps_api_Entry_ (All.cons s_slices_rotateRight_api_Entry All.nil)) (fun _ => Sound.none)) Tryz.func161 Tryz.call161 (fun a0 a1 a2 σ => by kernel_rfl)) _ _ _ rfl rfl
theorem s_slices_Insert_api_Entry : Sound Tryz.prog nmT 161 m_slices_Insert_api_Entry := w_slices_Insert_api_Entry
noncomputable def x_R5_after : Fx := ⟨Tryz.prog, nmT, A.tab (fun _ _ => none) [(159, m_slices_Clone_api_Entry), (129, m_R5_place), (160, m_slices_Delete_api_Entry), (161, m_slices_Insert_api_Entry)], (fun _ _ _ => none), [3, 7], [], 48, []⟩
theorem w_R5_after : Sound Tryz.prog nmT 114 (A.wrap true [(.s 5), (.a [.k, .k, .k, .k, .k, .k, .k, (.s 2), .k, .k, (.s 8)])] .k (A.ar2 (r_R5_after))) :=
 Sound.wrap (Sound.run2 (X := x_R5_after) (fn := Tryz.f114) (ann := (.s .n (.s .n (.s (.s .n (.b (.l [3, 5, 15] [.exit 0] (.s .n (.s (.j .n .n) (.s (.b (.s .n (.s .n (.s (.s .n (.c [3, 5, 7] .n .n)) (.s .n (.c [3, 5] .n .n)))))) .n)))))) (.s .n .n))))) .K trivial (Snd.of rfl (All.cons s_slices_Clone_api_Entry (All.cons s_R5_place (All.cons s_slices_Delete_api_Entry (All.cons s_slices_Insert_api_Entry All.nil)))) (fun _ => Sound.none)) Tryz.func114 Tryz.call114 (fun a0 a1 σ => by kernel_rfl)) _ _ _ rfl rfl
theorem s_R5_after : Sound Tryz.prog nmT 114 m_R5_after := w_R5_after
noncomputable def x_R5_Before : Fx := ⟨Tryz.prog, nmT, A.tab (fun _ _ => none) [(114, m_R5_after)], (fun _ _ _ => none), [7], [], 21, []⟩
theorem w_R5_Before : Sound Tryz.prog nmT 65 (A.wrap true [(.e 11 [.k, .k, .k, .k, .k, .k, .k, (.s 2), .k, .k, (.s 8)])] .k (A.ar2 (r_R5_Before))) :=
 Sound.wrap (Sound.run2 (X := x_R5_Before) (fn := Tryz.f65) (ann := (.s .n (.s .n (.s (.s .n (.b (.l [5, 12] [.exit 0] (.s .n (.s (.j .n .n) (.s (.b (.s .n .n)) .n)))))) (.s .n .n))))) .K trivial (Snd.of rfl (All.cons s_R5_after All.nil) (fun _ => Sound.none)) Tryz.func65 Tryz.call65 (fun a0 a1 σ => by kernel_rfl)) _ _ _ rfl rfl
theorem s_R5_Before : Sound Tryz.prog nmT 65 m_R5_Before := w_R5_Before
noncomputable def x_R5_insert : Fx := ⟨Tryz.prog, nmT, A.tab (fun _ _ => none) [(54, m_slices_Insert_api_Cue)], (fun _ _ _ => none), [3], [], 29, []⟩
theorem w_R5_insert : Sound Tryz.prog nmT 101 (A.wrap false [] .k (A.ar2 (r_R5_insert))) :=
 Sound.wrap (Sound.run2 (X := x_R5_insert) (fn := Tryz.f101) (ann := (.s .n (.s .n (.s (.b (.l [3, 6] [.exit 0] (.s (.s .n (.j .n .n)) (.b .n)))) (.s .n .n))))) .K trivial (Snd.of rfl (All.cons s_slices_Insert_api_Cue All.nil) (fun _ => Sound.none)) Tryz.func101 Tryz.call101 (fun a0 a1 σ => by kernel_rfl)) _ _ _ rfl rfl
theorem s_R5_insert : Sound Tryz.prog nmT 101 m_R5_insert := w_R5_insert
noncomputable def x_R5_keysOf : Fx := ⟨Tryz.prog, nmT, A.tab (fun _ _ => none) [(129, m_R5_place)], (fun _ _ _ => none), [7, 9], [], 46, []⟩
theorem w_R5_keysOf : Sound Tryz.prog nmT 102 (A.wrap true [(.s 5), (.s 5)] .k (A.ar2 (r_R5_keysOf))) :=
 Sound.wrap (Sound.run2 (X := x_R5_keysOf) (fn := Tryz.f102) (ann := (.s .n (.s .n (.s (.s .n (.b (.l [5, 14] [.exit 0] (.s .n (.s (.j .n .n) (.s (.b (.s .n .n)) .n)))))) (.s (.s .n (.b (.l [5, 26] [.exit 2] (.s .n (.s (.j .n .n) (.s (.b (.s .n (.s .n (.s .n (.c [5] .n .n))))) .n)))))) (.s .n .n)))))) .K trivial (Snd.of rfl (All.cons s_R5_place All.nil) (fun _ => Sound.none)) Tryz.func102 Tryz.call102 (fun a0 a1 σ => by kernel_rfl)) _ _ _ rfl rfl
theorem s_R5_keysOf : Sound Tryz.prog nmT 102 m_R5_keysOf := w_R5_keysOf
noncomputable def x_R5_valued : Fx := ⟨Tryz.prog, nmT, A.tab (fun _ _ => none) [(129, m_R5_place)], (fun _ _ _ => none), [3, 4], [], 23, []⟩
theorem w_R5_valued : Sound Tryz.prog nmT 103 (A.wrap true [(.s 5)] .k (A.ar2 (r_R5_valued))) :=
 Sound.wrap (Sound.run2 (X := x_R5_valued) (fn := Tryz.f103) (ann := (.s .n (.s (.s .n (.s .n (.j (.s .n .n) .n))) (.s .n .n)))) .F trivial (Snd.of rfl (All.cons s_R5_place All.nil) (fun _ => Sound.none)) Tryz.func103 Tryz.call103 (fun a0 a1 σ => by kernel_rfl)) _ _ _ rfl rfl
theorem s_R5_valued : Sound Tryz.prog nmT 103 m_R5_valued := w_R5_valued
noncomputable def x_R5_moveOf : Fx := ⟨Tryz.prog, nmT, A.tab (fun _ _ => none) [(88, m_R4_Before)], (fun _ _ _ => none), [3], [], 36, []⟩
theorem w_R5_moveOf : Sound Tryz.prog nmT 39 (A.wrap true [(.s 8)] .k (A.ar2 (r_R5_moveOf))) :=
 Sound.wrap (Sound.run2 (X := x_R5_moveOf) (fn := Tryz.f39) (ann := (.s .n (.s .n (.s (.b (.l [3, 6] [.exit 0] (.s (.s .n (.j .n .n)) (.b .n)))) (.s .n .n))))) .F trivial (Snd.of rfl (All.cons s_R4_Before All.nil) (fun _ => Sound.none)) Tryz.func39 Tryz.call39 (fun a0 a1 σ => by kernel_rfl)) _ _ _ rfl rfl
theorem s_R5_moveOf : Sound Tryz.prog nmT 39 m_R5_moveOf := w_R5_moveOf
noncomputable def x_R5_put : Fx := ⟨Tryz.prog, nmT, A.tab (fun _ _ => none) [(39, m_R5_moveOf), (86, m_slices_Insert_api_Move)], (fun _ _ _ => none), [3], [], 25, []⟩
theorem w_R5_put : Sound Tryz.prog nmT 40 (A.wrap false [] .k (A.ar2 (r_R5_put))) :=
 Sound.wrap (Sound.run2 (X := x_R5_put) (fn := Tryz.f40) (ann := (.s .n (.s .n (.s (.s .n (.j (.s .n (.s .n .n)) .n)) (.s .n .n))))) .K trivial (Snd.of rfl (All.cons s_R5_moveOf (All.cons s_slices_Insert_api_Move All.nil)) (fun _ => Sound.none)) Tryz.func40 Tryz.call40 (fun a0 a1 σ => by kernel_rfl)) _ _ _ rfl rfl
theorem s_R5_put : Sound Tryz.prog nmT 40 m_R5_put := w_R5_put
noncomputable def x_R5_restore : Fx := ⟨Tryz.prog, nmT, A.tab (fun _ _ => none) [(39, m_R5_moveOf), (103, m_R5_valued), (40, m_R5_put)], (fun _ _ _ => none), [5], [], 30, [40]⟩
theorem w_R5_restore : Sound Tryz.prog nmT 104 (A.wrap false [] .k (A.ar3 (r_R5_restore))) :=
 Sound.wrap (Sound.run3 (X := x_R5_restore) (fn := Tryz.f104) (ann := (.s .n (.s .n (.s .n (.c [] .n .n))))) .K trivial (Snd.of rfl (All.cons s_R5_moveOf (All.cons s_R5_valued (All.cons s_R5_put All.nil))) (fun _ => Sound.none)) Tryz.func104 Tryz.call104 (fun a0 a1 a2 σ => by kernel_rfl)) _ _ _ rfl rfl
theorem s_R5_restore : Sound Tryz.prog nmT 104 m_R5_restore := w_R5_restore
noncomputable def x_R5_copied : Fx := ⟨Tryz.prog, nmT, A.tab (fun _ _ => none) [(36, m_R5_cloned), (37, m_R5_At), (65, m_R5_Before), (49, m_slices_Clone_api_Point), (101, m_R5_insert), (102, m_R5_keysOf), (103, m_R5_valued), (104, m_R5_restore), (40, m_R5_put)], (fun _ _ _ => none), [10, 14, 15, 16], [], 99, [104, 40]⟩
theorem w_R5_copied : Sound Tryz.prog nmT 58 (A.wrap true [(.e 11 [.k, .k, .k, .k, .k, .k, .k, (.s 2), .k, .k, (.s 8)])] (.e 11 [.k, .k, .k, .k, .k, .k, .k, (.s 2), .k, .k, (.s 8)]) (A.ar3 (r_R5_copied))) :=
 Sound.wrap (Sound.run3 (X := x_R5_copied) (fn := Tryz.f58) (ann := (.s .n (.s .n (.s .n (.s .n (.s .n (.s .n (.s .n (.s .n (.s .n (.s (.s .n (.b (.l [52] [.exit 0] (.s .n (.s (.j .n .n) (.s (.b (.s .n (.s .n (.s (.s .n (.s .n (.j .n .n))) (.s (.s .n (.c [15] .n .n)) .n))))) .n)))))) (.s .n .n)))))))))))) .F trivial (Snd.of rfl (All.cons s_R5_cloned (All.cons s_R5_At (All.cons s_R5_Before (All.cons s_slices_Clone_api_Point (All.cons s_R5_insert (All.cons s_R5_keysOf (All.cons s_R5_valued (All.cons s_R5_restore (All.cons s_R5_put All.nil))))))))) (fun _ => Sound.none)) Tryz.func58 Tryz.call58 (fun a0 a1 a2 σ => by kernel_rfl)) _ _ _ rfl rfl
theorem s_R5_copied : Sound Tryz.prog nmT 58 m_R5_copied := w_R5_copied
noncomputable def x_R5_shaped : Fx := ⟨Tryz.prog, nmT, A.tab (fun _ _ => none) [(59, m_R5_CheckForm)], (fun _ _ _ => none), [], [], 11, []⟩
theorem w_R5_shaped : Sound Tryz.prog nmT 41 (A.wrap false [] .k (A.ar1 (r_R5_shaped))) :=
 Sound.wrap (Sound.run1 (X := x_R5_shaped) (fn := Tryz.f41) (ann := (.s .n (.s (.s .n (.s .n (.j (.s .n .n) .n))) (.s .n .n)))) .K trivial (Snd.of rfl (All.cons s_R5_CheckForm All.nil) (fun _ => Sound.none)) Tryz.func41 Tryz.call41 (fun a0 σ => by kernel_rfl)) _ _ _ rfl rfl
theorem s_R5_shaped : Sound Tryz.prog nmT 41 m_R5_shaped := w_R5_shaped
noncomputable def x_R5_Copy : Fx := ⟨Tryz.prog, nmT, A.tab (fun _ _ => none) [(57, m_R5_checkCopy), (58, m_R5_copied), (41, m_R5_shaped)], (fun _ _ _ => none), [], [], 23, []⟩
theorem w_R5_Copy : Sound Tryz.prog nmT 13 (A.wrap true [(.e 11 [.k, .k, .k, .k, .k, .k, .k, (.s 2), .k, .k, (.s 8)])] (.t [(.e 11 [.k, .k, .k, .k, .k, .k, .k, (.s 2), .k, .k, (.s 8)]), .k]) (A.ar3 (r_R5_Copy))) :=
 Sound.wrap (Sound.run3 (X := x_R5_Copy) (fn := Tryz.f13) (ann := (.s .n (.s (.s .n (.s .n (.j (.s .n .n) .n))) (.s .n .n)))) .F trivial (Snd.of rfl (All.cons s_R5_checkCopy (All.cons s_R5_copied (All.cons s_R5_shaped All.nil))) (fun _ => Sound.none)) Tryz.func13 Tryz.call13 (fun a0 a1 a2 σ => by kernel_rfl)) _ _ _ rfl rfl
theorem s_R5_Copy : Sound Tryz.prog nmT 13 m_R5_Copy := w_R5_Copy
noncomputable def x_slices_EqualFunc_api_Cue (dyn : Nat → List AV → Heap → Option (AV × Heap)) : Fx := ⟨Tryz.prog, nmT, A.tab (fun _ _ => none) [], dyn, [8, 9], [], 32, []⟩
theorem w_slices_EqualFunc_api_Cue (dyn : Nat → List AV → Heap → Option (AV × Heap)) (hd : ∀ f, Sound Tryz.prog nmT f (dyn (nmT.getD f 0))) : Sound Tryz.prog nmT 42 (A.wrap true [(.s 11), (.s 11)] .k (A.ar3 (r_slices_EqualFunc_api_Cue dyn))) :=
 Sound.wrap (Sound.run3 (X := x_slices_EqualFunc_api_Cue dyn) (fn := Tryz.f42) (ann := (.s .n (.s (.s .n (.j (.s .n .n) .n)) (.s (.s .n (.b (.l [6, 17] [.exit 0, .ret] (.s .n (.s (.j .n .n) (.s (.b (.s .n (.s .n (.s .n (.j (.s .n .n) .n))))) .n)))))) (.s .n .n))))) .F trivial (Snd.of rfl All.nil (hd)) Tryz.func42 Tryz.call42 (fun a0 a1 a2 σ => by kernel_rfl)) _ _ _ rfl rfl
theorem s_slices_EqualFunc_api_Cue (dyn : Nat → List AV → Heap → Option (AV × Heap)) (hd : ∀ f, Sound Tryz.prog nmT f (dyn (nmT.getD f 0))) : Sound Tryz.prog nmT 42 (m_slices_EqualFunc_api_Cue dyn) := w_slices_EqualFunc_api_Cue dyn hd
noncomputable def x_slices_Equal_api_Point : Fx := ⟨Tryz.prog, nmT, A.tab (fun _ _ => none) [], (fun _ _ _ => none), [], [], 26, []⟩
theorem w_slices_Equal_api_Point : Sound Tryz.prog nmT 89 (A.wrap true [(.s 2), (.s 2)] .k (A.ar2 (r_slices_Equal_api_Point))) :=
 Sound.wrap (Sound.run2 (X := x_slices_Equal_api_Point) (fn := Tryz.f89) (ann := (.s .n (.s (.s .n (.j (.s .n .n) .n)) (.s (.s .n (.b (.l [4, 13] [.exit 0, .ret] (.s .n (.s (.j .n .n) (.s (.b (.s .n (.s .n (.j (.s .n .n) .n)))) .n)))))) (.s .n .n))))) .F trivial (Snd.of rfl All.nil (fun _ => Sound.none)) Tryz.func89 Tryz.call89 (fun a0 a1 σ => by kernel_rfl)) _ _ _ rfl rfl
theorem s_slices_Equal_api_Point : Sound Tryz.prog nmT 89 m_slices_Equal_api_Point := w_slices_Equal_api_Point
noncomputable def x_slices_Equal_api_Move : Fx := ⟨Tryz.prog, nmT, A.tab (fun _ _ => none) [], (fun _ _ _ => none), [], [], 26, []⟩
theorem w_slices_Equal_api_Move : Sound Tryz.prog nmT 90 (A.wrap true [(.s 8), (.s 8)] .k (A.ar2 (r_slices_Equal_api_Move))) :=
 Sound.wrap (Sound.run2 (X := x_slices_Equal_api_Move) (fn := Tryz.f90) (ann := (.s .n (.s (.s .n (.j (.s .n .n) .n)) (.s (.s .n (.b (.l [4, 13] [.exit 0, .ret] (.s .n (.s (.j .n .n) (.s (.b (.s .n (.s .n (.j (.s .n .n) .n)))) .n)))))) (.s .n .n))))) .F trivial (Snd.of rfl All.nil (fun _ => Sound.none)) Tryz.func90 Tryz.call90 (fun a0 a1 σ => by kernel_rfl)) _ _ _ rfl rfl
theorem s_slices_Equal_api_Move : Sound Tryz.prog nmT 90 m_slices_Equal_api_Move := w_slices_Equal_api_Move
noncomputable def x_W5_sameCue : Fx := ⟨Tryz.prog, nmT, A.tab (fun _ _ => none) [(89, m_slices_Equal_api_Point), (90, m_slices_Equal_api_Move)], (fun _ _ _ => none), [2, 3], [], 84, []⟩
theorem w_W5_sameCue : Sound Tryz.prog nmT 43 (A.wrap true [(.a [.k, .k, .k, .k, .k, .k, .k, (.s 2), .k, .k, (.s 8)]), (.a [.k, .k, .k, .k, .k, .k, .k, (.s 2), .k, .k, (.s 8)])] .k (A.ar2 (r_W5_sameCue))) :=
 Sound.wrap (Sound.run2 (X := x_W5_sameCue) (fn := Tryz.f43) (ann := (.s .n (.s .n .n))) .F trivial (Snd.of rfl (All.cons s_slices_Equal_api_Point (All.cons s_slices_Equal_api_Move All.nil)) (fun _ => Sound.none)) Tryz.func43 Tryz.call43 (fun a0 a1 σ => by kernel_rfl)) _ _ _ rfl rfl
theorem s_W5_sameCue : Sound Tryz.prog nmT 43 m_W5_sameCue := w_W5_sameCue
noncomputable def x_W5_sameList : Fx := ⟨Tryz.prog, nmT, A.tab (fun _ _ => none) [(42, m_slices_EqualFunc_api_Cue (A.tab (fun _ _ => none) [(201, m_W5_sameCue)]))], (A.tab (fun _ _ => none) [(201, m_W5_sameCue)]), [], [], 8, []⟩
theorem w_W5_sameList : Sound Tryz.prog nmT 11 (A.wrap true [(.e 11 [.k, .k, .k, .k, .k, .k, .k, (.s 2), .k, .k, (.s 8)]), (.e 11 [.k, .k, .k, .k, .k, .k, .k, (.s 2), .k, .k, (.s 8)])] .k (A.ar2 (r_W5_sameList))) :=
 Sound.wrap (Sound.run2 (X := x_W5_sameList) (fn := Tryz.f11) (ann := (.s .n (.s .n .n))) .F trivial (Snd.of rfl (All.cons (s_slices_EqualFunc_api_Cue _ (dyn_of (DAll.cons (nm_sound s_W5_sameCue (by kernel_rfl) rfl) DAll.nil))) All.nil) (dyn_of (DAll.cons (nm_sound s_W5_sameCue (by kernel_rfl) rfl) DAll.nil))) Tryz.func11 Tryz.call11 (fun a0 a1 σ => by kernel_rfl)) _ _ _ rfl rfl
theorem s_W5_sameList : Sound Tryz.prog nmT 11 m_W5_sameList := w_W5_sameList
noncomputable def x_cue_Renumber : Fx := ⟨Tryz.prog, nmT, A.tab (fun _ _ => none) [(44, m_cue_form), (30, m_cue_place), (46, m_word_When), (47, m_cue_numberFault), (45, m_word_First), (29, m_cue_copied)], (fun _ _ _ => none), [], [], 71, []⟩
theorem w_cue_Renumber : Sound Tryz.prog nmT 14 (A.wrap true [(.e 11 [.k, .k, .k, .k, .k, .k, .k, (.s 2), .k, .k, (.s 8)])] (.t [(.e 11 [.k, .k, .k, .k, .k, .k, .k, (.s 2), .k, .k, (.s 8)]), .k]) (A.ar3 (r_cue_Renumber))) :=
 Sound.wrap (Sound.run3 (X := x_cue_Renumber) (fn := Tryz.f14) (ann := (.s .n (.s (.s .n (.s .n (.j (.s .n .n) .n))) (.s .n (.s (.s .n (.s .n (.j (.s .n .n) .n))) (.s (.s .n (.j (.s .n .n) .n)) (.s .n (.s .n (.s .n .n))))))))) .F trivial (Snd.of rfl (All.cons s_cue_form (All.cons s_cue_place (All.cons s_word_When (All.cons s_cue_numberFault (All.cons s_word_First (All.cons s_cue_copied All.nil)))))) (fun _ => Sound.none)) Tryz.func14 Tryz.call14 (fun a0 a1 a2 σ => by kernel_rfl)) _ _ _ rfl rfl
theorem s_cue_Renumber : Sound Tryz.prog nmT 14 m_cue_Renumber := w_cue_Renumber
noncomputable def x_R5_Renumber : Fx := ⟨Tryz.prog, nmT, A.tab (fun _ _ => none) [(59, m_R5_CheckForm), (37, m_R5_At), (60, m_R1_Within), (36, m_R5_cloned)], (fun _ _ _ => none), [], [], 64, []⟩
theorem w_R5_Renumber : Sound Tryz.prog nmT 15 (A.wrap true [(.e 11 [.k, .k, .k, .k, .k, .k, .k, (.s 2), .k, .k, (.s 8)])] (.t [(.e 11 [.k, .k, .k, .k, .k, .k, .k, (.s 2), .k, .k, (.s 8)]), .k]) (A.ar3 (r_R5_Renumber))) :=
 Sound.wrap (Sound.run3 (X := x_R5_Renumber) (fn := Tryz.f15) (ann := (.s .n (.s (.s .n (.s .n (.j (.s .n .n) .n))) (.s .n (.s (.b (.s .n (.j (.s .n .n) (.s .n (.j (.s .n .n) (.s .n (.j (.s .n .n) .n))))))) (.s .n (.s .n (.s .n .n)))))))) .F trivial (Snd.of rfl (All.cons s_R5_CheckForm (All.cons s_R5_At (All.cons s_R1_Within (All.cons s_R5_cloned All.nil)))) (fun _ => Sound.none)) Tryz.func15 Tryz.call15 (fun a0 a1 a2 σ => by kernel_rfl)) _ _ _ rfl rfl
theorem s_R5_Renumber : Sound Tryz.prog nmT 15 m_R5_Renumber := w_R5_Renumber
noncomputable def x_cue_wayFault : Fx := ⟨Tryz.prog, nmT, A.tab (fun _ _ => none) [(46, m_word_When)], (fun _ _ _ => none), [], [], 10, []⟩
theorem w_cue_wayFault : Sound Tryz.prog nmT 109 (A.wrap true [] .k (A.ar1 (r_cue_wayFault))) :=
 Sound.wrap (Sound.run1 (X := x_cue_wayFault) (fn := Tryz.f109) (ann := (.s .n (.s .n .n))) .F trivial (Snd.of rfl (All.cons s_word_When All.nil) (fun _ => Sound.none)) Tryz.func109 Tryz.call109 (fun a0 σ => by kernel_rfl)) _ _ _ rfl rfl
theorem s_cue_wayFault : Sound Tryz.prog nmT 109 m_cue_wayFault := w_cue_wayFault
noncomputable def x_slices_Delete_api_Cue : Fx := ⟨Tryz.prog, nmT, A.tab (fun _ _ => none) [], (fun _ _ _ => none), [], [], 33, []⟩
theorem w_slices_Delete_api_Cue : Sound Tryz.prog nmT 112 (A.wrap false [] .k (A.ar3 (r_slices_Delete_api_Cue))) :=
 Sound.wrap (Sound.run3 (X := x_slices_Delete_api_Cue) (fn := Tryz.f112) (ann := (.s .n (.s .n (.s (.s .n (.j (.s .n .n) .n)) (.s .n (.s .n (.s .n (.s .n .n)))))))) .R trivial (Snd.of rfl All.nil (fun _ => Sound.none)) Tryz.func112 Tryz.call112 (fun a0 a1 a2 σ => by kernel_rfl)) _ _ _ rfl rfl
theorem s_slices_Delete_api_Cue : Sound Tryz.prog nmT 112 m_slices_Delete_api_Cue := w_slices_Delete_api_Cue
noncomputable def x_cue_blocked : Fx := ⟨Tryz.prog, nmT, A.tab (fun _ _ => none) [], (fun _ _ _ => none), [], [], 19, []⟩
theorem w_cue_blocked : Sound Tryz.prog nmT 149 (A.wrap true [(.e 11 [.k, .k, .k, .k, .k, .k, .k, (.s 2), .k, .k, (.s 8)])] .k (A.ar2 (r_cue_blocked))) :=
 Sound.wrap (Sound.run2 (X := x_cue_blocked) (fn := Tryz.f149) (ann := (.s .n (.s (.s .n (.b (.l [4, 5] [.exit 0, .ret] (.s (.s .n (.j .n .n)) (.s (.b (.s .n (.j (.s .n .n) .n))) .n))))) (.s .n .n)))) .F trivial (Snd.of rfl All.nil (fun _ => Sound.none)) Tryz.func149 Tryz.call149 (fun a0 a1 σ => by kernel_rfl)) _ _ _ rfl rfl
theorem s_cue_blocked : Sound Tryz.prog nmT 149 m_cue_blocked := w_cue_blocked
end Go.Proofs.YtphgchakmkankaaGreat

namespace Go.Proofs.YtphgchakmkankaaGreat
set_option linter.unusedSectionVars false
set_option maxRecDepth 100000
set_option linter.unusedVariables false
set_option linter.unusedSimpArgs false
noncomputable def x_slices_IndexFunc_api_Cue (dyn : Nat → List AV → Heap → Option (AV × Heap)) : Fx := ⟨Tryz.prog, nmT, A.tab (fun _ _ => none) [], dyn, [], [], 19, []⟩
theorem w_slices_IndexFunc_api_Cue (dyn : Nat → List AV → Heap → Option (AV × Heap)) (hd : ∀ f, Sound Tryz.prog nmT f (dyn (nmT.getD f 0))) : Sound Tryz.prog nmT 191 (A.wrap true [(.s 11)] .k (A.ar2 (r_slices_IndexFunc_api_Cue dyn))) :=
 Sound.wrap (Sound.run2 (X := x_slices_IndexFunc_api_Cue dyn) (fn := Tryz.f191) (ann := (.s .n (.s (.s .n (.b (.l [4, 8] [.exit 0, .ret] (.s .n (.s (.j .n .n) (.s (.b (.s .n (.s .n (.j (.s .n .n) .n)))) .n)))))) (.s .n .n)))) .F trivial (Snd.of rfl All.nil (hd)) Tryz.func191 Tryz.call191 (fun a0 a1 σ => by kernel_rfl)) _ _ _ rfl rfl
theorem s_slices_IndexFunc_api_Cue (dyn : Nat → List AV → Heap → Option (AV × Heap)) (hd : ∀ f, Sound Tryz.prog nmT f (dyn (nmT.getD f 0))) : Sound Tryz.prog nmT 191 (m_slices_IndexFunc_api_Cue dyn) := w_slices_IndexFunc_api_Cue dyn hd
noncomputable def x_slices_ContainsFunc_api_Cue (dyn : Nat → List AV → Heap → Option (AV × Heap)) : Fx := ⟨Tryz.prog, nmT, A.tab (fun _ _ => none) [(191, m_slices_IndexFunc_api_Cue dyn)], dyn, [], [], 9, []⟩
theorem w_slices_ContainsFunc_api_Cue (dyn : Nat → List AV → Heap → Option (AV × Heap)) (hd : ∀ f, Sound Tryz.prog nmT f (dyn (nmT.getD f 0))) : Sound Tryz.prog nmT 179 (A.wrap true [(.s 11)] .k (A.ar2 (r_slices_ContainsFunc_api_Cue dyn))) :=
 Sound.wrap (Sound.run2 (X := x_slices_ContainsFunc_api_Cue dyn) (fn := Tryz.f179) (ann := (.s .n (.s .n .n))) .F trivial (Snd.of rfl (All.cons (s_slices_IndexFunc_api_Cue dyn hd) All.nil) (hd)) Tryz.func179 Tryz.call179 (fun a0 a1 σ => by kernel_rfl)) _ _ _ rfl rfl
theorem s_slices_ContainsFunc_api_Cue (dyn : Nat → List AV → Heap → Option (AV × Heap)) (hd : ∀ f, Sound Tryz.prog nmT f (dyn (nmT.getD f 0))) : Sound Tryz.prog nmT 179 (m_slices_ContainsFunc_api_Cue dyn) := w_slices_ContainsFunc_api_Cue dyn hd
noncomputable def x_cue_moved_fn1 : Fx := ⟨Tryz.prog, nmT, A.tab (fun _ _ => none) [(32, m_cue_moveAt)], (fun _ _ _ => none), [2], [], 13, []⟩
theorem w_cue_moved_fn1 : Sound Tryz.prog nmT 180 (A.wrap true [(.a [.k, .k, .k, .k, .k, .k, .k, (.s 2), .k, .k, (.s 8)])] .k (A.ar2 (r_cue_moved_fn1))) :=
 Sound.wrap (Sound.run2 (X := x_cue_moved_fn1) (fn := Tryz.f180) (ann := (.s .n (.s .n (.s .n .n)))) .F trivial (Snd.of rfl (All.cons s_cue_moveAt All.nil) (fun _ => Sound.none)) Tryz.func180 Tryz.call180 (fun a0 a1 σ => by kernel_rfl)) _ _ _ rfl rfl
theorem s_cue_moved_fn1 : Sound Tryz.prog nmT 180 m_cue_moved_fn1 := w_cue_moved_fn1
noncomputable def x_cue_moved : Fx := ⟨Tryz.prog, nmT, A.tab (fun _ _ => none) [(179, m_slices_ContainsFunc_api_Cue (A.tab (fun _ _ => none) [(187, m_cue_moved_fn1), (187, m_cue_moved_fn1)]))], (A.tab (fun _ _ => none) [(187, m_cue_moved_fn1), (187, m_cue_moved_fn1)]), [], [], 8, []⟩
theorem w_cue_moved : Sound Tryz.prog nmT 150 (A.wrap true [(.e 11 [.k, .k, .k, .k, .k, .k, .k, (.s 2), .k, .k, (.s 8)])] .k (A.ar2 (r_cue_moved))) :=
 Sound.wrap (Sound.run2 (X := x_cue_moved) (fn := Tryz.f150) (ann := (.s .n (.s .n .n))) .F trivial (Snd.of rfl (All.cons (s_slices_ContainsFunc_api_Cue _ (dyn_of (DAll.cons (nm_sound s_cue_moved_fn1 (by kernel_rfl) rfl) (DAll.cons (nm_sound s_cue_moved_fn1 (by kernel_rfl) rfl) DAll.nil)))) All.nil) (dyn_of (DAll.cons (nm_sound s_cue_moved_fn1 (by kernel_rfl) rfl) (DAll.cons (nm_sound s_cue_moved_fn1 (by kernel_rfl) rfl) DAll.nil)))) Tryz.func150 Tryz.call150 (fun a0 a1 σ => by kernel_rfl)) _ _ _ rfl rfl
theorem s_cue_moved : Sound Tryz.prog nmT 150 m_cue_moved := w_cue_moved
noncomputable def x_cue_deleted : Fx := ⟨Tryz.prog, nmT, A.tab (fun _ _ => none) [(29, m_cue_copied), (112, m_slices_Delete_api_Cue), (149, m_cue_blocked), (150, m_cue_moved), (34, m_cue_put)], (fun _ _ _ => none), [8, 11], [], 61, [34]⟩
theorem w_cue_deleted : Sound Tryz.prog nmT 110 (A.wrap true [(.e 11 [.k, .k, .k, .k, .k, .k, .k, (.s 2), .k, .k, (.s 8)])] (.e 11 [.k, .k, .k, .k, .k, .k, .k, (.s 2), .k, .k, (.s 8)]) (A.ar3 (r_cue_deleted))) :=
 Sound.wrap (Sound.run3 (X := x_cue_deleted) (fn := Tryz.f110) (ann := (.s .n (.s .n (.s .n (.s .n (.s .n (.s (.s .n (.c [8, 9] .n .n)) (.s (.s .n (.j (.s .n .n) .n)) (.s (.s .n (.b (.l [41] [.exit 0] (.s .n (.s (.j .n .n) (.s (.b (.s .n (.s .n (.c [] .n .n)))) .n)))))) (.s .n .n)))))))))) .F trivial (Snd.of rfl (All.cons s_cue_copied (All.cons s_slices_Delete_api_Cue (All.cons s_cue_blocked (All.cons s_cue_moved (All.cons s_cue_put All.nil))))) (fun _ => Sound.none)) Tryz.func110 Tryz.call110 (fun a0 a1 a2 σ => by kernel_rfl)) _ _ _ rfl rfl
theorem s_cue_deleted : Sound Tryz.prog nmT 110 m_cue_deleted := w_cue_deleted
noncomputable def x_cue_Delete : Fx := ⟨Tryz.prog, nmT, A.tab (fun _ _ => none) [(44, m_cue_form), (30, m_cue_place), (46, m_word_When), (109, m_cue_wayFault), (45, m_word_First), (110, m_cue_deleted), (35, m_cue_done)], (fun _ _ _ => none), [], [], 40, []⟩
theorem w_cue_Delete : Sound Tryz.prog nmT 61 (A.wrap true [(.e 11 [.k, .k, .k, .k, .k, .k, .k, (.s 2), .k, .k, (.s 8)])] (.t [(.e 11 [.k, .k, .k, .k, .k, .k, .k, (.s 2), .k, .k, (.s 8)]), .k]) (A.ar3 (r_cue_Delete))) :=
 Sound.wrap (Sound.run3 (X := x_cue_Delete) (fn := Tryz.f61) (ann := (.s .n (.s (.s .n (.s .n (.j (.s .n .n) .n))) (.s .n (.s (.s .n (.s .n (.j (.s .n .n) .n))) (.s .n .n)))))) .F trivial (Snd.of rfl (All.cons s_cue_form (All.cons s_cue_place (All.cons s_word_When (All.cons s_cue_wayFault (All.cons s_word_First (All.cons s_cue_deleted (All.cons s_cue_done All.nil))))))) (fun _ => Sound.none)) Tryz.func61 Tryz.call61 (fun a0 a1 a2 σ => by kernel_rfl)) _ _ _ rfl rfl
theorem s_cue_Delete : Sound Tryz.prog nmT 61 m_cue_Delete := w_cue_Delete
noncomputable def x_cue_Shift : Fx := ⟨Tryz.prog, nmT, A.tab (fun _ _ => none) [(12, m_cue_Copy), (61, m_cue_Delete)], (fun _ _ _ => none), [], [], 25, []⟩
theorem w_cue_Shift : Sound Tryz.prog nmT 16 (A.wrap true [(.e 11 [.k, .k, .k, .k, .k, .k, .k, (.s 2), .k, .k, (.s 8)])] (.t [(.e 11 [.k, .k, .k, .k, .k, .k, .k, (.s 2), .k, .k, (.s 8)]), .k]) (A.ar3 (r_cue_Shift))) :=
 Sound.wrap (Sound.run3 (X := x_cue_Shift) (fn := Tryz.f16) (ann := (.s .n (.s .n (.s (.s .n (.j (.s .n .n) .n)) (.s .n .n))))) .F trivial (Snd.of rfl (All.cons s_cue_Copy (All.cons s_cue_Delete All.nil)) (fun _ => Sound.none)) Tryz.func16 Tryz.call16 (fun a0 a1 a2 σ => by kernel_rfl)) _ _ _ rfl rfl
theorem s_cue_Shift : Sound Tryz.prog nmT 16 m_cue_Shift := w_cue_Shift
noncomputable def x_R5_blocked : Fx := ⟨Tryz.prog, nmT, A.tab (fun _ _ => none) [(39, m_R5_moveOf)], (fun _ _ _ => none), [5], [], 34, []⟩
theorem w_R5_blocked : Sound Tryz.prog nmT 111 (A.wrap true [(.e 11 [.k, .k, .k, .k, .k, .k, .k, (.s 2), .k, .k, (.s 8)])] .k (A.ar3 (r_R5_blocked))) :=
 Sound.wrap (Sound.run3 (X := x_R5_blocked) (fn := Tryz.f111) (ann := (.s .n (.s (.s .n (.b (.l [5, 6, 7] [.exit 0, .ret] (.s (.s .n (.j .n .n)) (.s (.b (.s (.s .n (.s .n (.j (.s .n .n) .n))) (.s .n (.j (.s .n .n) .n)))) .n))))) (.s .n .n)))) .F trivial (Snd.of rfl (All.cons s_R5_moveOf All.nil) (fun _ => Sound.none)) Tryz.func111 Tryz.call111 (fun a0 a1 a2 σ => by kernel_rfl)) _ _ _ rfl rfl
theorem s_R5_blocked : Sound Tryz.prog nmT 111 m_R5_blocked := w_R5_blocked
noncomputable def x_R5_Delete : Fx := ⟨Tryz.prog, nmT, A.tab (fun _ _ => none) [(59, m_R5_CheckForm), (37, m_R5_At), (60, m_R1_Within), (36, m_R5_cloned), (111, m_R5_blocked), (39, m_R5_moveOf), (40, m_R5_put), (112, m_slices_Delete_api_Cue), (41, m_R5_shaped)], (fun _ _ _ => none), [12], [], 92, [40]⟩
theorem w_R5_Delete : Sound Tryz.prog nmT 62 (A.wrap true [(.e 11 [.k, .k, .k, .k, .k, .k, .k, (.s 2), .k, .k, (.s 8)])] (.t [(.e 11 [.k, .k, .k, .k, .k, .k, .k, (.s 2), .k, .k, (.s 8)]), .k]) (A.ar3 (r_R5_Delete))) :=
 Sound.wrap (Sound.run3 (X := x_R5_Delete) (fn := Tryz.f62) (ann := (.s .n (.s (.s .n (.s .n (.j (.s .n .n) .n))) (.s .n (.s (.s .n (.j (.s .n .n) .n)) (.s (.s .n (.j (.s .n .n) .n)) (.s .n (.s (.s .n (.b (.l [37] [.exit 0] (.s .n (.s (.j .n .n) (.s (.b (.s .n (.s .n (.s (.s .n (.c [12, 13] .n .n)) (.s (.s .n (.j .n .n)) (.s .n (.s .n (.c [] .n .n)))))))) .n)))))) (.s .n .n))))))))) .F trivial (Snd.of rfl (All.cons s_R5_CheckForm (All.cons s_R5_At (All.cons s_R1_Within (All.cons s_R5_cloned (All.cons s_R5_blocked (All.cons s_R5_moveOf (All.cons s_R5_put (All.cons s_slices_Delete_api_Cue (All.cons s_R5_shaped All.nil))))))))) (fun _ => Sound.none)) Tryz.func62 Tryz.call62 (fun a0 a1 a2 σ => by kernel_rfl)) _ _ _ rfl rfl
theorem s_R5_Delete : Sound Tryz.prog nmT 62 m_R5_Delete := w_R5_Delete
noncomputable def x_R5_Shift : Fx := ⟨Tryz.prog, nmT, A.tab (fun _ _ => none) [(13, m_R5_Copy), (62, m_R5_Delete)], (fun _ _ _ => none), [], [], 25, []⟩
theorem w_R5_Shift : Sound Tryz.prog nmT 17 (A.wrap true [(.e 11 [.k, .k, .k, .k, .k, .k, .k, (.s 2), .k, .k, (.s 8)])] (.t [(.e 11 [.k, .k, .k, .k, .k, .k, .k, (.s 2), .k, .k, (.s 8)]), .k]) (A.ar3 (r_R5_Shift))) :=
 Sound.wrap (Sound.run3 (X := x_R5_Shift) (fn := Tryz.f17) (ann := (.s .n (.s .n (.s (.s .n (.j (.s .n .n) .n)) (.s .n .n))))) .F trivial (Snd.of rfl (All.cons s_R5_Copy (All.cons s_R5_Delete All.nil)) (fun _ => Sound.none)) Tryz.func17 Tryz.call17 (fun a0 a1 a2 σ => by kernel_rfl)) _ _ _ rfl rfl
theorem s_R5_Shift : Sound Tryz.prog nmT 17 m_R5_Shift := w_R5_Shift
noncomputable def x_W5_CueCopiesMatchSpec : Fx := ⟨Tryz.prog, nmT, A.tab (fun _ _ => none) [(12, m_cue_Copy), (13, m_R5_Copy), (11, m_W5_sameList), (14, m_cue_Renumber), (15, m_R5_Renumber), (16, m_cue_Shift), (17, m_R5_Shift)], (fun _ _ _ => none), [], [], 79, []⟩
theorem w_W5_CueCopiesMatchSpec : Sound Tryz.prog nmT 4 (A.wrap true [(.e 11 [.k, .k, .k, .k, .k, .k, .k, (.s 2), .k, .k, (.s 8)])] .k (A.ar3 (r_W5_CueCopiesMatchSpec))) :=
 Sound.wrap (Sound.run3 (X := x_W5_CueCopiesMatchSpec) (fn := Tryz.f4) (ann := (.s .n (.s .n (.s .n (.s (.s .n (.j (.s .n .n) .n)) (.s .n (.s .n (.s (.s .n (.j (.s .n .n) .n)) (.s .n (.s .n (.s .n .n))))))))))) .F trivial (Snd.of rfl (All.cons s_cue_Copy (All.cons s_R5_Copy (All.cons s_W5_sameList (All.cons s_cue_Renumber (All.cons s_R5_Renumber (All.cons s_cue_Shift (All.cons s_R5_Shift All.nil))))))) (fun _ => Sound.none)) Tryz.func4 Tryz.call4 (fun a0 a1 a2 σ => by kernel_rfl)) _ _ _ rfl rfl
theorem s_W5_CueCopiesMatchSpec : Sound Tryz.prog nmT 4 m_W5_CueCopiesMatchSpec := w_W5_CueCopiesMatchSpec
end Go.Proofs.YtphgchakmkankaaGreat

namespace Go.Proofs.YtphgchakmkankaaGreat
set_option linter.unusedSectionVars false
set_option linter.unusedVariables false
set_option linter.unusedSimpArgs false
def HP := (Nat → Option Blk) → Prop
namespace HP
set_option linter.unusedSectionVars false
def emp : HP := fun h => ∀ i, h i = none
def blk (id : Nat) (b : Blk) : HP := fun h => ∀ i, h i = if i = id then some b else none
def star (P Q : HP) : HP := fun h => ∃ f g, P f ∧ Q g ∧ (∀ i, f i = none ∨ g i = none) ∧ ∀ i, h i = (f i).or (g i)
def pr (p : Prop) : HP := fun h => p ∧ ∀ i, h i = none
def ex {α : Type} (P : α → HP) : HP := fun h => ∃ x, P x h
instance : Mul HP := ⟨star⟩
theorem star_comm (P Q : HP) : P * Q = Q * P := by
 have key : ∀ P Q : HP, ∀ h, (P * Q) h → (Q * P) h := by
  rintro P Q h ⟨f, g, hf, hg, hd, hh⟩
  refine ⟨g, f, hg, hf, fun i => (hd i).symm, fun i => ?_⟩
  rw [hh i]
  rcases hd i with e | e <;> rw [e] <;> simp
 funext h
 exact propext ⟨key P Q h, key Q P h⟩
theorem star_assoc (P Q R : HP) : P * Q * R = P * (Q * R) := by
 funext h
 apply propext
 constructor
 ·rintro ⟨f, g, ⟨f1, f2, h1, h2, hd1, hf⟩, hg, hd, hh⟩
  refine ⟨f1, fun i => (f2 i).or (g i), h1, ⟨f2, g, h2, hg, fun i => ?_, fun i => rfl⟩, fun i => ?_, fun i => ?_⟩
  ·have := hd i; rw [hf i] at this
   rcases this with e | e
   ·cases h : f1 i <;> simp [h] at e <;> exact .inl e
   ·exact .inr e
  ·have a := hd i; have b := hd1 i; rw [hf i] at a
   rcases b with b | b
   ·exact .inl b
   ·rcases a with a | a
    ·cases h : f1 i <;> simp [h] at a; exact .inl rfl
    ·exact .inr (show (f2 i).or (g i) = none by rw [b, a]; rfl)
  ·rw [hh i, hf i]; cases f1 i <;> simp
 ·rintro ⟨f, g, hf, ⟨g1, g2, h1, h2, hd1, hg⟩, hd, hh⟩
  refine ⟨fun i => (f i).or (g1 i), g2, ⟨f, g1, hf, h1, fun i => ?_, fun i => rfl⟩, h2, fun i => ?_, fun i => ?_⟩
  ·have := hd i; rw [hg i] at this
   rcases this with e | e
   ·exact .inl e
   ·cases h : g1 i <;> simp [h] at e; exact .inr rfl
  ·have a := hd i; have b := hd1 i; rw [hg i] at a
   rcases b with b | b
   ·rcases a with a | a
    ·exact .inl (show (f i).or (g1 i) = none by rw [a, b]; rfl)
    ·rw [b] at a; exact .inr (by simpa using a)
   ·exact .inr b
  ·show h i = ((f i).or (g1 i)).or (g2 i)
   rw [hh i, hg i]; cases f i <;> simp
theorem emp_star (P : HP) : emp * P = P := by
 funext h
 apply propext
 constructor
 ·rintro ⟨f, g, hf, hg, hd, hh⟩
  have : h = g := by funext i; rw [hh i, hf i]; rfl
  rw [this]; exact hg
 ·intro hp
  exact ⟨fun _ => none, h, fun _ => rfl, hp, fun _ => .inl rfl, fun i => by simp⟩
theorem star_emp (P : HP) : P * emp = P := by rw [star_comm, emp_star]
instance : Std.Associative (α := HP) (· * ·) := ⟨star_assoc⟩
instance : Std.Commutative (α := HP) (· * ·) := ⟨star_comm⟩
end HP
open HP
structure Hs (B : Blk → Prop) (σ0 σ : Heap) (P : HP) : Prop where
 pre : ∃ bs, σ = σ0 ++ bs ∧ ∀ b ∈ bs, B b
 own : ∃ h, P h ∧ ∀ i b, h i = some b → σ0.length ≤ i ∧ σ[i]? = some b
def anyB : Blk → Prop := fun _ => True
section
variable {B : Blk → Prop} {σ0 σ : Heap} {P Q R : HP} {id : Nat} {b b' : Blk}
theorem hs_eq (e : P = Q) (H : Hs B σ0 σ P) : Hs B σ0 σ Q := e ▸ H
theorem hs_mono (k : ∀ h, P h → Q h) (H : Hs B σ0 σ (P * R)) : Hs B σ0 σ (Q * R) := by
 obtain ⟨h1, h, ⟨f, g, hf, hg, hd, hh⟩, h2⟩ := H
 exact ⟨h1, h, ⟨f, g, k f hf, hg, hd, hh⟩, h2⟩
theorem hs_drop (H : Hs B σ0 σ (P * R)) : Hs B σ0 σ R := by
 obtain ⟨h1, h, ⟨f, g, hf, hg, hd, hh⟩, h2⟩ := H
 refine ⟨h1, g, hg, fun i b hb => h2 i b ?_⟩
 rw [hh i]
 rcases hd i with e | e
 ·rw [e, hb]; rfl
 ·rw [e] at hb; cases hb
theorem hs_pr {p : Prop} : Hs B σ0 σ (pr p * R) ↔ p ∧ Hs B σ0 σ R := by
 constructor
 ·intro H
  refine ⟨?_, hs_drop H⟩
  obtain ⟨h1, h, ⟨f, g, hf, hg, hd, hh⟩, h2⟩ := H
  exact hf.1
 ·rintro ⟨hp, h1, h, hr, h2⟩
  exact ⟨h1, h, ⟨fun _ => none, h, ⟨hp, fun _ => rfl⟩, hr, fun _ => .inl rfl, fun i => by simp⟩, h2⟩
theorem hs_ex {α : Type} {P : α → HP} : Hs B σ0 σ (ex P * R) ↔ ∃ x, Hs B σ0 σ (P x * R) := by
 constructor
 ·rintro ⟨h1, h, ⟨f, g, ⟨x, hf⟩, hg, hd, hh⟩, h2⟩
  exact ⟨x, h1, h, ⟨f, g, hf, hg, hd, hh⟩, h2⟩
 ·rintro ⟨x, h1, h, ⟨f, g, hf, hg, hd, hh⟩, h2⟩
  exact ⟨h1, h, ⟨f, g, ⟨x, hf⟩, hg, hd, hh⟩, h2⟩
theorem hs_nil (σ : Heap) : Hs B σ σ emp := ⟨⟨[], by simp, by simp⟩, fun _ => none, fun _ => rfl, fun _ _ h => by cases h⟩
theorem hs_len (H : Hs B σ0 σ P) : σ0.length ≤ σ.length := by obtain ⟨⟨bs, rfl, _⟩, _⟩ := H; simp
theorem hs_get (H : Hs B σ0 σ (blk id b * R)) : σ0.length ≤ id ∧ σ[id]? = some b := by
 obtain ⟨h1, h, ⟨f, g, hf, hg, hd, hh⟩, h2⟩ := H
 exact h2 id b (by rw [hh id, hf id]; simp)
theorem hs_B (H : Hs B σ0 σ (blk id b * R)) : B b := by
 obtain ⟨h1, h2⟩ := hs_get H
 obtain ⟨⟨bs, rfl, hb⟩, _⟩ := H
 rw [List.getElem?_append_right h1] at h2
 exact hb b (List.mem_of_getElem? h2)
theorem hs_set (H : Hs B σ0 σ (blk id b * R)) (hb : B b') : Hs B σ0 (σ.set id b') (blk id b' * R) := by
 obtain ⟨hid, hget⟩ := hs_get H
 have hlt := (List.getElem?_eq_some_iff.1 hget).1
 obtain ⟨⟨bs, rfl, hB⟩, h, ⟨f, g, hf, hg, hd, hh⟩, h2⟩ := H
 refine ⟨⟨bs.set (id - σ0.length) b', by rw [List.set_append_right _ _ hid], fun x hx => ?_⟩, fun i => if i = id then some b' else g i, ⟨fun i => if i = id then some b' else none, g, fun i => rfl, hg, fun i => ?_, fun i => ?_⟩, fun i x hx => ?_⟩
 ·rcases List.mem_or_eq_of_mem_set hx with hx | hx
  ·exact hB x hx
  ·subst hx; exact hb
 ·have := hd i; rw [hf i] at this
  by_cases e : i = id
  ·simp only [e, if_true] at this ⊢
   rcases this with h | h
   ·cases h
   ·exact .inr h
  ·simp [e]
 ·by_cases e : i = id <;> simp [e]
 ·by_cases e : i = id
  ·subst e
   simp only [if_true, Option.some.injEq] at hx
   subst hx
   exact ⟨hid, by rw [List.getElem?_set_self hlt]⟩
  ·simp only [e, if_false] at hx
   rw [List.getElem?_set_ne (fun e' => e e'.symm)]
   have := h2 i x (by rw [hh i, hf i]; simp [e, hx])
   exact this
theorem hs_new (H : Hs B σ0 σ R) (hb : B b) : Hs B σ0 (σ ++ [b]) (blk σ.length b * R) := by
 have hl := hs_len H
 obtain ⟨⟨bs, rfl, hB⟩, h, hr, h2⟩ := H
 have hn : ∀ i x, h i = some x → i < (σ0 ++ bs).length := fun i x hx => (List.getElem?_eq_some_iff.1 (h2 i x hx).2).1
 refine ⟨⟨bs ++ [b], by simp, fun x hx => ?_⟩, fun i => if i = (σ0 ++ bs).length then some b else h i, ⟨fun i => if i = (σ0 ++ bs).length then some b else none, h, fun i => rfl, hr, fun i => ?_, fun i => ?_⟩, fun i x hx => ?_⟩
 ·rcases List.mem_append.1 hx with hx | hx
  ·exact hB x hx
  ·simp at hx; subst hx; exact hb
 ·by_cases e : i = (σ0 ++ bs).length
  ·right
   cases hi : h i with
   | none => rfl
   | some x => have := hn i x hi; omega
  ·simp only [e, if_false, true_or]
 ·by_cases e : i = (σ0 ++ bs).length <;> simp only [e, if_true, if_false, Option.or_some, Option.none_or, Option.some_or]
 ·by_cases e : i = (σ0 ++ bs).length
  ·subst e
   simp only [if_true, Option.some.injEq] at hx
   subst hx
   exact ⟨hl, by simp⟩
  ·simp only [e, if_false] at hx
   obtain ⟨k1, k2⟩ := h2 i x hx
   exact ⟨k1, by rw [List.getElem?_append_left (hn i x hx)]; exact k2⟩
end
section
variable {α : Type} {E : List AV → α → HP} {B : Blk → Prop} {σ0 σ : Heap} {R : HP}
def els (E : List AV → α → HP) : List (List AV) → List α → HP
 | [], [] => emp
 | e :: es, x :: l => E e x * els E es l
 | _, _ => pr False
theorem els_len : ∀ {es : List (List AV)} {l : List α} {R : HP}, Hs B σ0 σ (els E es l * R) → es.length = l.length
 | [], [], _, _ => rfl
 | [], _ :: _, _, H => (hs_pr.1 H).1.elim
 | _ :: _, [], _, H => (hs_pr.1 H).1.elim
 | e :: es, x :: l, R, H => by
  have := els_len (es := es) (l := l) (R := E e x * R) (hs_eq (by rw [els]; ac_rfl) H)
  simp [this]
theorem els_app : ∀ {es1 es2 : List (List AV)} {l1 l2 : List α}, es1.length = l1.length → els E (es1 ++ es2) (l1 ++ l2) = els E es1 l1 * els E es2 l2
 | [], es2, [], l2, _ => by rw [els, emp_star]; rfl
 | e :: es1, es2, x :: l1, l2, h => by
  simp only [List.cons_append, els]
  rw [els_app (by simpa using h)]
  ac_rfl
theorem els_one (e : List AV) (x : α) : els E [e] [x] = E e x := by rw [els, els, star_emp]
theorem els_at {es : List (List AV)} {l : List α} {i : Nat} {e : List AV} {x : α} (hl : es.length = l.length) (he : es[i]? = some e) (hx : l[i]? = some x) : els E es l = els E (es.eraseIdx i) (l.eraseIdx i) * E e x := by
 have h1 := (List.getElem?_eq_some_iff.1 he).1
 have h2 := (List.getElem?_eq_some_iff.1 hx).1
 have e1 : es = es.take i ++ e :: es.drop (i + 1) := by
  rw [← (List.getElem?_eq_some_iff.1 he).2, List.getElem_cons_drop, List.take_append_drop]
 have e2 : l = l.take i ++ x :: l.drop (i + 1) := by
  rw [← (List.getElem?_eq_some_iff.1 hx).2, List.getElem_cons_drop, List.take_append_drop]
 conv => lhs; rw [e1, e2]
 rw [els_app (by simp; omega), els, List.eraseIdx_eq_take_drop_succ, List.eraseIdx_eq_take_drop_succ, els_app (by simp; omega)]
 ac_rfl
def fl (c : α → List AV) : List AV → α → HP := fun e x => pr (e = c x)
theorem els_fl {c : α → List AV} : ∀ {es : List (List AV)} {l : List α} {R : HP}, Hs B σ0 σ (els (fl c) es l * R) ↔ es = l.map c ∧ Hs B σ0 σ R
 | [], [], R => by rw [els, emp_star]; simp
 | [], x :: l, R => by show Hs B σ0 σ (pr False * R) ↔ _; rw [hs_pr]; simp
 | e :: es, [], R => by show Hs B σ0 σ (pr False * R) ↔ _; rw [hs_pr]; simp
 | e :: es, x :: l, R => by
  rw [els, fl, star_assoc, hs_pr, els_fl, List.map_cons, List.cons.injEq, and_assoc]
def Sl (E : List AV → α → HP) (sz : Nat) (v : AV) (l : List α) : HP := fun h => (l = [] ∧ (v = .nsl ∨ v = .ez) ∧ emp h) ∨ ∃ id g seg, v = .os id g sz 0 l.length ∧ (blk id (.arr g sz seg) * els E seg l) h
variable {sz : Nat} {v : AV} {l : List α}
theorem sl_cases (H : Hs B σ0 σ (Sl E sz v l * R)) : (l = [] ∧ (v = .nsl ∨ v = .ez) ∧ Hs B σ0 σ R) ∨ ∃ id g seg, v = .os id g sz 0 l.length ∧ seg.length = l.length ∧ Hs B σ0 σ (blk id (.arr g sz seg) * (els E seg l * R)) := by
 have H2 := hs_drop H
 obtain ⟨h1, h, ⟨f, g, hf, hg, hd, hh⟩, h2⟩ := H
 rcases hf with ⟨k1, k2, k3⟩ | ⟨id, gg, seg, k1, k2⟩
 ·exact .inl ⟨k1, k2, H2⟩
 ·have K : Hs B σ0 σ (blk id (.arr gg sz seg) * (els E seg l * R)) := hs_eq (star_assoc _ _ _) ⟨h1, h, ⟨f, g, k2, hg, hd, hh⟩, h2⟩
  exact .inr ⟨id, gg, seg, k1, els_len (R := blk id (.arr gg sz seg) * R) (hs_eq (by ac_rfl) K), K⟩
theorem slz (H : Hs B σ0 σ R) (hv : v = .nsl ∨ v = .ez) : Hs B σ0 σ (Sl E sz v [] * R) :=
 hs_mono (P := emp) (fun h k => .inl ⟨rfl, hv, k⟩) (hs_eq (emp_star R).symm H)
theorem sl_os {id g : Nat} {seg : List (List AV)} {n : Nat} (H : Hs B σ0 σ (blk id (.arr g sz seg) * (els E seg l * R))) (hn : n = l.length := by rfl) : Hs B σ0 σ (Sl E sz (.os id g sz 0 n) l * R) :=
 hs_mono (P := blk id (.arr g sz seg) * els E seg l) (fun h k => .inr ⟨id, g, seg, by rw [hn], k⟩) (hs_eq (star_assoc _ _ _).symm H)
theorem sl_len (H : Hs B σ0 σ (Sl E sz v l * R)) : A.lenS v = some (.int .i64 l.length) := by
 rcases sl_cases H with ⟨rfl, rfl | rfl, _⟩ | ⟨id, g, seg, rfl, _⟩ <;> rfl
theorem sl_app {ys : List (List AV)} {xs : List α} {most : Nat} (H : Hs B σ0 σ (Sl E sz v l * (els E ys xs * R))) (hm : l.length + xs.length ≤ most) (hB : ∀ g g' seg, (seg = [] ∨ B (.arr g sz seg)) → B (.arr g' sz (seg ++ ys))) :
  ∃ v' σ', A.append sz most v (.sl sz ys) σ = some (v', σ') ∧ Hs B σ0 σ' (Sl E sz v' (l ++ xs) * R) := by
 rcases sl_cases H with ⟨rfl, hv, H⟩ | ⟨id, g, seg, rfl, hl, H⟩
 ·have hxl := els_len H
  by_cases hy : ys = []
  ·subst hy
   have : xs = [] := List.eq_nil_of_length_eq_zero (by simpa using hxl.symm)
   subst this
   refine ⟨v, σ, ?_, slz (hs_drop H) hv⟩
   rcases hv with rfl | rfl <;> simp [A.append, A.elems, A.appendL]
  ·refine ⟨.os σ.length ys.length sz 0 ys.length, σ ++ [.arr ys.length sz ys], ?_, ?_⟩
   ·have : ys.length ≤ most := by simp at hm; omega
    rcases hv with rfl | rfl <;> simp [A.append, A.elems, A.appendL, hy, this]
   ·have H2 := hs_new H (by simpa using hB 0 ys.length [] (.inl rfl) : B (.arr ys.length sz ys))
    exact sl_os H2 (by simpa using hxl)
 ·have hxl := els_len (hs_eq (show _ = els E ys xs * (blk id (.arr g sz seg) * (els E seg l * R)) by ac_rfl) H)
  obtain ⟨h1, h2⟩ := hs_get H
  by_cases hy : ys = []
  ·subst hy
   have : xs = [] := List.eq_nil_of_length_eq_zero (by simpa using hxl.symm)
   subst this
   refine ⟨.os id g sz 0 l.length, σ, ?_, ?_⟩
   ·have : l.length ≤ most := by simpa using hm
    simp [A.append, A.elems, A.appendL, h2, hl, this]
   ·rw [List.append_nil]
    exact sl_os (hs_eq (by rw [els, emp_star]) H)
  ·have hp : 0 < ys.length := List.length_pos_iff.2 hy
   refine ⟨.os id (g + ys.length) sz 0 (l.length + ys.length), σ.set id (.arr (g + ys.length) sz (seg ++ ys)), ?_, ?_⟩
   ·have e1 : l.length + ys.length ≤ most := by omega
    have e2 : seg.take l.length = seg := List.take_of_length_le (by omega)
    simp [A.append, A.elems, A.appendL, h2, hl, e1, hy, e2, hp]
   ·have H2 := hs_set (b' := .arr (g + ys.length) sz (seg ++ ys)) H (hB g _ seg (.inr (hs_B H)))
    exact sl_os (id := id) (g := g + ys.length) (seg := seg ++ ys) (hs_eq (by rw [els_app hl]; ac_rfl) H2) (by simp; omega)
end
end Go.Proofs.YtphgchakmkankaaGreat

namespace Go.Proofs.YtphgchakmkankaaGreat
set_option linter.unusedSectionVars false
set_option linter.unusedVariables false
set_option linter.unusedSimpArgs false
open HP
noncomputable def insR (sz most : Nat) (zs : List AV) (rot : List AV → Heap → Option (AV × Heap)) (a0 a1 a2 : AV) (σ : Heap) : Option (AV × Heap) :=
 (A.sliceS sz a0 (some a1) none σ).bind fun x1 =>
 (A.lenS a2).bind fun x2 =>
 (A.eql .i x2 (AV.int .i64 0)).bind fun x3 =>
 A.cond x3 (
  A.renew [a0, a1, a2] σ a0 σ) (
  (A.lenS a0).bind fun x4 =>
  (A.eql .i a1 x4).bind fun x5 =>
  A.cond x5 (
   (A.append sz most a0 a2 σ).bind fun r6 =>
   A.renew [a0, a1, a2] σ r6.1 r6.2) (
   (A.add x4 x2).bind fun x7 =>
   A.capM (A.capN a0) (fun x8 =>
    (A.gtr x7 x8).bind fun x9 =>
    A.cond x9 (
     (A.sliceS sz a0 none (some a1) σ).bind fun x10 =>
     (A.add x4 x2).bind fun x11 =>
     (A.sub x11 a1).bind fun x12 =>
     (A.appendZ sz most zs x10 x12 σ).bind fun r13 =>
     (A.sliceS sz r13.1 (some a1) none r13.2).bind fun x14 =>
     (A.copyS sz x14 a2 r13.2).bind fun r15 =>
     (A.add a1 x2).bind fun x16 =>
     (A.sliceS sz r13.1 (some x16) none r15.2).bind fun x17 =>
     (A.sliceS sz a0 (some a1) none r15.2).bind fun x18 =>
     (A.copyS sz x17 x18 r15.2).bind fun r19 =>
     A.renew [a0, a1, a2] σ r13.1 r19.2) (
     (A.add x4 x2).bind fun x20 =>
     (A.sliceS sz a0 none (some x20) σ).bind fun x21 =>
     (A.add a1 x2).bind fun x22 =>
     (A.sliceS sz x21 (some x22) none σ).bind fun x23 =>
     (m_slices_overlaps [a2, x23] σ).bind fun r24 =>
     (A.not r24.1).bind fun x25 =>
     A.cond x25 (
      (A.add a1 x2).bind fun x26 =>
      (A.sliceS sz x21 (some x26) none r24.2).bind fun x27 =>
      (A.sliceS sz x21 (some a1) none r24.2).bind fun x28 =>
      (A.copyS sz x27 x28 r24.2).bind fun r29 =>
      (A.sliceS sz x21 (some a1) none r29.2).bind fun x30 =>
      (A.copyS sz x30 a2 r29.2).bind fun r31 =>
      A.renew [a0, a1, a2] σ x21 r31.2) (
      (A.sliceS sz x21 (some x4) none r24.2).bind fun x32 =>
      (A.copyS sz x32 a2 r24.2).bind fun r33 =>
      (A.sliceS sz x21 (some a1) none r33.2).bind fun x34 =>
      (rot [x34, x2] r33.2).bind fun r35 =>
      A.renew [a0, a1, a2] σ x21 r35.2))) (A.capU a0 σ fun n36 s37 =>
    (A.gtr x7 (AV.int .i64 n36)).bind fun x38 =>
    A.cond x38 (
     (A.sliceS sz a0 none (some a1) s37).bind fun x39 =>
     (A.add x4 x2).bind fun x40 =>
     (A.sub x40 a1).bind fun x41 =>
     (A.appendZ sz most zs x39 x41 s37).bind fun r42 =>
     (A.sliceS sz r42.1 (some a1) none r42.2).bind fun x43 =>
     (A.copyS sz x43 a2 r42.2).bind fun r44 =>
     (A.add a1 x2).bind fun x45 =>
     (A.sliceS sz r42.1 (some x45) none r44.2).bind fun x46 =>
     (A.sliceS sz a0 (some a1) none r44.2).bind fun x47 =>
     (A.copyS sz x46 x47 r44.2).bind fun r48 =>
     A.renew [a0, a1, a2] σ r42.1 r48.2) (
     (A.add x4 x2).bind fun x49 =>
     (A.sliceS sz a0 none (some x49) s37).bind fun x50 =>
     (A.add a1 x2).bind fun x51 =>
     (A.sliceS sz x50 (some x51) none s37).bind fun x52 =>
     (m_slices_overlaps [a2, x52] s37).bind fun r53 =>
     (A.not r53.1).bind fun x54 =>
     A.cond x54 (
      (A.add a1 x2).bind fun x55 =>
      (A.sliceS sz x50 (some x55) none r53.2).bind fun x56 =>
      (A.sliceS sz x50 (some a1) none r53.2).bind fun x57 =>
      (A.copyS sz x56 x57 r53.2).bind fun r58 =>
      (A.sliceS sz x50 (some a1) none r58.2).bind fun x59 =>
      (A.copyS sz x59 a2 r58.2).bind fun r60 =>
      A.renew [a0, a1, a2] σ x50 r60.2) (
      (A.sliceS sz x50 (some x4) none r53.2).bind fun x61 =>
      (A.copyS sz x61 a2 r53.2).bind fun r62 =>
      (A.sliceS sz x50 (some a1) none r62.2).bind fun x63 =>
      (rot [x63, x2] r62.2).bind fun r64 =>
      A.renew [a0, a1, a2] σ x50 r64.2)))))
noncomputable def delR (sz most : Nat) (zs : List AV) (a0 a1 a2 : AV) (σ : Heap) : Option (AV × Heap) :=
 (A.lenS a0).bind fun x1 =>
 (A.slice3 a0 (some a1) a2 x1).bind fun x2 =>
 (A.eql .i a1 a2).bind fun x3 =>
 A.cond x3 (
  A.renew [a0, a1, a2] σ a0 σ) (
  (A.lenS a0).bind fun x4 =>
  (A.sliceS sz a0 none (some a1) σ).bind fun x5 =>
  (A.sliceS sz a0 (some a2) none σ).bind fun x6 =>
  (A.append sz most x5 x6 σ).bind fun r7 =>
  (A.lenS r7.1).bind fun x8 =>
  (A.sliceS sz r7.1 (some x8) (some x4) r7.2).bind fun x9 =>
  (A.clearS sz zs x9 r7.2).bind fun h10 =>
  A.renew [a0, a1, a2] σ r7.1 h10)
section
variable {σ : Heap} {id g sz off len : Nat} {es : List (List AV)}
theorem cnd_t {α : Type} {X Y : Option α} : A.cond (.bool true) X Y = X := rfl
theorem cnd_f {α : Type} {X Y : Option α} : A.cond (.bool false) X Y = Y := rfl
theorem capM_os {R : Type} {k : AV → Option R} {u : Option R} : A.capM (A.capN (.os id g sz off len)) k u = u := rfl
theorem bnd_s {y d k : Nat} (h : k ≤ y) : A.bound y d (some (.int .i64 (k : Int))) = some k := by
 have : (k : Int) ≤ y := by omega
 simp [A.bound, this]
theorem bnd_n {y d : Nat} : A.bound y d none = some d := rfl
theorem room_arr (h : σ[id]? = some (.arr g sz es)) (hl : off + len ≤ es.length) : A.room σ id g sz off len = es.length - off := by simp [A.room, h, hl]
theorem room_arrF (h : σ[id]? = some (.arrF g sz es)) : A.room σ id g sz off len = len := by simp [A.room, h]
theorem slo {lo hi : Option AV} {r h l : Nat} (hr : A.room σ id g sz off len = r) (hh : A.bound r len hi = some h) (hl : A.bound h 0 lo = some l) : A.sliceS sz (.os id g sz off len) lo hi σ = some (.os id g sz (off + l) (h - l)) := by
 simp [A.sliceS, hr, hh, hl]
theorem add_nn {a b : Nat} (h : a + b < 9223372036854775808) : A.add (.int .i64 (a : Int)) (.int .i64 (b : Int)) = some (.int .i64 ((a + b : Nat) : Int)) := by
 rw [aAdd, wrap64 (by unfold inI; omega)]; simp
theorem sub_nn {a b : Nat} (h : b ≤ a) (h2 : a < 9223372036854775808) : A.sub (.int .i64 (a : Int)) (.int .i64 (b : Int)) = some (.int .i64 ((a - b : Nat) : Int)) := by
 rw [aSub, wrap64 (by unfold inI; omega), Int.ofNat_sub h]
theorem eq_nn (a b : Nat) : A.eql .i (.int .i64 (a : Int)) (.int .i64 (b : Int)) = some (.bool (decide (a = b))) := by
 rw [aEq]
 have : ((a : Int) = (b : Int)) = (a = b) := propext ⟨fun h => by omega, fun h => by omega⟩
 simp only [this]
theorem all_of {R : Type} {p : Nat → Prop} {k : Nat → Option R} {r : R} (n : Nat) (hn : p n) (h : ∀ n, p n → k n = some r) : A.all p k = some r := by
 have hx : ∃ r, ∀ n, p n → k n = some r := ⟨r, h⟩
 unfold A.all
 rw [dif_pos hx]
 have := Classical.choose_spec hx n hn
 rw [h n hn] at this
 injection this with this
 rw [← this]
theorem copy_os {σ : Heap} {y : AV} {ys : List (List AV)} (h : σ[id]? = some (.arr g sz es)) (hl : off + len ≤ es.length) (hy : A.elems sz y σ = some ys) (h0 : ys.length ≠ 0) (h1 : len ≠ 0) :
  A.copyS sz (.os id g sz off len) y σ = some (.int .i64 (ys.take len).length, σ.set id (.arr g sz (es.take off ++ ys.take len ++ es.drop (off + (ys.take len).length)))) := by
 simp only [A.copyS, hy, Option.bind_some, h]
 rw [if_pos (by simp [hl]), if_neg (by simp only [not_or]; exact ⟨h0, h1⟩)]
theorem elems_os (h : σ[id]? = some (.arr g sz es)) (hl : off + len ≤ es.length) : A.elems sz (.os id g sz off len) σ = some ((es.drop off).take len) := by
 simp [A.elems, h, hl]
theorem elems_osF (h : σ[id]? = some (.arrF g sz es)) (hl : off + len ≤ es.length) : A.elems sz (.os id g sz off len) σ = some ((es.drop off).take len) := by
 simp [A.elems, h, hl]
end
section
variable {α : Type} {E : List AV → α → HP} {σ0 σ : Heap} {R : HP} {sz most : Nat} {zs : List AV} {rot : List AV → Heap → Option (AV × Heap)} {v : AV} {l : List α} {y : α} {ye : List AV} {i : Nat}
theorem gen_ins (id g n : Nat) (i : AV) (hi : ∃ k : Int, i = .int .i64 k) : A.gen [.os id g sz 0 n, i, .sl sz [ye]] = g + n + 1 := by
 obtain ⟨k, rfl⟩ := hi
 simp [A.gen]
theorem ins_mid {id g n : Nat} {seg : List (List AV)} (hs : σ[id]? = some (.arr g sz seg)) (hl : seg.length = n) (hi : i < n) (hm : n + 1 ≤ most) (hb : n < 4611686018427387904) :
  insR sz most zs rot (.os id g sz 0 n) (.int .i64 (i : Int)) (.sl sz [ye]) σ = some (.os id (g + n + 2) sz 0 (n + 1), σ.set id (.arr (g + n + 2) sz (seg.take i ++ [ye] ++ seg.drop i))) := by
 have hid := (List.getElem?_eq_some_iff.1 hs).1
 have hgen : A.gen [.os id g sz 0 n, .int .i64 (i : Int), .sl sz [ye]] = g + n + 1 := gen_ins id g n _ ⟨_, rfl⟩
 unfold insR
 rw [slo (room_arr hs (by omega)) bnd_n (bnd_s (k := i) (by omega)), Option.bind_some]
 rw [show A.lenS (.sl sz [ye]) = some (.int .i64 ((1 : Nat) : Int)) from rfl, Option.bind_some]
 rw [show A.eql .i (.int .i64 ((1 : Nat) : Int)) (.int .i64 0) = some (.bool false) from rfl, Option.bind_some]
 rw [cnd_f]
 rw [show A.lenS (.os id g sz 0 n) = some (.int .i64 (n : Int)) from rfl, Option.bind_some, eq_nn, Option.bind_some, decide_eq_false (by omega)]
 rw [cnd_f, add_nn (by omega), Option.bind_some, capM_os]
 simp only [A.capU, hs]
 rw [if_pos (by simp; omega)]
 refine all_of n (by omega) fun c hc => ?_
 obtain ⟨hc1, hc2⟩ := hc
 by_cases ht : c = n
 ·subst ht
  rw [if_pos rfl]
  obtain ⟨σ1, hσ1⟩ : ∃ σ1, σ1 = σ.set id (.arrF g sz seg) := ⟨_, rfl⟩
  have h1 : σ1[id]? = some (.arrF g sz seg) := by rw [hσ1, List.getElem?_set_self hid]
  have hl1 : σ1.length = σ.length := by rw [hσ1, List.length_set]
  rw [← hσ1]
  rw [show A.gtr (.int .i64 ((c + 1 : Nat) : Int)) (.int .i64 (c : Int)) = some (.bool true) by simp [A.gtr]; omega, Option.bind_some]
  rw [cnd_t, slo (room_arrF h1) (bnd_s (k := i) (by omega)) bnd_n, Option.bind_some, add_nn (by omega), Option.bind_some, sub_nn (by omega) (by omega), Option.bind_some]
  obtain ⟨rows, hrows⟩ : ∃ rows, rows = seg.take i ++ List.replicate (c + 1 - i) zs := ⟨_, rfl⟩
  have hrl : rows.length = c + 1 := by rw [hrows]; simp; omega
  have e1 : A.appendZ sz most zs (.os id g sz (0 + 0) (i - 0)) (.int .i64 ((c + 1 - i : Nat) : Int)) σ1 = some (.os σ1.length (c + 1) sz 0 (c + 1), σ1 ++ [.arr (c + 1) sz rows]) := by
   have q1 : (0 : Int) ≤ ((c + 1 - i : Nat) : Int) ∧ ((c + 1 - i : Nat) : Int) ≤ most := by omega
   have q2 : i + (c + 1 - i) = c + 1 := by omega
   simp only [A.appendZ]
   rw [if_pos q1]
   simp only [A.appendL, Nat.zero_add, Nat.sub_zero, h1, Int.toNat_natCast, List.length_replicate, List.drop_zero, ← hrows]
   rw [if_pos (by simp; omega), q2]
  rw [e1, Option.bind_some]
  simp only
  have h2 : (σ1 ++ [Blk.arr (c + 1) sz rows])[σ1.length]? = some (.arr (c + 1) sz rows) := by simp
  rw [slo (room_arr h2 (by omega)) bnd_n (bnd_s (k := i) (by omega)), Option.bind_some]
  rw [copy_os (ys := [ye]) h2 (by omega) (by simp [A.elems]) (by simp) (by omega), Option.bind_some]
  have e2 : ([ye] : List (List AV)).take (c + 1 - i) = [ye] := List.take_of_length_le (by simp; omega)
  rw [e2]
  simp only [Nat.zero_add, List.length_singleton]
  rw [Option.bind_some]
  obtain ⟨rows2, hrows2⟩ : ∃ rows2, rows2 = rows.take i ++ [ye] ++ rows.drop (i + 1) := ⟨_, rfl⟩
  have hrl2 : rows2.length = c + 1 := by rw [hrows2]; simp; omega
  rw [← hrows2]
  have hset : (σ1 ++ [Blk.arr (c + 1) sz rows]).set σ1.length (.arr (c + 1) sz rows2) = σ1 ++ [.arr (c + 1) sz rows2] := by simp
  rw [hset]
  have h3 : (σ1 ++ [Blk.arr (c + 1) sz rows2])[σ1.length]? = some (.arr (c + 1) sz rows2) := by simp
  have h3' : (σ1 ++ [Blk.arr (c + 1) sz rows2])[id]? = some (.arrF g sz seg) := by rw [List.getElem?_append_left (by omega)]; exact h1
  rw [slo (room_arr h3 (by omega)) bnd_n (bnd_s (k := i + 1) (by omega)), Option.bind_some]
  rw [slo (room_arrF h3') bnd_n (bnd_s (k := i) (by omega)), Option.bind_some]
  rw [copy_os h3 (by omega) (elems_osF h3' (by omega)) (by simp; omega) (by omega), Option.bind_some]
  have e3 : ((seg.drop (0 + i)).take (c - i)).take (c + 1 - (i + 1)) = seg.drop i := by
   rw [Nat.zero_add, List.take_of_length_le (by simp; omega), List.take_of_length_le (by simp; omega)]
  rw [e3]
  have e4 : rows2.take (0 + (i + 1)) ++ seg.drop i ++ rows2.drop (0 + (i + 1) + (seg.drop i).length) = seg.take i ++ [ye] ++ seg.drop i := by
   have q1 : rows2.drop (0 + (i + 1) + (seg.drop i).length) = [] := List.drop_of_length_le (by simp; omega)
   have q2 : rows.take i = seg.take i := by rw [hrows, List.take_append_of_le_length (by simp; omega), List.take_take, Nat.min_self]
   have q3 : rows2.take (0 + (i + 1)) = seg.take i ++ [ye] := by
    rw [hrows2, q2, Nat.zero_add, List.take_append_of_le_length (by simp; omega), List.take_of_length_le (by simp; omega)]
   rw [q1, q3]; simp
  rw [e4]
  have hset2 : (σ1 ++ [Blk.arr (c + 1) sz rows2]).set σ1.length (.arr (c + 1) sz (seg.take i ++ [ye] ++ seg.drop i)) = σ1 ++ [.arr (c + 1) sz (seg.take i ++ [ye] ++ seg.drop i)] := by simp
  simp only
  rw [hset2]
  have h4 : (σ1 ++ [Blk.arr (c + 1) sz (seg.take i ++ [ye] ++ seg.drop i)])[σ1.length]? = some (.arr (c + 1) sz (seg.take i ++ [ye] ++ seg.drop i)) := by simp
  have hsl : (seg.take i ++ [ye] ++ seg.drop i).length = c + 1 := by simp; omega
  have e5 : ((seg.take i ++ [ye] ++ seg.drop i).drop 0).take (c + 1) = seg.take i ++ [ye] ++ seg.drop i := by rw [List.drop_zero, List.take_of_length_le (by omega)]
  simp only [A.renew, h4]
  rw [hgen, if_pos (by simp only [true_and]; omega), if_neg (by simp [A.hdOs, hl1]), e5]
  simp only [A.merge, hs, hgen]
  rw [if_pos]
  ·rw [hsl]
  refine ⟨by omega, by simp [hl1], rfl, by omega, fun j hj hne => ?_, by rw [List.getElem?_append_left (by omega)]; exact h1, fun z hz => ?_⟩
  ·rw [List.getElem?_append_left (by omega), hσ1, List.getElem?_set_ne (fun e => hne e.symm)]
  ·simp only [List.mem_append, List.mem_singleton] at hz
   rcases hz with (hz | hz) | hz
   ·exact .inl (List.mem_of_mem_take hz)
   ·right; simp [A.rowsOf, hz]
   ·exact .inl (List.mem_of_mem_drop hz)
 ·rw [if_neg ht]
  obtain ⟨es, hes⟩ : ∃ es, es = seg ++ List.replicate (0 + c - seg.length) (List.replicate sz AV.undef) := ⟨_, rfl⟩
  have hel : es.length = c := by rw [hes]; simp; omega
  have het : ∀ k, k ≤ n → es.take k = seg.take k := fun k hk => by rw [hes, List.take_append_of_le_length (by omega)]
  obtain ⟨σ1, hσ1⟩ : ∃ σ1, σ1 = σ.set id (.arr g sz es) := ⟨_, rfl⟩
  have h1 : σ1[id]? = some (.arr g sz es) := by rw [hσ1, List.getElem?_set_self hid]
  have hl1 : id < σ1.length := by rw [hσ1, List.length_set]; exact hid
  rw [← hes, ← hσ1]
  rw [show A.gtr (.int .i64 ((n + 1 : Nat) : Int)) (.int .i64 (c : Int)) = some (.bool false) by simp [A.gtr]; omega, Option.bind_some]
  rw [cnd_f, add_nn (by omega), Option.bind_some]
  rw [slo (room_arr h1 (by omega)) (bnd_s (k := n + 1) (by omega)) bnd_n, Option.bind_some, Option.bind_some]
  simp only [Nat.zero_add, Nat.sub_zero]
  rw [slo (room_arr h1 (by omega)) bnd_n (bnd_s (k := i + 1) (by omega)), Option.bind_some]
  have e1 : m_slices_overlaps [.sl sz [ye], .os id g sz (0 + (i + 1)) (n + 1 - (i + 1))] σ1 = some (.bool false, σ1) := by
   simp only [m_slices_overlaps, A.ar2, h1]
   rw [if_pos]
   refine ⟨by simp, trivial, fun e => ?_, by omega⟩
   rw [e] at hel; simp at hel; omega
  rw [e1, Option.bind_some, show A.not (.bool false) = some (.bool true) from rfl, Option.bind_some, cnd_t, Option.bind_some]
  simp only
  rw [slo (room_arr h1 (by omega)) bnd_n (bnd_s (k := i + 1) (by omega)), Option.bind_some]
  rw [slo (room_arr h1 (by omega)) bnd_n (bnd_s (k := i) (by omega)), Option.bind_some]
  rw [copy_os h1 (by omega) (elems_os h1 (by omega)) (by simp; omega) (by omega), Option.bind_some]
  have e2 : ((es.drop (0 + i)).take (n + 1 - i)).take (n + 1 - (i + 1)) = seg.drop i := by
   rw [List.take_take, Nat.zero_add, show min (n + 1 - (i + 1)) (n + 1 - i) = n - i by omega, List.take_drop, show i + (n - i) = n by omega, het n (Nat.le_refl _), List.take_of_length_le (by omega)]
  rw [e2]
  obtain ⟨es2, hes2⟩ : ∃ es2, es2 = es.take (0 + (i + 1)) ++ seg.drop i ++ es.drop (0 + (i + 1) + (seg.drop i).length) := ⟨_, rfl⟩
  have hel2 : es2.length = c := by rw [hes2]; simp; omega
  rw [← hes2]
  have h2 : (σ1.set id (.arr g sz es2))[id]? = some (.arr g sz es2) := List.getElem?_set_self hl1
  simp only
  rw [slo (room_arr h2 (by omega)) bnd_n (bnd_s (k := i) (by omega)), Option.bind_some]
  rw [copy_os (ys := [ye]) h2 (by omega) (by simp [A.elems]) (by simp) (by omega), Option.bind_some]
  have e3 : ([ye] : List (List AV)).take (n + 1 - i) = [ye] := List.take_of_length_le (by simp; omega)
  rw [e3]
  simp only [Nat.zero_add, List.length_singleton, List.set_set]
  obtain ⟨es3, hes3⟩ : ∃ es3, es3 = es2.take i ++ [ye] ++ es2.drop (i + 1) := ⟨_, rfl⟩
  have hel3 : es3.length = c := by rw [hes3]; simp; omega
  rw [← hes3]
  have h3 : (σ1.set id (.arr g sz es3))[id]? = some (.arr g sz es3) := List.getElem?_set_self hl1
  have e4 : (es3.drop 0).take (n + 1) = seg.take i ++ [ye] ++ seg.drop i := by
   have q1 : es2.take i = seg.take i := by rw [hes2, List.append_assoc, List.take_append_of_le_length (by simp; omega), List.take_take, show min i (0 + (i + 1)) = i by omega, het i (by omega)]
   have q2 : es2.drop (i + 1) = seg.drop i ++ es.drop (i + 1 + (seg.drop i).length) := by
    rw [hes2, Nat.zero_add, List.append_assoc, List.drop_append_of_le_length (by simp; omega), List.drop_of_length_le (by simp; omega), List.nil_append]
   rw [List.drop_zero, hes3, q1, q2, ← List.append_assoc, List.take_append_of_le_length (by simp; omega), List.take_of_length_le (by simp; omega)]
  simp only [A.renew, h3]
  rw [hgen, if_pos (by simp only [true_and]; omega), if_pos (.inl hid), e4, List.set_set, hσ1, List.set_set]
theorem ins_end {id g n : Nat} {seg : List (List AV)} (hs : σ[id]? = some (.arr g sz seg)) (hl : seg.length = n) (hm : n + 1 ≤ most) :
  insR sz most zs rot (.os id g sz 0 n) (.int .i64 (n : Int)) (.sl sz [ye]) σ = some (.os id (g + n + 2) sz 0 (n + 1), σ.set id (.arr (g + n + 2) sz (seg ++ [ye]))) := by
 have hid := (List.getElem?_eq_some_iff.1 hs).1
 have hgen : A.gen [.os id g sz 0 n, .int .i64 (n : Int), .sl sz [ye]] = g + n + 1 := gen_ins id g n _ ⟨_, rfl⟩
 unfold insR
 rw [slo (room_arr hs (by omega)) bnd_n (bnd_s (k := n) (by omega)), Option.bind_some]
 rw [show A.lenS (.sl sz [ye]) = some (.int .i64 ((1 : Nat) : Int)) from rfl, Option.bind_some]
 rw [show A.eql .i (.int .i64 ((1 : Nat) : Int)) (.int .i64 0) = some (.bool false) from rfl, Option.bind_some]
 rw [cnd_f]
 rw [show A.lenS (.os id g sz 0 n) = some (.int .i64 (n : Int)) from rfl, Option.bind_some, eq_nn, Option.bind_some, decide_eq_true rfl, cnd_t]
 have e1 : A.append sz most (.os id g sz 0 n) (.sl sz [ye]) σ = some (.os id (g + 1) sz 0 (n + 1), σ.set id (.arr (g + 1) sz (seg ++ [ye]))) := by
  have q : seg.take n = seg := List.take_of_length_le (by omega)
  simp [A.append, A.elems, A.appendL, hs, hl, hm, q]
 rw [e1, Option.bind_some]
 have h2 : (σ.set id (.arr (g + 1) sz (seg ++ [ye])))[id]? = some (.arr (g + 1) sz (seg ++ [ye])) := List.getElem?_set_self hid
 simp only [A.renew, h2]
 rw [hgen, if_pos (by simp; omega), if_pos (.inl hid), List.set_set, List.drop_zero, List.take_of_length_le (by simp; omega)]
theorem ins_nil (hv : v = .nsl ∨ v = .ez) (hm : 1 ≤ most) : insR sz most zs rot v (.int .i64 0) (.sl sz [ye]) σ = some (.os σ.length 2 sz 0 1, σ ++ [.arr 2 sz [ye]]) := by
 have hgen : ∀ w : AV, (w = .nsl ∨ w = .ez) → A.gen [w, .int .i64 0, .sl sz [ye]] = 1 := by
  rintro w (rfl | rfl) <;> simp [A.gen]
 have hbd : A.bound 0 0 (some (AV.int .i64 0)) = some 0 := bnd_s (y := 0) (d := 0) (k := 0) (Nat.le_refl _)
 have key : ∀ w : AV, (w = .nsl ∨ w = .ez) → A.renew [w, .int .i64 0, .sl sz [ye]] σ (.os σ.length 1 sz 0 1) (σ ++ [.arr 1 sz [ye]]) = some (.os σ.length 2 sz 0 1, σ ++ [.arr 2 sz [ye]]) := by
  intro w hw
  have h2 : (σ ++ [Blk.arr 1 sz [ye]])[σ.length]? = some (.arr 1 sz [ye]) := by simp
  simp only [A.renew, h2]
  rw [hgen w hw, if_pos (by simp), if_pos (.inr (by rcases hw with rfl | rfl <;> rfl))]
  simp
 unfold insR
 rw [show A.lenS (.sl sz [ye]) = some (.int .i64 ((1 : Nat) : Int)) from rfl]
 rcases hv with rfl | rfl
 ·rw [show A.sliceS sz .nsl (some (.int .i64 0)) none σ = some .nsl by simp [A.sliceS, bnd_n, hbd], Option.bind_some, Option.bind_some]
  rw [show A.eql .i (.int .i64 ((1 : Nat) : Int)) (.int .i64 0) = some (.bool false) from rfl, Option.bind_some, cnd_f]
  rw [show A.lenS .nsl = some (.int .i64 0) from rfl, Option.bind_some, show A.eql .i (.int .i64 0) (.int .i64 0) = some (.bool true) from rfl, Option.bind_some, cnd_t]
  rw [show A.append sz most .nsl (.sl sz [ye]) σ = some (.os σ.length 1 sz 0 1, σ ++ [.arr 1 sz [ye]]) by simp [A.append, A.elems, A.appendL, hm], Option.bind_some]
  exact key _ (.inl rfl)
 ·rw [show A.sliceS sz .ez (some (.int .i64 0)) none σ = some .ez by simp [A.sliceS, bnd_n, hbd], Option.bind_some, Option.bind_some]
  rw [show A.eql .i (.int .i64 ((1 : Nat) : Int)) (.int .i64 0) = some (.bool false) from rfl, Option.bind_some, cnd_f]
  rw [show A.lenS .ez = some (.int .i64 0) from rfl, Option.bind_some, show A.eql .i (.int .i64 0) (.int .i64 0) = some (.bool true) from rfl, Option.bind_some, cnd_t]
  rw [show A.append sz most .ez (.sl sz [ye]) σ = some (.os σ.length 1 sz 0 1, σ ++ [.arr 1 sz [ye]]) by simp [A.append, A.elems, A.appendL, hm], Option.bind_some]
  exact key _ (.inr rfl)
theorem sl_ins {B : Blk → Prop} (H : Hs B σ0 σ (Sl E sz v l * (E ye y * R))) (hi : i ≤ l.length) (hm : l.length + 1 ≤ most) (hb : l.length < 4611686018427387904) (hB : ∀ g g' seg k, (seg = [] ∨ B (.arr g sz seg)) → B (.arr g' sz (seg.take k ++ [ye] ++ seg.drop k))) :
  ∃ v' σ', insR sz most zs rot v (.int .i64 (i : Int)) (.sl sz [ye]) σ = some (v', σ') ∧ Hs B σ0 σ' (Sl E sz v' (l.take i ++ [y] ++ l.drop i) * R) := by
 rcases sl_cases H with ⟨rfl, hv, H⟩ | ⟨id, g, seg, rfl, hl, H⟩
 ·have hi0 : i = 0 := by simpa using hi
  subst hi0
  refine ⟨_, _, ins_nil hv (by simpa using hm), ?_⟩
  have H2 := hs_new (b := .arr 2 sz [ye]) H (by simpa using hB 0 2 [] 0 (.inl rfl))
  exact sl_os (id := σ.length) (g := 2) (seg := [ye]) (hs_eq (by simp only [List.take_nil, List.drop_nil, List.nil_append, List.append_nil, els_one]) H2) rfl
 ·obtain ⟨h1, h2⟩ := hs_get H
  have e : ∃ g', insR sz most zs rot (.os id g sz 0 l.length) (.int .i64 (i : Int)) (.sl sz [ye]) σ = some (.os id g' sz 0 (l.length + 1), σ.set id (.arr g' sz (seg.take i ++ [ye] ++ seg.drop i))) := by
   by_cases hil : i = l.length
   ·subst hil
    refine ⟨g + l.length + 2, ?_⟩
    rw [ins_end h2 hl hm, List.take_of_length_le (by omega), List.drop_of_length_le (by omega), List.append_nil]
   ·exact ⟨_, ins_mid h2 hl (by omega) hm hb⟩
  obtain ⟨g', e⟩ := e
  refine ⟨_, _, e, ?_⟩
  have H2 := hs_set (b' := .arr g' sz (seg.take i ++ [ye] ++ seg.drop i)) H (hB g g' seg i (.inr (hs_B H)))
  refine sl_os (id := id) (g := g') (seg := seg.take i ++ [ye] ++ seg.drop i) (hs_eq ?_ H2) (by simp; omega)
  have q : els E seg l = els E (seg.take i) (l.take i) * els E (seg.drop i) (l.drop i) := by
   rw [← els_app (by simp; omega), List.take_append_drop, List.take_append_drop]
  rw [els_app (es1 := seg.take i ++ [ye]) (l1 := l.take i ++ [y]) (by simp; omega), els_app (by simp; omega), els_one, q]
  ac_rfl
theorem gen_del (id g n : Nat) (i j : Int) : A.gen [.os id g sz 0 n, .int .i64 i, .int .i64 j] = g + n := by simp [A.gen]
theorem sl_del {B : Blk → Prop} {x : α} (H : Hs B σ0 σ (Sl E sz v l * R)) (hx : l[i]? = some x) (hm : l.length ≤ most) (hb : l.length < 4611686018427387904) (hB : ∀ g g' seg k, B (.arr g sz seg) → B (.arr g' sz (seg.eraseIdx k))) :
  ∃ v' σ' xe, (∃ p, A.iaddr sz v (.int .i64 (i : Int)) = some p ∧ A.deref p σ = some xe) ∧ delR sz most zs v (.int .i64 (i : Int)) (.int .i64 ((i + 1 : Nat) : Int)) σ = some (v', σ') ∧ Hs B σ0 σ' (Sl E sz v' (l.eraseIdx i) * (E xe x * R)) := by
 have hil := (List.getElem?_eq_some_iff.1 hx).1
 rcases sl_cases H with ⟨rfl, hv, H⟩ | ⟨id, g, seg, rfl, hl, H⟩
 ·simp at hx
 ·obtain ⟨h1, h2⟩ := hs_get H
  have hid := (List.getElem?_eq_some_iff.1 h2).1
  obtain ⟨n, hn⟩ : ∃ n, n = l.length := ⟨_, rfl⟩
  obtain ⟨xe, hxe⟩ : ∃ xe, seg[i]? = some xe := ⟨_, List.getElem?_eq_getElem (by omega)⟩
  have hgen : A.gen [.os id g sz 0 n, .int .i64 (i : Int), .int .i64 ((i + 1 : Nat) : Int)] = g + n := gen_del id g n _ _
  have e : delR sz most zs (.os id g sz 0 n) (.int .i64 (i : Int)) (.int .i64 ((i + 1 : Nat) : Int)) σ = some (.os id (g + n + 1) sz 0 (n - 1), σ.set id (.arr (g + n + 1) sz (seg.eraseIdx i))) := by
   unfold delR
   rw [show A.lenS (.os id g sz 0 n) = some (.int .i64 (n : Int)) from rfl, Option.bind_some]
   have s3 : A.slice3 (.os id g sz 0 n) (some (.int .i64 (i : Int))) (.int .i64 ((i + 1 : Nat) : Int)) (.int .i64 (n : Int)) = some .undef := by
    simp only [A.slice3, A.lenS, Option.bind_some, Int.toNat_natCast]
    rw [bnd_s (Nat.le_refl n), Option.bind_some, bnd_s (show i + 1 ≤ n by omega), Option.bind_some, bnd_s (show i ≤ i + 1 by omega), Option.map_some, if_neg (by omega)]
   rw [s3, Option.bind_some, eq_nn, Option.bind_some, decide_eq_false (by omega), cnd_f, Option.bind_some]
   rw [slo (room_arr h2 (by omega)) (bnd_s (k := i) (by omega)) bnd_n, Option.bind_some]
   rw [slo (room_arr h2 (by omega)) bnd_n (bnd_s (k := i + 1) (by omega)), Option.bind_some]
   obtain ⟨es, hes⟩ : ∃ es, es = seg.take i ++ seg.drop (i + 1) ++ seg.drop (i + (n - (i + 1))) := ⟨_, rfl⟩
   have hel : es.length = n := by rw [hes]; simp; omega
   have e1 : A.append sz most (.os id g sz (0 + 0) (i - 0)) (.os id g sz (0 + (i + 1)) (n - (i + 1))) σ = some (.os id g sz 0 (n - 1), σ.set id (.arr g sz es)) := by
    have q : ((seg.drop (0 + (i + 1))).take (n - (i + 1))) = seg.drop (i + 1) := by rw [Nat.zero_add, List.take_of_length_le (by simp; omega)]
    simp only [A.append, elems_os h2 (by omega : 0 + (i + 1) + (n - (i + 1)) ≤ seg.length), Option.bind_some, q, A.appendL, h2]
    rw [if_pos (by simp; omega)]
    by_cases hlast : seg.drop (i + 1) = []
    ·have hni : n = i + 1 := by
      have := congrArg List.length hlast
      simp at this; omega
     rw [if_pos hlast]
     have qe : es = seg := by rw [hes, hlast, hni]; simp
     rw [qe, show n - 1 = i - 0 by omega]
     congr 2
     apply List.ext_getElem?
     intro k
     rw [List.getElem?_set]
     split
     ·rename_i ek; subst ek; rw [h2]
     ·rfl
    ·rw [if_neg hlast, if_pos (by simp; omega)]
     congr 2
     ·congr 1; simp; omega
     ·rw [hes]
      congr 2
      simp only [Nat.zero_add, Nat.sub_zero, List.length_drop]
      rw [show seg.length - (i + 1) = n - (i + 1) by omega]
   rw [e1, Option.bind_some]
   simp only
   have h3 : (σ.set id (.arr g sz es))[id]? = some (.arr g sz es) := List.getElem?_set_self hid
   rw [show A.lenS (.os id g sz 0 (n - 1)) = some (.int .i64 ((n - 1 : Nat) : Int)) from rfl, Option.bind_some]
   rw [slo (room_arr h3 (by omega)) (bnd_s (k := n) (by omega)) (bnd_s (k := n - 1) (by omega)), Option.bind_some]
   have e2 : A.clearS sz zs (.os id g sz (0 + (n - 1)) (n - (n - 1))) (σ.set id (.arr g sz es)) = some (σ.set id (.arr g sz (es.take (n - 1) ++ List.replicate (n - (n - 1)) zs ++ es.drop n))) := by
    simp only [A.clearS, h3]
    rw [if_pos (by simp; omega), if_neg (by omega), List.set_set, Nat.zero_add, show n - 1 + (n - (n - 1)) = n by omega]
   rw [e2, Option.bind_some]
   have h4 : (σ.set id (.arr g sz (es.take (n - 1) ++ List.replicate (n - (n - 1)) zs ++ es.drop n)))[id]? = some (.arr g sz (es.take (n - 1) ++ List.replicate (n - (n - 1)) zs ++ es.drop n)) := List.getElem?_set_self hid
   simp only [A.renew, h4]
   rw [hgen, if_pos (by simp; omega), if_pos (.inl hid), List.set_set, List.drop_zero, List.append_assoc, List.take_append_of_le_length (by simp; omega), List.take_take, Nat.min_self]
   congr 4
   rw [hes, List.take_append_of_le_length (by simp; omega), List.take_of_length_le (by simp; omega), List.eraseIdx_eq_take_drop_succ]
  rw [hn] at e
  have hi' : ((i : Int) < (l.length : Int)) := by omega
  refine ⟨_, _, xe, ⟨.oe id g i 0, by simp [A.iaddr, A.idx, hi'], by simp [A.deref, h2, hxe]⟩, e, ?_⟩
  have H2 := hs_set (b' := .arr (g + l.length + 1) sz (seg.eraseIdx i)) H (hB g _ seg i (hs_B H))
  refine sl_os (id := id) (g := g + l.length + 1) (seg := seg.eraseIdx i) (hs_eq ?_ H2) (by rw [List.length_eraseIdx, if_pos hil])
  rw [els_at hl hxe hx]
  ac_rfl
end
end Go.Proofs.YtphgchakmkankaaGreat

namespace Go.Proofs.YtphgchakmkankaaGreat
set_option linter.unusedSectionVars false
set_option linter.unusedVariables false
set_option linter.unusedSimpArgs false
def withinB (n lo hi : Int) : Bool := decide (lo ≤ n ∧ n ≤ hi)
def okc (c : UInt8) : Bool := decide (97 ≤ c.toNat ∧ c.toNat ≤ 122) || decide (48 ≤ c.toNat ∧ c.toNat ≤ 57) || decide (c.toNat = 45)
def rowB (s : ByteArray) : Bool := s.data.toList.all okc && decide (0 < s.size)
def nameB (s : ByteArray) : Bool := rowB s && decide (s.size ≤ 20) && decide (97 ≤ (s.data.toList.getD 0 0).toNat) && decide ((s.data.toList.getD 0 0).toNat ≤ 122)
def pc (c : UInt8) : Bool := decide (32 ≤ c.toNat ∧ c.toNat ≤ 126)
def edgeB (s : ByteArray) : Bool := decide (0 < s.size) && decide (s.size ≤ 60) && (decide ((s.data.toList.getD 0 0).toNat ≠ 32) && decide ((s.data.toList.getD (s.size - 1) 0).toNat ≠ 32))
def titleB (s : ByteArray) : Bool := s.data.toList.all pc && edgeB s
theorem getD_byte (s : ByteArray) (i : Nat) (h : i < s.size) : s.data.toList.getD i 0 = s[i] := by
 rw [List.getD_eq_getElem?_getD, List.getElem?_eq_getElem (by simpa using h)]; rfl
def profOf (nm : ByteArray) : List ProfileD → ProfileD × Bool
 | [] => (⟨⟨#[]⟩, 0, []⟩, false)
 | p :: rest => if p.name = nm then (p, true) else profOf nm rest
def lastU (lib : List ProfileD) (u : UnitD) : Int := u.address + (profOf u.profile lib).1.size - 1
def MarksP (lib : List ProfileD) (pre : List UnitD) (f : Int → Nat → Bool) : Prop := ∀ v k, f v k = true ↔ ∃ x ∈ pre, x.univ = v ∧ x.address ≤ (k : Int) ∧ (k : Int) ≤ lastU lib x
theorem MarksP.nil (lib : List ProfileD) : MarksP lib [] (fun _ _ => false) := fun v k => by simp
end Go.Proofs.YtphgchakmkankaaGreat

namespace Go.Proofs.YtphgchakmkankaaGreat
set_option linter.unusedSectionVars false
set_option linter.unusedVariables false
set_option linter.unusedSimpArgs false
theorem Within_eq (n lo hi : Int) (σ : Heap) : m_word_Within [.int .i64 n, .int .i64 lo, .int .i64 hi] σ = some (.bool (withinB n lo hi), σ) := by
 refine wrap_eq rfl ?_ rfl
 show r_word_Within _ _ _ σ = _
 unfold r_word_Within withinB
 by_cases h : lo ≤ n <;> simp only [MSb, reduceCtorEq, h, true_and, false_and]
theorem Within1_eq (n lo hi : Int) (σ : Heap) : m_R1_Within [.int .i64 n, .int .i64 lo, .int .i64 hi] σ = some (.bool (withinB n lo hi), σ) := by
 refine wrap_eq rfl ?_ rfl
 show r_R1_Within _ _ _ σ = _
 unfold r_R1_Within withinB
 by_cases h : lo ≤ n <;> simp only [MSb, reduceCtorEq, h, true_and, false_and]
theorem When_eq (b : Bool) (n : Int) (σ : Heap) : m_word_When [.bool b, .int .i64 n] σ = some (.int .i64 (if b = true then n else 0), σ) := by
 refine wrap_eq rfl ?_ rfl
 show r_word_When _ _ σ = _
 unfold r_word_When
 cases b <;> simp [MSb, reduceCtorEq]
theorem sidx_eq (s : ByteArray) {i : Nat} (h : i < s.size) : A.sidx (.str s) (.int .i64 (i : Int)) = some (.int .u8 (s.data.toList.getD i 0).toNat) := by
 have h1 : s[i]? = some s[i] := by simp [h]
 simp [A.sidx, A.idx, h, getD_byte s i h]
 rfl
theorem isEmpty_ne (s : ByteArray) : (decide (¬ s = ⟨#[]⟩)) = decide (0 < s.size) := by
 rw [decide_eq_decide]
 constructor
 ·intro h
  rcases Nat.eq_zero_or_pos s.size with e | e
  ·exact absurd (ByteArray.ext (Array.eq_empty_of_size_eq_zero e)) h
  ·exact e
 ·rintro h rfl; exact absurd h (by decide)
theorem Row_eq (s : ByteArray) (hs : okS s) (σ : Heap) : m_word_Row [.str s] σ = some (.bool (rowB s), σ) := by
 refine wrap_eq rfl ?_ rfl
 show r_word_Row _ σ = _
 unfold r_word_Row
 simp only [MSb, reduceCtorEq]
 refine (all_loop (p := okc) s (some (.bool false, σ)) ?_ ?_ ?_).trans ?_
 ·intro i c hi hc
  have h1 : inI ((i : Int) + 1) := by unfold okS mxl at hs; unfold inI; omega
  have h2 : (i : Int) < s.size := by omega
  simp only [MSb, reduceCtorEq, h2, hc, wrap64 h1, okc]
  clear hc h1
  repeat' ((first | rw [gDp] | rw [gDb] | rw [cDp] | rw [cDnp] | rw [cDn] | rw [cDb]); split <;> try simp only [MSb, reduceCtorEq, *])
  all_goals first | rfl | (refine (if_pos ?_).symm; simp; omega) | (refine (if_neg ?_).symm; simp; omega) | (refine congrArg some (congrArg (fun b => (AV.bool b, σ)) ?_); rw [Bool.eq_iff_iff]; simp; omega)
 ·simp only [MSb, reduceCtorEq, Int.lt_irrefl]
 ·intro i; simp only [MSb, reduceCtorEq]
 ·simp only [MSb, reduceCtorEq, isEmpty_ne, rowB]
  cases s.data.toList.all okc <;> simp
theorem IsWord1_eq (s : ByteArray) (hs : okS s) (σ : Heap) : m_R1_IsWord [.str s] σ = some (.bool (rowB s), σ) := by
 refine wrap_eq rfl ?_ rfl
 show r_R1_IsWord _ σ = _
 unfold r_R1_IsWord
 simp only [MSb, reduceCtorEq]
 refine (all_loop (p := okc) s (some (.bool false, σ)) ?_ ?_ ?_).trans ?_
 ·intro i c hi hc
  have h1 : inI ((i : Int) + 1) := by unfold okS mxl at hs; unfold inI; omega
  have h2 : (i : Int) < s.size := by omega
  simp only [MSb, reduceCtorEq, h2, hc, wrap64 h1, okc]
  clear hc h1
  repeat' ((first | rw [gDp] | rw [gDb] | rw [cDp] | rw [cDnp] | rw [cDn] | rw [cDb]); split <;> try simp only [MSb, reduceCtorEq, *])
  all_goals first | rfl | (refine (if_pos ?_).symm; simp; omega) | (refine (if_neg ?_).symm; simp; omega) | (refine congrArg some (congrArg (fun b => (AV.bool b, σ)) ?_); rw [Bool.eq_iff_iff]; simp; omega)
 ·simp only [MSb, reduceCtorEq, Int.lt_irrefl]
 ·intro i; simp only [MSb, reduceCtorEq]
 ·simp only [MSb, reduceCtorEq, isEmpty_ne, rowB]
  cases s.data.toList.all okc <;> simp
theorem rowB_pos {s : ByteArray} (h : rowB s = true) : 0 < s.size := by
 simp only [rowB, Bool.and_eq_true, decide_eq_true_eq] at h; exact h.2
theorem Name_eq (s : ByteArray) (hs : okS s) (σ : Heap) : m_word_Name [.str s] σ = some (.bool (nameB s), σ) := by
 refine wrap_eq rfl ?_ rfl
 show r_word_Name _ σ = _
 unfold r_word_Name
 simp only [MSb, reduceCtorEq, Row_eq s hs]
 cases h : rowB s
 ·simp [MSb, reduceCtorEq, nameB, h]
 ·have h0 := rowB_pos h
  have := sidx_eq s h0
  simp only [Int.ofNat_zero] at this
  simp only [MSb, reduceCtorEq, this]
  simp only [nameB, h, Bool.true_and]
  generalize s.data.toList.getD 0 0 = c0 at *
  repeat' ((first | rw [gDp] | rw [gDb] | rw [cDp] | rw [cDnp] | rw [cDn] | rw [cDb]); split <;> try simp only [MSb, reduceCtorEq, *])
  all_goals first | rfl | (refine (if_pos ?_).symm; simp; omega) | (refine (if_neg ?_).symm; simp; omega) | (refine congrArg some (congrArg (fun b => (AV.bool b, σ)) ?_); rw [Bool.eq_iff_iff]; simp; omega)
theorem IsName1_eq (s : ByteArray) (hs : okS s) (σ : Heap) : m_R1_IsName [.str s] σ = some (.bool (nameB s), σ) := by
 refine wrap_eq rfl ?_ rfl
 show r_R1_IsName _ σ = _
 unfold r_R1_IsName
 simp only [MSb, reduceCtorEq, IsWord1_eq s hs]
 cases h : rowB s
 ·simp [MSb, reduceCtorEq, nameB, h]
 ·have h0 := rowB_pos h
  have := sidx_eq s h0
  simp only [Int.ofNat_zero] at this
  simp only [MSb, reduceCtorEq, this]
  simp only [nameB, h, Bool.true_and]
  generalize s.data.toList.getD 0 0 = c0 at *
  repeat' ((first | rw [gDp] | rw [gDb] | rw [cDp] | rw [cDnp] | rw [cDn] | rw [cDb]); split <;> try simp only [MSb, reduceCtorEq, *])
  all_goals first | rfl | (refine (if_pos ?_).symm; simp; omega) | (refine (if_neg ?_).symm; simp; omega) | (refine congrArg some (congrArg (fun b => (AV.bool b, σ)) ?_); rw [Bool.eq_iff_iff]; simp; omega)
theorem Title_eq (s : ByteArray) (hs : okS s) (σ : Heap) : m_word_Title [.str s] σ = some (.bool (titleB s), σ) := by
 refine wrap_eq rfl ?_ rfl
 show r_word_Title _ σ = _
 unfold r_word_Title
 simp only [MSb, reduceCtorEq]
 refine (all_loop (p := pc) s (some (.bool false, σ)) ?_ ?_ ?_).trans ?_
 ·intro i c hi hc
  have h1 : inI ((i : Int) + 1) := by unfold okS mxl at hs; unfold inI; omega
  have h2 : (i : Int) < s.size := by omega
  simp only [MSb, reduceCtorEq, h2, hc, wrap64 h1, pc]
  clear h1
  repeat' ((first | rw [gDp] | rw [gDb] | rw [cDp] | rw [cDnp] | rw [cDn] | rw [cDb]); split <;> try simp only [MSb, reduceCtorEq, *])
  all_goals first | rfl | (refine (if_pos ?_).symm; simp; omega) | (refine (if_neg ?_).symm; simp; omega) | (refine congrArg some (congrArg (fun b => (AV.bool b, σ)) ?_); rw [Bool.eq_iff_iff]; simp; omega)
 ·simp only [MSb, reduceCtorEq, Int.lt_irrefl]
 ·intro i; simp only [MSb, reduceCtorEq]
 ·simp only [MSb, reduceCtorEq, isEmpty_ne, titleB]
  cases s.data.toList.all pc
  ·simp
  ·simp only [if_true, Bool.true_and]
   by_cases h0 : 0 < s.size
   ·by_cases h60 : s.size ≤ 60
    ·have e0 := sidx_eq s h0
     have e1 := sidx_eq s (i := s.size - 1) (by omega)
     simp only [Int.ofNat_zero] at e0
     rw [show ((s.size - 1 : Nat) : Int) = (s.size : Int) - 1 by omega] at e1
     have h1 : inI ((s.size : Int) - 1) := by unfold okS mxl at hs; unfold inI; omega
     have h60' : (s.size : Int) ≤ 60 := by omega
     have hw := wrap64 h1
     simp only [edgeB, h0, h60]
     generalize s.data.toList.getD 0 0 = c0 at *
     generalize s.data.toList.getD (s.size - 1) 0 = c1 at *
     simp only [MSb, reduceCtorEq, h0, h60', e0, e1, hw]
     repeat' ((first | rw [gDp] | rw [gDb] | rw [cDp] | rw [cDnp] | rw [cDn] | rw [cDb]); split <;> try simp only [MSb, reduceCtorEq, *])
     all_goals first | rfl | (refine (if_pos ?_).symm; simp; omega) | (refine (if_neg ?_).symm; simp; omega) | (refine congrArg some (congrArg (fun b => (AV.bool b, σ)) ?_); rw [Bool.eq_iff_iff]; simp; omega)
    ·have h60' : ¬ (s.size : Int) ≤ 60 := by omega
     simp [MSb, reduceCtorEq, h0, h60', edgeB, h60]
   ·simp [MSb, reduceCtorEq, h0, edgeB]
theorem IsTitle1_eq (s : ByteArray) (hs : okS s) (σ : Heap) : m_R1_IsTitle [.str s] σ = some (.bool (titleB s), σ) := by
 refine wrap_eq rfl ?_ rfl
 show r_R1_IsTitle _ σ = _
 have e : (s = ⟨#[]⟩) ↔ ¬ 0 < s.size := by
  have := isEmpty_ne s
  rw [decide_eq_decide] at this
  rw [← this]; simp
 have tail : titleB s = (edgeB s && s.data.toList.all pc) := by unfold titleB; exact Bool.and_comm _ _
 unfold r_R1_IsTitle
 simp only [MSb, reduceCtorEq, e]
 by_cases h0 : 0 < s.size
 ·by_cases h60 : s.size ≤ 60
  ·have e0 := sidx_eq s h0
   have e1 := sidx_eq s (i := s.size - 1) (by omega)
   simp only [Int.ofNat_zero] at e0
   rw [show ((s.size - 1 : Nat) : Int) = (s.size : Int) - 1 by omega] at e1
   have h1 : inI ((s.size : Int) - 1) := by unfold okS mxl at hs; unfold inI; omega
   have h60' : ¬ (60 : Int) < (s.size : Int) := by omega
   have hw := wrap64 h1
   have hedge : edgeB s = (decide (¬ (s.data.toList.getD 0 0).toNat = 32) && decide (¬ (s.data.toList.getD (s.size - 1) 0).toNat = 32)) := by simp [edgeB, h0, h60]
   rw [tail, hedge]
   clear tail hedge
   generalize s.data.toList.getD 0 0 = c0 at *
   generalize s.data.toList.getD (s.size - 1) 0 = c1 at *
   by_cases k0 : c0.toNat = 32
   ·have k0' : (c0.toNat : Int) = 32 := by omega
    simp [MSb, reduceCtorEq, h0, h60', e0, k0', k0]
   ·have k0' : ¬ (c0.toNat : Int) = 32 := by omega
    by_cases k1 : c1.toNat = 32
    ·have k1' : (c1.toNat : Int) = 32 := by omega
     simp [MSb, reduceCtorEq, h0, h60', e0, k0', hw, e1, k1', k1]
    ·have k1' : ¬ (c1.toNat : Int) = 32 := by omega
     simp only [MSb, reduceCtorEq, h0, h60', e0, k0', hw, e1, k1', k0, k1]
     refine (all_loop (p := pc) s (some (.bool false, σ)) ?_ ?_ ?_).trans ?_
     ·intro i c hi hc
      have h1 : inI ((i : Int) + 1) := by unfold okS mxl at hs; unfold inI; omega
      have h2 : (i : Int) < s.size := by omega
      simp only [MSb, reduceCtorEq, h2, hc, wrap64 h1, pc]
      clear h1
      repeat' ((first | rw [gDp] | rw [gDb] | rw [cDp] | rw [cDnp] | rw [cDn] | rw [cDb]); split <;> try simp only [MSb, reduceCtorEq, *])
      all_goals first | rfl | (refine (if_pos ?_).symm; simp; omega) | (refine (if_neg ?_).symm; simp; omega) | (refine congrArg some (congrArg (fun b => (AV.bool b, σ)) ?_); rw [Bool.eq_iff_iff]; simp; omega)
     ·simp only [MSb, reduceCtorEq, Int.lt_irrefl]
     ·intro i; simp only [MSb, reduceCtorEq]
     ·simp only [MSb, reduceCtorEq]
      cases s.data.toList.all pc <;> simp
  ·have h60' : (60 : Int) < (s.size : Int) := by omega
   simp [MSb, reduceCtorEq, h0, h60', tail, edgeB, h60]
 ·simp [MSb, reduceCtorEq, h0, tail, edgeB]
end Go.Proofs.YtphgchakmkankaaGreat

namespace Go.Proofs.YtphgchakmkankaaGreat
set_option linter.unusedSectionVars false
set_option linter.unusedVariables false
set_option linter.unusedSimpArgs false
theorem IsTime1_eq (n : Int) (σ : Heap) : m_R1_IsTime [.int .i64 n] σ = some (.bool (withinB n 0 36000000), σ) := by
 refine wrap_eq rfl ?_ rfl
 show r_R1_IsTime (.int .i64 n) σ = _
 unfold r_R1_IsTime
 simp only [MSb, reduceCtorEq, Within1_eq]
theorem loop_anyN {γ : Type} {f : List AV → Heap → Option (AX × List AV × Heap)} (a n : Nat) (p : Nat → Bool) (vs : Nat → List AV) (σ : Heap) (fin : AX × List AV × Heap) (ret : Nat → AX × List AV × Heap) {k : AX × List AV × Heap → Option γ} (K1 K2 : Option γ)
  (hstep : ∀ (i : Nat), a ≤ i → i < a + n → f (vs i) σ = if p i = true then some (ret i) else some (.normal, vs (i + 1), σ)) (hend : f (vs (a + n)) σ = some fin) (hk1 : k fin = K1) (hk2 : ∀ i, k (ret i) = K2)
  (hfin : fin.1 ≠ .normal := by simp) (hret : ∀ i, (ret i).1 ≠ .normal := by intros; simp) {v : List AV} {σ' : Heap} (hv : v = vs a := by rfl) (hσ : σ' = σ := by rfl) :
  (A.loop f v σ').bind k = if (List.range' a n).any p = true then K2 else K1 := by
 refine loop_any (List.range' a n) p (fun i => vs (a + i)) σ fin (fun i => ret (a + i)) K1 K2 ?_ (by rw [List.length_range']; exact hend) hk1 (fun i => hk2 _) hfin (fun i => hret _) hv hσ
 intro i x hx
 obtain ⟨h1, h2⟩ := List.getElem?_eq_some_iff.1 hx
 rw [List.length_range'] at h1
 obtain rfl : a + i = x := by simpa [List.getElem_range'] using h2
 exact hstep (a + i) (by omega) (by omega)
def zPoint : PointD := ⟨0, 0⟩
def badP (p : PointD) : Bool := !(withinB p.time 0 1000) || !(withinB p.way 0 1000)
def ordP (l : List PointD) (i : Nat) : Bool := decide ((l.getD i zPoint).time ≤ (l.getD (i - 1) zPoint).time ∨ (l.getD i zPoint).way < (l.getD (i - 1) zPoint).way)
def ptsF (l : List PointD) : Int :=
 if l.any badP = true then 1
 else if ¬ ((l.getD 0 zPoint).time = 0 ∧ (l.getD 0 zPoint).way = 0) then 3
 else if ¬ ((l.getD (l.length - 1) zPoint).time = 1000 ∧ (l.getD (l.length - 1) zPoint).way = 1000) then 3
 else if (List.range' 1 (l.length - 1)).any (ordP l) = true then 7 else 0
def curveF (c : CurveD) : Int :=
 if withinB c.kind 1 6 = false then 4
 else if c.kind = 6 then (if c.points.length < 2 then 8 else if 20 < c.points.length then 2 else ptsF c.points)
 else if 0 < c.points.length then 3 else 0
theorem ne_point (x : PointD) (a b : Int) : A.neq (.s [0, 0]) (.agg (cPoint x)) (.agg [.int .i64 a, .int .i64 b]) = some (.bool (decide (¬ (x.time = a ∧ x.way = b)))) := by
 simp only [A.neq, A.eqK, cPoint, A.eqAll, A.eqC, A.eqI, if_true, Option.bind_some, Option.map_some]
 congr 2
 rw [Bool.eq_iff_iff]
 simp
theorem spl20 (a b c : AV) : A.splice 0 [a] [b, c] = some [a, c] := rfl
theorem spl21 (a b c : AV) : A.splice 1 [a] [b, c] = some [b, a] := rfl
theorem getD_at {l : List PointD} {i : Nat} (h : i < l.length) : l[i]? = some (l.getD i zPoint) := by simp [h]
theorem CheckCurve1_eq (c : CurveD) (σ : Heap) : m_R1_CheckCurve [.agg (cCurve c)] σ = some (.int .i64 (curveF c), σ) := by
 refine wrap_eq rfl ?_ rfl
 show r_R1_CheckCurve (.agg (cCurve c)) σ = _
 unfold r_R1_CheckCurve curveF
 simp only [MSb, reduceCtorEq, p1_cCurve_0, p1_cCurve_1, pA_cCurve, ce_cCurve, sp_cCurve, Within1_eq]
 cases hk : withinB c.kind 1 6
 ·simp only [MSb, reduceCtorEq]
 by_cases h6 : c.kind = 6
 case neg =>
  by_cases h0 : 0 < c.points.length
  ·simp only [MSb, reduceCtorEq, p1_cCurve_0, p1_cCurve_1, pA_cCurve, ce_cCurve, sp_cCurve, h6, h0, show (0 : Int) < c.points.length by omega]
  ·simp only [MSb, reduceCtorEq, p1_cCurve_0, p1_cCurve_1, pA_cCurve, ce_cCurve, sp_cCurve, h6, h0, show ¬ (0 : Int) < c.points.length by omega]
 by_cases h2 : c.points.length < 2
 ·simp only [MSb, reduceCtorEq, p1_cCurve_0, p1_cCurve_1, pA_cCurve, ce_cCurve, sp_cCurve, h6, h2, show (c.points.length : Int) < 2 by omega]
 by_cases h20 : 20 < c.points.length
 ·simp only [MSb, reduceCtorEq, p1_cCurve_0, p1_cCurve_1, pA_cCurve, ce_cCurve, sp_cCurve, h6, h2, h20, show ¬ (c.points.length : Int) < 2 by omega, show (20 : Int) < c.points.length by omega]
 simp only [MSb, reduceCtorEq, p1_cCurve_0, p1_cCurve_1, pA_cCurve, ce_cCurve, sp_cCurve, h6, h2, h20, show ¬ (c.points.length : Int) < 2 by omega, show ¬ (20 : Int) < c.points.length by omega]
 have hmx : c.points.length ≤ mxl := by unfold mxl; omega
 refine (loop_any c.points badP (fun i => [.lbx (cCurve c), .int .i64 0, .int .i64 (i : Int)]) σ (.exit 1, [.lbx (cCurve c), .int .i64 0, .int .i64 (c.points.length : Int)], σ) (fun i => (.ret, [.lbx (cCurve c), .int .i64 1, .int .i64 (i : Int)], σ))
  (some (.int .i64 (if ¬ ((c.points.getD 0 zPoint).time = 0 ∧ (c.points.getD 0 zPoint).way = 0) then 3
 else if ¬ ((c.points.getD (c.points.length - 1) zPoint).time = 1000 ∧ (c.points.getD (c.points.length - 1) zPoint).way = 1000) then 3
 else if (List.range' 1 (c.points.length - 1)).any (ordP c.points) = true then 7 else 0), σ)) (some (.int .i64 1, σ)) ?_ ?_ ?_ ?_).trans ?_
 ·intro i x hx
  obtain ⟨g1, g2, g3⟩ := iaddr_at 2 cPoint hx
  have g3 := g3 hmx
  simp only [MSb, reduceCtorEq, p1_cPoint_0, p1_cPoint_1, pA_cPoint, ce_cPoint, sp_cPoint, g1, g2, g3, Within1_eq, badP]
  rcases Bool.eq_false_or_eq_true (withinB x.time 0 1000) with e | e
  ·rcases Bool.eq_false_or_eq_true (withinB x.way 0 1000) with e' | e' <;> simp only [MSb, reduceCtorEq, Within1_eq, e, e', Bool.false_or, Bool.or_false]
  ·simp only [MSb, reduceCtorEq, e, Bool.true_or]
 ·exact hend_lss _ _ _
 ·have g0 := iaddr_sl 2 cPoint c.points (getD_at (l := c.points) (i := 0) (by omega))
  have gl := iaddr_pred 2 cPoint c.points (k := c.points.length) (by omega) (getD_at (by omega))
  have hw : IntKind.i64.wrap ((c.points.length : Int) - 1) = (c.points.length : Int) - 1 := wrap64 (by unfold inI; omega)
  simp only [Int.ofNat_zero, Int.natCast_zero] at g0
  simp only [MSb, reduceCtorEq, p1_cCurve_0, p1_cCurve_1, pA_cCurve, ce_cCurve, sp_cCurve, p1_cPoint_0, p1_cPoint_1, pA_cPoint, ce_cPoint, sp_cPoint, g0, ne_point]
  by_cases e1 : (c.points.getD 0 zPoint).time = 0 ∧ (c.points.getD 0 zPoint).way = 0
  case neg => simp only [MSb, reduceCtorEq, e1]
  simp only [MSb, reduceCtorEq, p1_cCurve_0, p1_cCurve_1, pA_cCurve, ce_cCurve, sp_cCurve, e1, hw, gl, p1_cPoint_0, p1_cPoint_1, pA_cPoint, ce_cPoint, sp_cPoint]
  by_cases e2 : (c.points.getD (c.points.length - 1) zPoint).time = 1000 ∧ (c.points.getD (c.points.length - 1) zPoint).way = 1000
  case neg =>
   simp only [spl20, spl21, MSb, reduceCtorEq, ne_point, e2]
  simp only [spl20, spl21, MSb, reduceCtorEq, ne_point, e2]
  refine (loop_anyN 1 (c.points.length - 1) (ordP c.points) (fun i => [.lbx (cCurve c), .int .i64 0, .int .i64 (i : Int)]) σ (.exit 3, [.lbx (cCurve c), .int .i64 0, .int .i64 (c.points.length : Int)], σ) (fun i => (.ret, [.lbx (cCurve c), .int .i64 7, .int .i64 (i : Int)], σ)) (some (AV.int .i64 0, σ)) (some (AV.int .i64 7, σ)) ?_ ?_ ?_ ?_).trans ?_
  ·intro i hi1 hi2
   have k1 := iaddr_sl 2 cPoint c.points (getD_at (l := c.points) (i := i) (by omega))
   have k2 := iaddr_pred 2 cPoint c.points (k := i) (by omega) (getD_at (by omega))
   have k3 : IntKind.i64.wrap ((i : Int) - 1) = (i : Int) - 1 := wrap64 (by unfold inI; omega)
   have k4 : IntKind.i64.wrap ((i : Int) + 1) = ((i + 1 : Nat) : Int) := by rw [wrap64 (by unfold inI; omega)]; omega
   have k5 : (i : Int) < c.points.length := by omega
   simp only [MSb, reduceCtorEq, p1_cCurve_0, p1_cCurve_1, pA_cCurve, ce_cCurve, sp_cCurve, p1_cPoint_0, p1_cPoint_1, pA_cPoint, ce_cPoint, sp_cPoint, k1, k2, k3, k5, ordP]
   by_cases q1 : (c.points.getD i zPoint).time ≤ (c.points.getD (i - 1) zPoint).time
   ·simp only [MSb, reduceCtorEq, q1]
   ·by_cases q2 : (c.points.getD i zPoint).way < (c.points.getD (i - 1) zPoint).way <;> simp only [MSb, reduceCtorEq, p1_cCurve_0, p1_cCurve_1, pA_cCurve, ce_cCurve, sp_cCurve, p1_cPoint_0, p1_cPoint_1, pA_cPoint, ce_cPoint, sp_cPoint, k1, k2, k3, k4, q1, q2]
  ·rw [show 1 + (c.points.length - 1) = c.points.length by omega]
   simp only [MSb, reduceCtorEq, p1_cCurve_0, p1_cCurve_1, pA_cCurve, ce_cCurve, sp_cCurve, Int.lt_irrefl]
  ·simp only [MSb, reduceCtorEq]
  ·intro i; simp only [MSb, reduceCtorEq]
  ·cases (List.range' 1 (c.points.length - 1)).any (ordP c.points) <;> rfl
 ·intro i; simp only [MSb, reduceCtorEq]
 ·unfold ptsF
  cases c.points.any badP <;> rfl
end Go.Proofs.YtphgchakmkankaaGreat

namespace Go.Proofs.YtphgchakmkankaaGreat
set_option linter.unusedSectionVars false
set_option linter.unusedVariables false
set_option linter.unusedSimpArgs false
theorem CheckCurve_eq (c : CurveD) (σ : Heap) : m_level_CheckCurve [.agg (cCurve c)] σ = some (.int .i64 (curveF c), σ) := by
 refine wrap_eq rfl ?_ rfl
 show r_level_CheckCurve (.agg (cCurve c)) σ = _
 unfold r_level_CheckCurve curveF
 simp only [MSb, reduceCtorEq, p1_cCurve_0, p1_cCurve_1, pA_cCurve, ce_cCurve, sp_cCurve, Within_eq]
 cases hk : withinB c.kind 1 6
 ·simp only [MSb, reduceCtorEq]
 by_cases h6 : c.kind = 6
 case neg =>
  by_cases h0 : 0 < c.points.length
  ·simp only [MSb, reduceCtorEq, p1_cCurve_0, p1_cCurve_1, pA_cCurve, ce_cCurve, sp_cCurve, h6, h0, When_eq, show (0 : Int) < c.points.length by omega]
  ·simp only [MSb, reduceCtorEq, p1_cCurve_0, p1_cCurve_1, pA_cCurve, ce_cCurve, sp_cCurve, h6, h0, When_eq, show ¬ (0 : Int) < c.points.length by omega]
 by_cases h2 : c.points.length < 2
 ·simp only [MSb, reduceCtorEq, p1_cCurve_0, p1_cCurve_1, pA_cCurve, ce_cCurve, sp_cCurve, h6, h2, show (c.points.length : Int) < 2 by omega]
 by_cases h20 : 20 < c.points.length
 ·simp only [MSb, reduceCtorEq, p1_cCurve_0, p1_cCurve_1, pA_cCurve, ce_cCurve, sp_cCurve, h6, h2, h20, show ¬ (c.points.length : Int) < 2 by omega, show (20 : Int) < c.points.length by omega]
 simp only [MSb, reduceCtorEq, p1_cCurve_0, p1_cCurve_1, pA_cCurve, ce_cCurve, sp_cCurve, h6, h2, h20, show ¬ (c.points.length : Int) < 2 by omega, show ¬ (20 : Int) < c.points.length by omega]
 have hmx : c.points.length ≤ mxl := by unfold mxl; omega
 refine (loop_any c.points badP (fun i => [.int .i64 0, .int .i64 (i : Int)]) σ (.exit 0, [.int .i64 0, .int .i64 (c.points.length : Int)], σ) (fun i => (.ret, [.int .i64 1, .int .i64 (i : Int)], σ))
  (some (.int .i64 (if ¬ ((c.points.getD 0 zPoint).time = 0 ∧ (c.points.getD 0 zPoint).way = 0) then 3
 else if ¬ ((c.points.getD (c.points.length - 1) zPoint).time = 1000 ∧ (c.points.getD (c.points.length - 1) zPoint).way = 1000) then 3
 else if (List.range' 1 (c.points.length - 1)).any (ordP c.points) = true then 7 else 0), σ)) (some (.int .i64 1, σ)) ?_ ?_ ?_ ?_).trans ?_
 ·intro i x hx
  obtain ⟨g1, g2, g3⟩ := iaddr_at 2 cPoint hx
  have g3 := g3 hmx
  simp only [MSb, reduceCtorEq, p1_cPoint_0, p1_cPoint_1, pA_cPoint, ce_cPoint, sp_cPoint, g1, g2, g3, Within_eq, badP]
  rcases Bool.eq_false_or_eq_true (withinB x.time 0 1000) with e | e
  ·rcases Bool.eq_false_or_eq_true (withinB x.way 0 1000) with e' | e' <;> simp only [MSb, reduceCtorEq, Within_eq, e, e', Bool.false_or, Bool.or_false]
  ·simp only [MSb, reduceCtorEq, e, Bool.true_or]
 ·exact hend_lss _ _ _
 ·have g0 := iaddr_sl 2 cPoint c.points (getD_at (l := c.points) (i := 0) (by omega))
  have gl := iaddr_pred 2 cPoint c.points (k := c.points.length) (by omega) (getD_at (by omega))
  have hw : IntKind.i64.wrap ((c.points.length : Int) - 1) = (c.points.length : Int) - 1 := wrap64 (by unfold inI; omega)
  simp only [Int.ofNat_zero, Int.natCast_zero] at g0
  simp only [MSb, reduceCtorEq, p1_cCurve_0, p1_cCurve_1, pA_cCurve, ce_cCurve, sp_cCurve, p1_cPoint_0, p1_cPoint_1, pA_cPoint, ce_cPoint, sp_cPoint, g0, ne_point]
  by_cases e1 : (c.points.getD 0 zPoint).time = 0 ∧ (c.points.getD 0 zPoint).way = 0
  case neg => simp only [MSb, reduceCtorEq, e1]
  simp only [MSb, reduceCtorEq, p1_cCurve_0, p1_cCurve_1, pA_cCurve, ce_cCurve, sp_cCurve, e1, hw, gl, p1_cPoint_0, p1_cPoint_1, pA_cPoint, ce_cPoint, sp_cPoint]
  by_cases e2 : (c.points.getD (c.points.length - 1) zPoint).time = 1000 ∧ (c.points.getD (c.points.length - 1) zPoint).way = 1000
  case neg =>
   simp only [spl20, spl21, MSb, reduceCtorEq, ne_point, e2]
  simp only [spl20, spl21, MSb, reduceCtorEq, ne_point, e2]
  refine (loop_anyN 1 (c.points.length - 1) (ordP c.points) (fun i => [.int .i64 0, .int .i64 (i : Int)]) σ (.exit 2, [.int .i64 0, .int .i64 (c.points.length : Int)], σ) (fun i => (.ret, [.int .i64 7, .int .i64 (i : Int)], σ)) (some (AV.int .i64 0, σ)) (some (AV.int .i64 7, σ)) ?_ ?_ ?_ ?_).trans ?_
  ·intro i hi1 hi2
   have k1 := iaddr_sl 2 cPoint c.points (getD_at (l := c.points) (i := i) (by omega))
   have k2 := iaddr_pred 2 cPoint c.points (k := i) (by omega) (getD_at (by omega))
   have k3 : IntKind.i64.wrap ((i : Int) - 1) = (i : Int) - 1 := wrap64 (by unfold inI; omega)
   have k4 : IntKind.i64.wrap ((i : Int) + 1) = ((i + 1 : Nat) : Int) := by rw [wrap64 (by unfold inI; omega)]; omega
   have k5 : (i : Int) < c.points.length := by omega
   simp only [MSb, reduceCtorEq, p1_cCurve_0, p1_cCurve_1, pA_cCurve, ce_cCurve, sp_cCurve, p1_cPoint_0, p1_cPoint_1, pA_cPoint, ce_cPoint, sp_cPoint, k1, k2, k3, k5, ordP]
   by_cases q1 : (c.points.getD i zPoint).time ≤ (c.points.getD (i - 1) zPoint).time
   ·simp only [MSb, reduceCtorEq, q1]
   ·by_cases q2 : (c.points.getD i zPoint).way < (c.points.getD (i - 1) zPoint).way <;> simp only [MSb, reduceCtorEq, p1_cCurve_0, p1_cCurve_1, pA_cCurve, ce_cCurve, sp_cCurve, p1_cPoint_0, p1_cPoint_1, pA_cPoint, ce_cPoint, sp_cPoint, k1, k2, k3, k4, q1, q2]
  ·rw [show 1 + (c.points.length - 1) = c.points.length by omega]
   simp only [MSb, reduceCtorEq, p1_cCurve_0, p1_cCurve_1, pA_cCurve, ce_cCurve, sp_cCurve, Int.lt_irrefl]
  ·simp only [MSb, reduceCtorEq]
  ·intro i; simp only [MSb, reduceCtorEq]
  ·cases (List.range' 1 (c.points.length - 1)).any (ordP c.points) <;> rfl
 ·intro i; simp only [MSb, reduceCtorEq]
 ·unfold ptsF
  cases c.points.any badP <;> rfl
end Go.Proofs.YtphgchakmkankaaGreat

namespace Go.Proofs.YtphgchakmkankaaGreat
set_option linter.unusedSectionVars false
set_option linter.unusedVariables false
set_option linter.unusedSimpArgs false
theorem First_eq (l : List Int) (hl : l.length ≤ mxl) (σ : Heap) : m_word_First [sl 1 cInt l] σ = some (.int .i64 ((l.find? fun n => decide (¬ n = 0)).getD 0), σ) := by
 refine wrap_eq rfl ?_ rfl
 show r_word_First (sl 1 cInt l) σ = _
 unfold r_word_First
 simp only [MSb, reduceCtorEq]
 refine (loop_find l (fun n => decide (¬ n = 0)) (fun i => [.int .i64 0, .int .i64 (i : Int)]) σ (.exit 0, [.int .i64 0, .int .i64 (l.length : Int)], σ) (fun i n => (.ret, [.int .i64 n, .int .i64 (i : Int)], σ)) (some (AV.int .i64 0, σ)) (fun n => some (AV.int .i64 n, σ)) ?_ ?_ ?_ ?_).trans ?_
 ·intro i x hx
  obtain ⟨g1, g2, g3⟩ := iaddr_at 1 cInt hx
  have g3 := g3 hl
  simp only [MSb, reduceCtorEq, g1, g2, g3]
  repeat' ((first | rw [gDp] | rw [gDb] | rw [cDp] | rw [cDnp] | rw [cDn] | rw [cDb]); split <;> try simp only [MSb, reduceCtorEq, *])
  all_goals first | with_reducible rfl | (simp [*]; done) | (simp_all; done) | (simp_all; omega) | rfl
 ·exact hend_lss _ _ _
 ·simp only [MSb, reduceCtorEq]
 ·intro i n; simp only [MSb, reduceCtorEq]
 ·cases l.find? (fun n => decide (¬ n = 0)) <;> rfl
end Go.Proofs.YtphgchakmkankaaGreat

namespace Go.Proofs.YtphgchakmkankaaGreat
set_option linter.unusedSectionVars false
set_option linter.unusedVariables false
set_option linter.unusedSimpArgs false
theorem idxI_any {α : Type} (p : α → Bool) (l : List α) : decide (0 ≤ idxI p l) = l.any p := by
 rcases idxI_cases p l with ⟨h1, h2, _⟩ | ⟨k, x, h1, h2, h3, _⟩
 ·rw [h1, Bool.eq_iff_iff]
  simp only [decide_eq_true_eq, List.any_eq_true]
  exact ⟨fun h => by omega, fun ⟨x, hx, hp⟩ => by rw [h2 x hx] at hp; cases hp⟩
 ·rw [h3, Bool.eq_iff_iff]
  simp only [decide_eq_true_eq, List.any_eq_true]
  exact ⟨fun _ => ⟨x, List.mem_of_getElem? h1, h2⟩, fun _ => by omega⟩
theorem m_slices_IndexFunc_api_Cue_eq (dyn : Nat → List AV → Heap → Option (AV × Heap)) (l : List CueD) (hl : l.length ≤ mxl) (n : Nat) (caps : List AV) (p : CueD → Bool) (σ : Heap) (hd : ∀ x ∈ l, dyn n ((.agg (cCue x) : AV) :: caps) σ = some (.bool (p x), σ)) : m_slices_IndexFunc_api_Cue dyn [sl 11 cCue l, .fn n caps] σ = some (.int .i64 (idxI p l), σ) := by
 refine wrap_eq rfl ?_ rfl
 show r_slices_IndexFunc_api_Cue dyn (sl 11 cCue l) (.fn n caps) σ = _
 unfold r_slices_IndexFunc_api_Cue
 simp only [MSb, reduceCtorEq]
 refine (loop_pre (S := Unit) (R := Int) l (fun pre x _ => if p x = true then .out (pre.length : Int) else .go ())
  (fun pre _ => [.int .i64 0, .int .i64 (pre.length : Int)]) (fun _ _ => σ) (fun _ => (.exit 0, [.int .i64 0, .int .i64 (l.length : Int)], σ)) (fun pre _ r => (.ret, [.int .i64 (pre.length : Int), .int .i64 (pre.length : Int)], σ))
  (fun _ _ => True) () (fun _ => some (AV.int .i64 (-1), σ)) (fun r => some (AV.int .i64 r, σ)) ?_ ?_ trivial (fun _ _ _ _ _ _ _ _ => trivial) ?_ ?_).trans ?_
 ·intro pre x rest u hl' _
  have hx := pre_get hl'
  have hlt := pre_lt hl'
  have hi1 : IntKind.i64.wrap ((pre.length : Int) + 1) = (pre.length : Int) + 1 := wrap64 (by unfold inI; unfold mxl at hl; omega)
  have hlt' : (pre.length : Int) < (l.length : Int) := by omega
  have hia := iaddr_sl 11 cCue l hx
  have hdx := hd x (by rw [hl']; simp)
  simp only [MSb, reduceCtorEq, p1_cCue_0, p1_cCue_1, p1_cCue_2, p1_cCue_3, p1_cCue_4, p1_cCue_5, p1_cCue_6, p1_cCue_7, p1_cCue_8, p1_cCue_9, p1_cCue_10, pA_cCue_curve, pA_cCue, ce_cCue, sp_cCue, hlt', hia, A.callv, List.cons_append, List.nil_append, hdx, hi1]
  cases p x <;> simp [MSb, reduceCtorEq]
 ·intro u _; simp only [MSb, reduceCtorEq, Int.lt_irrefl]
 ·intro u _; simp only [MSb, reduceCtorEq]
 ·intro pre x rest s q hl' _ hb
  have : q = (pre.length : Int) := by
   cases hpx : p x
   ·rw [hpx] at hb; cases hb
   ·rw [hpx] at hb; simp at hb; exact hb.symm
  simp only [MSb, reduceCtorEq, this]
 ·rw [idxI_run p _ _ l [] (by simp)]
  simp only [List.nil_append]
  split
  ·rename_i h; rw [h]
  ·rfl
theorem m_slices_ContainsFunc_api_Cue_eq (dyn : Nat → List AV → Heap → Option (AV × Heap)) (l : List CueD) (hl : l.length ≤ mxl) (n : Nat) (caps : List AV) (p : CueD → Bool) (σ : Heap) (hd : ∀ x ∈ l, dyn n ((.agg (cCue x) : AV) :: caps) σ = some (.bool (p x), σ)) : m_slices_ContainsFunc_api_Cue dyn [sl 11 cCue l, .fn n caps] σ = some (.bool (l.any p), σ) := by
 refine wrap_eq rfl ?_ rfl
 show r_slices_ContainsFunc_api_Cue dyn (sl 11 cCue l) (.fn n caps) σ = _
 unfold r_slices_ContainsFunc_api_Cue
 simp only [MSb, reduceCtorEq, m_slices_IndexFunc_api_Cue_eq dyn l hl n caps p σ hd]
 refine congrArg some (congrArg (fun b => (AV.bool b, σ)) ?_)
 exact idxI_any p l
end Go.Proofs.YtphgchakmkankaaGreat

namespace Go.Proofs.YtphgchakmkankaaGreat
set_option linter.unusedSectionVars false
set_option linter.unusedVariables false
set_option linter.unusedSimpArgs false
theorem IsLevel1_eq (n : Int) (σ : Heap) : m_R1_IsLevel [.int .i64 n] σ = some (.bool (withinB n 0 65535), σ) := by
 refine wrap_eq rfl ?_ rfl
 show r_R1_IsLevel (.int .i64 n) σ = _
 unfold r_R1_IsLevel
 simp only [MSb, reduceCtorEq, Within1_eq]
end Go.Proofs.YtphgchakmkankaaGreat

namespace Go.Proofs.YtphgchakmkankaaGreat
set_option linter.unusedSectionVars false
set_option linter.unusedVariables false
set_option linter.unusedSimpArgs false
def blankB (s : ByteArray) : Bool := if s = ⟨#[]⟩ then true else titleB s
end Go.Proofs.YtphgchakmkankaaGreat

namespace Go.Proofs.YtphgchakmkankaaGreat
set_option linter.unusedSectionVars false
set_option linter.unusedVariables false
set_option linter.unusedSimpArgs false
set_option maxRecDepth 100000
noncomputable def t_cue_isTime (a0 : Int) : Option Bool :=
 some (withinB a0 0 36000000)
theorem h_cue_isTime {a0 : Int} {σ : Heap} {r : Bool} (h : t_cue_isTime a0 = some r) : m_cue_isTime [(AV.int .i64 a0)] σ = some ((AV.bool r), σ) := by
 refine rf_wrap1 (f := r_cue_isTime) (y0 := (AV.int .i64 a0)) (enc := fun r : Bool => (AV.bool r)) (T := t_cue_isTime a0) rfl rfl ?_ r h
 unfold r_cue_isTime t_cue_isTime
 refine rf_s ((AV.bool (withinB a0 0 36000000)), σ) (Within_eq a0 0 36000000 σ) ?_
 exact rf_fin _ (fin_same _ _) ⟨rfl, rfl⟩

noncomputable def t_cue_compare (a0 : KeyD) (a1 : KeyD) : Option Int :=
 if ¬ (a0.unit = a1.unit) then
  if a0.unit < a1.unit then
   some (-1)
  else
  some 1
 else
 some (Lib.compareBytes a0.param.data.toList a1.param.data.toList)
theorem h_cue_compare {a0 : KeyD} { a1 : KeyD} {σ : Heap} {r : Int} (h : t_cue_compare a0 a1 = some r) : m_cue_compare [(AV.agg (cKey a0)), (AV.agg (cKey a1))] σ = some ((AV.int .i64 r), σ) := by
 refine rf_wrap2 (f := r_cue_compare) (y0 := (AV.agg (cKey a0))) (y1 := (AV.agg (cKey a1))) (enc := fun r : Int => (AV.int .i64 r)) (T := t_cue_compare a0 a1) rfl rfl ?_ r h
 unfold r_cue_compare t_cue_compare
 refine rf_s (cKey a0) rfl ?_
 refine rf_s (cKey a1) rfl ?_
 refine rf_s (AV.int .i64 a0.unit) rfl ?_
 refine rf_s (AV.int .i64 a1.unit) rfl ?_
 refine rf_s (AV.bool (decide (¬ (a0.unit = a1.unit)))) (aNe _ _ _) ?_
 refine rf_c (p := ¬ (a0.unit = a1.unit)) (fun c2 => ?_) (fun c2 => ?_)
 ·refine rf_s (AV.int .i64 a0.unit) rfl ?_
  refine rf_s (AV.int .i64 a1.unit) rfl ?_
  refine rf_s (AV.bool (decide (a0.unit < a1.unit))) rfl ?_
  refine rf_c (p := a0.unit < a1.unit) (fun c1 => ?_) (fun c1 => ?_)
  ·exact rf_fin _ (fin_same _ _) ⟨rfl, rfl⟩
  exact rf_fin _ (fin_same _ _) ⟨rfl, rfl⟩
 refine rf_s (AV.str a0.param) rfl ?_
 refine rf_s (AV.str a1.param) rfl ?_
 refine rf_s ((AV.int .i64 (Lib.compareBytes a0.param.data.toList a1.param.data.toList)), σ) (rfl) ?_
 exact rf_fin _ (fin_same _ _) ⟨rfl, rfl⟩

noncomputable def t_cue_checkMoves (a0 : (List MoveD)) : Option Int :=
 forE a0 (fun (i8 : Nat) e7 (s1 : Unit) => (show Option (Lr Unit Unit Int) from
   if (!(withinB e7.key.unit 1 9999)) = true then
    some (.ret 1)
   else
   (tq (okS e7.key.param) (nameB e7.key.param)).bind fun r9 =>
   if (!r9) = true then
    some (.ret 5)
   else
   if ((e7.release && (decide (¬ (e7.value = (⟨0, 0⟩ : ValueD))))) || ((decide (¬ (e7.value.level = 0))) && (decide (¬ (e7.value.preset = 0))))) = true then
    some (.ret 3)
   else
   if ((!(withinB e7.value.level 0 65535)) || (!(withinB e7.value.preset 0 999))) = true then
    some (.ret 1)
   else
   if ((!e7.timed) && ((decide (¬ (e7.delay = 0))) || (decide (¬ (e7.time = 0))))) = true then
    some (.ret 3)
   else
   if ((!((withinB e7.delay 0 36000000))) || (!((withinB e7.time 0 36000000)))) = true then
    some (.ret 1)
   else
   (if decide (0 < (i8 : Int)) = true then tIx a0 (IntKind.i64.wrap ((i8 : Int) - 1)) else some default).bind fun x10 =>
   (if decide (0 < (i8 : Int)) = true then t_cue_compare x10.key e7.key else some default).bind fun r11 =>
   if ((decide (0 < (i8 : Int))) && (decide (0 ≤ r11))) = true then
    some (.ret 7)
   else
   some (.go ()))) (fun s1 => some ()) () (fun b2 =>
  some 0) (fun b2 =>
  some b2)
theorem h_cue_checkMoves {a0 : (List MoveD)} {σ : Heap} {r : Int} (h : t_cue_checkMoves a0 = some r) : m_cue_checkMoves [(sl 8 cMove a0)] σ = some ((AV.int .i64 r), σ) := by
 refine rf_wrap1 (f := r_cue_checkMoves) (y0 := (sl 8 cMove a0)) (enc := fun r : Int => (AV.int .i64 r)) (T := t_cue_checkMoves a0) rfl rfl ?_ r h
 unfold r_cue_checkMoves t_cue_checkMoves
 refine rf_s (AV.int .i64 (a0.length : Int)) (lenS_sl _ _ _) ?_
 refine rf_for (B := Unit) (R := Int) (fun (i8 : Nat) (s1 : Unit) v w3 => v = [(AV.int .i64 0), (AV.int .i64 (i8 : Int))] ∧ σ = w3) (fun (b2 : Unit) (q : LS) => ∃ u2 u7, q = ((AX.exit 0), ([u2, u7] : List AV), σ)) (fun (b2 : Int) (q : LS) => ∃ u7, q = (AX.ret, ([(AV.int .i64 b2), u7] : List AV), σ)) ?_ ?_ ⟨rfl, rfl⟩ ?_ ?_
 ·intro hle7 i8 e7 s1 v w3 he7 hI
  obtain ⟨rfl, rfl⟩ := hI
  refine rf_s (AV.bool true) (ix_lt he7) ?_
  refine rf_ct ?_
  refine rf_s (AV.rp (cMove e7)) (ix_for he7) ?_
  refine rf_s (AV.agg (cMove e7)) rfl ?_
  refine rf_s (cMove e7) rfl ?_
  refine rf_s (cMove e7) (sp_cMove _ _ rfl) ?_
  refine rf_s (AV.int .i64 e7.key.unit) rfl ?_
  refine rf_s ((AV.bool (withinB e7.key.unit 1 9999)), σ) (Within_eq e7.key.unit 1 9999 σ) ?_
  refine rf_s (AV.bool (!(withinB e7.key.unit 1 9999))) rfl ?_
  refine rf_cb (c := (!(withinB e7.key.unit 1 9999))) (fun c18 => ?_) (fun c18 => ?_)
  ·exact rf_ret (rnd_ret (by simp) ⟨_, rfl⟩)
  refine rf_s (AV.str e7.key.param) rfl ?_
  refine rf_o (fun r9 : Bool => ((AV.bool r9), σ)) (fun r9 hr9 => (tq_of (e := fun r : Bool => ((AV.bool r), σ)) (fun hs => Name_eq e7.key.param hs σ)) hr9) (fun r9 hr9 => ?_)
  refine rf_s (AV.bool (!r9)) rfl ?_
  refine rf_cb (c := (!r9)) (fun c17 => ?_) (fun c17 => ?_)
  ·exact rf_ret (rnd_ret (by simp) ⟨_, rfl⟩)
  refine rf_s (AV.bool e7.release) rfl ?_
  refine rf_gt (AV.agg (cValue e7.value)) (fun hg => rfl) ?_
  refine rf_gt (AV.agg (cValue (⟨0, 0⟩ : ValueD))) (fun hg => rfl) ?_
  refine rf_gt (AV.bool (decide (¬ (e7.value = (⟨0, 0⟩ : ValueD))))) (fun hg => by
    simp only [hg, Bool.true_and, cond_true]; first | done | exact (ne_Value _ _)) ?_
  refine rf_s (AV.bool (e7.release && (decide (¬ (e7.value = (⟨0, 0⟩ : ValueD)))))) (pk_and _ _) ?_
  refine rf_gf (AV.int .i64 e7.value.level) (fun hg => rfl) ?_
  refine rf_gf (AV.bool (decide (¬ (e7.value.level = 0)))) (fun hg => by
    simp only [hg, Bool.true_and, cond_true]; first | done | exact (aNe _ _ _)) ?_
  refine rf_gf (AV.bool (decide (¬ (e7.value.level = 0)))) (fun hg => by
    simp only [hg, Bool.true_and, cond_true]; first | done | exact rfl) ?_
  refine rf_ggt (AV.int .i64 e7.value.preset) (fun hg => rfl) ?_
  refine rf_ggt (AV.bool (decide (¬ (e7.value.preset = 0)))) (fun hg => by
    simp only [hg, Bool.true_and, cond_true]; first | done | exact (aNe _ _ _)) ?_
  refine rf_gf (AV.bool ((decide (¬ (e7.value.level = 0))) && (decide (¬ (e7.value.preset = 0))))) (fun hg => by
    simp only [hg, Bool.true_and, cond_true]; first | done | exact (pk_and _ _)) ?_
  refine rf_s (AV.bool ((e7.release && (decide (¬ (e7.value = (⟨0, 0⟩ : ValueD))))) || ((decide (¬ (e7.value.level = 0))) && (decide (¬ (e7.value.preset = 0)))))) (pk_or _ _) ?_
  refine rf_cb (c := ((e7.release && (decide (¬ (e7.value = (⟨0, 0⟩ : ValueD))))) || ((decide (¬ (e7.value.level = 0))) && (decide (¬ (e7.value.preset = 0)))))) (fun c16 => ?_) (fun c16 => ?_)
  ·exact rf_ret (rnd_ret (by simp) ⟨_, rfl⟩)
  refine rf_s (AV.int .i64 e7.value.level) rfl ?_
  refine rf_s ((AV.bool (withinB e7.value.level 0 65535)), σ) (Within_eq e7.value.level 0 65535 σ) ?_
  refine rf_s (AV.bool (!(withinB e7.value.level 0 65535))) rfl ?_
  refine rf_gf (AV.int .i64 e7.value.preset) (fun hg => rfl) ?_
  refine rf_gf (AV.bool (withinB e7.value.preset 0 999)) (fun hg => by
    simp only [hg, Bool.true_and, cond_true]; first | done | exact (quiet_of (Within_eq e7.value.preset 0 999 σ))) ?_
  refine rf_gf (AV.bool (!(withinB e7.value.preset 0 999))) (fun hg => by
    simp only [hg, Bool.true_and, cond_true]; first | done | exact rfl) ?_
  refine rf_s (AV.bool ((!(withinB e7.value.level 0 65535)) || (!(withinB e7.value.preset 0 999)))) (pk_or _ _) ?_
  refine rf_cb (c := ((!(withinB e7.value.level 0 65535)) || (!(withinB e7.value.preset 0 999)))) (fun c15 => ?_) (fun c15 => ?_)
  ·exact rf_ret (rnd_ret (by simp) ⟨_, rfl⟩)
  refine rf_s (AV.bool e7.timed) rfl ?_
  refine rf_s (AV.bool (!e7.timed)) rfl ?_
  refine rf_gt (AV.int .i64 e7.delay) (fun hg => rfl) ?_
  refine rf_gt (AV.bool (decide (¬ (e7.delay = 0)))) (fun hg => by
    simp only [hg, Bool.true_and, cond_true]; first | done | exact (aNe _ _ _)) ?_
  refine rf_gt (AV.bool (decide (¬ (e7.delay = 0)))) (fun hg => by
    simp only [hg, Bool.true_and, cond_true]; first | done | exact rfl) ?_
  refine rf_ggf (AV.int .i64 e7.time) (fun hg => rfl) ?_
  refine rf_ggf (AV.bool (decide (¬ (e7.time = 0)))) (fun hg => by
    simp only [hg, Bool.true_and, cond_true]; first | done | exact (aNe _ _ _)) ?_
  refine rf_gt (AV.bool ((decide (¬ (e7.delay = 0))) || (decide (¬ (e7.time = 0))))) (fun hg => by
    simp only [hg, Bool.true_and, cond_true]; first | done | exact (pk_or _ _)) ?_
  refine rf_s (AV.bool ((!e7.timed) && ((decide (¬ (e7.delay = 0))) || (decide (¬ (e7.time = 0)))))) (pk_and _ _) ?_
  refine rf_cb (c := ((!e7.timed) && ((decide (¬ (e7.delay = 0))) || (decide (¬ (e7.time = 0)))))) (fun c14 => ?_) (fun c14 => ?_)
  ·exact rf_ret (rnd_ret (by simp) ⟨_, rfl⟩)
  refine rf_s (AV.int .i64 e7.delay) rfl ?_
  refine rf_s ((AV.bool ((withinB e7.delay 0 36000000))), σ) (h_cue_isTime (σ := σ) (r := (withinB e7.delay 0 36000000)) rfl) ?_
  refine rf_s (AV.bool (!((withinB e7.delay 0 36000000)))) rfl ?_
  refine rf_gf (AV.int .i64 e7.time) (fun hg => rfl) ?_
  refine rf_gf (AV.bool ((withinB e7.time 0 36000000))) (fun hg => by
    simp only [hg, Bool.true_and, cond_true]; first | done | exact (quiet_of (h_cue_isTime (σ := σ) (r := (withinB e7.time 0 36000000)) rfl))) ?_
  refine rf_gf (AV.bool (!((withinB e7.time 0 36000000)))) (fun hg => by
    simp only [hg, Bool.true_and, cond_true]; first | done | exact rfl) ?_
  refine rf_s (AV.bool ((!((withinB e7.delay 0 36000000))) || (!((withinB e7.time 0 36000000))))) (pk_or _ _) ?_
  refine rf_cb (c := ((!((withinB e7.delay 0 36000000))) || (!((withinB e7.time 0 36000000))))) (fun c13 => ?_) (fun c13 => ?_)
  ·exact rf_ret (rnd_ret (by simp) ⟨_, rfl⟩)
  refine rf_s (AV.bool (decide (0 < (i8 : Int)))) rfl ?_
  refine rf_gt (sl 8 cMove a0) (fun hg => rfl) ?_
  refine rf_gt (AV.int .i64 (i8 : Int)) (fun hg => rfl) ?_
  refine rf_gt (AV.int .i64 (IntKind.i64.wrap ((i8 : Int) - 1))) (fun hg => by
    simp only [hg, Bool.true_and, cond_true]; first | done | exact rfl) ?_
  refine rf_gto (ω := MoveD) (fun x10 => (AV.rp (cMove x10))) (fun hg x10 hx10 => by
    simp only [hg, Bool.true_and, cond_true]; first | done | exact ix_at hx10) (fun x10 hx10 => ?_)
  refine rf_gt (AV.rp (cMove x10)) (fun hg => by
    simp only [hg, Bool.true_and, cond_true]; first | done | exact rfl) ?_
  refine rf_gt (AV.agg (cKey x10.key)) (fun hg => by
    simp only [hg, Bool.true_and, cond_true]; first | done | exact rfl) ?_
  refine rf_gt (AV.agg (cKey e7.key)) (fun hg => rfl) ?_
  refine rf_gto (ω := Int) (fun r11 => (AV.int .i64 r11)) (fun hg r11 hr11 => by
    simp only [hg, Bool.true_and, cond_true]; first | done | exact (quiet_of (h_cue_compare hr11))) (fun r11 hr11 => ?_)
  refine rf_gt (AV.bool (decide (0 ≤ r11))) (fun hg => by
    simp only [hg, Bool.true_and, cond_true]; first | done | exact rfl) ?_
  refine rf_s (AV.bool ((decide (0 < (i8 : Int))) && (decide (0 ≤ r11)))) (pk_and _ _) ?_
  refine rf_cb (c := ((decide (0 < (i8 : Int))) && (decide (0 ≤ r11)))) (fun c12 => ?_) (fun c12 => ?_)
  ·exact rf_ret (rnd_ret (by simp) ⟨_, rfl⟩)
  refine rf_s (AV.int .i64 ((i8 + 1 : Nat) : Int)) (ix_inc he7 hle7) ?_
  exact rf_ret (rnd_go ⟨rfl, rfl⟩)
 ·intro hl s1 v w3 hI
  obtain ⟨rfl, rfl⟩ := hI
  refine rf_s (AV.bool false) (ix_end _) ?_
  refine rf_cf ?_
  exact rf_ret ⟨by simp, ⟨_, _, rfl⟩⟩
 ·intro hl b2 q hq
  obtain ⟨u2, u7, rfl⟩ := hq
  refine rf_bt rfl ?_
  exact rf_fin _ (fin_same _ _) ⟨rfl, rfl⟩
 ·intro hl b2 q hq
  obtain ⟨u7, rfl⟩ := hq
  refine rf_bf rfl ?_
  refine rf_bt rfl ?_
  exact rf_fin _ (fin_same _ _) ⟨rfl, rfl⟩

noncomputable def t_cue_form (a0 : (List CueD)) : Option Int :=
 if 300 < (a0.length : Int) then
  some 2
 else
 forE a0 (fun (i8 : Nat) e7 (s1 : Int) => (show Option (Lr Int Int Int) from
   if (!(withinB e7.number 1 9999999)) = true then
    some (.ret 1)
   else
   (if decide (0 < (i8 : Int)) = true then tIx a0 (IntKind.i64.wrap ((i8 : Int) - 1)) else some default).bind fun x9 =>
   if ((decide (0 < (i8 : Int))) && (decide (e7.number ≤ x9.number))) = true then
    some (.ret 7)
   else
   (if decide (¬ (e7.title = (⟨#[]⟩ : ByteArray))) = true then tq (okS e7.title) (titleB e7.title) else some default).bind fun r10 =>
   if ((decide (¬ (e7.title = (⟨#[]⟩ : ByteArray)))) && (!r10)) = true then
    some (.ret 3)
   else
   if (((((!((withinB e7.delay 0 36000000))) || (!((withinB e7.up 0 36000000)))) || (!((withinB e7.down 0 36000000)))) || (!((withinB e7.other 0 36000000)))) || (!(withinB e7.follow (-1) 36000000))) = true then
    some (.ret 1)
   else
   if ¬ ((curveF e7.curve) = 0) then
    some (.ret (curveF e7.curve))
   else
   if 2000 < (e7.moves.length : Int) then
    some (.ret 2)
   else
   (t_cue_checkMoves e7.moves).bind fun r11 =>
   if ¬ (r11 = 0) then
    some (.ret r11)
   else
   some (.go (IntKind.i64.wrap (s1 + (e7.moves.length : Int)))))) (fun s1 => some s1) 0 (fun b2 =>
  some (if (decide (10000 < b2)) = true then 2 else 0)) (fun b2 =>
  some b2)
theorem h_cue_form {a0 : (List CueD)} {σ : Heap} {r : Int} (h : t_cue_form a0 = some r) : m_cue_form [(sl 11 cCue a0)] σ = some ((AV.int .i64 r), σ) := by
 refine rf_wrap1 (f := r_cue_form) (y0 := (sl 11 cCue a0)) (enc := fun r : Int => (AV.int .i64 r)) (T := t_cue_form a0) (nn_t1 (nn_e (fun _ => rfl) _) rfl) rfl ?_ r h
 unfold r_cue_form t_cue_form
 refine rf_s (AV.int .i64 (a0.length : Int)) (lenS_sl _ _ _) ?_
 refine rf_s (AV.bool (decide (300 < (a0.length : Int)))) rfl ?_
 refine rf_c (p := 300 < (a0.length : Int)) (fun c19 => ?_) (fun c19 => ?_)
 ·exact rf_fin _ (fin_same _ _) ⟨rfl, rfl⟩
 refine rf_s (AV.int .i64 (a0.length : Int)) (lenS_sl _ _ _) ?_
 refine rf_for (B := Int) (R := Int) (fun (i8 : Nat) (s1 : Int) v w3 => v = [(AV.int .i64 0), (AV.int .i64 s1), (AV.int .i64 (i8 : Int))] ∧ σ = w3) (fun (b2 : Int) (q : LS) => ∃ u2 u13, q = ((AX.exit 0), ([u2, (AV.int .i64 b2), u13] : List AV), σ)) (fun (b2 : Int) (q : LS) => ∃ u3 u13, q = (AX.ret, ([(AV.int .i64 b2), u3, u13] : List AV), σ)) ?_ ?_ ⟨rfl, rfl⟩ ?_ ?_
 ·intro hle7 i8 e7 s1 v w3 he7 hI
  obtain ⟨rfl, rfl⟩ := hI
  refine rf_s (AV.bool true) (ix_lt he7) ?_
  refine rf_ct ?_
  refine rf_s (AV.rp (cCue e7)) (ix_for he7) ?_
  refine rf_s (AV.agg (cCue e7)) rfl ?_
  refine rf_s (cCue e7) rfl ?_
  refine rf_s (cCue e7) (sp_cCue _ _ rfl) ?_
  refine rf_s (AV.int .i64 e7.number) rfl ?_
  refine rf_s ((AV.bool (withinB e7.number 1 9999999)), σ) (Within_eq e7.number 1 9999999 σ) ?_
  refine rf_s (AV.bool (!(withinB e7.number 1 9999999))) rfl ?_
  refine rf_cb (c := (!(withinB e7.number 1 9999999))) (fun c18 => ?_) (fun c18 => ?_)
  ·exact rf_ret (rnd_ret (by simp) ⟨_, _, rfl⟩)
  refine rf_s (AV.bool (decide (0 < (i8 : Int)))) rfl ?_
  refine rf_gt (AV.int .i64 e7.number) (fun hg => rfl) ?_
  refine rf_gt (sl 11 cCue a0) (fun hg => rfl) ?_
  refine rf_gt (AV.int .i64 (i8 : Int)) (fun hg => rfl) ?_
  refine rf_gt (AV.int .i64 (IntKind.i64.wrap ((i8 : Int) - 1))) (fun hg => by
    simp only [hg, Bool.true_and, cond_true]; first | done | exact rfl) ?_
  refine rf_gto (ω := CueD) (fun x9 => (AV.rp (cCue x9))) (fun hg x9 hx9 => by
    simp only [hg, Bool.true_and, cond_true]; first | done | exact ix_at hx9) (fun x9 hx9 => ?_)
  refine rf_gt (AV.rp (cCue x9)) (fun hg => by
    simp only [hg, Bool.true_and, cond_true]; first | done | exact rfl) ?_
  refine rf_gt (AV.int .i64 x9.number) (fun hg => by
    simp only [hg, Bool.true_and, cond_true]; first | done | exact rfl) ?_
  refine rf_gt (AV.bool (decide (e7.number ≤ x9.number))) (fun hg => by
    simp only [hg, Bool.true_and, cond_true]; first | done | exact rfl) ?_
  refine rf_s (AV.bool ((decide (0 < (i8 : Int))) && (decide (e7.number ≤ x9.number)))) (pk_and _ _) ?_
  refine rf_cb (c := ((decide (0 < (i8 : Int))) && (decide (e7.number ≤ x9.number)))) (fun c17 => ?_) (fun c17 => ?_)
  ·exact rf_ret (rnd_ret (by simp) ⟨_, _, rfl⟩)
  refine rf_s (AV.str e7.title) rfl ?_
  refine rf_s (AV.bool (decide (¬ (e7.title = (⟨#[]⟩ : ByteArray))))) (aNeZ _ _) ?_
  refine rf_gt (AV.str e7.title) (fun hg => rfl) ?_
  refine rf_gto (ω := Bool) (fun r10 => (AV.bool r10)) (fun hg r10 hr10 => by
    simp only [hg, Bool.true_and, cond_true]; first | done | exact (quiet_of ((tq_of (e := fun r : Bool => ((AV.bool r), σ)) (fun hs => Title_eq e7.title hs σ)) hr10))) (fun r10 hr10 => ?_)
  refine rf_gt (AV.bool (!r10)) (fun hg => by
    simp only [hg, Bool.true_and, cond_true]; first | done | exact rfl) ?_
  refine rf_s (AV.bool ((decide (¬ (e7.title = (⟨#[]⟩ : ByteArray)))) && (!r10))) (pk_and _ _) ?_
  refine rf_cb (c := ((decide (¬ (e7.title = (⟨#[]⟩ : ByteArray)))) && (!r10))) (fun c16 => ?_) (fun c16 => ?_)
  ·exact rf_ret (rnd_ret (by simp) ⟨_, _, rfl⟩)
  refine rf_s (AV.int .i64 e7.delay) rfl ?_
  refine rf_s ((AV.bool ((withinB e7.delay 0 36000000))), σ) (h_cue_isTime (σ := σ) (r := (withinB e7.delay 0 36000000)) rfl) ?_
  refine rf_s (AV.bool (!((withinB e7.delay 0 36000000)))) rfl ?_
  refine rf_gf (AV.int .i64 e7.up) (fun hg => rfl) ?_
  refine rf_gf (AV.bool ((withinB e7.up 0 36000000))) (fun hg => by
    simp only [hg, Bool.true_and, cond_true]; first | done | exact (quiet_of (h_cue_isTime (σ := σ) (r := (withinB e7.up 0 36000000)) rfl))) ?_
  refine rf_gf (AV.bool (!((withinB e7.up 0 36000000)))) (fun hg => by
    simp only [hg, Bool.true_and, cond_true]; first | done | exact rfl) ?_
  refine rf_s (AV.bool ((!((withinB e7.delay 0 36000000))) || (!((withinB e7.up 0 36000000))))) (pk_or _ _) ?_
  refine rf_gf (AV.int .i64 e7.down) (fun hg => rfl) ?_
  refine rf_gf (AV.bool ((withinB e7.down 0 36000000))) (fun hg => by
    simp only [hg, Bool.true_and, cond_true]; first | done | exact (quiet_of (h_cue_isTime (σ := σ) (r := (withinB e7.down 0 36000000)) rfl))) ?_
  refine rf_gf (AV.bool (!((withinB e7.down 0 36000000)))) (fun hg => by
    simp only [hg, Bool.true_and, cond_true]; first | done | exact rfl) ?_
  refine rf_s (AV.bool (((!((withinB e7.delay 0 36000000))) || (!((withinB e7.up 0 36000000)))) || (!((withinB e7.down 0 36000000))))) (pk_or _ _) ?_
  refine rf_gf (AV.int .i64 e7.other) (fun hg => rfl) ?_
  refine rf_gf (AV.bool ((withinB e7.other 0 36000000))) (fun hg => by
    simp only [hg, Bool.true_and, cond_true]; first | done | exact (quiet_of (h_cue_isTime (σ := σ) (r := (withinB e7.other 0 36000000)) rfl))) ?_
  refine rf_gf (AV.bool (!((withinB e7.other 0 36000000)))) (fun hg => by
    simp only [hg, Bool.true_and, cond_true]; first | done | exact rfl) ?_
  refine rf_s (AV.bool ((((!((withinB e7.delay 0 36000000))) || (!((withinB e7.up 0 36000000)))) || (!((withinB e7.down 0 36000000)))) || (!((withinB e7.other 0 36000000))))) (pk_or _ _) ?_
  refine rf_gf (AV.int .i64 e7.follow) (fun hg => rfl) ?_
  refine rf_gf (AV.bool (withinB e7.follow (-1) 36000000)) (fun hg => by
    simp only [hg, Bool.true_and, cond_true]; first | done | exact (quiet_of (Within_eq e7.follow (-1) 36000000 σ))) ?_
  refine rf_gf (AV.bool (!(withinB e7.follow (-1) 36000000))) (fun hg => by
    simp only [hg, Bool.true_and, cond_true]; first | done | exact rfl) ?_
  refine rf_s (AV.bool (((((!((withinB e7.delay 0 36000000))) || (!((withinB e7.up 0 36000000)))) || (!((withinB e7.down 0 36000000)))) || (!((withinB e7.other 0 36000000)))) || (!(withinB e7.follow (-1) 36000000)))) (pk_or _ _) ?_
  refine rf_cb (c := (((((!((withinB e7.delay 0 36000000))) || (!((withinB e7.up 0 36000000)))) || (!((withinB e7.down 0 36000000)))) || (!((withinB e7.other 0 36000000)))) || (!(withinB e7.follow (-1) 36000000)))) (fun c15 => ?_) (fun c15 => ?_)
  ·exact rf_ret (rnd_ret (by simp) ⟨_, _, rfl⟩)
  refine rf_s (AV.agg (cCurve e7.curve)) rfl ?_
  refine rf_s ((AV.int .i64 (curveF e7.curve)), σ) (CheckCurve_eq e7.curve σ) ?_
  refine rf_s (AV.bool (decide (¬ ((curveF e7.curve) = 0)))) (aNe _ _ _) ?_
  refine rf_c (p := ¬ ((curveF e7.curve) = 0)) (fun c14 => ?_) (fun c14 => ?_)
  ·exact rf_ret (rnd_ret (by simp) ⟨_, _, rfl⟩)
  refine rf_s (sl 8 cMove e7.moves) rfl ?_
  refine rf_s (AV.int .i64 (e7.moves.length : Int)) (lenS_sl _ _ _) ?_
  refine rf_s (AV.bool (decide (2000 < (e7.moves.length : Int)))) rfl ?_
  refine rf_c (p := 2000 < (e7.moves.length : Int)) (fun c13 => ?_) (fun c13 => ?_)
  ·exact rf_ret (rnd_ret (by simp) ⟨_, _, rfl⟩)
  refine rf_s (sl 8 cMove e7.moves) rfl ?_
  refine rf_o (fun r11 : Int => ((AV.int .i64 r11), σ)) (fun r11 hr11 => h_cue_checkMoves hr11) (fun r11 hr11 => ?_)
  refine rf_s (AV.bool (decide (¬ (r11 = 0)))) (aNe _ _ _) ?_
  refine rf_c (p := ¬ (r11 = 0)) (fun c12 => ?_) (fun c12 => ?_)
  ·exact rf_ret (rnd_ret (by simp) ⟨_, _, rfl⟩)
  refine rf_s (sl 8 cMove e7.moves) rfl ?_
  refine rf_s (AV.int .i64 (e7.moves.length : Int)) (lenS_sl _ _ _) ?_
  refine rf_s (AV.int .i64 (IntKind.i64.wrap (s1 + (e7.moves.length : Int)))) rfl ?_
  refine rf_s (AV.int .i64 ((i8 + 1 : Nat) : Int)) (ix_inc he7 hle7) ?_
  exact rf_ret (rnd_go ⟨rfl, rfl⟩)
 ·intro hl s1 v w3 hI
  obtain ⟨rfl, rfl⟩ := hI
  refine rf_s (AV.bool false) (ix_end _) ?_
  refine rf_cf ?_
  exact rf_ret ⟨by simp, ⟨_, _, rfl⟩⟩
 ·intro hl b2 q hq
  obtain ⟨u2, u13, rfl⟩ := hq
  refine rf_bt rfl ?_
  refine rf_s (AV.bool (decide (10000 < b2))) rfl ?_
  refine rf_s ((AV.int .i64 (if (decide (10000 < b2)) = true then 2 else 0)), σ) (When_eq (decide (10000 < b2)) 2 σ) ?_
  exact rf_fin _ (fin_same _ _) ⟨rfl, rfl⟩
 ·intro hl b2 q hq
  obtain ⟨u3, u13, rfl⟩ := hq
  refine rf_bf rfl ?_
  refine rf_bt rfl ?_
  exact rf_fin _ (fin_same _ _) ⟨rfl, rfl⟩

noncomputable def t_R4_Before (a0 : KeyD) (a1 : KeyD) : Option Bool :=
 some ((decide (a0.unit < a1.unit)) || ((decide (a0.unit = a1.unit)) && (Op.bytesLess a0.param.toList a1.param.toList)))
theorem h_R4_Before {a0 : KeyD} { a1 : KeyD} {σ : Heap} {r : Bool} (h : t_R4_Before a0 a1 = some r) : m_R4_Before [(AV.agg (cKey a0)), (AV.agg (cKey a1))] σ = some ((AV.bool r), σ) := by
 refine rf_wrap2 (f := r_R4_Before) (y0 := (AV.agg (cKey a0))) (y1 := (AV.agg (cKey a1))) (enc := fun r : Bool => (AV.bool r)) (T := t_R4_Before a0 a1) rfl rfl ?_ r h
 unfold r_R4_Before t_R4_Before
 refine rf_s (cKey a0) rfl ?_
 refine rf_s (cKey a1) rfl ?_
 refine rf_s (AV.int .i64 a0.unit) rfl ?_
 refine rf_s (AV.int .i64 a1.unit) rfl ?_
 refine rf_s (AV.bool (decide (a0.unit < a1.unit))) rfl ?_
 refine rf_gf (AV.int .i64 a0.unit) (fun hg => rfl) ?_
 refine rf_gf (AV.int .i64 a1.unit) (fun hg => rfl) ?_
 refine rf_gf (AV.bool (decide (a0.unit = a1.unit))) (fun hg => by
   simp only [hg, Bool.true_and, cond_true]; first | done | exact (aEq _ _ _)) ?_
 refine rf_gf (AV.bool (decide (a0.unit = a1.unit))) (fun hg => by
   simp only [hg, Bool.true_and, cond_true]; first | done | exact rfl) ?_
 refine rf_ggt (AV.str a0.param) (fun hg => rfl) ?_
 refine rf_ggt (AV.str a1.param) (fun hg => rfl) ?_
 refine rf_ggt (AV.bool (Op.bytesLess a0.param.toList a1.param.toList)) (fun hg => by
   simp only [hg, Bool.true_and, cond_true]; first | done | exact rfl) ?_
 refine rf_gf (AV.bool ((decide (a0.unit = a1.unit)) && (Op.bytesLess a0.param.toList a1.param.toList))) (fun hg => by
   simp only [hg, Bool.true_and, cond_true]; first | done | exact (pk_and _ _)) ?_
 refine rf_s (AV.bool ((decide (a0.unit < a1.unit)) || ((decide (a0.unit = a1.unit)) && (Op.bytesLess a0.param.toList a1.param.toList)))) (pk_or _ _) ?_
 exact rf_fin _ (fin_same _ _) ⟨rfl, rfl⟩

noncomputable def t_R5_checkMove (a0 : MoveD) (a1 : (List MoveD)) : Option Int :=
 if (!(withinB a0.key.unit 1 9999)) = true then
  some 1
 else
 (tq (okS a0.key.param) (nameB a0.key.param)).bind fun r1 =>
 if (!r1) = true then
  some 5
 else
 if ((a0.release && (decide (¬ (a0.value = (⟨0, 0⟩ : ValueD))))) || ((decide (¬ (a0.value.level = 0))) && (decide (¬ (a0.value.preset = 0))))) = true then
  some 3
 else
 if ((!(withinB a0.value.level 0 65535)) || (!(withinB a0.value.preset 0 999))) = true then
  some 1
 else
 if ((!a0.timed) && ((decide (¬ (a0.delay = 0))) || (decide (¬ (a0.time = 0))))) = true then
  some 3
 else
 if ((!(withinB a0.delay 0 36000000)) || (!(withinB a0.time 0 36000000))) = true then
  some 1
 else
 (if decide (0 < (a1.length : Int)) = true then tIx a1 (IntKind.i64.wrap ((a1.length : Int) - 1)) else some default).bind fun x2 =>
 if ((decide (0 < (a1.length : Int))) && (!(((decide (x2.key.unit < a0.key.unit)) || ((decide (x2.key.unit = a0.key.unit)) && (Op.bytesLess x2.key.param.toList a0.key.param.toList)))))) = true then
  some 7
 else
 some 0
theorem h_R5_checkMove {a0 : MoveD} { a1 : (List MoveD)} {σ : Heap} {r : Int} (h : t_R5_checkMove a0 a1 = some r) : m_R5_checkMove [(AV.agg (cMove a0)), (sl 8 cMove a1)] σ = some ((AV.int .i64 r), σ) := by
 refine rf_wrap2 (f := r_R5_checkMove) (y0 := (AV.agg (cMove a0))) (y1 := (sl 8 cMove a1)) (enc := fun r : Int => (AV.int .i64 r)) (T := t_R5_checkMove a0 a1) rfl rfl ?_ r h
 unfold r_R5_checkMove t_R5_checkMove
 refine rf_s (cMove a0) rfl ?_
 refine rf_s (AV.int .i64 a0.key.unit) rfl ?_
 refine rf_s ((AV.bool (withinB a0.key.unit 1 9999)), σ) (Within1_eq a0.key.unit 1 9999 σ) ?_
 refine rf_s (AV.bool (!(withinB a0.key.unit 1 9999))) rfl ?_
 refine rf_cb (c := (!(withinB a0.key.unit 1 9999))) (fun c9 => ?_) (fun c9 => ?_)
 ·exact rf_fin _ (fin_same _ _) ⟨rfl, rfl⟩
 refine rf_s (AV.str a0.key.param) rfl ?_
 refine rf_o (fun r1 : Bool => ((AV.bool r1), σ)) (fun r1 hr1 => (tq_of (e := fun r : Bool => ((AV.bool r), σ)) (fun hs => IsName1_eq a0.key.param hs σ)) hr1) (fun r1 hr1 => ?_)
 refine rf_s (AV.bool (!r1)) rfl ?_
 refine rf_cb (c := (!r1)) (fun c8 => ?_) (fun c8 => ?_)
 ·exact rf_fin _ (fin_same _ _) ⟨rfl, rfl⟩
 refine rf_s (AV.bool a0.release) rfl ?_
 refine rf_gt (AV.agg (cValue a0.value)) (fun hg => rfl) ?_
 refine rf_gt (AV.agg (cValue (⟨0, 0⟩ : ValueD))) (fun hg => rfl) ?_
 refine rf_gt (AV.bool (decide (¬ (a0.value = (⟨0, 0⟩ : ValueD))))) (fun hg => by
   simp only [hg, Bool.true_and, cond_true]; first | done | exact (ne_Value _ _)) ?_
 refine rf_s (AV.bool (a0.release && (decide (¬ (a0.value = (⟨0, 0⟩ : ValueD)))))) (pk_and _ _) ?_
 refine rf_gf (AV.int .i64 a0.value.level) (fun hg => rfl) ?_
 refine rf_gf (AV.bool (decide (¬ (a0.value.level = 0)))) (fun hg => by
   simp only [hg, Bool.true_and, cond_true]; first | done | exact (aNe _ _ _)) ?_
 refine rf_gf (AV.bool (decide (¬ (a0.value.level = 0)))) (fun hg => by
   simp only [hg, Bool.true_and, cond_true]; first | done | exact rfl) ?_
 refine rf_ggt (AV.int .i64 a0.value.preset) (fun hg => rfl) ?_
 refine rf_ggt (AV.bool (decide (¬ (a0.value.preset = 0)))) (fun hg => by
   simp only [hg, Bool.true_and, cond_true]; first | done | exact (aNe _ _ _)) ?_
 refine rf_gf (AV.bool ((decide (¬ (a0.value.level = 0))) && (decide (¬ (a0.value.preset = 0))))) (fun hg => by
   simp only [hg, Bool.true_and, cond_true]; first | done | exact (pk_and _ _)) ?_
 refine rf_s (AV.bool ((a0.release && (decide (¬ (a0.value = (⟨0, 0⟩ : ValueD))))) || ((decide (¬ (a0.value.level = 0))) && (decide (¬ (a0.value.preset = 0)))))) (pk_or _ _) ?_
 refine rf_cb (c := ((a0.release && (decide (¬ (a0.value = (⟨0, 0⟩ : ValueD))))) || ((decide (¬ (a0.value.level = 0))) && (decide (¬ (a0.value.preset = 0)))))) (fun c7 => ?_) (fun c7 => ?_)
 ·exact rf_fin _ (fin_same _ _) ⟨rfl, rfl⟩
 refine rf_s (AV.int .i64 a0.value.level) rfl ?_
 refine rf_s ((AV.bool (withinB a0.value.level 0 65535)), σ) (IsLevel1_eq a0.value.level σ) ?_
 refine rf_s (AV.bool (!(withinB a0.value.level 0 65535))) rfl ?_
 refine rf_gf (AV.int .i64 a0.value.preset) (fun hg => rfl) ?_
 refine rf_gf (AV.bool (withinB a0.value.preset 0 999)) (fun hg => by
   simp only [hg, Bool.true_and, cond_true]; first | done | exact (quiet_of (Within1_eq a0.value.preset 0 999 σ))) ?_
 refine rf_gf (AV.bool (!(withinB a0.value.preset 0 999))) (fun hg => by
   simp only [hg, Bool.true_and, cond_true]; first | done | exact rfl) ?_
 refine rf_s (AV.bool ((!(withinB a0.value.level 0 65535)) || (!(withinB a0.value.preset 0 999)))) (pk_or _ _) ?_
 refine rf_cb (c := ((!(withinB a0.value.level 0 65535)) || (!(withinB a0.value.preset 0 999)))) (fun c6 => ?_) (fun c6 => ?_)
 ·exact rf_fin _ (fin_same _ _) ⟨rfl, rfl⟩
 refine rf_s (AV.bool a0.timed) rfl ?_
 refine rf_s (AV.bool (!a0.timed)) rfl ?_
 refine rf_gt (AV.int .i64 a0.delay) (fun hg => rfl) ?_
 refine rf_gt (AV.bool (decide (¬ (a0.delay = 0)))) (fun hg => by
   simp only [hg, Bool.true_and, cond_true]; first | done | exact (aNe _ _ _)) ?_
 refine rf_gt (AV.bool (decide (¬ (a0.delay = 0)))) (fun hg => by
   simp only [hg, Bool.true_and, cond_true]; first | done | exact rfl) ?_
 refine rf_ggf (AV.int .i64 a0.time) (fun hg => rfl) ?_
 refine rf_ggf (AV.bool (decide (¬ (a0.time = 0)))) (fun hg => by
   simp only [hg, Bool.true_and, cond_true]; first | done | exact (aNe _ _ _)) ?_
 refine rf_gt (AV.bool ((decide (¬ (a0.delay = 0))) || (decide (¬ (a0.time = 0))))) (fun hg => by
   simp only [hg, Bool.true_and, cond_true]; first | done | exact (pk_or _ _)) ?_
 refine rf_s (AV.bool ((!a0.timed) && ((decide (¬ (a0.delay = 0))) || (decide (¬ (a0.time = 0)))))) (pk_and _ _) ?_
 refine rf_cb (c := ((!a0.timed) && ((decide (¬ (a0.delay = 0))) || (decide (¬ (a0.time = 0)))))) (fun c5 => ?_) (fun c5 => ?_)
 ·exact rf_fin _ (fin_same _ _) ⟨rfl, rfl⟩
 refine rf_s (AV.int .i64 a0.delay) rfl ?_
 refine rf_s ((AV.bool (withinB a0.delay 0 36000000)), σ) (IsTime1_eq a0.delay σ) ?_
 refine rf_s (AV.bool (!(withinB a0.delay 0 36000000))) rfl ?_
 refine rf_gf (AV.int .i64 a0.time) (fun hg => rfl) ?_
 refine rf_gf (AV.bool (withinB a0.time 0 36000000)) (fun hg => by
   simp only [hg, Bool.true_and, cond_true]; first | done | exact (quiet_of (IsTime1_eq a0.time σ))) ?_
 refine rf_gf (AV.bool (!(withinB a0.time 0 36000000))) (fun hg => by
   simp only [hg, Bool.true_and, cond_true]; first | done | exact rfl) ?_
 refine rf_s (AV.bool ((!(withinB a0.delay 0 36000000)) || (!(withinB a0.time 0 36000000)))) (pk_or _ _) ?_
 refine rf_cb (c := ((!(withinB a0.delay 0 36000000)) || (!(withinB a0.time 0 36000000)))) (fun c4 => ?_) (fun c4 => ?_)
 ·exact rf_fin _ (fin_same _ _) ⟨rfl, rfl⟩
 refine rf_s (AV.int .i64 (a1.length : Int)) (lenS_sl _ _ _) ?_
 refine rf_s (AV.bool (decide (0 < (a1.length : Int)))) rfl ?_
 refine rf_gt (sl 8 cMove a1) (fun hg => rfl) ?_
 refine rf_gt (sl 8 cMove a1) (fun hg => rfl) ?_
 refine rf_gt (AV.int .i64 (a1.length : Int)) (fun hg => by
   simp only [hg, Bool.true_and, cond_true]; first | done | exact (lenS_sl _ _ _)) ?_
 refine rf_gt (AV.int .i64 (IntKind.i64.wrap ((a1.length : Int) - 1))) (fun hg => by
   simp only [hg, Bool.true_and, cond_true]; first | done | exact rfl) ?_
 refine rf_gto (ω := MoveD) (fun x2 => (AV.rp (cMove x2))) (fun hg x2 hx2 => by
   simp only [hg, Bool.true_and, cond_true]; first | done | exact ix_at hx2) (fun x2 hx2 => ?_)
 refine rf_gt (AV.rp (cMove x2)) (fun hg => by
   simp only [hg, Bool.true_and, cond_true]; first | done | exact rfl) ?_
 refine rf_gt (AV.agg (cKey x2.key)) (fun hg => by
   simp only [hg, Bool.true_and, cond_true]; first | done | exact rfl) ?_
 refine rf_gt (AV.agg (cKey a0.key)) (fun hg => rfl) ?_
 refine rf_gt (AV.bool (((decide (x2.key.unit < a0.key.unit)) || ((decide (x2.key.unit = a0.key.unit)) && (Op.bytesLess x2.key.param.toList a0.key.param.toList))))) (fun hg => by
   simp only [hg, Bool.true_and, cond_true]; first | done | exact (quiet_of (h_R4_Before (σ := σ) (r := ((decide (x2.key.unit < a0.key.unit)) || ((decide (x2.key.unit = a0.key.unit)) && (Op.bytesLess x2.key.param.toList a0.key.param.toList)))) rfl))) ?_
 refine rf_gt (AV.bool (!(((decide (x2.key.unit < a0.key.unit)) || ((decide (x2.key.unit = a0.key.unit)) && (Op.bytesLess x2.key.param.toList a0.key.param.toList)))))) (fun hg => by
   simp only [hg, Bool.true_and, cond_true]; first | done | exact rfl) ?_
 refine rf_s (AV.bool ((decide (0 < (a1.length : Int))) && (!(((decide (x2.key.unit < a0.key.unit)) || ((decide (x2.key.unit = a0.key.unit)) && (Op.bytesLess x2.key.param.toList a0.key.param.toList))))))) (pk_and _ _) ?_
 refine rf_cb (c := ((decide (0 < (a1.length : Int))) && (!(((decide (x2.key.unit < a0.key.unit)) || ((decide (x2.key.unit = a0.key.unit)) && (Op.bytesLess x2.key.param.toList a0.key.param.toList))))))) (fun c3 => ?_) (fun c3 => ?_)
 ·exact rf_fin _ (fin_same _ _) ⟨rfl, rfl⟩
 exact rf_fin _ (fin_same _ _) ⟨rfl, rfl⟩

noncomputable def t_R5_checkMoves (a0 : (List MoveD)) : Option Int :=
 if 2000 < (a0.length : Int) then
  some 2
 else
 forE a0 (fun (i8 : Nat) e7 (s1 : Unit) => (show Option (Lr Unit Unit Int) from
   (tSl a0 none (some (i8 : Int))).bind fun x9 =>
   (t_R5_checkMove e7 x9).bind fun r10 =>
   if ¬ (r10 = 0) then
    some (.ret r10)
   else
   some (.go ()))) (fun s1 => some ()) () (fun b2 =>
  some 0) (fun b2 =>
  some b2)
theorem h_R5_checkMoves {a0 : (List MoveD)} {σ : Heap} {r : Int} (h : t_R5_checkMoves a0 = some r) : m_R5_checkMoves [(sl 8 cMove a0)] σ = some ((AV.int .i64 r), σ) := by
 refine rf_wrap1 (f := r_R5_checkMoves) (y0 := (sl 8 cMove a0)) (enc := fun r : Int => (AV.int .i64 r)) (T := t_R5_checkMoves a0) rfl rfl ?_ r h
 unfold r_R5_checkMoves t_R5_checkMoves
 refine rf_s (AV.int .i64 (a0.length : Int)) (lenS_sl _ _ _) ?_
 refine rf_s (AV.bool (decide (2000 < (a0.length : Int)))) rfl ?_
 refine rf_c (p := 2000 < (a0.length : Int)) (fun c12 => ?_) (fun c12 => ?_)
 ·exact rf_fin _ (fin_same _ _) ⟨rfl, rfl⟩
 refine rf_s (AV.int .i64 (a0.length : Int)) (lenS_sl _ _ _) ?_
 refine rf_for (B := Unit) (R := Int) (fun (i8 : Nat) (s1 : Unit) v w3 => v = [(AV.int .i64 0), (AV.int .i64 (i8 : Int))] ∧ σ = w3) (fun (b2 : Unit) (q : LS) => ∃ u2 u11, q = ((AX.exit 0), ([u2, u11] : List AV), σ)) (fun (b2 : Int) (q : LS) => ∃ u11, q = (AX.ret, ([(AV.int .i64 b2), u11] : List AV), σ)) ?_ ?_ ⟨rfl, rfl⟩ ?_ ?_
 ·intro hle7 i8 e7 s1 v w3 he7 hI
  obtain ⟨rfl, rfl⟩ := hI
  refine rf_s (AV.bool true) (ix_lt he7) ?_
  refine rf_ct ?_
  refine rf_s (AV.rp (cMove e7)) (ix_for he7) ?_
  refine rf_s (AV.agg (cMove e7)) rfl ?_
  refine rf_s (cMove e7) rfl ?_
  refine rf_s (cMove e7) (sp_cMove _ _ rfl) ?_
  refine rf_s (AV.agg (cMove e7)) rfl ?_
  refine rf_o (fun x9 : (List MoveD) => (sl 8 cMove x9)) (fun x9 hx9 => (sls_at hx9)) (fun x9 hx9 => ?_)
  refine rf_o (fun r10 : Int => (AV.int .i64 r10)) (fun r10 hr10 => (quiet_of (h_R5_checkMove hr10))) (fun r10 hr10 => ?_)
  refine rf_s (AV.bool (decide (¬ (r10 = 0)))) (aNe _ _ _) ?_
  refine rf_c (p := ¬ (r10 = 0)) (fun c11 => ?_) (fun c11 => ?_)
  ·exact rf_ret (rnd_ret (by simp) ⟨_, rfl⟩)
  refine rf_s (AV.int .i64 ((i8 + 1 : Nat) : Int)) (ix_inc he7 hle7) ?_
  exact rf_ret (rnd_go ⟨rfl, rfl⟩)
 ·intro hl s1 v w3 hI
  obtain ⟨rfl, rfl⟩ := hI
  refine rf_s (AV.bool false) (ix_end _) ?_
  refine rf_cf ?_
  exact rf_ret ⟨by simp, ⟨_, _, rfl⟩⟩
 ·intro hl b2 q hq
  obtain ⟨u2, u11, rfl⟩ := hq
  refine rf_bt rfl ?_
  exact rf_fin _ (fin_same _ _) ⟨rfl, rfl⟩
 ·intro hl b2 q hq
  obtain ⟨u11, rfl⟩ := hq
  refine rf_bf rfl ?_
  refine rf_bt rfl ?_
  exact rf_fin _ (fin_same _ _) ⟨rfl, rfl⟩

noncomputable def t_R5_CheckForm (a0 : (List CueD)) : Option Int :=
 if 300 < (a0.length : Int) then
  some 2
 else
 forE a0 (fun (i8 : Nat) e7 (s1 : Int) => (show Option (Lr Int Int Int) from
   if (!(withinB e7.number 1 9999999)) = true then
    some (.ret 1)
   else
   (if decide (0 < (i8 : Int)) = true then tIx a0 (IntKind.i64.wrap ((i8 : Int) - 1)) else some default).bind fun x9 =>
   if ((decide (0 < (i8 : Int))) && (decide (e7.number ≤ x9.number))) = true then
    some (.ret 7)
   else
   (if decide (¬ (e7.title = (⟨#[]⟩ : ByteArray))) = true then tq (okS e7.title) (titleB e7.title) else some default).bind fun r10 =>
   if ((decide (¬ (e7.title = (⟨#[]⟩ : ByteArray)))) && (!r10)) = true then
    some (.ret 3)
   else
   if (((((!(withinB e7.delay 0 36000000)) || (!(withinB e7.up 0 36000000))) || (!(withinB e7.down 0 36000000))) || (!(withinB e7.other 0 36000000))) || (!(withinB e7.follow (-1) 36000000))) = true then
    some (.ret 1)
   else
   if ¬ ((curveF e7.curve) = 0) then
    some (.ret (curveF e7.curve))
   else
   (t_R5_checkMoves e7.moves).bind fun r11 =>
   if ¬ (r11 = 0) then
    some (.ret r11)
   else
   some (.go (IntKind.i64.wrap (s1 + (e7.moves.length : Int)))))) (fun s1 => some s1) 0 (fun b2 =>
  if 10000 < b2 then
   some 2
  else
  some 0) (fun b2 =>
  some b2)
theorem h_R5_CheckForm {a0 : (List CueD)} {σ : Heap} {r : Int} (h : t_R5_CheckForm a0 = some r) : m_R5_CheckForm [(sl 11 cCue a0)] σ = some ((AV.int .i64 r), σ) := by
 refine rf_wrap1 (f := r_R5_CheckForm) (y0 := (sl 11 cCue a0)) (enc := fun r : Int => (AV.int .i64 r)) (T := t_R5_CheckForm a0) (nn_t1 (nn_e (fun _ => rfl) _) rfl) rfl ?_ r h
 unfold r_R5_CheckForm t_R5_CheckForm
 refine rf_s (AV.int .i64 (a0.length : Int)) (lenS_sl _ _ _) ?_
 refine rf_s (AV.bool (decide (300 < (a0.length : Int)))) rfl ?_
 refine rf_c (p := 300 < (a0.length : Int)) (fun c19 => ?_) (fun c19 => ?_)
 ·exact rf_fin _ (fin_same _ _) ⟨rfl, rfl⟩
 refine rf_s (AV.int .i64 (a0.length : Int)) (lenS_sl _ _ _) ?_
 refine rf_for (B := Int) (R := Int) (fun (i8 : Nat) (s1 : Int) v w3 => v = [(AV.int .i64 0), (AV.int .i64 s1), (AV.int .i64 (i8 : Int))] ∧ σ = w3) (fun (b2 : Int) (q : LS) => ∃ u2 u13, q = ((AX.exit 0), ([u2, (AV.int .i64 b2), u13] : List AV), σ)) (fun (b2 : Int) (q : LS) => ∃ u3 u13, q = (AX.ret, ([(AV.int .i64 b2), u3, u13] : List AV), σ)) ?_ ?_ ⟨rfl, rfl⟩ ?_ ?_
 ·intro hle7 i8 e7 s1 v w3 he7 hI
  obtain ⟨rfl, rfl⟩ := hI
  refine rf_s (AV.bool true) (ix_lt he7) ?_
  refine rf_ct ?_
  refine rf_s (AV.rp (cCue e7)) (ix_for he7) ?_
  refine rf_s (AV.agg (cCue e7)) rfl ?_
  refine rf_s (cCue e7) rfl ?_
  refine rf_s (cCue e7) (sp_cCue _ _ rfl) ?_
  refine rf_s (AV.int .i64 e7.number) rfl ?_
  refine rf_s ((AV.bool (withinB e7.number 1 9999999)), σ) (Within1_eq e7.number 1 9999999 σ) ?_
  refine rf_s (AV.bool (!(withinB e7.number 1 9999999))) rfl ?_
  refine rf_cb (c := (!(withinB e7.number 1 9999999))) (fun c17 => ?_) (fun c17 => ?_)
  ·exact rf_ret (rnd_ret (by simp) ⟨_, _, rfl⟩)
  refine rf_s (AV.bool (decide (0 < (i8 : Int)))) rfl ?_
  refine rf_gt (AV.int .i64 e7.number) (fun hg => rfl) ?_
  refine rf_gt (sl 11 cCue a0) (fun hg => rfl) ?_
  refine rf_gt (AV.int .i64 (i8 : Int)) (fun hg => rfl) ?_
  refine rf_gt (AV.int .i64 (IntKind.i64.wrap ((i8 : Int) - 1))) (fun hg => by
    simp only [hg, Bool.true_and, cond_true]; first | done | exact rfl) ?_
  refine rf_gto (ω := CueD) (fun x9 => (AV.rp (cCue x9))) (fun hg x9 hx9 => by
    simp only [hg, Bool.true_and, cond_true]; first | done | exact ix_at hx9) (fun x9 hx9 => ?_)
  refine rf_gt (AV.rp (cCue x9)) (fun hg => by
    simp only [hg, Bool.true_and, cond_true]; first | done | exact rfl) ?_
  refine rf_gt (AV.int .i64 x9.number) (fun hg => by
    simp only [hg, Bool.true_and, cond_true]; first | done | exact rfl) ?_
  refine rf_gt (AV.bool (decide (e7.number ≤ x9.number))) (fun hg => by
    simp only [hg, Bool.true_and, cond_true]; first | done | exact rfl) ?_
  refine rf_s (AV.bool ((decide (0 < (i8 : Int))) && (decide (e7.number ≤ x9.number)))) (pk_and _ _) ?_
  refine rf_cb (c := ((decide (0 < (i8 : Int))) && (decide (e7.number ≤ x9.number)))) (fun c16 => ?_) (fun c16 => ?_)
  ·exact rf_ret (rnd_ret (by simp) ⟨_, _, rfl⟩)
  refine rf_s (AV.str e7.title) rfl ?_
  refine rf_s (AV.bool (decide (¬ (e7.title = (⟨#[]⟩ : ByteArray))))) (aNeZ _ _) ?_
  refine rf_gt (AV.str e7.title) (fun hg => rfl) ?_
  refine rf_gto (ω := Bool) (fun r10 => (AV.bool r10)) (fun hg r10 hr10 => by
    simp only [hg, Bool.true_and, cond_true]; first | done | exact (quiet_of ((tq_of (e := fun r : Bool => ((AV.bool r), σ)) (fun hs => IsTitle1_eq e7.title hs σ)) hr10))) (fun r10 hr10 => ?_)
  refine rf_gt (AV.bool (!r10)) (fun hg => by
    simp only [hg, Bool.true_and, cond_true]; first | done | exact rfl) ?_
  refine rf_s (AV.bool ((decide (¬ (e7.title = (⟨#[]⟩ : ByteArray)))) && (!r10))) (pk_and _ _) ?_
  refine rf_cb (c := ((decide (¬ (e7.title = (⟨#[]⟩ : ByteArray)))) && (!r10))) (fun c15 => ?_) (fun c15 => ?_)
  ·exact rf_ret (rnd_ret (by simp) ⟨_, _, rfl⟩)
  refine rf_s (AV.int .i64 e7.delay) rfl ?_
  refine rf_s ((AV.bool (withinB e7.delay 0 36000000)), σ) (IsTime1_eq e7.delay σ) ?_
  refine rf_s (AV.bool (!(withinB e7.delay 0 36000000))) rfl ?_
  refine rf_gf (AV.int .i64 e7.up) (fun hg => rfl) ?_
  refine rf_gf (AV.bool (withinB e7.up 0 36000000)) (fun hg => by
    simp only [hg, Bool.true_and, cond_true]; first | done | exact (quiet_of (IsTime1_eq e7.up σ))) ?_
  refine rf_gf (AV.bool (!(withinB e7.up 0 36000000))) (fun hg => by
    simp only [hg, Bool.true_and, cond_true]; first | done | exact rfl) ?_
  refine rf_s (AV.bool ((!(withinB e7.delay 0 36000000)) || (!(withinB e7.up 0 36000000)))) (pk_or _ _) ?_
  refine rf_gf (AV.int .i64 e7.down) (fun hg => rfl) ?_
  refine rf_gf (AV.bool (withinB e7.down 0 36000000)) (fun hg => by
    simp only [hg, Bool.true_and, cond_true]; first | done | exact (quiet_of (IsTime1_eq e7.down σ))) ?_
  refine rf_gf (AV.bool (!(withinB e7.down 0 36000000))) (fun hg => by
    simp only [hg, Bool.true_and, cond_true]; first | done | exact rfl) ?_
  refine rf_s (AV.bool (((!(withinB e7.delay 0 36000000)) || (!(withinB e7.up 0 36000000))) || (!(withinB e7.down 0 36000000)))) (pk_or _ _) ?_
  refine rf_gf (AV.int .i64 e7.other) (fun hg => rfl) ?_
  refine rf_gf (AV.bool (withinB e7.other 0 36000000)) (fun hg => by
    simp only [hg, Bool.true_and, cond_true]; first | done | exact (quiet_of (IsTime1_eq e7.other σ))) ?_
  refine rf_gf (AV.bool (!(withinB e7.other 0 36000000))) (fun hg => by
    simp only [hg, Bool.true_and, cond_true]; first | done | exact rfl) ?_
  refine rf_s (AV.bool ((((!(withinB e7.delay 0 36000000)) || (!(withinB e7.up 0 36000000))) || (!(withinB e7.down 0 36000000))) || (!(withinB e7.other 0 36000000)))) (pk_or _ _) ?_
  refine rf_gf (AV.int .i64 e7.follow) (fun hg => rfl) ?_
  refine rf_gf (AV.bool (withinB e7.follow (-1) 36000000)) (fun hg => by
    simp only [hg, Bool.true_and, cond_true]; first | done | exact (quiet_of (Within1_eq e7.follow (-1) 36000000 σ))) ?_
  refine rf_gf (AV.bool (!(withinB e7.follow (-1) 36000000))) (fun hg => by
    simp only [hg, Bool.true_and, cond_true]; first | done | exact rfl) ?_
  refine rf_s (AV.bool (((((!(withinB e7.delay 0 36000000)) || (!(withinB e7.up 0 36000000))) || (!(withinB e7.down 0 36000000))) || (!(withinB e7.other 0 36000000))) || (!(withinB e7.follow (-1) 36000000)))) (pk_or _ _) ?_
  refine rf_cb (c := (((((!(withinB e7.delay 0 36000000)) || (!(withinB e7.up 0 36000000))) || (!(withinB e7.down 0 36000000))) || (!(withinB e7.other 0 36000000))) || (!(withinB e7.follow (-1) 36000000)))) (fun c14 => ?_) (fun c14 => ?_)
  ·exact rf_ret (rnd_ret (by simp) ⟨_, _, rfl⟩)
  refine rf_s (AV.agg (cCurve e7.curve)) rfl ?_
  refine rf_s ((AV.int .i64 (curveF e7.curve)), σ) (CheckCurve1_eq e7.curve σ) ?_
  refine rf_s (AV.bool (decide (¬ ((curveF e7.curve) = 0)))) (aNe _ _ _) ?_
  refine rf_c (p := ¬ ((curveF e7.curve) = 0)) (fun c13 => ?_) (fun c13 => ?_)
  ·exact rf_ret (rnd_ret (by simp) ⟨_, _, rfl⟩)
  refine rf_s (sl 8 cMove e7.moves) rfl ?_
  refine rf_o (fun r11 : Int => ((AV.int .i64 r11), σ)) (fun r11 hr11 => h_R5_checkMoves hr11) (fun r11 hr11 => ?_)
  refine rf_s (AV.bool (decide (¬ (r11 = 0)))) (aNe _ _ _) ?_
  refine rf_c (p := ¬ (r11 = 0)) (fun c12 => ?_) (fun c12 => ?_)
  ·exact rf_ret (rnd_ret (by simp) ⟨_, _, rfl⟩)
  refine rf_s (sl 8 cMove e7.moves) rfl ?_
  refine rf_s (AV.int .i64 (e7.moves.length : Int)) (lenS_sl _ _ _) ?_
  refine rf_s (AV.int .i64 (IntKind.i64.wrap (s1 + (e7.moves.length : Int)))) rfl ?_
  refine rf_s (AV.int .i64 ((i8 + 1 : Nat) : Int)) (ix_inc he7 hle7) ?_
  exact rf_ret (rnd_go ⟨rfl, rfl⟩)
 ·intro hl s1 v w3 hI
  obtain ⟨rfl, rfl⟩ := hI
  refine rf_s (AV.bool false) (ix_end _) ?_
  refine rf_cf ?_
  exact rf_ret ⟨by simp, ⟨_, _, rfl⟩⟩
 ·intro hl b2 q hq
  obtain ⟨u2, u13, rfl⟩ := hq
  refine rf_bt rfl ?_
  refine rf_s (AV.bool (decide (10000 < b2))) rfl ?_
  refine rf_c (p := 10000 < b2) (fun c18 => ?_) (fun c18 => ?_)
  ·exact rf_fin _ (fin_same _ _) ⟨rfl, rfl⟩
  exact rf_fin _ (fin_same _ _) ⟨rfl, rfl⟩
 ·intro hl b2 q hq
  obtain ⟨u3, u13, rfl⟩ := hq
  refine rf_bf rfl ?_
  refine rf_bt rfl ?_
  exact rf_fin _ (fin_same _ _) ⟨rfl, rfl⟩

end Go.Proofs.YtphgchakmkankaaGreat

namespace Go.Proofs.YtphgchakmkankaaGreat
set_option linter.unusedSectionVars false
set_option linter.unusedVariables false
set_option linter.unusedSimpArgs false
section
variable {κ ν : Type} [DecidableEq κ]
end
theorem ite_pure {α : Type} {p : Prop} [Decidable p] (a b : α) : (if p then some a else some b) = some (if p then a else b) := by split <;> rfl
theorem bind_ite2 {α β : Type} {p : Prop} [Decidable p] (a b : α) (f : α → Option β) : (if p then some a else some b).bind f = f (if p then a else b) := by split <;> rfl
theorem compare_eq (a b : KeyD) : t_cue_compare a b = some (cmpK a b) := by
 unfold t_cue_compare cmpK
 by_cases h : a.unit = b.unit
 ·simp [h]
 ·by_cases h2 : a.unit < b.unit <;> simp [h, h2]
theorem guard_cmp (c : Bool) (a b : KeyD) : (c && decide (0 ≤ (if c = true then cmpK a b else (default : Int)))) = (c && !ltK a b) := by
 cases c
 ·rfl
 ·simp only [if_true, Bool.true_and]; exact cmpK_ge a b
theorem guard_title (s : ByteArray) : (decide (¬ (s = (⟨#[]⟩ : ByteArray))) && !(if decide (¬ (s = (⟨#[]⟩ : ByteArray))) = true then titleB s else (default : Bool))) = !blankB s := by
 unfold blankB
 by_cases h : s = ⟨#[]⟩ <;> simp [h]
def moveF (l : List MoveD) (i : Nat) (m : MoveD) : Int :=
 if (!(withinB m.key.unit 1 9999)) = true then 1
 else if (!(nameB m.key.param)) = true then 5
 else if ((m.release && (decide (¬ (m.value = (⟨0, 0⟩ : ValueD))))) || ((decide (¬ (m.value.level = 0))) && (decide (¬ (m.value.preset = 0))))) = true then 3
 else if ((!(withinB m.value.level 0 65535)) || (!(withinB m.value.preset 0 999))) = true then 1
 else if ((!m.timed) && ((decide (¬ (m.delay = 0))) || (decide (¬ (m.time = 0))))) = true then 3
 else if ((!(withinB m.delay 0 36000000)) || (!(withinB m.time 0 36000000))) = true then 1
 else if (decide (0 < (i : Int)) && !ltK (pv l i).key m.key) = true then 7 else 0
def movesF (l : List MoveD) : Int := chkE (moveF l) l 0
theorem checkMoves_t (l : List MoveD) (hl : okL okMove l) : t_cue_checkMoves l = some (movesF l) := by
 unfold t_cue_checkMoves movesF
 rw [forE_chk (f := moveF l) hl.1 ?_]
 ·split
  ·rename_i h; rw [h]
  ·rfl
 intro i m hm
 have hmm := hl.2 m (List.mem_of_getElem? hm)
 simp only [prev_at hm hl.1, Option.bind_some, tq_pos hmm.1.2, compare_eq, bind_ite2, guard_cmp]
 unfold moveF
 repeat first | exact go_ret | refine ite_ret (by decide) ?_
theorem checkMove5_t (l : List MoveD) (hl : okL okMove l) (i : Nat) (m : MoveD) (hm : l[i]? = some m) : t_R5_checkMove m (l.take i) = some (moveF l i m) := by
 have hmm := hl.2 m (List.mem_of_getElem? hm)
 have hi := (List.getElem?_eq_some_iff.1 hm).1
 have e : ((l.take i).length : Int) = (i : Int) := by simp; omega
 unfold t_R5_checkMove moveF
 simp only [tq_pos hmm.1.2, Option.bind_some]
 have := last_at hm hl.1
 rw [e] at this
 simp only [e, this, Option.bind_some, ite_pure]
 rfl
theorem checkMoves5_t (l : List MoveD) (hl : okL okMove l) : t_R5_checkMoves l = some (if 2000 < (l.length : Int) then 2 else movesF l) := by
 unfold t_R5_checkMoves movesF
 split
 ·rfl
 rw [forE_chk (f := moveF l) hl.1 ?_]
 ·split
  ·rename_i h; rw [h]
  ·rfl
 intro i m hm
 have hi := (List.getElem?_eq_some_iff.1 hm).1
 simp only [tSl_pre (Nat.le_of_lt hi), Option.bind_some, checkMove5_t l hl i m hm]
 by_cases h : moveF l i m = 0 <;> simp [h]
def cueF (l : List CueD) (i : Nat) (c : CueD) : Int :=
 if (!(withinB c.number 1 9999999)) = true then 1
 else if (decide (0 < (i : Int)) && decide (c.number ≤ (pv l i).number)) = true then 7
 else if (!(blankB c.title)) = true then 3
 else if (((((!(withinB c.delay 0 36000000)) || (!(withinB c.up 0 36000000))) || (!(withinB c.down 0 36000000))) || (!(withinB c.other 0 36000000))) || (!(withinB c.follow (-1) 36000000))) = true then 1
 else if ¬ (curveF c.curve = 0) then curveF c.curve
 else if 2000 < (c.moves.length : Int) then 2
 else movesF c.moves
def manyF (l : List CueD) : Int := l.foldl (fun s c => IntKind.i64.wrap (s + (c.moves.length : Int))) 0
def formF (l : List CueD) : Int :=
 if 300 < (l.length : Int) then 2 else if ¬ (chkE (cueF l) l 0 = 0) then chkE (cueF l) l 0 else if 10000 < manyF l then 2 else 0
theorem forE_chkS {α γ S B : Type} {f : Nat → α → Int} {g : S → α → S} {l : List α} {body : Nat → α → S → Option (Lr S B Int)} {fin : S → Option B} {s : S} {K1 : B → Option γ} {K2 : Int → Option γ} (hl : l.length ≤ mxl) (hb : ∀ i x s, l[i]? = some x → body i x s = some (if f i x = 0 then .go (g s x) else .ret (f i x))) : forE l body fin s K1 K2 = if chkE f l 0 = 0 then (fin (l.foldl g s)).bind K1 else K2 (chkE f l 0) := by
 rw [forE_le hl]
 have key : ∀ (rest pre : List α) (s : S), l = pre ++ rest → forL body fin rest pre.length s = if chkE f rest pre.length = 0 then (fin (rest.foldl g s)).map .inl else some (.inr (chkE f rest pre.length)) := by
  intro rest
  induction rest with
  | nil => intro pre s _; simp [forL, chkE]
  | cons x rest ih =>
   intro pre s hp
   rw [forL, hb pre.length x s (by rw [hp]; simp), Option.bind_some, chkE]
   by_cases h : f pre.length x = 0
   ·simp only [h, if_true]
    have := ih (pre ++ [x]) (g s x) (by simpa using hp)
    simpa using this
   ·simp only [h, if_false]
 have k := key l [] s rfl
 rw [List.length_nil] at k
 rw [k]
 split
 ·cases fin (l.foldl g s) <;> rfl
 ·rfl
theorem ite_retS {S B : Type} {p : Prop} [Decidable p] {k f : Int} {t : S} {Y : Option (Lr S B Int)} (hk : k ≠ 0) (h : Y = some (if f = 0 then .go t else .ret f)) : (if p then some (.ret k) else Y) = some (if (if p then k else f) = 0 then .go t else .ret (if p then k else f)) := by
 by_cases hp : p
 ·simp [hp, hk]
 ·simp [hp, h]
theorem ite_retvS {S B : Type} {k f : Int} {t : S} {Y : Option (Lr S B Int)} (h : Y = some (if f = 0 then .go t else .ret f)) : (if ¬ (k = 0) then some (.ret k) else Y) = some (if (if ¬ (k = 0) then k else f) = 0 then .go t else .ret (if ¬ (k = 0) then k else f)) := by
 by_cases hp : k = 0
 ·simp [hp, h]
 ·simp [hp]
theorem ite_lastS {S B : Type} {k : Int} {t : S} : (if ¬ (k = 0) then some (.ret k) else some (.go t) : Option (Lr S B Int)) = some (if k = 0 then .go t else .ret k) := by
 by_cases hp : k = 0 <;> simp [hp]
theorem form_t (l : List CueD) (hl : okL okCue l) : t_cue_form l = some (formF l) := by
 unfold t_cue_form formF
 split
 ·rfl
 rw [forE_chkS (f := cueF l) (g := fun s c => IntKind.i64.wrap (s + (c.moves.length : Int))) hl.1 ?_]
 ·show (if chkE (cueF l) l 0 = 0 then some (if decide (10000 < manyF l) = true then (2 : Int) else 0) else some (chkE (cueF l) l 0)) = _
  by_cases h : chkE (cueF l) l 0 = 0
  ·by_cases h2 : 10000 < manyF l <;> simp [h, h2]
  ·simp [h]
 intro i c s hc
 obtain ⟨_, ht, _, _, _, _, _, _, hm⟩ := hl.2 c (List.mem_of_getElem? hc)
 simp only [prev_at hc hl.1, Option.bind_some, tq_pos ht, checkMoves_t _ hm, bind_ite2, guard_title]
 unfold cueF
 repeat first | exact ite_lastS | refine ite_retS (by decide) ?_ | refine ite_retvS ?_
theorem CheckForm5_t (l : List CueD) (hl : okL okCue l) : t_R5_CheckForm l = some (formF l) := by
 unfold t_R5_CheckForm formF
 split
 ·rfl
 rw [forE_chkS (f := cueF l) (g := fun s c => IntKind.i64.wrap (s + (c.moves.length : Int))) hl.1 ?_]
 ·show (if chkE (cueF l) l 0 = 0 then (if 10000 < manyF l then some (2 : Int) else some 0) else some (chkE (cueF l) l 0)) = _
  by_cases h : chkE (cueF l) l 0 = 0
  ·by_cases h2 : 10000 < manyF l <;> simp [h, h2]
  ·simp [h]
 intro i c s hc
 obtain ⟨_, ht, _, _, _, _, _, _, hm⟩ := hl.2 c (List.mem_of_getElem? hc)
 simp only [prev_at hc hl.1, Option.bind_some, tq_pos ht, checkMoves5_t _ hm, bind_ite2, guard_title]
 unfold cueF
 repeat first | exact ite_lastS | refine ite_retS (by decide) ?_ | refine ite_retvS ?_
end Go.Proofs.YtphgchakmkankaaGreat

