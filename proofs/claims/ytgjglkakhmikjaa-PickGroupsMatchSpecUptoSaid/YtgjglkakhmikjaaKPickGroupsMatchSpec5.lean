/- Parts of the proof of PickGroupsMatchSpec, in order. -/
import Derived.Orders
import Derived.Below
import Derived.WalkKit
import Derived.Laws.StructEq
import Derived.Laws.Append
import Derived.Laws.AppendOwn
import Derived.Test.YtgjglkakhmikjaaRows
import Derived.KernelRfl
import Derived.Lib.Bytealg
import Derived.Sort.Defs
import Derived.Lib.BitFns
import Derived.IntWalk
import Derived.Lib.Strings
import Derived.Sort.Statements
import Derived.WalkSpells
import Derived.ProofKit
import Derived.OpenShut
import Derived.Deep.QuietTactic
import Derived.BigQuiet
import Derived.Lib.Hide
import Derived.Deep.RegionHeld3
import Derived.Deep.Slices
import Derived.Lib.SmallJoins
import Derived.Test.YtgjglkakhmikjaaKPickGroupsMatchSpec4
namespace Go.Proofs.Ytgjglkakhmikjaa
set_option linter.unusedSectionVars false
open Go.RowKit Go.Deep
set_option linter.unusedVariables false
set_option linter.unusedSimpArgs false
section
variable {c : RC}
theorem repL_nil : RepL c [] [] := by simp [RepL]
theorem repL_cons {a : AV} {v : Value} {l : List AV} {vs : List Value} (h : Rep c a v) (k : RepL c l vs) : RepL c (a :: l) (v :: vs) := by
 simp only [RepL]; exact ⟨v, vs, rfl, h, k⟩
theorem rep_int (k : IntKind) (n : Int) : Rep c (.int k n) (.int k n) := by simp [Rep]
def RP {α : Type} (c : RC) (d : Cod α) (e : α → List AV) (ok : α → Prop) : Prop := ∀ cs x, d.is c.w cs x → RepL c (e x) cs ∧ ok x ∧ (∀ v ∈ cs, one1 v = true)
theorem repL_len : ∀ {l : List AV} {vs : List Value}, RepL c l vs → l.length = vs.length
 | [], vs, h => by simp only [RepL] at h; subst h; rfl
 | a :: l, vs, h => by
  simp only [RepL] at h
  obtain ⟨v, vs', rfl, _, h⟩ := h
  simp [repL_len h]
theorem repCs_of {b : Nat} : ∀ {l : List AV} {vs : List Value} {off : Nat}, RepL c l vs → (∀ v ∈ vs, one1 v = true) → (∀ j, j < vs.length → c.w.cell? ⟨b, off + j, none⟩ = vs[j]?) → RepCs c b off l
 | [], vs, off, h, _, _ => by simp [RepCs]
 | a :: l, vs, off, h, ho, hc => by
  simp only [RepL] at h
  obtain ⟨v, vs', rfl, h1, h2⟩ := h
  simp only [RepCs]
  refine ⟨⟨v, by simpa using hc 0 (by simp), ho v (by simp), h1⟩, repCs_of h2 (fun v hv => ho v (by simp [hv])) fun j hj => ?_⟩
  have := hc (j + 1) (by simpa using hj)
  rw [show off + 1 + j = off + (j + 1) by omega]
  simpa using this
theorem repEs_of {α : Type} {d : Cod α} {e : α → List AV} {ok : α → Prop} (H : RP c d e ok) {b sz : Nat} (hsz : d.size = sz) : ∀ {l : List α} {off : Nat}, (∀ (i : Nat) (x : α), l[i]? = some x → ∃ cs', (∀ j, j < d.size → c.w.cell? ⟨b, off + (i * d.size + j), none⟩ = cs'[j]?) ∧ d.is c.w cs' x) → RepEs c sz b off (l.map e) ∧ ∀ x ∈ l, ok x
 | [], off, h => by simp [RepEs]
 | x :: l, off, h => by
  obtain ⟨cs, h1, h2⟩ := h 0 x rfl
  obtain ⟨k1, k2, k3⟩ := H cs x h2
  have hl : cs.length = d.size := d.len h2
  obtain ⟨r1, r2⟩ := repEs_of H hsz (l := l) (off := off + sz) (fun i y hy => by
   obtain ⟨cs', q1, q2⟩ := h (i + 1) y (by simpa using hy)
   refine ⟨cs', fun j hj => ?_, q2⟩
   have := q1 j hj
   rw [← hsz]
   rwa [show off + d.size + (i * d.size + j) = off + ((i + 1) * d.size + j) by rw [Nat.succ_mul]; omega])
  refine ⟨?_, fun y hy => ?_⟩
  ·simp only [List.map_cons, RepEs]
   refine ⟨by rw [repL_len k1, hl, hsz], repCs_of k1 k3 fun j hj => ?_, r1⟩
   have := h1 j (by rw [← hl]; exact hj)
   simpa using this
  ·rcases List.mem_cons.1 hy with rfl | hy
   ·exact k2
   ·exact r2 y hy
theorem cell_in {w : World} {b off : Nat} {v : Value} (h : w.cell? ⟨b, off, none⟩ = some v) : b < w.heap.size := by
 rcases Nat.lt_or_ge b w.heap.size with k | k
 ·exact k
 ·simp [World.cell?, Array.getElem?_eq_none k] at h
theorem rp_slice {α : Type} {d : Cod α} {e : α → List AV} {ok : α → Prop} (hX : ∀ b, ¬ c.X b) (H : RP c d e ok) {sz : Nat} (hsz : d.size = sz) (h0 : 0 < sz) {v : Value} {l : List α} (h : (sliceC d).is c.w [v] l) : Rep c (sl sz e l) v ∧ okL ok l ∧ one1 v = true := by
 rcases h with ⟨h1, rfl⟩ | ⟨b, off, sp, cap, h1, h2, h3, h4⟩
 ·simp only [List.cons.injEq, and_true] at h1
  subst h1
  exact ⟨by simp [sl, Rep, h0], ⟨by simp, by simp⟩, rfl⟩
 ·simp only [List.cons.injEq, and_true] at h1
  subst h1
  have hes : sp = none ∨ l = [] := by
   cases l with
   | nil => exact .inr rfl
   | cons x l => exact .inl (h4 0 (by simp)).1
  have hh : ∀ (i : Nat) (x : α), l[i]? = some x → ∃ cs', (∀ j, j < d.size → c.w.cell? ⟨b, off + (i * d.size + j), none⟩ = cs'[j]?) ∧ d.is c.w cs' x := by
   intro i x hx
   obtain ⟨hi, hx⟩ := List.getElem?_eq_some_iff.1 hx
   subst hx
   exact (h4 i hi).2
  obtain ⟨r1, r2⟩ := repEs_of H hsz hh
  refine ⟨?_, ⟨by unfold maxLen at h3; unfold mxl; omega, r2⟩, rfl⟩
  simp only [sl, Rep]
  refine ⟨some ⟨b, off, sp⟩, cap, by simp, by simpa using h2, h0, ?_⟩
  rcases hes with rfl | rfl
  ·cases l with
   | nil => exact .inl rfl
   | cons x l =>
    refine .inr ⟨b, off, rfl, ?_, hX b, r1⟩
    obtain ⟨cs, q1, q2⟩ := hh 0 x rfl
    have hl : cs.length = d.size := d.len q2
    have := q1 0 (by omega)
    obtain ⟨y, hy⟩ : ∃ y, cs[0]? = some y := ⟨cs[0], List.getElem?_eq_getElem (by omega)⟩
    rw [hy] at this
    exact cell_in this
  ·exact .inl rfl
theorem one_nil : ∀ v ∈ ([] : List Value), one1 v = true := by simp
theorem one_cons {v : Value} {vs : List Value} (h : one1 v = true) (k : ∀ x ∈ vs, one1 x = true) : ∀ x ∈ v :: vs, one1 x = true := by
 intro x hx
 rcases List.mem_cons.1 hx with rfl | hx
 ·exact h
 ·exact k x hx
end
end Go.Proofs.Ytgjglkakhmikjaa

namespace Go.Proofs.Ytgjglkakhmikjaa
set_option linter.unusedSectionVars false
open Go.RowKit Go.Deep
set_option linter.unusedVariables false
set_option linter.unusedSimpArgs false
section
variable {c : RC}
theorem rp_pick (hX : ∀ b, ¬ c.X b) : ∀ n : Nat, RP c (pickC n) cPick (fun _ => True)
 | 0 => fun cs x h => h.elim
 | n + 1 => by
  rintro cs x ⟨v, rfl, h0, h1, h2, h3⟩
  obtain ⟨r, o, k⟩ := rp_slice hX (rp_pick hX n) (sz := 4) (pickC_size n) (by decide) h3
  refine ⟨?_, trivial, one_cons rfl (one_cons rfl (one_cons rfl (one_cons k one_nil)))⟩
  rw [cPick_eq]
  exact repL_cons (rep_int _ _) (repL_cons (rep_int _ _) (repL_cons (rep_int _ _) (repL_cons r repL_nil)))
theorem rp_group (hX : ∀ b, ¬ c.X b) (n : Nat) : RP c (groupC n) cGroup (fun _ => True) := by
 rintro cs x ⟨ps, rfl, h0, h1⟩
 obtain ⟨r, _, k⟩ := rp_pick hX n ps x.pick h1
 refine ⟨?_, trivial, one_cons rfl k⟩
 rw [cGroup_pick]
 exact repL_cons (rep_int _ _) r
end
end Go.Proofs.Ytgjglkakhmikjaa

namespace Go.Proofs.Ytgjglkakhmikjaa
set_option linter.unusedSectionVars false
set_option linter.unusedSimpArgs false
set_option linter.unusedVariables false
open Go.ChangeShapes Go.WideShapes Go.ChangeAt Go.RowKit

theorem own : ownKnob Try.prog.godebug = none := by kernel_rfl
theorem laidOut : laidOutB Try.prog = true := by kernel_rfl

theorem trodAll_below {H : Type} {enc : TypeId × Value → H} {P : Program} (hl : laidOutB P = true) {W W' : World} (hb : Below W.heap.size W W') :
  ∀ {ts : List TypeId} {vs : List Value} {ds : List (DataW H)} {ps : List MemPlace}, (ts.all fun t => P.readableRec t && decide (t < P.types.size)) = true →
   DataW.TrodAll enc P W 0 (fun _ => true) true ts vs ds ps → (∀ x ∈ ps, x.block < W.heap.size) → DataW.TrodAll enc P W' 0 (fun b => decide (b < W.heap.size)) true ts vs ds ps
 | [], [], [], _, _, h, _ => h
 | t :: ts, v :: vs, d :: ds, ps, hts, h, hlt => by
  obtain ⟨p, q, h1, h2, rfl⟩ := h
  simp only [List.all_cons, Bool.and_eq_true, decide_eq_true_eq] at hts
  exact ⟨p, q, Below.trod hl hts.1.1 hts.1.2 h1 hb (fun x hx => hlt x (List.mem_append_left _ hx)),
   trodAll_below hl hb (by simpa using hts.2) h2 (fun x hx => hlt x (List.mem_append_right _ hx)), rfl⟩
 | [], _ :: _, _, _, _, h, _ => h.elim
 | [], [], _ :: _, _, _, h, _ => h.elim
 | _ :: _, [], _, _, _, h, _ => h.elim
 | _ :: _, _ :: _, [], _, _, h, _ => h.elim

theorem law_post {H : Type} {enc : TypeId × Value → H} {f : Func} {s : ChangeSpec} {W W' : World} {args : Array Value} {ds gs : List (DataW H)} {before : List MemPlace} {t : TypeId}
  (hts : (f.params.toList.all fun t => Try.prog.readableRec t && decide (t < Try.prog.types.size)) = true) (hrt : f.resultTypes = #[t]) (ht : Try.prog.underlying t = some .bool) (hvs : s.vars = [])
  (hW : DataW.Whole enc Try.prog f.params.toList s.vars false W args.toList ds gs before) (hb : Below W.heap.size W W')
  (hspec : s.fn H (ds ++ gs) = { results := [.lit (.bool true)], args := ds }) :
  s.post enc Try.prog f false true false false W args (.bool true) W' := by
 have hW' := hW
 obtain ⟨p, q, hA, hV, rfl, hfz, hnd⟩ := hW
 have hlt : ∀ x ∈ p ++ q, x.block < W.heap.size := fun x hx => hW'.lt x hx
 refine ⟨ds, gs, p ++ q, [], p, [], hW', ?_, ?_, ?_, hb.frame _, fun h => by cases h⟩
 ·rw [hspec, hrt]
  exact trodAll_cons_mk (shut_bool ht _) trodAll_mk0
 ·rw [hspec]
  exact trodAll_below laidOut hb hts hA (fun x hx => hlt x (List.mem_append_left _ hx))
 ·rw [hspec, hvs]
  exact rfl
end Go.Proofs.Ytgjglkakhmikjaa

namespace Go.Proofs.Ytgjglkakhmikjaa
set_option linter.unusedSectionVars false
set_option linter.unusedSimpArgs false
set_option linter.unusedVariables false
open Go.RowKit
noncomputable def base (W : World) : RC := ctx ⟨W, [], fun _ => False, nmT⟩ W [] nopb
theorem base_X (W : World) : ∀ b, ¬ (base W).X b := by
 rintro b (k | ⟨p, hp, _⟩ | ⟨i, k⟩)
 ·exact k
 ·cases hp
 ·cases k
theorem law_run {n : FuncId} {m : List AV → Heap → Option (AV × Heap)} {avs : List AV} (hs : Sound Try.prog nmT n m) (hc : ∀ us w, (callFunc n us).run Try.prog w = .ok (.enter n us) w) (W : World) (vs : Array Value) (hr : RepL (base W) avs vs.toList) (hm : m avs [] = some (.bool true, [])) :
  Calls Try.prog n vs W fun e W' => e = .returned (.bool true) ∧ Below W.heap.size W W' := by
 have hh0 : HeapRel (ctx ⟨W, [], fun _ => False, nmT⟩ W [] nopb) [] := by
  refine ⟨rfl, fun i j p q hp => ?_, fun i p x hp => ?_⟩
  ·simp [ctx] at hp
  ·simp [ctx] at hp
 rcases hs _ _ _ _ hm with ⟨g, h1, h2⟩ | hv
 case inr =>
  obtain ⟨v, w', E', k1, _⟩ := hv ⟨W, [], fun _ => False, nmT⟩ vs rfl (fun b k => k.elim) hh0 hr
  rw [hc] at k1
  injection k1 with k1
  cases k1
 have hg : g = n := by
  have e1 := h1 #[] W
  rw [hc #[] W] at e1
  injection e1 with e1
  injection e1 with e1
  exact e1.symm
 subst hg
 have hh : HeapRel (ctx ⟨W, [], fun _ => False, nmT⟩ W [] nopb) [] := by
  refine ⟨rfl, fun i j p q hp => ?_, fun i p x hp => ?_⟩
  ·simp [ctx] at hp
  ·simp [ctx] at hp
 refine (h2 ⟨W, [], fun _ => False, nmT⟩ vs rfl (fun b k => k.elim) hh hr).mono ?_
 rintro e w' ⟨v, E', rfl, ho, _, hv⟩
 simp only [Rep] at hv
 subst hv
 exact ⟨rfl, ho.os, ho.tape, ho.output, ho.size, fun k hk => ho.stay k hk (fun p hp => by cases hp)⟩
end Go.Proofs.Ytgjglkakhmikjaa

