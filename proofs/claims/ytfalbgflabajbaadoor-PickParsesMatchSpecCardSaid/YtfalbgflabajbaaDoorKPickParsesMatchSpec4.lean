/- Parts of the proof of PickParsesMatchSpec, in order. -/
import Derived.Orders
import Derived.Below
import Derived.WalkKit
import Derived.Test.YtfalbgflabajbaaDoorRows
import Derived.Lib.LaidTab
import Derived.Lib.ItoaNum
import Derived.KernelRfl
import Derived.Laws.StructEq
import Derived.Laws.Append
import Derived.Laws.AppendOwn
import Derived.Lib.Bytealg
import Derived.Sort.Defs
import Derived.Lib.BitFns
import Derived.Lib.Strings
import Derived.Lib.Split
import Derived.Lib.IndexMore
import Derived.Lib.TrimByte
import Derived.Lib.Join
import Derived.Lib.Atoi
import Derived.Test.YtfalbgflabajbaaDoorShelf
import Derived.WalkSpells
import Derived.ProofKit
import Derived.OpenShut
import Derived.Deep.QuietTactic
import Derived.BigQuiet
import Derived.Lib.Hide
import Derived.IntWalk
import Derived.Deep.RegionHeld3
import Derived.Test.YtfalbgflabajbaaDoorTrim
import Derived.Lib.SmallJoins
import Derived.Deep.Slices
import Derived.OwnWalk
import Derived.Laws.OwnMore
import Derived.Deep.AppendLies
import Derived.StillTail
import Derived.Lib.QuietBelow
import Derived.WalkLawsBesides
import Derived.Test.YtfalbgflabajbaaDoorKPickParsesMatchSpec3
namespace Go.Proofs.YtfalbgflabajbaaDoor
set_option linter.unusedSectionVars false
open Go.RowKit Go.Sort
set_option linter.unusedVariables false
set_option linter.unusedSimpArgs false
set_option maxRecDepth 100000
section
variable {T : List TokD} {tb off cap rb : Nat}
theorem part_preset {n deep : Nat} {t : TokD} {W : World} (hT : Toks T) (h : RdAt T tb off cap rb W n deep) (ht : T[n]? = some t) (q0 : takB ⟨#[103, 114, 111, 117, 112]⟩ t = false) (q1 : takB ⟨#[112, 114, 101, 115, 101, 116]⟩ t = true) :
  Calls Tryd.prog 23 #[.pointer (some ⟨rb, 0, none⟩)] W (PostP T tb off cap rb deep W ((numP (T.drop (n + 1))).bind fun m l2 => .ok (.mk 3 m 0 []) l2)) := by
 have hn := hT.next ht (takB_ne (s := wPreset) (by decide) q1)
 have hrb := h.here.2.2
 have htb := h.tb_lt (List.getElem?_eq_some_iff.1 ht).1
 have hne : W.heap.size ≠ rb := by omega
 have hne2 : W.heap.size ≠ tb := by omega
 have hG1 : Gr W (W.alloc (.cells #[.int .i64 0, .int .i64 0, .int .i64 0, .slice none 0 0] 24)) := Gr.alloc (Gr.refl W) _
 have hA := Lib.hid (heap_last W (.cells #[.int .i64 0, .int .i64 0, .int .i64 0, .slice none 0 0] 24))
 have hR := Lib.hid (h.mono hG1)
 have hX : GrX rb W (W.alloc (.cells #[.int .i64 0, .int .i64 0, .int .i64 0, .slice none 0 0] 24)) := GrX.ofG hG1
 clear h hG1
 have C0 := Lib.hid (take_no (tb := tb) (off := off) (cap := cap) (rb := rb) (deep := deep) hT ht q0)
 have C1 := Lib.hid (take_yes (tb := tb) (off := off) (cap := cap) (rb := rb) (deep := deep) hT ht q1)
 obtain ⟨t2, ht2⟩ : ∃ t2, T[n + 1]? = some t2 := ⟨_, List.getElem?_eq_getElem hn⟩
 rw [drop_at ht2, numP_eq]
 cases q9 : nmB t2
 ·rw [if_neg (by simp)]
  have D := Lib.hid (num_no (tb := tb) (off := off) (cap := cap) (rb := rb) (deep := deep) hT ht2 q9)
  go_enter Tryd.func23, Tryd.ntmps23
  go_wp2_with (first
   | (go_at_call 24; (with_reducible refine (C0.out _ hR.out).mono ?_); rintro e w1 ⟨rfl, hXn, hRn⟩; replace hX := hX.trans hXn; replace hR := Lib.hid hRn; replace hA := Lib.hid (hXn.heap hA.out hne); clear hXn hRn)
   | (go_at_call 24; (with_reducible refine (C1.out _ hR.out).mono ?_); rintro e w1 ⟨rfl, hXn, hRn⟩; replace hX := hX.trans hXn; replace hR := Lib.hid hRn; replace hA := Lib.hid (hXn.heap hA.out hne); clear hXn hRn)
   | (go_at_call 34; (with_reducible refine (D.out _ hR.out).mono ?_); rintro e w1 ⟨rfl, hXn⟩; skip))
  exact ⟨rfl, rfl, hX.trans hXn⟩
 ·rw [if_pos rfl]
  have hn2 := hT.next ht2 (nmB_ne q9)
  have D := Lib.hid (num_yes (tb := tb) (off := off) (cap := cap) (rb := rb) (deep := deep) hT ht2 q9)
  generalize (numZ (bZ t2.text) 9).1 = m at *
  go_enter Tryd.func23, Tryd.ntmps23
  go_wp2_with (first
   | (go_at_call 24; (with_reducible refine (C0.out _ hR.out).mono ?_); rintro e w1 ⟨rfl, hXn, hRn⟩; replace hX := hX.trans hXn; replace hR := Lib.hid hRn; replace hA := Lib.hid (hXn.heap hA.out hne); clear hXn hRn)
   | (go_at_call 24; (with_reducible refine (C1.out _ hR.out).mono ?_); rintro e w1 ⟨rfl, hXn, hRn⟩; replace hX := hX.trans hXn; replace hR := Lib.hid hRn; replace hA := Lib.hid (hXn.heap hA.out hne); clear hXn hRn)
   | (go_at_call 34; (with_reducible refine (D.out _ hR.out).mono ?_); rintro e w1 ⟨rfl, hXn, hRn⟩; replace hX := hX.trans hXn; replace hR := Lib.hid hRn; replace hA := Lib.hid (hXn.heap hA.out hne); clear hXn hRn; have BA := Box4.of hA.out; obtain ⟨⟨k0, k1, k2, k3⟩, ⟨f0, f1, f2, f3⟩, hbl⟩ := BA))
  obtain ⟨⟨c0, c1, c2, c3⟩, hXf, hRf, hkf, hsf⟩ := fin4 hX (Nat.le_refl _) hne hne2 (Box4.of hA.out) hR.out (.int .i64 3) (.int .i64 m) (.int .i64 0) (.slice none 0 0)
  refine bodyPost_ret (v := .agg #[.int .i64 3, .int .i64 m, .int .i64 0, .slice none 0 0]) (by simp [results, Tryd.results23, go_sem, c0, c1, c2, c3]) rfl ?_
  exact ⟨_, n + 1 + 1, rfl, rfl, hn2, hXf, hRf, _, rfl, svAt_leaf _ _ _ _ _⟩
theorem part_odd {f n deep : Nat} {t : TokD} {W : World} (hT : Toks T) (hp : PrefS T tb off cap rb f) (hd : deep ≤ 100) (h : RdAt T tb off cap rb W n deep) (ht : T[n]? = some t) (q0 : takB ⟨#[103, 114, 111, 117, 112]⟩ t = false) (q1 : takB ⟨#[112, 114, 101, 115, 101, 116]⟩ t = false) (q2 : takB ⟨#[40]⟩ t = false) (q3 : takB ⟨#[111, 100, 100]⟩ t = true) (ho : prfP f deep (.mk 6 0 0 []) (T.drop (n + 1)) ≠ .out) :
  Calls Tryd.prog 23 #[.pointer (some ⟨rb, 0, none⟩)] W (PostP T tb off cap rb deep W (prfP f deep (.mk 6 0 0 []) (T.drop (n + 1)))) := by
 have hn := hT.next ht (takB_ne (s := wOdd) (by decide) q3)
 have hrb := h.here.2.2
 have htb := h.tb_lt (List.getElem?_eq_some_iff.1 ht).1
 have hne : W.heap.size ≠ rb := by omega
 have hne2 : W.heap.size ≠ tb := by omega
 have hG1 : Gr W (W.alloc (.cells #[.int .i64 0, .int .i64 0, .int .i64 0, .slice none 0 0] 24)) := Gr.alloc (Gr.refl W) _
 have hA := Lib.hid (heap_last W (.cells #[.int .i64 0, .int .i64 0, .int .i64 0, .slice none 0 0] 24))
 have hR := Lib.hid (h.mono hG1)
 have hX : GrX rb W (W.alloc (.cells #[.int .i64 0, .int .i64 0, .int .i64 0, .slice none 0 0] 24)) := GrX.ofG hG1
 clear h hG1
 have C0 := Lib.hid (take_no (tb := tb) (off := off) (cap := cap) (rb := rb) (deep := deep) hT ht q0)
 have C1 := Lib.hid (take_no (tb := tb) (off := off) (cap := cap) (rb := rb) (deep := deep) hT ht q1)
 have C2 := Lib.hid (take_no (tb := tb) (off := off) (cap := cap) (rb := rb) (deep := deep) hT ht q2)
 have C3 := Lib.hid (take_yes (tb := tb) (off := off) (cap := cap) (rb := rb) (deep := deep) hT ht q3)
 have D : ∀ w, RdAt T tb off cap rb w (n + 1) deep → Calls Tryd.prog 36 #[.pointer (some ⟨rb, 0, none⟩), .agg #[.int .i64 6, .int .i64 0, .int .i64 0, .slice none 0 0]] w (PostP T tb off cap rb deep w (prfP f deep (.mk 6 0 0 []) (T.drop (n + 1)))) := fun w hw => hp w (n + 1) deep (.mk 6 0 0 []) hd hw hn ho
 cases hQ : prfP f deep (.mk 6 0 0 []) (T.drop (n + 1)) with
 | out => exact absurd hQ ho
 | bad m =>
  rw [hQ] at D
  replace D := Lib.hid D
  go_enter Tryd.func23, Tryd.ntmps23
  go_wp2_with (first
   | (go_at_call 24; (with_reducible refine (C0.out _ hR.out).mono ?_); rintro e w1 ⟨rfl, hXn, hRn⟩; replace hX := hX.trans hXn; replace hR := Lib.hid hRn; replace hA := Lib.hid (hXn.heap hA.out hne); clear hXn hRn)
   | (go_at_call 24; (with_reducible refine (C1.out _ hR.out).mono ?_); rintro e w1 ⟨rfl, hXn, hRn⟩; replace hX := hX.trans hXn; replace hR := Lib.hid hRn; replace hA := Lib.hid (hXn.heap hA.out hne); clear hXn hRn)
   | (go_at_call 24; (with_reducible refine (C2.out _ hR.out).mono ?_); rintro e w1 ⟨rfl, hXn, hRn⟩; replace hX := hX.trans hXn; replace hR := Lib.hid hRn; replace hA := Lib.hid (hXn.heap hA.out hne); clear hXn hRn)
   | (go_at_call 24; (with_reducible refine (C3.out _ hR.out).mono ?_); rintro e w1 ⟨rfl, hXn, hRn⟩; replace hX := hX.trans hXn; replace hR := Lib.hid hRn; replace hA := Lib.hid (hXn.heap hA.out hne); clear hXn hRn)
   | (go_at_call 36; (with_reducible refine (D.out _ hR.out).mono ?_); rintro e w1 ⟨rfl, hXn⟩; skip))
  exact ⟨rfl, rfl, hX.trans hXn⟩
 | large =>
  rw [hQ] at D
  replace D := Lib.hid D
  go_enter Tryd.func23, Tryd.ntmps23
  go_wp2_with (first
   | (go_at_call 24; (with_reducible refine (C0.out _ hR.out).mono ?_); rintro e w1 ⟨rfl, hXn, hRn⟩; replace hX := hX.trans hXn; replace hR := Lib.hid hRn; replace hA := Lib.hid (hXn.heap hA.out hne); clear hXn hRn)
   | (go_at_call 24; (with_reducible refine (C1.out _ hR.out).mono ?_); rintro e w1 ⟨rfl, hXn, hRn⟩; replace hX := hX.trans hXn; replace hR := Lib.hid hRn; replace hA := Lib.hid (hXn.heap hA.out hne); clear hXn hRn)
   | (go_at_call 24; (with_reducible refine (C2.out _ hR.out).mono ?_); rintro e w1 ⟨rfl, hXn, hRn⟩; replace hX := hX.trans hXn; replace hR := Lib.hid hRn; replace hA := Lib.hid (hXn.heap hA.out hne); clear hXn hRn)
   | (go_at_call 24; (with_reducible refine (C3.out _ hR.out).mono ?_); rintro e w1 ⟨rfl, hXn, hRn⟩; replace hX := hX.trans hXn; replace hR := Lib.hid hRn; replace hA := Lib.hid (hXn.heap hA.out hne); clear hXn hRn)
   | (go_at_call 36; (with_reducible refine (D.out _ hR.out).mono ?_); rintro e w1 ⟨rfl, hXn⟩; skip))
  exact ⟨rfl, rfl, hX.trans hXn⟩
 | ok p l =>
  rw [hQ] at D
  replace D := Lib.hid D
  go_enter Tryd.func23, Tryd.ntmps23
  go_wp2_with (first
   | (go_at_call 24; (with_reducible refine (C0.out _ hR.out).mono ?_); rintro e w1 ⟨rfl, hXn, hRn⟩; replace hX := hX.trans hXn; replace hR := Lib.hid hRn; replace hA := Lib.hid (hXn.heap hA.out hne); clear hXn hRn)
   | (go_at_call 24; (with_reducible refine (C1.out _ hR.out).mono ?_); rintro e w1 ⟨rfl, hXn, hRn⟩; replace hX := hX.trans hXn; replace hR := Lib.hid hRn; replace hA := Lib.hid (hXn.heap hA.out hne); clear hXn hRn)
   | (go_at_call 24; (with_reducible refine (C2.out _ hR.out).mono ?_); rintro e w1 ⟨rfl, hXn, hRn⟩; replace hX := hX.trans hXn; replace hR := Lib.hid hRn; replace hA := Lib.hid (hXn.heap hA.out hne); clear hXn hRn)
   | (go_at_call 24; (with_reducible refine (C3.out _ hR.out).mono ?_); rintro e w1 ⟨rfl, hXn, hRn⟩; replace hX := hX.trans hXn; replace hR := Lib.hid hRn; replace hA := Lib.hid (hXn.heap hA.out hne); clear hXn hRn)
   | (go_at_call 36; (with_reducible refine (D.out _ hR.out).mono ?_); rintro e w1 ⟨v, n2, rfl, rfl, hn2, hXn, hRn, sv, rfl, hS⟩; obtain ⟨sa, sn, sc, rfl⟩ := svAt_shape hS; have hz := (Array.getElem?_eq_some_iff.1 hA.out).1; have hz2 := hXn.size; replace hX := hX.trans hXn; replace hR := Lib.hid hRn; replace hA := Lib.hid (hXn.heap hA.out hne); clear hXn hRn; have BA := Box4.of hA.out; obtain ⟨⟨k0, k1, k2, k3⟩, ⟨f0, f1, f2, f3⟩, hbl⟩ := BA))
  obtain ⟨⟨c0, c1, c2, c3⟩, hXf, hRf, hkf, hsf⟩ := fin4 hX (Nat.le_refl _) hne hne2 (Box4.of hA.out) hR.out (.int .i64 p.kind) (.int .i64 p.frm) (.int .i64 p.to) (.slice sa sn sc)
  refine bodyPost_ret (v := .agg #[.int .i64 p.kind, .int .i64 p.frm, .int .i64 p.to, .slice sa sn sc]) (by simp [results, Tryd.results23, go_sem, c0, c1, c2, c3]) rfl ?_
  exact ⟨_, n2, rfl, rfl, hn2, hXf, hRf, _, rfl, SvAt.mono (by omega) (fun k hk1 hk2 => hkf k (by have := hk1.1; omega)) (fun k hk1 hk2 => ⟨by have := hk1.1; omega, by omega⟩) p _ hS⟩
theorem part_even {f n deep : Nat} {t : TokD} {W : World} (hT : Toks T) (hp : PrefS T tb off cap rb f) (hd : deep ≤ 100) (h : RdAt T tb off cap rb W n deep) (ht : T[n]? = some t) (q0 : takB ⟨#[103, 114, 111, 117, 112]⟩ t = false) (q1 : takB ⟨#[112, 114, 101, 115, 101, 116]⟩ t = false) (q2 : takB ⟨#[40]⟩ t = false) (q3 : takB ⟨#[111, 100, 100]⟩ t = false) (q4 : takB ⟨#[101, 118, 101, 110]⟩ t = true) (ho : prfP f deep (.mk 7 0 0 []) (T.drop (n + 1)) ≠ .out) :
  Calls Tryd.prog 23 #[.pointer (some ⟨rb, 0, none⟩)] W (PostP T tb off cap rb deep W (prfP f deep (.mk 7 0 0 []) (T.drop (n + 1)))) := by
 have hn := hT.next ht (takB_ne (s := wEven) (by decide) q4)
 have hrb := h.here.2.2
 have htb := h.tb_lt (List.getElem?_eq_some_iff.1 ht).1
 have hne : W.heap.size ≠ rb := by omega
 have hne2 : W.heap.size ≠ tb := by omega
 have hG1 : Gr W (W.alloc (.cells #[.int .i64 0, .int .i64 0, .int .i64 0, .slice none 0 0] 24)) := Gr.alloc (Gr.refl W) _
 have hA := Lib.hid (heap_last W (.cells #[.int .i64 0, .int .i64 0, .int .i64 0, .slice none 0 0] 24))
 have hR := Lib.hid (h.mono hG1)
 have hX : GrX rb W (W.alloc (.cells #[.int .i64 0, .int .i64 0, .int .i64 0, .slice none 0 0] 24)) := GrX.ofG hG1
 clear h hG1
 have C0 := Lib.hid (take_no (tb := tb) (off := off) (cap := cap) (rb := rb) (deep := deep) hT ht q0)
 have C1 := Lib.hid (take_no (tb := tb) (off := off) (cap := cap) (rb := rb) (deep := deep) hT ht q1)
 have C2 := Lib.hid (take_no (tb := tb) (off := off) (cap := cap) (rb := rb) (deep := deep) hT ht q2)
 have C3 := Lib.hid (take_no (tb := tb) (off := off) (cap := cap) (rb := rb) (deep := deep) hT ht q3)
 have C4 := Lib.hid (take_yes (tb := tb) (off := off) (cap := cap) (rb := rb) (deep := deep) hT ht q4)
 have D : ∀ w, RdAt T tb off cap rb w (n + 1) deep → Calls Tryd.prog 36 #[.pointer (some ⟨rb, 0, none⟩), .agg #[.int .i64 7, .int .i64 0, .int .i64 0, .slice none 0 0]] w (PostP T tb off cap rb deep w (prfP f deep (.mk 7 0 0 []) (T.drop (n + 1)))) := fun w hw => hp w (n + 1) deep (.mk 7 0 0 []) hd hw hn ho
 cases hQ : prfP f deep (.mk 7 0 0 []) (T.drop (n + 1)) with
 | out => exact absurd hQ ho
 | bad m =>
  rw [hQ] at D
  replace D := Lib.hid D
  go_enter Tryd.func23, Tryd.ntmps23
  go_wp2_with (first
   | (go_at_call 24; (with_reducible refine (C0.out _ hR.out).mono ?_); rintro e w1 ⟨rfl, hXn, hRn⟩; replace hX := hX.trans hXn; replace hR := Lib.hid hRn; replace hA := Lib.hid (hXn.heap hA.out hne); clear hXn hRn)
   | (go_at_call 24; (with_reducible refine (C1.out _ hR.out).mono ?_); rintro e w1 ⟨rfl, hXn, hRn⟩; replace hX := hX.trans hXn; replace hR := Lib.hid hRn; replace hA := Lib.hid (hXn.heap hA.out hne); clear hXn hRn)
   | (go_at_call 24; (with_reducible refine (C2.out _ hR.out).mono ?_); rintro e w1 ⟨rfl, hXn, hRn⟩; replace hX := hX.trans hXn; replace hR := Lib.hid hRn; replace hA := Lib.hid (hXn.heap hA.out hne); clear hXn hRn)
   | (go_at_call 24; (with_reducible refine (C3.out _ hR.out).mono ?_); rintro e w1 ⟨rfl, hXn, hRn⟩; replace hX := hX.trans hXn; replace hR := Lib.hid hRn; replace hA := Lib.hid (hXn.heap hA.out hne); clear hXn hRn)
   | (go_at_call 24; (with_reducible refine (C4.out _ hR.out).mono ?_); rintro e w1 ⟨rfl, hXn, hRn⟩; replace hX := hX.trans hXn; replace hR := Lib.hid hRn; replace hA := Lib.hid (hXn.heap hA.out hne); clear hXn hRn)
   | (go_at_call 36; (with_reducible refine (D.out _ hR.out).mono ?_); rintro e w1 ⟨rfl, hXn⟩; skip))
  exact ⟨rfl, rfl, hX.trans hXn⟩
 | large =>
  rw [hQ] at D
  replace D := Lib.hid D
  go_enter Tryd.func23, Tryd.ntmps23
  go_wp2_with (first
   | (go_at_call 24; (with_reducible refine (C0.out _ hR.out).mono ?_); rintro e w1 ⟨rfl, hXn, hRn⟩; replace hX := hX.trans hXn; replace hR := Lib.hid hRn; replace hA := Lib.hid (hXn.heap hA.out hne); clear hXn hRn)
   | (go_at_call 24; (with_reducible refine (C1.out _ hR.out).mono ?_); rintro e w1 ⟨rfl, hXn, hRn⟩; replace hX := hX.trans hXn; replace hR := Lib.hid hRn; replace hA := Lib.hid (hXn.heap hA.out hne); clear hXn hRn)
   | (go_at_call 24; (with_reducible refine (C2.out _ hR.out).mono ?_); rintro e w1 ⟨rfl, hXn, hRn⟩; replace hX := hX.trans hXn; replace hR := Lib.hid hRn; replace hA := Lib.hid (hXn.heap hA.out hne); clear hXn hRn)
   | (go_at_call 24; (with_reducible refine (C3.out _ hR.out).mono ?_); rintro e w1 ⟨rfl, hXn, hRn⟩; replace hX := hX.trans hXn; replace hR := Lib.hid hRn; replace hA := Lib.hid (hXn.heap hA.out hne); clear hXn hRn)
   | (go_at_call 24; (with_reducible refine (C4.out _ hR.out).mono ?_); rintro e w1 ⟨rfl, hXn, hRn⟩; replace hX := hX.trans hXn; replace hR := Lib.hid hRn; replace hA := Lib.hid (hXn.heap hA.out hne); clear hXn hRn)
   | (go_at_call 36; (with_reducible refine (D.out _ hR.out).mono ?_); rintro e w1 ⟨rfl, hXn⟩; skip))
  exact ⟨rfl, rfl, hX.trans hXn⟩
 | ok p l =>
  rw [hQ] at D
  replace D := Lib.hid D
  go_enter Tryd.func23, Tryd.ntmps23
  go_wp2_with (first
   | (go_at_call 24; (with_reducible refine (C0.out _ hR.out).mono ?_); rintro e w1 ⟨rfl, hXn, hRn⟩; replace hX := hX.trans hXn; replace hR := Lib.hid hRn; replace hA := Lib.hid (hXn.heap hA.out hne); clear hXn hRn)
   | (go_at_call 24; (with_reducible refine (C1.out _ hR.out).mono ?_); rintro e w1 ⟨rfl, hXn, hRn⟩; replace hX := hX.trans hXn; replace hR := Lib.hid hRn; replace hA := Lib.hid (hXn.heap hA.out hne); clear hXn hRn)
   | (go_at_call 24; (with_reducible refine (C2.out _ hR.out).mono ?_); rintro e w1 ⟨rfl, hXn, hRn⟩; replace hX := hX.trans hXn; replace hR := Lib.hid hRn; replace hA := Lib.hid (hXn.heap hA.out hne); clear hXn hRn)
   | (go_at_call 24; (with_reducible refine (C3.out _ hR.out).mono ?_); rintro e w1 ⟨rfl, hXn, hRn⟩; replace hX := hX.trans hXn; replace hR := Lib.hid hRn; replace hA := Lib.hid (hXn.heap hA.out hne); clear hXn hRn)
   | (go_at_call 24; (with_reducible refine (C4.out _ hR.out).mono ?_); rintro e w1 ⟨rfl, hXn, hRn⟩; replace hX := hX.trans hXn; replace hR := Lib.hid hRn; replace hA := Lib.hid (hXn.heap hA.out hne); clear hXn hRn)
   | (go_at_call 36; (with_reducible refine (D.out _ hR.out).mono ?_); rintro e w1 ⟨v, n2, rfl, rfl, hn2, hXn, hRn, sv, rfl, hS⟩; obtain ⟨sa, sn, sc, rfl⟩ := svAt_shape hS; have hz := (Array.getElem?_eq_some_iff.1 hA.out).1; have hz2 := hXn.size; replace hX := hX.trans hXn; replace hR := Lib.hid hRn; replace hA := Lib.hid (hXn.heap hA.out hne); clear hXn hRn; have BA := Box4.of hA.out; obtain ⟨⟨k0, k1, k2, k3⟩, ⟨f0, f1, f2, f3⟩, hbl⟩ := BA))
  obtain ⟨⟨c0, c1, c2, c3⟩, hXf, hRf, hkf, hsf⟩ := fin4 hX (Nat.le_refl _) hne hne2 (Box4.of hA.out) hR.out (.int .i64 p.kind) (.int .i64 p.frm) (.int .i64 p.to) (.slice sa sn sc)
  refine bodyPost_ret (v := .agg #[.int .i64 p.kind, .int .i64 p.frm, .int .i64 p.to, .slice sa sn sc]) (by simp [results, Tryd.results23, go_sem, c0, c1, c2, c3]) rfl ?_
  exact ⟨_, n2, rfl, rfl, hn2, hXf, hRf, _, rfl, SvAt.mono (by omega) (fun k hk1 hk2 => hkf k (by have := hk1.1; omega)) (fun k hk1 hk2 => ⟨by have := hk1.1; omega, by omega⟩) p _ hS⟩
theorem part_back {f n deep : Nat} {t : TokD} {W : World} (hT : Toks T) (hp : PrefS T tb off cap rb f) (hd : deep ≤ 100) (h : RdAt T tb off cap rb W n deep) (ht : T[n]? = some t) (q0 : takB ⟨#[103, 114, 111, 117, 112]⟩ t = false) (q1 : takB ⟨#[112, 114, 101, 115, 101, 116]⟩ t = false) (q2 : takB ⟨#[40]⟩ t = false) (q3 : takB ⟨#[111, 100, 100]⟩ t = false) (q4 : takB ⟨#[101, 118, 101, 110]⟩ t = false) (q5 : takB ⟨#[98, 97, 99, 107]⟩ t = true) (ho : prfP f deep (.mk 8 0 0 []) (T.drop (n + 1)) ≠ .out) :
  Calls Tryd.prog 23 #[.pointer (some ⟨rb, 0, none⟩)] W (PostP T tb off cap rb deep W (prfP f deep (.mk 8 0 0 []) (T.drop (n + 1)))) := by
 have hn := hT.next ht (takB_ne (s := wBk) (by decide) q5)
 have hrb := h.here.2.2
 have htb := h.tb_lt (List.getElem?_eq_some_iff.1 ht).1
 have hne : W.heap.size ≠ rb := by omega
 have hne2 : W.heap.size ≠ tb := by omega
 have hG1 : Gr W (W.alloc (.cells #[.int .i64 0, .int .i64 0, .int .i64 0, .slice none 0 0] 24)) := Gr.alloc (Gr.refl W) _
 have hA := Lib.hid (heap_last W (.cells #[.int .i64 0, .int .i64 0, .int .i64 0, .slice none 0 0] 24))
 have hR := Lib.hid (h.mono hG1)
 have hX : GrX rb W (W.alloc (.cells #[.int .i64 0, .int .i64 0, .int .i64 0, .slice none 0 0] 24)) := GrX.ofG hG1
 clear h hG1
 have C0 := Lib.hid (take_no (tb := tb) (off := off) (cap := cap) (rb := rb) (deep := deep) hT ht q0)
 have C1 := Lib.hid (take_no (tb := tb) (off := off) (cap := cap) (rb := rb) (deep := deep) hT ht q1)
 have C2 := Lib.hid (take_no (tb := tb) (off := off) (cap := cap) (rb := rb) (deep := deep) hT ht q2)
 have C3 := Lib.hid (take_no (tb := tb) (off := off) (cap := cap) (rb := rb) (deep := deep) hT ht q3)
 have C4 := Lib.hid (take_no (tb := tb) (off := off) (cap := cap) (rb := rb) (deep := deep) hT ht q4)
 have C5 := Lib.hid (take_yes (tb := tb) (off := off) (cap := cap) (rb := rb) (deep := deep) hT ht q5)
 have D : ∀ w, RdAt T tb off cap rb w (n + 1) deep → Calls Tryd.prog 36 #[.pointer (some ⟨rb, 0, none⟩), .agg #[.int .i64 8, .int .i64 0, .int .i64 0, .slice none 0 0]] w (PostP T tb off cap rb deep w (prfP f deep (.mk 8 0 0 []) (T.drop (n + 1)))) := fun w hw => hp w (n + 1) deep (.mk 8 0 0 []) hd hw hn ho
 cases hQ : prfP f deep (.mk 8 0 0 []) (T.drop (n + 1)) with
 | out => exact absurd hQ ho
 | bad m =>
  rw [hQ] at D
  replace D := Lib.hid D
  go_enter Tryd.func23, Tryd.ntmps23
  go_wp2_with (first
   | (go_at_call 24; (with_reducible refine (C0.out _ hR.out).mono ?_); rintro e w1 ⟨rfl, hXn, hRn⟩; replace hX := hX.trans hXn; replace hR := Lib.hid hRn; replace hA := Lib.hid (hXn.heap hA.out hne); clear hXn hRn)
   | (go_at_call 24; (with_reducible refine (C1.out _ hR.out).mono ?_); rintro e w1 ⟨rfl, hXn, hRn⟩; replace hX := hX.trans hXn; replace hR := Lib.hid hRn; replace hA := Lib.hid (hXn.heap hA.out hne); clear hXn hRn)
   | (go_at_call 24; (with_reducible refine (C2.out _ hR.out).mono ?_); rintro e w1 ⟨rfl, hXn, hRn⟩; replace hX := hX.trans hXn; replace hR := Lib.hid hRn; replace hA := Lib.hid (hXn.heap hA.out hne); clear hXn hRn)
   | (go_at_call 24; (with_reducible refine (C3.out _ hR.out).mono ?_); rintro e w1 ⟨rfl, hXn, hRn⟩; replace hX := hX.trans hXn; replace hR := Lib.hid hRn; replace hA := Lib.hid (hXn.heap hA.out hne); clear hXn hRn)
   | (go_at_call 24; (with_reducible refine (C4.out _ hR.out).mono ?_); rintro e w1 ⟨rfl, hXn, hRn⟩; replace hX := hX.trans hXn; replace hR := Lib.hid hRn; replace hA := Lib.hid (hXn.heap hA.out hne); clear hXn hRn)
   | (go_at_call 24; (with_reducible refine (C5.out _ hR.out).mono ?_); rintro e w1 ⟨rfl, hXn, hRn⟩; replace hX := hX.trans hXn; replace hR := Lib.hid hRn; replace hA := Lib.hid (hXn.heap hA.out hne); clear hXn hRn)
   | (go_at_call 36; (with_reducible refine (D.out _ hR.out).mono ?_); rintro e w1 ⟨rfl, hXn⟩; skip))
  exact ⟨rfl, rfl, hX.trans hXn⟩
 | large =>
  rw [hQ] at D
  replace D := Lib.hid D
  go_enter Tryd.func23, Tryd.ntmps23
  go_wp2_with (first
   | (go_at_call 24; (with_reducible refine (C0.out _ hR.out).mono ?_); rintro e w1 ⟨rfl, hXn, hRn⟩; replace hX := hX.trans hXn; replace hR := Lib.hid hRn; replace hA := Lib.hid (hXn.heap hA.out hne); clear hXn hRn)
   | (go_at_call 24; (with_reducible refine (C1.out _ hR.out).mono ?_); rintro e w1 ⟨rfl, hXn, hRn⟩; replace hX := hX.trans hXn; replace hR := Lib.hid hRn; replace hA := Lib.hid (hXn.heap hA.out hne); clear hXn hRn)
   | (go_at_call 24; (with_reducible refine (C2.out _ hR.out).mono ?_); rintro e w1 ⟨rfl, hXn, hRn⟩; replace hX := hX.trans hXn; replace hR := Lib.hid hRn; replace hA := Lib.hid (hXn.heap hA.out hne); clear hXn hRn)
   | (go_at_call 24; (with_reducible refine (C3.out _ hR.out).mono ?_); rintro e w1 ⟨rfl, hXn, hRn⟩; replace hX := hX.trans hXn; replace hR := Lib.hid hRn; replace hA := Lib.hid (hXn.heap hA.out hne); clear hXn hRn)
   | (go_at_call 24; (with_reducible refine (C4.out _ hR.out).mono ?_); rintro e w1 ⟨rfl, hXn, hRn⟩; replace hX := hX.trans hXn; replace hR := Lib.hid hRn; replace hA := Lib.hid (hXn.heap hA.out hne); clear hXn hRn)
   | (go_at_call 24; (with_reducible refine (C5.out _ hR.out).mono ?_); rintro e w1 ⟨rfl, hXn, hRn⟩; replace hX := hX.trans hXn; replace hR := Lib.hid hRn; replace hA := Lib.hid (hXn.heap hA.out hne); clear hXn hRn)
   | (go_at_call 36; (with_reducible refine (D.out _ hR.out).mono ?_); rintro e w1 ⟨rfl, hXn⟩; skip))
  exact ⟨rfl, rfl, hX.trans hXn⟩
 | ok p l =>
  rw [hQ] at D
  replace D := Lib.hid D
  go_enter Tryd.func23, Tryd.ntmps23
  go_wp2_with (first
   | (go_at_call 24; (with_reducible refine (C0.out _ hR.out).mono ?_); rintro e w1 ⟨rfl, hXn, hRn⟩; replace hX := hX.trans hXn; replace hR := Lib.hid hRn; replace hA := Lib.hid (hXn.heap hA.out hne); clear hXn hRn)
   | (go_at_call 24; (with_reducible refine (C1.out _ hR.out).mono ?_); rintro e w1 ⟨rfl, hXn, hRn⟩; replace hX := hX.trans hXn; replace hR := Lib.hid hRn; replace hA := Lib.hid (hXn.heap hA.out hne); clear hXn hRn)
   | (go_at_call 24; (with_reducible refine (C2.out _ hR.out).mono ?_); rintro e w1 ⟨rfl, hXn, hRn⟩; replace hX := hX.trans hXn; replace hR := Lib.hid hRn; replace hA := Lib.hid (hXn.heap hA.out hne); clear hXn hRn)
   | (go_at_call 24; (with_reducible refine (C3.out _ hR.out).mono ?_); rintro e w1 ⟨rfl, hXn, hRn⟩; replace hX := hX.trans hXn; replace hR := Lib.hid hRn; replace hA := Lib.hid (hXn.heap hA.out hne); clear hXn hRn)
   | (go_at_call 24; (with_reducible refine (C4.out _ hR.out).mono ?_); rintro e w1 ⟨rfl, hXn, hRn⟩; replace hX := hX.trans hXn; replace hR := Lib.hid hRn; replace hA := Lib.hid (hXn.heap hA.out hne); clear hXn hRn)
   | (go_at_call 24; (with_reducible refine (C5.out _ hR.out).mono ?_); rintro e w1 ⟨rfl, hXn, hRn⟩; replace hX := hX.trans hXn; replace hR := Lib.hid hRn; replace hA := Lib.hid (hXn.heap hA.out hne); clear hXn hRn)
   | (go_at_call 36; (with_reducible refine (D.out _ hR.out).mono ?_); rintro e w1 ⟨v, n2, rfl, rfl, hn2, hXn, hRn, sv, rfl, hS⟩; obtain ⟨sa, sn, sc, rfl⟩ := svAt_shape hS; have hz := (Array.getElem?_eq_some_iff.1 hA.out).1; have hz2 := hXn.size; replace hX := hX.trans hXn; replace hR := Lib.hid hRn; replace hA := Lib.hid (hXn.heap hA.out hne); clear hXn hRn; have BA := Box4.of hA.out; obtain ⟨⟨k0, k1, k2, k3⟩, ⟨f0, f1, f2, f3⟩, hbl⟩ := BA))
  obtain ⟨⟨c0, c1, c2, c3⟩, hXf, hRf, hkf, hsf⟩ := fin4 hX (Nat.le_refl _) hne hne2 (Box4.of hA.out) hR.out (.int .i64 p.kind) (.int .i64 p.frm) (.int .i64 p.to) (.slice sa sn sc)
  refine bodyPost_ret (v := .agg #[.int .i64 p.kind, .int .i64 p.frm, .int .i64 p.to, .slice sa sn sc]) (by simp [results, Tryd.results23, go_sem, c0, c1, c2, c3]) rfl ?_
  exact ⟨_, n2, rfl, rfl, hn2, hXf, hRf, _, rfl, SvAt.mono (by omega) (fun k hk1 hk2 => hkf k (by have := hk1.1; omega)) (fun k hk1 hk2 => ⟨by have := hk1.1; omega, by omega⟩) p _ hS⟩
end
end Go.Proofs.YtfalbgflabajbaaDoor

namespace Go.Proofs.YtfalbgflabajbaaDoor
set_option linter.unusedSectionVars false
open Go.RowKit Go.Sort
set_option linter.unusedVariables false
set_option linter.unusedSimpArgs false
set_option maxRecDepth 100000
section
variable {T : List TokD} {tb off cap rb : Nat}
theorem take_after {s : List UInt8} {l l3 : List TokD} {n2 : Nat} (hq : takP s l = some l3) (hl : l = T.drop n2) (hn : n2 < T.length) : ∃ t2, T[n2]? = some t2 ∧ takB (bZ s) t2 = true ∧ l3 = T.drop (n2 + 1) := by
 have ht : T[n2]? = some T[n2] := List.getElem?_eq_getElem hn
 refine ⟨T[n2], ht, ?_⟩
 rw [hl, drop_at ht, takP_eq] at hq
 split at hq
 ·rename_i h; injection hq with hq; exact ⟨h, hq.symm⟩
 ·cases hq
theorem take_none {s : List UInt8} {l : List TokD} {n2 : Nat} (hq : takP s l = none) (hl : l = T.drop n2) (hn : n2 < T.length) : ∃ t2, T[n2]? = some t2 ∧ takB (bZ s) t2 = false ∧ posP l = t2.pos := by
 have ht : T[n2]? = some T[n2] := List.getElem?_eq_getElem hn
 refine ⟨T[n2], ht, ?_⟩
 rw [hl, drop_at ht]
 rw [hl, drop_at ht, takP_eq] at hq
 split at hq
 ·cases hq
 ·rename_i h; exact ⟨by simpa using h, rfl⟩
theorem RdAt.dec {n deep : Nat} {w : World} (h : RdAt T tb off cap rb w n (deep + 1)) : RdAt T tb off cap rb (w.setCell ⟨rb, 2, none⟩ (.int .i64 (deep : Int))) n deep := by
 refine ⟨Box3.st2 h.here, h.ne, fun i t ht => ?_⟩
 have k := h.word i t ht
 have e : ∀ j, (w.setCell ⟨rb, 2, none⟩ (.int .i64 (deep : Int))).cell? ⟨tb, j, none⟩ = w.cell? ⟨tb, j, none⟩ := fun j => by simp only [World.cell?, heap_setCell_ne w (Ne.symm h.ne)]
 rw [e, e, e]
 exact k
theorem part_open {f n deep : Nat} {t : TokD} {W : World} (hT : Toks T) (hw : WholeS T tb off cap rb f) (hd : deep ≤ 100) (h : RdAt T tb off cap rb W n deep) (ht : T[n]? = some t) (q0 : takB ⟨#[103, 114, 111, 117, 112]⟩ t = false) (q1 : takB ⟨#[112, 114, 101, 115, 101, 116]⟩ t = false) (q2 : takB ⟨#[40]⟩ t = true) (ho : (if 100 ≤ deep then PR.large else (whlP f (deep + 1) (T.drop (n + 1))).bind fun p l2 => match takP wShut l2 with | some l3 => .ok p l3 | none => .bad (posP l2)) ≠ .out) :
  Calls Tryd.prog 23 #[.pointer (some ⟨rb, 0, none⟩)] W (PostP T tb off cap rb deep W (if 100 ≤ deep then PR.large else (whlP f (deep + 1) (T.drop (n + 1))).bind fun p l2 => match takP wShut l2 with | some l3 => .ok p l3 | none => .bad (posP l2))) := by
 have hn := hT.next ht (takB_ne (s := wOpen) (by decide) q2)
 have hrb := h.here.2.2
 have htb := h.tb_lt (List.getElem?_eq_some_iff.1 ht).1
 have hne : W.heap.size ≠ rb := by omega
 have hne2 : W.heap.size ≠ tb := by omega
 have hG1 : Gr W (W.alloc (.cells #[.int .i64 0, .int .i64 0, .int .i64 0, .slice none 0 0] 24)) := Gr.alloc (Gr.refl W) _
 have hA := Lib.hid (heap_last W (.cells #[.int .i64 0, .int .i64 0, .int .i64 0, .slice none 0 0] 24))
 have hR := Lib.hid (h.mono hG1)
 have hX : GrX rb W (W.alloc (.cells #[.int .i64 0, .int .i64 0, .int .i64 0, .slice none 0 0] 24)) := GrX.ofG hG1
 clear h hG1
 have C0 := Lib.hid (take_no (tb := tb) (off := off) (cap := cap) (rb := rb) (deep := deep) hT ht q0)
 have C1 := Lib.hid (take_no (tb := tb) (off := off) (cap := cap) (rb := rb) (deep := deep) hT ht q1)
 have C2 := Lib.hid (take_yes (tb := tb) (off := off) (cap := cap) (rb := rb) (deep := deep) hT ht q2)
 by_cases h100 : 100 ≤ deep
 ·rw [if_pos h100]
  have D : ∀ w, RdAt T tb off cap rb w (n + 1) deep → _ := fun w hw => enter_deep hw h100 (by omega)
  replace D := Lib.hid D
  go_enter Tryd.func23, Tryd.ntmps23
  go_wp2_with (first
   | (go_at_call 24; (with_reducible refine (C0.out _ hR.out).mono ?_); rintro e w1 ⟨rfl, hXn, hRn⟩; replace hX := hX.trans hXn; replace hR := Lib.hid hRn; replace hA := Lib.hid (hXn.heap hA.out hne); clear hXn hRn)
   | (go_at_call 24; (with_reducible refine (C1.out _ hR.out).mono ?_); rintro e w1 ⟨rfl, hXn, hRn⟩; replace hX := hX.trans hXn; replace hR := Lib.hid hRn; replace hA := Lib.hid (hXn.heap hA.out hne); clear hXn hRn)
   | (go_at_call 24; (with_reducible refine (C2.out _ hR.out).mono ?_); rintro e w1 ⟨rfl, hXn, hRn⟩; replace hX := hX.trans hXn; replace hR := Lib.hid hRn; replace hA := Lib.hid (hXn.heap hA.out hne); clear hXn hRn)
   | (go_at_call 35; (with_reducible refine (D.out _ hR.out).mono ?_); rintro e w1 ⟨rfl, hXn⟩; skip))
  exact ⟨rfl, rfl, hX.trans hXn⟩
 rw [if_neg h100] at ho ⊢
 have D : ∀ w, RdAt T tb off cap rb w (n + 1) deep → _ := fun w hw => enter_any hw (by omega)
 replace D := Lib.hid D
 have E : ∀ w, RdAt T tb off cap rb w (n + 1) (deep + 1) → _ := fun w hw1 => hw w (n + 1) (deep + 1) (by omega) hw1 hn (fun e => ho (by rw [e]; rfl))
 cases hQ : whlP f (deep + 1) (T.drop (n + 1)) with
 | out => exact absurd (by rw [hQ]; rfl) ho
 | bad m =>
  rw [hQ] at E
  replace E := Lib.hid E
  go_enter Tryd.func23, Tryd.ntmps23
  go_wp2_with (first
   | (go_at_call 24; (with_reducible refine (C0.out _ hR.out).mono ?_); rintro e w1 ⟨rfl, hXn, hRn⟩; replace hX := hX.trans hXn; replace hR := Lib.hid hRn; replace hA := Lib.hid (hXn.heap hA.out hne); clear hXn hRn)
   | (go_at_call 24; (with_reducible refine (C1.out _ hR.out).mono ?_); rintro e w1 ⟨rfl, hXn, hRn⟩; replace hX := hX.trans hXn; replace hR := Lib.hid hRn; replace hA := Lib.hid (hXn.heap hA.out hne); clear hXn hRn)
   | (go_at_call 24; (with_reducible refine (C2.out _ hR.out).mono ?_); rintro e w1 ⟨rfl, hXn, hRn⟩; replace hX := hX.trans hXn; replace hR := Lib.hid hRn; replace hA := Lib.hid (hXn.heap hA.out hne); clear hXn hRn)
   | (go_at_call 35; (with_reducible refine (D.out _ hR.out).mono ?_); rintro e w1 ⟨rfl, hXn, hRn⟩; replace hX := hX.trans hXn; replace hR := Lib.hid hRn; replace hA := Lib.hid (hXn.heap hA.out hne); clear hXn hRn)
   | (go_at_call 11; (with_reducible refine (E.out _ hR.out).mono ?_); rintro e w1 ⟨rfl, hXn⟩; skip))
  exact ⟨rfl, rfl, hX.trans hXn⟩
 | large =>
  rw [hQ] at E
  replace E := Lib.hid E
  go_enter Tryd.func23, Tryd.ntmps23
  go_wp2_with (first
   | (go_at_call 24; (with_reducible refine (C0.out _ hR.out).mono ?_); rintro e w1 ⟨rfl, hXn, hRn⟩; replace hX := hX.trans hXn; replace hR := Lib.hid hRn; replace hA := Lib.hid (hXn.heap hA.out hne); clear hXn hRn)
   | (go_at_call 24; (with_reducible refine (C1.out _ hR.out).mono ?_); rintro e w1 ⟨rfl, hXn, hRn⟩; replace hX := hX.trans hXn; replace hR := Lib.hid hRn; replace hA := Lib.hid (hXn.heap hA.out hne); clear hXn hRn)
   | (go_at_call 24; (with_reducible refine (C2.out _ hR.out).mono ?_); rintro e w1 ⟨rfl, hXn, hRn⟩; replace hX := hX.trans hXn; replace hR := Lib.hid hRn; replace hA := Lib.hid (hXn.heap hA.out hne); clear hXn hRn)
   | (go_at_call 35; (with_reducible refine (D.out _ hR.out).mono ?_); rintro e w1 ⟨rfl, hXn, hRn⟩; replace hX := hX.trans hXn; replace hR := Lib.hid hRn; replace hA := Lib.hid (hXn.heap hA.out hne); clear hXn hRn)
   | (go_at_call 11; (with_reducible refine (E.out _ hR.out).mono ?_); rintro e w1 ⟨rfl, hXn⟩; skip))
  exact ⟨rfl, rfl, hX.trans hXn⟩
 | ok p l =>
  rw [hQ] at E
  replace E := Lib.hid E
  have HW := Lib.hid (show IntKind.i64.wrap (((deep + 1 : Nat) : Int) - 1) = (deep : Int) by rw [wrap_in (by omega)]; omega)
  show Calls _ _ _ _ (PostP T tb off cap rb deep W (match takP wShut l with | some l3 => PR.ok p l3 | none => .bad (posP l)))
  cases hL : takP wShut l with
  | none =>
   go_enter Tryd.func23, Tryd.ntmps23
   go_wp2_with (first
    | (go_at_call 24; (with_reducible refine (C0.out _ hR.out).mono ?_); rintro e w1 ⟨rfl, hXn, hRn⟩; replace hX := hX.trans hXn; replace hR := Lib.hid hRn; replace hA := Lib.hid (hXn.heap hA.out hne); clear hXn hRn)
    | (go_at_call 24; (with_reducible refine (C1.out _ hR.out).mono ?_); rintro e w1 ⟨rfl, hXn, hRn⟩; replace hX := hX.trans hXn; replace hR := Lib.hid hRn; replace hA := Lib.hid (hXn.heap hA.out hne); clear hXn hRn)
    | (go_at_call 24; (with_reducible refine (C2.out _ hR.out).mono ?_); rintro e w1 ⟨rfl, hXn, hRn⟩; replace hX := hX.trans hXn; replace hR := Lib.hid hRn; replace hA := Lib.hid (hXn.heap hA.out hne); clear hXn hRn)
    | (go_at_call 35; (with_reducible refine (D.out _ hR.out).mono ?_); rintro e w1 ⟨rfl, hXn, hRn⟩; replace hX := hX.trans hXn; replace hR := Lib.hid hRn; replace hA := Lib.hid (hXn.heap hA.out hne); clear hXn hRn)
    | (go_at_call 11; (with_reducible refine (E.out _ hR.out).mono ?_); rintro e w1 ⟨v, n2, rfl, hl2, hn2, hXn, hRn, sv, rfl, hS⟩; obtain ⟨sa, sn, sc, rfl⟩ := svAt_shape hS; have hz := (Array.getElem?_eq_some_iff.1 hA.out).1; have hz2 := hXn.size; have hB := Lib.hid (heap_last w1 (.cells #[.int .i64 p.kind, .int .i64 p.frm, .int .i64 p.to, .slice sa sn sc] 24)); replace hX := (hX.trans hXn).alloc (.cells #[.int .i64 p.kind, .int .i64 p.frm, .int .i64 p.to, .slice sa sn sc] 24); replace hA := Lib.hid (heap_old _ (.cells #[.int .i64 p.kind, .int .i64 p.frm, .int .i64 p.to, .slice sa sn sc] 24) _ _ (Nat.lt_of_lt_of_le hz hz2) (hXn.heap hA.out hne)); replace hR := Lib.hid (hRn.mono (Gr.alloc (Gr.refl w1) (.cells #[.int .i64 p.kind, .int .i64 p.frm, .int .i64 p.to, .slice sa sn sc] 24))); replace hS := Lib.hid (SvAt.mono (Q := fun k => W.heap.size < k) (Gr.alloc (Gr.refl w1) (.cells #[.int .i64 p.kind, .int .i64 p.frm, .int .i64 p.to, .slice sa sn sc] 24)).size (fun k _ hk => (Gr.alloc (Gr.refl w1) (.cells #[.int .i64 p.kind, .int .i64 p.frm, .int .i64 p.to, .slice sa sn sc] 24)).below.block k hk) (fun k hk1 hk2 => by have := hk1.1; omega) p _ hS); clear hXn hRn; obtain ⟨t2, ht2, q9, hpos⟩ := take_none hL hl2 hn2; have q9 : takB ⟨#[41]⟩ t2 = false := q9)
    | (go_at_call 24; (with_reducible refine (take_no hT ht2 q9 _ hR.out).mono ?_); rintro e w2 ⟨rfl, hXn, hRn⟩; replace hX := hX.trans hXn; replace hR := Lib.hid hRn; clear hXn hRn)
    | (go_at_call 13; (with_reducible refine (refuse_any hR.out ht2 hT.len).mono ?_); rintro e w3 ⟨rfl, hXn⟩))
   exact ⟨rfl, by rw [← hl2, hpos], hX.trans (GrX.ofG hXn)⟩
  | some l3 =>
   go_enter Tryd.func23, Tryd.ntmps23
   go_wp2_with (first
    | (go_at_call 24; (with_reducible refine (C0.out _ hR.out).mono ?_); rintro e w1 ⟨rfl, hXn, hRn⟩; replace hX := hX.trans hXn; replace hR := Lib.hid hRn; replace hA := Lib.hid (hXn.heap hA.out hne); clear hXn hRn)
    | (go_at_call 24; (with_reducible refine (C1.out _ hR.out).mono ?_); rintro e w1 ⟨rfl, hXn, hRn⟩; replace hX := hX.trans hXn; replace hR := Lib.hid hRn; replace hA := Lib.hid (hXn.heap hA.out hne); clear hXn hRn)
    | (go_at_call 24; (with_reducible refine (C2.out _ hR.out).mono ?_); rintro e w1 ⟨rfl, hXn, hRn⟩; replace hX := hX.trans hXn; replace hR := Lib.hid hRn; replace hA := Lib.hid (hXn.heap hA.out hne); clear hXn hRn)
    | (go_at_call 35; (with_reducible refine (D.out _ hR.out).mono ?_); rintro e w1 ⟨rfl, hXn, hRn⟩; replace hX := hX.trans hXn; replace hR := Lib.hid hRn; replace hA := Lib.hid (hXn.heap hA.out hne); clear hXn hRn)
    | (go_at_call 11; (with_reducible refine (E.out _ hR.out).mono ?_); rintro e w1 ⟨v, n2, rfl, hl2, hn2, hXn, hRn, sv, rfl, hS⟩; obtain ⟨sa, sn, sc, rfl⟩ := svAt_shape hS; have hz := (Array.getElem?_eq_some_iff.1 hA.out).1; have hz2 := hXn.size; have hB := Lib.hid (heap_last w1 (.cells #[.int .i64 p.kind, .int .i64 p.frm, .int .i64 p.to, .slice sa sn sc] 24)); replace hX := (hX.trans hXn).alloc (.cells #[.int .i64 p.kind, .int .i64 p.frm, .int .i64 p.to, .slice sa sn sc] 24); replace hA := Lib.hid (heap_old _ (.cells #[.int .i64 p.kind, .int .i64 p.frm, .int .i64 p.to, .slice sa sn sc] 24) _ _ (Nat.lt_of_lt_of_le hz hz2) (hXn.heap hA.out hne)); replace hR := Lib.hid (hRn.mono (Gr.alloc (Gr.refl w1) (.cells #[.int .i64 p.kind, .int .i64 p.frm, .int .i64 p.to, .slice sa sn sc] 24))); replace hS := Lib.hid (SvAt.mono (Q := fun k => W.heap.size < k) (Gr.alloc (Gr.refl w1) (.cells #[.int .i64 p.kind, .int .i64 p.frm, .int .i64 p.to, .slice sa sn sc] 24)).size (fun k _ hk => (Gr.alloc (Gr.refl w1) (.cells #[.int .i64 p.kind, .int .i64 p.frm, .int .i64 p.to, .slice sa sn sc] 24)).below.block k hk) (fun k hk1 hk2 => by have := hk1.1; omega) p _ hS); clear hXn hRn; obtain ⟨t2, ht2, q9, hpos⟩ := take_after hL hl2 hn2; have hn3 := hT.next ht2 (takB_ne (s := wShut) (by decide) q9); have q9 : takB ⟨#[41]⟩ t2 = true := q9)
    | (go_at_call 24; (with_reducible refine (take_yes hT ht2 q9 _ hR.out).mono ?_); rintro e w2 ⟨rfl, hXn, hRn⟩; have hzb := (Array.getElem?_eq_some_iff.1 hB.out).1; have hB2 := hXn.heap hB.out (by omega); replace hX := hX.trans hXn; replace hA := Lib.hid (hXn.heap hA.out hne); replace hS := Lib.hid (SvAt.mono (Q := fun k => W.heap.size < k) hXn.size (fun k hk1 hk2 => hXn.block k hk2 (by have := hk1; omega)) (fun k hk1 _ => hk1) p _ hS.out); have BB := Box4.other (Box4.of hB2) (c := rb) (o := 2) (u := .int .i64 (deep : Int)) (by omega); have BA := Box4.other (Box4.of hA.out) (c := rb) (o := 2) (u := .int .i64 (deep : Int)) (by omega); have hRd := RdAt.dec hRn; have KR := hRn.here; obtain ⟨⟨r0, r1, r2⟩, ⟨g0, g1, g2⟩, hrl⟩ := KR; obtain ⟨⟨k0, k1, k2, k3⟩, ⟨f0, f1, f2, f3⟩, hbl⟩ := BA; obtain ⟨⟨b0, b1, b2, b3⟩, _, _⟩ := BB; have hw9 := HW.out))
   have BA := Box4.other (Box4.of hA.out) (c := rb) (o := 2) (u := .int .i64 (deep : Int)) (by omega)
   obtain ⟨⟨c0, c1, c2, c3⟩, hXf, hRf, hkf, hsf⟩ := fin4 (hX.set (o := 2) (.int .i64 (deep : Int))) (Nat.le_refl _) hne hne2 BA hRd (.int .i64 p.kind) (.int .i64 p.frm) (.int .i64 p.to) (.slice sa sn sc)
   refine bodyPost_ret (v := .agg #[.int .i64 p.kind, .int .i64 p.frm, .int .i64 p.to, .slice sa sn sc]) (by simp [results, Tryd.results23, go_sem, c0, c1, c2, c3]) rfl ?_
   have hs2 : (w2.setCell ⟨rb, 2, none⟩ (.int .i64 (deep : Int))).heap.size = w2.heap.size := by simp
   exact ⟨_, n2 + 1, rfl, hpos, hn3, hXf, hRf, _, rfl, SvAt.mono (by omega) (fun k hk1 hk2 => (hkf k (by have := hk1; omega)).trans (heap_setCell_ne w2 (by have := hk1; omega) 2 _)) (fun k hk1 hk2 => ⟨by have := hk1; omega, by omega⟩) p _ hS.out⟩
theorem Box4.grx {w w' : World} {b : Nat} {v0 v1 v2 v3 : Value} (k : Box4 w b v0 v1 v2 v3) (h : GrX rb w w') (hne : b ≠ rb) : Box4 w' b v0 v1 v2 v3 := by
 obtain ⟨⟨a0, a1, a2, a3⟩, ⟨f0, f1, f2, f3⟩, hlt⟩ := k
 have e := h.block b hlt hne
 refine ⟨⟨?_, ?_, ?_, ?_⟩, ⟨?_, ?_, ?_, ?_⟩, Nat.lt_of_lt_of_le hlt h.size⟩
 ·rw [← a0]; simp only [World.cell?, e]
 ·rw [← a1]; simp only [World.cell?, e]
 ·rw [← a2]; simp only [World.cell?, e]
 ·rw [← a3]; simp only [World.cell?, e]
 ·rw [← f0]; simp only [World.frozen?, e]
 ·rw [← f1]; simp only [World.frozen?, e]
 ·rw [← f2]; simp only [World.frozen?, e]
 ·rw [← f3]; simp only [World.frozen?, e]
theorem RdAt.back {n deep : Nat} {w : World} (h : RdAt T tb off cap rb w (n + 1) deep) : RdAt T tb off cap rb (w.setCell ⟨rb, 1, none⟩ (.int .i64 (n : Int))) n deep := by
 refine ⟨Box3.st1 h.here, h.ne, fun i t ht => ?_⟩
 have k := h.word i t ht
 have e : ∀ j, (w.setCell ⟨rb, 1, none⟩ (.int .i64 (n : Int))).cell? ⟨tb, j, none⟩ = w.cell? ⟨tb, j, none⟩ := fun j => by simp only [World.cell?, heap_setCell_ne w (Ne.symm h.ne)]
 rw [e, e, e]
 exact k
set_option maxHeartbeats 1000000 in
theorem part_every {f n deep : Nat} {t : TokD} {W : World} (hT : Toks T) (hp : PrefS T tb off cap rb f) (hd : deep ≤ 100) (h : RdAt T tb off cap rb W n deep) (ht : T[n]? = some t) (q0 : takB ⟨#[103, 114, 111, 117, 112]⟩ t = false) (q1 : takB ⟨#[112, 114, 101, 115, 101, 116]⟩ t = false) (q2 : takB ⟨#[40]⟩ t = false) (q3 : takB ⟨#[111, 100, 100]⟩ t = false) (q4 : takB ⟨#[101, 118, 101, 110]⟩ t = false) (q5 : takB ⟨#[98, 97, 99, 107]⟩ t = false) (q6 : takB ⟨#[101, 118, 101, 114, 121]⟩ t = true) (ho : (if 100 ≤ deep then PR.large else (numP (T.drop (n + 1))).bind fun m l2 => match takP wFrom l2 with | some l3 => (numP l3).bind fun m2 l4 => prfP f deep (.mk 9 m m2 []) l4 | none => .bad (posP l2)) ≠ .out) :
  Calls Tryd.prog 23 #[.pointer (some ⟨rb, 0, none⟩)] W (PostP T tb off cap rb deep W (if 100 ≤ deep then PR.large else (numP (T.drop (n + 1))).bind fun m l2 => match takP wFrom l2 with | some l3 => (numP l3).bind fun m2 l4 => prfP f deep (.mk 9 m m2 []) l4 | none => .bad (posP l2))) := by
 have hn := hT.next ht (takB_ne (s := wEvery) (by decide) q6)
 have hrb := h.here.2.2
 have htb := h.tb_lt (List.getElem?_eq_some_iff.1 ht).1
 have hne : W.heap.size ≠ rb := by omega
 have hne2 : W.heap.size ≠ tb := by omega
 have hG1 : Gr W (W.alloc (.cells #[.int .i64 0, .int .i64 0, .int .i64 0, .slice none 0 0] 24)) := Gr.alloc (Gr.refl W) _
 have hA := Lib.hid (heap_last W (.cells #[.int .i64 0, .int .i64 0, .int .i64 0, .slice none 0 0] 24))
 have hR := Lib.hid (h.mono hG1)
 have hX : GrX rb W (W.alloc (.cells #[.int .i64 0, .int .i64 0, .int .i64 0, .slice none 0 0] 24)) := GrX.ofG hG1
 clear h hG1
 have C0 := Lib.hid (take_no (tb := tb) (off := off) (cap := cap) (rb := rb) (deep := deep) hT ht q0)
 have C1 := Lib.hid (take_no (tb := tb) (off := off) (cap := cap) (rb := rb) (deep := deep) hT ht q1)
 have C2 := Lib.hid (take_no (tb := tb) (off := off) (cap := cap) (rb := rb) (deep := deep) hT ht q2)
 have C3 := Lib.hid (take_no (tb := tb) (off := off) (cap := cap) (rb := rb) (deep := deep) hT ht q3)
 have C4 := Lib.hid (take_no (tb := tb) (off := off) (cap := cap) (rb := rb) (deep := deep) hT ht q4)
 have C5 := Lib.hid (take_no (tb := tb) (off := off) (cap := cap) (rb := rb) (deep := deep) hT ht q5)
 have C6 := Lib.hid (take_yes (tb := tb) (off := off) (cap := cap) (rb := rb) (deep := deep) hT ht q6)
 by_cases h100 : 100 ≤ deep
 ·rw [if_pos h100]
  have D : ∀ w, RdAt T tb off cap rb w (n + 1) deep → _ := fun w hw => enter_deep hw h100 (by omega)
  replace D := Lib.hid D
  go_enter Tryd.func23, Tryd.ntmps23
  go_wp2_with (first
   | (go_at_call 24; (with_reducible refine (C0.out _ hR.out).mono ?_); rintro e w1 ⟨rfl, hXn, hRn⟩; replace hX := hX.trans hXn; replace hR := Lib.hid hRn; replace hA := Lib.hid (hXn.heap hA.out hne); clear hXn hRn)
   | (go_at_call 24; (with_reducible refine (C1.out _ hR.out).mono ?_); rintro e w1 ⟨rfl, hXn, hRn⟩; replace hX := hX.trans hXn; replace hR := Lib.hid hRn; replace hA := Lib.hid (hXn.heap hA.out hne); clear hXn hRn)
   | (go_at_call 24; (with_reducible refine (C2.out _ hR.out).mono ?_); rintro e w1 ⟨rfl, hXn, hRn⟩; replace hX := hX.trans hXn; replace hR := Lib.hid hRn; replace hA := Lib.hid (hXn.heap hA.out hne); clear hXn hRn)
   | (go_at_call 24; (with_reducible refine (C3.out _ hR.out).mono ?_); rintro e w1 ⟨rfl, hXn, hRn⟩; replace hX := hX.trans hXn; replace hR := Lib.hid hRn; replace hA := Lib.hid (hXn.heap hA.out hne); clear hXn hRn)
   | (go_at_call 24; (with_reducible refine (C4.out _ hR.out).mono ?_); rintro e w1 ⟨rfl, hXn, hRn⟩; replace hX := hX.trans hXn; replace hR := Lib.hid hRn; replace hA := Lib.hid (hXn.heap hA.out hne); clear hXn hRn)
   | (go_at_call 24; (with_reducible refine (C5.out _ hR.out).mono ?_); rintro e w1 ⟨rfl, hXn, hRn⟩; replace hX := hX.trans hXn; replace hR := Lib.hid hRn; replace hA := Lib.hid (hXn.heap hA.out hne); clear hXn hRn)
   | (go_at_call 24; (with_reducible refine (C6.out _ hR.out).mono ?_); rintro e w1 ⟨rfl, hXn, hRn⟩; replace hX := hX.trans hXn; replace hR := Lib.hid hRn; replace hA := Lib.hid (hXn.heap hA.out hne); clear hXn hRn)
   | (go_at_call 35; (with_reducible refine (D.out _ hR.out).mono ?_); rintro e w1 ⟨rfl, hXn⟩; skip))
  exact ⟨rfl, rfl, hX.trans hXn⟩
 rw [if_neg h100] at ho ⊢
 have D : ∀ w, RdAt T tb off cap rb w (n + 1) deep → _ := fun w hw => enter_any hw (by omega)
 replace D := Lib.hid D
 have HW := Lib.hid (show IntKind.i64.wrap (((deep + 1 : Nat) : Int) - 1) = (deep : Int) by rw [wrap_in (by omega)]; omega)
 obtain ⟨t2, ht2⟩ : ∃ t2, T[n + 1]? = some t2 := ⟨_, List.getElem?_eq_getElem hn⟩
 rw [drop_at ht2, numP_eq] at ho ⊢
 cases q9 : nmB t2
 ·rw [if_neg (by simp)]
  go_enter Tryd.func23, Tryd.ntmps23
  go_wp2_with (first
   | (go_at_call 24; (with_reducible refine (C0.out _ hR.out).mono ?_); rintro e w1 ⟨rfl, hXn, hRn⟩; replace hX := hX.trans hXn; replace hR := Lib.hid hRn; replace hA := Lib.hid (hXn.heap hA.out hne); clear hXn hRn)
   | (go_at_call 24; (with_reducible refine (C1.out _ hR.out).mono ?_); rintro e w1 ⟨rfl, hXn, hRn⟩; replace hX := hX.trans hXn; replace hR := Lib.hid hRn; replace hA := Lib.hid (hXn.heap hA.out hne); clear hXn hRn)
   | (go_at_call 24; (with_reducible refine (C2.out _ hR.out).mono ?_); rintro e w1 ⟨rfl, hXn, hRn⟩; replace hX := hX.trans hXn; replace hR := Lib.hid hRn; replace hA := Lib.hid (hXn.heap hA.out hne); clear hXn hRn)
   | (go_at_call 24; (with_reducible refine (C3.out _ hR.out).mono ?_); rintro e w1 ⟨rfl, hXn, hRn⟩; replace hX := hX.trans hXn; replace hR := Lib.hid hRn; replace hA := Lib.hid (hXn.heap hA.out hne); clear hXn hRn)
   | (go_at_call 24; (with_reducible refine (C4.out _ hR.out).mono ?_); rintro e w1 ⟨rfl, hXn, hRn⟩; replace hX := hX.trans hXn; replace hR := Lib.hid hRn; replace hA := Lib.hid (hXn.heap hA.out hne); clear hXn hRn)
   | (go_at_call 24; (with_reducible refine (C5.out _ hR.out).mono ?_); rintro e w1 ⟨rfl, hXn, hRn⟩; replace hX := hX.trans hXn; replace hR := Lib.hid hRn; replace hA := Lib.hid (hXn.heap hA.out hne); clear hXn hRn)
   | (go_at_call 24; (with_reducible refine (C6.out _ hR.out).mono ?_); rintro e w1 ⟨rfl, hXn, hRn⟩; replace hX := hX.trans hXn; replace hR := Lib.hid hRn; replace hA := Lib.hid (hXn.heap hA.out hne); clear hXn hRn)
   | (go_at_call 35; (with_reducible refine (D.out _ hR.out).mono ?_); rintro e w1 ⟨rfl, hXn, hRn⟩; have KR := hRn.here; obtain ⟨⟨r0, r1, r2⟩, ⟨g0, g1, g2⟩, hrl⟩ := KR; have hw9 := HW.out; replace hX := (hX.trans hXn).set (o := 2) (.int .i64 (deep : Int)); replace hR := Lib.hid (RdAt.dec hRn); replace hA := Lib.hid ((heap_setCell_ne w1 (Ne.symm hne) 2 (.int .i64 (deep : Int))).trans (hXn.heap hA.out hne)); clear hXn hRn)
   | (go_at_call 34; (with_reducible refine (num_no hT ht2 q9 _ hR.out).mono ?_); rintro e w2 ⟨rfl, hXn⟩; skip))
  exact ⟨rfl, rfl, hX.trans hXn⟩
 rw [if_pos q9] at ho
 rw [if_pos rfl]
 have hn2 := hT.next ht2 (nmB_ne q9)
 obtain ⟨t3, ht3⟩ : ∃ t3, T[n + 1 + 1]? = some t3 := ⟨_, List.getElem?_eq_getElem hn2⟩
 have C9 := Lib.hid (num_yes (tb := tb) (off := off) (cap := cap) (rb := rb) (deep := deep) hT ht2 q9)
 generalize (numZ (bZ t2.text) 9).1 = m at *
 replace ho : (match takP wFrom (T.drop (n + 1 + 1)) with | some l3 => (numP l3).bind fun m2 l4 => prfP f deep (.mk 9 m m2 []) l4 | none => .bad (posP (T.drop (n + 1 + 1)))) ≠ .out := ho
 show Calls _ _ _ _ (PostP T tb off cap rb deep W (match takP wFrom (T.drop (n + 1 + 1)) with | some l3 => (numP l3).bind fun m2 l4 => prfP f deep (.mk 9 m m2 []) l4 | none => .bad (posP (T.drop (n + 1 + 1)))))
 rw [drop_at ht3, takP_eq] at ho ⊢
 cases q10 : takB (bZ wFrom) t3
 ·rw [if_neg (by simp)]
  replace q10 : takB ⟨#[102, 114, 111, 109]⟩ t3 = false := q10
  go_enter Tryd.func23, Tryd.ntmps23
  go_wp2_with (first
   | (go_at_call 24; (with_reducible refine (C0.out _ hR.out).mono ?_); rintro e w1 ⟨rfl, hXn, hRn⟩; replace hX := hX.trans hXn; replace hR := Lib.hid hRn; replace hA := Lib.hid (hXn.heap hA.out hne); clear hXn hRn)
   | (go_at_call 24; (with_reducible refine (C1.out _ hR.out).mono ?_); rintro e w1 ⟨rfl, hXn, hRn⟩; replace hX := hX.trans hXn; replace hR := Lib.hid hRn; replace hA := Lib.hid (hXn.heap hA.out hne); clear hXn hRn)
   | (go_at_call 24; (with_reducible refine (C2.out _ hR.out).mono ?_); rintro e w1 ⟨rfl, hXn, hRn⟩; replace hX := hX.trans hXn; replace hR := Lib.hid hRn; replace hA := Lib.hid (hXn.heap hA.out hne); clear hXn hRn)
   | (go_at_call 24; (with_reducible refine (C3.out _ hR.out).mono ?_); rintro e w1 ⟨rfl, hXn, hRn⟩; replace hX := hX.trans hXn; replace hR := Lib.hid hRn; replace hA := Lib.hid (hXn.heap hA.out hne); clear hXn hRn)
   | (go_at_call 24; (with_reducible refine (C4.out _ hR.out).mono ?_); rintro e w1 ⟨rfl, hXn, hRn⟩; replace hX := hX.trans hXn; replace hR := Lib.hid hRn; replace hA := Lib.hid (hXn.heap hA.out hne); clear hXn hRn)
   | (go_at_call 24; (with_reducible refine (C5.out _ hR.out).mono ?_); rintro e w1 ⟨rfl, hXn, hRn⟩; replace hX := hX.trans hXn; replace hR := Lib.hid hRn; replace hA := Lib.hid (hXn.heap hA.out hne); clear hXn hRn)
   | (go_at_call 24; (with_reducible refine (C6.out _ hR.out).mono ?_); rintro e w1 ⟨rfl, hXn, hRn⟩; replace hX := hX.trans hXn; replace hR := Lib.hid hRn; replace hA := Lib.hid (hXn.heap hA.out hne); clear hXn hRn)
   | (go_at_call 35; (with_reducible refine (D.out _ hR.out).mono ?_); rintro e w1 ⟨rfl, hXn, hRn⟩; have KR := hRn.here; obtain ⟨⟨r0, r1, r2⟩, ⟨g0, g1, g2⟩, hrl⟩ := KR; have hw9 := HW.out; replace hX := (hX.trans hXn).set (o := 2) (.int .i64 (deep : Int)); replace hR := Lib.hid (RdAt.dec hRn); replace hA := Lib.hid ((heap_setCell_ne w1 (Ne.symm hne) 2 (.int .i64 (deep : Int))).trans (hXn.heap hA.out hne)); clear hXn hRn)
   | (go_at_call 34; (with_reducible refine (C9.out _ hR.out).mono ?_); rintro e w2 ⟨rfl, hXn, hRn⟩; have hz := (Array.getElem?_eq_some_iff.1 hA.out).1; have hz2 := hXn.size; have hB := Lib.hid (Box4.of (heap_last w2 (.cells #[.int .i64 9, .int .i64 m, .int .i64 0, .slice none 0 0] 24))); replace hX := (hX.trans hXn).alloc (.cells #[.int .i64 9, .int .i64 m, .int .i64 0, .slice none 0 0] 24); replace hA := Lib.hid (heap_old _ (.cells #[.int .i64 9, .int .i64 m, .int .i64 0, .slice none 0 0] 24) _ _ (Nat.lt_of_lt_of_le hz hz2) (hXn.heap hA.out hne)); replace hR := Lib.hid (hRn.mono (Gr.alloc (Gr.refl w2) (.cells #[.int .i64 9, .int .i64 m, .int .i64 0, .slice none 0 0] 24))); clear hXn hRn)
   | (go_at_call 24; (with_reducible refine (take_no hT ht3 q10 _ hR.out).mono ?_); rintro e w3 ⟨rfl, hXn, hRn⟩; replace hX := hX.trans hXn; replace hR := Lib.hid hRn; clear hXn hRn)
   | (go_at_call 13; (with_reducible refine (refuse_any hR.out ht3 hT.len).mono ?_); rintro e w4 ⟨rfl, hXn⟩))
  exact ⟨rfl, rfl, hX.trans (GrX.ofG hXn)⟩
 rw [if_pos q10] at ho
 rw [if_pos rfl]
 have hn3 := hT.next ht3 (takB_ne (s := wFrom) (by decide) q10)
 replace q10 : takB ⟨#[102, 114, 111, 109]⟩ t3 = true := q10
 obtain ⟨t4, ht4⟩ : ∃ t4, T[n + 1 + 1 + 1]? = some t4 := ⟨_, List.getElem?_eq_getElem hn3⟩
 replace ho : ((numP (T.drop (n + 1 + 1 + 1))).bind fun m2 l4 => prfP f deep (.mk 9 m m2 []) l4) ≠ .out := ho
 show Calls _ _ _ _ (PostP T tb off cap rb deep W ((numP (T.drop (n + 1 + 1 + 1))).bind fun m2 l4 => prfP f deep (.mk 9 m m2 []) l4))
 rw [drop_at ht4, numP_eq] at ho ⊢
 cases q11 : nmB t4
 ·rw [if_neg (by simp)]
  go_enter Tryd.func23, Tryd.ntmps23
  go_wp2_with (first
   | (go_at_call 24; (with_reducible refine (C0.out _ hR.out).mono ?_); rintro e w1 ⟨rfl, hXn, hRn⟩; replace hX := hX.trans hXn; replace hR := Lib.hid hRn; replace hA := Lib.hid (hXn.heap hA.out hne); clear hXn hRn)
   | (go_at_call 24; (with_reducible refine (C1.out _ hR.out).mono ?_); rintro e w1 ⟨rfl, hXn, hRn⟩; replace hX := hX.trans hXn; replace hR := Lib.hid hRn; replace hA := Lib.hid (hXn.heap hA.out hne); clear hXn hRn)
   | (go_at_call 24; (with_reducible refine (C2.out _ hR.out).mono ?_); rintro e w1 ⟨rfl, hXn, hRn⟩; replace hX := hX.trans hXn; replace hR := Lib.hid hRn; replace hA := Lib.hid (hXn.heap hA.out hne); clear hXn hRn)
   | (go_at_call 24; (with_reducible refine (C3.out _ hR.out).mono ?_); rintro e w1 ⟨rfl, hXn, hRn⟩; replace hX := hX.trans hXn; replace hR := Lib.hid hRn; replace hA := Lib.hid (hXn.heap hA.out hne); clear hXn hRn)
   | (go_at_call 24; (with_reducible refine (C4.out _ hR.out).mono ?_); rintro e w1 ⟨rfl, hXn, hRn⟩; replace hX := hX.trans hXn; replace hR := Lib.hid hRn; replace hA := Lib.hid (hXn.heap hA.out hne); clear hXn hRn)
   | (go_at_call 24; (with_reducible refine (C5.out _ hR.out).mono ?_); rintro e w1 ⟨rfl, hXn, hRn⟩; replace hX := hX.trans hXn; replace hR := Lib.hid hRn; replace hA := Lib.hid (hXn.heap hA.out hne); clear hXn hRn)
   | (go_at_call 24; (with_reducible refine (C6.out _ hR.out).mono ?_); rintro e w1 ⟨rfl, hXn, hRn⟩; replace hX := hX.trans hXn; replace hR := Lib.hid hRn; replace hA := Lib.hid (hXn.heap hA.out hne); clear hXn hRn)
   | (go_at_call 35; (with_reducible refine (D.out _ hR.out).mono ?_); rintro e w1 ⟨rfl, hXn, hRn⟩; have KR := hRn.here; obtain ⟨⟨r0, r1, r2⟩, ⟨g0, g1, g2⟩, hrl⟩ := KR; have hw9 := HW.out; replace hX := (hX.trans hXn).set (o := 2) (.int .i64 (deep : Int)); replace hR := Lib.hid (RdAt.dec hRn); replace hA := Lib.hid ((heap_setCell_ne w1 (Ne.symm hne) 2 (.int .i64 (deep : Int))).trans (hXn.heap hA.out hne)); clear hXn hRn)
   | (go_at_call 34; (with_reducible refine (C9.out _ hR.out).mono ?_); rintro e w2 ⟨rfl, hXn, hRn⟩; have hz := (Array.getElem?_eq_some_iff.1 hA.out).1; have hz2 := hXn.size; have hB := Lib.hid (Box4.of (heap_last w2 (.cells #[.int .i64 9, .int .i64 m, .int .i64 0, .slice none 0 0] 24))); replace hX := (hX.trans hXn).alloc (.cells #[.int .i64 9, .int .i64 m, .int .i64 0, .slice none 0 0] 24); replace hA := Lib.hid (heap_old _ (.cells #[.int .i64 9, .int .i64 m, .int .i64 0, .slice none 0 0] 24) _ _ (Nat.lt_of_lt_of_le hz hz2) (hXn.heap hA.out hne)); replace hR := Lib.hid (hRn.mono (Gr.alloc (Gr.refl w2) (.cells #[.int .i64 9, .int .i64 m, .int .i64 0, .slice none 0 0] 24))); clear hXn hRn)
   | (go_at_call 24; (with_reducible refine (take_yes hT ht3 q10 _ hR.out).mono ?_); rintro e w3 ⟨rfl, hXn, hRn⟩; replace hX := hX.trans hXn; replace hA := Lib.hid (hXn.heap hA.out hne); have hzb := hB.out.2.2; replace hB := Lib.hid (Box4.grx hB.out hXn (by omega)); replace hR := Lib.hid hRn; clear hXn hRn)
   | (go_at_call 34; (with_reducible refine (num_no hT ht4 q11 _ hR.out).mono ?_); rintro e w4 ⟨rfl, hXn⟩; skip))
  exact ⟨rfl, rfl, hX.trans hXn⟩
 rw [if_pos q11] at ho
 rw [if_pos rfl]
 have hn4 := hT.next ht4 (nmB_ne q11)
 have C10 := Lib.hid (num_yes (tb := tb) (off := off) (cap := cap) (rb := rb) (deep := deep) hT ht4 q11)
 generalize (numZ (bZ t4.text) 9).1 = m2 at *
 replace ho : prfP f deep (.mk 9 m m2 []) (T.drop (n + 1 + 1 + 1 + 1)) ≠ .out := ho
 show Calls _ _ _ _ (PostP T tb off cap rb deep W (prfP f deep (.mk 9 m m2 []) (T.drop (n + 1 + 1 + 1 + 1))))
 have E : ∀ w, RdAt T tb off cap rb w (n + 1 + 1 + 1 + 1) deep → Calls Tryd.prog 36 #[.pointer (some ⟨rb, 0, none⟩), .agg #[.int .i64 9, .int .i64 m, .int .i64 m2, .slice none 0 0]] w (PostP T tb off cap rb deep w (prfP f deep (.mk 9 m m2 []) (T.drop (n + 1 + 1 + 1 + 1)))) := fun w hw => hp w (n + 1 + 1 + 1 + 1) deep (.mk 9 m m2 []) hd hw hn4 ho
 cases hQ : prfP f deep (.mk 9 m m2 []) (T.drop (n + 1 + 1 + 1 + 1)) with
 | out => exact absurd hQ ho
 | bad k =>
  rw [hQ] at E
  replace E := Lib.hid E
  go_enter Tryd.func23, Tryd.ntmps23
  go_wp2_with (first
   | (go_at_call 24; (with_reducible refine (C0.out _ hR.out).mono ?_); rintro e w1 ⟨rfl, hXn, hRn⟩; replace hX := hX.trans hXn; replace hR := Lib.hid hRn; replace hA := Lib.hid (hXn.heap hA.out hne); clear hXn hRn)
   | (go_at_call 24; (with_reducible refine (C1.out _ hR.out).mono ?_); rintro e w1 ⟨rfl, hXn, hRn⟩; replace hX := hX.trans hXn; replace hR := Lib.hid hRn; replace hA := Lib.hid (hXn.heap hA.out hne); clear hXn hRn)
   | (go_at_call 24; (with_reducible refine (C2.out _ hR.out).mono ?_); rintro e w1 ⟨rfl, hXn, hRn⟩; replace hX := hX.trans hXn; replace hR := Lib.hid hRn; replace hA := Lib.hid (hXn.heap hA.out hne); clear hXn hRn)
   | (go_at_call 24; (with_reducible refine (C3.out _ hR.out).mono ?_); rintro e w1 ⟨rfl, hXn, hRn⟩; replace hX := hX.trans hXn; replace hR := Lib.hid hRn; replace hA := Lib.hid (hXn.heap hA.out hne); clear hXn hRn)
   | (go_at_call 24; (with_reducible refine (C4.out _ hR.out).mono ?_); rintro e w1 ⟨rfl, hXn, hRn⟩; replace hX := hX.trans hXn; replace hR := Lib.hid hRn; replace hA := Lib.hid (hXn.heap hA.out hne); clear hXn hRn)
   | (go_at_call 24; (with_reducible refine (C5.out _ hR.out).mono ?_); rintro e w1 ⟨rfl, hXn, hRn⟩; replace hX := hX.trans hXn; replace hR := Lib.hid hRn; replace hA := Lib.hid (hXn.heap hA.out hne); clear hXn hRn)
   | (go_at_call 24; (with_reducible refine (C6.out _ hR.out).mono ?_); rintro e w1 ⟨rfl, hXn, hRn⟩; replace hX := hX.trans hXn; replace hR := Lib.hid hRn; replace hA := Lib.hid (hXn.heap hA.out hne); clear hXn hRn)
   | (go_at_call 35; (with_reducible refine (D.out _ hR.out).mono ?_); rintro e w1 ⟨rfl, hXn, hRn⟩; have KR := hRn.here; obtain ⟨⟨r0, r1, r2⟩, ⟨g0, g1, g2⟩, hrl⟩ := KR; have hw9 := HW.out; replace hX := (hX.trans hXn).set (o := 2) (.int .i64 (deep : Int)); replace hR := Lib.hid (RdAt.dec hRn); replace hA := Lib.hid ((heap_setCell_ne w1 (Ne.symm hne) 2 (.int .i64 (deep : Int))).trans (hXn.heap hA.out hne)); clear hXn hRn)
   | (go_at_call 34; (with_reducible refine (C9.out _ hR.out).mono ?_); rintro e w2 ⟨rfl, hXn, hRn⟩; have hz := (Array.getElem?_eq_some_iff.1 hA.out).1; have hz2 := hXn.size; have hzw : W.heap.size < w2.heap.size := Nat.lt_of_lt_of_le hz hz2; have hB := Lib.hid (Box4.of (heap_last w2 (.cells #[.int .i64 9, .int .i64 m, .int .i64 0, .slice none 0 0] 24))); replace hX := (hX.trans hXn).alloc (.cells #[.int .i64 9, .int .i64 m, .int .i64 0, .slice none 0 0] 24); replace hA := Lib.hid (heap_old _ (.cells #[.int .i64 9, .int .i64 m, .int .i64 0, .slice none 0 0] 24) _ _ (Nat.lt_of_lt_of_le hz hz2) (hXn.heap hA.out hne)); replace hR := Lib.hid (hRn.mono (Gr.alloc (Gr.refl w2) (.cells #[.int .i64 9, .int .i64 m, .int .i64 0, .slice none 0 0] 24))); clear hXn hRn)
   | (go_at_call 24; (with_reducible refine (take_yes hT ht3 q10 _ hR.out).mono ?_); rintro e w3 ⟨rfl, hXn, hRn⟩; replace hX := hX.trans hXn; replace hA := Lib.hid (hXn.heap hA.out hne); have hzb := hB.out.2.2; replace hB := Lib.hid (Box4.grx hB.out hXn (by omega)); replace hR := Lib.hid hRn; clear hXn hRn)
   | (go_at_call 34; (with_reducible refine (C10.out _ hR.out).mono ?_); rintro e w4 ⟨rfl, hXn, hRn⟩; replace hX := (hX.trans hXn).put (b := w2.heap.size) (o := 2) (by have := hB.out.2.2; have := hzw; omega) (.int .i64 m2); replace hA := Lib.hid ((heap_setCell_ne w4 (show w2.heap.size ≠ W.heap.size by have := hzw; omega) 2 (.int .i64 m2)).trans (hXn.heap hA.out hne)); have hzb := hB.out.2.2; replace hB := Lib.hid (Box4.grx hB.out hXn (by omega)); have BB1 := Box4.st2 hB.out (u := .int .i64 m2); have BB := hB.out; replace hR := Lib.hid (RdAt.other (b := w2.heap.size) (o := 2) (u := .int .i64 m2) hRn (by have := hzw; omega) (by have := hzw; omega)); obtain ⟨⟨b0, b1, b2, b3⟩, ⟨y0, y1, y2, y3⟩, hyl⟩ := BB; obtain ⟨⟨d0, d1, d2, d3⟩, _, _⟩ := BB1; clear hXn hRn)
   | (go_at_call 36; (with_reducible refine (E.out _ hR.out).mono ?_); rintro e w5 ⟨rfl, hXn⟩; skip))
  exact ⟨rfl, rfl, hX.trans hXn⟩
 | large =>
  rw [hQ] at E
  replace E := Lib.hid E
  go_enter Tryd.func23, Tryd.ntmps23
  go_wp2_with (first
   | (go_at_call 24; (with_reducible refine (C0.out _ hR.out).mono ?_); rintro e w1 ⟨rfl, hXn, hRn⟩; replace hX := hX.trans hXn; replace hR := Lib.hid hRn; replace hA := Lib.hid (hXn.heap hA.out hne); clear hXn hRn)
   | (go_at_call 24; (with_reducible refine (C1.out _ hR.out).mono ?_); rintro e w1 ⟨rfl, hXn, hRn⟩; replace hX := hX.trans hXn; replace hR := Lib.hid hRn; replace hA := Lib.hid (hXn.heap hA.out hne); clear hXn hRn)
   | (go_at_call 24; (with_reducible refine (C2.out _ hR.out).mono ?_); rintro e w1 ⟨rfl, hXn, hRn⟩; replace hX := hX.trans hXn; replace hR := Lib.hid hRn; replace hA := Lib.hid (hXn.heap hA.out hne); clear hXn hRn)
   | (go_at_call 24; (with_reducible refine (C3.out _ hR.out).mono ?_); rintro e w1 ⟨rfl, hXn, hRn⟩; replace hX := hX.trans hXn; replace hR := Lib.hid hRn; replace hA := Lib.hid (hXn.heap hA.out hne); clear hXn hRn)
   | (go_at_call 24; (with_reducible refine (C4.out _ hR.out).mono ?_); rintro e w1 ⟨rfl, hXn, hRn⟩; replace hX := hX.trans hXn; replace hR := Lib.hid hRn; replace hA := Lib.hid (hXn.heap hA.out hne); clear hXn hRn)
   | (go_at_call 24; (with_reducible refine (C5.out _ hR.out).mono ?_); rintro e w1 ⟨rfl, hXn, hRn⟩; replace hX := hX.trans hXn; replace hR := Lib.hid hRn; replace hA := Lib.hid (hXn.heap hA.out hne); clear hXn hRn)
   | (go_at_call 24; (with_reducible refine (C6.out _ hR.out).mono ?_); rintro e w1 ⟨rfl, hXn, hRn⟩; replace hX := hX.trans hXn; replace hR := Lib.hid hRn; replace hA := Lib.hid (hXn.heap hA.out hne); clear hXn hRn)
   | (go_at_call 35; (with_reducible refine (D.out _ hR.out).mono ?_); rintro e w1 ⟨rfl, hXn, hRn⟩; have KR := hRn.here; obtain ⟨⟨r0, r1, r2⟩, ⟨g0, g1, g2⟩, hrl⟩ := KR; have hw9 := HW.out; replace hX := (hX.trans hXn).set (o := 2) (.int .i64 (deep : Int)); replace hR := Lib.hid (RdAt.dec hRn); replace hA := Lib.hid ((heap_setCell_ne w1 (Ne.symm hne) 2 (.int .i64 (deep : Int))).trans (hXn.heap hA.out hne)); clear hXn hRn)
   | (go_at_call 34; (with_reducible refine (C9.out _ hR.out).mono ?_); rintro e w2 ⟨rfl, hXn, hRn⟩; have hz := (Array.getElem?_eq_some_iff.1 hA.out).1; have hz2 := hXn.size; have hzw : W.heap.size < w2.heap.size := Nat.lt_of_lt_of_le hz hz2; have hB := Lib.hid (Box4.of (heap_last w2 (.cells #[.int .i64 9, .int .i64 m, .int .i64 0, .slice none 0 0] 24))); replace hX := (hX.trans hXn).alloc (.cells #[.int .i64 9, .int .i64 m, .int .i64 0, .slice none 0 0] 24); replace hA := Lib.hid (heap_old _ (.cells #[.int .i64 9, .int .i64 m, .int .i64 0, .slice none 0 0] 24) _ _ (Nat.lt_of_lt_of_le hz hz2) (hXn.heap hA.out hne)); replace hR := Lib.hid (hRn.mono (Gr.alloc (Gr.refl w2) (.cells #[.int .i64 9, .int .i64 m, .int .i64 0, .slice none 0 0] 24))); clear hXn hRn)
   | (go_at_call 24; (with_reducible refine (take_yes hT ht3 q10 _ hR.out).mono ?_); rintro e w3 ⟨rfl, hXn, hRn⟩; replace hX := hX.trans hXn; replace hA := Lib.hid (hXn.heap hA.out hne); have hzb := hB.out.2.2; replace hB := Lib.hid (Box4.grx hB.out hXn (by omega)); replace hR := Lib.hid hRn; clear hXn hRn)
   | (go_at_call 34; (with_reducible refine (C10.out _ hR.out).mono ?_); rintro e w4 ⟨rfl, hXn, hRn⟩; replace hX := (hX.trans hXn).put (b := w2.heap.size) (o := 2) (by have := hB.out.2.2; have := hzw; omega) (.int .i64 m2); replace hA := Lib.hid ((heap_setCell_ne w4 (show w2.heap.size ≠ W.heap.size by have := hzw; omega) 2 (.int .i64 m2)).trans (hXn.heap hA.out hne)); have hzb := hB.out.2.2; replace hB := Lib.hid (Box4.grx hB.out hXn (by omega)); have BB1 := Box4.st2 hB.out (u := .int .i64 m2); have BB := hB.out; replace hR := Lib.hid (RdAt.other (b := w2.heap.size) (o := 2) (u := .int .i64 m2) hRn (by have := hzw; omega) (by have := hzw; omega)); obtain ⟨⟨b0, b1, b2, b3⟩, ⟨y0, y1, y2, y3⟩, hyl⟩ := BB; obtain ⟨⟨d0, d1, d2, d3⟩, _, _⟩ := BB1; clear hXn hRn)
   | (go_at_call 36; (with_reducible refine (E.out _ hR.out).mono ?_); rintro e w5 ⟨rfl, hXn⟩; skip))
  exact ⟨rfl, rfl, hX.trans hXn⟩
 | ok p l =>
  rw [hQ] at E
  replace E := Lib.hid E
  go_enter Tryd.func23, Tryd.ntmps23
  go_wp2_with (first
   | (go_at_call 24; (with_reducible refine (C0.out _ hR.out).mono ?_); rintro e w1 ⟨rfl, hXn, hRn⟩; replace hX := hX.trans hXn; replace hR := Lib.hid hRn; replace hA := Lib.hid (hXn.heap hA.out hne); clear hXn hRn)
   | (go_at_call 24; (with_reducible refine (C1.out _ hR.out).mono ?_); rintro e w1 ⟨rfl, hXn, hRn⟩; replace hX := hX.trans hXn; replace hR := Lib.hid hRn; replace hA := Lib.hid (hXn.heap hA.out hne); clear hXn hRn)
   | (go_at_call 24; (with_reducible refine (C2.out _ hR.out).mono ?_); rintro e w1 ⟨rfl, hXn, hRn⟩; replace hX := hX.trans hXn; replace hR := Lib.hid hRn; replace hA := Lib.hid (hXn.heap hA.out hne); clear hXn hRn)
   | (go_at_call 24; (with_reducible refine (C3.out _ hR.out).mono ?_); rintro e w1 ⟨rfl, hXn, hRn⟩; replace hX := hX.trans hXn; replace hR := Lib.hid hRn; replace hA := Lib.hid (hXn.heap hA.out hne); clear hXn hRn)
   | (go_at_call 24; (with_reducible refine (C4.out _ hR.out).mono ?_); rintro e w1 ⟨rfl, hXn, hRn⟩; replace hX := hX.trans hXn; replace hR := Lib.hid hRn; replace hA := Lib.hid (hXn.heap hA.out hne); clear hXn hRn)
   | (go_at_call 24; (with_reducible refine (C5.out _ hR.out).mono ?_); rintro e w1 ⟨rfl, hXn, hRn⟩; replace hX := hX.trans hXn; replace hR := Lib.hid hRn; replace hA := Lib.hid (hXn.heap hA.out hne); clear hXn hRn)
   | (go_at_call 24; (with_reducible refine (C6.out _ hR.out).mono ?_); rintro e w1 ⟨rfl, hXn, hRn⟩; replace hX := hX.trans hXn; replace hR := Lib.hid hRn; replace hA := Lib.hid (hXn.heap hA.out hne); clear hXn hRn)
   | (go_at_call 35; (with_reducible refine (D.out _ hR.out).mono ?_); rintro e w1 ⟨rfl, hXn, hRn⟩; have KR := hRn.here; obtain ⟨⟨r0, r1, r2⟩, ⟨g0, g1, g2⟩, hrl⟩ := KR; have hw9 := HW.out; replace hX := (hX.trans hXn).set (o := 2) (.int .i64 (deep : Int)); replace hR := Lib.hid (RdAt.dec hRn); replace hA := Lib.hid ((heap_setCell_ne w1 (Ne.symm hne) 2 (.int .i64 (deep : Int))).trans (hXn.heap hA.out hne)); clear hXn hRn)
   | (go_at_call 34; (with_reducible refine (C9.out _ hR.out).mono ?_); rintro e w2 ⟨rfl, hXn, hRn⟩; have hz := (Array.getElem?_eq_some_iff.1 hA.out).1; have hz2 := hXn.size; have hzw : W.heap.size < w2.heap.size := Nat.lt_of_lt_of_le hz hz2; have hB := Lib.hid (Box4.of (heap_last w2 (.cells #[.int .i64 9, .int .i64 m, .int .i64 0, .slice none 0 0] 24))); replace hX := (hX.trans hXn).alloc (.cells #[.int .i64 9, .int .i64 m, .int .i64 0, .slice none 0 0] 24); replace hA := Lib.hid (heap_old _ (.cells #[.int .i64 9, .int .i64 m, .int .i64 0, .slice none 0 0] 24) _ _ (Nat.lt_of_lt_of_le hz hz2) (hXn.heap hA.out hne)); replace hR := Lib.hid (hRn.mono (Gr.alloc (Gr.refl w2) (.cells #[.int .i64 9, .int .i64 m, .int .i64 0, .slice none 0 0] 24))); clear hXn hRn)
   | (go_at_call 24; (with_reducible refine (take_yes hT ht3 q10 _ hR.out).mono ?_); rintro e w3 ⟨rfl, hXn, hRn⟩; replace hX := hX.trans hXn; replace hA := Lib.hid (hXn.heap hA.out hne); have hzb := hB.out.2.2; replace hB := Lib.hid (Box4.grx hB.out hXn (by omega)); replace hR := Lib.hid hRn; clear hXn hRn)
   | (go_at_call 34; (with_reducible refine (C10.out _ hR.out).mono ?_); rintro e w4 ⟨rfl, hXn, hRn⟩; replace hX := (hX.trans hXn).put (b := w2.heap.size) (o := 2) (by have := hB.out.2.2; have := hzw; omega) (.int .i64 m2); replace hA := Lib.hid ((heap_setCell_ne w4 (show w2.heap.size ≠ W.heap.size by have := hzw; omega) 2 (.int .i64 m2)).trans (hXn.heap hA.out hne)); have hzb := hB.out.2.2; replace hB := Lib.hid (Box4.grx hB.out hXn (by omega)); have BB1 := Box4.st2 hB.out (u := .int .i64 m2); have BB := hB.out; replace hR := Lib.hid (RdAt.other (b := w2.heap.size) (o := 2) (u := .int .i64 m2) hRn (by have := hzw; omega) (by have := hzw; omega)); obtain ⟨⟨b0, b1, b2, b3⟩, ⟨y0, y1, y2, y3⟩, hyl⟩ := BB; obtain ⟨⟨d0, d1, d2, d3⟩, _, _⟩ := BB1; clear hXn hRn)
   | (go_at_call 36; (with_reducible refine (E.out _ hR.out).mono ?_); rintro e w5 ⟨v, n2, rfl, rfl, hn2, hXn, hRn, sv, rfl, hS⟩; obtain ⟨sa, sn, sc, rfl⟩ := svAt_shape hS; have hz := (Array.getElem?_eq_some_iff.1 hA.out).1; have hz2 := hXn.size; replace hX := hX.trans hXn; replace hR := Lib.hid hRn; replace hA := Lib.hid (hXn.heap hA.out hne); clear hXn hRn; have BA := Box4.of hA.out; obtain ⟨⟨k0, k1, k2, k3⟩, ⟨f0, f1, f2, f3⟩, hbl⟩ := BA))
  obtain ⟨⟨c0, c1, c2, c3⟩, hXf, hRf, hkf, hsf⟩ := fin4 hX (Nat.le_refl _) hne hne2 (Box4.of hA.out) hR.out (.int .i64 p.kind) (.int .i64 p.frm) (.int .i64 p.to) (.slice sa sn sc)
  refine bodyPost_ret (v := .agg #[.int .i64 p.kind, .int .i64 p.frm, .int .i64 p.to, .slice sa sn sc]) (by simp [results, Tryd.results23, go_sem, c0, c1, c2, c3]) rfl ?_
  exact ⟨_, n2, rfl, rfl, hn2, hXf, hRf, _, rfl, SvAt.mono (by omega) (fun k hk1 hk2 => hkf k (by have := hk1.1; omega)) (fun k hk1 hk2 => ⟨by have := hk1.1; omega, by omega⟩) p _ hS⟩
end
end Go.Proofs.YtfalbgflabajbaaDoor

namespace Go.Proofs.YtfalbgflabajbaaDoor
set_option linter.unusedSectionVars false
open Go.RowKit Go.Sort
set_option linter.unusedVariables false
set_option linter.unusedSimpArgs false
set_option maxRecDepth 100000
section
variable {T : List TokD} {tb off cap rb : Nat}
set_option maxHeartbeats 1000000 in
theorem part_plain {n deep : Nat} {t : TokD} {W : World} (hT : Toks T) (hd : deep ≤ 100) (h : RdAt T tb off cap rb W n deep) (ht : T[n]? = some t) (q0 : takB ⟨#[103, 114, 111, 117, 112]⟩ t = false) (q1 : takB ⟨#[112, 114, 101, 115, 101, 116]⟩ t = false) (q2 : takB ⟨#[40]⟩ t = false) (q3 : takB ⟨#[111, 100, 100]⟩ t = false) (q4 : takB ⟨#[101, 118, 101, 110]⟩ t = false) (q5 : takB ⟨#[98, 97, 99, 107]⟩ t = false) (q6 : takB ⟨#[101, 118, 101, 114, 121]⟩ t = false) :
  Calls Tryd.prog 23 #[.pointer (some ⟨rb, 0, none⟩)] W (PostP T tb off cap rb deep W ((numP (T.drop n)).bind fun m l1 => match takP wThru l1 with | some l2 => (numP l2).bind fun m2 l3 => if m2 = m then .bad (posP l2) else .ok (.mk 1 m m2 []) l3 | none => .ok (.mk 1 m m []) l1)) := by
 have hrb := h.here.2.2
 have htb := h.tb_lt (List.getElem?_eq_some_iff.1 ht).1
 have hne : W.heap.size ≠ rb := by omega
 have hne2 : W.heap.size ≠ tb := by omega
 have hG1 : Gr W (W.alloc (.cells #[.int .i64 0, .int .i64 0, .int .i64 0, .slice none 0 0] 24)) := Gr.alloc (Gr.refl W) _
 have hA := Lib.hid (heap_last W (.cells #[.int .i64 0, .int .i64 0, .int .i64 0, .slice none 0 0] 24))
 have hR := Lib.hid (h.mono hG1)
 have hX : GrX rb W (W.alloc (.cells #[.int .i64 0, .int .i64 0, .int .i64 0, .slice none 0 0] 24)) := GrX.ofG hG1
 clear h hG1
 have C0 := Lib.hid (take_no (tb := tb) (off := off) (cap := cap) (rb := rb) (deep := deep) hT ht q0)
 have C1 := Lib.hid (take_no (tb := tb) (off := off) (cap := cap) (rb := rb) (deep := deep) hT ht q1)
 have C2 := Lib.hid (take_no (tb := tb) (off := off) (cap := cap) (rb := rb) (deep := deep) hT ht q2)
 have C3 := Lib.hid (take_no (tb := tb) (off := off) (cap := cap) (rb := rb) (deep := deep) hT ht q3)
 have C4 := Lib.hid (take_no (tb := tb) (off := off) (cap := cap) (rb := rb) (deep := deep) hT ht q4)
 have C5 := Lib.hid (take_no (tb := tb) (off := off) (cap := cap) (rb := rb) (deep := deep) hT ht q5)
 have C6 := Lib.hid (take_no (tb := tb) (off := off) (cap := cap) (rb := rb) (deep := deep) hT ht q6)
 rw [drop_at ht, numP_eq]
 cases q9 : nmB t
 ·rw [if_neg (by simp)]
  go_enter Tryd.func23, Tryd.ntmps23
  go_wp2_with (first
   | (go_at_call 24; (with_reducible refine (C0.out _ hR.out).mono ?_); rintro e w1 ⟨rfl, hXn, hRn⟩; replace hX := hX.trans hXn; replace hR := Lib.hid hRn; replace hA := Lib.hid (hXn.heap hA.out hne); clear hXn hRn)
   | (go_at_call 24; (with_reducible refine (C1.out _ hR.out).mono ?_); rintro e w1 ⟨rfl, hXn, hRn⟩; replace hX := hX.trans hXn; replace hR := Lib.hid hRn; replace hA := Lib.hid (hXn.heap hA.out hne); clear hXn hRn)
   | (go_at_call 24; (with_reducible refine (C2.out _ hR.out).mono ?_); rintro e w1 ⟨rfl, hXn, hRn⟩; replace hX := hX.trans hXn; replace hR := Lib.hid hRn; replace hA := Lib.hid (hXn.heap hA.out hne); clear hXn hRn)
   | (go_at_call 24; (with_reducible refine (C3.out _ hR.out).mono ?_); rintro e w1 ⟨rfl, hXn, hRn⟩; replace hX := hX.trans hXn; replace hR := Lib.hid hRn; replace hA := Lib.hid (hXn.heap hA.out hne); clear hXn hRn)
   | (go_at_call 24; (with_reducible refine (C4.out _ hR.out).mono ?_); rintro e w1 ⟨rfl, hXn, hRn⟩; replace hX := hX.trans hXn; replace hR := Lib.hid hRn; replace hA := Lib.hid (hXn.heap hA.out hne); clear hXn hRn)
   | (go_at_call 24; (with_reducible refine (C5.out _ hR.out).mono ?_); rintro e w1 ⟨rfl, hXn, hRn⟩; replace hX := hX.trans hXn; replace hR := Lib.hid hRn; replace hA := Lib.hid (hXn.heap hA.out hne); clear hXn hRn)
   | (go_at_call 24; (with_reducible refine (C6.out _ hR.out).mono ?_); rintro e w1 ⟨rfl, hXn, hRn⟩; replace hX := hX.trans hXn; replace hR := Lib.hid hRn; replace hA := Lib.hid (hXn.heap hA.out hne); clear hXn hRn)
   | (go_at_call 34; (with_reducible refine (num_no hT ht q9 _ hR.out).mono ?_); rintro e w2 ⟨rfl, hXn⟩; skip))
  exact ⟨rfl, rfl, hX.trans hXn⟩
 rw [if_pos rfl]
 have hn1 := hT.next ht (nmB_ne q9)
 obtain ⟨t2, ht2⟩ : ∃ t2, T[n + 1]? = some t2 := ⟨_, List.getElem?_eq_getElem hn1⟩
 have C9 := Lib.hid (num_yes (tb := tb) (off := off) (cap := cap) (rb := rb) (deep := deep) hT ht q9)
 generalize (numZ (bZ t.text) 9).1 = m at *
 show Calls _ _ _ _ (PostP T tb off cap rb deep W (match takP wThru (T.drop (n + 1)) with | some l2 => (numP l2).bind fun m2 l3 => if m2 = m then .bad (posP l2) else .ok (.mk 1 m m2 []) l3 | none => .ok (.mk 1 m m []) (T.drop (n + 1))))
 rw [drop_at ht2, takP_eq, ← drop_at ht2]
 cases q10 : takB (bZ wThru) t2
 ·rw [if_neg (by simp)]
  replace q10 : takB ⟨#[116, 104, 114, 117]⟩ t2 = false := q10
  go_enter Tryd.func23, Tryd.ntmps23
  go_wp2_with (first
   | (go_at_call 24; (with_reducible refine (C0.out _ hR.out).mono ?_); rintro e w1 ⟨rfl, hXn, hRn⟩; replace hX := hX.trans hXn; replace hR := Lib.hid hRn; replace hA := Lib.hid (hXn.heap hA.out hne); clear hXn hRn)
   | (go_at_call 24; (with_reducible refine (C1.out _ hR.out).mono ?_); rintro e w1 ⟨rfl, hXn, hRn⟩; replace hX := hX.trans hXn; replace hR := Lib.hid hRn; replace hA := Lib.hid (hXn.heap hA.out hne); clear hXn hRn)
   | (go_at_call 24; (with_reducible refine (C2.out _ hR.out).mono ?_); rintro e w1 ⟨rfl, hXn, hRn⟩; replace hX := hX.trans hXn; replace hR := Lib.hid hRn; replace hA := Lib.hid (hXn.heap hA.out hne); clear hXn hRn)
   | (go_at_call 24; (with_reducible refine (C3.out _ hR.out).mono ?_); rintro e w1 ⟨rfl, hXn, hRn⟩; replace hX := hX.trans hXn; replace hR := Lib.hid hRn; replace hA := Lib.hid (hXn.heap hA.out hne); clear hXn hRn)
   | (go_at_call 24; (with_reducible refine (C4.out _ hR.out).mono ?_); rintro e w1 ⟨rfl, hXn, hRn⟩; replace hX := hX.trans hXn; replace hR := Lib.hid hRn; replace hA := Lib.hid (hXn.heap hA.out hne); clear hXn hRn)
   | (go_at_call 24; (with_reducible refine (C5.out _ hR.out).mono ?_); rintro e w1 ⟨rfl, hXn, hRn⟩; replace hX := hX.trans hXn; replace hR := Lib.hid hRn; replace hA := Lib.hid (hXn.heap hA.out hne); clear hXn hRn)
   | (go_at_call 24; (with_reducible refine (C6.out _ hR.out).mono ?_); rintro e w1 ⟨rfl, hXn, hRn⟩; replace hX := hX.trans hXn; replace hR := Lib.hid hRn; replace hA := Lib.hid (hXn.heap hA.out hne); clear hXn hRn)
   | (go_at_call 34; (with_reducible refine (C9.out _ hR.out).mono ?_); rintro e w2 ⟨rfl, hXn, hRn⟩; have hz := (Array.getElem?_eq_some_iff.1 hA.out).1; have hz2 := hXn.size; have hzw : W.heap.size < w2.heap.size := Nat.lt_of_lt_of_le hz hz2; have hB := Lib.hid (Box4.of (heap_last w2 (.cells #[.int .i64 1, .int .i64 m, .int .i64 m, .slice none 0 0] 24))); replace hX := (hX.trans hXn).alloc (.cells #[.int .i64 1, .int .i64 m, .int .i64 m, .slice none 0 0] 24); replace hA := Lib.hid (heap_old _ (.cells #[.int .i64 1, .int .i64 m, .int .i64 m, .slice none 0 0] 24) _ _ hzw (hXn.heap hA.out hne)); replace hR := Lib.hid (hRn.mono (Gr.alloc (Gr.refl w2) (.cells #[.int .i64 1, .int .i64 m, .int .i64 m, .slice none 0 0] 24))); clear hXn hRn)
   | (go_at_call 24; (with_reducible refine (take_no hT ht2 q10 _ hR.out).mono ?_); rintro e w3 ⟨rfl, hXn, hRn⟩; replace hX := hX.trans hXn; replace hA := Lib.hid (hXn.heap hA.out hne); have hzb := hB.out.2.2; replace hB := Lib.hid (Box4.grx hB.out hXn (by omega)); have BB := hB.out; replace hR := Lib.hid hRn; obtain ⟨⟨b0, b1, b2, b3⟩, _, _⟩ := BB; clear hXn hRn; have BA := Box4.of hA.out; obtain ⟨⟨k0, k1, k2, k3⟩, ⟨f0, f1, f2, f3⟩, hbl⟩ := BA))
  obtain ⟨⟨c0, c1, c2, c3⟩, hXf, hRf, hkf, hsf⟩ := fin4 hX (Nat.le_refl _) hne hne2 (Box4.of hA.out) hR.out (.int .i64 1) (.int .i64 m) (.int .i64 m) (.slice none 0 0)
  refine bodyPost_ret (v := .agg #[.int .i64 1, .int .i64 m, .int .i64 m, .slice none 0 0]) (by simp [results, Tryd.results23, go_sem, c0, c1, c2, c3]) rfl ?_
  exact ⟨_, n + 1, rfl, rfl, hn1, hXf, hRf, _, rfl, svAt_leaf _ _ _ _ _⟩
 rw [if_pos rfl]
 have hn2 := hT.next ht2 (takB_ne (s := wThru) (by decide) q10)
 replace q10 : takB ⟨#[116, 104, 114, 117]⟩ t2 = true := q10
 obtain ⟨t3, ht3⟩ : ∃ t3, T[n + 1 + 1]? = some t3 := ⟨_, List.getElem?_eq_getElem hn2⟩
 show Calls _ _ _ _ (PostP T tb off cap rb deep W ((numP (T.drop (n + 1 + 1))).bind fun m2 l3 => if m2 = m then .bad (posP (T.drop (n + 1 + 1))) else .ok (.mk 1 m m2 []) l3))
 rw [drop_at ht3, numP_eq]
 cases q11 : nmB t3
 ·rw [if_neg (by simp)]
  go_enter Tryd.func23, Tryd.ntmps23
  go_wp2_with (first
   | (go_at_call 24; (with_reducible refine (C0.out _ hR.out).mono ?_); rintro e w1 ⟨rfl, hXn, hRn⟩; replace hX := hX.trans hXn; replace hR := Lib.hid hRn; replace hA := Lib.hid (hXn.heap hA.out hne); clear hXn hRn)
   | (go_at_call 24; (with_reducible refine (C1.out _ hR.out).mono ?_); rintro e w1 ⟨rfl, hXn, hRn⟩; replace hX := hX.trans hXn; replace hR := Lib.hid hRn; replace hA := Lib.hid (hXn.heap hA.out hne); clear hXn hRn)
   | (go_at_call 24; (with_reducible refine (C2.out _ hR.out).mono ?_); rintro e w1 ⟨rfl, hXn, hRn⟩; replace hX := hX.trans hXn; replace hR := Lib.hid hRn; replace hA := Lib.hid (hXn.heap hA.out hne); clear hXn hRn)
   | (go_at_call 24; (with_reducible refine (C3.out _ hR.out).mono ?_); rintro e w1 ⟨rfl, hXn, hRn⟩; replace hX := hX.trans hXn; replace hR := Lib.hid hRn; replace hA := Lib.hid (hXn.heap hA.out hne); clear hXn hRn)
   | (go_at_call 24; (with_reducible refine (C4.out _ hR.out).mono ?_); rintro e w1 ⟨rfl, hXn, hRn⟩; replace hX := hX.trans hXn; replace hR := Lib.hid hRn; replace hA := Lib.hid (hXn.heap hA.out hne); clear hXn hRn)
   | (go_at_call 24; (with_reducible refine (C5.out _ hR.out).mono ?_); rintro e w1 ⟨rfl, hXn, hRn⟩; replace hX := hX.trans hXn; replace hR := Lib.hid hRn; replace hA := Lib.hid (hXn.heap hA.out hne); clear hXn hRn)
   | (go_at_call 24; (with_reducible refine (C6.out _ hR.out).mono ?_); rintro e w1 ⟨rfl, hXn, hRn⟩; replace hX := hX.trans hXn; replace hR := Lib.hid hRn; replace hA := Lib.hid (hXn.heap hA.out hne); clear hXn hRn)
   | (go_at_call 34; (with_reducible refine (C9.out _ hR.out).mono ?_); rintro e w2 ⟨rfl, hXn, hRn⟩; have hz := (Array.getElem?_eq_some_iff.1 hA.out).1; have hz2 := hXn.size; have hzw : W.heap.size < w2.heap.size := Nat.lt_of_lt_of_le hz hz2; have hB := Lib.hid (Box4.of (heap_last w2 (.cells #[.int .i64 1, .int .i64 m, .int .i64 m, .slice none 0 0] 24))); replace hX := (hX.trans hXn).alloc (.cells #[.int .i64 1, .int .i64 m, .int .i64 m, .slice none 0 0] 24); replace hA := Lib.hid (heap_old _ (.cells #[.int .i64 1, .int .i64 m, .int .i64 m, .slice none 0 0] 24) _ _ hzw (hXn.heap hA.out hne)); replace hR := Lib.hid (hRn.mono (Gr.alloc (Gr.refl w2) (.cells #[.int .i64 1, .int .i64 m, .int .i64 m, .slice none 0 0] 24))); clear hXn hRn)
   | (go_at_call 24; (with_reducible refine (take_yes hT ht2 q10 _ hR.out).mono ?_); rintro e w3 ⟨rfl, hXn, hRn⟩; replace hX := hX.trans hXn; replace hA := Lib.hid (hXn.heap hA.out hne); have hzb := hB.out.2.2; replace hB := Lib.hid (Box4.grx hB.out hXn (by omega)); replace hR := Lib.hid hRn; clear hXn hRn)
   | (go_at_call 34; (with_reducible refine (num_no hT ht3 q11 _ hR.out).mono ?_); rintro e w4 ⟨rfl, hXn⟩; skip))
  exact ⟨rfl, rfl, hX.trans hXn⟩
 rw [if_pos rfl]
 have hn3 := hT.next ht3 (nmB_ne q11)
 have C10 := Lib.hid (num_yes (tb := tb) (off := off) (cap := cap) (rb := rb) (deep := deep) hT ht3 q11)
 generalize (numZ (bZ t3.text) 9).1 = m2 at *
 show Calls _ _ _ _ (PostP T tb off cap rb deep W (if m2 = m then .bad t3.pos else .ok (.mk 1 m m2 []) (T.drop (n + 1 + 1 + 1))))
 by_cases hmm : m2 = m
 ·rw [if_pos hmm]
  have hmm2 := hmm.symm
  clear hmm
  subst hmm2
  have HW2 := Lib.hid (show Go.RowKit.wrap64 ((n : Int) + 1 + 1) = ((n + 1 + 1 : Nat) : Int) by have := hT.len; unfold Go.RowKit.wrap64; omega)
  have HW := Lib.hid (show IntKind.i64.wrap (((n + 1 + 1 + 1 : Nat) : Int) - 1) = ((n + 1 + 1 : Nat) : Int) by have := hT.len; rw [wrap_in (by omega)]; omega)
  go_enter Tryd.func23, Tryd.ntmps23
  go_wp2_with (first
   | (go_at_call 24; (with_reducible refine (C0.out _ hR.out).mono ?_); rintro e w1 ⟨rfl, hXn, hRn⟩; replace hX := hX.trans hXn; replace hR := Lib.hid hRn; replace hA := Lib.hid (hXn.heap hA.out hne); clear hXn hRn)
   | (go_at_call 24; (with_reducible refine (C1.out _ hR.out).mono ?_); rintro e w1 ⟨rfl, hXn, hRn⟩; replace hX := hX.trans hXn; replace hR := Lib.hid hRn; replace hA := Lib.hid (hXn.heap hA.out hne); clear hXn hRn)
   | (go_at_call 24; (with_reducible refine (C2.out _ hR.out).mono ?_); rintro e w1 ⟨rfl, hXn, hRn⟩; replace hX := hX.trans hXn; replace hR := Lib.hid hRn; replace hA := Lib.hid (hXn.heap hA.out hne); clear hXn hRn)
   | (go_at_call 24; (with_reducible refine (C3.out _ hR.out).mono ?_); rintro e w1 ⟨rfl, hXn, hRn⟩; replace hX := hX.trans hXn; replace hR := Lib.hid hRn; replace hA := Lib.hid (hXn.heap hA.out hne); clear hXn hRn)
   | (go_at_call 24; (with_reducible refine (C4.out _ hR.out).mono ?_); rintro e w1 ⟨rfl, hXn, hRn⟩; replace hX := hX.trans hXn; replace hR := Lib.hid hRn; replace hA := Lib.hid (hXn.heap hA.out hne); clear hXn hRn)
   | (go_at_call 24; (with_reducible refine (C5.out _ hR.out).mono ?_); rintro e w1 ⟨rfl, hXn, hRn⟩; replace hX := hX.trans hXn; replace hR := Lib.hid hRn; replace hA := Lib.hid (hXn.heap hA.out hne); clear hXn hRn)
   | (go_at_call 24; (with_reducible refine (C6.out _ hR.out).mono ?_); rintro e w1 ⟨rfl, hXn, hRn⟩; replace hX := hX.trans hXn; replace hR := Lib.hid hRn; replace hA := Lib.hid (hXn.heap hA.out hne); clear hXn hRn)
   | (go_at_call 34; (with_reducible refine (C9.out _ hR.out).mono ?_); rintro e w2 ⟨rfl, hXn, hRn⟩; have hz := (Array.getElem?_eq_some_iff.1 hA.out).1; have hz2 := hXn.size; have hzw : W.heap.size < w2.heap.size := Nat.lt_of_lt_of_le hz hz2; have hB := Lib.hid (Box4.of (heap_last w2 (.cells #[.int .i64 1, .int .i64 m, .int .i64 m, .slice none 0 0] 24))); replace hX := (hX.trans hXn).alloc (.cells #[.int .i64 1, .int .i64 m, .int .i64 m, .slice none 0 0] 24); replace hA := Lib.hid (heap_old _ (.cells #[.int .i64 1, .int .i64 m, .int .i64 m, .slice none 0 0] 24) _ _ hzw (hXn.heap hA.out hne)); replace hR := Lib.hid (hRn.mono (Gr.alloc (Gr.refl w2) (.cells #[.int .i64 1, .int .i64 m, .int .i64 m, .slice none 0 0] 24))); clear hXn hRn)
   | (go_at_call 24; (with_reducible refine (take_yes hT ht2 q10 _ hR.out).mono ?_); rintro e w3 ⟨rfl, hXn, hRn⟩; replace hX := hX.trans hXn; replace hA := Lib.hid (hXn.heap hA.out hne); have hzb := hB.out.2.2; replace hB := Lib.hid (Box4.grx hB.out hXn (by omega)); replace hR := Lib.hid hRn; clear hXn hRn)
   | (go_at_call 34; (with_reducible refine (C10.out _ hR.out).mono ?_); rintro e w4 ⟨rfl, hXn, hRn⟩; have KR := RdAt.other (b := w2.heap.size) (o := 2) (u := .int .i64 m) hRn (by omega) (by omega); replace hX := (hX.trans hXn).put (b := w2.heap.size) (o := 2) (by omega) (.int .i64 m); replace hA := Lib.hid ((heap_setCell_ne w4 (show w2.heap.size ≠ W.heap.size by omega) 2 (.int .i64 m)).trans (hXn.heap hA.out hne)); have hzb := hB.out.2.2; replace hB := Lib.hid (Box4.grx hB.out hXn (by omega)); have BB1 := Box4.st2 hB.out (u := .int .i64 m); have BB := hB.out; obtain ⟨⟨b0, b1, b2, b3⟩, ⟨z0, z1, z2, z3⟩, hzl⟩ := BB; obtain ⟨⟨d0, d1, d2, d3⟩, _, _⟩ := BB1; have K3 := KR.here; obtain ⟨⟨r0, r1, r2⟩, ⟨g0, g1, g2⟩, hrl⟩ := K3; have hw9 := HW.out; replace hR := Lib.hid (RdAt.back KR); replace hX := hX.set (o := 1) (.int .i64 ((n + 1 + 1 : Nat) : Int)); clear hXn hRn)
   | (go_at_call 13; rw [HW2.out]; refine (refuse_any hR.out ht3 hT.len).mono ?_; rintro e w5 ⟨rfl, hXn⟩))
  exact ⟨rfl, rfl, hX.trans (GrX.ofG hXn)⟩
 ·rw [if_neg hmm]
  have hmb : (m2 == m) = false := by simpa using hmm
  go_enter Tryd.func23, Tryd.ntmps23
  go_wp2_with (first
   | (go_at_call 24; (with_reducible refine (C0.out _ hR.out).mono ?_); rintro e w1 ⟨rfl, hXn, hRn⟩; replace hX := hX.trans hXn; replace hR := Lib.hid hRn; replace hA := Lib.hid (hXn.heap hA.out hne); clear hXn hRn)
   | (go_at_call 24; (with_reducible refine (C1.out _ hR.out).mono ?_); rintro e w1 ⟨rfl, hXn, hRn⟩; replace hX := hX.trans hXn; replace hR := Lib.hid hRn; replace hA := Lib.hid (hXn.heap hA.out hne); clear hXn hRn)
   | (go_at_call 24; (with_reducible refine (C2.out _ hR.out).mono ?_); rintro e w1 ⟨rfl, hXn, hRn⟩; replace hX := hX.trans hXn; replace hR := Lib.hid hRn; replace hA := Lib.hid (hXn.heap hA.out hne); clear hXn hRn)
   | (go_at_call 24; (with_reducible refine (C3.out _ hR.out).mono ?_); rintro e w1 ⟨rfl, hXn, hRn⟩; replace hX := hX.trans hXn; replace hR := Lib.hid hRn; replace hA := Lib.hid (hXn.heap hA.out hne); clear hXn hRn)
   | (go_at_call 24; (with_reducible refine (C4.out _ hR.out).mono ?_); rintro e w1 ⟨rfl, hXn, hRn⟩; replace hX := hX.trans hXn; replace hR := Lib.hid hRn; replace hA := Lib.hid (hXn.heap hA.out hne); clear hXn hRn)
   | (go_at_call 24; (with_reducible refine (C5.out _ hR.out).mono ?_); rintro e w1 ⟨rfl, hXn, hRn⟩; replace hX := hX.trans hXn; replace hR := Lib.hid hRn; replace hA := Lib.hid (hXn.heap hA.out hne); clear hXn hRn)
   | (go_at_call 24; (with_reducible refine (C6.out _ hR.out).mono ?_); rintro e w1 ⟨rfl, hXn, hRn⟩; replace hX := hX.trans hXn; replace hR := Lib.hid hRn; replace hA := Lib.hid (hXn.heap hA.out hne); clear hXn hRn)
   | (go_at_call 34; (with_reducible refine (C9.out _ hR.out).mono ?_); rintro e w2 ⟨rfl, hXn, hRn⟩; have hz := (Array.getElem?_eq_some_iff.1 hA.out).1; have hz2 := hXn.size; have hzw : W.heap.size < w2.heap.size := Nat.lt_of_lt_of_le hz hz2; have hB := Lib.hid (Box4.of (heap_last w2 (.cells #[.int .i64 1, .int .i64 m, .int .i64 m, .slice none 0 0] 24))); replace hX := (hX.trans hXn).alloc (.cells #[.int .i64 1, .int .i64 m, .int .i64 m, .slice none 0 0] 24); replace hA := Lib.hid (heap_old _ (.cells #[.int .i64 1, .int .i64 m, .int .i64 m, .slice none 0 0] 24) _ _ hzw (hXn.heap hA.out hne)); replace hR := Lib.hid (hRn.mono (Gr.alloc (Gr.refl w2) (.cells #[.int .i64 1, .int .i64 m, .int .i64 m, .slice none 0 0] 24))); clear hXn hRn)
   | (go_at_call 24; (with_reducible refine (take_yes hT ht2 q10 _ hR.out).mono ?_); rintro e w3 ⟨rfl, hXn, hRn⟩; replace hX := hX.trans hXn; replace hA := Lib.hid (hXn.heap hA.out hne); have hzb := hB.out.2.2; replace hB := Lib.hid (Box4.grx hB.out hXn (by omega)); replace hR := Lib.hid hRn; clear hXn hRn)
   | (go_at_call 34; (with_reducible refine (C10.out _ hR.out).mono ?_); rintro e w4 ⟨rfl, hXn, hRn⟩; have KR := RdAt.other (b := w2.heap.size) (o := 2) (u := .int .i64 m2) hRn (by omega) (by omega); replace hX := (hX.trans hXn).put (b := w2.heap.size) (o := 2) (by omega) (.int .i64 m2); replace hA := Lib.hid ((heap_setCell_ne w4 (show w2.heap.size ≠ W.heap.size by omega) 2 (.int .i64 m2)).trans (hXn.heap hA.out hne)); have hzb := hB.out.2.2; replace hB := Lib.hid (Box4.grx hB.out hXn (by omega)); have BB1 := Box4.st2 hB.out (u := .int .i64 m2); have BB := hB.out; obtain ⟨⟨b0, b1, b2, b3⟩, ⟨z0, z1, z2, z3⟩, hzl⟩ := BB; obtain ⟨⟨d0, d1, d2, d3⟩, _, _⟩ := BB1; replace hR := Lib.hid KR; clear hXn hRn; have BA := Box4.of hA.out; obtain ⟨⟨k0, k1, k2, k3⟩, ⟨f0, f1, f2, f3⟩, hbl⟩ := BA))
  obtain ⟨⟨c0, c1, c2, c3⟩, hXf, hRf, hkf, hsf⟩ := fin4 hX (Nat.le_refl _) hne hne2 (Box4.of hA.out) hR.out (.int .i64 1) (.int .i64 m) (.int .i64 m2) (.slice none 0 0)
  refine bodyPost_ret (v := .agg #[.int .i64 1, .int .i64 m, .int .i64 m2, .slice none 0 0]) (by simp [results, Tryd.results23, go_sem, c0, c1, c2, c3]) rfl ?_
  exact ⟨_, n + 1 + 1 + 1, rfl, rfl, hn3, hXf, hRf, _, rfl, svAt_leaf _ _ _ _ _⟩
theorem part_step {f : Nat} (hT : Toks T) (hw : WholeS T tb off cap rb f) (hp : PrefS T tb off cap rb f) : PartS T tb off cap rb (f + 1) := by
 intro W n deep hd h hn ho
 obtain ⟨t, ht⟩ : ∃ t, T[n]? = some t := ⟨_, List.getElem?_eq_getElem hn⟩
 have hD := drop_at ht
 rw [parP] at ho ⊢
 rw [show takP wGroup (T.drop n) = _ from hD ▸ takP_eq wGroup t (T.drop (n + 1)), show takP wPreset (T.drop n) = _ from hD ▸ takP_eq wPreset t (T.drop (n + 1)), show takP wOpen (T.drop n) = _ from hD ▸ takP_eq wOpen t (T.drop (n + 1)), show takP wOdd (T.drop n) = _ from hD ▸ takP_eq wOdd t (T.drop (n + 1)), show takP wEven (T.drop n) = _ from hD ▸ takP_eq wEven t (T.drop (n + 1)), show takP wBk (T.drop n) = _ from hD ▸ takP_eq wBk t (T.drop (n + 1)), show takP wEvery (T.drop n) = _ from hD ▸ takP_eq wEvery t (T.drop (n + 1))] at ho ⊢
 by_cases q0 : takB (bZ wGroup) t = true
 ·rw [if_pos q0] at ho ⊢
  exact part_group (f := f) hT h ht q0
 rw [if_neg q0] at ho ⊢
 by_cases q1 : takB (bZ wPreset) t = true
 ·simp only [if_pos q1] at ho ⊢
  exact part_preset hT h ht (Bool.eq_false_iff.2 q0) q1
 simp only [if_neg q1] at ho ⊢
 by_cases q2 : takB (bZ wOpen) t = true
 ·simp only [if_pos q2] at ho ⊢
  exact part_open hT hw hd h ht (Bool.eq_false_iff.2 q0) (Bool.eq_false_iff.2 q1) q2 ho
 simp only [if_neg q2] at ho ⊢
 by_cases q3 : takB (bZ wOdd) t = true
 ·simp only [if_pos q3] at ho ⊢
  exact part_odd hT hp hd h ht (Bool.eq_false_iff.2 q0) (Bool.eq_false_iff.2 q1) (Bool.eq_false_iff.2 q2) q3 ho
 simp only [if_neg q3] at ho ⊢
 by_cases q4 : takB (bZ wEven) t = true
 ·simp only [if_pos q4] at ho ⊢
  exact part_even hT hp hd h ht (Bool.eq_false_iff.2 q0) (Bool.eq_false_iff.2 q1) (Bool.eq_false_iff.2 q2) (Bool.eq_false_iff.2 q3) q4 ho
 simp only [if_neg q4] at ho ⊢
 by_cases q5 : takB (bZ wBk) t = true
 ·simp only [if_pos q5] at ho ⊢
  exact part_back hT hp hd h ht (Bool.eq_false_iff.2 q0) (Bool.eq_false_iff.2 q1) (Bool.eq_false_iff.2 q2) (Bool.eq_false_iff.2 q3) (Bool.eq_false_iff.2 q4) q5 ho
 simp only [if_neg q5] at ho ⊢
 by_cases q6 : takB (bZ wEvery) t = true
 ·simp only [if_pos q6] at ho ⊢
  exact part_every hT hp hd h ht (Bool.eq_false_iff.2 q0) (Bool.eq_false_iff.2 q1) (Bool.eq_false_iff.2 q2) (Bool.eq_false_iff.2 q3) (Bool.eq_false_iff.2 q4) (Bool.eq_false_iff.2 q5) q6 ho
 simp only [if_neg q6] at ho ⊢
 exact part_plain hT hd h ht (Bool.eq_false_iff.2 q0) (Bool.eq_false_iff.2 q1) (Bool.eq_false_iff.2 q2) (Bool.eq_false_iff.2 q3) (Bool.eq_false_iff.2 q4) (Bool.eq_false_iff.2 q5) (Bool.eq_false_iff.2 q6)
end
end Go.Proofs.YtfalbgflabajbaaDoor

namespace Go.Proofs.YtfalbgflabajbaaDoor
set_option linter.unusedSectionVars false
open Go.RowKit Go.Sort
set_option linter.unusedVariables false
set_option linter.unusedSimpArgs false
set_option maxRecDepth 100000
def CsAt (w : World) (Q : Nat → Prop) : List PickD → List Value → Prop
 | [], xs => xs = []
 | p :: l, xs => ∃ sv r, xs = .int .i64 p.kind :: .int .i64 p.frm :: .int .i64 p.to :: sv :: r ∧ SvAt w Q p sv ∧ CsAt w Q l r
theorem CsAt.mono {w w' : World} {P Q : Nat → Prop} (hs : w.heap.size ≤ w'.heap.size) (hk : ∀ k, P k → k < w.heap.size → w'.heap[k]? = w.heap[k]?) (hQ : ∀ k, P k → k < w.heap.size → Q k) : ∀ {l : List PickD} {xs : List Value}, CsAt w P l xs → CsAt w' Q l xs
 | [], xs, h => h
 | p :: l, xs, h => by
  obtain ⟨sv, r, rfl, h1, h2⟩ := h
  exact ⟨sv, r, rfl, SvAt.mono hs hk hQ p sv h1, CsAt.mono hs hk hQ h2⟩
theorem CsAt.app {w : World} {Q : Nat → Prop} {q : PickD} {su : Value} (hq : SvAt w Q q su) : ∀ {l : List PickD} {xs : List Value}, CsAt w Q l xs → CsAt w Q (l ++ [q]) (xs ++ [.int .i64 q.kind, .int .i64 q.frm, .int .i64 q.to, su])
 | [], xs, h => by
  have h : xs = [] := h
  subst h
  exact ⟨su, [], rfl, hq, rfl⟩
 | p :: l, xs, h => by
  obtain ⟨sv, r, rfl, h1, h2⟩ := h
  exact ⟨sv, _, rfl, h1, CsAt.app hq h2⟩
theorem CsAt.row {w : World} {Q : Nat → Prop} {b : Nat} : ∀ {l : List PickD} {xs : List Value} (i : Nat), CsAt w Q l xs → (∀ j, j < xs.length → w.cell? ⟨b, i * 4 + j, none⟩ = xs[j]?) → RwAt w Q b i l
 | [], xs, i, _, _ => by rw [RwAt]; trivial
 | p :: l, xs, i, h, hc => by
  obtain ⟨sv, r, rfl, h1, h2⟩ := h
  rw [RwAt]
  refine ⟨⟨(hc 0 (by simp)).trans rfl, (hc 1 (by simp)).trans rfl, (hc 2 (by simp)).trans rfl, sv, (hc 3 (by simp)).trans rfl, h1⟩, CsAt.row (i + 1) h2 fun j hj => ?_⟩
  have := hc (j + 4) (by simp; omega)
  rw [show (i + 1) * 4 + j = i * 4 + (j + 4) by omega, this]
  rfl
theorem CsAt.len {w : World} {Q : Nat → Prop} : ∀ {l : List PickD} {xs : List Value}, CsAt w Q l xs → xs.length = l.length * 4
 | [], xs, h => by
  have h : xs = [] := h
  subst h
  rfl
 | p :: l, xs, h => by
  obtain ⟨sv, r, rfl, h1, h2⟩ := h
  have := CsAt.len h2
  simp only [List.length_cons]; omega
def OwnA (w : World) (P : Nat → Prop) (base : Nat) (l : List PickD) (sv : Value) : Prop := ∃ bk c xs, sv = .slice (some ⟨bk, 0, none⟩) l.length c ∧ w.ownsRow base 24 4 sv l.length xs ∧ P bk ∧ bk < w.heap.size ∧ CsAt w (fun k => P k ∧ k ≠ bk) l xs
theorem OwnA.at {w : World} {P : Nat → Prop} {base : Nat} {k f t : Int} {l : List PickD} {sv : Value} (h : OwnA w P base l sv) : SvAt w P (.mk k f t l) sv := by
 obtain ⟨bk, c, xs, rfl, ho, hP, hlt, hc⟩ := h
 rw [SvAt]
 have hx := hc.len
 have hn : l.length ≤ c ∧ c ≤ maxLen := by
  rcases ho.2 with ⟨h', _⟩ | ⟨g', cap', cur, h', _, hg, h3, h4, _⟩
  ·cases h'
  ·injection h' with _ _ h'; subst h'; exact ⟨h3, h4⟩
 refine .inr ⟨bk, c, rfl, hn.1, hn.2, hP, hlt, CsAt.row 0 (CsAt.mono (Nat.le_refl _) (fun _ _ _ => rfl) (fun k hk _ => hk.1) hc) fun j hj => ?_⟩
 rw [Nat.zero_mul, Nat.zero_add]
 exact ho.cellAt j (by omega)
theorem OwnA.mono {w w' : World} {P Q : Nat → Prop} {base : Nat} {l : List PickD} {sv : Value} (h : OwnA w P base l sv) (hs : w.heap.size ≤ w'.heap.size) (hk : ∀ k, P k → k < w.heap.size → w'.heap[k]? = w.heap[k]?) (hQ : ∀ k, P k → k < w.heap.size → Q k) : OwnA w' Q base l sv := by
 obtain ⟨bk, c, xs, rfl, ho, hP, hlt, hc⟩ := h
 refine ⟨bk, c, xs, rfl, ⟨ho.1, ?_⟩, hQ bk hP hlt, Nat.lt_of_lt_of_le hlt hs, CsAt.mono hs (fun k h1 h2 => hk k h1.1 h2) (fun k h1 h2 => ⟨hQ k h1.1 h2, h1.2⟩) hc⟩
 rcases ho.2 with h' | ⟨g', cap', cur, h', hb, hg, hr⟩
 ·exact .inl h'
 ·refine .inr ⟨g', cap', cur, h', hb, ?_, hr⟩
  injection h' with h' _ _
  injection h' with h'
  injection h' with h' _ _
  subst h'
  rw [hk _ hP hlt]; exact hg
theorem OwnA.two {w : World} {P : Nat → Prop} {base : Nat} {p q : PickD} {sv su : Value} (hb : base ≤ w.heap.size) (hP : P w.heap.size) (hp : SvAt w (fun k => P k ∧ k ≠ w.heap.size) p sv) (hq : SvAt w (fun k => P k ∧ k ≠ w.heap.size) q su) : OwnA (w.alloc (.cells #[.int .i64 p.kind, .int .i64 p.frm, .int .i64 p.to, sv, .int .i64 q.kind, .int .i64 q.frm, .int .i64 q.to, su] 24)) P base [p, q] (.slice (some ⟨w.heap.size, 0, none⟩) 2 2) := by
 have hal : ∀ k, k < w.heap.size → (w.alloc (.cells #[.int .i64 p.kind, .int .i64 p.frm, .int .i64 p.to, sv, .int .i64 q.kind, .int .i64 q.frm, .int .i64 q.to, su] 24)).heap[k]? = w.heap[k]? := fun k hk => Below.heap_alloc w _ k hk
 have hsz : w.heap.size ≤ (w.alloc (.cells #[.int .i64 p.kind, .int .i64 p.frm, .int .i64 p.to, sv, .int .i64 q.kind, .int .i64 q.frm, .int .i64 q.to, su] 24)).heap.size := by simp
 refine ⟨w.heap.size, 2, _, rfl, World.ownsRow_lit w _ 2 hb (by unfold maxLen; omega) rfl, hP, by simp, sv, _, rfl, SvAt.mono hsz (fun k _ hk => hal k hk) (fun k hk _ => hk) p sv hp, su, _, rfl, SvAt.mono hsz (fun k _ hk => hal k hk) (fun k hk _ => hk) q su hq, rfl⟩
theorem OwnA.more {w w' : World} {P : Nat → Prop} {base : Nat} {l : List PickD} {q : PickD} {sv v' su : Value} {bk c : Nat} {xs : List Value} (hv : sv = .slice (some ⟨bk, 0, none⟩) l.length c) (hlt : bk < w.heap.size) (hc : CsAt w (fun k => P k ∧ k ≠ bk) l xs) (hq : SvAt w (fun k => P k ∧ k ≠ bk) q su)
  (ho : w'.ownsRow base 24 4 v' (l.length + 1) (xs ++ [.int .i64 q.kind, .int .i64 q.frm, .int .i64 q.to, su])) (hg : w.grownBy w' (some bk)) (hPb : P bk) (hPn : ∀ k, w.heap.size ≤ k → P k) (hne : v' ≠ .slice none 0 0) (hold : ∀ g n cc, v' = .slice (some ⟨g, 0, none⟩) n cc → g = bk ∨ w.heap.size ≤ g) : OwnA w' P base (l ++ [q]) v' := by
 rcases ho.2 with ⟨h', _⟩ | ⟨g', cap', cur, h', hb, hgg, hr⟩
 ·exact absurd h' hne
 have hlt' := (Array.getElem?_eq_some_iff.1 hgg).1
 have hcs : CsAt w' (fun k => P k ∧ k ≠ bk ∧ k < w.heap.size) (l ++ [q]) (xs ++ [.int .i64 q.kind, .int .i64 q.frm, .int .i64 q.to, su]) := CsAt.app (SvAt.mono hg.size (fun k h1 h2 => hg.block k h2 (fun e => h1.2 (Option.some.inj e))) (fun k h1 h2 => ⟨h1.1, h1.2, h2⟩) q su hq) (CsAt.mono hg.size (fun k h1 h2 => hg.block k h2 (fun e => h1.2 (Option.some.inj e))) (fun k h1 h2 => ⟨h1.1, h1.2, h2⟩) hc)
 subst h'
 have hlen : (l ++ [q]).length = l.length + 1 := by simp
 refine ⟨g', cap', _, by rw [hlen], by rw [hlen]; exact ho, ?_, hlt', CsAt.mono (Nat.le_refl _) (fun _ _ _ => rfl) (fun k h1 _ => ⟨h1.1, ?_⟩) hcs⟩
 ·rcases hold _ _ _ rfl with h | h
  ·rw [h]; exact hPb
  ·exact hPn _ h
 ·rcases hold _ _ _ rfl with h | h
  ·rw [h]; exact h1.2.1
  ·have := h1.2.2; omega
theorem append_more {P : Program} (w : World) (base : Nat) (t ty e : TypeId) (i : TypeInfo) (z : Value) (size bytes : Nat) (ht : P.underlying t = some (.slice e)) (hi : P.info? e = some i) (hz : i.zero = some z)
  (hsize : i.size = size) (hby : i.bytes = bytes) (hzs : z.cells.size = size) (hsz : 0 < size) (bk n cc : Nat) (xs : List Value) (hown : w.ownsRow base e size (.slice (some ⟨bk, 0, none⟩) n cc) n xs)
  (a : Addr) (m c : Nat) (news : List Value) (hl : news.length = m * size) (hnews : ∀ j u, news[j]? = some u → w.cell? (a.add j) = some u) (h1 : ∀ u ∈ news, u.oneCell' = true)
  (h63 : n + m ≤ maxLen) (hbytes : (n + m) * bytes ≤ 140737488355328) (hbase : base ≤ w.heap.size) :
  ∃ g c' w', (Builtin.append_ #[t, t] ty #[.slice (some ⟨bk, 0, none⟩) n cc, .slice (some a) m c]).run P w = .ok (.slice (some ⟨g, 0, none⟩) (n + m) c') w' ∧ w'.ownsRow base e size (.slice (some ⟨g, 0, none⟩) (n + m) c') (n + m) (xs ++ news) ∧ w.grownBy w' (some bk) ∧ (g = bk ∨ w.heap.size ≤ g) := by
 obtain ⟨v', w', r1, o1, g1, _⟩ := run_append_own (P := P) w base t ty e i z size bytes ht hi hz hsize hby hzs hsz (.slice (some ⟨bk, 0, none⟩) n cc) n xs hown a m c news hl hnews h1 h63 hbytes hbase
 have hown2 := hown
 rcases hown.2 with ⟨h', _⟩ | ⟨g, cap, cur, h', hbg, hg, hnc, hcm, hcs, htake⟩
 ·cases h'
 injection h' with h1' _ h3'
 injection h1' with h1'
 injection h1' with h1'
 subst h1' h3'
 subst hsize
 by_cases hroom : n + m ≤ cc
 ·have hfit : n * i.size + news.length ≤ cur.size := by rw [hl, hcs, ← Nat.add_mul]; exact Nat.mul_le_mul_right _ hroom
  have r2 := run_append_room (P := P) w t ty e i ht hi bk n cc cur hg a m c news hl hnews h1 hroom hfit
  rw [r1] at r2
  injection r2 with r2 r3
  subst r2
  exact ⟨bk, cc, w', r1, o1, g1, .inl rfl⟩
 ·have holds : ∀ j u, xs[j]? = some u → w.cell? ((⟨bk, 0, none⟩ : Addr).add j) = some u := hown2.cells (g := bk) rfl
  subst hby
  have hsmall : n + m ≤ 9223372036854775807 := by simp only [maxLen] at h63; omega
  have r2 := run_append_grow (P := P) w t ty e i z ht hi hz ⟨bk, 0, none⟩ n cc xs hown2.1 holds a m c news hl hnews (by omega) (by omega) (growslice_fits (by omega) hbytes)
  rw [r1] at r2
  injection r2 with r2 r3
  subst r2
  exact ⟨w.heap.size, _, w', r1, o1, g1, .inr (Nat.le_refl _)⟩
end Go.Proofs.YtfalbgflabajbaaDoor

namespace Go.Proofs.YtfalbgflabajbaaDoor
set_option linter.unusedSectionVars false
open Go.RowKit Go.Sort
set_option linter.unusedVariables false
set_option linter.unusedSimpArgs false
set_option maxRecDepth 100000
theorem wpList_more {P : Program} {ops : Array Oper} {rest : List Oper} {o : Oper} {a : Act} {Q : Exit → Act → World → Prop} (w : World) (hgd : o.guard = none) (s x : Operand) (t : TypeId)
  (ho : o.op = .call { callee := .builtin .append, args := #[s, x], argTypes := #[t, t] }) (base : Nat) (e : TypeId) (z : Value) (size bytes : Nat) (ht : P.underlying t = some (.slice e)) (hinfo : (P.info? e).map (fun i => (i.zero, i.size, i.bytes)) = some (some z, size, bytes)) (hzs : z.cells.size = size) (hsz : 0 < size)
  (bk n cc : Nat) (xs : List Value) (hs : a.eval s = .slice (some ⟨bk, 0, none⟩) n cc) (hown : w.ownsRow base e size (.slice (some ⟨bk, 0, none⟩) n cc) n xs)
  (ad : Addr) (m c : Nat) (news : List Value) (hx : a.eval x = .slice (some ad) m c) (hl : news.length = m * size) (hnews : ∀ j u, news[j]? = some u → w.cell? (ad.add j) = some u) (h1 : ∀ u ∈ news, u.oneCell' = true)
  (h63 : n + m ≤ maxLen) (hbytes : (n + m) * bytes ≤ 140737488355328) (hbase : base ≤ w.heap.size)
  (h : ∀ g c' w', w'.ownsRow base e size (.slice (some ⟨g, 0, none⟩) (n + m) c') (n + m) (xs ++ news) → w.grownBy w' (some bk) → (g = bk ∨ w.heap.size ≤ g) → wpList P ops Q rest (a.put o.dst (.slice (some ⟨g, 0, none⟩) (n + m) c')) w') : wpList P ops Q (o :: rest) a w := by
 obtain ⟨i0, hi, hz0, hz1, hz2⟩ := info_parts hinfo
 refine wpList_plain hgd fun K hK => ?_
 obtain ⟨g, c', w', hr, h2, h3, h4⟩ := append_more (P := P) w base t o.type e i0 z size bytes ht hi hz0 hz1 hz2 hzs hsz bk n cc xs hown ad m c news hl hnews h1 h63 hbytes hbase
 unfold Oper.wp execOp
 simp only [ho, resolve, invoke, builtin, Sem.run_bind, Sem.run_pure, Result.andThen_ok, List.map_toArray, List.map_cons, List.map_nil, hs, hx, hr]
 exact hK _ _ (h g c' w' h2 h3 h4)
section
variable {T : List TokD} {tb off cap rb : Nat}
def RowI (w : World) (P : Nat → Prop) (base : Nat) (b : Bool) (p : PickD) (sv : Value) : Prop := if b = true then OwnA w P base p.args sv ∧ p.kind = 4 ∧ p.frm = 0 ∧ p.to = 0 else SvAt w P p sv
theorem pk_eta (p : PickD) : p = .mk p.kind p.frm p.to p.args := by cases p; rfl
theorem RowI.at {w : World} {P : Nat → Prop} {base : Nat} {b : Bool} {p : PickD} {sv : Value} (h : RowI w P base b p sv) : SvAt w P p sv := by
 unfold RowI at h
 split at h
 ·have := h.1.at (k := p.kind) (f := p.frm) (t := p.to)
  rwa [← pk_eta] at this
 ·exact h
theorem RowI.mono {w w' : World} {P Q : Nat → Prop} {base : Nat} {b : Bool} {p : PickD} {sv : Value} (h : RowI w P base b p sv) (hs : w.heap.size ≤ w'.heap.size) (hk : ∀ k, P k → k < w.heap.size → w'.heap[k]? = w.heap[k]?) (hQ : ∀ k, P k → k < w.heap.size → Q k) : RowI w' Q base b p sv := by
 unfold RowI at h ⊢
 split at h
 ·rw [if_pos ‹_›]; exact ⟨h.1.mono hs hk hQ, h.2⟩
 ·rw [if_neg ‹_›]; exact SvAt.mono hs hk hQ p sv h
def leftW (T : List TokD) (rb : Nat) (w : World) : Nat := T.length - (match w.cell? ⟨rb, 1, none⟩ with | some (.int _ z) => z.toNat | _ => 0)
theorem leftW_at {w : World} {n deep : Nat} (h : RdAt T tb off cap rb w n deep) : leftW T rb w = T.length - n := by
 unfold leftW
 rw [h.here.1.2.1]
 simp
theorem GrX.grown {rb bk : Nat} {W w w' : World} (h : GrX rb W w) (hg : w.grownBy w' (some bk)) (hb : W.heap.size ≤ bk) : GrX rb W w' :=
 ⟨hg.os.trans h.os, hg.tape.trans h.tape, hg.output.trans h.output, Nat.le_trans h.size hg.size, fun k hk hne => (hg.block k (Nat.lt_of_lt_of_le hk h.size) (fun e => by injection e with e; omega)).trans (h.block k hk hne)⟩
theorem RdAt.grown {n deep bk : Nat} {w w' : World} (h : RdAt T tb off cap rb w n deep) (hg : w.grownBy w' (some bk)) (h1 : bk ≠ rb) (h2 : bk ≠ tb) : RdAt T tb off cap rb w' n deep := by
 refine ⟨Box3.grown h.here hg (Ne.symm h1), h.ne, fun i t ht => ?_⟩
 obtain ⟨a, b, c⟩ := h.word i t ht
 have hne : ∀ j, some (⟨tb, j, none⟩ : Addr).block ≠ some bk := fun j e => by injection e with e; exact h2 e.symm
 exact ⟨hg.cell a (hne _), hg.cell b (hne _), hg.cell c (hne _)⟩
theorem RdAt.drew {w : World} {n deep : Nat} (h : RdAt T tb off cap rb w n deep) : RdAt T tb off cap rb w.drew n deep := ⟨h.here, h.ne, h.word⟩
theorem GrX.drew {rb : Nat} {W w : World} (h : GrX rb W w) : GrX rb W w.drew := ⟨h.os, h.tape, h.output, h.size, h.block⟩
theorem more_news (w3 : World) (qo : Obj) (cs : Array Value) {v0 v1 v2 v3 : Value} (hq : qo = .cells #[v0, v1, v2, v3] 24) : ∀ (j : Nat) (u : Value), [v0, v1, v2, v3][j]? = some u → ((w3.alloc qo).alloc qo).cell? ((⟨w3.heap.size + 1, 0, none⟩ : Addr).add j) = some u := by
 intro j u hu
 subst hq
 have hadd : (⟨w3.heap.size + 1, 0, none⟩ : Addr).add j = ⟨w3.heap.size + 1, j, none⟩ := by unfold Addr.add; split <;> simp_all
 have hh : ((w3.alloc (.cells #[v0, v1, v2, v3] 24)).alloc (.cells #[v0, v1, v2, v3] 24)).heap[w3.heap.size + 1]? = some (.cells #[v0, v1, v2, v3] 24 (0, 0)) := heap_at _ _ _ (by simp)
 rw [hadd, Lib.cell_of_heap hh]
 simpa using hu
set_option maxHeartbeats 2000000 in
theorem whole_step {f : Nat} (hT : Toks T) (ih : ∀ g, g ≤ f → PartS T tb off cap rb g) : WholeS T tb off cap rb (f + 1) := by
 intro W n deep hd h hn ho
 have hrb := h.here.2.2
 have htb := h.tb_lt hn
 have hne : W.heap.size ≠ rb := by omega
 have hne2 : W.heap.size ≠ tb := by omega
 have hG1 : Gr W (W.alloc (.cells #[.int .i64 0, .int .i64 0, .int .i64 0, .slice none 0 0] 24)) := Gr.alloc (Gr.refl W) _
 have hA := Lib.hid (heap_last W (.cells #[.int .i64 0, .int .i64 0, .int .i64 0, .slice none 0 0] 24))
 have hR := Lib.hid (h.mono hG1)
 have hX : GrX rb W (W.alloc (.cells #[.int .i64 0, .int .i64 0, .int .i64 0, .slice none 0 0] 24)) := GrX.ofG hG1
 clear h hG1
 rw [whlP] at ho ⊢
 have D : ∀ w, RdAt T tb off cap rb w n deep → _ := fun w hw => ih f (Nat.le_refl f) w n deep hd hw hn (fun e => ho (by rw [e]; rfl))
 cases hQ : parP f deep (T.drop n) with
 | out => exact absurd (by rw [hQ]; rfl) ho
 | bad m =>
  rw [hQ] at D
  replace D := Lib.hid D
  go_enter Tryd.func11, Tryd.ntmps11
  go_wp2_with (go_at_call 23; (with_reducible refine (D.out _ hR.out).mono ?_); rintro e w1 ⟨rfl, hXn⟩)
  exact ⟨rfl, rfl, hX.trans hXn⟩
 | large =>
  rw [hQ] at D
  replace D := Lib.hid D
  go_enter Tryd.func11, Tryd.ntmps11
  go_wp2_with (go_at_call 23; (with_reducible refine (D.out _ hR.out).mono ?_); rintro e w1 ⟨rfl, hXn⟩)
  exact ⟨rfl, rfl, hX.trans hXn⟩
 | ok p l =>
  rw [hQ] at D ho
  replace D := Lib.hid D
  replace ho : rowP f deep p false l ≠ .out := ho
  show Calls _ _ _ _ (PostP T tb off cap rb deep W (rowP f deep p false l))
  obtain ⟨R, hRR⟩ : ∃ R, R = rowP f deep p false l := ⟨_, rfl⟩
  rw [← hRR] at ho ⊢
  replace hRR := Lib.hid hRR.symm
  replace ho := Lib.hid ho
  go_enter Tryd.func11, Tryd.ntmps11
  go_wp2_with (go_at_call 23; (with_reducible refine (D.out _ hR.out).mono ?_); rintro e w1 ⟨v, n2, rfl, rfl, hn2, hXn, hRn, sv, rfl, hS⟩; obtain ⟨sa, sn, sc, rfl⟩ := svAt_shape hS)
  have hz := (Array.getElem?_eq_some_iff.1 hA.out).1
  have hz2 := hXn.size
  have hB0 := Lib.hid (Box4.of (heap_last w1 (.cells #[.int .i64 p.kind, .int .i64 p.frm, .int .i64 p.to, .slice sa sn sc] 24)))
  have hA0 := Lib.hid (heap_old _ (.cells #[.int .i64 p.kind, .int .i64 p.frm, .int .i64 p.to, .slice sa sn sc] 24) _ _ (Nat.lt_of_lt_of_le hz hz2) (hXn.heap hA.out hne))
  have hX0 := (hX.trans hXn).alloc (.cells #[.int .i64 p.kind, .int .i64 p.frm, .int .i64 p.to, .slice sa sn sc] 24)
  have hR0 := Lib.hid (hRn.mono (Gr.alloc (Gr.refl w1) (.cells #[.int .i64 p.kind, .int .i64 p.frm, .int .i64 p.to, .slice sa sn sc] 24)))
  have hS0 := SvAt.mono (Q := fun k => W.heap.size < k ∧ k ≠ w1.heap.size) (Gr.alloc (Gr.refl w1) (.cells #[.int .i64 p.kind, .int .i64 p.frm, .int .i64 p.to, .slice sa sn sc] 24)).size (fun k _ hk => (Gr.alloc (Gr.refl w1) (.cells #[.int .i64 p.kind, .int .i64 p.frm, .int .i64 p.to, .slice sa sn sc] 24)).below.block k hk) (fun k hk1 hk2 => ⟨by have := hk1.1; omega, by omega⟩) p _ hS
  have hpW : W.heap.size < w1.heap.size := by omega
  have hpr : w1.heap.size ≠ rb := by omega
  have hpt : w1.heap.size ≠ tb := by omega
  clear hS hRn hXn hX hR hA D hz hz2
  generalize w1.alloc (.cells #[.int .i64 p.kind, .int .i64 p.frm, .int .i64 p.to, .slice sa sn sc] 24) = w0 at *
  generalize w1.heap.size = pb at *
  go_loopw [4] (fun rv wr => ∃ (b : Bool) (g n3 : Nat) (p : PickD) (sa : Option Addr) (sn sc : Nat), rv = .bool b ∧ n3 < T.length ∧ GrX rb W wr ∧ Hid (RdAt T tb off cap rb wr n3 deep) ∧ Hid (wr.heap[W.heap.size]? = some (.cells #[.int .i64 0, .int .i64 0, .int .i64 0, .slice none 0 0] 24 (0, 0))) ∧ Hid (Box4 wr pb (.int .i64 p.kind) (.int .i64 p.frm) (.int .i64 p.to) (.slice sa sn sc)) ∧ Hid (RowI wr (fun k => W.heap.size < k ∧ k ≠ pb) W.heap.size b p (.slice sa sn sc)) ∧ Hid (b = true → p.args.length ≤ n3 + 2) ∧ Hid (g ≤ f) ∧ Hid (rowP g deep p b (T.drop n3) = R)) (fun _ wr => leftW T rb wr)
  case atStart => exact ⟨false, f, n2, p, sa, sn, sc, rfl, hn2, hX0, hR0, hA0, hB0, Lib.hid (by unfold RowI; rw [if_neg (by simp)]; exact hS0), Lib.hid (fun e => by cases e), Lib.hid (Nat.le_refl f), hRR⟩
  case round =>
   clear hX0 hR0 hA0 hB0 hS0 hRR hn2
   obtain ⟨b, g, n3, p, sa, sn, sc, rfl, hn3, hX, hR, hA, hB, hI, hlen, hg, hRR⟩ := hrel
   have hlw := Lib.hid (leftW_at hR.out)
   obtain ⟨t, ht⟩ : ∃ t, T[n3]? = some t := ⟨_, List.getElem?_eq_getElem hn3⟩
   cases g with
   | zero => exact absurd (hRR.out.symm.trans (by rw [rowP])) ho.out
   | succ g =>
    have hE := hRR.out
    rw [rowP, drop_at ht, takP_eq, takP_eq] at hE
    cases qp : takB (bZ wPlus) t
    ·rw [qp, if_neg (by simp)] at hE
     have C1 := Lib.hid (take_no (tb := tb) (off := off) (cap := cap) (rb := rb) (deep := deep) hT ht (show takB ⟨#[43]⟩ t = false from qp))
     cases qm : takB (bZ wMinus) t
     ·rw [qm, if_neg (by simp)] at hE
      have C2 := Lib.hid (take_no (tb := tb) (off := off) (cap := cap) (rb := rb) (deep := deep) hT ht (show takB ⟨#[45]⟩ t = false from qm))
      replace hE := Lib.hid (show PR.ok p (t :: T.drop (n3 + 1)) = R from hE)
      replace hI := Lib.hid hI.out.at
      clear hRR qp qm
      go_wp2_with (first
       | (go_at_call 24; (with_reducible refine (C1.out _ hR.out).mono ?_); rintro e w2 ⟨rfl, hXn, hRn⟩; replace hX := hX.trans hXn; replace hI := Lib.hid (SvAt.mono (Q := fun k => W.heap.size < k ∧ k ≠ pb) hXn.size (fun k hk1 hk2 => hXn.block k hk2 (by have := hk1.1; omega)) (fun k hk1 _ => hk1) p _ hI.out); replace hA := Lib.hid (hXn.heap hA.out hne); replace hB := Lib.hid (Box4.grx hB.out hXn hpr); replace hR := Lib.hid hRn; clear hXn hRn)
       | (go_at_call 24; (with_reducible refine (C2.out _ hR.out).mono ?_); rintro e w3 ⟨rfl, hXn, hRn⟩; replace hX := hX.trans hXn; replace hI := Lib.hid (SvAt.mono (Q := fun k => W.heap.size < k ∧ k ≠ pb) hXn.size (fun k hk1 hk2 => hXn.block k hk2 (by have := hk1.1; omega)) (fun k hk1 _ => hk1) p _ hI.out); replace hA := Lib.hid (hXn.heap hA.out hne); replace hB := Lib.hid (Box4.grx hB.out hXn hpr); replace hR := Lib.hid hRn; clear hXn hRn; have BB := hB.out; obtain ⟨⟨b0, b1, b2, b3⟩, _, _⟩ := BB; have BA := Box4.of hA.out; obtain ⟨⟨k0, k1, k2, k3⟩, ⟨f0, f1, f2, f3⟩, hbl⟩ := BA))
      obtain ⟨⟨c0, c1, c2, c3⟩, hXf, hRf, hkf, hsf⟩ := fin4 hX (Nat.le_refl _) hne hne2 (Box4.of hA.out) hR.out (.int .i64 p.kind) (.int .i64 p.frm) (.int .i64 p.to) (.slice sa sn sc)
      rw [← hE.out]
      refine bodyPost_ret (v := .agg #[.int .i64 p.kind, .int .i64 p.frm, .int .i64 p.to, .slice sa sn sc]) (by simp [results, Tryd.results11, go_sem, c0, c1, c2, c3]) rfl ?_
      exact ⟨_, n3, rfl, (drop_at ht).symm, hn3, hXf, hRf, _, rfl, SvAt.mono (by omega) (fun k hk1 hk2 => hkf k (by have := hk1.1; omega)) (fun k hk1 hk2 => ⟨by have := hk1.1; omega, by omega⟩) p _ hI.out⟩
     ·rw [qm, if_pos rfl] at hE
      have hn4 := hT.next ht (takB_ne (s := wMinus) (by decide) qm)
      have C2 := Lib.hid (take_yes (tb := tb) (off := off) (cap := cap) (rb := rb) (deep := deep) hT ht (show takB ⟨#[45]⟩ t = true from qm))
      replace hE : ((parP g deep (T.drop (n3 + 1))).bind fun q l2 => rowP g deep (.mk 5 0 0 [p, q]) false l2) = R := hE
      have D : ∀ w, RdAt T tb off cap rb w (n3 + 1) deep → _ := fun w hw => ih g (by have := hg.out; omega) w (n3 + 1) deep hd hw hn4 (fun e => ho.out (by rw [← hE, e]; rfl))
      replace hI := Lib.hid hI.out.at
      clear hRR qp qm
      cases hQ2 : parP g deep (T.drop (n3 + 1)) with
      | out => rw [hQ2] at hE; exact absurd hE.symm ho.out
      | bad m =>
       rw [hQ2] at D hE
       replace D := Lib.hid D
       replace hE := Lib.hid (show PR.bad m = R from hE)
       go_wp2_with (first
        | (go_at_call 24; (with_reducible refine (C1.out _ hR.out).mono ?_); rintro e w2 ⟨rfl, hXn, hRn⟩; replace hX := hX.trans hXn; replace hI := Lib.hid (SvAt.mono (Q := fun k => W.heap.size < k ∧ k ≠ pb) hXn.size (fun k hk1 hk2 => hXn.block k hk2 (by have := hk1.1; omega)) (fun k hk1 _ => hk1) p _ hI.out); replace hA := Lib.hid (hXn.heap hA.out hne); replace hB := Lib.hid (Box4.grx hB.out hXn hpr); replace hR := Lib.hid hRn; clear hXn hRn)
        | (go_at_call 24; (with_reducible refine (C2.out _ hR.out).mono ?_); rintro e w3 ⟨rfl, hXn, hRn⟩; replace hX := hX.trans hXn; replace hI := Lib.hid (SvAt.mono (Q := fun k => W.heap.size < k ∧ k ≠ pb) hXn.size (fun k hk1 hk2 => hXn.block k hk2 (by have := hk1.1; omega)) (fun k hk1 _ => hk1) p _ hI.out); replace hA := Lib.hid (hXn.heap hA.out hne); replace hB := Lib.hid (Box4.grx hB.out hXn hpr); replace hR := Lib.hid hRn; clear hXn hRn))
       replace hR : Hid (RdAt T tb off cap rb w3.drew (n3 + 1) deep) := Lib.hid hR.out.drew
       replace hX : GrX rb W w3.drew := hX.drew
       replace hI : Hid (SvAt w3.drew (fun k => W.heap.size < k ∧ k ≠ pb) p (.slice sa sn sc)) := Lib.hid (SvAt.mono (w := w3) (w' := w3.drew) (Nat.le_refl _) (fun _ _ _ => rfl) (fun k h _ => h) p _ hI.out)
       replace hA : Hid (w3.drew.heap[W.heap.size]? = some (.cells #[.int .i64 0, .int .i64 0, .int .i64 0, .slice none 0 0] 24 (0, 0))) := hA
       replace hB : Hid (Box4 w3.drew pb (.int .i64 p.kind) (.int .i64 p.frm) (.int .i64 p.to) (.slice sa sn sc)) := hB
       have BB := hB.out
       obtain ⟨⟨b0, b1, b2, b3⟩, ⟨g0, g1, g2, g3⟩, hbl⟩ := BB
       refine wp_region_any (by kernel_rfl) ?_
       (change wpAny _ _ _ _ _ _ _ (World.drew _))
       refine wpAny_take (i := 1) (v := ?_) rfl (by kernel_rfl) (by kernel_rfl) (by kernel_rfl) (fun _ _ _ h => h) (Or.inl ⟨by rfl, ?_⟩) ?_
       rotate_left
       ·intro w
        go_simp <;> with_reducible rfl
       refine wpAny_ready (rs := [0, 2]) (by kernel_rfl) (by simp) (AllReady.cons rfl (fun K hK => ?_) (AllReady.cons rfl (fun K hK => ?_) AllReady.nil))
       ·go_simp
        refine hK _ _ ?_
        refine wpAny_ready (rs := [2]) (by kernel_rfl) (by simp) (AllReady.cons rfl (fun K hK => ?_) AllReady.nil)
        go_simp
        go_wp2_with (go_at_call 23; (with_reducible refine (D.out _ hR.out).mono ?_); rintro e w4 ⟨rfl, hXn⟩)
        rw [← hE.out]
        exact ⟨rfl, rfl, hX.trans hXn⟩
       ·go_simp
        go_wp2_with (go_at_call 23; (with_reducible refine (D.out _ hR.out).mono ?_); rintro e w4 ⟨rfl, hXn⟩)
        rw [← hE.out]
        exact ⟨rfl, rfl, hX.trans hXn⟩
      | large =>
       rw [hQ2] at D hE
       replace D := Lib.hid D
       replace hE := Lib.hid (show PR.large = R from hE)
       go_wp2_with (first
        | (go_at_call 24; (with_reducible refine (C1.out _ hR.out).mono ?_); rintro e w2 ⟨rfl, hXn, hRn⟩; replace hX := hX.trans hXn; replace hI := Lib.hid (SvAt.mono (Q := fun k => W.heap.size < k ∧ k ≠ pb) hXn.size (fun k hk1 hk2 => hXn.block k hk2 (by have := hk1.1; omega)) (fun k hk1 _ => hk1) p _ hI.out); replace hA := Lib.hid (hXn.heap hA.out hne); replace hB := Lib.hid (Box4.grx hB.out hXn hpr); replace hR := Lib.hid hRn; clear hXn hRn)
        | (go_at_call 24; (with_reducible refine (C2.out _ hR.out).mono ?_); rintro e w3 ⟨rfl, hXn, hRn⟩; replace hX := hX.trans hXn; replace hI := Lib.hid (SvAt.mono (Q := fun k => W.heap.size < k ∧ k ≠ pb) hXn.size (fun k hk1 hk2 => hXn.block k hk2 (by have := hk1.1; omega)) (fun k hk1 _ => hk1) p _ hI.out); replace hA := Lib.hid (hXn.heap hA.out hne); replace hB := Lib.hid (Box4.grx hB.out hXn hpr); replace hR := Lib.hid hRn; clear hXn hRn))
       replace hR : Hid (RdAt T tb off cap rb w3.drew (n3 + 1) deep) := Lib.hid hR.out.drew
       replace hX : GrX rb W w3.drew := hX.drew
       replace hI : Hid (SvAt w3.drew (fun k => W.heap.size < k ∧ k ≠ pb) p (.slice sa sn sc)) := Lib.hid (SvAt.mono (w := w3) (w' := w3.drew) (Nat.le_refl _) (fun _ _ _ => rfl) (fun k h _ => h) p _ hI.out)
       replace hA : Hid (w3.drew.heap[W.heap.size]? = some (.cells #[.int .i64 0, .int .i64 0, .int .i64 0, .slice none 0 0] 24 (0, 0))) := hA
       replace hB : Hid (Box4 w3.drew pb (.int .i64 p.kind) (.int .i64 p.frm) (.int .i64 p.to) (.slice sa sn sc)) := hB
       have BB := hB.out
       obtain ⟨⟨b0, b1, b2, b3⟩, ⟨g0, g1, g2, g3⟩, hbl⟩ := BB
       refine wp_region_any (by kernel_rfl) ?_
       (change wpAny _ _ _ _ _ _ _ (World.drew _))
       refine wpAny_take (i := 1) (v := ?_) rfl (by kernel_rfl) (by kernel_rfl) (by kernel_rfl) (fun _ _ _ h => h) (Or.inl ⟨by rfl, ?_⟩) ?_
       rotate_left
       ·intro w
        go_simp <;> with_reducible rfl
       refine wpAny_ready (rs := [0, 2]) (by kernel_rfl) (by simp) (AllReady.cons rfl (fun K hK => ?_) (AllReady.cons rfl (fun K hK => ?_) AllReady.nil))
       ·go_simp
        refine hK _ _ ?_
        refine wpAny_ready (rs := [2]) (by kernel_rfl) (by simp) (AllReady.cons rfl (fun K hK => ?_) AllReady.nil)
        go_simp
        go_wp2_with (go_at_call 23; (with_reducible refine (D.out _ hR.out).mono ?_); rintro e w4 ⟨rfl, hXn⟩)
        rw [← hE.out]
        exact ⟨rfl, rfl, hX.trans hXn⟩
       ·go_simp
        go_wp2_with (go_at_call 23; (with_reducible refine (D.out _ hR.out).mono ?_); rintro e w4 ⟨rfl, hXn⟩)
        rw [← hE.out]
        exact ⟨rfl, rfl, hX.trans hXn⟩
      | ok q l2 =>
       rw [hQ2] at D hE
       have hll := (par_len g).1 _ _ _ _ hQ2
       replace D := Lib.hid D
       replace hE := Lib.hid (show rowP g deep (.mk 5 0 0 [p, q]) false l2 = R from hE)
       go_wp2_with (first
        | (go_at_call 24; (with_reducible refine (C1.out _ hR.out).mono ?_); rintro e w2 ⟨rfl, hXn, hRn⟩; replace hX := hX.trans hXn; replace hI := Lib.hid (SvAt.mono (Q := fun k => W.heap.size < k ∧ k ≠ pb) hXn.size (fun k hk1 hk2 => hXn.block k hk2 (by have := hk1.1; omega)) (fun k hk1 _ => hk1) p _ hI.out); replace hA := Lib.hid (hXn.heap hA.out hne); replace hB := Lib.hid (Box4.grx hB.out hXn hpr); replace hR := Lib.hid hRn; clear hXn hRn)
        | (go_at_call 24; (with_reducible refine (C2.out _ hR.out).mono ?_); rintro e w3 ⟨rfl, hXn, hRn⟩; replace hX := hX.trans hXn; replace hI := Lib.hid (SvAt.mono (Q := fun k => W.heap.size < k ∧ k ≠ pb) hXn.size (fun k hk1 hk2 => hXn.block k hk2 (by have := hk1.1; omega)) (fun k hk1 _ => hk1) p _ hI.out); replace hA := Lib.hid (hXn.heap hA.out hne); replace hB := Lib.hid (Box4.grx hB.out hXn hpr); replace hR := Lib.hid hRn; clear hXn hRn))
       replace hR : Hid (RdAt T tb off cap rb w3.drew (n3 + 1) deep) := Lib.hid hR.out.drew
       replace hX : GrX rb W w3.drew := hX.drew
       replace hI : Hid (SvAt w3.drew (fun k => W.heap.size < k ∧ k ≠ pb) p (.slice sa sn sc)) := Lib.hid (SvAt.mono (w := w3) (w' := w3.drew) (Nat.le_refl _) (fun _ _ _ => rfl) (fun k h _ => h) p _ hI.out)
       replace hA : Hid (w3.drew.heap[W.heap.size]? = some (.cells #[.int .i64 0, .int .i64 0, .int .i64 0, .slice none 0 0] 24 (0, 0))) := hA
       replace hB : Hid (Box4 w3.drew pb (.int .i64 p.kind) (.int .i64 p.frm) (.int .i64 p.to) (.slice sa sn sc)) := hB
       have BB := hB.out
       obtain ⟨⟨b0, b1, b2, b3⟩, ⟨g0, g1, g2, g3⟩, hbl⟩ := BB
       go_region_with (go_at_call 23; (with_reducible refine (D.out _ hR.out).mono ?_); rintro e w4 ⟨v, n4, rfl, hl2, hn5, hXn, hRn, sv, rfl, hS⟩; obtain ⟨qa, qn, qz, rfl⟩ := svAt_shape hS; have hz := hB.out.2.2; have hz2 := hXn.size; replace hI := Lib.hid (SvAt.mono (Q := fun k => (W.heap.size < k ∧ k ≠ pb) ∧ k < w4.heap.size) hXn.size (fun k hk1 hk2 => hXn.block k hk2 (by have := hk1.1; omega)) (fun k hk1 hk2 => ⟨hk1, by omega⟩) p _ hI.out); replace hS := Lib.hid (SvAt.mono (Q := fun k => (W.heap.size < k ∧ k ≠ pb) ∧ k < w4.heap.size) (Nat.le_refl _) (fun _ _ _ => rfl) (fun k hk1 hk2 => ⟨⟨by have := hk1.1; omega, by have := hk1.1; omega⟩, hk2⟩) q _ hS); replace hX := hX.trans hXn; replace hA := Lib.hid (hXn.heap hA.out hne); replace hB := Lib.hid (Box4.grx hB.out hXn hpr); replace hR := Lib.hid hRn; clear hXn hRn; have BBw := hB.out; have BBa := BBw.mono (Gr.alloc (Gr.refl w4) (.cells #[.int .i64 p.kind, .int .i64 p.frm, .int .i64 p.to, .slice sa sn sc, .int .i64 q.kind, .int .i64 q.frm, .int .i64 q.to, .slice qa qn qz] 24)); obtain ⟨⟨y0, y1, y2, y3⟩, ⟨z0, z1, z2, z3⟩, hyl⟩ := BBw; obtain ⟨⟨u0, u1, u2, u3⟩, ⟨v0, v1, v2, v3⟩, hul⟩ := BBa)
       all_goals (
        go_wp2_with fail
        have hXb := hX.alloc (.cells #[.int .i64 p.kind, .int .i64 p.frm, .int .i64 p.to, .slice sa sn sc, .int .i64 q.kind, .int .i64 q.frm, .int .i64 q.to, .slice qa qn qz] 24)
        have hRb := hR.out.mono (Gr.alloc (Gr.refl w4) (.cells #[.int .i64 p.kind, .int .i64 p.frm, .int .i64 p.to, .slice sa sn sc, .int .i64 q.kind, .int .i64 q.frm, .int .i64 q.to, .slice qa qn qz] 24))
        have BBb := (hB.out).mono (Gr.alloc (Gr.refl w4) (.cells #[.int .i64 p.kind, .int .i64 p.frm, .int .i64 p.to, .slice sa sn sc, .int .i64 q.kind, .int .i64 q.frm, .int .i64 q.to, .slice qa qn qz] 24))
        obtain ⟨_, hXf, hRf, hkf, hsf⟩ := fin4 hXb (b := pb) (by omega) hpr hpt BBb hRb (.int .i64 5) (.int .i64 0) (.int .i64 0) (.slice (some ⟨w4.heap.size, 0, none⟩) 2 2)
        have hO : OwnA (w4.alloc (.cells #[.int .i64 p.kind, .int .i64 p.frm, .int .i64 p.to, .slice sa sn sc, .int .i64 q.kind, .int .i64 q.frm, .int .i64 q.to, .slice qa qn qz] 24)) (fun k => W.heap.size < k ∧ k ≠ pb) W.heap.size [p, q] (.slice (some ⟨w4.heap.size, 0, none⟩) 2 2) := OwnA.two (by omega) ⟨by omega, by omega⟩ (SvAt.mono (Nat.le_refl _) (fun k _ hk => rfl) (fun k hk1 hk2 => ⟨hk1.1, by have := hk1.2; omega⟩) p _ hI.out) (SvAt.mono (Nat.le_refl _) (fun k _ hk => rfl) (fun k hk1 hk2 => ⟨hk1.1, by have := hk1.2; omega⟩) q _ hS.out)
        have hAb := heap_old w4 (.cells #[.int .i64 p.kind, .int .i64 p.frm, .int .i64 p.to, .slice sa sn sc, .int .i64 q.kind, .int .i64 q.frm, .int .i64 q.to, .slice qa qn qz] 24) _ _ (Array.getElem?_eq_some_iff.1 hA.out).1 hA.out
        have hpb4 := hB.out.2.2
        have hEq : ((((w4.alloc (.cells #[.int .i64 p.kind, .int .i64 p.frm, .int .i64 p.to, .slice sa sn sc, .int .i64 q.kind, .int .i64 q.frm, .int .i64 q.to, .slice qa qn qz] 24)).setCell ⟨pb, 0, none⟩ (.int .i64 5)).setCell ⟨pb, 1, none⟩ (.int .i64 0)).setCell ⟨pb, 2, none⟩ (.int .i64 0)).setCell ⟨pb, 3, none⟩ (.slice (some ⟨w4.heap.size, 0, none⟩) 2 2) = ((((w4.setCell ⟨pb, 0, none⟩ (.int .i64 5)).setCell ⟨pb, 1, none⟩ (.int .i64 0)).setCell ⟨pb, 2, none⟩ (.int .i64 0)).setCell ⟨pb, 3, none⟩ (.slice (some ⟨w4.heap.size, 0, none⟩) 2 2)).alloc (.cells #[.int .i64 p.kind, .int .i64 p.frm, .int .i64 p.to, .slice sa sn sc, .int .i64 q.kind, .int .i64 q.frm, .int .i64 q.to, .slice qa qn qz] 24) := by
         rw [World.setCell_alloc_past _ pb 0 _ hpb4, World.setCell_alloc_past _ pb 1 _ (by simpa using hpb4), World.setCell_alloc_past _ pb 2 _ (by simpa using hpb4), World.setCell_alloc_past _ pb 3 _ (by simpa using hpb4)]
        simp only [List.getElem_toArray, List.getElem_cons_succ, List.getElem_cons_zero, Act.put, List.setIfInBounds_toArray, List.set_cons_succ, List.set_cons_zero]
        go_big_round
        rw [← hEq]
        refine ⟨?rel, ?measure⟩
        case rel =>
         refine ⟨false, g, n4, .mk 5 0 0 [p, q], some ⟨w4.heap.size, 0, none⟩, 2, 2, rfl, hn5, hXf, Lib.hid hRf, Lib.hid ((hkf _ (by omega)).trans hAb), Lib.hid (Box4.st3 (Box4.st2 (Box4.st1 (Box4.st0 BBb)))), Lib.hid ?_, Lib.hid (fun e => by cases e), Lib.hid (by have := hg.out; omega), Lib.hid (by rw [← hl2]; exact hE.out)⟩
         unfold RowI
         rw [if_neg (by simp)]
         exact SvAt.mono (by omega) (fun k hk1 hk2 => hkf k hk1.2) (fun k hk1 _ => hk1) _ _ (hO.at (k := 5) (f := 0) (t := 0))
        case measure =>
         rw [leftW_at hRf, hlw.out]
         have h9 : (T.drop n4).length < (T.drop (n3 + 1)).length := by rw [← hl2]; exact hll
         rw [List.length_drop, List.length_drop] at h9
         omega)
    ·rw [qp, if_pos rfl] at hE
     have hn4 := hT.next ht (takB_ne (s := wPlus) (by decide) qp)
     have C1 := Lib.hid (take_yes (tb := tb) (off := off) (cap := cap) (rb := rb) (deep := deep) hT ht (show takB ⟨#[43]⟩ t = true from qp))
     replace hE : ((parP g deep (T.drop (n3 + 1))).bind fun q l2 => rowP g deep (if b then .mk p.kind p.frm p.to (p.args ++ [q]) else .mk 4 0 0 [p, q]) true l2) = R := hE
     have D : ∀ w, RdAt T tb off cap rb w (n3 + 1) deep → _ := fun w hw => ih g (by have := hg.out; omega) w (n3 + 1) deep hd hw hn4 (fun e => ho.out (by rw [← hE, e]; rfl))
     clear hRR qp
     cases hQ2 : parP g deep (T.drop (n3 + 1)) with
     | out => rw [hQ2] at hE; exact absurd hE.symm ho.out
     | bad m =>
      rw [hQ2] at D hE
      replace D := Lib.hid D
      replace hE := Lib.hid (show PR.bad m = R from hE)
      go_wp2_with (first
       | (go_at_call 24; (with_reducible refine (C1.out _ hR.out).mono ?_); rintro e w2 ⟨rfl, hXn, hRn⟩; replace hX := hX.trans hXn; replace hI := Lib.hid (hI.out.mono (Q := fun k => W.heap.size < k ∧ k ≠ pb) hXn.size (fun k hk1 hk2 => hXn.block k hk2 (by have := hk1.1; omega)) (fun k hk1 _ => hk1)); replace hA := Lib.hid (hXn.heap hA.out hne); replace hB := Lib.hid (Box4.grx hB.out hXn hpr); replace hR := Lib.hid hRn; clear hXn hRn)
       | (go_at_call 23; (with_reducible refine (D.out _ hR.out).mono ?_); rintro e w3 ⟨rfl, hXn⟩))
      rw [← hE.out]
      exact ⟨rfl, rfl, hX.trans hXn⟩
     | large =>
      rw [hQ2] at D hE
      replace D := Lib.hid D
      replace hE := Lib.hid (show PR.large = R from hE)
      go_wp2_with (first
       | (go_at_call 24; (with_reducible refine (C1.out _ hR.out).mono ?_); rintro e w2 ⟨rfl, hXn, hRn⟩; replace hX := hX.trans hXn; replace hI := Lib.hid (hI.out.mono (Q := fun k => W.heap.size < k ∧ k ≠ pb) hXn.size (fun k hk1 hk2 => hXn.block k hk2 (by have := hk1.1; omega)) (fun k hk1 _ => hk1)); replace hA := Lib.hid (hXn.heap hA.out hne); replace hB := Lib.hid (Box4.grx hB.out hXn hpr); replace hR := Lib.hid hRn; clear hXn hRn)
       | (go_at_call 23; (with_reducible refine (D.out _ hR.out).mono ?_); rintro e w3 ⟨rfl, hXn⟩))
      rw [← hE.out]
      exact ⟨rfl, rfl, hX.trans hXn⟩
     | ok q l2 =>
      rw [hQ2] at D hE
      have hll := (par_len g).1 _ _ _ _ hQ2
      replace D := Lib.hid D
      cases b
      ·replace hE := Lib.hid (show rowP g deep (.mk 4 0 0 [p, q]) true l2 = R from hE)
       replace hI := Lib.hid hI.out.at
       go_wp2_with (first
        | (go_at_call 24; (with_reducible refine (C1.out _ hR.out).mono ?_); rintro e w2 ⟨rfl, hXn, hRn⟩; replace hX := hX.trans hXn; replace hI := Lib.hid (SvAt.mono (Q := fun k => W.heap.size < k ∧ k ≠ pb) hXn.size (fun k hk1 hk2 => hXn.block k hk2 (by have := hk1.1; omega)) (fun k hk1 _ => hk1) p _ hI.out); replace hA := Lib.hid (hXn.heap hA.out hne); replace hB := Lib.hid (Box4.grx hB.out hXn hpr); replace hR := Lib.hid hRn; clear hXn hRn)
        | (go_at_call 23; (with_reducible refine (D.out _ hR.out).mono ?_); rintro e w3 ⟨v, n4, rfl, hl2, hn5, hXn, hRn, sv, rfl, hS⟩; obtain ⟨qa, qn, qz, rfl⟩ := svAt_shape hS; have hz := hB.out.2.2; have hz2 := hXn.size; replace hI := Lib.hid (SvAt.mono (Q := fun k => (W.heap.size < k ∧ k ≠ pb) ∧ k < w3.heap.size) hXn.size (fun k hk1 hk2 => hXn.block k hk2 (by have := hk1.1; omega)) (fun k hk1 hk2 => ⟨hk1, by omega⟩) p _ hI.out); replace hS := Lib.hid (SvAt.mono (Q := fun k => (W.heap.size < k ∧ k ≠ pb) ∧ k < w3.heap.size) (Nat.le_refl _) (fun _ _ _ => rfl) (fun k hk1 hk2 => ⟨⟨by have := hk1.1; omega, by have := hk1.1; omega⟩, hk2⟩) q _ hS); replace hX := hX.trans hXn; replace hA := Lib.hid (hXn.heap hA.out hne); replace hB := Lib.hid (Box4.grx hB.out hXn hpr); replace hR := Lib.hid hRn; clear hXn hRn; have BBa := (hB.out).mono (Gr.alloc (Gr.refl w3) (.cells #[.int .i64 q.kind, .int .i64 q.frm, .int .i64 q.to, .slice qa qn qz] 24)); have BBb := BBa.mono (Gr.alloc (Gr.refl (w3.alloc (.cells #[.int .i64 q.kind, .int .i64 q.frm, .int .i64 q.to, .slice qa qn qz] 24))) (.cells #[.int .i64 p.kind, .int .i64 p.frm, .int .i64 p.to, .slice sa sn sc, .int .i64 q.kind, .int .i64 q.frm, .int .i64 q.to, .slice qa qn qz] 24)); obtain ⟨⟨x0, x1, x2, x3⟩, ⟨y0, y1, y2, y3⟩, hxl⟩ := BBa; obtain ⟨⟨u0, u1, u2, u3⟩, ⟨v0, v1, v2, v3⟩, hul⟩ := BBb))
       have hsz : (w3.alloc (.cells #[.int .i64 q.kind, .int .i64 q.frm, .int .i64 q.to, .slice qa qn qz] 24)).heap.size = w3.heap.size + 1 := by simp
       have hXb := (hX.alloc (.cells #[.int .i64 q.kind, .int .i64 q.frm, .int .i64 q.to, .slice qa qn qz] 24)).alloc (.cells #[.int .i64 p.kind, .int .i64 p.frm, .int .i64 p.to, .slice sa sn sc, .int .i64 q.kind, .int .i64 q.frm, .int .i64 q.to, .slice qa qn qz] 24)
       have hRb := hR.out.mono (Gr.alloc (Gr.alloc (Gr.refl w3) (.cells #[.int .i64 q.kind, .int .i64 q.frm, .int .i64 q.to, .slice qa qn qz] 24)) (.cells #[.int .i64 p.kind, .int .i64 p.frm, .int .i64 p.to, .slice sa sn sc, .int .i64 q.kind, .int .i64 q.frm, .int .i64 q.to, .slice qa qn qz] 24))
       have BBb := ((hB.out).mono (Gr.alloc (Gr.refl w3) (.cells #[.int .i64 q.kind, .int .i64 q.frm, .int .i64 q.to, .slice qa qn qz] 24))).mono (Gr.alloc (Gr.refl (w3.alloc (.cells #[.int .i64 q.kind, .int .i64 q.frm, .int .i64 q.to, .slice qa qn qz] 24))) (.cells #[.int .i64 p.kind, .int .i64 p.frm, .int .i64 p.to, .slice sa sn sc, .int .i64 q.kind, .int .i64 q.frm, .int .i64 q.to, .slice qa qn qz] 24))
       obtain ⟨_, hXf, hRf, hkf, hsf⟩ := fin4 hXb (b := pb) (by omega) hpr hpt BBb hRb (.int .i64 4) (.int .i64 0) (.int .i64 0) (.slice (some ⟨w3.heap.size + 1, 0, none⟩) 2 2)
       have hO : OwnA ((w3.alloc (.cells #[.int .i64 q.kind, .int .i64 q.frm, .int .i64 q.to, .slice qa qn qz] 24)).alloc (.cells #[.int .i64 p.kind, .int .i64 p.frm, .int .i64 p.to, .slice sa sn sc, .int .i64 q.kind, .int .i64 q.frm, .int .i64 q.to, .slice qa qn qz] 24)) (fun k => W.heap.size < k ∧ k ≠ pb) W.heap.size [p, q] (.slice (some ⟨(w3.alloc (.cells #[.int .i64 q.kind, .int .i64 q.frm, .int .i64 q.to, .slice qa qn qz] 24)).heap.size, 0, none⟩) 2 2) := OwnA.two (by rw [hsz]; omega) (by rw [hsz]; exact ⟨by omega, by omega⟩) (SvAt.mono (by rw [hsz]; omega) (fun k _ hk => Below.heap_alloc w3 _ k hk) (fun k hk1 hk2 => ⟨hk1.1, by rw [hsz]; omega⟩) p _ hI.out) (SvAt.mono (by rw [hsz]; omega) (fun k _ hk => Below.heap_alloc w3 _ k hk) (fun k hk1 hk2 => ⟨hk1.1, by rw [hsz]; omega⟩) q _ hS.out)
       rw [hsz] at hO
       have hAb := heap_old (w3.alloc (.cells #[.int .i64 q.kind, .int .i64 q.frm, .int .i64 q.to, .slice qa qn qz] 24)) (.cells #[.int .i64 p.kind, .int .i64 p.frm, .int .i64 p.to, .slice sa sn sc, .int .i64 q.kind, .int .i64 q.frm, .int .i64 q.to, .slice qa qn qz] 24) _ _ (by rw [hsz]; have := (Array.getElem?_eq_some_iff.1 hA.out).1; omega) (heap_old w3 (.cells #[.int .i64 q.kind, .int .i64 q.frm, .int .i64 q.to, .slice qa qn qz] 24) _ _ (Array.getElem?_eq_some_iff.1 hA.out).1 hA.out)
       refine ⟨⟨true, g, n4, .mk 4 0 0 [p, q], some ⟨w3.heap.size + 1, 0, none⟩, 2, 2, rfl, hn5, hXf, Lib.hid hRf, Lib.hid ((hkf _ (by omega)).trans hAb), Lib.hid (Box4.st3 (Box4.st2 (Box4.st1 (Box4.st0 BBb)))), Lib.hid ?_, Lib.hid (fun _ => by show 2 ≤ n4 + 2; omega), Lib.hid (by have := hg.out; omega), Lib.hid (by rw [← hl2]; exact hE.out)⟩, ?_⟩
       ·unfold RowI
        rw [if_pos rfl]
        exact ⟨OwnA.mono hO (by omega) (fun k hk1 hk2 => hkf k hk1.2) (fun k hk1 _ => hk1), rfl, rfl, rfl⟩
       ·rw [leftW_at hRf, hlw.out]
        have h9 : (T.drop n4).length < (T.drop (n3 + 1)).length := by rw [← hl2]; exact hll
        rw [List.length_drop, List.length_drop] at h9
        omega
      ·replace hE := Lib.hid (show rowP g deep (.mk p.kind p.frm p.to (p.args ++ [q])) true l2 = R from hE)
       have hIo := hI.out
       unfold RowI at hIo
       rw [if_pos rfl] at hIo
       obtain ⟨⟨bk, cc, xs0, hsv, _, hPb, hbl, _⟩, hk4, hkf, hkt⟩ := hIo
       injection hsv with h1 h2 h3
       subst h1 h2 h3
       have hlen2 := Lib.hid (hlen.out rfl)
       have hbr : bk ≠ rb := by have := hPb.1; omega
       have hbt : bk ≠ tb := by have := hPb.1; omega
       go_wp2_with (first
        | (go_at_call 24; (with_reducible refine (C1.out _ hR.out).mono ?_); rintro e w2 ⟨rfl, hXn, hRn⟩; have hz0 := hXn.size; replace hX := hX.trans hXn; replace hI := Lib.hid (hI.out.mono (Q := fun k => W.heap.size < k ∧ k ≠ pb) hXn.size (fun k hk1 hk2 => hXn.block k hk2 (by have := hk1.1; omega)) (fun k hk1 _ => hk1)); replace hA := Lib.hid (hXn.heap hA.out hne); replace hB := Lib.hid (Box4.grx hB.out hXn hpr); replace hR := Lib.hid hRn; clear hXn hRn)
        | (go_at_call 23; (with_reducible refine (D.out _ hR.out).mono ?_); rintro e w3 ⟨v, n4, rfl, hl2, hn5, hXn, hRn, sv, rfl, hS⟩; obtain ⟨qa, qn, qz, rfl⟩ := svAt_shape hS; have hz := hB.out.2.2; have hz2 := hXn.size; replace hI := Lib.hid (hI.out.mono (Q := fun k => W.heap.size < k ∧ k ≠ pb) hXn.size (fun k hk1 hk2 => hXn.block k hk2 (by have := hk1.1; omega)) (fun k hk1 _ => hk1)); replace hS := Lib.hid (SvAt.mono (Q := fun k => (W.heap.size < k ∧ k ≠ pb) ∧ k ≠ bk) (Nat.le_refl _) (fun _ _ _ => rfl) (fun k hk1 hk2 => ⟨⟨by have := hk1.1; omega, by have := hk1.1; omega⟩, by have := hk1.1; omega⟩) q _ hS); replace hX := hX.trans hXn; replace hA := Lib.hid (hXn.heap hA.out hne); replace hB := Lib.hid (Box4.grx hB.out hXn hpr); replace hR := Lib.hid hRn; clear hXn hRn; have BBa := (hB.out).mono (Gr.alloc (Gr.refl w3) (.cells #[.int .i64 q.kind, .int .i64 q.frm, .int .i64 q.to, .slice qa qn qz] 24)); obtain ⟨⟨x0, x1, x2, x3⟩, ⟨y0, y1, y2, y3⟩, hxl⟩ := BBa)
        | (at_builtin; go_loud (have hIb := hI.out.mono (Q := fun k => W.heap.size < k ∧ k ≠ pb) (Gr.alloc (Gr.alloc (Gr.refl w3) (.cells #[.int .i64 q.kind, .int .i64 q.frm, .int .i64 q.to, .slice qa qn qz] 24)) (.cells #[.int .i64 q.kind, .int .i64 q.frm, .int .i64 q.to, .slice qa qn qz] 24)).size (fun k _ hk => (Gr.alloc (Gr.alloc (Gr.refl w3) (.cells #[.int .i64 q.kind, .int .i64 q.frm, .int .i64 q.to, .slice qa qn qz] 24)) (.cells #[.int .i64 q.kind, .int .i64 q.frm, .int .i64 q.to, .slice qa qn qz] 24)).below.block k hk) (fun k hk1 _ => hk1); unfold RowI at hIb; rw [if_pos rfl] at hIb; obtain ⟨⟨bk2, cc2, xs, hsv, hown, _, hbl2, hcs⟩, _, _, _⟩ := hIb; injection hsv with h1 h2 h3; injection h1 with h1; injection h1 with h1; subst h1 h3; refine wpList_more _ rfl _ _ 22 rfl W.heap.size 24 (.agg #[.int .i64 0, .int .i64 0, .int .i64 0, .slice none 0 0]) 4 48 Tryd.underlying22 (by kernel_rfl) rfl (by decide) bk p.args.length _ xs rfl hown ⟨w3.heap.size + 1, 0, none⟩ 1 1 [.int .i64 q.kind, .int .i64 q.frm, .int .i64 q.to, .slice qa qn qz] rfl rfl (more_news w3 (.cells #[.int .i64 q.kind, .int .i64 q.frm, .int .i64 q.to, .slice qa qn qz] 24) #[] rfl) (by simp [Value.oneCell']) (by have := hlen2.out; have := hT.few; unfold maxLen; omega) (by have := hlen2.out; have := hT.few; omega) (by have := (Gr.alloc (Gr.alloc (Gr.refl w3) (.cells #[.int .i64 q.kind, .int .i64 q.frm, .int .i64 q.to, .slice qa qn qz] 24)) (.cells #[.int .i64 q.kind, .int .i64 q.frm, .int .i64 q.to, .slice qa qn qz] 24)).size; have := hX.size; omega) ?_; intro g2 c2 w9 ho9 hg9 hor; have BBc := Box4.grown ((hB.out).mono (Gr.alloc (Gr.alloc (Gr.refl w3) (.cells #[.int .i64 q.kind, .int .i64 q.frm, .int .i64 q.to, .slice qa qn qz] 24)) (.cells #[.int .i64 q.kind, .int .i64 q.frm, .int .i64 q.to, .slice qa qn qz] 24))) hg9 (Ne.symm hPb.2); have BBd := BBc; obtain ⟨⟨d0, d1, d2, d3⟩, ⟨e0, e1, e2, e3⟩, hdl⟩ := BBd)))
       have hpb := hB.out.2.2
       have hs3 : w3.heap.size ≤ ((w3.alloc (.cells #[.int .i64 q.kind, .int .i64 q.frm, .int .i64 q.to, .slice qa qn qz] 24)).alloc (.cells #[.int .i64 q.kind, .int .i64 q.frm, .int .i64 q.to, .slice qa qn qz] 24)).heap.size := (Gr.alloc (Gr.alloc (Gr.refl w3) (.cells #[.int .i64 q.kind, .int .i64 q.frm, .int .i64 q.to, .slice qa qn qz] 24)) (.cells #[.int .i64 q.kind, .int .i64 q.frm, .int .i64 q.to, .slice qa qn qz] 24)).size
       have hX9 := ((hX.alloc (.cells #[.int .i64 q.kind, .int .i64 q.frm, .int .i64 q.to, .slice qa qn qz] 24)).alloc (.cells #[.int .i64 q.kind, .int .i64 q.frm, .int .i64 q.to, .slice qa qn qz] 24)).grown hg9 (by have := hPb.1; omega)
       have hR9 := (hR.out.mono (Gr.alloc (Gr.alloc (Gr.refl w3) (.cells #[.int .i64 q.kind, .int .i64 q.frm, .int .i64 q.to, .slice qa qn qz] 24)) (.cells #[.int .i64 q.kind, .int .i64 q.frm, .int .i64 q.to, .slice qa qn qz] 24))).grown hg9 hbr hbt
       have hA9 := (hg9.block W.heap.size (by omega) (fun e => by injection e with e; have := hPb.1; omega)).trans (((Gr.alloc (Gr.alloc (Gr.refl w3) (.cells #[.int .i64 q.kind, .int .i64 q.frm, .int .i64 q.to, .slice qa qn qz] 24)) (.cells #[.int .i64 q.kind, .int .i64 q.frm, .int .i64 q.to, .slice qa qn qz] 24)).below.block _ (Array.getElem?_eq_some_iff.1 hA.out).1).trans hA.out)
       have hO := OwnA.more (c := 0) (sv := .slice (some ⟨bk, 0, none⟩) p.args.length 0) (P := fun k => W.heap.size < k ∧ k ≠ pb) (base := W.heap.size) rfl hbl2 hcs (SvAt.mono hs3 (fun k _ hk => (Gr.alloc (Gr.alloc (Gr.refl w3) (.cells #[.int .i64 q.kind, .int .i64 q.frm, .int .i64 q.to, .slice qa qn qz] 24)) (.cells #[.int .i64 q.kind, .int .i64 q.frm, .int .i64 q.to, .slice qa qn qz] 24)).below.block k hk) (fun k hk1 _ => hk1) q _ hS.out) ho9 hg9 hPb (fun k hk => ⟨by omega, by omega⟩) (fun e => by cases e) (fun g n cc e => by injection e with e _ _; injection e with e; injection e with e; rw [← e]; exact hor)
       refine ⟨⟨true, g, n4, .mk p.kind p.frm p.to (p.args ++ [q]), some ⟨g2, 0, none⟩, p.args.length + 1, c2, rfl, hn5, hX9.put (by omega) _, Lib.hid (hR9.other hpr hpt), Lib.hid ((heap_setCell_ne w9 (show pb ≠ W.heap.size by omega) 3 _).trans hA9), Lib.hid (Box4.st3 BBc), Lib.hid ?_, Lib.hid (fun _ => ?_), Lib.hid (by have := hg.out; omega), Lib.hid (by rw [← hl2]; exact hE.out)⟩, ?_⟩
       ·unfold RowI
        rw [if_pos rfl]
        exact ⟨OwnA.mono hO (by simp) (fun k hk1 _ => heap_setCell_ne w9 (Ne.symm hk1.2) 3 _) (fun k hk1 _ => hk1), hk4, hkf, hkt⟩
       ·have h9 : (T.drop n4).length < (T.drop (n3 + 1)).length := by rw [← hl2]; exact hll
        rw [List.length_drop, List.length_drop] at h9
        have := hlen2.out
        show (p.args ++ [q]).length ≤ n4 + 2
        simp only [List.length_append, List.length_cons, List.length_nil]
        omega
       ·rw [leftW_at (hR9.other hpr hpt), hlw.out]
        have h9 : (T.drop n4).length < (T.drop (n3 + 1)).length := by rw [← hl2]; exact hll
        rw [List.length_drop, List.length_drop] at h9
        omega
end
end Go.Proofs.YtfalbgflabajbaaDoor

namespace Go.Proofs.YtfalbgflabajbaaDoor
set_option linter.unusedSectionVars false
set_option linter.unusedVariables false
set_option linter.unusedSimpArgs false

theorem bq (s t : ByteArray) : (s == t) = decide (s = t) := by
 obtain ⟨a⟩ := s
 obtain ⟨b⟩ := t
 show (a == b) = _
 rw [Bool.eq_iff_iff]
 simp
section
variable {α β : Type}
theorem cT (t e : Option α) : A.cond (.bool true) t e = t := rfl
theorem cF (t e : Option α) : A.cond (.bool false) t e = e := rfl
theorem gTT (e d : Option α) : A.guard (.bool true) true e d = e := rfl
theorem gTF (e d : Option α) : A.guard (.bool true) false e d = d := rfl
theorem gFT (e d : Option α) : A.guard (.bool false) true e d = d := rfl
theorem gFF (e d : Option α) : A.guard (.bool false) false e d = e := rfl
theorem pT (x y : AV) : A.pick (.bool true) x y = some x := rfl
theorem pF (x y : AV) : A.pick (.bool false) x y = some y := rfl
theorem gN (w : Bool) (e d : Option α) : A.guard (.tup []) w e d = d := rfl
theorem xN (a b : AX) : (a == b) = decide (a = b) := by rw [Bool.eq_iff_iff]; simp
end
section
variable (k : IntKind) (a b : Int) (p q : Prop) [Decidable p] [Decidable q] (s t : ByteArray) (x y : AV) (σ : Heap) (cs : List AV)
theorem aAdd : A.add (.int .i64 a) (.int .i64 b) = some (.int .i64 (IntKind.i64.wrap (a + b))) := rfl
theorem aSub : A.sub (.int .i64 a) (.int .i64 b) = some (.int .i64 (IntKind.i64.wrap (a - b))) := rfl
theorem aMul : A.mul (.int .i64 a) (.int .i64 b) = some (.int .i64 (IntKind.i64.wrap (a * b))) := rfl
theorem aLss : A.lss (.int .i64 a) (.int .i64 b) = some (.bool (decide (a < b))) := rfl
theorem aLeq : A.leq (.int .i64 a) (.int .i64 b) = some (.bool (decide (a ≤ b))) := rfl
theorem aGtr : A.gtr (.int .i64 a) (.int .i64 b) = some (.bool (decide (b < a))) := rfl
theorem aGeq : A.geq (.int .i64 a) (.int .i64 b) = some (.bool (decide (b ≤ a))) := rfl
theorem aLss8 : A.lss (.int .u8 a) (.int .u8 b) = some (.bool (decide (a < b))) := rfl
theorem aLeq8 : A.leq (.int .u8 a) (.int .u8 b) = some (.bool (decide (a ≤ b))) := rfl
theorem aGtr8 : A.gtr (.int .u8 a) (.int .u8 b) = some (.bool (decide (b < a))) := rfl
theorem aGeq8 : A.geq (.int .u8 a) (.int .u8 b) = some (.bool (decide (b ≤ a))) := rfl
theorem aEq : A.eql .i (.int k a) (.int k b) = some (.bool (decide (a = b))) := by
 simp only [A.eql, A.eqK, A.eqI, if_true, Option.map_some]; congr 2
theorem aNe : A.neq .i (.int k a) (.int k b) = some (.bool (decide (¬ a = b))) := by
 simp only [A.neq, A.eqK, A.eqI, if_true, Option.map_some]
 congr 2
 rw [Bool.eq_iff_iff]; simp
theorem aEqZ : A.eql .z (.str s) (.str t) = some (.bool (decide (s = t))) := by
 simp only [A.eql, A.eqK, A.eqZ, Option.map_some, bq]
theorem aNeZ : A.neq .z (.str s) (.str t) = some (.bool (decide (¬ s = t))) := by
 simp only [A.neq, A.eqK, A.eqZ, Option.map_some, bq]; simp
theorem aNot (b : Bool) : A.not (.bool b) = some (.bool (!b)) := rfl
theorem aNotD : A.not (.bool (decide p)) = some (.bool (decide (¬ p))) := by simp [A.not]
theorem aLb : A.lb (.lbx cs) = some cs := rfl
theorem aExt0 (l : List AV) : A.ext 0 (.tup (x :: l)) = some x := rfl
theorem aExt1 (x0 x : AV) (l : List AV) : A.ext 1 (.tup (x0 :: x :: l)) = some x := rfl
theorem aExt2 (x0 x1 x : AV) (l : List AV) : A.ext 2 (.tup (x0 :: x1 :: x :: l)) = some x := rfl
theorem aExt3 (x0 x1 x2 x : AV) (l : List AV) : A.ext 3 (.tup (x0 :: x1 :: x2 :: x :: l)) = some x := rfl
theorem aDe : A.deref (.rp cs) σ = some cs := rfl
theorem aFa (o : Nat) : A.faddr o (.rp cs) = some (.rp (cs.drop o)) := rfl
theorem aLenZ : A.lenZ (.str s) = some (.int .i64 s.size) := rfl
theorem aCI (n : Int) : A.cell (.int k n) = some (.int k n) := rfl
theorem aCB (b : Bool) : A.cell (.bool b) = some (.bool b) := rfl
theorem aCS : A.cell (.str s) = some (.str s) := rfl
theorem aCSl (sz : Nat) (es : List (List AV)) : A.cell (.sl sz es) = some (.sl sz es) := rfl
theorem p1D (o k : Nat) : A.part1 o (cs.drop k) = A.part1 (k + o) cs := by simp [A.part1, List.getElem?_drop]
end
theorem gd0 (a d : AV) (l : List AV) : (a :: l).getD 0 d = a := rfl
theorem gd1 (a b d : AV) (l : List AV) : (b :: a :: l).getD 1 d = a := rfl
theorem gd2 (a b c d : AV) (l : List AV) : (b :: c :: a :: l).getD 2 d = a := rfl
theorem gd3 (a b c e d : AV) (l : List AV) : (b :: c :: e :: a :: l).getD 3 d = a := rfl
theorem gd4 (a b c e f d : AV) (l : List AV) : (b :: c :: e :: f :: a :: l).getD 4 d = a := rfl
theorem gd5 (a b c e f g d : AV) (l : List AV) : (b :: c :: e :: f :: g :: a :: l).getD 5 d = a := rfl
theorem gd6 (a b c e f g h d : AV) (l : List AV) : (b :: c :: e :: f :: g :: h :: a :: l).getD 6 d = a := rfl
theorem gd7 (a b c e f g h i d : AV) (l : List AV) : (b :: c :: e :: f :: g :: h :: i :: a :: l).getD 7 d = a := rfl
theorem gd8 (a b c e f g h i j d : AV) (l : List AV) : (b :: c :: e :: f :: g :: h :: i :: j :: a :: l).getD 8 d = a := rfl
theorem wrap64 {n : Int} (h : inI n) : IntKind.i64.wrap n = n := IntWalk.i64_in n h
theorem wrap_eq {ro : Bool} {ain : List Sh} {rout : Sh} {r : List AV → Heap → Option (AV × Heap)} {args : List AV} {σ σ' : Heap} {v v' : AV} (h : args.any A.own = false) (e : r (A.nnL ain args) σ = some (v, σ')) (hv : A.nn rout v = v') : A.wrap ro ain rout r args σ = some (v', σ') := by
 unfold A.wrap
 rw [h, Bool.and_false, cond_false, e]
 simp [hv]
theorem scal2_shift {v : AV} (n : Nat) (h : A.scal2 v = true) : A.fresh v = true ∧ A.shift n v = v := by
 cases v <;> first | exact ⟨h, rfl⟩ | cases h
theorem scal_shift {v : AV} (n : Nat) (h : A.scal v = true) : A.freshT v = true ∧ A.shiftT n v = v := by
 have key : (∀ vs, v ≠ .tup vs) → A.freshT v = true ∧ A.shiftT n v = v := by
  intro k
  have := scal2_shift (v := v) n
  cases v <;> first | exact absurd rfl (k _) | exact this h
 by_cases ht : ∃ vs, v = .tup vs
 ·obtain ⟨vs, rfl⟩ := ht
  simp only [A.scal, List.all_eq_true] at h
  refine ⟨by simp only [A.freshT, List.all_eq_true]; exact fun x hx => (scal2_shift n (h x hx)).1, ?_⟩
  simp only [A.shiftT]
  congr 1
  calc vs.map (A.shift n) = vs.map id := List.map_congr_left fun x hx => (scal2_shift n (h x hx)).2
   _ = vs := List.map_id vs
 ·exact key fun vs e => ht ⟨vs, e⟩
theorem wrap_own {ain : List Sh} {rout : Sh} {r : List AV → Heap → Option (AV × Heap)} {args args' : List AV} {σ : Heap} {v : AV} (h : args.any A.own = true) (hz : A.frzL σ 0 8 args = some args') (ho : args'.any A.own = false) (e : A.wrap true ain rout r args' [] = some (v, [])) (hs : A.scal v = true) : A.wrap true ain rout r args σ = some (v, σ) := by
 unfold A.wrap at e ⊢
 rw [ho, Bool.and_false, cond_false] at e
 obtain ⟨⟨q1, q2⟩, e1, e2⟩ := Option.map_eq_some_iff.1 e
 simp only [Prod.mk.injEq] at e2
 obtain ⟨rfl, rfl⟩ := e2
 rw [h, Bool.and_self, cond_true, hz]
 simp [e1, (scal_shift σ.length hs).1, (scal_shift σ.length hs).2]
theorem fin_same (σ : Heap) (r : AV) : A.fin σ r σ = some (r, σ) := by simp [A.fin]
theorem frz_scal1 (σ : Heap) (n d : Nat) {a : AV} (h : A.scal1 a = true) : A.frz σ n d a = some a := by
 cases a <;> simp only [A.scal1] at h <;> first | (cases h; done) | skip
 case sl sz es => cases es with
  | nil => cases d <;> simp [A.frz, A.frzLL]
  | cons _ _ => simp at h
 all_goals cases d <;> simp [A.frz]
theorem frzL_scal1 (σ : Heap) (n d : Nat) : ∀ {l : List AV}, l.all A.scal1 = true → A.frzL σ n d l = some l
 | [], _ => by simp [A.frzL]
 | a :: l, h => by
  simp only [List.all_cons, Bool.and_eq_true] at h
  simp [A.frzL, frz_scal1 σ n d h.1, frzL_scal1 σ n d h.2]
theorem frz_scal2 (σ : Heap) (n d : Nat) {a : AV} (h : A.scal2 a = true) : A.frz σ n d a = some a := by
 unfold A.scal2 at h
 split at h
 ·cases d <;> simp [A.frz, frzL_scal1 σ n _ h]
 ·exact frz_scal1 σ n d h
theorem frzL_scal2 (σ : Heap) (n d : Nat) : ∀ {l : List AV}, l.all A.scal2 = true → A.frzL σ n d l = some l
 | [], _ => by simp [A.frzL]
 | a :: l, h => by
  simp only [List.all_cons, Bool.and_eq_true] at h
  simp [A.frzL, frz_scal2 σ n d h.1, frzL_scal2 σ n d h.2]
theorem frz_scal (σ : Heap) (n d : Nat) {a : AV} (h : A.scal a = true) : A.frz σ n d a = some a := by
 unfold A.scal at h
 split at h
 ·cases d <;> simp [A.frz, frzL_scal2 σ n _ h]
 ·exact frz_scal2 σ n d h
theorem fin_scal (σ bs : Heap) {r : AV} (h : A.scal r = true) : A.fin σ r (σ ++ bs) = some (r, σ) := by
 unfold A.fin
 split
 ·rfl
 ·rw [if_pos (by simp), frz_scal _ _ _ h]; rfl
theorem fin_int (σ bs : Heap) (k : IntKind) (n : Int) : A.fin σ (.int k n) (σ ++ bs) = some (.int k n, σ) := fin_scal σ bs rfl
theorem fin_bool (σ bs : Heap) (b : Bool) : A.fin σ (.bool b) (σ ++ bs) = some (.bool b, σ) := fin_scal σ bs rfl
theorem fin_str (σ bs : Heap) (s : ByteArray) : A.fin σ (.str s) (σ ++ bs) = some (.str s, σ) := fin_scal σ bs rfl
theorem fin_unit (σ bs : Heap) : A.fin σ (.tup []) (σ ++ bs) = some (.tup [], σ) := fin_scal σ bs rfl
theorem hat (σ bs : Heap) (j : Nat) : (σ ++ bs)[σ.length + j]? = bs[j]? := by rw [List.getElem?_append_right (by omega)]; congr 1; omega
theorem hat0 (σ bs : Heap) : (σ ++ bs)[σ.length]? = bs[0]? := by rw [List.getElem?_append_right (Nat.le_refl _), Nat.sub_self]
theorem hset (σ bs : Heap) (j : Nat) (b : Blk) : (σ ++ bs).set (σ.length + j) b = σ ++ bs.set j b := by rw [List.set_append_right _ _ (by omega)]; congr 2; omega
theorem hset0 (σ bs : Heap) (b : Blk) : (σ ++ bs).set σ.length b = σ ++ bs.set 0 b := by rw [List.set_append_right _ _ (Nat.le_refl _), Nat.sub_self]
section
variable {α : Type} (sz : Nat) (c : α → List AV) (l : List α)
theorem lenS_sl : A.lenS (sl sz c l) = some (.int .i64 l.length) := by simp [sl, A.lenS]
theorem iaddr_sl {k : Nat} {x : α} (h : l[k]? = some x) : A.iaddr sz (sl sz c l) (.int .i64 (k : Int)) = some (.rp (c x)) := by
 have hk : k < l.length := (List.getElem?_eq_some_iff.1 h).1
 have hx : l[k] = x := (List.getElem?_eq_some_iff.1 h).2
 simp [A.iaddr, sl, A.idx, hk, hx]
end
inductive Rd (S R : Type) where
 | go (s : S)
 | out (r : R)
def Rd.el {S R γ : Type} (x : Rd S R) (f : S → γ) (g : R → γ) : γ := match x with | .go s => f s | .out r => g r
theorem el_go {S R γ : Type} (s : S) (f : S → γ) (g : R → γ) : (Rd.go s : Rd S R).el f g = f s := rfl
theorem el_out {S R γ : Type} (r : R) (f : S → γ) (g : R → γ) : (Rd.out r : Rd S R).el f g = g r := rfl
theorem el_ite {S R γ : Type} {p : Prop} [Decidable p] (x y : Rd S R) (f : S → γ) (g : R → γ) : (if p then x else y).el f g = if p then x.el f g else y.el f g := by split <;> rfl
theorem iter_loop {f : List AV → Heap → Option (AX × List AV × Heap)} {v : List AV} {σ : Heap} : ∀ {n m : Nat} {r r' : AX × List AV × Heap}, A.iter f n v σ = some r → A.iter f m v σ = some r' → r = r' := by
 intro n
 induction n generalizing v σ with
 | zero => intro m r r' h; cases h
 | succ n ih =>
  intro m r r' h1 h2
  cases m with
  | zero => cases h2
  | succ m =>
   simp only [A.iter] at h1 h2
   cases hf : f v σ with
   | none => rw [hf] at h1; cases h1
   | some q =>
    rw [hf] at h1 h2
    simp only [Option.bind_some] at h1 h2
    obtain ⟨e, v', σ'⟩ := q
    cases e with
    | normal => exact ih h1 h2
    | exit i => simp only at h1 h2; rw [h1] at h2; injection h2
    | ret => simp only at h1 h2; rw [h1] at h2; injection h2
theorem loop_of_iter {f : List AV → Heap → Option (AX × List AV × Heap)} {v : List AV} {σ : Heap} {n : Nat} {r : AX × List AV × Heap} (h : A.iter f n v σ = some r) : A.loop f v σ = some r := by
 have hex : ∃ n r, A.iter f n v σ = some r := ⟨n, r, h⟩
 unfold A.loop
 rw [dif_pos hex]
 exact congrArg some (iter_loop (Classical.choose_spec (Classical.choose_spec hex)) h)
theorem loop_step {f : List AV → Heap → Option (AX × List AV × Heap)} {v v' : List AV} {σ σ' : Heap} {r : AX × List AV × Heap} (h : f v σ = some (.normal, v', σ')) (k : ∃ n, A.iter f n v' σ' = some r) : ∃ n, A.iter f n v σ = some r := by
 obtain ⟨n, k⟩ := k
 exact ⟨n + 1, by simp [A.iter, h, k]⟩
theorem loop_done {f : List AV → Heap → Option (AX × List AV × Heap)} {v : List AV} {σ : Heap} {r : AX × List AV × Heap} (h : f v σ = some r) (hr : r.1 ≠ .normal) : ∃ n, A.iter f n v σ = some r := by
 obtain ⟨e, v', σ'⟩ := r
 refine ⟨1, ?_⟩
 cases e <;> first | (simp [A.iter, h]; done) | exact absurd rfl hr
section
variable {α : Type} (g : α → ByteArray) (gi : α → Int) (v : α → AV)
theorem find_z (k : ByteArray) : ∀ (l : List α), A.find .z (.str k) (l.map fun x => (AV.str (g x), v x)) = some ((l.find? fun x => decide (k = g x)).map v)
 | [] => rfl
 | x :: l => by
  simp only [List.map_cons, A.find, A.eqK, A.eqZ, Option.bind_some, List.find?]
  by_cases h : k = g x
  ·rw [bq]; simp [h]
  ·rw [bq]; simp [h, find_z k l]
theorem find_i (kk : IntKind) (k : Int) : ∀ (l : List α), A.find .i (.int kk k) (l.map fun x => (AV.int kk (gi x), v x)) = some ((l.find? fun x => decide (k = gi x)).map v)
 | [] => rfl
 | x :: l => by
  simp only [List.map_cons, A.find, A.eqK, A.eqI, if_true, Option.bind_some, List.find?]
  by_cases h : k = gi x
  ·have : (k == gi x) = true := by simpa using h
   simp [this, h]
  ·have : (k == gi x) = false := by simpa using h
   simp [this, h, find_i kk k l]
theorem upd_z {k : ByteArray} {w : AV} : ∀ {l : List α}, (∀ x ∈ l, g x ≠ k) → A.upd .z (.str k) w (l.map fun x => (AV.str (g x), v x)) = some ((l.map fun x => (AV.str (g x), v x)) ++ [(.str k, w)])
 | [], _ => rfl
 | x :: l, h => by
  have h1 : (k == g x) = false := by rw [bq]; exact decide_eq_false fun e : k = g x => h x (by simp) e.symm
  simp only [List.map_cons, A.upd, A.eqK, A.eqZ, Option.bind_some, h1, cond_false]
  rw [upd_z (fun y hy => h y (by simp [hy]))]
  rfl
theorem upd_i {kk : IntKind} {k : Int} {w : AV} : ∀ {l : List α}, (∀ x ∈ l, gi x ≠ k) → A.upd .i (.int kk k) w (l.map fun x => (AV.int kk (gi x), v x)) = some ((l.map fun x => (AV.int kk (gi x), v x)) ++ [(.int kk k, w)])
 | [], _ => rfl
 | x :: l, h => by
  have h1 : (k == gi x) = false := by simpa using fun e : k = gi x => h x (by simp) e.symm
  simp only [List.map_cons, A.upd, A.eqK, A.eqI, if_true, Option.bind_some, h1, cond_false]
  rw [upd_i (fun y hy => h y (by simp [hy]))]
  rfl
end
theorem look_at (e : A.EK) {k z : AV} {σ : Heap} {id : Nat} {es : List (AV × AV)} (hk : A.keyOk e k = true) (h : σ[id]? = some (.map es)) : A.look e (.om id) k z σ = (A.find e k es).map fun r => r.getD z := by
 simp [A.look, hk, A.entries, h]
theorem mupd_at (e : A.EK) {k w : AV} {σ : Heap} {id : Nat} {es : List (AV × AV)} (hk : A.keyOk e k = true) (h : σ[id]? = some (.map es)) : A.mupd e (.om id) k w σ = (A.upd e k w es).map fun es => σ.set id (.map es) := by
 simp [A.mupd, hk, h]
theorem len_snoc {α : Type} (l : List α) (x : α) : (((l ++ [x]).length : Nat) : Int) = (l.length : Int) + 1 := by simp
def setZ {α : Type} (g : α → ByteArray) (l : List α) : List (AV × AV) := l.map fun x => (AV.str (g x), AV.bool true)
def setI {α : Type} (g : α → Int) (l : List α) : List (AV × AV) := l.map fun x => (AV.int .i64 (g x), AV.bool true)
theorem any_find {α : Type} (p : α → Bool) : ∀ (l : List α), ((l.find? p).map fun _ => AV.bool true).getD (AV.bool false) = AV.bool (l.any p)
 | [] => rfl
 | x :: l => by
  simp only [List.find?, List.any_cons]
  cases h : p x
  ·simpa using any_find p l
  ·rfl
theorem setZ_find {α : Type} (g : α → ByteArray) (k : ByteArray) (l : List α) : (A.find .z (.str k) (setZ g l)).map (fun r => r.getD (.bool false)) = some (.bool (memB k (l.map g))) := by
 unfold setZ
 rw [find_z g (fun _ => AV.bool true) k l, Option.map_some, any_find]
 refine congrArg some (congrArg AV.bool ?_)
 rw [Bool.eq_iff_iff, memB_iff]
 simp only [List.any_eq_true, decide_eq_true_eq, List.mem_map]
 exact ⟨fun ⟨x, h, e⟩ => ⟨x, h, e.symm⟩, fun ⟨x, h, e⟩ => ⟨x, h, e.symm⟩⟩
theorem setI_find {α : Type} (g : α → Int) (k : Int) (l : List α) : (A.find .i (.int .i64 k) (setI g l)).map (fun r => r.getD (.bool false)) = some (.bool (memB k (l.map g))) := by
 unfold setI
 rw [find_i g (fun _ => AV.bool true) .i64 k l, Option.map_some, any_find]
 refine congrArg some (congrArg AV.bool ?_)
 rw [Bool.eq_iff_iff, memB_iff]
 simp only [List.any_eq_true, decide_eq_true_eq, List.mem_map]
 exact ⟨fun ⟨x, h, e⟩ => ⟨x, h, e.symm⟩, fun ⟨x, h, e⟩ => ⟨x, h, e.symm⟩⟩
section
variable {α : Type} (g : α → ByteArray) (gi : α → Int) (l : List α) (k : ByteArray) (n : Int) (σ bs : Heap) (b0 : Blk)
theorem setZ_look0 : A.look .z (.om σ.length) (.str k) (.bool false) (σ ++ Blk.map (setZ g l) :: bs) = some (.bool (memB k (l.map g))) := by
 rw [look_at .z rfl (by rw [hat0]; rfl), setZ_find]
theorem setI_look0 : A.look .i (.om σ.length) (.int .i64 n) (.bool false) (σ ++ Blk.map (setI gi l) :: bs) = some (.bool (memB n (l.map gi))) := by
 rw [look_at .i rfl (by rw [hat0]; rfl), setI_find]
theorem setZ_look1 : A.look .z (.om (σ.length + 1)) (.str k) (.bool false) (σ ++ b0 :: Blk.map (setZ g l) :: bs) = some (.bool (memB k (l.map g))) := by
 rw [look_at .z rfl (by rw [hat]; rfl), setZ_find]
theorem setI_look1 : A.look .i (.om (σ.length + 1)) (.int .i64 n) (.bool false) (σ ++ b0 :: Blk.map (setI gi l) :: bs) = some (.bool (memB n (l.map gi))) := by
 rw [look_at .i rfl (by rw [hat]; rfl), setI_find]
theorem setZ_upd0 (h : memB k (l.map g) = false) : A.mupd .z (.om σ.length) (.str k) (.bool true) (σ ++ Blk.map (setZ g l) :: bs) = some (σ ++ Blk.map (setZ g l ++ [(.str k, .bool true)]) :: bs) := by
 rw [mupd_at .z rfl (by rw [hat0]; rfl), setZ, upd_z g _ (fun x hx e => memB_false.1 h (by rw [← e]; exact List.mem_map_of_mem hx)), Option.map_some, hset0]; rfl
theorem setI_upd0 (h : memB n (l.map gi) = false) : A.mupd .i (.om σ.length) (.int .i64 n) (.bool true) (σ ++ Blk.map (setI gi l) :: bs) = some (σ ++ Blk.map (setI gi l ++ [(.int .i64 n, .bool true)]) :: bs) := by
 rw [mupd_at .i rfl (by rw [hat0]; rfl), setI, upd_i gi _ (fun x hx e => memB_false.1 h (by rw [← e]; exact List.mem_map_of_mem hx)), Option.map_some, hset0]; rfl
theorem setZ_upd1 (h : memB k (l.map g) = false) : A.mupd .z (.om (σ.length + 1)) (.str k) (.bool true) (σ ++ b0 :: Blk.map (setZ g l) :: bs) = some (σ ++ b0 :: Blk.map (setZ g l ++ [(.str k, .bool true)]) :: bs) := by
 rw [mupd_at .z rfl (by rw [hat]; rfl), setZ, upd_z g _ (fun x hx e => memB_false.1 h (by rw [← e]; exact List.mem_map_of_mem hx)), Option.map_some, hset]; rfl
theorem setI_upd1 (h : memB n (l.map gi) = false) : A.mupd .i (.om (σ.length + 1)) (.int .i64 n) (.bool true) (σ ++ b0 :: Blk.map (setI gi l) :: bs) = some (σ ++ b0 :: Blk.map (setI gi l ++ [(.int .i64 n, .bool true)]) :: bs) := by
 rw [mupd_at .i rfl (by rw [hat]; rfl), setI, upd_i gi _ (fun x hx e => memB_false.1 h (by rw [← e]; exact List.mem_map_of_mem hx)), Option.map_some, hset]; rfl
end
theorem setZ_snoc {α : Type} (g : α → ByteArray) (l : List α) (x : α) : setZ g (l ++ [x]) = setZ g l ++ [(.str (g x), .bool true)] := by simp [setZ]
theorem quiet_same (σ : Heap) (v : AV) : A.quiet (some (v, σ)) σ = some v := by simp [A.quiet]
def Fz (a : AV) : Prop := ∀ σ n d, A.frz σ n d a = some a
def FzL (l : List AV) : Prop := ∀ σ n d, A.frzL σ n d l = some l
theorem fz_int (k : IntKind) (n : Int) : Fz (.int k n) := fun _ _ d => by cases d <;> simp [A.frz]
theorem fz_bool (b : Bool) : Fz (.bool b) := fun _ _ d => by cases d <;> simp [A.frz]
theorem fz_str (s : ByteArray) : Fz (.str s) := fun _ _ d => by cases d <;> simp [A.frz]
theorem fz_nsl : Fz .nsl := fun _ _ d => by cases d <;> simp [A.frz]
theorem fzL_nil : FzL [] := fun _ _ _ => by simp [A.frzL]
theorem fzL_cons {a : AV} {l : List AV} (h : Fz a) (k : FzL l) : FzL (a :: l) := fun σ n d => by simp [A.frzL, h σ n d, k σ n d]
theorem fzLL {α : Type} {c : α → List AV} (h : ∀ x, FzL (c x)) (l : List α) (σ : Heap) (n d : Nat) : A.frzLL σ n d (l.map c) = some (l.map c) := by
 induction l with
 | nil => simp [A.frzLL]
 | cons x l ih => simp [A.frzLL, h x σ n d, ih]
section
variable {α β : Type}
theorem cond_lazy {c c' : AV} (h : c = c') (t e : Option α) : A.cond c t e = A.cond c' t e := by rw [h]
theorem guard_lazy {c c' : AV} (h : c = c') (w : Bool) (e d : Option α) : A.guard c w e d = A.guard c' w e d := by rw [h]
theorem bind_lazy {x y : Option α} (h : x = y) (f : α → Option β) : x.bind f = y.bind f := by rw [h]
attribute [congr] cond_lazy guard_lazy bind_lazy
end
theorem MSb : type_of% @Option.bind_some.{0,0} ∧ type_of% @Option.map_some.{0,0} ∧ type_of% @cT ∧ type_of% @cF ∧ type_of% @gTT ∧ type_of% @gTF ∧ type_of% @gFT ∧ type_of% @gFF ∧ type_of% @gN ∧ type_of% @pT ∧ type_of% @pF ∧ type_of% @cond_true.{1} ∧ type_of% @cond_false.{1} ∧ type_of% @xN ∧ type_of% @aAdd ∧ type_of% @aSub ∧ type_of% @aMul ∧ type_of% @aLss ∧ type_of% @aLeq ∧ type_of% @aGtr ∧ type_of% @aGeq ∧ type_of% @aLss8 ∧ type_of% @aLeq8 ∧ type_of% @aGtr8 ∧ type_of% @aGeq8 ∧ type_of% @aEq ∧ type_of% @aNe ∧ type_of% @aEqZ ∧ type_of% @aNeZ ∧ type_of% @aNot ∧ type_of% @aNotD ∧ type_of% @aLb ∧ type_of% @aExt0 ∧ type_of% @aExt1 ∧ type_of% @aExt2 ∧ type_of% @aExt3 ∧ type_of% @aDe ∧ type_of% @aFa ∧ type_of% @aLenZ ∧ type_of% @aCI ∧ type_of% @aCB ∧ type_of% @aCS ∧ type_of% @aCSl ∧ type_of% @p1D ∧ type_of% @gd0 ∧ type_of% @gd1 ∧ type_of% @gd2 ∧ type_of% @gd3 ∧ type_of% @gd4 ∧ type_of% @gd5 ∧ type_of% @gd6 ∧ type_of% @gd7 ∧ type_of% @gd8 ∧ type_of% @fin_same ∧ type_of% @fin_int ∧ type_of% @fin_bool ∧ type_of% @fin_str ∧ type_of% @fin_unit ∧ type_of% @lenS_sl ∧ type_of% @ite_true.{1} ∧ type_of% @ite_false.{1} ∧ type_of% @if_true.{1} ∧ type_of% @if_false.{1} ∧ type_of% @Bool.false_eq_true ∧ type_of% @not_true_eq_false ∧ type_of% @not_false_eq_true ∧ type_of% @decide_true ∧ type_of% @decide_false ∧ type_of% @Bool.not_true ∧ type_of% @Bool.not_false ∧ type_of% @List.append_assoc.{0} ∧ type_of% @List.cons_append.{0} ∧ type_of% @List.nil_append.{0} ∧ type_of% @List.drop_zero.{0} ∧ type_of% @p1_cInt ∧ type_of% @p1_cStr ∧ type_of% @len_snoc ∧ type_of% @Int.natCast_add ∧ type_of% @Int.cast_ofNat_Int ∧ type_of% @quiet_same ∧ type_of% @el_go ∧ type_of% @el_out ∧ type_of% @el_ite ∧ type_of% @setZ_look0 ∧ type_of% @setI_look0 ∧ type_of% @setZ_look1 ∧ type_of% @setI_look1 ∧ type_of% @setZ_snoc ∧ type_of% @setZ_upd0 ∧ type_of% @setI_upd0 ∧ type_of% @setZ_upd1 ∧ type_of% @setI_upd1 ∧ type_of% @true_and ∧ type_of% @and_true ∧ type_of% @false_and ∧ type_of% @and_false ∧ type_of% @true_or ∧ type_of% @or_true ∧ type_of% @false_or ∧ type_of% @or_false ∧ type_of% @Option.getD_some.{0} ∧ type_of% @Option.getD_none.{0} ∧ type_of% @List.length_append.{0} ∧ type_of% @List.length_cons.{0} ∧ type_of% @List.length_nil.{0} ∧ type_of% @Nat.zero_add ∧ type_of% @Nat.add_zero :=
 ⟨@Option.bind_some.{0,0}, @Option.map_some.{0,0}, @cT, @cF, @gTT, @gTF, @gFT, @gFF, @gN, @pT, @pF, @cond_true.{1}, @cond_false.{1}, @xN, @aAdd, @aSub, @aMul, @aLss, @aLeq, @aGtr, @aGeq, @aLss8, @aLeq8, @aGtr8, @aGeq8, @aEq, @aNe, @aEqZ, @aNeZ, @aNot, @aNotD, @aLb, @aExt0, @aExt1, @aExt2, @aExt3, @aDe, @aFa, @aLenZ, @aCI, @aCB, @aCS, @aCSl, @p1D, @gd0, @gd1, @gd2, @gd3, @gd4, @gd5, @gd6, @gd7, @gd8, @fin_same, @fin_int, @fin_bool, @fin_str, @fin_unit, @lenS_sl, @ite_true.{1}, @ite_false.{1}, @if_true.{1}, @if_false.{1}, @Bool.false_eq_true, @not_true_eq_false, @not_false_eq_true, @decide_true, @decide_false, @Bool.not_true, @Bool.not_false, @List.append_assoc.{0}, @List.cons_append.{0}, @List.nil_append.{0}, @List.drop_zero.{0}, @p1_cInt, @p1_cStr, @len_snoc, @Int.natCast_add, @Int.cast_ofNat_Int, @quiet_same, @el_go, @el_out, @el_ite, @setZ_look0, @setI_look0, @setZ_look1, @setI_look1, @setZ_snoc, @setZ_upd0, @setI_upd0, @setZ_upd1, @setI_upd1, @true_and, @and_true, @false_and, @and_false, @true_or, @or_true, @false_or, @or_false, @Option.getD_some.{0}, @Option.getD_none.{0}, @List.length_append.{0}, @List.length_cons.{0}, @List.length_nil.{0}, @Nat.zero_add, @Nat.add_zero⟩
end Go.Proofs.YtfalbgflabajbaaDoor

namespace Go.Proofs.YtfalbgflabajbaaDoor
set_option linter.unusedSectionVars false
set_option linter.unusedSimpArgs false
set_option linter.unusedVariables false
theorem fz_cInt (n : Int) : FzL (cInt n) := fzL_cons (fz_int _ _) fzL_nil
end Go.Proofs.YtfalbgflabajbaaDoor

namespace Go.Proofs.YtfalbgflabajbaaDoor
set_option linter.unusedSectionVars false
set_option linter.unusedVariables false
set_option linter.unusedSimpArgs false
instance : Inhabited ByteArray := ⟨⟨#[]⟩⟩
instance : Inhabited PointD := ⟨⟨0, 0⟩⟩
instance : Inhabited CurveD := ⟨⟨0, []⟩⟩
instance : Inhabited FadeD := ⟨⟨0, 0, 0, 0, 0, ⟨0, []⟩⟩⟩
instance : Inhabited ChangeD := ⟨⟨0, 0⟩⟩
instance : Inhabited RangeD := ⟨⟨0, 0, ⟨#[]⟩⟩⟩
instance : Inhabited ParamD := ⟨⟨⟨#[]⟩, 0, 0, 0, 0, false, []⟩⟩
instance : Inhabited ProfileD := ⟨⟨⟨#[]⟩, 0, []⟩⟩
instance : Inhabited UnitD := ⟨⟨0, ⟨#[]⟩, 0, 0⟩⟩
instance : Inhabited RigD := ⟨⟨[], []⟩⟩
instance : Inhabited KeyD := ⟨⟨0, ⟨#[]⟩⟩⟩
instance : Inhabited SettingD := ⟨⟨⟨0, ⟨#[]⟩⟩, 0⟩⟩
instance : Inhabited PresetD := ⟨⟨0, ⟨#[]⟩, []⟩⟩
instance : Inhabited FanD := ⟨⟨[], 0, 0⟩⟩
instance : Inhabited ValueD := ⟨⟨0, 0⟩⟩
instance : Inhabited MoveD := ⟨⟨⟨0, ⟨#[]⟩⟩, ⟨0, 0⟩, false, false, 0, 0⟩⟩
instance : Inhabited CueD := ⟨⟨0, ⟨#[]⟩, 0, 0, 0, 0, ⟨0, []⟩, false, 0, []⟩⟩
instance : Inhabited EntryD := ⟨⟨⟨0, ⟨#[]⟩⟩, ⟨0, 0⟩, 0⟩⟩
instance : Inhabited MarkD := ⟨⟨0, 0, 0⟩⟩
instance : Inhabited ListD := ⟨⟨0, []⟩⟩
instance : Inhabited PlaybackD := ⟨⟨0, 0, 0⟩⟩
instance : Inhabited SetupD := ⟨⟨⟨[], []⟩, [], [], []⟩⟩
instance : Inhabited ActionD := ⟨⟨0, 0, 0, 0, 0⟩⟩
instance : Inhabited EventD := ⟨⟨0, ⟨0, 0, 0, 0, 0⟩⟩⟩
instance : Inhabited StampD := ⟨⟨0, 0, 0, 0⟩⟩
instance : Inhabited RunD := ⟨⟨⟨0, ⟨#[]⟩⟩, ⟨0, 0, 0, 0, 0, ⟨0, []⟩⟩, 0, false⟩⟩
instance : Inhabited StandingD := ⟨⟨0, 0, 0, false, 0, []⟩⟩
instance : Inhabited EffectStepD := ⟨⟨0, 0, 0⟩⟩
instance : Inhabited EffectD := ⟨⟨0, 0, 0, 0, 0, 0, false, false, []⟩⟩
instance : Inhabited RateD := ⟨⟨0, 0⟩⟩
instance : Inhabited RunningD := ⟨⟨⟨0, 0, 0, 0, 0, 0, false, false, []⟩, [], 0, [], 0, 0, 0⟩⟩
end Go.Proofs.YtfalbgflabajbaaDoor

namespace Go.Proofs.YtfalbgflabajbaaDoor
set_option linter.unusedSectionVars false
set_option linter.unusedVariables false
set_option linter.unusedSimpArgs false
def Rf {β τ : Type} (M : Option β) (T : Option τ) (Q : τ → β → Prop) : Prop := ∀ t, T = some t → ∃ b, M = some b ∧ Q t b
section
variable {α β ω τ ζ : Type}
theorem rf_s {M0 : Option α} {K : α → Option β} {T : Option τ} {Q : τ → β → Prop} (a : α) (h : M0 = some a) (k : Rf (K a) T Q) : Rf (M0.bind K) T Q := by
 intro t ht; obtain ⟨b, h1, h2⟩ := k t ht; exact ⟨b, by rw [h]; exact h1, h2⟩
theorem rf_o {M0 : Option α} {K : α → Option β} {o : Option ω} {K' : ω → Option τ} {Q : τ → β → Prop} (e : ω → α) (h : ∀ t, o = some t → M0 = some (e t)) (k : ∀ t, o = some t → Rf (K (e t)) (K' t) Q) : Rf (M0.bind K) (o.bind K') Q := by
 intro t ht
 obtain ⟨x, h1, h2⟩ := Option.bind_eq_some_iff.1 ht
 obtain ⟨b, h3, h4⟩ := k x h1 t h2
 exact ⟨b, by rw [h x h1]; exact h3, h4⟩
theorem rf_b {M0 : Option α} {K : α → Option β} {o : Option ω} {K' : ω → Option τ} {Q : τ → β → Prop} (Q0 : ω → α → Prop) (h : Rf M0 o Q0) (k : ∀ t a, Q0 t a → Rf (K a) (K' t) Q) : Rf (M0.bind K) (o.bind K') Q := by
 intro t ht
 obtain ⟨x, h1, h2⟩ := Option.bind_eq_some_iff.1 ht
 obtain ⟨a, h3, h4⟩ := h x h1
 obtain ⟨b, h5, h6⟩ := k x a h4 t h2
 exact ⟨b, by rw [h3]; exact h5, h6⟩
theorem rf_ret {t : τ} {b : β} {Q : τ → β → Prop} (h : Q t b) : Rf (some b) (some t) Q := by
 intro u hu; cases hu; exact ⟨b, rfl, h⟩
theorem rf_fin {M : Option β} {t : τ} {Q : τ → β → Prop} (b : β) (e : M = some b) (h : Q t b) : Rf M (some t) Q := by
 rw [e]; exact rf_ret h
theorem rf_none {M : Option β} {Q : τ → β → Prop} : Rf M (none : Option τ) Q := by intro u hu; cases hu
theorem rf_tq {M : Option β} {p : Prop} [Decidable p] {T : Option τ} {Q : τ → β → Prop} (h : p → Rf M T Q) : Rf M (if p then T else none) Q := by
 split
 ·exact h ‹_›
 ·exact rf_none
theorem rf_c {p : Prop} [Decidable p] {X Y : Option β} {X' Y' : Option τ} {Q : τ → β → Prop} (h1 : p → Rf X X' Q) (h2 : ¬ p → Rf Y Y' Q) : Rf (A.cond (.bool (decide p)) X Y) (if p then X' else Y') Q := by
 by_cases h : p
 ·simp only [h, decide_true, if_true]; exact h1 h
 ·simp only [h, decide_false, if_false]; exact h2 h
theorem rf_cb {c : Bool} {X Y : Option β} {X' Y' : Option τ} {Q : τ → β → Prop} (h1 : c = true → Rf X X' Q) (h2 : c = false → Rf Y Y' Q) : Rf (A.cond (.bool c) X Y) (if c = true then X' else Y') Q := by
 cases c
 ·exact h2 rfl
 ·exact h1 rfl
theorem rf_ct {X Y : Option β} {T : Option τ} {Q : τ → β → Prop} (h : Rf X T Q) : Rf (A.cond (.bool true) X Y) T Q := h
theorem rf_cf {X Y : Option β} {T : Option τ} {Q : τ → β → Prop} (h : Rf Y T Q) : Rf (A.cond (.bool false) X Y) T Q := h
theorem rf_bt {c : Bool} {X Y : Option β} {T : Option τ} {Q : τ → β → Prop} (e : c = true) (h : Rf X T Q) : Rf (bif c then X else Y) T Q := by rw [e]; exact h
theorem rf_bf {c : Bool} {X Y : Option β} {T : Option τ} {Q : τ → β → Prop} (e : c = false) (h : Rf Y T Q) : Rf (bif c then X else Y) T Q := by rw [e]; exact h
def gv {α : Type} (g : Bool) (e : α → AV) (t : α) : AV := bif g then e t else .tup []
end
inductive Lr (S B R : Type) where
 | go (s : S)
 | brk (b : B)
 | ret (r : R)
def forL {α S B R : Type} (body : Nat → α → S → Option (Lr S B R)) (fin : S → Option B) : List α → Nat → S → Option (B ⊕ R)
 | [], _, s => (fin s).map .inl
 | x :: l, i, s => (body i x s).bind fun q => match q with | .go s' => forL body fin l (i + 1) s' | .brk b => some (.inl b) | .ret r => some (.inr r)
def forE {α S B R γ : Type} (l : List α) (body : Nat → α → S → Option (Lr S B R)) (fin : S → Option B) (s : S) (K1 : B → Option γ) (K2 : R → Option γ) : Option γ :=
 if l.length ≤ mxl then (forL body fin l 0 s).bind fun q => q.elim K1 K2 else none
def itL {S B R : Type} (body : S → Option (Lr S B R)) : Nat → S → Option (B ⊕ R)
 | 0, _ => none
 | n + 1, s => (body s).bind fun q => match q with | .go s' => itL body n s' | .brk b => some (.inl b) | .ret r => some (.inr r)
noncomputable def whL {S B R : Type} (body : S → Option (Lr S B R)) (s : S) : Option (B ⊕ R) := open Classical in if h : ∃ n r, itL body n s = some r then some (Classical.choose (Classical.choose_spec h)) else none
noncomputable def whE {S B R γ : Type} (body : S → Option (Lr S B R)) (s : S) (K1 : B → Option γ) (K2 : R → Option γ) : Option γ := (whL body s).bind fun q => q.elim K1 K2
theorem itL_one {S B R : Type} {body : S → Option (Lr S B R)} : ∀ {n m : Nat} {s : S} {r r' : B ⊕ R}, itL body n s = some r → itL body m s = some r' → r = r' := by
 intro n
 induction n with
 | zero => intro m s r r' h; cases h
 | succ n ih =>
  intro m s r r' h1 h2
  cases m with
  | zero => cases h2
  | succ m =>
   simp only [itL] at h1 h2
   cases hf : body s with
   | none => rw [hf] at h1; cases h1
   | some q =>
    rw [hf] at h1 h2
    simp only [Option.bind_some] at h1 h2
    cases q with
    | go s' => exact ih h1 h2
    | brk b => simp only at h1 h2; rw [h1] at h2; injection h2
    | ret b => simp only at h1 h2; rw [h1] at h2; injection h2
theorem whL_of {S B R : Type} {body : S → Option (Lr S B R)} {n : Nat} {s : S} {r : B ⊕ R} (h : itL body n s = some r) : whL body s = some r := by
 have hex : ∃ n r, itL body n s = some r := ⟨n, r, h⟩
 unfold whL
 rw [dif_pos hex]
 exact congrArg some (itL_one (Classical.choose_spec (Classical.choose_spec hex)) h)
theorem whL_it {S B R : Type} {body : S → Option (Lr S B R)} {s : S} {r : B ⊕ R} (h : whL body s = some r) : ∃ n, itL body n s = some r := by
 unfold whL at h
 split at h
 ·rename_i hx
  injection h with h
  subst h
  exact ⟨_, Classical.choose_spec (Classical.choose_spec hx)⟩
 ·cases h
theorem whL_step {S B R : Type} (body : S → Option (Lr S B R)) (s : S) : whL body s = (body s).bind fun q => match q with | .go s' => whL body s' | .brk b => some (.inl b) | .ret r => some (.inr r) := by
 cases hf : body s with
 | none =>
  rw [Option.bind_none]
  unfold whL
  rw [dif_neg]
  rintro ⟨n, r, h⟩
  cases n with
  | zero => cases h
  | succ n => simp [itL, hf] at h
 | some q =>
  rw [Option.bind_some]
  cases q with
  | brk b => exact whL_of (n := 1) (by simp [itL, hf])
  | ret b => exact whL_of (n := 1) (by simp [itL, hf])
  | go s' =>
   show whL body s = whL body s'
   cases h : whL body s' with
   | some r =>
    obtain ⟨n, hn⟩ := whL_it h
    exact whL_of (n := n + 1) (by simp [itL, hf, hn])
   | none =>
    cases h2 : whL body s with
    | none => rfl
    | some r =>
     obtain ⟨n, hn⟩ := whL_it h2
     cases n with
     | zero => cases hn
     | succ n =>
      simp only [itL, hf, Option.bind_some] at hn
      rw [whL_of hn] at h; cases h
section
variable {α S B R β τ : Type}
abbrev LS := AX × List AV × Heap
def Rnd (I : S → List AV → Heap → Prop) (QB : B → LS → Prop) (QR : R → LS → Prop) (t : Lr S B R) (q : LS) : Prop := match t with
 | .go s => q.1 = .normal ∧ I s q.2.1 q.2.2
 | .brk b => q.1 ≠ .normal ∧ QB b q
 | .ret r => q.1 ≠ .normal ∧ QR r q
theorem rnd_go {I : S → List AV → Heap → Prop} {QB : B → LS → Prop} {QR : R → LS → Prop} {s : S} {v : List AV} {σ : Heap} (h : I s v σ) : Rnd I QB QR (.go s) (.normal, v, σ) := ⟨rfl, h⟩
theorem rnd_brk {I : S → List AV → Heap → Prop} {QB : B → LS → Prop} {QR : R → LS → Prop} {b : B} {q : LS} (n : q.1 ≠ .normal) (h : QB b q) : Rnd I QB QR (.brk b) q := ⟨n, h⟩
theorem rnd_ret {I : S → List AV → Heap → Prop} {QB : B → LS → Prop} {QR : R → LS → Prop} {r : R} {q : LS} (n : q.1 ≠ .normal) (h : QR r q) : Rnd I QB QR (.ret r) q := ⟨n, h⟩
theorem rf_for {f : List AV → Heap → Option LS} {K : LS → Option β} {Q : τ → β → Prop} {l : List α} {body : Nat → α → S → Option (Lr S B R)} {fin : S → Option B} {s0 : S} {K1 : B → Option τ} {K2 : R → Option τ} {v0 : List AV} {σ0 : Heap}
  (I : Nat → S → List AV → Heap → Prop) (QB : B → LS → Prop) (QR : R → LS → Prop)
  (hstep : l.length ≤ mxl → ∀ i x s v σ, l[i]? = some x → I i s v σ → Rf (f v σ) (body i x s) (Rnd (I (i + 1)) QB QR))
  (hend : l.length ≤ mxl → ∀ s v σ, I l.length s v σ → Rf (f v σ) (fin s) (fun b q => q.1 ≠ .normal ∧ QB b q))
  (h0 : I 0 s0 v0 σ0) (k1 : l.length ≤ mxl → ∀ b q, QB b q → Rf (K q) (K1 b) Q) (k2 : l.length ≤ mxl → ∀ r q, QR r q → Rf (K q) (K2 r) Q) :
  Rf ((A.loop f v0 σ0).bind K) (forE l body fin s0 K1 K2) Q := by
 unfold forE
 refine rf_tq fun hl => ?_
 have hstep := hstep hl
 have hend := hend hl
 have key : ∀ (rest pre : List α) (s : S) (v : List AV) (σ : Heap), l = pre ++ rest → I pre.length s v σ → ∀ t, forL body fin rest pre.length s = some t → ∃ q, (∃ n, A.iter f n v σ = some q) ∧ (match t with | .inl b => QB b q | .inr r => QR r q) := by
  intro rest
  induction rest with
  | nil =>
   intro pre s v σ hl hI t ht
   rw [List.append_nil] at hl
   subst hl
   simp only [forL] at ht
   obtain ⟨b, hb, rfl⟩ := Option.map_eq_some_iff.1 ht
   obtain ⟨q, h1, h2, h3⟩ := hend s v σ hI b hb
   exact ⟨q, loop_done h1 h2, h3⟩
  | cons x rest ih =>
   intro pre s v σ hl hI t ht
   simp only [forL] at ht
   obtain ⟨y, hy, h2⟩ := Option.bind_eq_some_iff.1 ht
   obtain ⟨q, h3, h4⟩ := hstep pre.length x s v σ (by rw [hl]; simp) hI y hy
   obtain ⟨e, v', σ'⟩ := q
   cases y with
   | go s' =>
    obtain ⟨rfl, hI'⟩ := h4
    obtain ⟨q, h5, h6⟩ := ih (pre ++ [x]) s' v' σ' (by simpa using hl) (by simpa using hI') t (by simpa using h2)
    exact ⟨q, loop_step h3 h5, h6⟩
   | brk b => simp only [Option.some.injEq] at h2; subst h2; exact ⟨_, loop_done h3 h4.1, h4.2⟩
   | ret b => simp only [Option.some.injEq] at h2; subst h2; exact ⟨_, loop_done h3 h4.1, h4.2⟩
 intro t ht
 obtain ⟨y, hy, h2⟩ := Option.bind_eq_some_iff.1 ht
 obtain ⟨q, ⟨n, hn⟩, h3⟩ := key l [] s0 v0 σ0 rfl h0 y hy
 cases y with
 | inl b => obtain ⟨z, h4, h5⟩ := k1 hl b q h3 t h2; exact ⟨z, by rw [loop_of_iter hn]; exact h4, h5⟩
 | inr b => obtain ⟨z, h4, h5⟩ := k2 hl b q h3 t h2; exact ⟨z, by rw [loop_of_iter hn]; exact h4, h5⟩
theorem rf_wh {f : List AV → Heap → Option LS} {K : LS → Option β} {Q : τ → β → Prop} {body : S → Option (Lr S B R)} {s0 : S} {K1 : B → Option τ} {K2 : R → Option τ} {v0 : List AV} {σ0 : Heap}
  (I : S → List AV → Heap → Prop) (QB : B → LS → Prop) (QR : R → LS → Prop)
  (hstep : ∀ s v σ, I s v σ → Rf (f v σ) (body s) (Rnd I QB QR))
  (h0 : I s0 v0 σ0) (k1 : ∀ b q, QB b q → Rf (K q) (K1 b) Q) (k2 : ∀ r q, QR r q → Rf (K q) (K2 r) Q) :
  Rf ((A.loop f v0 σ0).bind K) (whE body s0 K1 K2) Q := by
 have key : ∀ (n : Nat) (s : S) (v : List AV) (σ : Heap), I s v σ → ∀ t, itL body n s = some t → ∃ q, (∃ n, A.iter f n v σ = some q) ∧ (match t with | .inl b => QB b q | .inr r => QR r q) := by
  intro n
  induction n with
  | zero => intro s v σ hI t ht; cases ht
  | succ n ih =>
   intro s v σ hI t ht
   simp only [itL] at ht
   obtain ⟨y, hy, h2⟩ := Option.bind_eq_some_iff.1 ht
   obtain ⟨q, h3, h4⟩ := hstep s v σ hI y hy
   obtain ⟨e, v', σ'⟩ := q
   cases y with
   | go s' =>
    obtain ⟨rfl, hI'⟩ := h4
    obtain ⟨q, h5, h6⟩ := ih s' v' σ' hI' t h2
    exact ⟨q, loop_step h3 h5, h6⟩
   | brk b => simp only [Option.some.injEq] at h2; subst h2; exact ⟨_, loop_done h3 h4.1, h4.2⟩
   | ret b => simp only [Option.some.injEq] at h2; subst h2; exact ⟨_, loop_done h3 h4.1, h4.2⟩
 intro t ht
 obtain ⟨y, hy, h2⟩ := Option.bind_eq_some_iff.1 ht
 obtain ⟨n, hn⟩ := whL_it hy
 obtain ⟨q, ⟨m, hm⟩, h3⟩ := key n s0 v0 σ0 h0 y hn
 cases y with
 | inl b => obtain ⟨z, h4, h5⟩ := k1 b q h3 t h2; exact ⟨z, by rw [loop_of_iter hm]; exact h4, h5⟩
 | inr b => obtain ⟨z, h4, h5⟩ := k2 b q h3 t h2; exact ⟨z, by rw [loop_of_iter hm]; exact h4, h5⟩
theorem ix_lt {l : List α} {i : Nat} {x : α} (h : l[i]? = some x) : A.lss (.int .i64 (i : Int)) (.int .i64 (l.length : Int)) = some (.bool true) := by
 have := (List.getElem?_eq_some_iff.1 h).1
 rw [aLss]; simp; omega
theorem ix_end (l : List α) : A.lss (.int .i64 (l.length : Int)) (.int .i64 (l.length : Int)) = some (.bool false) := by rw [aLss]; simp
theorem ix_inc {l : List α} {i : Nat} {x : α} (h : l[i]? = some x) (hl : l.length ≤ mxl) : A.add (.int .i64 (i : Int)) (.int .i64 1) = some (.int .i64 ((i + 1 : Nat) : Int)) := by
 have := (List.getElem?_eq_some_iff.1 h).1
 rw [aAdd, wrap64 (by unfold inI; unfold mxl at hl; omega)]
 simp
theorem ix_for {sz : Nat} {c : α → List AV} {l : List α} {i : Nat} {x : α} (h : l[i]? = some x) : A.iaddr sz (sl sz c l) (.int .i64 (i : Int)) = some (.rp (c x)) := iaddr_sl sz c l h
def tSx (s : ByteArray) (i : Int) : Option Int := if h : 0 ≤ i ∧ i < s.size then some ((s[i.toNat]'(by omega)).toNat : Int) else none
theorem sx_at {s : ByteArray} {i x : Int} (h : tSx s i = some x) : A.sidx (.str s) (.int .i64 i) = some (.int .u8 x) := by
 unfold tSx at h
 split at h
 ·rename_i h2
  injection h with h
  have h3 : i.toNat < s.size := by omega
  simp [A.sidx, A.idx, h2, h3, ← h]
 ·cases h
end
theorem quiet_of {M : Option (AV × Heap)} {v : AV} {σ : Heap} (h : M = some (v, σ)) : A.quiet M σ = some v := by rw [h, quiet_same]
noncomputable def tq {α : Type} (p : Prop) (x : α) : Option α := open Classical in if p then some x else none
theorem tq_pos {α : Type} {p : Prop} {x : α} (h : p) : tq p x = some x := if_pos h
theorem tq_of {α β : Type} {p : Prop} {x r : α} {M : Option β} {e : α → β} (h : p → M = some (e x)) (k : tq p x = some r) : M = some (e r) := by
 unfold tq at k
 split at k
 ·rename_i hp; injection k with k; subst k; exact h hp
 ·cases k
theorem pk_and (b t : Bool) : A.pick (.bool b) (bif b then .bool t else .tup []) (.bool false) = some (.bool (b && t)) := by cases b <;> rfl
theorem pk_or (b t : Bool) : A.pick (.bool b) (.bool true) (bif !b then .bool t else .tup []) = some (.bool (b || t)) := by cases b <;> rfl
section
variable {α β ω τ : Type} {G b : Bool} {M0 : Option AV} {K : AV → Option β} {T : Option τ} {K' : ω → Option τ} {o : Option ω} {Q : τ → β → Prop}
theorem rf_gt (a : AV) (h : b = true → M0 = some a) (k : Rf (K (bif b then a else .tup [])) T Q) : Rf ((A.guard (.bool b) true M0 (some (.tup []))).bind K) T Q := by
 refine rf_s _ ?_ k
 cases b <;> simp_all [A.guard]
theorem rf_gf (a : AV) (h : (!b) = true → M0 = some a) (k : Rf (K (bif !b then a else .tup [])) T Q) : Rf ((A.guard (.bool b) false M0 (some (.tup []))).bind K) T Q := by
 refine rf_s _ ?_ k
 cases b <;> simp_all [A.guard]
theorem rf_ggt (a : AV) (h : (G && b) = true → M0 = some a) (k : Rf (K (bif G && b then a else .tup [])) T Q) : Rf ((A.guard (bif G then .bool b else .tup []) true M0 (some (.tup []))).bind K) T Q := by
 refine rf_s _ ?_ k
 cases G <;> cases b <;> simp_all [A.guard]
theorem rf_go {g : Bool} {M : Option AV} {d : ω} (e : ω → AV) (hM : M = bif g then M0 else some (.tup [])) (h : g = true → ∀ t, o = some t → M0 = some (e t)) (k : ∀ t, (g = true → o = some t) → Rf (K (bif g then e t else .tup [])) (K' t) Q) : Rf (M.bind K) ((if g = true then o else some d).bind K') Q := by
 subst hM
 cases g
 ·exact k d (by simp)
 ·intro t ht
  simp only [if_true] at ht
  obtain ⟨x, h1, h2⟩ := Option.bind_eq_some_iff.1 ht
  obtain ⟨y, h3, h4⟩ := k x (fun _ => h1) t h2
  refine ⟨y, ?_, h4⟩
  simp only [cond_true, h rfl x h1, Option.bind_some]
  exact h3
theorem rf_gto {d : ω} (e : ω → AV) (h : b = true → ∀ t, o = some t → M0 = some (e t)) (k : ∀ t, (b = true → o = some t) → Rf (K (bif b then e t else .tup [])) (K' t) Q) : Rf ((A.guard (.bool b) true M0 (some (.tup []))).bind K) ((if b = true then o else some d).bind K') Q := rf_go e (by cases b <;> rfl) h k
theorem aEq_u8 (a b : Int) : A.eql .i (.int .u8 a) (.int .u8 b) = some (.bool (decide (a = b))) := by
 simp only [A.eql, A.eqK, A.eqI, if_true, Option.map_some]
 congr 2
end
theorem wrap_nn {ro : Bool} {ain : List Sh} {rout : Sh} {r : List AV → Heap → Option (AV × Heap)} {args args' : List AV} {σ : Heap} (hn : A.nnL ain args = A.nnL ain args') (h1 : args.any A.own = false) (h2 : args'.any A.own = false) : A.wrap ro ain rout r args σ = A.wrap ro ain rout r args' σ := by
 unfold A.wrap
 rw [h1, h2, hn, Bool.and_false, cond_false, cond_false]
theorem rf_wrap {τ : Type} {ro : Bool} {ain : List Sh} {rout : Sh} {r : List AV → Heap → Option (AV × Heap)} {args args' : List AV} {σ : Heap} {T : Option τ} {enc : τ → AV} (hn : A.nnL ain args = args') (h : args.any A.own = false) (e : Rf (r args' σ) T (fun t b => A.nn rout b.1 = enc t ∧ b.2 = σ)) : ∀ t, T = some t → A.wrap ro ain rout r args σ = some (enc t, σ) := by
 intro t ht
 obtain ⟨⟨v, σ'⟩, h1, h2, h3⟩ := e t ht
 simp only at h2 h3
 subst h3
 exact wrap_eq h (by rw [hn]; exact h1) h2
theorem rf_wrap1 {τ : Type} {ro : Bool} {ain : List Sh} {rout : Sh} {f : AV → Heap → Option (AV × Heap)} {x0 y0 : AV} {σ : Heap} {T : Option τ} {enc : τ → AV} (hn : A.nnL ain [x0] = [y0]) (h : ([x0] : List AV).any A.own = false) (e : Rf (f y0 σ) T (fun t b => A.nn rout b.1 = enc t ∧ b.2 = σ)) : ∀ t, T = some t → A.wrap ro ain rout (A.ar1 f) [x0] σ = some (enc t, σ) := rf_wrap hn h e
theorem rf_wrap2 {τ : Type} {ro : Bool} {ain : List Sh} {rout : Sh} {f : AV → AV → Heap → Option (AV × Heap)} {x0 x1 y0 y1 : AV} {σ : Heap} {T : Option τ} {enc : τ → AV} (hn : A.nnL ain [x0, x1] = [y0, y1]) (h : ([x0, x1] : List AV).any A.own = false) (e : Rf (f y0 y1 σ) T (fun t b => A.nn rout b.1 = enc t ∧ b.2 = σ)) : ∀ t, T = some t → A.wrap ro ain rout (A.ar2 f) [x0, x1] σ = some (enc t, σ) := rf_wrap hn h e
end Go.Proofs.YtfalbgflabajbaaDoor

namespace Go.Proofs.YtfalbgflabajbaaDoor
set_option linter.unusedSectionVars false
set_option linter.unusedVariables false
set_option linter.unusedSimpArgs false
inductive Ct where
 | s (sz : Nat) (es : List (List AV))
 | m (es : List (AV × AV))
 | b (cs : List AV)
def idOf : AV → Option Nat
 | .os id _ _ _ _ => some id
 | .om id => some id
 | .op id _ => some id
 | _ => none
def Own (n : Nat) (σ : Heap) (p : AV × Ct) : Prop := match p.2 with
 | .s sz es => (p.1 = .nsl ∧ es = []) ∨ ∃ id g off a, p.1 = .os id g sz off es.length ∧ n ≤ id ∧ σ[id]? = some (.arr g sz a) ∧ off ≤ a.length ∧ a.drop off = es
 | .m es => ∃ id, p.1 = .om id ∧ n ≤ id ∧ σ[id]? = some (.map es)
 | .b cs => ∃ id, p.1 = .op id 0 ∧ n ≤ id ∧ σ[id]? = some (.box cs)
structure Hp (σ0 σ : Heap) (L : List (AV × Ct)) : Prop where
 pre : ∃ bs, σ = σ0 ++ bs
 own : ∀ (i : Nat) p, L[i]? = some p → Own σ0.length σ p
 sep : ∀ (i j : Nat) p q a, L[i]? = some p → L[j]? = some q → idOf p.1 = some a → idOf q.1 = some a → i = j
section
variable {σ0 σ σ' : Heap} {L : List (AV × Ct)} {n : Nat}
theorem hp_nil (σ : Heap) : Hp σ σ [] := ⟨⟨[], by simp⟩, by simp, by simp⟩
theorem own_lt {p : AV × Ct} {a : Nat} (h : Own n σ p) (e : idOf p.1 = some a) : n ≤ a ∧ a < σ.length := by
 obtain ⟨v, c⟩ := p
 cases c with
 | s sz es =>
  rcases h with ⟨h1, _⟩ | ⟨id, g, off, x, h1, h2, h3, _⟩
  ·simp only at h1; subst h1; cases e
  ·simp only at h1; subst h1; injection e with e; subst e; exact ⟨h2, (List.getElem?_eq_some_iff.1 h3).1⟩
 | m es => obtain ⟨id, h1, h2, h3⟩ := h; simp only at h1; subst h1; injection e with e; subst e; exact ⟨h2, (List.getElem?_eq_some_iff.1 h3).1⟩
 | b es => obtain ⟨id, h1, h2, h3⟩ := h; simp only at h1; subst h1; injection e with e; subst e; exact ⟨h2, (List.getElem?_eq_some_iff.1 h3).1⟩
theorem own_mono {p : AV × Ct} (h : Own n σ p) (k : ∀ a, idOf p.1 = some a → σ'[a]? = σ[a]?) : Own n σ' p := by
 obtain ⟨v, c⟩ := p
 cases c with
 | s sz es =>
  rcases h with h | ⟨id, g, off, x, h1, h2, h3, h4⟩
  ·exact .inl h
  ·simp only at h1; subst h1; exact .inr ⟨id, g, off, x, rfl, h2, by rw [k id rfl]; exact h3, h4⟩
 | m es => obtain ⟨id, h1, h2, h3⟩ := h; simp only at h1; subst h1; exact ⟨id, rfl, h2, by rw [k id rfl]; exact h3⟩
 | b es => obtain ⟨id, h1, h2, h3⟩ := h; simp only at h1; subst h1; exact ⟨id, rfl, h2, by rw [k id rfl]; exact h3⟩
theorem pre_set (h : ∃ bs, σ = σ0 ++ bs) {id : Nat} (hn : σ0.length ≤ id) (b : Blk) : ∃ bs, σ.set id b = σ0 ++ bs := by
 obtain ⟨bs, rfl⟩ := h
 exact ⟨bs.set (id - σ0.length) b, by rw [List.set_append_right _ _ hn]⟩
theorem hp_set (H : Hp σ0 σ L) {k id : Nat} {h h' : AV} {c c' : Ct} {b : Blk} (hk : L[k]? = some (h, c)) (hi : idOf h = some id) (hi' : idOf h' = some id) (ho : Own σ0.length (σ.set id b) (h', c')) : Hp σ0 (σ.set id b) (L.set k (h', c')) := by
 have hid := own_lt (H.own k _ hk) hi
 have hkl := (List.getElem?_eq_some_iff.1 hk).1
 refine ⟨pre_set H.pre hid.1 b, fun i p hp => ?_, fun i j p q a hp hq e1 e2 => ?_⟩
 ·rw [List.getElem?_set] at hp
  split at hp
  ·rename_i e; subst e; simp [hkl] at hp; subst hp; exact ho
  ·rename_i e
   refine own_mono (H.own i p hp) fun a ha => ?_
   rw [List.getElem?_set]
   split
   ·rename_i e'; subst e'; exact absurd (H.sep k i _ _ id hk hp hi ha) e
   ·rfl
 ·have key : ∀ (i : Nat) (p : AV × Ct), (L.set k (h', c'))[i]? = some p → idOf p.1 = some a → ∃ p', L[i]? = some p' ∧ idOf p'.1 = some a := by
   intro i p hp e
   rw [List.getElem?_set] at hp
   split at hp
   ·rename_i e'; subst e'; simp [hkl] at hp; subst hp; exact ⟨_, hk, by rw [hi]; rw [hi'] at e; exact e⟩
   ·exact ⟨p, hp, e⟩
  obtain ⟨p', hp', e1'⟩ := key i p hp e1
  obtain ⟨q', hq', e2'⟩ := key j q hq e2
  exact H.sep i j p' q' a hp' hq' e1' e2'
theorem hp_put (H : Hp σ0 σ L) {k : Nat} {h h' : AV} {c c' : Ct} {b : Blk} (hk : L[k]? = some (h, c)) (hi : idOf h = none) (hi' : idOf h' = some σ.length) (ho : Own σ0.length (σ ++ [b]) (h', c')) : Hp σ0 (σ ++ [b]) (L.set k (h', c')) := by
 have hkl := (List.getElem?_eq_some_iff.1 hk).1
 refine ⟨?_, fun i p hp => ?_, fun i j p q a hp hq e1 e2 => ?_⟩
 ·obtain ⟨bs, rfl⟩ := H.pre; exact ⟨bs ++ [b], by simp⟩
 ·rw [List.getElem?_set] at hp
  split at hp
  ·rename_i e; subst e; simp [hkl] at hp; subst hp; exact ho
  ·refine own_mono (H.own i p hp) fun a ha => ?_
   have := (own_lt (H.own i p hp) ha).2
   rw [List.getElem?_append_left this]
 ·have key : ∀ (i : Nat) (p : AV × Ct), (L.set k (h', c'))[i]? = some p → idOf p.1 = some a → (i = k ∧ a = σ.length) ∨ (L[i]? = some p ∧ a < σ.length) := by
   intro i p hp e
   rw [List.getElem?_set] at hp
   split at hp
   ·rename_i e'; subst e'; simp [hkl] at hp; subst hp; rw [hi'] at e; injection e with e; exact .inl ⟨rfl, e.symm⟩
   ·exact .inr ⟨hp, (own_lt (H.own i p hp) e).2⟩
  rcases key i p hp e1 with ⟨a1, a2⟩ | ⟨a1, a2⟩ <;> rcases key j q hq e2 with ⟨b1, b2⟩ | ⟨b1, b2⟩
  ·omega
  ·omega
  ·omega
  ·exact H.sep i j p q a a1 b1 e1 e2
theorem hp_nsl (H : Hp σ0 σ L) (sz : Nat) : Hp σ0 σ (L ++ [(.nsl, .s sz [])]) := by
 refine ⟨H.pre, fun i p hp => ?_, fun i j p q a hp hq e1 e2 => ?_⟩
 ·rw [List.getElem?_append] at hp
  split at hp
  ·exact H.own i p hp
  ·have hp' := (List.getElem?_eq_some_iff.1 hp).2
   simp at hp'; subst hp'; exact .inl ⟨rfl, rfl⟩
 ·have key : ∀ (i : Nat) (p : AV × Ct), (L ++ [((.nsl : AV), Ct.s sz [])])[i]? = some p → idOf p.1 = some a → L[i]? = some p := by
   intro i p hp e
   rw [List.getElem?_append] at hp
   split at hp
   ·exact hp
   ·have hp' := (List.getElem?_eq_some_iff.1 hp).2
    simp at hp'; subst hp'; cases e
  exact H.sep i j p q a (key i p hp e1) (key j q hq e2) e1 e2
theorem hp_app (H : Hp σ0 σ L) {k sz most : Nat} {h : AV} {es ys : List (List AV)} (hk : L[k]? = some (h, .s sz es)) (hm : es.length + ys.length ≤ most) : ∃ h' σ', A.append sz most h (.sl sz ys) σ = some (h', σ') ∧ Hp σ0 σ' (L.set k (h', .s sz (es ++ ys))) := by
 have hl : σ0.length ≤ σ.length := by obtain ⟨bs, rfl⟩ := H.pre; simp
 rcases H.own k _ hk with ⟨h1, h2⟩ | ⟨id, g, off, a, h1, h2, h3, h4, h5⟩
 ·simp only at h1 h2
  subst h1 h2
  by_cases hy : ys = []
  ·subst hy
   refine ⟨.nsl, σ, by simp [A.append, A.appendL, A.elems], ?_⟩
   have : L.set k (.nsl, .s sz ([] ++ [])) = L := by
    apply List.ext_getElem?
    intro i
    rw [List.getElem?_set]
    split
    ·rename_i e; subst e; rw [hk]; simp [(List.getElem?_eq_some_iff.1 hk).1]
    ·rfl
   rw [this]; exact H
  ·refine ⟨.os σ.length ys.length sz 0 ys.length, σ ++ [.arr ys.length sz ys], ?_, ?_⟩
   ·have : ys.length ≤ most := by simpa using hm
    simp [A.append, A.appendL, A.elems, hy, this]
   ·exact hp_put H hk rfl rfl (.inr ⟨σ.length, ys.length, 0, ys, by simp, hl, by simp, by simp, by simp⟩)
 ·simp only at h1 h5
  subst h1
  have hid := (List.getElem?_eq_some_iff.1 h3).1
  have h6 : off + es.length = a.length := by rw [← h5, List.length_drop]; omega
  by_cases hy : ys = []
  ·subst hy
   refine ⟨.os id g sz off es.length, σ, ?_, ?_⟩
   ·have : es.length ≤ most := by simpa using hm
    simp [A.append, A.appendL, A.elems, h3, h6, this]
   ·have : L.set k (.os id g sz off es.length, .s sz (es ++ [])) = L := by
     apply List.ext_getElem?
     intro i
     rw [List.getElem?_set]
     split
     ·rename_i e; subst e; rw [hk]; simp [(List.getElem?_eq_some_iff.1 hk).1]
     ·rfl
    rw [this]; exact H
  ·refine ⟨.os id (g + ys.length) sz 0 (es.length + ys.length), σ.set id (.arr (g + ys.length) sz (es ++ ys)), ?_, ?_⟩
   ·have ht : (a.drop off).take es.length = es := by rw [h5]; simp
    have hp : 0 < ys.length := List.length_pos_iff.2 hy
    simp [A.append, A.appendL, A.elems, h3, h6, hm, hy, ht, hp]
   ·refine hp_set H hk rfl rfl (.inr ⟨id, g + ys.length, 0, es ++ ys, by simp, h2, by simp [hid], by simp, by simp [h5]⟩)
def Fzv (σ0 σ : Heap) (r r' : AV) : Prop := (∀ d, A.frz σ σ0.length (d + 1) r = some r') ∧ (σ = σ0 → r' = r)
theorem fzv_fz {r : AV} (h : Fz r) : Fzv σ0 σ r r := ⟨fun d => h σ _ (d + 1), fun _ => rfl⟩
theorem fzv_own {α : Type} (H : Hp σ0 σ L) {k sz : Nat} {h : AV} {c : α → List AV} {l : List α} (hk : L[k]? = some (h, .s sz (l.map c))) (hc : ∀ x, FzL (c x)) : ∃ r', Fzv σ0 σ h r' ∧ ((r' = .nsl ∧ l = []) ∨ r' = sl sz c l) := by
 rcases H.own k _ hk with ⟨h1, h2⟩ | ⟨id, g, off, a, h1, h2, h3, h4, h5⟩
 ·simp only at h1 h2
  have : l = [] := by simpa using h2
  subst this; subst h1
  exact ⟨.nsl, fzv_fz fz_nsl, .inl ⟨rfl, rfl⟩⟩
 ·simp only at h1 h5
  subst h1
  refine ⟨sl sz c l, ⟨fun d => ?_, fun e => ?_⟩, .inr rfl⟩
  ·have h6 : off + (l.map c).length = a.length := by rw [← h5, List.length_drop]; omega
   simp only [A.frz, Nat.not_lt.2 h2, if_false, h3]
   rw [if_pos (by simp; simp at h6; omega), frzLL_eq, h5, List.take_of_length_le (Nat.le_refl _), fzLL hc]
   rfl
  ·subst e
   have := (List.getElem?_eq_some_iff.1 h3).1
   omega
theorem nn_own' {α : Type} {sz : Nat} {c : α → List AV} {l : List α} {r : AV} (h : (r = .nsl ∧ l = []) ∨ r = sl sz c l) : A.nn (.s sz) r = sl sz c l := by
 rcases h with ⟨rfl, rfl⟩ | rfl <;> rfl
theorem hp_fin (H : Hp σ0 σ L) {r r' : AV} (h : Fzv σ0 σ r r') : A.fin σ0 r σ = some (r', σ0) := by
 obtain ⟨bs, hb⟩ := H.pre
 subst hb
 by_cases hbs : bs = []
 ·subst hbs
  rw [List.append_nil] at h ⊢
  rw [fin_same, h.2 rfl]
 ·unfold A.fin
  rw [if_neg (by simpa using hbs), if_pos (by simp), h.1 7]; rfl
end
section
variable {κ ν : Type} [DecidableEq κ]
def tfind (k : κ) : List (κ × ν) → Option ν
 | [] => none
 | (k', v) :: r => if k = k' then some v else tfind k r
variable {ek : A.EK} {eK : κ → AV} {eV : ν → AV} (hq : ∀ a b, A.eqK ek (eK a) (eK b) = some (decide (a = b)))
include hq
end
section
variable {κ ν : Type} [DecidableEq κ] {ek : A.EK} {eK : κ → AV} {eV : ν → AV} {σ0 σ : Heap} {L : List (AV × Ct)} {h : AV} {l : List (κ × ν)}
end
section
variable {α : Type} {c : α → List AV} {l ys : List α} {σ0 σ : Heap} {L : List (AV × Ct)} {h : AV} {sz : Nat}
theorem hp_appT (H : Hp σ0 σ L) (k : Nat) {most : Nat} (hk : L[k]? = some (h, .s sz (l.map c))) (hm : l.length + ys.length ≤ most) : ∃ h' σ', A.append sz most h (sl sz c ys) σ = some (h', σ') ∧ Hp σ0 σ' (L.set k (h', .s sz ((l ++ ys).map c))) := by
 rw [List.map_append]
 exact hp_app H hk (by simpa using hm)
end
def tSz (s : ByteArray) (lo hi : Option Int) : Option ByteArray :=
 let h := hi.getD s.size
 let k := lo.getD 0
 if 0 ≤ k ∧ k ≤ h ∧ h ≤ s.size then some (s.extract k.toNat h.toNat) else none
theorem slz_at {s r : ByteArray} {lo hi : Option Int} (h : tSz s lo hi = some r) : A.sliceZ (.str s) (lo.map (.int .i64)) (hi.map (.int .i64)) = some (.str r) := by
 unfold tSz at h
 simp only at h
 split at h
 ·rename_i hc
  injection h with h
  subst h
  obtain ⟨h1, h2, h3⟩ := hc
  simp only [A.sliceZ]
  have e1 : A.bound s.size s.size (hi.map (.int .i64)) = some (hi.getD s.size).toNat := by
   cases hi with
   | none => simp [A.bound]
   | some h => simp only [Option.getD_some] at h2 h3; simp [A.bound, show 0 ≤ h by omega, h3]
  have e2 : A.bound (hi.getD s.size).toNat 0 (lo.map (.int .i64)) = some (lo.getD 0).toNat := by
   cases lo with
   | none => simp [A.bound]
   | some k =>
    simp only [Option.getD_some] at h1 h2
    have : k ≤ ((hi.getD s.size).toNat : Int) := by omega
    simp only [Option.map_some, A.bound, Option.getD_some]
    rw [if_pos ⟨h1, this⟩]
  rw [e1, Option.bind_some, e2, Option.map_some]
 ·cases h
def tCat (a b : ByteArray) : Option ByteArray := if a.size + b.size ≤ 9223372036854775807 then some (a ++ b) else none
theorem cat_at {a b r : ByteArray} (h : tCat a b = some r) : A.add (.str a) (.str b) = some (.str r) := by
 unfold tCat at h
 split at h
 ·injection h with h; subst h; simp [A.add, *]
 ·cases h
end Go.Proofs.YtfalbgflabajbaaDoor

namespace Go.Proofs.YtfalbgflabajbaaDoor
set_option linter.unusedSectionVars false
set_option linter.unusedVariables false
set_option linter.unusedSimpArgs false
def chkE {α : Type} (f : Nat → α → Int) : List α → Nat → Int
 | [], _ => 0
 | x :: l, i => if f i x = 0 then chkE f l (i + 1) else f i x
section
variable {α β γ S B R : Type}
theorem forE_le {l : List α} {body : Nat → α → S → Option (Lr S B R)} {fin : S → Option B} {s : S} {K1 : B → Option γ} {K2 : R → Option γ} (hl : l.length ≤ mxl) : forE l body fin s K1 K2 = (forL body fin l 0 s).bind fun q => q.elim K1 K2 := if_pos hl
theorem forE_chk {f : Nat → α → Int} {l : List α} {body : Nat → α → Unit → Option (Lr Unit Unit Int)} {fin : Unit → Option Unit} {s : Unit} {K1 : Unit → Option γ} {K2 : Int → Option γ} (hl : l.length ≤ mxl) (hb : ∀ i x, l[i]? = some x → body i x () = some (if f i x = 0 then .go () else .ret (f i x))) (hf : fin () = some () := by rfl) : forE l body fin s K1 K2 = if chkE f l 0 = 0 then K1 () else K2 (chkE f l 0) := by
 rw [forE_le hl]
 have key : ∀ (rest pre : List α), l = pre ++ rest → forL body fin rest pre.length () = some (if chkE f rest pre.length = 0 then .inl () else .inr (chkE f rest pre.length)) := by
  intro rest
  induction rest with
  | nil => intro pre _; simp [forL, hf, chkE]
  | cons x rest ih =>
   intro pre hp
   rw [forL, hb pre.length x (by rw [hp]; simp), Option.bind_some, chkE]
   by_cases h : f pre.length x = 0
   ·simp only [h, if_true]
    have := ih (pre ++ [x]) (by simpa using hp)
    simpa using this
   ·simp only [h, if_false]
 have k := key l [] rfl
 rw [List.length_nil] at k
 rw [show s = () from rfl, k, Option.bind_some]
 split <;> rfl
theorem go_ret : (some (.go ()) : Option (Lr Unit Unit Int)) = some (if (0 : Int) = 0 then .go () else .ret 0) := rfl
def pv [Inhabited α] (l : List α) (i : Nat) : α := if 0 < i then l.getD (i - 1) default else default
end
def ltK (a b : KeyD) : Bool := decide (a.unit < b.unit) || (decide (a.unit = b.unit) && Op.bytesLess a.param.toList b.param.toList)
end Go.Proofs.YtfalbgflabajbaaDoor

namespace Go.Proofs.YtfalbgflabajbaaDoor
set_option linter.unusedSectionVars false
set_option linter.unusedVariables false
set_option linter.unusedSimpArgs false
def withinB (n lo hi : Int) : Bool := decide (lo ≤ n ∧ n ≤ hi)
def profOf (nm : ByteArray) : List ProfileD → ProfileD × Bool
 | [] => (⟨⟨#[]⟩, 0, []⟩, false)
 | p :: rest => if p.name = nm then (p, true) else profOf nm rest
def lastU (lib : List ProfileD) (u : UnitD) : Int := u.address + (profOf u.profile lib).1.size - 1
def MarksP (lib : List ProfileD) (pre : List UnitD) (f : Int → Nat → Bool) : Prop := ∀ v k, f v k = true ↔ ∃ x ∈ pre, x.univ = v ∧ x.address ≤ (k : Int) ∧ (k : Int) ≤ lastU lib x
end Go.Proofs.YtfalbgflabajbaaDoor

namespace Go.Proofs.YtfalbgflabajbaaDoor
set_option linter.unusedSectionVars false
set_option linter.unusedVariables false
set_option linter.unusedSimpArgs false
theorem Within_eq (n lo hi : Int) (σ : Heap) : m_word_Within [.int .i64 n, .int .i64 lo, .int .i64 hi] σ = some (.bool (withinB n lo hi), σ) := by
 refine wrap_eq rfl ?_ rfl
 show r_word_Within _ _ _ σ = _
 unfold r_word_Within withinB
 by_cases h : lo ≤ n <;> simp only [MSb, reduceCtorEq, h, true_and, false_and]
theorem Within1_eq (n lo hi : Int) (σ : Heap) : m_R1_Within [.int .i64 n, .int .i64 lo, .int .i64 hi] σ = some (.bool (withinB n lo hi), σ) := by
 refine wrap_eq rfl ?_ rfl
 show r_R1_Within _ _ _ σ = _
 unfold r_R1_Within withinB
 by_cases h : lo ≤ n <;> simp only [MSb, reduceCtorEq, h, true_and, false_and]
end Go.Proofs.YtfalbgflabajbaaDoor

namespace Go.Proofs.YtfalbgflabajbaaDoor
set_option linter.unusedSectionVars false
set_option linter.unusedSimpArgs false
set_option linter.unusedVariables false
abbrev SmK := { k : KeyD // 0 ≤ k.unit ∧ k.unit ≤ 1000000 }
instance : Inhabited SmK := ⟨⟨⟨0, ⟨#[]⟩⟩, by decide⟩⟩
end Go.Proofs.YtfalbgflabajbaaDoor

namespace Go.Proofs.YtfalbgflabajbaaDoor
set_option linter.unusedSectionVars false
set_option linter.unusedSimpArgs false
set_option linter.unusedVariables false
structure TokenD where
 text : ByteArray
 att : Int
 touch : Bool
def cToken (x : TokenD) : List AV := [.str x.text, .int .i64 x.att, .bool x.touch]
theorem fz_cToken (x : TokenD) : FzL (cToken x) := (fzL_cons (fz_str _) (fzL_cons (fz_int _ _) (fzL_cons (fz_bool _) fzL_nil)))
structure WordD where
 text : ByteArray
 att : Int
def cWord (x : WordD) : List AV := [.str x.text, .int .i64 x.att]
theorem cWord_len (x : WordD) : (cWord x).length = 2 := rfl
theorem sp_cWord (x : WordD) (l : List AV) (h : l.length = 2) : A.splice 0 (cWord x) l = some (cWord x) := by
 simp [A.splice, cWord_len, h]
theorem fz_cWord (x : WordD) : FzL (cWord x) := (fzL_cons (fz_str _) (fzL_cons (fz_int _ _) fzL_nil))
end Go.Proofs.YtfalbgflabajbaaDoor

namespace Go.Proofs.YtfalbgflabajbaaDoor
set_option linter.unusedSectionVars false
set_option linter.unusedVariables false
set_option linter.unusedSimpArgs false
set_option maxRecDepth 100000
noncomputable def t_pick_class (a0 : Int) : Option Int :=
 if ((decide (97 ≤ a0)) && (decide (a0 ≤ 122))) = true then
  some 1
 else
 if ((decide (48 ≤ a0)) && (decide (a0 ≤ 57))) = true then
  some 2
 else
 some 0
theorem h_pick_class {a0 : Int} {σ : Heap} {r : Int} (h : t_pick_class a0 = some r) : m_pick_class [(AV.int .u8 a0)] σ = some ((AV.int .i64 r), σ) := by
 refine rf_wrap1 (f := r_pick_class) (y0 := (AV.int .u8 a0)) (enc := fun r : Int => (AV.int .i64 r)) (T := t_pick_class a0) rfl rfl ?_ r h
 unfold r_pick_class t_pick_class
 refine rf_s _ rfl <| rf_gt (AV.int .u8 a0) (fun hg => rfl) <| rf_gt (AV.bool (decide (a0 ≤ 122))) (fun hg => by (try rw [hg]); exact rfl) <| rf_s _ (pk_and _ _) ?_
 refine rf_cb (c := ((decide (97 ≤ a0)) && (decide (a0 ≤ 122)))) (fun c2 => ?_) (fun c2 => ?_)
 ·exact rf_fin _ (fin_same _ _) ⟨rfl, rfl⟩
 refine rf_s _ rfl <| rf_gt (AV.int .u8 a0) (fun hg => rfl) <| rf_gt (AV.bool (decide (a0 ≤ 57))) (fun hg => by (try rw [hg]); exact rfl) <| rf_s _ (pk_and _ _) ?_
 refine rf_cb (c := ((decide (48 ≤ a0)) && (decide (a0 ≤ 57)))) (fun c1 => ?_) (fun c1 => ?_)
 ·exact rf_fin _ (fin_same _ _) ⟨rfl, rfl⟩
 exact rf_fin _ (fin_same _ _) ⟨rfl, rfl⟩

noncomputable def t_R4_kindOf (a0 : Int) : Option Int :=
 if a0 = 32 then
  some 0
 else
 if ((decide (97 ≤ a0)) && (decide (a0 ≤ 122))) = true then
  some 1
 else
 if ((decide (48 ≤ a0)) && (decide (a0 ≤ 57))) = true then
  some 2
 else
 some 3
theorem h_R4_kindOf {a0 : Int} {σ : Heap} {r : Int} (h : t_R4_kindOf a0 = some r) : m_R4_kindOf [(AV.int .u8 a0)] σ = some ((AV.int .i64 r), σ) := by
 refine rf_wrap1 (f := r_R4_kindOf) (y0 := (AV.int .u8 a0)) (enc := fun r : Int => (AV.int .i64 r)) (T := t_R4_kindOf a0) rfl rfl ?_ r h
 unfold r_R4_kindOf t_R4_kindOf
 refine rf_s _ (aEq_u8 _ _) ?_
 refine rf_c (p := a0 = 32) (fun c3 => ?_) (fun c3 => ?_)
 ·exact rf_fin _ (fin_same _ _) ⟨rfl, rfl⟩
 refine rf_s _ rfl <| rf_gt (AV.int .u8 a0) (fun hg => rfl) <| rf_gt (AV.bool (decide (a0 ≤ 122))) (fun hg => by (try rw [hg]); exact rfl) <| rf_s _ (pk_and _ _) ?_
 refine rf_cb (c := ((decide (97 ≤ a0)) && (decide (a0 ≤ 122)))) (fun c2 => ?_) (fun c2 => ?_)
 ·exact rf_fin _ (fin_same _ _) ⟨rfl, rfl⟩
 refine rf_s _ rfl <| rf_gt (AV.int .u8 a0) (fun hg => rfl) <| rf_gt (AV.bool (decide (a0 ≤ 57))) (fun hg => by (try rw [hg]); exact rfl) <| rf_s _ (pk_and _ _) ?_
 refine rf_cb (c := ((decide (48 ≤ a0)) && (decide (a0 ≤ 57)))) (fun c1 => ?_) (fun c1 => ?_)
 ·exact rf_fin _ (fin_same _ _) ⟨rfl, rfl⟩
 exact rf_fin _ (fin_same _ _) ⟨rfl, rfl⟩

noncomputable def t_pick_words (a0 : ByteArray) : Option (List TokenD) :=
 whE (fun (s3 : (Int × (List TokenD))) => (show Option (Lr (Int × (List TokenD)) (List TokenD) Unit) from
   if s3.1 < (a0.size : Int) then
    (tSx a0 s3.1).bind fun x9 =>
    if x9 = 32 then
     some (.go (IntKind.i64.wrap (s3.1 + 1), s3.2))
    else
    (tSx a0 s3.1).bind fun x10 =>
    (t_pick_class x10).bind fun r11 =>
    whE (fun (s12 : Int) => (show Option (Lr Int Int Unit) from
      (if ((decide (0 < r11)) && (decide (s12 < (a0.size : Int)))) = true then tSx a0 s12 else some 0).bind fun x18 =>
      (if ((decide (0 < r11)) && (decide (s12 < (a0.size : Int)))) = true then t_pick_class x18 else some default).bind fun r19 =>
      if (((decide (0 < r11)) && (decide (s12 < (a0.size : Int)))) && (decide (r19 = r11))) = true then
       some (.go (IntKind.i64.wrap (s12 + 1)))
      else
      some (.brk s12))) (IntKind.i64.wrap (s3.1 + 1)) (fun b13 =>
     (tSz a0 (some s3.1) (some b13)).bind fun x21 =>
     (if ((decide (0 < r11)) && (decide (0 < s3.1))) = true then tSx a0 (IntKind.i64.wrap (s3.1 - 1)) else some 0).bind fun x22 =>
     (if ((decide (0 < r11)) && (decide (0 < s3.1))) = true then t_pick_class x22 else some default).bind fun r23 =>
     if s3.2.length + ([(⟨x21, s3.1, (((decide (0 < r11)) && (decide (0 < s3.1))) && (decide (0 < r23)))⟩ : TokenD)] : (List TokenD)).length ≤ 4398046511104 then
     some (.go (b13, (s3.2 ++ ([(⟨x21, s3.1, (((decide (0 < r11)) && (decide (0 < s3.1))) && (decide (0 < r23)))⟩ : TokenD)] : (List TokenD)))))
     else none) (fun b13 =>
     none)
   else
   some (.brk s3.2))) (0, ([] : List TokenD)) (fun b4 =>
  if b4.length + ([(⟨(⟨#[]⟩ : ByteArray), (a0.size : Int), false⟩ : TokenD)] : (List TokenD)).length ≤ 4398046511104 then
  some (b4 ++ ([(⟨(⟨#[]⟩ : ByteArray), (a0.size : Int), false⟩ : TokenD)] : (List TokenD)))
  else none) (fun b4 =>
  none)
theorem h_pick_words {a0 : ByteArray} {σ : Heap} {r : (List TokenD)} (h : t_pick_words a0 = some r) : m_pick_words [(AV.str a0)] σ = some ((sl 3 cToken r), σ) := by
 refine rf_wrap1 (f := r_pick_words) (y0 := (AV.str a0)) (enc := fun r : (List TokenD) => (sl 3 cToken r)) (T := t_pick_words a0) rfl rfl ?_ r h
 unfold r_pick_words t_pick_words
 have hp1 : Hp σ σ [] := hp_nil σ
 have hp2 : Hp σ σ [(AV.nsl, (Ct.s 3 (List.map cToken ([] : List TokenD))))] := hp_nsl hp1 3
 refine rf_wh (B := (List TokenD)) (R := Unit) (fun (s3 : (Int × (List TokenD))) v w5 => ∃ hh0, v = [hh0, (AV.int .i64 s3.1)] ∧ Hp σ w5 [(hh0, (Ct.s 3 (List.map cToken s3.2)))]) (fun (b4 : (List TokenD)) (q : LS) => ∃ u4 hh0 w6, q = ((AX.exit 0), ([hh0, u4] : List AV), w6) ∧ Hp σ w6 [(hh0, (Ct.s 3 (List.map cToken b4)))]) (fun (b4 : Unit) (q : LS) => False) ?_ ⟨_, rfl, hp2⟩ ?_ ?_
 ·intro s3 v w5 hI
  obtain ⟨hh0, rfl, hp7⟩ := hI
  refine rf_s _ rfl <| rf_s _ rfl ?_
  refine rf_c (p := s3.1 < (a0.size : Int)) (fun c29 => ?_) (fun c29 => ?_)
  ·refine rf_o (fun x9 : Int => (AV.int .u8 x9)) (fun x9 hx9 => sx_at hx9) (fun x9 hx9 => ?_)
   refine rf_s _ (aEq_u8 _ _) ?_
   refine rf_c (p := x9 = 32) (fun c28 => ?_) (fun c28 => ?_)
   ·refine rf_s _ rfl ?_
    exact rf_ret (rnd_go ⟨_, rfl, hp7⟩)
   refine rf_s _ rfl ?_
   refine rf_o (fun x10 : Int => (AV.int .u8 x10)) (fun x10 hx10 => sx_at hx10) (fun x10 hx10 => ?_)
   refine rf_o (fun r11 : Int => ((AV.int .i64 r11), w5)) (fun r11 hr11 => h_pick_class hr11) (fun r11 hr11 => ?_)
   refine rf_wh (B := Int) (R := Unit) (fun (s12 : Int) v w14 => v = [(AV.int .i64 s12)] ∧ Hp σ w14 [(hh0, (Ct.s 3 (List.map cToken s3.2)))]) (fun (b13 : Int) (q : LS) => ∃ w15, q = ((AX.exit 2), ([(AV.int .i64 b13)] : List AV), w15) ∧ Hp σ w15 [(hh0, (Ct.s 3 (List.map cToken s3.2)))]) (fun (b13 : Unit) (q : LS) => False) ?_ ⟨rfl, hp7⟩ ?_ ?_
   ·intro s12 v w14 hI
    obtain ⟨rfl, hp16⟩ := hI
    refine rf_s _ rfl <| rf_gt (AV.int .i64 s12) (fun hg => rfl) <| rf_gt (AV.str a0) (fun hg => rfl) <| rf_gt (AV.int .i64 (a0.size : Int)) (fun hg => by (try rw [hg]); exact rfl) <| rf_gt (AV.bool (decide (s12 < (a0.size : Int)))) (fun hg => by (try rw [hg]); exact rfl) <| rf_s _ (pk_and _ _) <| rf_gt (AV.str a0) (fun hg => rfl) <| rf_gt (AV.int .i64 s12) (fun hg => rfl) ?_
    refine rf_gto (ω := Int) (fun x18 => (AV.int .u8 x18)) (fun hg x18 hx18 => by (try rw [hg]); exact sx_at hx18) (fun x18 hx18 => ?_)
    refine rf_gto (ω := Int) (fun r19 => (AV.int .i64 r19)) (fun hg r19 hr19 => by (try rw [hg]); exact (quiet_of (h_pick_class hr19))) (fun r19 hr19 => ?_)
    refine rf_gt (AV.int .i64 r11) (fun hg => rfl) <| rf_gt (AV.bool (decide (r19 = r11))) (fun hg => by (try rw [hg]); exact (aEq _ _ _)) <| rf_s _ (pk_and _ _) ?_
    refine rf_cb (c := (((decide (0 < r11)) && (decide (s12 < (a0.size : Int)))) && (decide (r19 = r11)))) (fun c20 => ?_) (fun c20 => ?_)
    ·refine rf_s _ rfl ?_
     exact rf_ret (rnd_go ⟨rfl, hp16⟩)
    exact rf_ret (rnd_brk (by simp) ⟨_, rfl, hp16⟩)
   ·intro b13 q hq
    obtain ⟨w15, rfl, hp17⟩ := hq
    refine rf_bt rfl ?_
    refine rf_o (fun x21 : ByteArray => (AV.str x21)) (fun x21 hx21 => (slz_at hx21)) (fun x21 hx21 => ?_)
    refine rf_s _ rfl <| rf_gt (AV.int .i64 s3.1) (fun hg => rfl) <| rf_gt (AV.bool (decide (0 < s3.1))) (fun hg => by (try rw [hg]); exact rfl) <| rf_s _ (pk_and _ _) <| rf_gt (AV.str a0) (fun hg => rfl) <| rf_gt (AV.int .i64 s3.1) (fun hg => rfl) <| rf_gt (AV.int .i64 (IntKind.i64.wrap (s3.1 - 1))) (fun hg => by (try rw [hg]); exact rfl) ?_
    refine rf_gto (ω := Int) (fun x22 => (AV.int .u8 x22)) (fun hg x22 hx22 => by (try rw [hg]); exact sx_at hx22) (fun x22 hx22 => ?_)
    refine rf_gto (ω := Int) (fun r23 => (AV.int .i64 r23)) (fun hg r23 hr23 => by (try rw [hg]); exact (quiet_of (h_pick_class hr23))) (fun r23 hr23 => ?_)
    refine rf_gt (AV.bool (decide (0 < r23))) (fun hg => by (try rw [hg]); exact rfl) <| rf_s _ (pk_and _ _) <| rf_s (AV.agg (cToken (⟨x21, s3.1, (((decide (0 < r11)) && (decide (0 < s3.1))) && (decide (0 < r23)))⟩ : TokenD))) rfl <| rf_s (sl 3 cToken ([(⟨x21, s3.1, (((decide (0 < r11)) && (decide (0 < s3.1))) && (decide (0 < r23)))⟩ : TokenD)] : (List TokenD))) rfl ?_
    refine rf_tq (fun hm => ?_)
    obtain ⟨h27, w24, e26, hp25⟩ := hp_appT (c := cToken) (ys := ([(⟨x21, s3.1, (((decide (0 < r11)) && (decide (0 < s3.1))) && (decide (0 < r23)))⟩ : TokenD)] : (List TokenD))) (most := 4398046511104) hp17 0 rfl hm
    change Hp σ w24 [(h27, (Ct.s 3 (List.map cToken (s3.2 ++ ([(⟨x21, s3.1, (((decide (0 < r11)) && (decide (0 < s3.1))) && (decide (0 < r23)))⟩ : TokenD)] : (List TokenD))))))] at hp25
    refine rf_s _ e26 ?_
    exact rf_ret (rnd_go ⟨_, rfl, hp25⟩)
   ·intro b13 q hq
    exact False.elim hq
  exact rf_ret (rnd_brk (by simp) ⟨_, _, _, rfl, hp7⟩)
 ·intro b4 q hq
  obtain ⟨u4, hh0, w6, rfl, hp8⟩ := hq
  refine rf_bt rfl <| rf_s _ rfl <| rf_s (AV.agg (cToken (⟨(⟨#[]⟩ : ByteArray), (a0.size : Int), false⟩ : TokenD))) rfl <| rf_s (sl 3 cToken ([(⟨(⟨#[]⟩ : ByteArray), (a0.size : Int), false⟩ : TokenD)] : (List TokenD))) rfl ?_
  refine rf_tq (fun hm => ?_)
  obtain ⟨h33, w30, e32, hp31⟩ := hp_appT (c := cToken) (ys := ([(⟨(⟨#[]⟩ : ByteArray), (a0.size : Int), false⟩ : TokenD)] : (List TokenD))) (most := 4398046511104) hp8 0 rfl hm
  change Hp σ w30 [(h33, (Ct.s 3 (List.map cToken (b4 ++ ([(⟨(⟨#[]⟩ : ByteArray), (a0.size : Int), false⟩ : TokenD)] : (List TokenD))))))] at hp31
  refine rf_s _ e32 ?_
  obtain ⟨ra0, fa0, fb0⟩ := fzv_own (c := cToken) (l := (b4 ++ ([(⟨(⟨#[]⟩ : ByteArray), (a0.size : Int), false⟩ : TokenD)] : (List TokenD)))) hp31 (k := 0) rfl fz_cToken
  exact rf_fin _ (hp_fin hp31 fa0) ⟨(nn_own' fb0), rfl⟩
 ·intro b4 q hq
  exact False.elim hq

noncomputable def t_R4_wordsOf (a0 : ByteArray) : Option (List WordD) :=
 whE (fun (s3 : (Int × (List WordD))) => (show Option (Lr (Int × (List WordD)) (List WordD) Unit) from
   if s3.1 < (a0.size : Int) then
    (tSx a0 s3.1).bind fun x9 =>
    (t_R4_kindOf x9).bind fun r10 =>
    whE (fun (s11 : Int) => (show Option (Lr Int Int Unit) from
      (if (((decide (¬ (r10 = 0))) && (decide (¬ (r10 = 3)))) && (decide (s11 < (a0.size : Int)))) = true then tSx a0 s11 else some 0).bind fun x17 =>
      (if (((decide (¬ (r10 = 0))) && (decide (¬ (r10 = 3)))) && (decide (s11 < (a0.size : Int)))) = true then t_R4_kindOf x17 else some default).bind fun r18 =>
      if ((((decide (¬ (r10 = 0))) && (decide (¬ (r10 = 3)))) && (decide (s11 < (a0.size : Int)))) && (decide (r18 = r10))) = true then
       some (.go (IntKind.i64.wrap (s11 + 1)))
      else
      some (.brk s11))) (IntKind.i64.wrap (s3.1 + 1)) (fun b12 =>
     (show Option (List WordD) from
       if ¬ (r10 = 0) then
        (tSz a0 (some s3.1) (some b12)).bind fun x20 =>
        (if ((decide (0 < s3.1)) && (decide (¬ (r10 = 3)))) = true then tSx a0 (IntKind.i64.wrap (s3.1 - 1)) else some 0).bind fun x21 =>
        (if ((decide (0 < s3.1)) && (decide (¬ (r10 = 3)))) = true then t_R4_kindOf x21 else some default).bind fun r22 =>
        (show Option WordD from
          if (((decide (0 < s3.1)) && (decide (¬ (r10 = 3)))) && (decide (IntKind.i64.wrap (r22 + r10) = 3))) = true then
           (tCat (⟨#[32]⟩ : ByteArray) ((⟨x20, s3.1⟩ : WordD).text)).bind fun x23 =>
           some ({ (⟨x20, s3.1⟩ : WordD) with text := x23 })
          else
          some (⟨x20, s3.1⟩ : WordD)).bind fun j25 =>
        if s3.2.length + ([j25] : (List WordD)).length ≤ 5864062014805 then
        some (s3.2 ++ ([j25] : (List WordD)))
        else none
       else
       some s3.2).bind fun j33 =>
     some (.go (b12, j33))) (fun b12 =>
     none)
   else
   some (.brk s3.2))) (0, ([] : List WordD)) (fun b4 =>
  if b4.length + ([(⟨(⟨#[]⟩ : ByteArray), (a0.size : Int)⟩ : WordD)] : (List WordD)).length ≤ 5864062014805 then
  some (b4 ++ ([(⟨(⟨#[]⟩ : ByteArray), (a0.size : Int)⟩ : WordD)] : (List WordD)))
  else none) (fun b4 =>
  none)
theorem h_R4_wordsOf {a0 : ByteArray} {σ : Heap} {r : (List WordD)} (h : t_R4_wordsOf a0 = some r) : m_R4_wordsOf [(AV.str a0)] σ = some ((sl 2 cWord r), σ) := by
 refine rf_wrap1 (f := r_R4_wordsOf) (y0 := (AV.str a0)) (enc := fun r : (List WordD) => (sl 2 cWord r)) (T := t_R4_wordsOf a0) rfl rfl ?_ r h
 unfold r_R4_wordsOf t_R4_wordsOf
 have hp1 : Hp σ σ [] := hp_nil σ
 have hp2 : Hp σ σ [(AV.nsl, (Ct.s 2 (List.map cWord ([] : List WordD))))] := hp_nsl hp1 2
 refine rf_wh (B := (List WordD)) (R := Unit) (fun (s3 : (Int × (List WordD))) v w5 => ∃ hh0, v = [hh0, (AV.int .i64 s3.1)] ∧ Hp σ w5 [(hh0, (Ct.s 2 (List.map cWord s3.2)))]) (fun (b4 : (List WordD)) (q : LS) => ∃ u4 hh0 w6, q = ((AX.exit 0), ([hh0, u4] : List AV), w6) ∧ Hp σ w6 [(hh0, (Ct.s 2 (List.map cWord b4)))]) (fun (b4 : Unit) (q : LS) => False) ?_ ⟨_, rfl, hp2⟩ ?_ ?_
 ·intro s3 v w5 hI
  obtain ⟨hh0, rfl, hp7⟩ := hI
  refine rf_s _ rfl <| rf_s _ rfl ?_
  refine rf_c (p := s3.1 < (a0.size : Int)) (fun c36 => ?_) (fun c36 => ?_)
  ·refine rf_o (fun x9 : Int => (AV.int .u8 x9)) (fun x9 hx9 => sx_at hx9) (fun x9 hx9 => ?_)
   refine rf_o (fun r10 : Int => ((AV.int .i64 r10), w5)) (fun r10 hr10 => h_R4_kindOf hr10) (fun r10 hr10 => ?_)
   refine rf_s _ rfl ?_
   refine rf_wh (B := Int) (R := Unit) (fun (s11 : Int) v w13 => v = [(AV.int .i64 s11)] ∧ Hp σ w13 [(hh0, (Ct.s 2 (List.map cWord s3.2)))]) (fun (b12 : Int) (q : LS) => ∃ w14, q = ((AX.exit 2), ([(AV.int .i64 b12)] : List AV), w14) ∧ Hp σ w14 [(hh0, (Ct.s 2 (List.map cWord s3.2)))]) (fun (b12 : Unit) (q : LS) => False) ?_ ⟨rfl, hp7⟩ ?_ ?_
   ·intro s11 v w13 hI
    obtain ⟨rfl, hp15⟩ := hI
    refine rf_s _ (aNe _ _ _) <| rf_gt (AV.int .i64 r10) (fun hg => rfl) <| rf_gt (AV.bool (decide (¬ (r10 = 3)))) (fun hg => by (try rw [hg]); exact (aNe _ _ _)) <| rf_s _ (pk_and _ _) <| rf_gt (AV.int .i64 s11) (fun hg => rfl) <| rf_gt (AV.str a0) (fun hg => rfl) <| rf_gt (AV.int .i64 (a0.size : Int)) (fun hg => by (try rw [hg]); exact rfl) <| rf_gt (AV.bool (decide (s11 < (a0.size : Int)))) (fun hg => by (try rw [hg]); exact rfl) <| rf_s _ (pk_and _ _) <| rf_gt (AV.str a0) (fun hg => rfl) <| rf_gt (AV.int .i64 s11) (fun hg => rfl) ?_
    refine rf_gto (ω := Int) (fun x17 => (AV.int .u8 x17)) (fun hg x17 hx17 => by (try rw [hg]); exact sx_at hx17) (fun x17 hx17 => ?_)
    refine rf_gto (ω := Int) (fun r18 => (AV.int .i64 r18)) (fun hg r18 hr18 => by (try rw [hg]); exact (quiet_of (h_R4_kindOf hr18))) (fun r18 hr18 => ?_)
    refine rf_gt (AV.int .i64 r10) (fun hg => rfl) <| rf_gt (AV.bool (decide (r18 = r10))) (fun hg => by (try rw [hg]); exact (aEq _ _ _)) <| rf_s _ (pk_and _ _) ?_
    refine rf_cb (c := ((((decide (¬ (r10 = 0))) && (decide (¬ (r10 = 3)))) && (decide (s11 < (a0.size : Int)))) && (decide (r18 = r10)))) (fun c19 => ?_) (fun c19 => ?_)
    ·refine rf_s _ rfl ?_
     exact rf_ret (rnd_go ⟨rfl, hp15⟩)
    exact rf_ret (rnd_brk (by simp) ⟨_, rfl, hp15⟩)
   ·intro b12 q hq
    obtain ⟨w14, rfl, hp16⟩ := hq
    refine rf_bt rfl <| rf_s _ (aNe _ _ _) ?_
    refine rf_b (ω := (List WordD)) (fun j33 a => ∃ hh0 w34, a = (([hh0] : List AV), w34) ∧ Hp σ w34 [(hh0, (Ct.s 2 (List.map cWord j33)))]) (
      by
       refine rf_c (p := ¬ (r10 = 0)) (fun c32 => ?_) (fun c32 => ?_)
       ·refine rf_o (fun x20 : ByteArray => (AV.str x20)) (fun x20 hx20 => (slz_at hx20)) (fun x20 hx20 => ?_)
        refine rf_s (AV.agg (cWord (⟨x20, s3.1⟩ : WordD))) rfl <| rf_s (cWord (⟨x20, s3.1⟩ : WordD)) rfl <| rf_s _ (sp_cWord _ _ rfl) <| rf_s _ rfl <| rf_gt (AV.int .i64 r10) (fun hg => rfl) <| rf_gt (AV.bool (decide (¬ (r10 = 3)))) (fun hg => by (try rw [hg]); exact (aNe _ _ _)) <| rf_s _ (pk_and _ _) <| rf_gt (AV.str a0) (fun hg => rfl) <| rf_gt (AV.int .i64 s3.1) (fun hg => rfl) <| rf_gt (AV.int .i64 (IntKind.i64.wrap (s3.1 - 1))) (fun hg => by (try rw [hg]); exact rfl) ?_
        refine rf_gto (ω := Int) (fun x21 => (AV.int .u8 x21)) (fun hg x21 hx21 => by (try rw [hg]); exact sx_at hx21) (fun x21 hx21 => ?_)
        refine rf_gto (ω := Int) (fun r22 => (AV.int .i64 r22)) (fun hg r22 hr22 => by (try rw [hg]); exact (quiet_of (h_R4_kindOf hr22))) (fun r22 hr22 => ?_)
        refine rf_gt (AV.int .i64 r10) (fun hg => rfl) <| rf_gt (AV.int .i64 (IntKind.i64.wrap (r22 + r10))) (fun hg => by (try rw [hg]); exact rfl) <| rf_gt (AV.bool (decide (IntKind.i64.wrap (r22 + r10) = 3))) (fun hg => by (try rw [hg]); exact (aEq _ _ _)) <| rf_s _ (pk_and _ _) ?_
        refine rf_b (ω := WordD) (fun j25 a => ∃ w26, a = (([(AV.lbx (cWord j25))] : List AV), w26) ∧ Hp σ w26 [(hh0, (Ct.s 2 (List.map cWord s3.2)))]) (
          by
           refine rf_cb (c := (((decide (0 < s3.1)) && (decide (¬ (r10 = 3)))) && (decide (IntKind.i64.wrap (r22 + r10) = 3)))) (fun c24 => ?_) (fun c24 => ?_)
           ·refine rf_s (AV.str ((⟨x20, s3.1⟩ : WordD).text)) rfl ?_
            refine rf_o (fun x23 : ByteArray => (AV.str x23)) (fun x23 hx23 => (cat_at hx23)) (fun x23 hx23 => ?_)
            refine rf_s [(AV.str x23)] rfl <| rf_s (cWord ({ (⟨x20, s3.1⟩ : WordD) with text := x23 })) rfl ?_
            exact rf_ret ⟨_, rfl, hp16⟩
           exact rf_ret ⟨_, rfl, hp16⟩
          ) (fun j25 a ha => ?_)
        obtain ⟨w26, rfl, hp27⟩ := ha
        refine rf_s _ rfl <| rf_s (sl 2 cWord ([j25] : (List WordD))) rfl ?_
        refine rf_tq (fun hm => ?_)
        obtain ⟨h31, w28, e30, hp29⟩ := hp_appT (c := cWord) (ys := ([j25] : (List WordD))) (most := 5864062014805) hp27 0 rfl hm
        change Hp σ w28 [(h31, (Ct.s 2 (List.map cWord (s3.2 ++ ([j25] : (List WordD))))))] at hp29
        refine rf_s _ e30 ?_
        exact rf_ret ⟨_, _, rfl, hp29⟩
       exact rf_ret ⟨_, _, rfl, hp16⟩
      ) (fun j33 a ha => ?_)
    obtain ⟨hh0, w34, rfl, hp35⟩ := ha
    exact rf_ret (rnd_go ⟨_, rfl, hp35⟩)
   ·intro b12 q hq
    exact False.elim hq
  exact rf_ret (rnd_brk (by simp) ⟨_, _, _, rfl, hp7⟩)
 ·intro b4 q hq
  obtain ⟨u4, hh0, w6, rfl, hp8⟩ := hq
  refine rf_bt rfl <| rf_s _ rfl <| rf_s (AV.agg (cWord (⟨(⟨#[]⟩ : ByteArray), (a0.size : Int)⟩ : WordD))) rfl <| rf_s (sl 2 cWord ([(⟨(⟨#[]⟩ : ByteArray), (a0.size : Int)⟩ : WordD)] : (List WordD))) rfl ?_
  refine rf_tq (fun hm => ?_)
  obtain ⟨h40, w37, e39, hp38⟩ := hp_appT (c := cWord) (ys := ([(⟨(⟨#[]⟩ : ByteArray), (a0.size : Int)⟩ : WordD)] : (List WordD))) (most := 5864062014805) hp8 0 rfl hm
  change Hp σ w37 [(h40, (Ct.s 2 (List.map cWord (b4 ++ ([(⟨(⟨#[]⟩ : ByteArray), (a0.size : Int)⟩ : WordD)] : (List WordD))))))] at hp38
  refine rf_s _ e39 ?_
  obtain ⟨ra0, fa0, fb0⟩ := fzv_own (c := cWord) (l := (b4 ++ ([(⟨(⟨#[]⟩ : ByteArray), (a0.size : Int)⟩ : WordD)] : (List WordD)))) hp38 (k := 0) rfl fz_cWord
  exact rf_fin _ (hp_fin hp38 fa0) ⟨(nn_own' fb0), rfl⟩
 ·intro b4 q hq
  exact False.elim hq
end Go.Proofs.YtfalbgflabajbaaDoor

namespace Go.Proofs.YtfalbgflabajbaaDoor
set_option linter.unusedSectionVars false
set_option linter.unusedVariables false
set_option linter.unusedSimpArgs false
section
variable {S B R γ : Type}
theorem wz_go {body : S → Option (Lr S B R)} {s s' : S} {K1 : B → Option γ} {K2 : R → Option γ} (h : body s = some (.go s')) : whE body s K1 K2 = whE body s' K1 K2 := by
 unfold whE
 rw [whL_step body s, h]
 rfl
theorem wz_brk {body : S → Option (Lr S B R)} {s : S} {b : B} {K1 : B → Option γ} {K2 : R → Option γ} (h : body s = some (.brk b)) : whE body s K1 K2 = K1 b := by
 unfold whE
 rw [whL_step body s, h]
 rfl
theorem wz_while {α : Type} {l : List α} {pr : α → Bool} {body : Int → Option (Lr Int Int R)} {K1 : Int → Option γ} {K2 : R → Option γ} (hb : ∀ (i : Nat) x, l[i]? = some x → body (i : Int) = some (if pr x = true then .go ((i + 1 : Nat) : Int) else .brk (i : Int)))
  (he : body (l.length : Int) = some (.brk (l.length : Int))) : ∀ (k i : Nat), l.length - i ≤ k → i ≤ l.length → whE body (i : Int) K1 K2 = K1 ((i + ((l.drop i).takeWhile pr).length : Nat) : Int) := by
 intro k
 induction k with
 | zero =>
  intro i hk hle
  have : i = l.length := by omega
  subst this
  rw [wz_brk he, List.drop_of_length_le (Nat.le_refl _)]
  rfl
 | succ k ih =>
  intro i hk hle
  by_cases hi : i < l.length
  ·have hx : l[i]? = some l[i] := List.getElem?_eq_getElem hi
   have hbx := hb i _ hx
   rw [List.drop_eq_getElem_cons hi, List.takeWhile_cons]
   cases h : pr l[i]
   ·rw [h] at hbx
    rw [wz_brk hbx]; simp
   ·rw [h, if_pos rfl] at hbx
    rw [wz_go hbx, ih (i + 1) (by omega) (by omega)]
    simp only [if_true, List.length_cons]
    congr 2; omega
  ·have : i = l.length := by omega
   subst this
   rw [wz_brk he, List.drop_of_length_le (Nat.le_refl _)]
   rfl
end
theorem zSz {l : List UInt8} {a b : Nat} (h1 : a ≤ b) (h2 : b ≤ l.length) : tSz (bZ l) (some (a : Int)) (some (b : Int)) = some (bZ ((l.drop a).take (b - a))) := by
 have hs : (bZ l).size = l.length := by simp [bZ, ByteArray.size]
 unfold tSz
 simp only [Option.getD_some, hs]
 rw [if_pos ⟨by omega, by omega, by omega⟩]
 congr 1
 apply ByteArray.ext
 simp [bZ]
theorem zSx {l : List UInt8} {k : Nat} {x : UInt8} (h : l[k]? = some x) : tSx (bZ l) (k : Int) = some (x.toNat : Int) := by
 have hs : (bZ l).size = l.length := by simp [bZ, ByteArray.size]
 obtain ⟨hk, rfl⟩ := List.getElem?_eq_some_iff.1 h
 unfold tSx
 rw [dif_pos ⟨by omega, by rw [hs]; omega⟩]
 rfl
theorem zsz (l : List UInt8) : (bZ l).size = l.length := by simp [bZ, ByteArray.size]
theorem cls_t (b : UInt8) : t_pick_class (b.toNat : Int) = some (clsB b : Int) := by
 unfold t_pick_class clsB
 by_cases h1 : 97 ≤ b.toNat ∧ b.toNat ≤ 122
 ·rw [if_pos h1, if_pos (by simp; omega)]; rfl
 ·rw [if_neg h1, if_neg (by simp; omega)]
  by_cases h2 : 48 ≤ b.toNat ∧ b.toNat ≤ 57
  ·rw [if_pos h2, if_pos (by simp; omega)]; rfl
  ·rw [if_neg h2, if_neg (by simp; omega)]; rfl
theorem kind_t (b : UInt8) : t_R4_kindOf (b.toNat : Int) = some (if b = 32 then 0 else if clsB b = 0 then 3 else (clsB b : Int)) := by
 unfold t_R4_kindOf clsB
 by_cases h0 : b = 32
 ·subst h0; rfl
 ·have h0' : ¬ ((b.toNat : Int) = 32) := fun e => h0 (UInt8.toNat_inj.1 (show b.toNat = 32 by omega))
  rw [if_neg h0', if_neg h0]
  by_cases h1 : 97 ≤ b.toNat ∧ b.toNat ≤ 122
  ·rw [if_pos h1, if_pos (by simp; omega)]; rfl
  ·rw [if_neg h1, if_neg (by simp; omega)]
   by_cases h2 : 48 ≤ b.toNat ∧ b.toNat ≤ 57
   ·rw [if_pos h2, if_pos (by simp; omega)]; rfl
   ·rw [if_neg h2, if_neg (by simp; omega)]; rfl
def toksI : Nat → Nat → Nat → List UInt8 → List TokD
 | _, pos, _, [] => []
 | 0, pos, _, _ => []
 | f + 1, pos, prev, b :: r =>
  if b = 32 then toksI f (pos + 1) 0 r
  else ⟨(b :: r).take (runB b r + 1), pos, decide (0 < clsB b ∧ 0 < prev)⟩ :: toksI f (pos + runB b r + 1) (clsB b) (r.drop (runB b r))
theorem runB_le (b : UInt8) (r : List UInt8) : runB b r ≤ r.length := by
 unfold runB
 split
 ·omega
 ·exact (List.takeWhile_sublist _).length_le
theorem toksP_eq : ∀ (f pos prev : Nat) (r : List UInt8), r.length ≤ f → toksP f pos prev r = toksI f pos prev r ++ [⟨[], pos + r.length, false⟩] := by
 intro f
 induction f with
 | zero =>
  intro pos prev r h
  have : r = [] := List.length_eq_zero_iff.1 (by omega)
  subst this
  rw [toksP, toksI]; rfl
 | succ f ih =>
  intro pos prev r h
  cases r with
  | nil => rw [toksP, toksI]; rfl
  | cons b r =>
   rw [toksP, toksI]
   have hl : (b :: r).length = r.length + 1 := rfl
   split
   ·rw [ih _ _ _ (by omega), hl, show pos + 1 + r.length = pos + (r.length + 1) by omega]
   ·have hr := runB_le b r
    rw [ih _ _ _ (by rw [List.length_drop]; omega), List.length_drop, hl, show pos + runB b r + 1 + (r.length - runB b r) = pos + (r.length + 1) by omega]
    rfl
theorem toksI_len : ∀ (f pos prev : Nat) (r : List UInt8), (toksI f pos prev r).length ≤ r.length := by
 intro f
 induction f with
 | zero => intro pos prev r; cases r <;> simp [toksI]
 | succ f ih =>
  intro pos prev r
  cases r with
  | nil => rw [toksI]; simp
  | cons b r =>
   rw [toksI]
   split
   ·have := ih (pos + 1) 0 r; simp only [List.length_cons]; omega
   ·have := ih (pos + runB b r + 1) (clsB b) (r.drop (runB b r))
    rw [List.length_drop] at this
    simp only [List.length_cons]; omega
def tkT (t : TokD) : TokenD := ⟨bZ t.text, t.pos, t.touch⟩
theorem run_w (b : UInt8) (r : List UInt8) : (r.takeWhile fun c => decide (0 < clsB b) && decide (clsB c = clsB b)).length = runB b r := by
 unfold runB
 by_cases h : clsB b = 0
 ·rw [if_pos h]
  cases r with
  | nil => rfl
  | cons c r => rw [List.takeWhile_cons, h]; simp
 ·rw [if_neg h, show (fun c => decide (0 < clsB b) && decide (clsB c = clsB b)) = fun c => decide (clsB c = clsB b) from funext fun c => by rw [decide_eq_true (show 0 < clsB b by omega), Bool.true_and]]
theorem words_t {l : List UInt8} (hl : l.length ≤ 4000) : t_pick_words (bZ l) = some ((toksP l.length 0 0 l).map tkT) := by
 unfold t_pick_words
 have key : ∀ (f i prev : Nat) (acc : List TokenD) (K1 : List TokenD → Option (List TokenD)) (K2 : Unit → Option (List TokenD)), l.length - i ≤ f → i ≤ l.length → acc.length ≤ i → prev = (if i = 0 then 0 else clsB (l.getD (i - 1) 0)) →
   whE (fun (s3 : (Int × (List TokenD))) => (show Option (Lr (Int × (List TokenD)) (List TokenD) Unit) from
   if s3.1 < ((bZ l).size : Int) then
    (tSx (bZ l) s3.1).bind fun x9 =>
    if x9 = 32 then
     some (.go (IntKind.i64.wrap (s3.1 + 1), s3.2))
    else
    (tSx (bZ l) s3.1).bind fun x10 =>
    (t_pick_class x10).bind fun r11 =>
    whE (fun (s12 : Int) => (show Option (Lr Int Int Unit) from
      (if ((decide (0 < r11)) && (decide (s12 < ((bZ l).size : Int)))) = true then tSx (bZ l) s12 else some 0).bind fun x18 =>
      (if ((decide (0 < r11)) && (decide (s12 < ((bZ l).size : Int)))) = true then t_pick_class x18 else some default).bind fun r19 =>
      if (((decide (0 < r11)) && (decide (s12 < ((bZ l).size : Int)))) && (decide (r19 = r11))) = true then
       some (.go (IntKind.i64.wrap (s12 + 1)))
      else
      some (.brk s12))) (IntKind.i64.wrap (s3.1 + 1)) (fun b13 =>
     (tSz (bZ l) (some s3.1) (some b13)).bind fun x21 =>
     (if ((decide (0 < r11)) && (decide (0 < s3.1))) = true then tSx (bZ l) (IntKind.i64.wrap (s3.1 - 1)) else some 0).bind fun x22 =>
     (if ((decide (0 < r11)) && (decide (0 < s3.1))) = true then t_pick_class x22 else some default).bind fun r23 =>
     if s3.2.length + ([(⟨x21, s3.1, (((decide (0 < r11)) && (decide (0 < s3.1))) && (decide (0 < r23)))⟩ : TokenD)] : (List TokenD)).length ≤ 4398046511104 then
     some (.go (b13, (s3.2 ++ ([(⟨x21, s3.1, (((decide (0 < r11)) && (decide (0 < s3.1))) && (decide (0 < r23)))⟩ : TokenD)] : (List TokenD)))))
     else none) (fun b13 =>
     none)
   else
   some (.brk s3.2))) ((i : Int), acc) K1 K2 = K1 (acc ++ (toksI f i prev (l.drop i)).map tkT) := by
  intro f
  induction f with
  | zero =>
   intro i prev acc K1 K2 hf hi ha hp
   have : i = l.length := by omega
   subst this
   rw [List.drop_of_length_le (Nat.le_refl _), toksI, wz_brk (b := acc)]
   ·simp
   ·rw [zsz]; simp
  | succ f ih =>
   intro i prev acc K1 K2 hf hi ha hp
   by_cases hlt : i < l.length
   ·have hx : l[i]? = some l[i] := List.getElem?_eq_getElem hlt
    have hd := List.drop_eq_getElem_cons hlt
    generalize l[i] = b at *
    have hw : IntKind.i64.wrap ((i : Int) + 1) = ((i + 1 : Nat) : Int) := by rw [wrap64 (by unfold inI; omega)]; omega
    by_cases h32 : b = 32
    ·rw [wz_go (s' := (((i + 1 : Nat) : Int), acc)), ih (i + 1) 0 acc K1 K2 (by omega) (by omega) (by omega), hd, toksI, if_pos h32]
     ·rw [if_neg (by omega), Nat.add_sub_cancel, List.getD_eq_getElem?_getD, hx, h32]; rfl
     ·simp only
      rw [if_pos (by rw [zsz]; omega), zSx hx, Option.bind_some, h32, hw]; rfl
    ·have hb32 : ¬ ((b.toNat : Int) = 32) := fun e => h32 (UInt8.toNat_inj.1 (show b.toNat = 32 by omega))
     have hrl := runB_le b (l.drop (i + 1))
     rw [List.length_drop] at hrl
     have htw := run_w b (l.drop (i + 1))
     have e21 : tSz (bZ l) (some (i : Int)) (some ((i + 1 + runB b (l.drop (i + 1)) : Nat) : Int)) = some (bZ ((b :: l.drop (i + 1)).take (runB b (l.drop (i + 1)) + 1))) := by
      rw [zSz (by omega) (by omega), hd, show i + 1 + runB b (l.drop (i + 1)) - i = runB b (l.drop (i + 1)) + 1 by omega]
     have hin : ∀ {γ : Type} (K1 : Int → Option γ) (K2 : Unit → Option γ), whE (fun (s12 : Int) => (show Option (Lr Int Int Unit) from
      (if ((decide (0 < (clsB b : Int))) && (decide (s12 < ((bZ l).size : Int)))) = true then tSx (bZ l) s12 else some 0).bind fun x18 =>
      (if ((decide (0 < (clsB b : Int))) && (decide (s12 < ((bZ l).size : Int)))) = true then t_pick_class x18 else some default).bind fun r19 =>
      if (((decide (0 < (clsB b : Int))) && (decide (s12 < ((bZ l).size : Int)))) && (decide (r19 = (clsB b : Int)))) = true then
       some (.go (IntKind.i64.wrap (s12 + 1)))
      else
      some (.brk s12))) ((i + 1 : Nat) : Int) K1 K2 = K1 ((i + 1 + runB b (l.drop (i + 1)) : Nat) : Int) := by
      intro γ K1 K2
      rw [wz_while (l := l) (pr := fun c => decide (0 < clsB b) && decide (clsB c = clsB b)) (fun j x hj => ?_) ?_ l.length (i + 1) (by omega) (by omega), htw]
      ·simp only
       rw [zsz, decide_eq_false (show ¬ ((l.length : Int) < (l.length : Int)) by omega)]
       simp
      ·have hjl := (List.getElem?_eq_some_iff.1 hj).1
       simp only
       rw [zsz]
       by_cases h0 : clsB b = 0
       ·rw [h0]; simp
       ·have e1 : ((decide (0 < (clsB b : Int))) && (decide ((j : Int) < (l.length : Int)))) = true := by simp; omega
        simp only [e1, if_true, zSx hj, Option.bind_some, cls_t, Bool.true_and, decide_eq_true (show 0 < clsB b by omega)]
        by_cases h1 : clsB x = clsB b
        ·rw [decide_eq_true (by omega), if_pos rfl, decide_eq_true h1, if_pos rfl, wrap64 (by unfold inI; omega)]; rfl
        ·rw [decide_eq_false (by omega), if_neg (by simp), decide_eq_false h1, if_neg (by simp)]
     have e23 : (decide (0 < (clsB b : Int)) && decide (0 < (i : Int))) = false ∧ decide (0 < clsB b ∧ 0 < prev) = false ∨ ∃ c, l[i - 1]? = some c ∧ (decide (0 < (clsB b : Int)) && decide (0 < (i : Int))) = true ∧ decide (0 < clsB b ∧ 0 < prev) = decide (0 < (clsB c : Int)) ∧ 0 < i := by
      by_cases h0 : clsB b = 0
      ·left; rw [h0]; simp
      ·by_cases hi0 : i = 0
       ·left; rw [hp, hi0]; simp
       ·right
        have hc : l[i - 1]? = some l[i - 1] := List.getElem?_eq_getElem (by omega)
        refine ⟨_, hc, by simp; omega, ?_, by omega⟩
        rw [hp, if_neg hi0, List.getD_eq_getElem?_getD, hc]
        simp; omega
     rw [wz_go (s' := (((i + 1 + runB b (l.drop (i + 1)) : Nat) : Int), acc ++ [tkT ⟨(b :: l.drop (i + 1)).take (runB b (l.drop (i + 1)) + 1), i, decide (0 < clsB b ∧ 0 < prev)⟩])), ih (i + 1 + runB b (l.drop (i + 1))) (clsB b) _ K1 K2 (by omega) (by omega) (by simp; omega), hd, toksI, if_neg h32, List.drop_drop, show i + runB b (l.drop (i + 1)) + 1 = i + 1 + runB b (l.drop (i + 1)) by omega]
     ·simp
     ·rw [if_neg (by omega), List.getD_eq_getElem?_getD]
      have hlast : l[i + 1 + runB b (l.drop (i + 1)) - 1]? = (b :: l.drop (i + 1))[runB b (l.drop (i + 1))]? := by
       rw [← hd, List.getElem?_drop, show i + runB b (l.drop (i + 1)) = i + 1 + runB b (l.drop (i + 1)) - 1 by omega]
      rw [hlast]
      cases hr : runB b (l.drop (i + 1)) with
      | zero => rfl
      | succ k =>
       rw [List.getElem?_cons_succ]
       have h0 : clsB b ≠ 0 := fun e => by unfold runB at hr; rw [if_pos e] at hr; cases hr
       have hk : k < ((l.drop (i + 1)).takeWhile fun c => decide (clsB c = clsB b)).length := by
        have hr' := hr
        unfold runB at hr'
        rw [if_neg h0] at hr'
        omega
       have hg : (l.drop (i + 1))[k]? = some (((l.drop (i + 1)).takeWhile fun c => decide (clsB c = clsB b))[k]) := by
        obtain ⟨t, ht⟩ := List.takeWhile_prefix (l := l.drop (i + 1)) (fun c => decide (clsB c = clsB b))
        conv => lhs; rw [← ht]
        rw [List.getElem?_append_left hk, List.getElem?_eq_getElem hk]
       have hmem := List.all_eq_true.1 (List.all_takeWhile (l := l.drop (i + 1)) (p := fun c => decide (clsB c = clsB b))) _ (List.getElem_mem hk)
       rw [hg, Option.getD_some]
       exact (of_decide_eq_true hmem).symm
     ·simp only
      rw [if_pos (by rw [zsz]; omega), zSx hx, Option.bind_some, if_neg hb32, Option.bind_some, cls_t, Option.bind_some, hw, hin, e21, Option.bind_some]
      rcases e23 with ⟨q1, q2⟩ | ⟨c, hc, q1, q2, hi0⟩
      ·rw [q1, q2]
       simp only [Bool.false_eq_true, if_false, Option.bind_some, Bool.false_and]
       rw [if_pos (by simp; omega)]
       rfl
      ·have hw1 : IntKind.i64.wrap ((i : Int) - 1) = ((i - 1 : Nat) : Int) := by rw [wrap64 (by unfold inI; omega)]; omega
       rw [q1, q2]
       simp only [if_true, hw1, zSx hc, Option.bind_some, cls_t, Bool.true_and]
       rw [if_pos (by simp; omega)]
       rfl
   ·have : i = l.length := by omega
    subst this
    rw [List.drop_of_length_le (Nat.le_refl _), toksI, wz_brk (b := acc)]
    ·simp
    ·rw [zsz]; simp
 have := key l.length 0 0 [] (fun b4 =>
  if b4.length + ([(⟨(⟨#[]⟩ : ByteArray), ((bZ l).size : Int), false⟩ : TokenD)] : (List TokenD)).length ≤ 4398046511104 then
  some (b4 ++ ([(⟨(⟨#[]⟩ : ByteArray), ((bZ l).size : Int), false⟩ : TokenD)] : (List TokenD)))
  else none) (fun b4 => none) (by omega) (by omega) (by simp) (by simp)
 refine this.trans ?_
 have hlen := toksI_len l.length 0 0 l
 rw [List.drop_zero, List.nil_append, if_pos (by simp; omega), toksP_eq _ _ _ _ (Nat.le_refl _), List.map_append, zsz]
 simp [tkT, bZ]
end Go.Proofs.YtfalbgflabajbaaDoor

namespace Go.Proofs.YtfalbgflabajbaaDoor
set_option linter.unusedSectionVars false
set_option linter.unusedVariables false
set_option linter.unusedSimpArgs false
structure S4 where
 n : Nat
 bad : Int
 lg : Bool
def S4.done (s : S4) : Bool := decide (0 ≤ s.bad) || s.lg
def w4T (t : TokD) : List UInt8 := if t.touch = true then 32 :: t.text else t.text
def tk4 (T : List TokD) (s : S4) : TokD := T.getD s.n ⟨[], 0, false⟩
def isB (T : List TokD) (w : List UInt8) (s : S4) : Bool := !s.done && decide (w4T (tk4 T s) = w)
def nxS (s : S4) : S4 := ⟨s.n + 1, s.bad, s.lg⟩
def isS (T : List TokD) (w : List UInt8) (s : S4) : S4 := if isB T w s = true then nxS s else s
def stopS (T : List TokD) (s : S4) : S4 := if s.bad < 0 then ⟨s.n, (tk4 T s).pos, s.lg⟩ else s
def numS (T : List TokD) (s : S4) : Int × S4 := if s.done = true then (0, s) else if (numZ (bZ (w4T (tk4 T s))) 9).2 = true then ((numZ (bZ (w4T (tk4 T s))) 9).1, nxS s) else (0, stopS T s)
def mustS (T : List TokD) (w : List UInt8) (s : S4) : S4 := if s.done = true then s else if isB T w s = true then nxS s else stopS T s
def zP : PickD := .mk 0 0 0 []
def kwB (w : List UInt8) : Bool := decide (w = wOpen) || decide (w = wOdd) || decide (w = wEven) || decide (w = wBk) || decide (w = wEvery)
mutual
def simS (T : List TokD) : Nat → Nat → S4 → Option (PickD × S4)
 | 0, deep, s => if s.done = true then some (zP, s) else none
 | f + 1, deep, s =>
  if s.done = true then some (zP, s)
  else if (kwB (w4T (tk4 T s)) && decide (100 < deep)) = true then some (zP, ⟨s.n, s.bad, true⟩)
  else if isB T wOpen s = true then (whS T f (deep + 1) (nxS s)).map fun r => (r.1, mustS T wShut r.2)
  else if isB T wOdd s = true then (preS T f (deep + 1) (nxS s)).map fun r => (.mk 6 0 0 [r.1], r.2)
  else if isB T wEven s = true then (preS T f (deep + 1) (nxS s)).map fun r => (.mk 7 0 0 [r.1], r.2)
  else if isB T wBk s = true then (preS T f (deep + 1) (nxS s)).map fun r => (.mk 8 0 0 [r.1], r.2)
  else if isB T wEvery s = true then (preS T f (deep + 1) (numS T (mustS T wFrom (numS T (nxS s)).2)).2).map fun r => (.mk 9 (numS T (nxS s)).1 (numS T (mustS T wFrom (numS T (nxS s)).2)).1 [r.1], r.2)
  else if isB T wGroup s = true then some (.mk 2 (numS T (nxS s)).1 0 [], (numS T (nxS s)).2)
  else if isB T wPreset s = true then some (.mk 3 (numS T (nxS s)).1 0 [], (numS T (nxS s)).2)
  else if isB T wThru (numS T s).2 = true then
   (if (!(numS T (nxS (numS T s).2)).2.done && decide ((numS T (nxS (numS T s).2)).1 = (numS T s).1)) = true
    then some (.mk 1 (numS T s).1 (numS T (nxS (numS T s).2)).1 [], ⟨(numS T (nxS (numS T s).2)).2.n, (tk4 T (nxS (numS T s).2)).pos, (numS T (nxS (numS T s).2)).2.lg⟩)
    else some (.mk 1 (numS T s).1 (numS T (nxS (numS T s).2)).1 [], (numS T (nxS (numS T s).2)).2))
  else some (.mk 1 (numS T s).1 (numS T s).1 [], (numS T s).2)
def preS (T : List TokD) : Nat → Nat → S4 → Option (PickD × S4)
 | 0, deep, s => if s.done = true then some (zP, s) else none
 | f + 1, deep, s => if s.done = true then some (zP, s) else simS T f deep s
def whS (T : List TokD) : Nat → Nat → S4 → Option (PickD × S4)
 | 0, deep, s => none
 | f + 1, deep, s => (simS T f deep s).bind fun r => rwS T f deep r.1 false r.2
def rwS (T : List TokD) : Nat → Nat → PickD → Bool → S4 → Option (PickD × S4)
 | 0, deep, p, row, s => if s.done = true then some (p, s) else none
 | f + 1, deep, p, row, s =>
  if s.done = true then some (p, s)
  else if isB T wPlus s = true then (simS T f deep (nxS s)).bind fun r => rwS T f deep (if row then .mk p.kind p.frm p.to (p.args ++ [r.1]) else .mk 4 0 0 [p, r.1]) true r.2
  else if isB T wMinus s = true then (simS T f deep (nxS s)).bind fun r => rwS T f deep (.mk 5 0 0 [p, r.1]) false r.2
  else some (p, s)
end
abbrev s4 (k : Nat) : S4 := ⟨k, -1, false⟩
theorem done_s4 (k : Nat) : (s4 k).done = false := rfl
theorem done_bad (k m : Nat) (b : Bool) : (S4.mk k m b).done = true := by simp [S4.done]
theorem done_lg (k : Nat) (b : Int) : (S4.mk k b true).done = true := by simp [S4.done]
def EndT (T : List TokD) : Prop := ∃ T' n, T = T' ++ [⟨[], n, false⟩]
theorem EndT.next {T : List TokD} (h : EndT T) {k : Nat} {t : TokD} (ht : T[k]? = some t) (hn : t.text ≠ []) : k + 1 < T.length := by
 obtain ⟨T', m, rfl⟩ := h
 have hlt := (List.getElem?_eq_some_iff.1 ht).1
 simp only [List.length_append, List.length_cons, List.length_nil] at hlt ⊢
 by_cases hq : k < T'.length
 ·omega
 ·exfalso
  have hn2 : k = T'.length := by omega
  subst hn2
  rw [List.getElem?_append_right (Nat.le_refl _), Nat.sub_self, List.getElem?_cons_zero] at ht
  injection ht with ht
  subst ht
  exact hn rfl
section
variable {T : List TokD}
theorem tk4_at {k : Nat} {t : TokD} (ht : T[k]? = some t) {b : Int} {l : Bool} : tk4 T ⟨k, b, l⟩ = t := by
 unfold tk4; rw [List.getD_eq_getElem?_getD, ht]; rfl
theorem drop4 {k : Nat} {t : TokD} (ht : T[k]? = some t) : T.drop k = t :: T.drop (k + 1) := by
 obtain ⟨hlt, rfl⟩ := List.getElem?_eq_some_iff.1 ht
 exact List.drop_eq_getElem_cons hlt
theorem w4_iff {t : TokD} {b : UInt8} {w : List UInt8} (hb : b ≠ 32) : w4T t = b :: w ↔ t.text = b :: w ∧ t.touch = false := by
 unfold w4T
 cases t.touch
 ·simp
 ·simp; intro h; exact absurd h.symm hb
theorem tak_is {k : Nat} {t : TokD} (ht : T[k]? = some t) {s : List UInt8} (hs : ∃ b w, s = b :: w ∧ b ≠ 32) : (isB T s (s4 k) = true ∧ takP s (T.drop k) = some (T.drop (k + 1))) ∨ (isB T s (s4 k) = false ∧ takP s (T.drop k) = none) := by
 obtain ⟨b, w, rfl, hb⟩ := hs
 unfold isB
 rw [tk4_at ht, drop4 ht, done_s4, Bool.not_false, Bool.true_and]
 by_cases h : w4T t = b :: w
 ·exact .inl ⟨decide_eq_true h, if_pos ((w4_iff hb).1 h)⟩
 ·exact .inr ⟨decide_eq_false h, if_neg (fun e => h ((w4_iff hb).2 e))⟩
theorem num_is {k : Nat} {t : TokD} (ht : T[k]? = some t) : (∃ n, numP (T.drop k) = .ok n (T.drop (k + 1)) ∧ numS T (s4 k) = (n, s4 (k + 1)) ∧ t.text ≠ []) ∨ (numP (T.drop k) = .bad t.pos ∧ numS T (s4 k) = (0, ⟨k, t.pos, false⟩)) := by
 unfold numS
 rw [tk4_at ht, drop4 ht, done_s4, if_neg (by simp)]
 have hst : stopS T (s4 k) = ⟨k, t.pos, false⟩ := by
  unfold stopS; rw [if_pos (show (-1 : Int) < 0 by decide), tk4_at ht]
 cases htc : t.touch with
 | true =>
  right
  have hz : (numZ (bZ (w4T t)) 9).2 = false := by
   have hd : digZ (bZ (32 :: t.text)) = false := by simp [digZ, bZ, digB]
   unfold w4T; rw [htc, if_pos rfl]
   unfold numZ
   rw [if_pos (.inl hd)]
  rw [hz, if_neg (by simp), hst]
  exact ⟨by simp [numP, htc], rfl⟩
 | false =>
  have hw : w4T t = t.text := by unfold w4T; rw [htc, if_neg (by simp)]
  rw [hw]
  cases hz : (numZ (bZ t.text) 9).2 with
  | true =>
   left
   refine ⟨(numZ (bZ t.text) 9).1, by simp [numP, hz, htc], by rw [if_pos rfl]; rfl, fun e => ?_⟩
   rw [e] at hz; exact absurd hz (by decide)
  | false =>
   right
   rw [if_neg (by simp), hst]
   exact ⟨by simp [numP, hz], rfl⟩
theorem isB_done {s : S4} (h : s.done = true) (w : List UInt8) : isB T w s = false := by unfold isB; rw [h]; rfl
theorem numS_done {s : S4} (h : s.done = true) : numS T s = (0, s) := if_pos h
theorem mustS_done {s : S4} (h : s.done = true) (w : List UInt8) : mustS T w s = s := if_pos h
theorem preS_done {s : S4} (h : s.done = true) (f deep : Nat) : preS T f deep s = some (zP, s) := by
 cases f <;> (rw [preS]; exact if_pos h)
theorem rwS_done {s : S4} (h : s.done = true) (f deep : Nat) (p : PickD) (b : Bool) : rwS T f deep p b s = some (p, s) := by
 cases f <;> (rw [rwS]; exact if_pos h)
theorem must_is {k : Nat} {t : TokD} (ht : T[k]? = some t) {s : List UInt8} (hs : ∃ b w, s = b :: w ∧ b ≠ 32) : (takP s (T.drop k) = some (T.drop (k + 1)) ∧ mustS T s (s4 k) = s4 (k + 1) ∧ t.text ≠ []) ∨ (takP s (T.drop k) = none ∧ mustS T s (s4 k) = ⟨k, t.pos, false⟩) := by
 have hst : stopS T (s4 k) = ⟨k, t.pos, false⟩ := by
  unfold stopS; rw [if_pos (show (-1 : Int) < 0 by decide), tk4_at ht]
 unfold mustS
 rw [done_s4, if_neg (by simp)]
 rcases tak_is ht hs with ⟨h1, h2⟩ | ⟨h1, h2⟩
 ·left
  refine ⟨h2, by rw [h1, if_pos rfl]; rfl, fun e => ?_⟩
  obtain ⟨b, w, rfl, hb⟩ := hs
  rw [drop4 ht] at h2
  unfold takP at h2
  simp only at h2
  rw [e, if_neg (fun h => by cases h.1)] at h2
  cases h2
 ·right
  exact ⟨h2, by rw [h1, if_neg (by simp), hst]⟩
def Rel (T : List TokD) (R : PR PickD) (q : Option (PickD × S4)) : Prop := match R with
 | .ok p l => ∃ k', k' < T.length ∧ l = T.drop k' ∧ q = some (p, s4 k')
 | .bad m => ∃ p k', k' < T.length ∧ q = some (p, ⟨k', (m : Int), false⟩)
 | .large => ∃ p k', k' < T.length ∧ q = some (p, ⟨k', -1, true⟩)
 | .out => True
theorem w_key (b : UInt8) (w : List UInt8) (h : b ≠ 32 := by decide) : ∃ c r, b :: w = c :: r ∧ c ≠ 32 := ⟨b, w, rfl, h⟩
theorem Rel.map {R : PR PickD} {q : Option (PickD × S4)} (h : Rel T R q) (g : PickD → PickD) : Rel T (R.bind fun x l => .ok (g x) l) (q.map fun r => (g r.1, r.2)) := by
 cases R with
 | ok p l => obtain ⟨k, h1, h2, rfl⟩ := h; exact ⟨k, h1, h2, rfl⟩
 | bad m => obtain ⟨p, k, h1, rfl⟩ := h; exact ⟨g p, k, h1, rfl⟩
 | large => obtain ⟨p, k, h1, rfl⟩ := h; exact ⟨g p, k, h1, rfl⟩
 | out => trivial
theorem kw_no {t : TokD} (h : w4T t ≠ wOpen ∧ w4T t ≠ wOdd ∧ w4T t ≠ wEven ∧ w4T t ≠ wBk ∧ w4T t ≠ wEvery) : kwB (w4T t) = false := by
 unfold kwB
 rw [decide_eq_false h.1, decide_eq_false h.2.1, decide_eq_false h.2.2.1, decide_eq_false h.2.2.2.1, decide_eq_false h.2.2.2.2]; rfl
theorem isB_at {k : Nat} {t : TokD} (ht : T[k]? = some t) (w : List UInt8) : isB T w (s4 k) = decide (w4T t = w) := by
 unfold isB; rw [tk4_at ht, done_s4]; rfl
theorem rel_all (hT : EndT T) (f : Nat) : (∀ deep k, k < T.length → Rel T (parP f deep (T.drop k)) (simS T f (deep + 1) (s4 k))) ∧ (∀ deep k, k < T.length → Rel T (whlP f deep (T.drop k)) (whS T f (deep + 1) (s4 k))) ∧ (∀ deep p b k, k < T.length → Rel T (rowP f deep p b (T.drop k)) (rwS T f (deep + 1) p b (s4 k))) ∧ (∀ deep kd fr t k, deep < 100 → k < T.length → Rel T (prfP f deep (.mk kd fr t []) (T.drop k)) ((preS T f (deep + 1 + 1) (s4 k)).map fun r => (.mk kd fr t [r.1], r.2))) := by
 induction f with
 | zero => exact ⟨fun deep k hk => by rw [parP]; trivial, fun deep k hk => by rw [whlP]; trivial, fun deep p b k hk => by rw [rowP]; trivial, fun deep kd fr t k hd hk => by rw [prfP]; trivial⟩
 | succ f ih =>
  obtain ⟨i1, i2, i3, i4⟩ := ih
  refine ⟨fun deep k hk => ?_, fun deep k hk => ?_, fun deep p b k hk => ?_, fun deep kd fr t k hd hk => ?_⟩
  ·obtain ⟨t, ht⟩ : ∃ t, T[k]? = some t := ⟨_, List.getElem?_eq_getElem hk⟩
   have hnx : t.text ≠ [] → k + 1 < T.length := fun h => hT.next ht h
   rw [parP, simS, done_s4, if_neg (by simp), tk4_at ht]
   simp only [isB_at ht]
   have tk : ∀ {s : List UInt8}, (∃ b w, s = b :: w ∧ b ≠ 32) → (w4T t = s ∧ takP s (T.drop k) = some (T.drop (k + 1)) ∧ t.text ≠ []) ∨ (w4T t ≠ s ∧ takP s (T.drop k) = none) := by
    intro s hs
    rcases tak_is ht hs with ⟨h1, h2⟩ | ⟨h1, h2⟩
    ·rw [isB_at ht] at h1
     obtain ⟨b, w, rfl, hb⟩ := hs
     have h3 := of_decide_eq_true h1
     exact .inl ⟨h3, h2, fun e => by have := ((w4_iff hb).1 h3).1; rw [e] at this; cases this⟩
    ·rw [isB_at ht] at h1
     exact .inr ⟨of_decide_eq_false h1, h2⟩
   rcases tk (s := wGroup) (w_key 103 [114, 111, 117, 112]) with ⟨h, hp, hne⟩ | ⟨g0, p0⟩
   ·rw [hp]
    have hk1 := hnx hne
    have dwOpen : decide (w4T t = wOpen) = false := decide_eq_false (by rw [h]; decide)
    have dwOdd : decide (w4T t = wOdd) = false := decide_eq_false (by rw [h]; decide)
    have dwEven : decide (w4T t = wEven) = false := decide_eq_false (by rw [h]; decide)
    have dwBk : decide (w4T t = wBk) = false := decide_eq_false (by rw [h]; decide)
    have dwEvery : decide (w4T t = wEvery) = false := decide_eq_false (by rw [h]; decide)
    have dwGroup : decide (w4T t = wGroup) = true := decide_eq_true h
    have dwPreset : decide (w4T t = wPreset) = false := decide_eq_false (by rw [h]; decide)
    have dk : kwB (w4T t) = false := by rw [h]; decide
    simp only [dwOpen, dwOdd, dwEven, dwBk, dwEvery, dwGroup, dwPreset, dk, Bool.true_and, Bool.false_and, Bool.false_eq_true, if_true, if_false, decide_eq_true_eq]
    obtain ⟨t1, ht1⟩ : ∃ t1, T[k + 1]? = some t1 := ⟨_, List.getElem?_eq_getElem hk1⟩
    show Rel T ((numP (T.drop (k + 1))).bind fun n l2 => .ok (.mk 2 n 0 []) l2) (some (.mk 2 (numS T (s4 (k + 1))).1 0 [], (numS T (s4 (k + 1))).2))
    rcases num_is ht1 with ⟨n, h1, h2, h3⟩ | ⟨h1, h2⟩
    ·rw [h1, h2]; exact ⟨k + 1 + 1, hT.next ht1 h3, rfl, rfl⟩
    ·rw [h1, h2]; exact ⟨_, k + 1, hk1, rfl⟩
   rw [p0]
   simp only
   rcases tk (s := wPreset) (w_key 112 [114, 101, 115, 101, 116]) with ⟨h, hp, hne⟩ | ⟨g1, p1⟩
   ·rw [hp]
    have hk1 := hnx hne
    have dwOpen : decide (w4T t = wOpen) = false := decide_eq_false (by rw [h]; decide)
    have dwOdd : decide (w4T t = wOdd) = false := decide_eq_false (by rw [h]; decide)
    have dwEven : decide (w4T t = wEven) = false := decide_eq_false (by rw [h]; decide)
    have dwBk : decide (w4T t = wBk) = false := decide_eq_false (by rw [h]; decide)
    have dwEvery : decide (w4T t = wEvery) = false := decide_eq_false (by rw [h]; decide)
    have dwGroup : decide (w4T t = wGroup) = false := decide_eq_false (by rw [h]; decide)
    have dwPreset : decide (w4T t = wPreset) = true := decide_eq_true h
    have dk : kwB (w4T t) = false := by rw [h]; decide
    simp only [dwOpen, dwOdd, dwEven, dwBk, dwEvery, dwGroup, dwPreset, dk, Bool.true_and, Bool.false_and, Bool.false_eq_true, if_true, if_false, decide_eq_true_eq]
    obtain ⟨t1, ht1⟩ : ∃ t1, T[k + 1]? = some t1 := ⟨_, List.getElem?_eq_getElem hk1⟩
    show Rel T ((numP (T.drop (k + 1))).bind fun n l2 => .ok (.mk 3 n 0 []) l2) (some (.mk 3 (numS T (s4 (k + 1))).1 0 [], (numS T (s4 (k + 1))).2))
    rcases num_is ht1 with ⟨n, h1, h2, h3⟩ | ⟨h1, h2⟩
    ·rw [h1, h2]; exact ⟨k + 1 + 1, hT.next ht1 h3, rfl, rfl⟩
    ·rw [h1, h2]; exact ⟨_, k + 1, hk1, rfl⟩
   rw [p1]
   simp only
   rcases tk (s := wOpen) (w_key 40 []) with ⟨h, hp, hne⟩ | ⟨g2, p2⟩
   ·rw [hp]
    have hk1 := hnx hne
    have dwOpen : decide (w4T t = wOpen) = true := decide_eq_true h
    have dwOdd : decide (w4T t = wOdd) = false := decide_eq_false (by rw [h]; decide)
    have dwEven : decide (w4T t = wEven) = false := decide_eq_false (by rw [h]; decide)
    have dwBk : decide (w4T t = wBk) = false := decide_eq_false (by rw [h]; decide)
    have dwEvery : decide (w4T t = wEvery) = false := decide_eq_false (by rw [h]; decide)
    have dwGroup : decide (w4T t = wGroup) = false := decide_eq_false (by rw [h]; decide)
    have dwPreset : decide (w4T t = wPreset) = false := decide_eq_false (by rw [h]; decide)
    have dk : kwB (w4T t) = true := by rw [h]; decide
    simp only [dwOpen, dwOdd, dwEven, dwBk, dwEvery, dwGroup, dwPreset, dk, Bool.true_and, Bool.false_and, Bool.false_eq_true, if_true, if_false, decide_eq_true_eq]
    by_cases hd : 100 ≤ deep
    ·rw [if_pos hd, if_pos (by omega)]; exact ⟨_, k, hk, rfl⟩
    rw [if_neg hd, if_neg (by omega)]
    have hi := i2 (deep + 1) (k + 1) hk1
    show Rel T _ ((whS T f (deep + 1 + 1) (s4 (k + 1))).map _)
    cases hR : whlP f (deep + 1) (T.drop (k + 1)) with
    | ok p l =>
     rw [hR] at hi
     obtain ⟨k2, h1, rfl, h3⟩ := hi
     rw [h3]
     obtain ⟨t2, ht2⟩ : ∃ t2, T[k2]? = some t2 := ⟨_, List.getElem?_eq_getElem h1⟩
     show Rel T (match takP wShut (T.drop k2) with | some l3 => .ok p l3 | none => .bad (posP (T.drop k2))) (some (p, mustS T wShut (s4 k2)))
     rcases must_is ht2 (w_key 41 []) with ⟨m1, m2, m3⟩ | ⟨m1, m2⟩
     ·have m1 : takP wShut (T.drop k2) = _ := m1
      have m2 : mustS T wShut (s4 k2) = _ := m2
      rw [m1, m2]; exact ⟨k2 + 1, hT.next ht2 m3, rfl, rfl⟩
     ·have m1 : takP wShut (T.drop k2) = _ := m1
      have m2 : mustS T wShut (s4 k2) = _ := m2
      rw [m1, m2, drop4 ht2]; exact ⟨_, k2, h1, rfl⟩
    | bad m =>
     rw [hR] at hi
     obtain ⟨p, k2, h1, h3⟩ := hi
     rw [h3]
     exact ⟨p, k2, h1, by rw [Option.map_some, mustS_done (done_bad _ _ _)]⟩
    | large =>
     rw [hR] at hi
     obtain ⟨p, k2, h1, h3⟩ := hi
     rw [h3]
     exact ⟨p, k2, h1, by rw [Option.map_some, mustS_done (done_lg _ _)]⟩
    | out => trivial
   rw [p2]
   simp only
   rcases tk (s := wOdd) (w_key 111 [100, 100]) with ⟨h, hp, hne⟩ | ⟨g3, p3⟩
   ·rw [hp]
    have hk1 := hnx hne
    have dwOpen : decide (w4T t = wOpen) = false := decide_eq_false (by rw [h]; decide)
    have dwOdd : decide (w4T t = wOdd) = true := decide_eq_true h
    have dwEven : decide (w4T t = wEven) = false := decide_eq_false (by rw [h]; decide)
    have dwBk : decide (w4T t = wBk) = false := decide_eq_false (by rw [h]; decide)
    have dwEvery : decide (w4T t = wEvery) = false := decide_eq_false (by rw [h]; decide)
    have dwGroup : decide (w4T t = wGroup) = false := decide_eq_false (by rw [h]; decide)
    have dwPreset : decide (w4T t = wPreset) = false := decide_eq_false (by rw [h]; decide)
    have dk : kwB (w4T t) = true := by rw [h]; decide
    simp only [dwOpen, dwOdd, dwEven, dwBk, dwEvery, dwGroup, dwPreset, dk, Bool.true_and, Bool.false_and, Bool.false_eq_true, if_true, if_false, decide_eq_true_eq]
    by_cases hd : 100 ≤ deep
    ·rw [if_pos (by omega)]
     cases f with
     | zero => rw [prfP]; trivial
     | succ f => rw [prfP, if_pos hd]; exact ⟨_, k, hk, rfl⟩
    rw [if_neg (by omega)]
    exact i4 deep 6 0 0 (k + 1) (by omega) hk1
   rw [p3]
   simp only
   rcases tk (s := wEven) (w_key 101 [118, 101, 110]) with ⟨h, hp, hne⟩ | ⟨g4, p4⟩
   ·rw [hp]
    have hk1 := hnx hne
    have dwOpen : decide (w4T t = wOpen) = false := decide_eq_false (by rw [h]; decide)
    have dwOdd : decide (w4T t = wOdd) = false := decide_eq_false (by rw [h]; decide)
    have dwEven : decide (w4T t = wEven) = true := decide_eq_true h
    have dwBk : decide (w4T t = wBk) = false := decide_eq_false (by rw [h]; decide)
    have dwEvery : decide (w4T t = wEvery) = false := decide_eq_false (by rw [h]; decide)
    have dwGroup : decide (w4T t = wGroup) = false := decide_eq_false (by rw [h]; decide)
    have dwPreset : decide (w4T t = wPreset) = false := decide_eq_false (by rw [h]; decide)
    have dk : kwB (w4T t) = true := by rw [h]; decide
    simp only [dwOpen, dwOdd, dwEven, dwBk, dwEvery, dwGroup, dwPreset, dk, Bool.true_and, Bool.false_and, Bool.false_eq_true, if_true, if_false, decide_eq_true_eq]
    by_cases hd : 100 ≤ deep
    ·rw [if_pos (by omega)]
     cases f with
     | zero => rw [prfP]; trivial
     | succ f => rw [prfP, if_pos hd]; exact ⟨_, k, hk, rfl⟩
    rw [if_neg (by omega)]
    exact i4 deep 7 0 0 (k + 1) (by omega) hk1
   rw [p4]
   simp only
   rcases tk (s := wBk) (w_key 98 [97, 99, 107]) with ⟨h, hp, hne⟩ | ⟨g5, p5⟩
   ·rw [hp]
    have hk1 := hnx hne
    have dwOpen : decide (w4T t = wOpen) = false := decide_eq_false (by rw [h]; decide)
    have dwOdd : decide (w4T t = wOdd) = false := decide_eq_false (by rw [h]; decide)
    have dwEven : decide (w4T t = wEven) = false := decide_eq_false (by rw [h]; decide)
    have dwBk : decide (w4T t = wBk) = true := decide_eq_true h
    have dwEvery : decide (w4T t = wEvery) = false := decide_eq_false (by rw [h]; decide)
    have dwGroup : decide (w4T t = wGroup) = false := decide_eq_false (by rw [h]; decide)
    have dwPreset : decide (w4T t = wPreset) = false := decide_eq_false (by rw [h]; decide)
    have dk : kwB (w4T t) = true := by rw [h]; decide
    simp only [dwOpen, dwOdd, dwEven, dwBk, dwEvery, dwGroup, dwPreset, dk, Bool.true_and, Bool.false_and, Bool.false_eq_true, if_true, if_false, decide_eq_true_eq]
    by_cases hd : 100 ≤ deep
    ·rw [if_pos (by omega)]
     cases f with
     | zero => rw [prfP]; trivial
     | succ f => rw [prfP, if_pos hd]; exact ⟨_, k, hk, rfl⟩
    rw [if_neg (by omega)]
    exact i4 deep 8 0 0 (k + 1) (by omega) hk1
   rw [p5]
   simp only
   rcases tk (s := wEvery) (w_key 101 [118, 101, 114, 121]) with ⟨h, hp, hne⟩ | ⟨g6, p6⟩
   ·rw [hp]
    have hk1 := hnx hne
    have dwOpen : decide (w4T t = wOpen) = false := decide_eq_false (by rw [h]; decide)
    have dwOdd : decide (w4T t = wOdd) = false := decide_eq_false (by rw [h]; decide)
    have dwEven : decide (w4T t = wEven) = false := decide_eq_false (by rw [h]; decide)
    have dwBk : decide (w4T t = wBk) = false := decide_eq_false (by rw [h]; decide)
    have dwEvery : decide (w4T t = wEvery) = true := decide_eq_true h
    have dwGroup : decide (w4T t = wGroup) = false := decide_eq_false (by rw [h]; decide)
    have dwPreset : decide (w4T t = wPreset) = false := decide_eq_false (by rw [h]; decide)
    have dk : kwB (w4T t) = true := by rw [h]; decide
    simp only [dwOpen, dwOdd, dwEven, dwBk, dwEvery, dwGroup, dwPreset, dk, Bool.true_and, Bool.false_and, Bool.false_eq_true, if_true, if_false, decide_eq_true_eq]
    by_cases hd : 100 ≤ deep
    ·rw [if_pos hd, if_pos (by omega)]; exact ⟨_, k, hk, rfl⟩
    rw [if_neg hd, if_neg (by omega)]
    obtain ⟨t1, ht1⟩ : ∃ t1, T[k + 1]? = some t1 := ⟨_, List.getElem?_eq_getElem hk1⟩
    show Rel T _ ((preS T f (deep + 1 + 1) (numS T (mustS T wFrom (numS T (s4 (k + 1))).2)).2).map fun r => (.mk 9 (numS T (s4 (k + 1))).1 (numS T (mustS T wFrom (numS T (s4 (k + 1))).2)).1 [r.1], r.2))
    rcases num_is ht1 with ⟨n, h1, h2, h3⟩ | ⟨h1, h2⟩
    rotate_left
    ·rw [h1, h2]
     refine ⟨.mk 9 0 0 [zP], k + 1, hk1, ?_⟩
     simp only [mustS_done (done_bad _ _ _), numS_done (done_bad _ _ _), preS_done (done_bad _ _ _), Option.map_some]
    have hk2 := hT.next ht1 h3
    obtain ⟨t2, ht2⟩ : ∃ t2, T[k + 1 + 1]? = some t2 := ⟨_, List.getElem?_eq_getElem hk2⟩
    rw [h1, h2]
    show Rel T (match takP wFrom (T.drop (k + 1 + 1)) with | some l3 => (numP l3).bind fun m l4 => prfP f deep (.mk 9 n m []) l4 | none => .bad (posP (T.drop (k + 1 + 1)))) _
    rcases must_is ht2 (w_key 102 [114, 111, 109]) with ⟨m1, m2, m3⟩ | ⟨m1, m2⟩
    rotate_left
    ·have m1 : takP wFrom (T.drop (k + 1 + 1)) = _ := m1
     have m2 : mustS T wFrom (s4 (k + 1 + 1)) = _ := m2
     rw [m1, m2, drop4 ht2]
     refine ⟨.mk 9 n 0 [zP], k + 1 + 1, hk2, ?_⟩
     simp only [numS_done (done_bad _ _ _), preS_done (done_bad _ _ _), Option.map_some]
     rfl
    have m1 : takP wFrom (T.drop (k + 1 + 1)) = _ := m1
    have m2 : mustS T wFrom (s4 (k + 1 + 1)) = _ := m2
    have hk3 := hT.next ht2 m3
    obtain ⟨t3, ht3⟩ : ∃ t3, T[k + 1 + 1 + 1]? = some t3 := ⟨_, List.getElem?_eq_getElem hk3⟩
    rw [m1, m2]
    rcases num_is ht3 with ⟨m, n1, n2, n3⟩ | ⟨n1, n2⟩
    ·rw [n2]
     show Rel T ((numP (T.drop (k + 1 + 1 + 1))).bind fun m l4 => prfP f deep (.mk 9 n m []) l4) _
     rw [n1]
     exact i4 deep 9 n m (k + 1 + 1 + 1 + 1) (by omega) (hT.next ht3 n3)
    ·rw [n2]
     show Rel T ((numP (T.drop (k + 1 + 1 + 1))).bind fun m l4 => prfP f deep (.mk 9 n m []) l4) _
     rw [n1]
     refine ⟨.mk 9 n 0 [zP], k + 1 + 1 + 1, hk3, ?_⟩
     simp only [preS_done (done_bad _ _ _), Option.map_some]
   rw [p6]
   simp only
   have dwGroup : decide (w4T t = wGroup) = false := decide_eq_false g0
   have dwPreset : decide (w4T t = wPreset) = false := decide_eq_false g1
   have dwOpen : decide (w4T t = wOpen) = false := decide_eq_false g2
   have dwOdd : decide (w4T t = wOdd) = false := decide_eq_false g3
   have dwEven : decide (w4T t = wEven) = false := decide_eq_false g4
   have dwBk : decide (w4T t = wBk) = false := decide_eq_false g5
   have dwEvery : decide (w4T t = wEvery) = false := decide_eq_false g6
   have dk := kw_no ⟨g2, g3, g4, g5, g6⟩
   simp only [dwOpen, dwOdd, dwEven, dwBk, dwEvery, dwGroup, dwPreset, dk, Bool.true_and, Bool.false_and, Bool.false_eq_true, if_true, if_false, decide_eq_true_eq]
   rcases num_is ht with ⟨n, h1, h2, h3⟩ | ⟨h1, h2⟩
   rotate_left
   ·rw [h1, h2, isB_done (done_bad _ _ _), if_neg (by simp)]
    exact ⟨_, k, hk, rfl⟩
   have hk1 := hT.next ht h3
   obtain ⟨t1, ht1⟩ : ∃ t1, T[k + 1]? = some t1 := ⟨_, List.getElem?_eq_getElem hk1⟩
   rw [h1, h2]
   show Rel T (match takP wThru (T.drop (k + 1)) with | some l2 => (numP l2).bind fun m l3 => if m = n then .bad (posP l2) else .ok (.mk 1 n m []) l3 | none => .ok (.mk 1 n n []) (T.drop (k + 1))) _
   rcases tak_is ht1 (w_key 116 [104, 114, 117]) with ⟨m1, m2⟩ | ⟨m1, m2⟩
   rotate_left
   ·have m1 : isB T wThru (s4 (k + 1)) = _ := m1
    have m2 : takP wThru (T.drop (k + 1)) = _ := m2
    rw [m1, m2, if_neg (by simp)]
    exact ⟨k + 1, hk1, rfl, rfl⟩
   have hne1 : t1.text ≠ [] := fun e => by rw [drop4 ht1] at m2; unfold takP at m2; simp only at m2; rw [e, if_neg (fun h => by cases h.1)] at m2; cases m2
   have m1 : isB T wThru (s4 (k + 1)) = _ := m1
   have m2 : takP wThru (T.drop (k + 1)) = _ := m2
   have hk2 := hT.next ht1 hne1
   obtain ⟨t2, ht2⟩ : ∃ t2, T[k + 1 + 1]? = some t2 := ⟨_, List.getElem?_eq_getElem hk2⟩
   rw [m1, m2, if_pos rfl]
   show Rel T ((numP (T.drop (k + 1 + 1))).bind fun m l3 => if m = n then .bad (posP (T.drop (k + 1 + 1))) else .ok (.mk 1 n m []) l3) (if (!(numS T (s4 (k + 1 + 1))).2.done && decide ((numS T (s4 (k + 1 + 1))).1 = n)) = true then some (.mk 1 n (numS T (s4 (k + 1 + 1))).1 [], ⟨(numS T (s4 (k + 1 + 1))).2.n, (tk4 T (s4 (k + 1 + 1))).pos, (numS T (s4 (k + 1 + 1))).2.lg⟩) else some (.mk 1 n (numS T (s4 (k + 1 + 1))).1 [], (numS T (s4 (k + 1 + 1))).2))
   rcases num_is ht2 with ⟨m, n1, n2, n3⟩ | ⟨n1, n2⟩
   ·rw [n1, n2, done_s4, tk4_at ht2]
    show Rel T (if m = n then .bad (posP (T.drop (k + 1 + 1))) else .ok (.mk 1 n m []) (T.drop (k + 1 + 1 + 1))) _
    by_cases hmn : m = n
    ·rw [if_pos hmn, decide_eq_true hmn, if_pos (by simp), drop4 ht2]
     exact ⟨_, k + 1 + 1 + 1, hT.next ht2 n3, rfl⟩
    ·rw [if_neg hmn, decide_eq_false hmn, if_neg (by simp)]
     exact ⟨k + 1 + 1 + 1, hT.next ht2 n3, rfl, rfl⟩
   ·rw [n1, n2, done_bad, if_neg (by simp)]
    exact ⟨_, k + 1 + 1, hk2, rfl⟩
  ·rw [whlP, whS]
   have h := i1 deep k hk
   cases hR : parP f deep (T.drop k) with
   | ok p l =>
    rw [hR] at h
    obtain ⟨k', h1, rfl, h3⟩ := h
    rw [h3]
    exact i3 deep p false k' h1
   | bad m =>
    rw [hR] at h
    obtain ⟨p, k', h1, h3⟩ := h
    rw [h3]
    exact ⟨p, k', h1, rwS_done (done_bad _ _ _) _ _ _ _⟩
   | large =>
    rw [hR] at h
    obtain ⟨p, k', h1, h3⟩ := h
    rw [h3]
    exact ⟨p, k', h1, rwS_done (done_lg _ _) _ _ _ _⟩
   | out => trivial
  ·obtain ⟨t, ht⟩ : ∃ t, T[k]? = some t := ⟨_, List.getElem?_eq_getElem hk⟩
   rw [rowP, rwS, done_s4, if_neg (by simp)]
   rcases tak_is ht (w_key 43 []) with ⟨h1, h2⟩ | ⟨h1, h2⟩
   ·have h1' : isB T wPlus (s4 k) = true := h1
    have h2' : takP wPlus (T.drop k) = some (T.drop (k + 1)) := h2
    rw [h1', if_pos rfl, h2']
    have hk1 : k + 1 < T.length := hT.next ht (fun e => by rw [drop4 ht] at h2; unfold takP at h2; simp only at h2; rw [e, if_neg (fun h => by cases h.1)] at h2; cases h2)
    have h := i1 deep (k + 1) hk1
    simp only
    cases hR : parP f deep (T.drop (k + 1)) with
    | ok q l =>
     rw [hR] at h
     obtain ⟨k', h1, rfl, h3⟩ := h
     show Rel T _ ((simS T f (deep + 1) (s4 (k + 1))).bind _)
     rw [h3]
     exact i3 deep _ true k' h1
    | bad m =>
     rw [hR] at h
     obtain ⟨q, k', h1, h3⟩ := h
     show Rel T _ ((simS T f (deep + 1) (s4 (k + 1))).bind _)
     rw [h3]
     exact ⟨_, k', h1, rwS_done (done_bad _ _ _) _ _ _ _⟩
    | large =>
     rw [hR] at h
     obtain ⟨q, k', h1, h3⟩ := h
     show Rel T _ ((simS T f (deep + 1) (s4 (k + 1))).bind _)
     rw [h3]
     exact ⟨_, k', h1, rwS_done (done_lg _ _) _ _ _ _⟩
    | out => trivial
   ·have h1' : isB T wPlus (s4 k) = false := h1
    have h2' : takP wPlus (T.drop k) = none := h2
    rw [h1', if_neg (by simp), h2']
    simp only
    rcases tak_is ht (w_key 45 []) with ⟨h1, h2⟩ | ⟨h1, h2⟩
    ·have h1' : isB T wMinus (s4 k) = true := h1
     have h2' : takP wMinus (T.drop k) = some (T.drop (k + 1)) := h2
     rw [h1', if_pos rfl, h2']
     have hk1 : k + 1 < T.length := hT.next ht (fun e => by rw [drop4 ht] at h2; unfold takP at h2; simp only at h2; rw [e, if_neg (fun h => by cases h.1)] at h2; cases h2)
     have h := i1 deep (k + 1) hk1
     simp only
     cases hR : parP f deep (T.drop (k + 1)) with
     | ok q l =>
      rw [hR] at h
      obtain ⟨k', h1, rfl, h3⟩ := h
      show Rel T _ ((simS T f (deep + 1) (s4 (k + 1))).bind _)
      rw [h3]
      exact i3 deep _ false k' h1
     | bad m =>
      rw [hR] at h
      obtain ⟨q, k', h1, h3⟩ := h
      show Rel T _ ((simS T f (deep + 1) (s4 (k + 1))).bind _)
      rw [h3]
      exact ⟨_, k', h1, rwS_done (done_bad _ _ _) _ _ _ _⟩
     | large =>
      rw [hR] at h
      obtain ⟨q, k', h1, h3⟩ := h
      show Rel T _ ((simS T f (deep + 1) (s4 (k + 1))).bind _)
      rw [h3]
      exact ⟨_, k', h1, rwS_done (done_lg _ _) _ _ _ _⟩
     | out => trivial
    ·have h1' : isB T wMinus (s4 k) = false := h1
     have h2' : takP wMinus (T.drop k) = none := h2
     rw [h1', if_neg (by simp), h2']
     exact ⟨k, hk, rfl, rfl⟩
  ·rw [prfP, preS, done_s4, if_neg (show ¬ 100 ≤ deep by omega), if_neg (by simp)]
   exact (i1 (deep + 1) k hk).map fun x => .mk kd fr t [x]
end
end Go.Proofs.YtfalbgflabajbaaDoor

