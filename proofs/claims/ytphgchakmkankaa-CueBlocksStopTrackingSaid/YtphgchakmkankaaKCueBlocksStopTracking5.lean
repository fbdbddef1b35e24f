/- Parts of the proof of CueBlocksStopTracking, in order. -/
import Derived.Orders
import Derived.Below
import Derived.WalkKit
import Derived.Laws.StructEq
import Derived.Laws.Append
import Derived.Laws.AppendOwn
import Derived.Test.YtphgchakmkankaaRows
import Derived.KernelRfl
import Derived.Lib.Bytealg
import Derived.Sort.Defs
import Derived.Lib.BitFns
import Derived.Test.YtphgchakmkankaaShelf
import Derived.Lib.Overlaps
import Derived.IntWalk
import Derived.Sort.Statements
import Derived.Shelf.SlSortCmp.WholeK
import Derived.Shelf.SlSortCmp.NoneTotal
import Derived.Sort.AssemblyPlain
import Derived.Lib.Strings
import Derived.WalkSpells
import Derived.ProofKit
import Derived.OpenShut
import Derived.Lib.Hide
import Derived.Lib.SmallJoins
import Derived.Deep.QuietTactic
import Derived.BigQuiet
import Derived.Deep.RegionHeld3
import Derived.Deep.Slices
import Derived.Test.YtphgchakmkankaaKCueBlocksStopTracking4
namespace Go.Proofs.Ytphgchakmkankaa
set_option linter.unusedSectionVars false
set_option linter.unusedVariables false
set_option linter.unusedSimpArgs false
open HP
section
variable {σ0 σ : Heap} {R : HP}
theorem Block_s {l : List CueD} (hl : okL okCue l) {n : Int} (hn : inI n) (σ : Heap) : m_cue_Block [sl 11 cCue l, .int .i64 n] σ = some (.tup [sl 11 cCue (blockF l n).1, .int .i64 (blockF l n).2], σ) := by
 have run : r_cue_Block (sl 11 cCue l) (.int .i64 n) σ = some (.tup [sl 11 cCue (blockF l n).1, .int .i64 (blockF l n).2], σ) := by
  unfold r_cue_Block blockF
  rw [h_cue_form (form_t l hl), Option.bind_some, aNeI, Option.bind_some]
  by_cases hf : formF l = 0
  case neg =>
   rw [decide_eq_true hf, cnd_t, if_pos hf, fin_same, Option.map_some]; exact congrArg (fun z => some (z, σ)) nn_nil
  have hg := good_of hf
  have hlen := hg.len
  rw [decide_eq_false (by simp [hf]), cnd_f, if_neg (by simp [hf])]
  obtain ⟨p, e1, e2, e3⟩ := place_t hg hn σ
  rw [e1, Option.bind_some, ext0, Option.bind_some, ext1, Option.bind_some, show A.not (.bool (hasC l n)) = some (.bool (!hasC l n)) from rfl, Option.bind_some]
  cases hh : hasC l n
  ·rw [show (!false) = true from rfl, cnd_t, if_pos rfl, fin_same, Option.map_some]; exact congrArg (fun z => some (z, σ)) nn_nil
  rw [show (!true) = false from rfl, cnd_f, if_neg (by decide)]
  have e4 := e3 (.inr hh)
  subst e4
  obtain ⟨x, hx, hxn⟩ := hasC_at hg hh
  have hoB := blkOn_ok hl.2 hg (posC l n)
  generalize posC l n = a at hx hoB ⊢
  have hal := (List.getElem?_eq_some_iff.1 hx).1
  have hxm := hg.mv x (List.mem_of_getElem? hx)
  obtain ⟨v, s1, c1, K1⟩ := copied_s (small_of hg) (by unfold mxl; omega) (hs_nil (B := anyB) σ)
  obtain ⟨st, hst⟩ : ∃ st, st = stateF (l.take (a + 1)) := ⟨_, rfl⟩
  have hS : SameS st (beforeF (l.take (a + 1))) := hst ▸ same_state _
  have hsl : st.length ≤ 600000 := by
   have h1 := state_len (l := l.take (a + 1)) (fun c hc => (hg.mv c (List.mem_of_mem_take hc)).1)
   have h2 : (l.take (a + 1)).length ≤ 300 := by simp; omega
   rw [hst]
   exact Nat.le_trans h1 (Nat.mul_le_mul_right 2000 h2)
  have hcs : m_cue_state [sl 11 cCue (l.take (a + 1))] s1 = some (fmS st, s1) := by
   rw [hst]
   exact h_cue_state (state_t (by simp; unfold mxl; omega) (fun c hc => by have := (hg.mv c (List.mem_of_mem_take hc)).1; unfold mxl; omega))
  have hbd : blkOn l a = l.set a { x with block := true, moves := (st.map (·.1)).foldl (restP fun k => mvOf k (tfind k st)) x.moves } := by
   rw [blkOn, hx]
   simp only
   congr 2
   exact (rest_eq hxm.2 (fun k => mvOf_key _ _) (fun k => mvOf_key _ _) (hasM_keys hS) (fun k _ => by rw [hS.2.2])).symm
  rw [c1, Option.bind_some, tadd1 (by omega), Option.bind_some, show A.sliceS 11 (sl 11 cCue l) none (some (.int .i64 ((a + 1 : Nat) : Int))) s1 = some (sl 11 cCue (l.take (a + 1))) from sliceS_take 11 cCue l (by omega), Option.bind_some, hcs, Option.bind_some]
  rw [show A.rangeA (fmS st) = some (st.map encS) from rfl, Option.bind_some]
  simp only
  refine range_loop (α := KeyD × EntryD) (enc := encS) (it := s1.length) (es := st) _ _ (fun _ _ _ => rfl) (fun d lf w s => w = [] ∧ ∃ c, Hs anyB σ s (blk s1.length (.it c (lf.map encS)) * (Sl CueE 11 v (l.set a { x with moves := (d.map (·.1)).foldl (restP fun k => mvOf k (tfind k st)) x.moves }) * emp))) ?_ ?_ ?_ ?_
  ·rintro d lf w s ⟨rfl, c, K⟩
   exact ⟨c, (hs_get K).2⟩
  ·rintro d lf w s j p hp ⟨rfl, c, K⟩ hj
   have K' := hs_set (b' := .it [encS p] ((lf.eraseIdx j).map encS)) K trivial
   obtain ⟨_, hgt⟩ := hs_get K'
   obtain ⟨r1, r2⟩ := rest_fold (g := fun k => mvOf k (tfind k st)) (d.map (·.1)) hxm.2
   have hdl : d.length ≤ st.length := by have := hp.length_eq; simp at this; omega
   have r3 : ((d.map (·.1)).foldl (restP fun k => mvOf k (tfind k st)) x.moves).length < 1000000 := by
    have := hxm.1
    simp at r2; omega
   have hdp : ((d ++ [p]).map (·.1)).foldl (restP fun k => mvOf k (tfind k st)) x.moves = restP (fun k => mvOf k (tfind k st)) ((d.map (·.1)).foldl (restP fun k => mvOf k (tfind k st)) x.moves) p.1 := by
    rw [List.map_append, List.foldl_append]; rfl
   rw [hdp]
   generalize ((d.map (·.1)).foldl (restP fun k => mvOf k (tfind k st)) x.moves) = ms at K' r1 r3 ⊢
   generalize s.set s1.length (Blk.it [encS p] ((lf.eraseIdx j).map encS)) = s16 at K' hgt ⊢
   have K2 := hs_eq (show _ = Sl CueE 11 v (l.set a { x with moves := ms }) * (blk s1.length (.it [encS p] ((lf.eraseIdx j).map encS)) * emp) by ac_rfl) K'
   have ox : (l.set a { x with moves := ms })[a]? = some { x with moves := ms } := List.getElem?_set_self hal
   obtain ⟨pr, er, f1, f2, f3⟩ := row_at ox K2
   have hat : m_cue_moveAt [.agg er, .agg (cKey p.1)] s16 = some (.tup [.int .i64 (posM ms p.1 : Int), .bool (hasM ms p.1)], s16) :=
    lent (ain := [.a shCue]) (ts := [.agg (cCue { x with moves := ms }), .agg (cKey p.1)]) ⟨f3, lt_fz (fz_agg (fz_cKey p.1)) rfl, trivial⟩ (fun σ => moveAt_t r1 (by show ms.length < _; omega) p.1 σ) rfl
   have hent : A.entryA (.op s1.length 0) s16 = some (.tup [.agg (cKey p.1), .agg (cEntry p.2)]) := by simp only [A.entryA, hgt]; rfl
   unfold restP
   cases hh2 : hasM ms p.1
   ·obtain ⟨p', s', g1, g2, K3⟩ := put_at2 ox (mvOf p.1 (tfind p.1 st)) r1 r3 K2
    rw [f1] at g1; injection g1 with g1; subst g1
    rw [List.set_set] at K3
    refine ⟨[], s', fun k => ?_, rfl, _, hs_eq (by simp only [Bool.false_eq_true, if_false]; ac_rfl) K3⟩
    rw [hent, Option.bind_some, ext0, Option.bind_some, show A.cells 2 (.agg (cKey p.1)) = some (cKey p.1) from rfl, Option.bind_some, show A.splice 0 (cKey p.1) [(AV.int .i64 0), (AV.str ⟨#[]⟩)] = some (cKey p.1) from rfl, Option.bind_some, f1, Option.bind_some, f2, Option.bind_some, show A.partA 0 2 (cKey p.1) = some (.agg (cKey p.1)) from rfl, Option.bind_some, quiet_of hat, Option.bind_some, ext0, Option.bind_some, ext1, Option.bind_some, hh2, show A.not (.bool false) = some (.bool true) from rfl, Option.bind_some, cnd_t, Option.bind_some, Option.bind_some]
    rw [show A.quiet (m_cue_move [fmS st, .agg (cKey p.1)] s16) s16 = some (.agg (cMove (mvOf p.1 (tfind p.1 st)))) from quiet_of (h_cue_move (move_t st p.1)), Option.bind_some, g2, Option.bind_some, Option.bind_some]
   ·refine ⟨[], s16, fun k => ?_, rfl, _, hs_eq (by simp only [if_true]; ac_rfl) K2⟩
    rw [hent, Option.bind_some, ext0, Option.bind_some, show A.cells 2 (.agg (cKey p.1)) = some (cKey p.1) from rfl, Option.bind_some, show A.splice 0 (cKey p.1) [(AV.int .i64 0), (AV.str ⟨#[]⟩)] = some (cKey p.1) from rfl, Option.bind_some, f1, Option.bind_some, f2, Option.bind_some, show A.partA 0 2 (cKey p.1) = some (.agg (cKey p.1)) from rfl, Option.bind_some, quiet_of hat, Option.bind_some, ext0, Option.bind_some, ext1, Option.bind_some, hh2, show A.not (.bool true) = some (.bool false) from rfl, Option.bind_some, cnd_f, Option.bind_some]
  ·rintro d w s hp ⟨rfl, c, K⟩
   have hde : (d.map (·.1)).foldl (restP fun k => mvOf k (tfind k st)) x.moves = (st.map (·.1)).foldl (restP fun k => mvOf k (tfind k st)) x.moves :=
    rest_eq hxm.2 (fun k => mvOf_key _ _) (fun k => mvOf_key _ _) (fun k => (hp.map (·.1)).mem_iff) (fun k _ => rfl)
   rw [hde] at K
   have K2 := hs_drop K
   simp only [exb]
   obtain ⟨p, q, s', f1, _, f2, f3, K3⟩ := flag_at (x := { x with moves := (st.map (·.1)).foldl (restP fun k => mvOf k (tfind k st)) x.moves }) (List.getElem?_set_self hal) true K2
   have e : setBlk (l.set a { x with moves := (st.map (·.1)).foldl (restP fun k => mvOf k (tfind k st)) x.moves }) a true = blkOn l a := by
    rw [hbd, setBlk, List.getElem?_set_self hal]; simp only; rw [List.set_set]
   rw [e] at K3
   rw [f1, Option.bind_some, f2, Option.bind_some, show A.cell (.bool true) = some (.bool true) from rfl, Option.bind_some, Option.bind_some, f3, Option.bind_some, done_own K3 hoB, Option.bind_some, ext0, Option.bind_some, ext1, Option.bind_some, doneF_pair]
   by_cases hq : formF (blkOn l a) = 0
   ·rw [if_pos hq, if_pos hq]
    obtain ⟨v', j1, j2⟩ := fin_ret (e := formF (blkOn l a)) (cues_weak K3)
    rw [j1, Option.map_some]
    exact congrArg (fun z => some (z, σ)) (nn_ret j2)
   ·rw [if_neg hq, if_neg hq, fin_nil K3, Option.map_some]
    exact congrArg (fun z => some (z, σ)) nn_nil
  ·have K2 := hs_new (b := Blk.it [] (st.map encS)) K1 trivial
   refine ⟨rfl, [], ?_⟩
   rw [List.map_nil, List.foldl_nil, show ({ x with moves := x.moves } : CueD) = x from rfl, set_same hx]
   exact K2
 refine wrap_eq rfl ?_ nn_two
 rw [show A.nnL [Sh.e 11 [.k, .k, .k, .k, .k, .k, .k, .s 2, .k, .k, .s 8]] [sl 11 cCue l, .int .i64 n] = [sl 11 cCue l, .int .i64 n] from nn_arg1 l _]
 exact run
end
end Go.Proofs.Ytphgchakmkankaa

namespace Go.Proofs.Ytphgchakmkankaa
set_option linter.unusedSectionVars false
set_option linter.unusedVariables false
set_option linter.unusedSimpArgs false
open HP Go.Sort
theorem pw_ext {α : Type} {r : α → α → Prop} (irr : ∀ x, ¬ r x x) (tr : ∀ x y z, r x y → r y z → r x z) : ∀ {a b : List α}, a.Pairwise r → b.Pairwise r → (∀ x, x ∈ a ↔ x ∈ b) → a = b
 | [], [], _, _, _ => rfl
 | [], y :: b, _, _, h => by have := (h y).2 (by simp); simp at this
 | x :: a, [], _, _, h => by have := (h x).1 (by simp); simp at this
 | x :: a, y :: b, ha, hb, h => by
  have ha' := List.pairwise_cons.1 ha
  have hb' := List.pairwise_cons.1 hb
  have hxy : x = y := by
   rcases List.mem_cons.1 ((h x).1 (by simp)) with e | m1
   ·exact e
   rcases List.mem_cons.1 ((h y).2 (by simp)) with e | m2
   ·exact e.symm
   exact (irr y (tr _ _ _ (hb'.1 x m1) (ha'.1 y m2))).elim
  subst hxy
  congr 1
  refine pw_ext irr tr ha'.2 hb'.2 fun z => ⟨fun hz => ?_, fun hz => ?_⟩
  ·rcases List.mem_cons.1 ((h z).1 (by simp [hz])) with e | m
   ·exact (irr x (e ▸ ha'.1 z hz)).elim
   ·exact m
  ·rcases List.mem_cons.1 ((h z).2 (by simp [hz])) with e | m
   ·exact (irr x (e ▸ hb'.1 z hz)).elim
   ·exact m
theorem pdqL_spec {α : Type} [Inhabited α] {cf : α → α → Int} (hS : SWO (fun x y => decide (cf x y < 0))) (l : List α) : (pdqL cf l).Perm l ∧ (pdqL cf l).Pairwise fun x y => ¬ cf y x < 0 := by
 obtain ⟨⟨h1, _, h3⟩, h2⟩ := pdq_sorts (fun x y => decide (cf x y < 0)) hS l.toArray 0 l.length (Lib.bitLen l.length) true true (Nat.zero_le _) (by simp) (Or.inl rfl)
 unfold pdqL
 generalize pdq (fun x y => decide (cf x y < 0)) l.toArray 0 l.length (Lib.bitLen l.length) true true = d' at h1 h2 h3
 have hs : d'.size = l.length := by simpa using h1
 refine ⟨?_, ?_⟩
 ·have e1 : d'.extract 0 l.length = d' := by rw [← hs]; simp
  have e2 : l.toArray.extract 0 l.length = l.toArray := by simp
  rw [e1, e2] at h3
  exact h3
 ·rw [List.pairwise_iff_getElem]
  intro i j hi hj hij
  simp only [Array.length_toList] at hi hj
  have := h2 i j (Nat.zero_le _) hij (by omega)
  simp only [getElem!_pos d' i hi, getElem!_pos d' j hj] at this
  simpa using this
theorem pdqL_srt {α : Type} [Inhabited α] (f : α → KeyD) {l : List α} (hn : ∀ x ∈ l, ∀ y ∈ l, f x = f y → x = y) (hd : l.Nodup) : (pdqL (fun a b => cmpKey (f a) (f b)) l).Pairwise fun a b => ltK (f a) (f b) = true := by
 obtain ⟨h1, h2⟩ := pdqL_spec (swo_key f) l
 have hnd : (pdqL (fun a b => cmpKey (f a) (f b)) l).Pairwise (fun x y => x ≠ y) := (h1.nodup_iff).2 hd
 refine List.Pairwise.imp_of_mem (R := fun x y => (¬ cmpKey (f y) (f x) < 0) ∧ x ≠ y) ?_ (h2.and hnd)
 rintro x y hx hy ⟨q1, q2⟩
 cases e : ltK (f x) (f y)
 ·exfalso
  have e2 : ltK (f y) (f x) = false := by
   cases e2 : ltK (f y) (f x)
   ·rfl
   ·exact absurd ((cmpKey_lt _ _).2 e2) q1
  exact q2 (hn x (h1.mem_iff.1 hx) y (h1.mem_iff.1 hy) (ltK_tri e e2))
 ·rfl
theorem lookE_some {l : List EntryD} (h : srtE l) {k : KeyD} {x : EntryD} : lookE l k = some x ↔ x ∈ l ∧ x.key = k := by
 constructor
 ·intro e
  exact ⟨List.mem_of_find?_eq_some e, of_decide_eq_true (List.find?_some (p := fun m : EntryD => decide (m.key = k)) e)⟩
 ·rintro ⟨hm, hk⟩
  cases e : lookE l k with
  | none =>
   have := List.find?_eq_none.1 e x hm
   simp [hk] at this
  | some y =>
   have hy := List.mem_of_find?_eq_some e
   have hyk : y.key = k := of_decide_eq_true (List.find?_some (p := fun m : EntryD => decide (m.key = k)) e)
   obtain ⟨i, hi⟩ := List.mem_iff_getElem?.1 hm
   obtain ⟨j, hj⟩ := List.mem_iff_getElem?.1 hy
   have e1 := posE_at h hi hk
   have e2 := posE_at h hj hyk
   rw [← e1, e2, hj] at hi
   exact hi
theorem tfind_mem {k : KeyD} {v : EntryD} : ∀ {s : List (KeyD × EntryD)}, nodK s → (tfind k s = some v ↔ (k, v) ∈ s)
 | [], _ => by simp [tfind]
 | (a, b) :: s, h => by
  unfold nodK at h
  rw [List.map_cons, List.nodup_cons] at h
  rw [tfind]
  by_cases e : k = a
  ·subst e
   rw [if_pos rfl]
   constructor
   ·intro q; injection q with q; simp [q]
   ·intro q
    rcases List.mem_cons.1 q with q | q
    ·injection q with _ q; rw [q]
    ·exact (h.1 (List.mem_map.2 ⟨_, q, rfl⟩)).elim
  ·rw [if_neg e, tfind_mem h.2]
   constructor
   ·intro q; exact List.mem_cons_of_mem _ q
   ·intro q
    rcases List.mem_cons.1 q with q | q
    ·injection q with q _; exact (e q).elim
    ·exact q
def ownK (s : List (KeyD × EntryD)) : Prop := ∀ p ∈ s, p.2.key = p.1
theorem mem_upd2 {ν : Type} {k : KeyD} {v : ν} : ∀ {s : List (KeyD × ν)} {x : KeyD × ν}, x ∈ tupd k v s → x ∈ s ∨ x = (k, v)
 | [], x, h => by simp [tupd] at h; exact .inr h
 | (a, b) :: s, x, h => by
  rw [tupd] at h
  split at h
  ·rcases List.mem_cons.1 h with rfl | h
   ·exact .inr rfl
   ·exact .inl (List.mem_cons_of_mem _ h)
  ·rcases List.mem_cons.1 h with rfl | h
   ·exact .inl List.mem_cons_self
   ·rcases mem_upd2 h with h | h
    ·exact .inl (List.mem_cons_of_mem _ h)
    ·exact .inr h
theorem ownK_state (l : List CueD) : ownK (stateF l) := by
 have inner : ∀ (n : Int) (ms : List MoveD) (s : List (KeyD × EntryD)), ownK s → ownK (ms.foldl (stepM n) s) := by
  intro n ms
  induction ms with
  | nil => intro s h; exact h
  | cons m ms ih =>
   intro s hs
   refine ih _ (fun p hp => ?_)
   unfold stepM at hp
   split at hp
   ·exact hs p (mem_del hp)
   ·rcases mem_upd2 hp with hp | hp
    ·exact hs p hp
    ·rw [hp]
 have key : ∀ (l : List CueD) (s : List (KeyD × EntryD)), ownK s → ownK (l.foldl (fun s c => c.moves.foldl (stepM c.number) s) s) := by
  intro l
  induction l with
  | nil => intro s h; exact h
  | cons c l ih => intro s hs; exact ih _ (inner c.number c.moves s hs)
 exact key l [] (by intro p hp; cases hp)
theorem state_sorted {s d : List (KeyD × EntryD)} {st : List EntryD} (hS : SameS s st) (hk : ownK s) (hp : d.Perm s) [Inhabited EntryD] : pdqL (fun a b : EntryD => cmpKey a.key b.key) (d.map (·.2)) = st := by
 obtain ⟨h1, h2, h3⟩ := hS
 have hd1 : nodK d := by
  unfold nodK at h1 ⊢
  exact ((hp.map (·.1)).nodup_iff).2 h1
 have hkd : ownK d := fun p hp' => hk p (hp.mem_iff.1 hp')
 have he : d.map (·.1) = (d.map (·.2)).map (·.key) := by
  rw [List.map_map]
  exact (List.map_congr_left fun p hp' => (hkd p hp').symm)
 have hnk : ((d.map (·.2)).map (·.key)).Nodup := by rw [← he]; exact hd1
 have hinj : ∀ x ∈ d.map (·.2), ∀ y ∈ d.map (·.2), x.key = y.key → x = y := by
  intro x hx y hy e
  obtain ⟨i, hi⟩ := List.mem_iff_getElem?.1 hx
  obtain ⟨j, hj⟩ := List.mem_iff_getElem?.1 hy
  have hi' := (List.getElem?_eq_some_iff.1 hi).1
  have hij : i = j := by
   refine (List.getElem?_inj (l := (d.map (·.2)).map (·.key)) (by simpa using hi') hnk).1 ?_
   have q1 : ((d.map (·.2)).map (·.key))[i]? = some x.key := by rw [List.getElem?_map, hi]; rfl
   have q2 : ((d.map (·.2)).map (·.key))[j]? = some y.key := by rw [List.getElem?_map, hj]; rfl
   rw [q1, q2, e]
  subst hij
  rw [hi] at hj; injection hj
 have hs := pdqL_srt (f := fun e : EntryD => e.key) hinj ((List.pairwise_map.1 hnk).imp fun h e => h (congrArg _ e))
 refine pw_ext (r := fun a b : EntryD => ltK a.key b.key = true) (fun x q => by rw [ltK_irr] at q; cases q) (fun x y z => ltK_trans) hs h2 fun x => ?_
 have hmem := (pdqL_spec (swo_key fun e : EntryD => e.key) (d.map (·.2))).1.mem_iff (a := x)
 rw [hmem, (hp.map (·.2)).mem_iff]
 constructor
 ·intro hx
  obtain ⟨p, hp1, hp2⟩ := List.mem_map.1 hx
  have hpk := hk p hp1
  have : tfind p.1 s = some p.2 := (tfind_mem h1).2 hp1
  rw [h3] at this
  rw [← hp2]
  exact ((lookE_some h2).1 this).1
 ·intro hx
  have : lookE st x.key = some x := (lookE_some h2).2 ⟨hx, rfl⟩
  rw [← h3] at this
  exact List.mem_map.2 ⟨_, (tfind_mem h1).1 this, rfl⟩
section
variable {σ0 σ : Heap} {R : HP}
theorem sort_own {α : Type} [Inhabited α] {c : α → List AV} {sz : Nat} {cf : α → α → Int} (hinj : ∀ x y, c x = c y → x = y) {v : AV} {l : List α} (hl : l ≠ []) (hlen : l.length < 4611686018427387904) (hS : SWO (fun x y => decide (cf x y < 0))) (H : Hs anyB σ0 σ (Sl (fl c) sz v l * R)) :
  ∃ σ', A.sortG sz c cf v σ = some (.tup [], σ') ∧ Hs anyB σ0 σ' (Sl (fl c) sz v (pdqL cf l) * R) := by
 rcases slf_cases H with ⟨h, _, _⟩ | ⟨id, g, rfl, K⟩
 ·exact absurd h hl
 obtain ⟨_, h2⟩ := hs_get K
 have hp : 0 < l.length := List.length_pos_iff.2 hl
 have hc : (g = g ∧ sz = sz ∧ sz = sz ∧ 0 + l.length ≤ (l.map c).length ∧ 0 < l.length ∧ l.length < 4611686018427387904) ∧ ∃ l' : List α, ((l.map c).drop 0).take l.length = l'.map c :=
  ⟨⟨rfl, rfl, rfl, by simp, hp, hlen⟩, l, by rw [List.drop_zero, List.take_of_length_le (by simp)]⟩
 have hch : Classical.choose hc.2 = l := by
  have h9 := Classical.choose_spec hc.2
  have e9 : ((l.map c).drop 0).take l.length = l.map c := by rw [List.drop_zero, List.take_of_length_le (by simp)]
  exact ((List.map_inj_right hinj).1 (e9.symm.trans h9)).symm
 refine ⟨σ.set id (.arr g sz ((pdqL cf l).map c)), ?_, ?_⟩
 ·unfold A.sortG
  simp only [h2]
  rw [dif_pos hc, hch, List.take_zero, List.nil_append, List.drop_of_length_le (by simp), List.append_nil]
 ·have hle : (pdqL cf l).length = l.length := (pdqL_spec hS l).1.length_eq
  exact slf_os (hs_set (b' := .arr g sz ((pdqL cf l).map c)) K trivial) hle.symm
theorem row_entry (e : EntryD) : (((A.cells 5 (.agg (cEntry e))).bind fun c22 => (A.splice 0 c22 [(AV.int .i64 0), (AV.str ⟨#[]⟩), (AV.int .i64 0), (AV.int .i64 0), (AV.int .i64 0)]).bind fun c23 => some c23).bind fun cs => some (AV.sl 5 (chunks 5 1 cs))) = some (.sl 5 [cEntry e]) := rfl
theorem appE {B : Blk → Prop} {v : AV} {l : List EntryD} (k : EntryD) (hl : l.length < 1000000) (hB : ∀ g g' seg, (seg = [] ∨ B (.arr g 5 seg)) → B (.arr g' 5 (seg ++ [cEntry k]))) (H : Hs B σ0 σ (Sl (fl cEntry) 5 v l * R)) :
  ∃ v' σ', A.append 5 (140737488355328 / 48) v (.sl 5 [cEntry k]) σ = some (v', σ') ∧ Hs B σ0 σ' (Sl (fl cEntry) 5 v' (l ++ [k]) * R) :=
 sl_app (ys := [cEntry k]) (xs := [k]) (hs_eq (show pr (cEntry k = cEntry k) * (Sl (fl cEntry) 5 v l * R) = _ by
  rw [show els (fl cEntry) [cEntry k] [k] = pr (cEntry k = cEntry k) * emp from rfl, star_assoc, emp_star]; ac_rfl) (hs_pr.2 ⟨rfl, H⟩)) (by simp; omega) hB
theorem State_t {l : List CueD} (hl : okL okCue l) {n : Int} (hn : inI n) (σ : Heap) : m_cue_State [sl 11 cCue l, .int .i64 n] σ = some (.tup [sl 5 cEntry (stateRes l n).1, .int .i64 (stateRes l n).2], σ) := by
 have run : r_cue_State (sl 11 cCue l) (.int .i64 n) σ = some (.tup [sl 5 cEntry (stateRes l n).1, .int .i64 (stateRes l n).2], σ) := by
  unfold r_cue_State stateRes
  rw [h_cue_form (form_t l hl), Option.bind_some, aNeI, Option.bind_some]
  by_cases hf : formF l = 0
  case neg =>
   rw [decide_eq_true hf, cnd_t, if_pos hf, fin_same, Option.map_some]
   exact congrArg (fun z => some (z, σ)) (nn_retS rfl)
  have hg := good_of hf
  have hlen := hg.len
  rw [decide_eq_false (by simp [hf]), cnd_f, if_neg (by simp [hf])]
  obtain ⟨p, e1, e2, e3⟩ := place_t hg hn σ
  rw [e1, Option.bind_some, ext0, Option.bind_some, ext1, Option.bind_some, show A.not (.bool (hasC l n)) = some (.bool (!hasC l n)) from rfl, Option.bind_some]
  cases hh : hasC l n
  ·rw [show (!false) = true from rfl, cnd_t, if_pos rfl, fin_same, Option.map_some]
   exact congrArg (fun z => some (z, σ)) (nn_retS rfl)
  rw [show (!true) = false from rfl, cnd_f, if_neg (by decide)]
  have e4 := e3 (.inr hh)
  subst e4
  obtain ⟨x, hx, hxn⟩ := hasC_at hg hh
  generalize posC l n = a at hx ⊢
  have hal := (List.getElem?_eq_some_iff.1 hx).1
  obtain ⟨st, hst⟩ : ∃ st, st = stateF (l.take (a + 1)) := ⟨_, rfl⟩
  have hS : SameS st (beforeF (l.take (a + 1))) := hst ▸ same_state _
  have hk : ownK st := hst ▸ ownK_state _
  have hsl : st.length ≤ 600000 := by
   have h1 := state_len (l := l.take (a + 1)) (fun c hc => (hg.mv c (List.mem_of_mem_take hc)).1)
   have h2 : (l.take (a + 1)).length ≤ 300 := by simp; omega
   rw [hst]
   exact Nat.le_trans h1 (Nat.mul_le_mul_right 2000 h2)
  have hcs : m_cue_state [sl 11 cCue (l.take (a + 1))] σ = some (fmS st, σ) := by
   rw [hst]
   exact h_cue_state (state_t (by simp; unfold mxl; omega) (fun c hc => by have := (hg.mv c (List.mem_of_mem_take hc)).1; unfold mxl; omega))
  rw [tadd1 (by omega), Option.bind_some, show A.sliceS 11 (sl 11 cCue l) none (some (.int .i64 ((a + 1 : Nat) : Int))) σ = some (sl 11 cCue (l.take (a + 1))) from sliceS_take 11 cCue l (by omega), Option.bind_some, hcs, Option.bind_some]
  rw [show A.rangeA (fmS st) = some (st.map encS) from rfl, Option.bind_some]
  simp only
  refine range_loop (α := KeyD × EntryD) (enc := encS) (it := σ.length) (es := st) _ _ (fun _ _ _ => rfl) (fun d lf w s => ∃ h c, w = [h] ∧ (d = [] → h = .nsl) ∧ Hs anyB σ s (blk σ.length (.it c (lf.map encS)) * (Sl (fl cEntry) 5 h (d.map (·.2)) * emp))) ?_ ?_ ?_ ?_
  ·rintro d lf w s ⟨h, c, rfl, _, K⟩
   exact ⟨c, (hs_get K).2⟩
  ·rintro d lf w s j p hp ⟨h, c, rfl, _, K⟩ hj
   have K' := hs_set (b' := .it [encS p] ((lf.eraseIdx j).map encS)) K trivial
   obtain ⟨_, hgt⟩ := hs_get K'
   generalize s.set σ.length (Blk.it [encS p] ((lf.eraseIdx j).map encS)) = s16 at K' hgt ⊢
   have hdl : d.length ≤ st.length := by have := hp.length_eq; simp at this; omega
   obtain ⟨h', s', g1, K2⟩ := appE p.2 (by simp; omega) (fun _ _ _ _ => trivial) (hs_eq (show _ = Sl (fl cEntry) 5 h (d.map (·.2)) * (blk σ.length (.it [encS p] ((lf.eraseIdx j).map encS)) * emp) by ac_rfl) K')
   have hent : A.entryA (.op σ.length 0) s16 = some (.tup [.agg (cKey p.1), .agg (cEntry p.2)]) := by simp only [A.entryA, hgt]; rfl
   refine ⟨[h'], s', fun k => ?_, h', _, rfl, fun q => by simp at q, hs_eq (by rw [List.map_append]; show Sl (fl cEntry) 5 h' (d.map (·.2) ++ [p.2]) * _ = _; ac_rfl) K2⟩
   rw [hent, Option.bind_some, ext1, Option.bind_some, show A.cells 5 (.agg (cEntry p.2)) = some (cEntry p.2) from rfl, Option.bind_some, sp_cEntry p.2 _ rfl, Option.bind_some, show A.partA 0 5 (cEntry p.2) = some (.agg (cEntry p.2)) from rfl, Option.bind_some, row_entry, Option.bind_some]
   simp only [List.getD_cons_zero]
   rw [g1, Option.bind_some]
  ·rintro d w s hp ⟨h, c, rfl, hnil, K⟩
   have K2 := hs_drop K
   simp only [exb, List.getD_cons_zero]
   letI : Inhabited EntryD := ⟨⟨⟨0, ⟨#[]⟩⟩, ⟨0, 0⟩, 0⟩⟩
   have hsort : ∃ s', m_slices_SortFunc_Entry [h, .fn 297 []] s = some (.tup [], s') ∧ Hs anyB σ s' (Sl (fl cEntry) 5 h (beforeF (l.take (a + 1))) * emp) := by
    have hres := state_sorted hS hk hp
    by_cases hd : d = []
    ·subst hd
     rw [hnil rfl] at K2 ⊢
     refine ⟨s, rfl, ?_⟩
     rw [List.map_nil] at hres K2
     have : beforeF (l.take (a + 1)) = [] := by
      rw [← hres]
      exact List.eq_nil_of_length_eq_zero (by rw [(pdqL_spec (swo_key fun e : EntryD => e.key) []).1.length_eq]; rfl)
     rw [this]; exact K2
    ·have hdl : d.length ≤ st.length := by have := hp.length_eq; omega
     obtain ⟨s', g1, K3⟩ := sort_own (cf := fun a b : EntryD => cmpKey a.key b.key) cEntry_inj (by simpa using hd) (by simp; omega) (swo_key fun e : EntryD => e.key) K2
     rw [hres] at K3
     exact ⟨s', g1, K3⟩
   obtain ⟨s', g1, K3⟩ := hsort
   rw [g1, Option.bind_some]
   obtain ⟨v', j1, j2⟩ := fin_tupS (e := 0) fz_cEntry K3
   rw [j1, Option.map_some]
   exact congrArg (fun z => some (z, σ)) (nn_retS j2)
  ·have K2 := hs_new (b := Blk.it [] (st.map encS)) (hs_nil (B := anyB) σ) trivial
   refine ⟨.nsl, [], rfl, fun _ => rfl, ?_⟩
   rw [List.map_nil]
   exact hs_eq (show _ = blk σ.length (Blk.it [] (st.map encS)) * (Sl (fl cEntry) 5 .nsl [] * emp) by ac_rfl) (slz (v := .nsl) (E := fl cEntry) (sz := 5) K2 (.inl rfl))
 refine wrap_eq rfl ?_ (nn_retS (v := sl 5 cEntry (stateRes l n).1) rfl)
 rw [show A.nnL [Sh.e 11 [.k, .k, .k, .k, .k, .k, .k, .s 2, .k, .k, .s 8]] [sl 11 cCue l, .int .i64 n] = [sl 11 cCue l, .int .i64 n] from nn_arg1 l _]
 exact run
end
end Go.Proofs.Ytphgchakmkankaa

namespace Go.Proofs.Ytphgchakmkankaa
set_option linter.unusedSectionVars false
set_option linter.unusedVariables false
set_option linter.unusedSimpArgs false
theorem eqSelf {α : Type} {l : List α} {body : Nat → α → Unit → Option (Lr Unit Unit Unit)} {K : Unit → Option Bool} (hl : l.length ≤ mxl) (hb : ∀ i x, l[i]? = some x → body i x () = some (.go ())) : forE l body (fun s => some ()) () (fun _ => some true) K = some true := by
 rw [forE_find (p := fun _ => false) (r := fun _ => ()) hl (fun i x hx => by rw [hb i x hx]; rfl)]
 have : l.find? (fun _ => false) = none := by simp
 rw [this]
theorem EqualEn_t (l : List EntryD) (hl : l.length ≤ mxl) : t_slices_Equal_api_Entry l l = some true := by
 unfold t_slices_Equal_api_Entry
 simp only [not_true_eq_false, if_false]
 refine eqSelf hl fun i x hx => ?_
 rw [tIx_get (x := x) (by omega) (by simpa using hx)]
 simp
end Go.Proofs.Ytphgchakmkankaa

namespace Go.Proofs.Ytphgchakmkankaa
set_option linter.unusedSectionVars false
set_option linter.unusedSimpArgs false
set_option linter.unusedVariables false
theorem okL_none : okL okCue [] := ⟨Nat.zero_le _, by simp⟩
theorem recRes_ok {l : List CueD} (hl : okL okCue l) {n : Int} (hn : inI n) {ms : List MoveD} (hm : okL okMove ms) (way : Int) : okL okCue (recRes l n ms way).1 := by
 unfold recRes
 split
 ·exact okL_none
 rename_i hz
 obtain ⟨hf, _, hml, _, _⟩ := recErr_zero (Decidable.not_not.1 hz)
 obtain ⟨k1, k2⟩ := rec_ok hl.2 (good_of hf) hn hm.2 hml way
 unfold doneF
 split
 ·exact okL_of k1 k2
 ·exact okL_none
end Go.Proofs.Ytphgchakmkankaa

namespace Go.Proofs.Ytphgchakmkankaa
set_option linter.unusedSectionVars false
set_option linter.unusedVariables false
set_option linter.unusedSimpArgs false
open HP
def zeroC (e : EntryD) : EntryD := { e with cue := 0 }
theorem state_bd (l : List CueD) (n : Int) : (stateRes l n).1.length ≤ 600000000 := by
 unfold stateRes
 split
 ·simp
 rename_i hz
 split
 ·simp
 have hg := good_of (Decidable.not_not.1 hz)
 have hlen := hg.len
 exact (beforeF_bound (l := l.take (posC l n + 1)) (by simp; omega) (fun c hc => (hg.mv c (List.mem_of_mem_take hc)).1)).2
section
variable {σ0 σ : Heap} {R : HP}
theorem fin_tupX {α : Type} {c : α → List AV} {sz : Nat} {B : Blk → Prop} {v w : AV} {l : List α} (hw : Fz w) (hc : ∀ x, FzL (c x)) (H : Hs B σ0 σ (Sl (fl c) sz v l * R)) : ∃ v', A.fin σ0 (.tup [v, w]) σ = some (.tup [v', w], σ0) ∧ A.nn (.s sz) v' = sl sz c l := by
 obtain ⟨v', h1, h2, h3⟩ := slf_fz H hc (Nat.le_refl _) 7
 refine ⟨v', fin_hs (hs_any H) (by simp [A.frz, A.frzL, h1, hw σ σ0.length 8]) (fun e => ?_), h3⟩
 rcases slf_cases H with ⟨rfl, rfl | rfl, _⟩ | ⟨id, g, rfl, K⟩
 ·simp [A.frz] at h1; rw [h1]
 ·simp [A.frz] at h1; rw [h1]
 ·obtain ⟨k1, k2⟩ := hs_get K
  have := (List.getElem?_eq_some_iff.1 k2).1
  subst e; omega
theorem nn_retX {α : Type} {c : α → List AV} {sz : Nat} {v w : AV} {l : List α} (h : A.nn (.s sz) v = sl sz c l) : A.nn (.t [(.s sz), .k]) (.tup [v, w]) = .tup [sl sz c l, w] := by
 simp only [A.nn, A.nnL] at h ⊢
 rw [h]
def valsR (l : List CueD) (n : Int) : List EntryD := (stateRes l n).1.map zeroC
theorem values_t {l : List CueD} (hl : okL okCue l) {n : Int} (hn : inI n) (σ : Heap) : m_W5_values [sl 11 cCue l, .int .i64 n] σ = some (.tup [sl 5 cEntry (valsR l n), .bool (decide ((stateRes l n).2 = 0))], σ) := by
 have run : ∃ b, r_W5_values (sl 11 cCue l) (.int .i64 n) σ = some b ∧ b.2 = σ ∧ A.nn (.t [(.s 5), .k]) b.1 = .tup [sl 5 cEntry (valsR l n), .bool (decide ((stateRes l n).2 = 0))] := by
  unfold r_W5_values valsR
  have hbd := state_bd l n
  rw [State_t hl hn σ, Option.bind_some, ext0, Option.bind_some, ext1, Option.bind_some]
  generalize (stateRes l n).1 = st at hbd ⊢
  generalize (stateRes l n).2 = e
  obtain ⟨v, s1, e1, _, K1⟩ := clo_gen (B := anyB) (most := 140737488355328 / 48) (m := m_slices_Clone_api_Entry) (r := fun _ _ => none) (r0 := r_slices_Clone_api_Entry) (c := cEntry) (sz := 5) (l := st) rfl (fun _ _ => rfl) (by omega) (fun _ _ _ _ => trivial) (hs_nil (B := anyB) σ)
  simp only
  rw [e1, Option.bind_some, sl_len K1, Option.bind_some]
  refine loop_k (Q := fun q => q.1 = .exit 0 ∧ Hs anyB σ q.2.2 (Sl (fl cEntry) 5 v (st.map zeroC) * emp)) (loop_hs st (fun i w s => w = [.int .i64 (i : Int)] ∧ Hs anyB σ s (Sl (fl cEntry) 5 v ((st.take i).map zeroC ++ st.drop i) * emp)) ?_ ?_ ⟨rfl, by simpa using K1⟩) ?_
  ·rintro i x w s hx ⟨rfl, K⟩
   have hi := (List.getElem?_eq_some_iff.1 hx).1
   have hxo : ((st.take i).map zeroC ++ st.drop i)[i]? = some x := by
    rw [List.getElem?_append_right (by simp; omega)]
    simp [Nat.min_eq_left (Nat.le_of_lt hi), hx]
   obtain ⟨p, F, e', f1, hC, K2, back⟩ := sl_cell K hxo
   have he : e' = cEntry x := (hs_pr.1 (hs_drop K2)).1
   subst he
   have K3 := hs_drop (hs_eq (show _ = pr (cEntry x = cEntry x) * (F (cEntry x) * emp) by rw [show fl cEntry (cEntry x) x = pr (cEntry x = cEntry x) from rfl]; ac_rfl) K2)
   obtain ⟨q, g1, _, g3⟩ := hC.fa 4
   obtain ⟨s', h2, K4⟩ := g3 K3 (new := [.int .i64 0]) (e' := cEntry (zeroC x)) rfl
   simp only [List.getD_cons_zero]
   rw [ix_lt hx, Option.bind_some, cnd_t, f1, Option.bind_some, g1, Option.bind_some, show A.cell (.int .i64 0) = some (.int .i64 0) from rfl, Option.bind_some, Option.bind_some, h2, Option.bind_some, ix_inc hx (by unfold mxl; omega), Option.bind_some]
   refine ⟨_, _, rfl, rfl, ?_⟩
   have K5 := back (e := cEntry (zeroC x)) (y := zeroC x) (hs_eq (show pr (cEntry (zeroC x) = cEntry (zeroC x)) * (F (cEntry (zeroC x)) * emp) = _ by rw [show fl cEntry (cEntry (zeroC x)) (zeroC x) = pr (cEntry (zeroC x) = cEntry (zeroC x)) from rfl]; ac_rfl) (hs_pr.2 ⟨rfl, K4⟩))
   have e9 : ((st.take i).map zeroC ++ st.drop i).set i (zeroC x) = (st.take (i + 1)).map zeroC ++ st.drop (i + 1) := by
    have e : st.drop i = x :: st.drop (i + 1) := by rw [List.drop_eq_getElem_cons hi, (List.getElem?_eq_some_iff.1 hx).2]
    rw [e, List.take_add_one, hx, List.set_append_right _ _ (by simp; omega)]
    rw [show i - ((st.take i).map zeroC).length = 0 by simp; omega]
    simp
   rw [← e9]; exact K5
  ·rintro w s ⟨rfl, K⟩
   simp only [List.getD_cons_zero]
   rw [ix_end, Option.bind_some, cnd_f]
   rw [List.take_length, List.drop_length, List.append_nil] at K
   exact ⟨_, rfl, by simp, rfl, K⟩
  ·rintro ⟨x, w, s⟩ ⟨h1, K⟩
   simp only at h1 K
   subst h1
   simp only [exb]
   rw [aEq, Option.bind_some]
   obtain ⟨v', j1, j2⟩ := fin_tupX (w := .bool (decide (e = 0))) (fz_bool _) fz_cEntry K
   exact ⟨_, j1, rfl, nn_retX j2⟩
 obtain ⟨⟨b, s⟩, h1, h2, h3⟩ := run
 simp only at h2 h3
 subst h2
 refine wrap_eq rfl ?_ h3
 rw [show A.nnL [Sh.e 11 [.k, .k, .k, .k, .k, .k, .k, .s 2, .k, .k, .s 8]] [sl 11 cCue l, .int .i64 n] = [sl 11 cCue l, .int .i64 n] from nn_arg1 l _]
 exact h1
theorem equalE_t (l : List EntryD) (hl : l.length ≤ mxl) (σ : Heap) : A.quiet (m_slices_Equal_api_Entry [sl 5 cEntry l, sl 5 cEntry l] σ) σ = some (.bool true) := quiet_of (h_slices_Equal_api_Entry (EqualEn_t l hl))
theorem valsR_bd (l : List CueD) (n : Int) : (valsR l n).length ≤ mxl := by
 unfold valsR; rw [List.length_map]; have := state_bd l n; unfold mxl; omega
def LooksAs (a b : List CueD) (n : Int) : Prop := (stateRes a n).2 = 0 ∧ (stateRes b n).2 = 0 ∧ valsR a n = valsR b n
theorem okC_num {l : List CueD} (hl : okL okCue l) {c : CueD} (hc : c ∈ l) : inI c.number := (hl.2 c hc).1
end
end Go.Proofs.Ytphgchakmkankaa

namespace Go.Proofs.Ytphgchakmkankaa
set_option linter.unusedSectionVars false
set_option linter.unusedVariables false
set_option linter.unusedSimpArgs false
theorem gdF (X d : Option AV) : A.guard (.bool false) false X d = X := rfl
theorem gdT (X d : Option AV) : A.guard (.bool true) true X d = X := rfl
theorem gdFx (X d : Option AV) : A.guard (.bool true) false X d = d := rfl
theorem gdTx (X d : Option AV) : A.guard (.bool false) true X d = d := rfl
theorem pkF (x y : AV) : A.pick (.bool false) x y = some y := rfl
theorem pkT (x y : AV) : A.pick (.bool true) x y = some x := rfl
theorem notT : A.not (.bool true) = some (.bool false) := rfl
theorem notF : A.not (.bool false) = some (.bool true) := rfl
def valE (st : List EntryD) (k : KeyD) : Option ValueD := (lookE st k).map (·.value)
def mvV (o : Option MoveD) (d : Option ValueD) : Option ValueD := match o with
 | some m => if m.release = true then none else some m.value
 | none => d
def sv (l : List CueD) (i : Nat) (k : KeyD) : Option ValueD := valE (beforeF (l.take i)) k
def AllS (l : List CueD) : Prop := ∀ c ∈ l, srtM c.moves
theorem good_allS {l : List CueD} (h : Good l) : AllS l := fun c hc => (h.mv c hc).2
theorem beforeF_srt (l : List CueD) : srtE (beforeF l) := (same_state l).2.1
theorem vals_eq {a b : List EntryD} (ha : srtE a) (hb : srtE b) (h : ∀ k, valE a k = valE b k) : a.map zeroC = b.map zeroC := by
 have hm : ∀ {l : List EntryD}, srtE l → (l.map zeroC).Pairwise fun x y => ltK x.key y.key = true := fun h => List.pairwise_map.2 h
 refine pw_ext (r := fun x y : EntryD => ltK x.key y.key = true) (fun x q => by rw [ltK_irr] at q; cases q) (fun x y z => ltK_trans) (hm ha) (hm hb) fun x => ?_
 have key : ∀ {l : List EntryD}, srtE l → (x ∈ l.map zeroC ↔ valE l x.key = some x.value ∧ x.cue = 0) := by
  intro l hl
  rw [List.mem_map]
  constructor
  ·rintro ⟨e, he, rfl⟩
   refine ⟨?_, rfl⟩
   unfold valE
   rw [show (zeroC e).key = e.key from rfl, (lookE_some hl).2 ⟨he, rfl⟩]; rfl
  ·rintro ⟨h1, h2⟩
   unfold valE at h1
   obtain ⟨e, he, hv⟩ := Option.map_eq_some_iff.1 h1
   obtain ⟨m1, m2⟩ := (lookE_some hl).1 he
   refine ⟨e, m1, ?_⟩
   cases x; cases e
   simp only [zeroC] at *
   subst m2; subst hv; subst h2; rfl
 rw [key ha, key hb, h]
theorem val_fold {n : Int} {k : KeyD} : ∀ (ms : List MoveD) {st : List EntryD}, srtE st → srtM ms → valE (ms.foldl (stepE n) st) k = mvV (mvK ms k) (valE st k)
 | [], st, _, _ => rfl
 | m :: ms, st, hs, hm => by
  obtain ⟨h1, h2, _⟩ := stepE_spec (n := n) hs m
  have hm' := List.pairwise_cons.1 hm
  rw [List.foldl_cons, val_fold ms h1 hm'.2]
  have e : valE (stepE n st m) k = if k = m.key then (if m.release = true then none else some m.value) else valE st k := by
   unfold valE
   rw [h2]
   split
   ·split <;> rfl
   ·rfl
  rw [e]
  by_cases hk : m.key = k
  ·have hn : mvK ms k = none := by
    unfold mvK; rw [List.find?_eq_none]
    intro z hz q
    have := hm'.1 z hz
    rw [of_decide_eq_true q, ← hk, ltK_irr] at this; cases this
   have hc : mvK (m :: ms) k = some m := by unfold mvK; rw [List.find?_cons, decide_eq_true hk]
   rw [hn, hc, if_pos hk.symm]
   rfl
  ·have hc : mvK (m :: ms) k = mvK ms k := by unfold mvK; rw [List.find?_cons, decide_eq_false hk]
   rw [hc, if_neg (fun q => hk q.symm)]
theorem sv_succ {l : List CueD} {i : Nat} {c : CueD} (hx : l[i]? = some c) (hs : srtM c.moves) (k : KeyD) : sv l (i + 1) k = mvV (mvK c.moves k) (sv l i k) := by
 unfold sv
 rw [List.take_add_one, hx, Option.toList_some, beforeF, List.foldl_append]
 exact val_fold c.moves (beforeF_srt _) hs
theorem sv_from {a b : List CueD} {i j : Nat} (hd : a.drop i = b.drop j) (ha : AllS a) (k : KeyD) (h : sv a i k = sv b j k) : ∀ d, sv a (i + d) k = sv b (j + d) k := by
 intro d
 induction d with
 | zero => exact h
 | succ d ih =>
  have e : a[i + d]? = b[j + d]? := by rw [← List.getElem?_drop, ← List.getElem?_drop, hd]
  cases hx : a[i + d]? with
  | none =>
   have hb : b[j + d]? = none := by rw [← e, hx]
   have h1 := List.getElem?_eq_none_iff.1 hx
   have h2 := List.getElem?_eq_none_iff.1 hb
   have : ∀ {l : List CueD} {n : Nat}, l.length ≤ n → sv l (n + 1) k = sv l n k := fun {l n} hn => by
    unfold sv; rw [List.take_of_length_le (by omega), List.take_of_length_le hn]
   rw [← Nat.add_assoc, ← Nat.add_assoc, this h1, this h2, ih]
  | some c =>
   have hb : b[j + d]? = some c := by rw [← e, hx]
   have hs := ha c (List.mem_of_getElem? hx)
   rw [← Nat.add_assoc, ← Nat.add_assoc, sv_succ hx hs, sv_succ hb hs, ih]
theorem sv_take {a b : List CueD} {i : Nat} (h : a.take i = b.take i) (k : KeyD) {j : Nat} (hj : j ≤ i) : sv a j k = sv b j k := by
 unfold sv
 have : a.take j = b.take j := by
  have := congrArg (List.take j) h
  rwa [List.take_take, List.take_take, Nat.min_eq_left hj] at this
 rw [this]
theorem looks_of {a b : List CueD} {n : Int} (ha : formF a = 0) (hb : formF b = 0) {i j : Nat} {x y : CueD} (hx : a[i]? = some x) (hxn : x.number = n) (hy : b[j]? = some y) (hyn : y.number = n) (h : ∀ k, sv a (i + 1) k = sv b (j + 1) k) : LooksAs a b n := by
 have hga := good_of ha
 have hgb := good_of hb
 have pa := posC_at hga.srt hx hxn
 have pb := posC_at hgb.srt hy hyn
 have ca : hasC a n = true := List.any_eq_true.2 ⟨x, List.mem_of_getElem? hx, by simp [hxn]⟩
 have cb : hasC b n = true := List.any_eq_true.2 ⟨y, List.mem_of_getElem? hy, by simp [hyn]⟩
 have ea : stateRes a n = (beforeF (a.take (i + 1)), 0) := by
  unfold stateRes; rw [if_neg (by simp [ha]), ca, if_neg (by decide), pa]
 have eb : stateRes b n = (beforeF (b.take (j + 1)), 0) := by
  unfold stateRes; rw [if_neg (by simp [hb]), cb, if_neg (by decide), pb]
 refine ⟨by rw [ea], by rw [eb], ?_⟩
 unfold valsR
 rw [ea, eb]
 exact vals_eq (beforeF_srt _) (beforeF_srt _) h
def moveOk (m : MoveD) : Prop := withinB m.key.unit 1 9999 = true ∧ nameB m.key.param = true ∧ ((m.release && (decide (¬ (m.value = (⟨0, 0⟩ : ValueD))))) || ((decide (¬ (m.value.level = 0))) && (decide (¬ (m.value.preset = 0))))) = false ∧
 ((!(withinB m.value.level 0 65535)) || (!(withinB m.value.preset 0 999))) = false ∧ ((!m.timed) && ((decide (¬ (m.delay = 0))) || (decide (¬ (m.time = 0))))) = false ∧ ((!(withinB m.delay 0 36000000)) || (!(withinB m.time 0 36000000))) = false
theorem moveF_zero (l : List MoveD) (i : Nat) (m : MoveD) : moveF l i m = 0 ↔ moveOk m ∧ (0 < i → ltK (pv l i).key m.key = true) := by
 have hi : decide (0 < (i : Int)) = decide (0 < i) := decide_eq_decide.2 (by omega)
 unfold moveF moveOk
 rw [hi]
 constructor
 ·intro h
  split at h
  ·cases h
  rename_i h1
  split at h
  ·cases h
  rename_i h2
  split at h
  ·cases h
  rename_i h3
  split at h
  ·cases h
  rename_i h4
  split at h
  ·cases h
  rename_i h5
  split at h
  ·cases h
  rename_i h6
  split at h
  ·cases h
  rename_i h7
  simp only [Bool.not_eq_true] at h3 h4 h5 h6
  refine ⟨⟨by simpa using h1, by simpa using h2, h3, h4, h5, h6⟩, fun h0 => ?_⟩
  rw [decide_eq_true h0, Bool.true_and] at h7
  simpa using h7
 ·rintro ⟨⟨h1, h2, h3, h4, h5, h6⟩, h7⟩
  rw [h1, h2, h3, h4, h5, h6]
  by_cases h0 : 0 < i
  ·rw [h7 h0]; simp
  ·rw [decide_eq_false h0]; simp
theorem movesF_zero {l : List MoveD} : movesF l = 0 ↔ (∀ m ∈ l, moveOk m) ∧ srtM l := by
 constructor
 ·intro h
  refine ⟨fun m hm => ?_, good_moves h⟩
  obtain ⟨i, hi⟩ := List.mem_iff_getElem?.1 hm
  unfold movesF at h
  have := (chkE_zero l 0).1 h i m hi
  exact ((moveF_zero _ _ _).1 this).1
 ·rintro ⟨h1, h2⟩
  unfold movesF
  refine (chkE_zero l 0).2 fun i m hi => ?_
  rw [Nat.zero_add, moveF_zero]
  refine ⟨h1 m (List.mem_of_getElem? hi), fun h0 => ?_⟩
  obtain ⟨j, rfl⟩ : ∃ j, i = j + 1 := ⟨i - 1, by omega⟩
  rw [pv_succ]
  have hj := (List.getElem?_eq_some_iff.1 hi).1
  have hx : l[j]? = some l[j] := List.getElem?_eq_getElem (by omega)
  rw [hx, Option.getD_some]
  have := List.pairwise_iff_getElem.1 h2 j (j + 1) (by omega) hj (by omega)
  rwa [(List.getElem?_eq_some_iff.1 hi).2] at this
end Go.Proofs.Ytphgchakmkankaa

namespace Go.Proofs.Ytphgchakmkankaa
set_option linter.unusedSectionVars false
set_option linter.unusedSimpArgs false
set_option linter.unusedVariables false
theorem blockF_ok {l : List CueD} (hl : okL okCue l) (n : Int) : okL okCue (blockF l n).1 := by
 unfold blockF
 split
 ·exact okL_none
 rename_i hz
 split
 ·exact okL_none
 rw [doneF_pair]
 simp only
 split
 ·exact blkOn_ok hl.2 (good_of (Decidable.not_not.1 hz)) _
 ·exact okL_none
end Go.Proofs.Ytphgchakmkankaa

namespace Go.Proofs.Ytphgchakmkankaa
set_option linter.unusedSectionVars false
set_option linter.unusedVariables false
set_option linter.unusedSimpArgs false
open HP
def insT (l : List CueD) (n : Int) : Nat := if hasC l n = true then posC l n + 1 else posC l n
theorem insAt_take {l : List CueD} {i : Nat} (hi : i ≤ l.length) (c : CueD) : (insAt l i c).take i = l.take i := by
 unfold insAt
 rw [List.append_assoc, List.take_append_of_le_length (by simp; omega), List.take_take, Nat.min_self]
theorem insAt_drop {l : List CueD} {i : Nat} (hi : i ≤ l.length) (c : CueD) : (insAt l i c).drop (i + 1) = l.drop i := by
 unfold insAt
 rw [List.drop_append]
 simp [Nat.min_eq_left hi]
theorem ins_shape {l : List CueD} (hg : Good l) (n : Int) : ∃ x0 : CueD, (recIns l n)[posC l n]? = some x0 ∧ x0.number = n ∧ srtM x0.moves ∧ (recIns l n).take (posC l n) = l.take (posC l n) ∧ (recIns l n).drop (posC l n + 1) = l.drop (insT l n) ∧ ∀ k, mvV (mvK x0.moves k) (sv l (posC l n) k) = sv l (insT l n) k := by
 unfold recIns insT
 cases hh : hasC l n
 ·rw [if_neg (by decide), if_neg (by decide)]
  have hp := posC_le l n
  refine ⟨newCue n, at_insAt hp _, rfl, List.Pairwise.nil, insAt_take hp _, insAt_drop hp _, fun k => rfl⟩
 ·rw [if_pos rfl, if_pos rfl]
  obtain ⟨x, hx, hxn⟩ := hasC_at hg hh
  have hs := good_allS hg x (List.mem_of_getElem? hx)
  exact ⟨x, hx, hxn, hs, rfl, rfl, fun k => (sv_succ hx hs k).symm⟩
theorem putAll_eq {a : Nat} : ∀ (ms : List MoveD) (o : List CueD), putAll o a ms = setMv o a fun z => ms.foldl putM z
 | [], o => (setMv_id fun _ _ => rfl).symm
 | m :: ms, o => by
  show putAll (setMv o a (putM · m)) a ms = _
  rw [putAll_eq ms, setMv_two]
  rfl
theorem putall_srt : ∀ (ms : List MoveD) {z : List MoveD}, srtM z → srtM (ms.foldl putM z)
 | [], _, h => h
 | m :: ms, _, h => putall_srt ms (srt_put h m)
theorem mvK_putall {k : KeyD} : ∀ (ms : List MoveD) {z : List MoveD}, srtM z → srtM ms → mvK (ms.foldl putM z) k = match mvK ms k with
  | some m => some m
  | none => mvK z k
 | [], z, _, _ => rfl
 | m :: ms, z, hz, hm => by
  have hm' := List.pairwise_cons.1 hm
  rw [List.foldl_cons, mvK_putall ms (srt_put hz m) hm'.2, mvK_put hz]
  have hc : mvK (m :: ms) k = if m.key = k then some m else mvK ms k := by
   unfold mvK
   rw [List.find?_cons]
   by_cases h : m.key = k
   ·rw [decide_eq_true h, if_pos h]
   ·rw [decide_eq_false h, if_neg h]
  rw [hc]
  by_cases hk : m.key = k
  ·rw [if_pos hk, if_pos hk]
   have hn : mvK ms k = none := by
    unfold mvK; rw [List.find?_eq_none]
    intro z hz q
    have := hm'.1 z hz
    rw [of_decide_eq_true q, hk, ltK_irr] at this; cases this
   rw [hn]
  ·rw [if_neg hk, if_neg hk]
theorem scan_idx : ∀ (l : List CueD) (i : Nat), scanL (fun j c => if c.block = true then some j else none) l i = if l.findIdx (·.block) < l.length then some (i + l.findIdx (·.block)) else none
 | [], i => rfl
 | c :: l, i => by
  rw [scanL, List.findIdx_cons]
  cases hb : c.block
  ·simp only [Bool.false_eq_true, if_false, cond_false]
   rw [scan_idx l (i + 1)]
   simp only [List.length_cons, Nat.add_lt_add_iff_right]
   split
   ·congr 1; omega
   ·rfl
  ·simp
def recD (l : List CueD) (n : Int) (way : Int) : Nat := if way = 1 then (l.drop (insT l n)).findIdx (·.block) else 0
def recG (l : List CueD) (n : Int) (ms : List MoveD) (D : Nat) (old : List MoveD) : List MoveD :=
 ((ms.map (·.key)).filter fun k => !(((l.drop (insT l n)).take D).any fun c => hasM c.moves k)).foldl (restP fun x => mvOf x (lookE (beforeF (l.take (insT l n + D + 1))) x)) old
theorem rec_shape {l : List CueD} (hg : Good l) (n : Int) (ms : List MoveD) (way : Int) : ∃ x0 : CueD, x0.number = n ∧ srtM x0.moves ∧ (∀ k, mvV (mvK x0.moves k) (sv l (posC l n) k) = sv l (insT l n) k) ∧
  (recF l n ms way)[posC l n]? = some { x0 with moves := ms.foldl putM x0.moves } ∧ (recF l n ms way).take (posC l n) = l.take (posC l n) ∧
  (recF l n ms way).drop (posC l n + 1) = setMv (l.drop (insT l n)) (recD l n way) (recG l n ms (recD l n way)) := by
 obtain ⟨x0, h1, h2, h3, h4, h5, h6⟩ := ins_shape hg n
 refine ⟨x0, h2, h3, h6, ?_⟩
 have hlen := congrArg List.length h5
 rw [List.length_drop] at hlen
 have hal := (List.getElem?_eq_some_iff.1 h1).1
 have hol : (putAll (recIns l n) (posC l n) ms).length = posC l n + 1 + (l.drop (insT l n)).length := by rw [putAll_len]; omega
 have hrT : ∀ D, recTo l n (posC l n + 1 + D) = insT l n + D + 1 := fun D => by unfold recTo insT; split <;> omega
 have hfin : ((recF l n ms way) = putAll (recIns l n) (posC l n) ms ∧ (l.drop (insT l n)).length ≤ recD l n way) ∨ (recF l n ms way) = setMv (putAll (recIns l n) (posC l n) ms) (posC l n + 1 + recD l n way) (recG l n ms (recD l n way)) := by
  have hnx : recNx way (putAll (recIns l n) (posC l n) ms) (posC l n) = if way = 1 ∧ ¬ (recD l n way < (l.drop (insT l n)).length) then -1 else ((posC l n + 1 + recD l n way : Nat) : Int) := by
   rw [putAll_nx]
   unfold recNx blkF recD
   by_cases hw : way = 1
   ·rw [if_pos hw, if_pos hw, h5, scan_idx]
    by_cases hlt : (l.drop (insT l n)).findIdx (·.block) < (l.drop (insT l n)).length
    ·rw [if_pos hlt, if_neg (fun q => q.2 hlt)]
    ·rw [if_neg hlt, if_pos ⟨hw, hlt⟩]
   ·rw [if_neg hw, if_neg hw, if_neg (by simp [hw])]
  by_cases hlt : recD l n way < (l.drop (insT l n)).length
  ·refine .inr ?_
   rw [if_neg (show ¬ (way = 1 ∧ ¬ recD l n way < (l.drop (insT l n)).length) from fun q => q.2 hlt)] at hnx
   unfold recF
   simp only
   rw [hnx, if_neg (by rw [hol]; omega), Int.toNat_natCast]
   refine setMv_congr fun x _ => ?_
   unfold recG recKs
   rw [hrT, show (putAll (recIns l n) (posC l n) ms).drop (posC l n + 1) = l.drop (insT l n) by rw [putAll_eq, drop_setMv_lt _ _ (Nat.lt_succ_self _), h5], show posC l n + 1 + recD l n way - (posC l n + 1) = recD l n way by omega]
   have hg' : (fun x => mvOf x (tfind x (stateF (l.take (insT l n + recD l n way + 1))))) = fun x => mvOf x (lookE (beforeF (l.take (insT l n + recD l n way + 1))) x) := funext fun x => by rw [(same_state _).2.2 x]
   rw [hg']
  ·refine .inl ⟨?_, by omega⟩
   unfold recF
   simp only
   rw [hnx]
   by_cases hw : way = 1
   ·rw [if_pos (⟨hw, hlt⟩ : way = 1 ∧ ¬ recD l n way < (l.drop (insT l n)).length), if_pos (.inl (by decide))]
   ·rw [if_neg (show ¬ (way = 1 ∧ ¬ recD l n way < (l.drop (insT l n)).length) from fun q => hw q.1), if_pos (.inr (by rw [hol]; omega))]
 have hP := putAll_eq (a := posC l n) ms (recIns l n)
 have e1 : (putAll (recIns l n) (posC l n) ms)[posC l n]? = some { x0 with moves := ms.foldl putM x0.moves } := by rw [hP, setMv_get, if_pos rfl, h1]; rfl
 have e2 : (putAll (recIns l n) (posC l n) ms).take (posC l n) = l.take (posC l n) := by rw [hP, take_setMv _ _ (Nat.le_refl _), h4]
 have e3 : (putAll (recIns l n) (posC l n) ms).drop (posC l n + 1) = l.drop (insT l n) := by rw [hP, drop_setMv_lt _ _ (Nat.lt_succ_self _), h5]
 rcases hfin with ⟨hr, hD⟩ | hr
 ·rw [hr]
  refine ⟨e1, e2, ?_⟩
  rw [e3]
  exact (setMv_id fun x hx => by rw [List.getElem?_eq_none_iff.2 hD] at hx; cases hx).symm
 ·rw [hr]
  refine ⟨by rw [setMv_get, if_neg (by omega), e1], by rw [take_setMv _ _ (by omega), e2], ?_⟩
  rw [drop_setMv _ _ _ _ (by omega), e3, show posC l n + 1 + recD l n way - (posC l n + 1) = recD l n way by omega]
theorem sv_mid {a b : List CueD} {i j : Nat} {k : KeyD} (ha : AllS a) : ∀ D, (∀ d, d < D → ∃ x, a[i + d]? = some x ∧ b[j + d]? = some x) → (sv a i k = sv b j k ∨ ∃ d x, d < D ∧ a[i + d]? = some x ∧ hasM x.moves k = true) → sv a (i + D) k = sv b (j + D) k
 | 0, _, h => by
  rcases h with h | ⟨d, _, hd, _⟩
  ·exact h
  ·omega
 | D + 1, h, hb => by
  obtain ⟨x, hx, hy⟩ := h D (Nat.lt_succ_self D)
  have hs := ha x (List.mem_of_getElem? hx)
  rw [← Nat.add_assoc, ← Nat.add_assoc, sv_succ hx hs, sv_succ hy hs]
  cases hm : mvK x.moves k with
  | some m => rfl
  | none =>
   refine sv_mid ha D (fun d hd => h d (by omega)) ?_
   rcases hb with hb | ⟨d, z, hd, hz, hzm⟩
   ·exact .inl hb
   ·refine .inr ⟨d, z, ?_, hz, hzm⟩
    by_cases e : d = D
    ·subst e
     rw [hx] at hz; injection hz with hz; subst hz
     rw [mvK_none.1 hm] at hzm; cases hzm
    ·omega
theorem rec_sv {l : List CueD} (hg : Good l) {n : Int} {ms : List MoveD} (hm : srtM ms) {way : Int} (hr : AllS (recF l n ms way)) (k : KeyD) :
  (∀ i, i ≤ posC l n → sv (recF l n ms way) i k = sv l i k) ∧
  (∀ m, mvK ms k = some m → sv (recF l n ms way) (posC l n + 1) k = mvV (some m) none) ∧
  (∀ e, recD l n way < (l.drop (insT l n)).length → recD l n way ≤ e → sv (recF l n ms way) (posC l n + 1 + e + 1) k = sv l (insT l n + e + 1) k) := by
 obtain ⟨x0, h1, h2, h3, h4, h5, h6⟩ := rec_shape hg n ms way
 have hS := good_allS hg
 have hat : sv (recF l n ms way) (posC l n + 1) k = mvV (mvK (ms.foldl putM x0.moves) k) (sv l (posC l n) k) := by
  rw [sv_succ h4 (putall_srt ms h2), sv_take h5 k (Nat.le_refl _)]
 refine ⟨fun i hi => sv_take h5 k hi, fun m e => ?_, fun e hD he => ?_⟩
 ·rw [hat, mvK_putall ms h2 hm, e]
  unfold mvV; rfl
 ·generalize recD l n way = D at hD he h6
  have hx : (l.drop (insT l n))[D]? = some (l.drop (insT l n))[D] := List.getElem?_eq_getElem hD
  generalize (l.drop (insT l n))[D] = x at hx
  have hxl : l[insT l n + D]? = some x := by rw [← List.getElem?_drop]; exact hx
  have hsx := hS x (List.mem_of_getElem? hxl)
  have hrx : (recF l n ms way)[posC l n + 1 + D]? = some { x with moves := recG l n ms D x.moves } := by
   rw [← List.getElem?_drop, h6, setMv_get, if_pos rfl, hx]; rfl
  have hrs := hr _ (List.mem_of_getElem? hrx)
  have hbet : ∀ d, d < D → ∃ x, (recF l n ms way)[posC l n + 1 + d]? = some x ∧ l[insT l n + d]? = some x := fun d hd => by
   have hy : (l.drop (insT l n))[d]? = some (l.drop (insT l n))[d] := List.getElem?_eq_getElem (by omega)
   refine ⟨_, ?_, by rw [← List.getElem?_drop]; exact hy⟩
   rw [← List.getElem?_drop, h6, setMv_get, if_neg (by omega), hy]
  have key : sv (recF l n ms way) (posC l n + 1 + D + 1) k = sv l (insT l n + D + 1) k := by
   rw [sv_succ hrx hrs]
   show mvV (mvK (recG l n ms D x.moves) k) _ = _
   unfold recG
   rw [mvK_rest (fun k => mvOf_key k _) _ hsx]
   cases hh : hasM x.moves k
   ·rw [if_neg (by decide)]
    have hn := mvK_none.2 hh
    split
    ·rename_i hk
     show _ = valE _ k
     unfold valE
     cases lookE (beforeF (l.take (insT l n + D + 1))) k <;> rfl
    ·rename_i hk
     rw [sv_succ hxl hsx, hn]
     show sv _ _ k = sv _ _ k
     refine sv_mid hr D hbet ?_
     by_cases hkm : k ∈ ms.map (·.key)
     ·refine .inr ?_
      have : (((l.drop (insT l n)).take D).any fun c => hasM c.moves k) = true := by
       cases q : ((l.drop (insT l n)).take D).any fun c => hasM c.moves k
       ·exact absurd (List.mem_filter.2 ⟨hkm, by rw [q]; rfl⟩) hk
       ·rfl
      obtain ⟨c, hc, hcm⟩ := List.any_eq_true.1 this
      obtain ⟨d, hd⟩ := List.mem_iff_getElem?.1 hc
      have hdl := (List.getElem?_eq_some_iff.1 hd).1
      rw [List.length_take] at hdl
      rw [List.getElem?_take_of_lt (by omega)] at hd
      have hdl' : l[insT l n + d]? = some c := by rw [← List.getElem?_drop]; exact hd
      obtain ⟨z, z1, z2⟩ := hbet d (by omega)
      rw [hdl'] at z2; injection z2 with z2; subst z2
      exact ⟨d, c, by omega, z1, hcm⟩
     ·refine .inl ?_
      rw [hat, mvK_putall ms h2 hm]
      have : mvK ms k = none := by
       unfold mvK; rw [List.find?_eq_none]
       intro z hz q
       exact hkm (List.mem_map.2 ⟨z, hz, of_decide_eq_true q⟩)
      rw [this]
      exact h3 k
   ·rw [if_pos rfl, sv_succ hxl hsx]
    cases hq : mvK x.moves k with
    | none => rw [mvK_none.1 hq] at hh; cases hh
    | some m => rfl
  have hdrop : (recF l n ms way).drop (posC l n + 1 + D + 1) = l.drop (insT l n + D + 1) := by
   have := congrArg (List.drop (D + 1)) h6
   rw [List.drop_drop, drop_setMv_lt _ _ (Nat.lt_succ_self D), List.drop_drop] at this
   exact this
  have := sv_from hdrop hr k key (e - D)
  rw [show posC l n + 1 + D + 1 + (e - D) = posC l n + 1 + e + 1 by omega, show insT l n + D + 1 + (e - D) = insT l n + e + 1 by omega] at this
  exact this
theorem rec_behind {l : List CueD} (hg : Good l) {n : Int} {ms : List MoveD} {way : Int} {d : Nat} {c : CueD} (hc : l[insT l n + d]? = some c) : ∃ y, (recF l n ms way)[posC l n + 1 + d]? = some y ∧ y.number = c.number := by
 obtain ⟨x0, h1, h2, h3, h4, h5, h6⟩ := rec_shape hg n ms way
 rw [← List.getElem?_drop, h6, setMv_get, List.getElem?_drop, hc]
 split
 ·exact ⟨_, rfl, rfl⟩
 ·exact ⟨_, rfl, rfl⟩
theorem rec_ahead {l : List CueD} (hg : Good l) {n : Int} {ms : List MoveD} {way : Int} {i : Nat} (hi : i < posC l n) : (recF l n ms way)[i]? = l[i]? := by
 obtain ⟨x0, h1, h2, h3, h4, h5, h6⟩ := rec_shape hg n ms way
 rw [← List.getElem?_take_of_lt hi, h5, List.getElem?_take_of_lt hi]
theorem rec_there {l : List CueD} (hg : Good l) {n : Int} {ms : List MoveD} {way : Int} : ∃ y, (recF l n ms way)[posC l n]? = some y ∧ y.number = n := by
 obtain ⟨x0, h1, h2, h3, h4, h5, h6⟩ := rec_shape hg n ms way
 exact ⟨_, h4, h1⟩
theorem rec_where {l : List CueD} (hg : Good l) {n : Int} {c : CueD} (hc : c ∈ l) : (∃ i, i < posC l n ∧ l[i]? = some c ∧ c.number < n) ∨ (c.number = n ∧ l[posC l n]? = some c) ∨ ∃ d, l[insT l n + d]? = some c ∧ n < c.number := by
 obtain ⟨i, hi⟩ := List.mem_iff_getElem?.1 hc
 have hlt := posC_lt (n := n) hg.srt hi
 by_cases h1 : c.number < n
 ·exact .inl ⟨i, hlt.1 h1, hi, h1⟩
 by_cases h2 : c.number = n
 ·refine .inr (.inl ⟨h2, ?_⟩)
  rw [posC_at hg.srt hi h2]; exact hi
 ·refine .inr (.inr ⟨i - insT l n, ?_, by omega⟩)
  have : insT l n ≤ i := by
   unfold insT
   have h3 : ¬ i < posC l n := fun q => h1 (hlt.2 q)
   split
   ·rename_i hh
    obtain ⟨x, hx, hxn⟩ := hasC_at hg hh
    have : i ≠ posC l n := fun e => by subst e; rw [hx] at hi; injection hi with hi; exact h2 (hi ▸ hxn)
    omega
   ·omega
  rw [show insT l n + (i - insT l n) = i by omega]; exact hi
theorem has_of {l : List CueD} {i : Nat} {y : CueD} {n : Int} (hy : l[i]? = some y) (hn : y.number = n) : hasC l n = true := List.any_eq_true.2 ⟨y, List.mem_of_getElem? hy, by simp [hn]⟩
theorem state_zero {l : List CueD} {n : Int} (hf : formF l = 0) (hh : hasC l n = true) : (stateRes l n).2 = 0 := by
 unfold stateRes
 rw [if_neg (by simp [hf]), hh, if_neg (by decide)]
end Go.Proofs.Ytphgchakmkankaa

namespace Go.Proofs.Ytphgchakmkankaa
set_option linter.unusedSectionVars false
set_option linter.unusedVariables false
set_option linter.unusedSimpArgs false
open HP
theorem rec_fine {l : List CueD} {n : Int} {ms : List MoveD} {way : Int} (h : (recRes l n ms way).2 = 0) : recErr l n ms way = 0 ∧ formF (recF l n ms way) = 0 ∧ (recRes l n ms way).1 = recF l n ms way := by
 unfold recRes at h ⊢
 by_cases he : recErr l n ms way = 0
 case neg => rw [if_pos he] at h; exact absurd h he
 rw [if_neg (by simp [he])] at h ⊢
 rw [doneF_pair] at h ⊢
 simp only at h ⊢
 exact ⟨he, h, if_pos h⟩
theorem rec_none {l : List CueD} {n : Int} {ms : List MoveD} {way : Int} (h : ¬ (recRes l n ms way).2 = 0) : (recRes l n ms way).1 = [] := by
 unfold recRes at h ⊢
 by_cases he : recErr l n ms way = 0
 case neg => rw [if_pos he]
 rw [if_neg (by simp [he])] at h ⊢
 rw [doneF_pair] at h ⊢
 simp only at h ⊢
 exact if_neg h
theorem rec_look {l : List CueD} {n : Int} {ms : List MoveD} {way : Int} (he : recErr l n ms way = 0) (hf : formF (recF l n ms way) = 0) {c : CueD} (hc : c ∈ l) : (stateRes l c.number).2 = 0 ∧ (stateRes (recF l n ms way) c.number).2 = 0 ∧ (c.number < n → LooksAs l (recF l n ms way) c.number) ∧
  (∀ d, l[insT l n + d]? = some c → recD l n way ≤ d → LooksAs l (recF l n ms way) c.number) := by
 obtain ⟨hl, _, _, hm, _⟩ := recErr_zero he
 have hg := good_of hl
 have hgr := good_of hf
 have hms := (movesF_zero.1 hm).2
 refine ⟨?_, ?_, ?_, ?_⟩
 ·obtain ⟨i, hi⟩ := List.mem_iff_getElem?.1 hc
  exact state_zero hl (has_of hi rfl)
 ·rcases rec_where hg (n := n) hc with ⟨i, h1, h2, _⟩ | ⟨h1, _⟩ | ⟨d, h1, _⟩
  ·exact state_zero hf (has_of (by rw [rec_ahead hg h1]; exact h2) rfl)
  ·obtain ⟨y, hy, hyn⟩ := rec_there hg (n := n) (ms := ms) (way := way)
   exact state_zero hf (has_of hy (by rw [hyn, h1]))
  ·obtain ⟨y, hy, hyn⟩ := rec_behind hg (n := n) (ms := ms) (way := way) h1
   exact state_zero hf (has_of hy hyn)
 ·intro hlt
  obtain ⟨i, hi⟩ := List.mem_iff_getElem?.1 hc
  have hip := (posC_lt (n := n) hg.srt hi).1 hlt
  exact looks_of hl hf hi rfl (by rw [rec_ahead hg hip]; exact hi) rfl fun k => ((rec_sv hg hms (way := way) (good_allS hgr) k).1 (i + 1) (by omega)).symm
 ·intro d hd hD
  obtain ⟨y, hy, hyn⟩ := rec_behind hg (n := n) (ms := ms) (way := way) hd
  have hdl := (List.getElem?_eq_some_iff.1 hd).1
  refine looks_of hl hf hd rfl hy hyn fun k => ?_
  exact ((rec_sv hg hms (way := way) (good_allS hgr) k).2.2 d (by rw [List.length_drop]; omega) hD).symm
end Go.Proofs.Ytphgchakmkankaa

namespace Go.Proofs.Ytphgchakmkankaa
set_option linter.unusedSectionVars false
set_option linter.unusedVariables false
set_option linter.unusedSimpArgs false
open HP
theorem trk_fn {c : CueD} {n : Int} (σ : Heap) : m_W5_CueBlocksStopTracking_fn1 [.agg (cCue c), .rp [.int .i64 n]] σ = some (.bool (decide (c.number = n) && c.block), σ) := by
 refine wrap_eq rfl ?_ rfl
 show r_W5_CueBlocksStopTracking_fn1 (.agg (cCue c)) (.rp [.int .i64 n]) σ = _
 unfold r_W5_CueBlocksStopTracking_fn1
 rw [show A.cells 11 (.agg (cCue c)) = some (cCue c) from rfl, Option.bind_some, show A.part1 0 (cCue c) = some (.int .i64 c.number) from rfl, Option.bind_some]
 simp only [A.deref, Option.bind_some]
 rw [show A.part1 0 [AV.int .i64 n] = some (.int .i64 n) from rfl, Option.bind_some, aEq, Option.bind_some]
 by_cases h : c.number = n
 ·rw [decide_eq_true h]
  simp only [A.guard, beq_self_eq_true, cond_true, Bool.true_and, A.pick]
  rw [show A.part1 8 (cCue c) = some (.bool c.block) from rfl]
  simp only [Option.bind_some]
  exact fin_same _ _
 ·rw [decide_eq_false h]
  simp only [A.guard, show (false == true) = false from rfl, cond_false, Option.bind_some, Bool.false_and, A.pick]
  exact fin_same _ _
theorem blk_there {l : List CueD} {n : Int} (h : (blockF l n).2 = 0) : formF l = 0 ∧ formF (blockF l n).1 = 0 ∧ ∃ (i : Nat) (c : CueD), (blockF l n).1[i]? = some c ∧ c.number = n ∧ c.block = true := by
 unfold blockF at h ⊢
 by_cases hf : formF l = 0
 case neg => rw [if_pos hf] at h; exact absurd h hf
 rw [if_neg (by simp [hf])] at h ⊢
 cases hh : hasC l n
 ·rw [hh, if_pos rfl] at h; cases h
 rw [hh, if_neg (by decide)] at h
 rw [if_neg (by decide)]
 rw [doneF_pair] at h ⊢
 simp only at h ⊢
 rw [if_pos h]
 obtain ⟨x, hx, hxn⟩ := hasC_at (good_of hf) hh
 refine ⟨hf, h, posC l n, { x with block := true, moves := ((beforeF (l.take (posC l n + 1))).map (·.key)).foldl (restP fun k => mvOf k (lookE (beforeF (l.take (posC l n + 1))) k)) x.moves }, ?_, hxn, rfl⟩
 unfold blkOn
 rw [hx]
 simp only
 rw [List.getElem?_set, if_pos rfl, if_pos (List.getElem?_eq_some_iff.1 hx).1]
theorem blk_none {l : List CueD} {n : Int} (h : ¬ (blockF l n).2 = 0) : (blockF l n).1 = [] := by
 unfold blockF at h ⊢
 by_cases hf : formF l = 0
 case neg => rw [if_pos hf]
 rw [if_neg (by simp [hf])] at h ⊢
 cases hh : hasC l n
 ·rw [if_pos rfl]
 rw [hh, if_neg (by decide)] at h
 rw [if_neg (by decide)]
 rw [doneF_pair] at h ⊢
 exact if_neg h
theorem trk_look {b : List CueD} {p n : Int} {ms : List MoveD} (he : recErr b p ms 1 = 0) (hf : formF (recF b p ms 1) = 0) {i : Nat} {x : CueD} (hx : b[i]? = some x) (hxn : x.number = n) (hxb : x.block = true) (hp : p < n) : ∀ c ∈ b, n ≤ c.number → LooksAs b (recF b p ms 1) c.number := by
 intro c hc hge
 obtain ⟨hb, _⟩ := recErr_zero he
 have hg := good_of hb
 obtain ⟨_, _, _, h2⟩ := rec_look he hf hc
 rcases rec_where hg (n := p) hc with ⟨_, _, _, h⟩ | ⟨h, _⟩ | ⟨d, h, _⟩
 ·omega
 ·omega
 ·refine h2 d h ?_
  rcases rec_where hg (n := p) (List.mem_of_getElem? hx) with ⟨_, _, _, h'⟩ | ⟨h', _⟩ | ⟨e, h', _⟩
  ·omega
  ·omega
  ·have hed : e ≤ d := by
    by_cases q : e ≤ d
    ·exact q
    ·exfalso
     have h1 := (List.getElem?_eq_some_iff.1 h)
     have h3 := (List.getElem?_eq_some_iff.1 h')
     have := List.pairwise_iff_getElem.1 hg.srt (insT b p + d) (insT b p + e) h1.1 h3.1 (by omega)
     rw [h1.2, h3.2] at this
     omega
   refine Nat.le_trans ?_ hed
   unfold recD
   rw [if_pos rfl]
   have hd' : (b.drop (insT b p))[e]? = some x := by rw [List.getElem?_drop]; exact h'
   obtain ⟨q1, q2⟩ := List.getElem?_eq_some_iff.1 hd'
   rcases Nat.lt_or_ge e ((b.drop (insT b p)).findIdx (·.block)) with q | q
   ·exfalso
    have := List.not_of_lt_findIdx q
    rw [q2, hxb] at this
    simp at this
   ·exact q
theorem h_W5_CueBlocksStopTracking {l : List CueD} {n p : Int} {ms : List MoveD} {σ : Heap} (h : okL okCue l ∧ inI n ∧ inI p ∧ okL okMove ms) : m_W5_CueBlocksStopTracking [sl 11 cCue l, .int .i64 n, .int .i64 p, sl 8 cMove ms] σ = some (.bool true, σ) := by
 obtain ⟨hl, hn, hp, hm⟩ := h
 have run : ∃ q, r_W5_CueBlocksStopTracking (sl 11 cCue l) (.int .i64 n) (.int .i64 p) (sl 8 cMove ms) σ = some q ∧ q = (.bool true, σ) := by
  unfold r_W5_CueBlocksStopTracking
  have hbok := blockF_ok hl n
  rw [show (((A.cell (.int .i64 n)).bind fun v => some [v]).bind fun cs => some (AV.rp cs)) = some (.rp [.int .i64 n]) from rfl, Option.bind_some]
  have hdr : ∀ s, ((A.deref (.rp [.int .i64 n]) s).bind fun c => A.part1 0 c) = some (.int .i64 n) := fun s => rfl
  rw [hdr, Option.bind_some, Block_s hl hn σ, Option.bind_some, ext0, Option.bind_some, ext1, Option.bind_some, aNeI, Option.bind_some]
  by_cases hz : (blockF l n).2 = 0
  case neg =>
   rw [decide_eq_true hz, cnd_t, lenS_sl, Option.bind_some, blk_none hz, aEq, Option.bind_some]
   exact ⟨_, fin_same _ _, rfl⟩
  obtain ⟨hf, hbf, i, x, hx, hxn, hxb⟩ := blk_there hz
  generalize (blockF l n).1 = b at hbok hbf hx
  have hcf : m_slices_ContainsFunc_api_Cue (A.tab (fun _ _ => none) [(314, m_W5_CueBlocksStopTracking_fn1), (314, m_W5_CueBlocksStopTracking_fn1)]) [sl 11 cCue b, .fn 314 [.rp [.int .i64 n]]] σ = some (.bool true, σ) := by
   rw [m_slices_ContainsFunc_api_Cue_eq _ b hbok.1 _ _ (fun c : CueD => decide (c.number = n) && c.block) σ (fun c _ => trk_fn σ)]
   rw [show (b.any fun c : CueD => decide (c.number = n) && c.block) = true from List.any_eq_true.2 ⟨x, List.mem_of_getElem? hx, by simp [hxn, hxb]⟩]
  rw [decide_eq_false (by simp [hz]), cnd_f, hcf, Option.bind_some, show A.not (.bool true) = some (.bool false) from rfl, Option.bind_some, cnd_f, hdr, Option.bind_some, aGeq, Option.bind_some]
  by_cases hlt : n ≤ p
  ·rw [decide_eq_true hlt, cnd_t]
   exact ⟨_, fin_same _ _, rfl⟩
  rw [decide_eq_false hlt, cnd_f]
  have hrok := recRes_ok hbok hp hm 1
  rw [Record_s hbok hp hm 1 σ, Option.bind_some, ext0, Option.bind_some, ext1, Option.bind_some, aNeI, Option.bind_some]
  by_cases hy : (recRes b p ms 1).2 = 0
  case neg =>
   rw [decide_eq_true hy, cnd_t, lenS_sl, Option.bind_some, rec_none hy, aEq, Option.bind_some]
   exact ⟨_, fin_same _ _, rfl⟩
  obtain ⟨he, hrf, e1⟩ := rec_fine hy
  rw [e1] at hrok
  rw [e1, decide_eq_false (by simp [hy]), cnd_f, lenS_sl, Option.bind_some]
  refine loop_k (Q := fun q => q.1 = .exit 0 ∧ q.2.2 = σ) (loop_hs b (fun i v s => v = [.bool false, .int .i64 (i : Int)] ∧ s = σ) ?_ ?_ ⟨rfl, rfl⟩) ?_
  ·rintro i c v s hc ⟨rfl, rfl⟩
   have hmm := List.mem_of_getElem? hc
   have hcn := okC_num hbok hmm
   obtain ⟨k1, k2, _, _⟩ := rec_look he hrf hmm
   simp only [List.getD_cons_zero, List.getD_cons_succ]
   rw [ix_lt hc, Option.bind_some, cnd_t, ix_for hc, Option.bind_some, show ((A.deref (.rp (cCue c)) s).bind fun c => A.partA 0 11 c) = some (.agg (cCue c)) from pA_cCue c, Option.bind_some, ce_cCue, Option.bind_some, sp_cCue c _ rfl, Option.bind_some, show A.part1 0 (cCue c) = some (.int .i64 c.number) from rfl, Option.bind_some, values_t hbok hcn, Option.bind_some, ext0, Option.bind_some, ext1, Option.bind_some, Option.bind_some, values_t hrok hcn, Option.bind_some, ext0, Option.bind_some, ext1, Option.bind_some, decide_eq_true k1, decide_eq_true k2]
   simp only [gdF, gdT, gdFx, gdTx, pkF, pkT, notT, notF, Option.bind_some]
   rw [hdr]
   simp only [gdF, gdT, gdFx, gdTx, pkF, pkT, notT, notF, Option.bind_some]
   rw [aGeq]
   simp only [gdF, gdT, gdFx, gdTx, pkF, pkT, notT, notF, Option.bind_some]
   by_cases hle : n ≤ c.number
   ·obtain ⟨_, _, hv⟩ := trk_look he hrf hx hxn hxb (by omega) c hmm hle
    rw [decide_eq_true hle]
    simp only [gdF, gdT, gdFx, gdTx, pkF, pkT, notT, notF, Option.bind_some]
    rw [hv, equalE_t _ (valsR_bd _ _)]
    simp only [gdF, gdT, gdFx, gdTx, pkF, pkT, notT, notF, Option.bind_some]
    rw [cnd_f, ix_inc hc hbok.1, Option.bind_some]
    exact ⟨_, _, rfl, rfl, rfl⟩
   ·rw [decide_eq_false hle]
    simp only [gdF, gdT, gdFx, gdTx, pkF, pkT, notT, notF, Option.bind_some]
    rw [cnd_f, ix_inc hc hbok.1, Option.bind_some]
    exact ⟨_, _, rfl, rfl, rfl⟩
  ·rintro v s ⟨rfl, rfl⟩
   simp only [List.getD_cons_zero, List.getD_cons_succ]
   rw [ix_end, Option.bind_some, cnd_f]
   exact ⟨_, rfl, by simp, rfl, rfl⟩
  ·rintro ⟨x, v, s⟩ ⟨h1, h2⟩
   simp only at h1 h2
   subst h1; subst h2
   simp only [exb]
   exact ⟨_, fin_same _ _, rfl⟩
 obtain ⟨q, h1, rfl⟩ := run
 refine wrap_eq rfl ?_ rfl
 rw [show A.nnL [Sh.e 11 [.k, .k, .k, .k, .k, .k, .k, .s 2, .k, .k, .s 8], .k, .k, .s 8] [sl 11 cCue l, .int .i64 n, .int .i64 p, sl 8 cMove ms] = [sl 11 cCue l, .int .i64 n, .int .i64 p, sl 8 cMove ms] from nn_t1 (nn_idem_cues l) (nn_t1 (nn_k _) (nn_t1 (nn_k _) (nn_t1 (nn_sm ms) rfl)))]
 exact h1
theorem cueBlocksStopTracking_true (l : List CueD) (n p : Int) (ms : List MoveD) (hl : okL okCue l) (hn : inI n) (hp : inI p) (hm : okL okMove ms) : okL okCue l ∧ inI n ∧ inI p ∧ okL okMove ms := ⟨hl, hn, hp, hm⟩
end Go.Proofs.Ytphgchakmkankaa

namespace Go.Proofs.Ytphgchakmkankaa
set_option linter.unusedSectionVars false
set_option linter.unusedSimpArgs false
set_option linter.unusedVariables false
open Go.ChangeShapes Go.WideShapes Go.ChangeAt Go.RowKit

theorem own : ownKnob Try.prog.godebug = none := by kernel_rfl
theorem laidOut : laidOutB Try.prog = true := by kernel_rfl

theorem trodAll_below {H : Type} {enc : TypeId × Value → H} {P : Program} (hl : laidOutB P = true) {W W' : World} (hb : Below W.heap.size W W') :
  ∀ {ts : List TypeId} {vs : List Value} {ds : List (DataW H)} {ps : List MemPlace}, (ts.all fun t => P.readableRec t && decide (t < P.types.size)) = true →
   DataW.TrodAll enc P W 0 (fun _ => true) true ts vs ds ps → (∀ x ∈ ps, x.block < W.heap.size) → DataW.TrodAll enc P W' 0 (fun b => decide (b < W.heap.size)) true ts vs ds ps
 | [], [], [], _, _, h, _ => h
 | t :: ts, v :: vs, d :: ds, ps, hts, h, hlt => by
  obtain ⟨p, q, h1, h2, rfl⟩ := h
  simp only [List.all_cons, Bool.and_eq_true, decide_eq_true_eq] at hts
  exact ⟨p, q, Below.trod hl hts.1.1 hts.1.2 h1 hb (fun x hx => hlt x (List.mem_append_left _ hx)),
   trodAll_below hl hb (by simpa using hts.2) h2 (fun x hx => hlt x (List.mem_append_right _ hx)), rfl⟩
 | [], _ :: _, _, _, _, h, _ => h.elim
 | [], [], _ :: _, _, _, h, _ => h.elim
 | _ :: _, [], _, _, _, h, _ => h.elim
 | _ :: _, _ :: _, [], _, _, h, _ => h.elim

theorem law_post {H : Type} {enc : TypeId × Value → H} {f : Func} {s : ChangeSpec} {W W' : World} {args : Array Value} {ds gs : List (DataW H)} {before : List MemPlace} {t : TypeId}
  (hts : (f.params.toList.all fun t => Try.prog.readableRec t && decide (t < Try.prog.types.size)) = true) (hrt : f.resultTypes = #[t]) (ht : Try.prog.underlying t = some .bool) (hvs : s.vars = [])
  (hW : DataW.Whole enc Try.prog f.params.toList s.vars false W args.toList ds gs before) (hb : Below W.heap.size W W')
  (hspec : s.fn H (ds ++ gs) = { results := [.lit (.bool true)], args := ds }) :
  s.post enc Try.prog f false true false false W args (.bool true) W' := by
 have hW' := hW
 obtain ⟨p, q, hA, hV, rfl, hfz, hnd⟩ := hW
 have hlt : ∀ x ∈ p ++ q, x.block < W.heap.size := fun x hx => hW'.lt x hx
 refine ⟨ds, gs, p ++ q, [], p, [], hW', ?_, ?_, ?_, hb.frame _, fun h => by cases h⟩
 ·rw [hspec, hrt]
  exact trodAll_cons_mk (shut_bool ht _) trodAll_mk0
 ·rw [hspec]
  exact trodAll_below laidOut hb hts hA (fun x hx => hlt x (List.mem_append_left _ hx))
 ·rw [hspec, hvs]
  exact rfl
end Go.Proofs.Ytphgchakmkankaa

namespace Go.Proofs.Ytphgchakmkankaa
set_option linter.unusedSectionVars false
open Go.RowKit
set_option linter.unusedVariables false
set_option linter.unusedSimpArgs false

def Gr (w w' : World) : Prop := Below w.heap.size w w'
theorem Gr.refl (w : World) : Gr w w := Below.refl _ _
theorem Gr.below {w w' : World} (h : Gr w w') : Below w.heap.size w w' := h
theorem Gr.of {w w' : World} (h : Below w.heap.size w w') : Gr w w' := h
theorem Gr.trans {a b c : World} (h : Gr a b) (k : Gr b c) : Gr a c := Below.trans h (Below.mono k (Below.size h))
theorem Gr.alloc {a b : World} (h : Gr a b) (o : Obj) : Gr a (b.alloc o) := Below.alloc h (Below.size h) o
theorem Gr.drew {a b : World} (h : Gr a b) : Gr a b.drew := Below.drew h
theorem Gr.drewN {a b : World} (h : Gr a b) (n : Nat) : Gr a (b.drewN n) := ⟨h.os, h.tape, h.output, h.size, h.block⟩
theorem Gr.set {a b : World} (h : Gr a b) {k o : Nat} (hp : a.heap.size ≤ k) (u : Value) : Gr a (b.setCell ⟨k, o, none⟩ u) := Below.setCell h hp u
theorem Gr.put {a b : World} {k o : Nat} (hp : a.heap.size ≤ k) (h : Gr a b) (u : Value) : Gr a (b.setCell ⟨k, o, none⟩ u) := Below.setCell h hp u
theorem Gr.after {a b c : World} (k : Gr b c) (h : Gr a b) : Gr a c := h.trans k
theorem Gr.size {a b : World} (h : Gr a b) : a.heap.size ≤ b.heap.size := Below.size h
theorem Gr.cell {a b : World} (h : Gr a b) {p : Addr} {v : Value} (hc : a.cell? p = some v) : b.cell? p = some v := by
 by_cases hp : p.block < a.heap.size
 ·rw [Below.cell h hp]; exact hc
 ·have : a.heap[p.block]? = none := Array.getElem?_eq_none (by omega)
  simp [World.cell?, this] at hc
theorem Gr.free {a b : World} (h : Gr a b) {p : Addr} (hp : p.block < a.heap.size) {x : Bool} (hc : a.frozen? p = x) : b.frozen? p = x := by
 rw [Below.frozen h hp]; exact hc
theorem Gr.lt {w w1 : World} {o : Obj} (h : Gr (w.alloc o) w1) : w.heap.size < w1.heap.size := by have := h.size; simp at this; omega
abbrev Box1 (w : World) (b : Nat) (v0 : Value) : Prop := (w.cell? ⟨b, 0, none⟩ = some v0) ∧ (w.frozen? ⟨b, 0, none⟩ = false) ∧ b < w.heap.size
theorem Box1.mono {w w1 : World} {b : Nat} {v0 : Value} (k : Box1 w b v0) (h : Gr w w1) : Box1 w1 b v0 := by
 obtain ⟨k0, f0, hlt⟩ := k
 exact ⟨h.cell k0, h.free (by exact hlt) f0, Nat.lt_of_lt_of_le hlt h.size⟩
theorem Box1.of {w : World} {b : Nat} {v0 : Value} {t : TypeId} (h : w.heap[b]? = some (.cells #[v0] t (0, 0))) : Box1 w b v0 := by
 have hlt : b < w.heap.size := (Array.getElem?_eq_some_iff.1 h).1
 refine ⟨?_, ?_, hlt⟩ <;> simp [World.cell?, World.frozen?, h]
theorem Box1.at {w w1 : World} {b : Nat} {v0 : Value} {t : TypeId} (g : Gr w w1) (h : w.heap[b]? = some (.cells #[v0] t (0, 0))) : Box1 w1 b v0 := (Box1.of h).mono g
abbrev Box2 (w : World) (b : Nat) (v0 v1 : Value) : Prop := (w.cell? ⟨b, 0, none⟩ = some v0 ∧ w.cell? ⟨b, 1, none⟩ = some v1) ∧ (w.frozen? ⟨b, 0, none⟩ = false ∧ w.frozen? ⟨b, 1, none⟩ = false) ∧ b < w.heap.size
theorem Box2.mono {w w1 : World} {b : Nat} {v0 v1 : Value} (k : Box2 w b v0 v1) (h : Gr w w1) : Box2 w1 b v0 v1 := by
 obtain ⟨⟨k0, k1⟩, ⟨f0, f1⟩, hlt⟩ := k
 exact ⟨⟨h.cell k0, h.cell k1⟩, ⟨h.free (by exact hlt) f0, h.free (by exact hlt) f1⟩, Nat.lt_of_lt_of_le hlt h.size⟩
theorem Box2.of {w : World} {b : Nat} {v0 v1 : Value} {t : TypeId} (h : w.heap[b]? = some (.cells #[v0, v1] t (0, 0))) : Box2 w b v0 v1 := by
 have hlt : b < w.heap.size := (Array.getElem?_eq_some_iff.1 h).1
 refine ⟨⟨?_, ?_⟩, ⟨?_, ?_⟩, hlt⟩ <;> simp [World.cell?, World.frozen?, h]
theorem Box2.at {w w1 : World} {b : Nat} {v0 v1 : Value} {t : TypeId} (g : Gr w w1) (h : w.heap[b]? = some (.cells #[v0, v1] t (0, 0))) : Box2 w1 b v0 v1 := (Box2.of h).mono g
abbrev Box3 (w : World) (b : Nat) (v0 v1 v2 : Value) : Prop := (w.cell? ⟨b, 0, none⟩ = some v0 ∧ w.cell? ⟨b, 1, none⟩ = some v1 ∧ w.cell? ⟨b, 2, none⟩ = some v2) ∧ (w.frozen? ⟨b, 0, none⟩ = false ∧ w.frozen? ⟨b, 1, none⟩ = false ∧ w.frozen? ⟨b, 2, none⟩ = false) ∧ b < w.heap.size
theorem Box3.mono {w w1 : World} {b : Nat} {v0 v1 v2 : Value} (k : Box3 w b v0 v1 v2) (h : Gr w w1) : Box3 w1 b v0 v1 v2 := by
 obtain ⟨⟨k0, k1, k2⟩, ⟨f0, f1, f2⟩, hlt⟩ := k
 exact ⟨⟨h.cell k0, h.cell k1, h.cell k2⟩, ⟨h.free (by exact hlt) f0, h.free (by exact hlt) f1, h.free (by exact hlt) f2⟩, Nat.lt_of_lt_of_le hlt h.size⟩
theorem Box3.of {w : World} {b : Nat} {v0 v1 v2 : Value} {t : TypeId} (h : w.heap[b]? = some (.cells #[v0, v1, v2] t (0, 0))) : Box3 w b v0 v1 v2 := by
 have hlt : b < w.heap.size := (Array.getElem?_eq_some_iff.1 h).1
 refine ⟨⟨?_, ?_, ?_⟩, ⟨?_, ?_, ?_⟩, hlt⟩ <;> simp [World.cell?, World.frozen?, h]
theorem Box3.at {w w1 : World} {b : Nat} {v0 v1 v2 : Value} {t : TypeId} (g : Gr w w1) (h : w.heap[b]? = some (.cells #[v0, v1, v2] t (0, 0))) : Box3 w1 b v0 v1 v2 := (Box3.of h).mono g
abbrev Box4 (w : World) (b : Nat) (v0 v1 v2 v3 : Value) : Prop := (w.cell? ⟨b, 0, none⟩ = some v0 ∧ w.cell? ⟨b, 1, none⟩ = some v1 ∧ w.cell? ⟨b, 2, none⟩ = some v2 ∧ w.cell? ⟨b, 3, none⟩ = some v3) ∧ (w.frozen? ⟨b, 0, none⟩ = false ∧ w.frozen? ⟨b, 1, none⟩ = false ∧ w.frozen? ⟨b, 2, none⟩ = false ∧ w.frozen? ⟨b, 3, none⟩ = false) ∧ b < w.heap.size
theorem Box4.mono {w w1 : World} {b : Nat} {v0 v1 v2 v3 : Value} (k : Box4 w b v0 v1 v2 v3) (h : Gr w w1) : Box4 w1 b v0 v1 v2 v3 := by
 obtain ⟨⟨k0, k1, k2, k3⟩, ⟨f0, f1, f2, f3⟩, hlt⟩ := k
 exact ⟨⟨h.cell k0, h.cell k1, h.cell k2, h.cell k3⟩, ⟨h.free (by exact hlt) f0, h.free (by exact hlt) f1, h.free (by exact hlt) f2, h.free (by exact hlt) f3⟩, Nat.lt_of_lt_of_le hlt h.size⟩
theorem Box4.of {w : World} {b : Nat} {v0 v1 v2 v3 : Value} {t : TypeId} (h : w.heap[b]? = some (.cells #[v0, v1, v2, v3] t (0, 0))) : Box4 w b v0 v1 v2 v3 := by
 have hlt : b < w.heap.size := (Array.getElem?_eq_some_iff.1 h).1
 refine ⟨⟨?_, ?_, ?_, ?_⟩, ⟨?_, ?_, ?_, ?_⟩, hlt⟩ <;> simp [World.cell?, World.frozen?, h]
theorem Box4.at {w w1 : World} {b : Nat} {v0 v1 v2 v3 : Value} {t : TypeId} (g : Gr w w1) (h : w.heap[b]? = some (.cells #[v0, v1, v2, v3] t (0, 0))) : Box4 w1 b v0 v1 v2 v3 := (Box4.of h).mono g
abbrev Box5 (w : World) (b : Nat) (v0 v1 v2 v3 v4 : Value) : Prop := (w.cell? ⟨b, 0, none⟩ = some v0 ∧ w.cell? ⟨b, 1, none⟩ = some v1 ∧ w.cell? ⟨b, 2, none⟩ = some v2 ∧ w.cell? ⟨b, 3, none⟩ = some v3 ∧ w.cell? ⟨b, 4, none⟩ = some v4) ∧ (w.frozen? ⟨b, 0, none⟩ = false ∧ w.frozen? ⟨b, 1, none⟩ = false ∧ w.frozen? ⟨b, 2, none⟩ = false ∧ w.frozen? ⟨b, 3, none⟩ = false ∧ w.frozen? ⟨b, 4, none⟩ = false) ∧ b < w.heap.size
theorem Box5.mono {w w1 : World} {b : Nat} {v0 v1 v2 v3 v4 : Value} (k : Box5 w b v0 v1 v2 v3 v4) (h : Gr w w1) : Box5 w1 b v0 v1 v2 v3 v4 := by
 obtain ⟨⟨k0, k1, k2, k3, k4⟩, ⟨f0, f1, f2, f3, f4⟩, hlt⟩ := k
 exact ⟨⟨h.cell k0, h.cell k1, h.cell k2, h.cell k3, h.cell k4⟩, ⟨h.free (by exact hlt) f0, h.free (by exact hlt) f1, h.free (by exact hlt) f2, h.free (by exact hlt) f3, h.free (by exact hlt) f4⟩, Nat.lt_of_lt_of_le hlt h.size⟩
theorem Box5.of {w : World} {b : Nat} {v0 v1 v2 v3 v4 : Value} {t : TypeId} (h : w.heap[b]? = some (.cells #[v0, v1, v2, v3, v4] t (0, 0))) : Box5 w b v0 v1 v2 v3 v4 := by
 have hlt : b < w.heap.size := (Array.getElem?_eq_some_iff.1 h).1
 refine ⟨⟨?_, ?_, ?_, ?_, ?_⟩, ⟨?_, ?_, ?_, ?_, ?_⟩, hlt⟩ <;> simp [World.cell?, World.frozen?, h]
theorem Box5.at {w w1 : World} {b : Nat} {v0 v1 v2 v3 v4 : Value} {t : TypeId} (g : Gr w w1) (h : w.heap[b]? = some (.cells #[v0, v1, v2, v3, v4] t (0, 0))) : Box5 w1 b v0 v1 v2 v3 v4 := (Box5.of h).mono g
abbrev Box6 (w : World) (b : Nat) (v0 v1 v2 v3 v4 v5 : Value) : Prop := (w.cell? ⟨b, 0, none⟩ = some v0 ∧ w.cell? ⟨b, 1, none⟩ = some v1 ∧ w.cell? ⟨b, 2, none⟩ = some v2 ∧ w.cell? ⟨b, 3, none⟩ = some v3 ∧ w.cell? ⟨b, 4, none⟩ = some v4 ∧ w.cell? ⟨b, 5, none⟩ = some v5) ∧ (w.frozen? ⟨b, 0, none⟩ = false ∧ w.frozen? ⟨b, 1, none⟩ = false ∧ w.frozen? ⟨b, 2, none⟩ = false ∧ w.frozen? ⟨b, 3, none⟩ = false ∧ w.frozen? ⟨b, 4, none⟩ = false ∧ w.frozen? ⟨b, 5, none⟩ = false) ∧ b < w.heap.size
theorem Box6.mono {w w1 : World} {b : Nat} {v0 v1 v2 v3 v4 v5 : Value} (k : Box6 w b v0 v1 v2 v3 v4 v5) (h : Gr w w1) : Box6 w1 b v0 v1 v2 v3 v4 v5 := by
 obtain ⟨⟨k0, k1, k2, k3, k4, k5⟩, ⟨f0, f1, f2, f3, f4, f5⟩, hlt⟩ := k
 exact ⟨⟨h.cell k0, h.cell k1, h.cell k2, h.cell k3, h.cell k4, h.cell k5⟩, ⟨h.free (by exact hlt) f0, h.free (by exact hlt) f1, h.free (by exact hlt) f2, h.free (by exact hlt) f3, h.free (by exact hlt) f4, h.free (by exact hlt) f5⟩, Nat.lt_of_lt_of_le hlt h.size⟩
theorem Box6.of {w : World} {b : Nat} {v0 v1 v2 v3 v4 v5 : Value} {t : TypeId} (h : w.heap[b]? = some (.cells #[v0, v1, v2, v3, v4, v5] t (0, 0))) : Box6 w b v0 v1 v2 v3 v4 v5 := by
 have hlt : b < w.heap.size := (Array.getElem?_eq_some_iff.1 h).1
 refine ⟨⟨?_, ?_, ?_, ?_, ?_, ?_⟩, ⟨?_, ?_, ?_, ?_, ?_, ?_⟩, hlt⟩ <;> simp [World.cell?, World.frozen?, h]
theorem Box6.at {w w1 : World} {b : Nat} {v0 v1 v2 v3 v4 v5 : Value} {t : TypeId} (g : Gr w w1) (h : w.heap[b]? = some (.cells #[v0, v1, v2, v3, v4, v5] t (0, 0))) : Box6 w1 b v0 v1 v2 v3 v4 v5 := (Box6.of h).mono g
abbrev Box7 (w : World) (b : Nat) (v0 v1 v2 v3 v4 v5 v6 : Value) : Prop := (w.cell? ⟨b, 0, none⟩ = some v0 ∧ w.cell? ⟨b, 1, none⟩ = some v1 ∧ w.cell? ⟨b, 2, none⟩ = some v2 ∧ w.cell? ⟨b, 3, none⟩ = some v3 ∧ w.cell? ⟨b, 4, none⟩ = some v4 ∧ w.cell? ⟨b, 5, none⟩ = some v5 ∧ w.cell? ⟨b, 6, none⟩ = some v6) ∧ (w.frozen? ⟨b, 0, none⟩ = false ∧ w.frozen? ⟨b, 1, none⟩ = false ∧ w.frozen? ⟨b, 2, none⟩ = false ∧ w.frozen? ⟨b, 3, none⟩ = false ∧ w.frozen? ⟨b, 4, none⟩ = false ∧ w.frozen? ⟨b, 5, none⟩ = false ∧ w.frozen? ⟨b, 6, none⟩ = false) ∧ b < w.heap.size
theorem Box7.mono {w w1 : World} {b : Nat} {v0 v1 v2 v3 v4 v5 v6 : Value} (k : Box7 w b v0 v1 v2 v3 v4 v5 v6) (h : Gr w w1) : Box7 w1 b v0 v1 v2 v3 v4 v5 v6 := by
 obtain ⟨⟨k0, k1, k2, k3, k4, k5, k6⟩, ⟨f0, f1, f2, f3, f4, f5, f6⟩, hlt⟩ := k
 exact ⟨⟨h.cell k0, h.cell k1, h.cell k2, h.cell k3, h.cell k4, h.cell k5, h.cell k6⟩, ⟨h.free (by exact hlt) f0, h.free (by exact hlt) f1, h.free (by exact hlt) f2, h.free (by exact hlt) f3, h.free (by exact hlt) f4, h.free (by exact hlt) f5, h.free (by exact hlt) f6⟩, Nat.lt_of_lt_of_le hlt h.size⟩
theorem Box7.of {w : World} {b : Nat} {v0 v1 v2 v3 v4 v5 v6 : Value} {t : TypeId} (h : w.heap[b]? = some (.cells #[v0, v1, v2, v3, v4, v5, v6] t (0, 0))) : Box7 w b v0 v1 v2 v3 v4 v5 v6 := by
 have hlt : b < w.heap.size := (Array.getElem?_eq_some_iff.1 h).1
 refine ⟨⟨?_, ?_, ?_, ?_, ?_, ?_, ?_⟩, ⟨?_, ?_, ?_, ?_, ?_, ?_, ?_⟩, hlt⟩ <;> simp [World.cell?, World.frozen?, h]
theorem Box7.at {w w1 : World} {b : Nat} {v0 v1 v2 v3 v4 v5 v6 : Value} {t : TypeId} (g : Gr w w1) (h : w.heap[b]? = some (.cells #[v0, v1, v2, v3, v4, v5, v6] t (0, 0))) : Box7 w1 b v0 v1 v2 v3 v4 v5 v6 := (Box7.of h).mono g
abbrev Box8 (w : World) (b : Nat) (v0 v1 v2 v3 v4 v5 v6 v7 : Value) : Prop := (w.cell? ⟨b, 0, none⟩ = some v0 ∧ w.cell? ⟨b, 1, none⟩ = some v1 ∧ w.cell? ⟨b, 2, none⟩ = some v2 ∧ w.cell? ⟨b, 3, none⟩ = some v3 ∧ w.cell? ⟨b, 4, none⟩ = some v4 ∧ w.cell? ⟨b, 5, none⟩ = some v5 ∧ w.cell? ⟨b, 6, none⟩ = some v6 ∧ w.cell? ⟨b, 7, none⟩ = some v7) ∧ (w.frozen? ⟨b, 0, none⟩ = false ∧ w.frozen? ⟨b, 1, none⟩ = false ∧ w.frozen? ⟨b, 2, none⟩ = false ∧ w.frozen? ⟨b, 3, none⟩ = false ∧ w.frozen? ⟨b, 4, none⟩ = false ∧ w.frozen? ⟨b, 5, none⟩ = false ∧ w.frozen? ⟨b, 6, none⟩ = false ∧ w.frozen? ⟨b, 7, none⟩ = false) ∧ b < w.heap.size
theorem Box8.mono {w w1 : World} {b : Nat} {v0 v1 v2 v3 v4 v5 v6 v7 : Value} (k : Box8 w b v0 v1 v2 v3 v4 v5 v6 v7) (h : Gr w w1) : Box8 w1 b v0 v1 v2 v3 v4 v5 v6 v7 := by
 obtain ⟨⟨k0, k1, k2, k3, k4, k5, k6, k7⟩, ⟨f0, f1, f2, f3, f4, f5, f6, f7⟩, hlt⟩ := k
 exact ⟨⟨h.cell k0, h.cell k1, h.cell k2, h.cell k3, h.cell k4, h.cell k5, h.cell k6, h.cell k7⟩, ⟨h.free (by exact hlt) f0, h.free (by exact hlt) f1, h.free (by exact hlt) f2, h.free (by exact hlt) f3, h.free (by exact hlt) f4, h.free (by exact hlt) f5, h.free (by exact hlt) f6, h.free (by exact hlt) f7⟩, Nat.lt_of_lt_of_le hlt h.size⟩
theorem Box8.of {w : World} {b : Nat} {v0 v1 v2 v3 v4 v5 v6 v7 : Value} {t : TypeId} (h : w.heap[b]? = some (.cells #[v0, v1, v2, v3, v4, v5, v6, v7] t (0, 0))) : Box8 w b v0 v1 v2 v3 v4 v5 v6 v7 := by
 have hlt : b < w.heap.size := (Array.getElem?_eq_some_iff.1 h).1
 refine ⟨⟨?_, ?_, ?_, ?_, ?_, ?_, ?_, ?_⟩, ⟨?_, ?_, ?_, ?_, ?_, ?_, ?_, ?_⟩, hlt⟩ <;> simp [World.cell?, World.frozen?, h]
theorem Box8.at {w w1 : World} {b : Nat} {v0 v1 v2 v3 v4 v5 v6 v7 : Value} {t : TypeId} (g : Gr w w1) (h : w.heap[b]? = some (.cells #[v0, v1, v2, v3, v4, v5, v6, v7] t (0, 0))) : Box8 w1 b v0 v1 v2 v3 v4 v5 v6 v7 := (Box8.of h).mono g
abbrev Box9 (w : World) (b : Nat) (v0 v1 v2 v3 v4 v5 v6 v7 v8 : Value) : Prop := (w.cell? ⟨b, 0, none⟩ = some v0 ∧ w.cell? ⟨b, 1, none⟩ = some v1 ∧ w.cell? ⟨b, 2, none⟩ = some v2 ∧ w.cell? ⟨b, 3, none⟩ = some v3 ∧ w.cell? ⟨b, 4, none⟩ = some v4 ∧ w.cell? ⟨b, 5, none⟩ = some v5 ∧ w.cell? ⟨b, 6, none⟩ = some v6 ∧ w.cell? ⟨b, 7, none⟩ = some v7 ∧ w.cell? ⟨b, 8, none⟩ = some v8) ∧ (w.frozen? ⟨b, 0, none⟩ = false ∧ w.frozen? ⟨b, 1, none⟩ = false ∧ w.frozen? ⟨b, 2, none⟩ = false ∧ w.frozen? ⟨b, 3, none⟩ = false ∧ w.frozen? ⟨b, 4, none⟩ = false ∧ w.frozen? ⟨b, 5, none⟩ = false ∧ w.frozen? ⟨b, 6, none⟩ = false ∧ w.frozen? ⟨b, 7, none⟩ = false ∧ w.frozen? ⟨b, 8, none⟩ = false) ∧ b < w.heap.size
theorem Box9.mono {w w1 : World} {b : Nat} {v0 v1 v2 v3 v4 v5 v6 v7 v8 : Value} (k : Box9 w b v0 v1 v2 v3 v4 v5 v6 v7 v8) (h : Gr w w1) : Box9 w1 b v0 v1 v2 v3 v4 v5 v6 v7 v8 := by
 obtain ⟨⟨k0, k1, k2, k3, k4, k5, k6, k7, k8⟩, ⟨f0, f1, f2, f3, f4, f5, f6, f7, f8⟩, hlt⟩ := k
 exact ⟨⟨h.cell k0, h.cell k1, h.cell k2, h.cell k3, h.cell k4, h.cell k5, h.cell k6, h.cell k7, h.cell k8⟩, ⟨h.free (by exact hlt) f0, h.free (by exact hlt) f1, h.free (by exact hlt) f2, h.free (by exact hlt) f3, h.free (by exact hlt) f4, h.free (by exact hlt) f5, h.free (by exact hlt) f6, h.free (by exact hlt) f7, h.free (by exact hlt) f8⟩, Nat.lt_of_lt_of_le hlt h.size⟩
theorem Box9.of {w : World} {b : Nat} {v0 v1 v2 v3 v4 v5 v6 v7 v8 : Value} {t : TypeId} (h : w.heap[b]? = some (.cells #[v0, v1, v2, v3, v4, v5, v6, v7, v8] t (0, 0))) : Box9 w b v0 v1 v2 v3 v4 v5 v6 v7 v8 := by
 have hlt : b < w.heap.size := (Array.getElem?_eq_some_iff.1 h).1
 refine ⟨⟨?_, ?_, ?_, ?_, ?_, ?_, ?_, ?_, ?_⟩, ⟨?_, ?_, ?_, ?_, ?_, ?_, ?_, ?_, ?_⟩, hlt⟩ <;> simp [World.cell?, World.frozen?, h]
theorem Box9.at {w w1 : World} {b : Nat} {v0 v1 v2 v3 v4 v5 v6 v7 v8 : Value} {t : TypeId} (g : Gr w w1) (h : w.heap[b]? = some (.cells #[v0, v1, v2, v3, v4, v5, v6, v7, v8] t (0, 0))) : Box9 w1 b v0 v1 v2 v3 v4 v5 v6 v7 v8 := (Box9.of h).mono g
abbrev Box10 (w : World) (b : Nat) (v0 v1 v2 v3 v4 v5 v6 v7 v8 v9 : Value) : Prop := (w.cell? ⟨b, 0, none⟩ = some v0 ∧ w.cell? ⟨b, 1, none⟩ = some v1 ∧ w.cell? ⟨b, 2, none⟩ = some v2 ∧ w.cell? ⟨b, 3, none⟩ = some v3 ∧ w.cell? ⟨b, 4, none⟩ = some v4 ∧ w.cell? ⟨b, 5, none⟩ = some v5 ∧ w.cell? ⟨b, 6, none⟩ = some v6 ∧ w.cell? ⟨b, 7, none⟩ = some v7 ∧ w.cell? ⟨b, 8, none⟩ = some v8 ∧ w.cell? ⟨b, 9, none⟩ = some v9) ∧ (w.frozen? ⟨b, 0, none⟩ = false ∧ w.frozen? ⟨b, 1, none⟩ = false ∧ w.frozen? ⟨b, 2, none⟩ = false ∧ w.frozen? ⟨b, 3, none⟩ = false ∧ w.frozen? ⟨b, 4, none⟩ = false ∧ w.frozen? ⟨b, 5, none⟩ = false ∧ w.frozen? ⟨b, 6, none⟩ = false ∧ w.frozen? ⟨b, 7, none⟩ = false ∧ w.frozen? ⟨b, 8, none⟩ = false ∧ w.frozen? ⟨b, 9, none⟩ = false) ∧ b < w.heap.size
theorem Box10.mono {w w1 : World} {b : Nat} {v0 v1 v2 v3 v4 v5 v6 v7 v8 v9 : Value} (k : Box10 w b v0 v1 v2 v3 v4 v5 v6 v7 v8 v9) (h : Gr w w1) : Box10 w1 b v0 v1 v2 v3 v4 v5 v6 v7 v8 v9 := by
 obtain ⟨⟨k0, k1, k2, k3, k4, k5, k6, k7, k8, k9⟩, ⟨f0, f1, f2, f3, f4, f5, f6, f7, f8, f9⟩, hlt⟩ := k
 exact ⟨⟨h.cell k0, h.cell k1, h.cell k2, h.cell k3, h.cell k4, h.cell k5, h.cell k6, h.cell k7, h.cell k8, h.cell k9⟩, ⟨h.free (by exact hlt) f0, h.free (by exact hlt) f1, h.free (by exact hlt) f2, h.free (by exact hlt) f3, h.free (by exact hlt) f4, h.free (by exact hlt) f5, h.free (by exact hlt) f6, h.free (by exact hlt) f7, h.free (by exact hlt) f8, h.free (by exact hlt) f9⟩, Nat.lt_of_lt_of_le hlt h.size⟩
theorem Box10.of {w : World} {b : Nat} {v0 v1 v2 v3 v4 v5 v6 v7 v8 v9 : Value} {t : TypeId} (h : w.heap[b]? = some (.cells #[v0, v1, v2, v3, v4, v5, v6, v7, v8, v9] t (0, 0))) : Box10 w b v0 v1 v2 v3 v4 v5 v6 v7 v8 v9 := by
 have hlt : b < w.heap.size := (Array.getElem?_eq_some_iff.1 h).1
 refine ⟨⟨?_, ?_, ?_, ?_, ?_, ?_, ?_, ?_, ?_, ?_⟩, ⟨?_, ?_, ?_, ?_, ?_, ?_, ?_, ?_, ?_, ?_⟩, hlt⟩ <;> simp [World.cell?, World.frozen?, h]
theorem Box10.at {w w1 : World} {b : Nat} {v0 v1 v2 v3 v4 v5 v6 v7 v8 v9 : Value} {t : TypeId} (g : Gr w w1) (h : w.heap[b]? = some (.cells #[v0, v1, v2, v3, v4, v5, v6, v7, v8, v9] t (0, 0))) : Box10 w1 b v0 v1 v2 v3 v4 v5 v6 v7 v8 v9 := (Box10.of h).mono g
abbrev Box11 (w : World) (b : Nat) (v0 v1 v2 v3 v4 v5 v6 v7 v8 v9 v10 : Value) : Prop := (w.cell? ⟨b, 0, none⟩ = some v0 ∧ w.cell? ⟨b, 1, none⟩ = some v1 ∧ w.cell? ⟨b, 2, none⟩ = some v2 ∧ w.cell? ⟨b, 3, none⟩ = some v3 ∧ w.cell? ⟨b, 4, none⟩ = some v4 ∧ w.cell? ⟨b, 5, none⟩ = some v5 ∧ w.cell? ⟨b, 6, none⟩ = some v6 ∧ w.cell? ⟨b, 7, none⟩ = some v7 ∧ w.cell? ⟨b, 8, none⟩ = some v8 ∧ w.cell? ⟨b, 9, none⟩ = some v9 ∧ w.cell? ⟨b, 10, none⟩ = some v10) ∧ (w.frozen? ⟨b, 0, none⟩ = false ∧ w.frozen? ⟨b, 1, none⟩ = false ∧ w.frozen? ⟨b, 2, none⟩ = false ∧ w.frozen? ⟨b, 3, none⟩ = false ∧ w.frozen? ⟨b, 4, none⟩ = false ∧ w.frozen? ⟨b, 5, none⟩ = false ∧ w.frozen? ⟨b, 6, none⟩ = false ∧ w.frozen? ⟨b, 7, none⟩ = false ∧ w.frozen? ⟨b, 8, none⟩ = false ∧ w.frozen? ⟨b, 9, none⟩ = false ∧ w.frozen? ⟨b, 10, none⟩ = false) ∧ b < w.heap.size
theorem Box11.mono {w w1 : World} {b : Nat} {v0 v1 v2 v3 v4 v5 v6 v7 v8 v9 v10 : Value} (k : Box11 w b v0 v1 v2 v3 v4 v5 v6 v7 v8 v9 v10) (h : Gr w w1) : Box11 w1 b v0 v1 v2 v3 v4 v5 v6 v7 v8 v9 v10 := by
 obtain ⟨⟨k0, k1, k2, k3, k4, k5, k6, k7, k8, k9, k10⟩, ⟨f0, f1, f2, f3, f4, f5, f6, f7, f8, f9, f10⟩, hlt⟩ := k
 exact ⟨⟨h.cell k0, h.cell k1, h.cell k2, h.cell k3, h.cell k4, h.cell k5, h.cell k6, h.cell k7, h.cell k8, h.cell k9, h.cell k10⟩, ⟨h.free (by exact hlt) f0, h.free (by exact hlt) f1, h.free (by exact hlt) f2, h.free (by exact hlt) f3, h.free (by exact hlt) f4, h.free (by exact hlt) f5, h.free (by exact hlt) f6, h.free (by exact hlt) f7, h.free (by exact hlt) f8, h.free (by exact hlt) f9, h.free (by exact hlt) f10⟩, Nat.lt_of_lt_of_le hlt h.size⟩
theorem Box11.of {w : World} {b : Nat} {v0 v1 v2 v3 v4 v5 v6 v7 v8 v9 v10 : Value} {t : TypeId} (h : w.heap[b]? = some (.cells #[v0, v1, v2, v3, v4, v5, v6, v7, v8, v9, v10] t (0, 0))) : Box11 w b v0 v1 v2 v3 v4 v5 v6 v7 v8 v9 v10 := by
 have hlt : b < w.heap.size := (Array.getElem?_eq_some_iff.1 h).1
 refine ⟨⟨?_, ?_, ?_, ?_, ?_, ?_, ?_, ?_, ?_, ?_, ?_⟩, ⟨?_, ?_, ?_, ?_, ?_, ?_, ?_, ?_, ?_, ?_, ?_⟩, hlt⟩ <;> simp [World.cell?, World.frozen?, h]
theorem Box11.at {w w1 : World} {b : Nat} {v0 v1 v2 v3 v4 v5 v6 v7 v8 v9 v10 : Value} {t : TypeId} (g : Gr w w1) (h : w.heap[b]? = some (.cells #[v0, v1, v2, v3, v4, v5, v6, v7, v8, v9, v10] t (0, 0))) : Box11 w1 b v0 v1 v2 v3 v4 v5 v6 v7 v8 v9 v10 := (Box11.of h).mono g
abbrev Box12 (w : World) (b : Nat) (v0 v1 v2 v3 v4 v5 v6 v7 v8 v9 v10 v11 : Value) : Prop := (w.cell? ⟨b, 0, none⟩ = some v0 ∧ w.cell? ⟨b, 1, none⟩ = some v1 ∧ w.cell? ⟨b, 2, none⟩ = some v2 ∧ w.cell? ⟨b, 3, none⟩ = some v3 ∧ w.cell? ⟨b, 4, none⟩ = some v4 ∧ w.cell? ⟨b, 5, none⟩ = some v5 ∧ w.cell? ⟨b, 6, none⟩ = some v6 ∧ w.cell? ⟨b, 7, none⟩ = some v7 ∧ w.cell? ⟨b, 8, none⟩ = some v8 ∧ w.cell? ⟨b, 9, none⟩ = some v9 ∧ w.cell? ⟨b, 10, none⟩ = some v10 ∧ w.cell? ⟨b, 11, none⟩ = some v11) ∧ (w.frozen? ⟨b, 0, none⟩ = false ∧ w.frozen? ⟨b, 1, none⟩ = false ∧ w.frozen? ⟨b, 2, none⟩ = false ∧ w.frozen? ⟨b, 3, none⟩ = false ∧ w.frozen? ⟨b, 4, none⟩ = false ∧ w.frozen? ⟨b, 5, none⟩ = false ∧ w.frozen? ⟨b, 6, none⟩ = false ∧ w.frozen? ⟨b, 7, none⟩ = false ∧ w.frozen? ⟨b, 8, none⟩ = false ∧ w.frozen? ⟨b, 9, none⟩ = false ∧ w.frozen? ⟨b, 10, none⟩ = false ∧ w.frozen? ⟨b, 11, none⟩ = false) ∧ b < w.heap.size
theorem Box12.mono {w w1 : World} {b : Nat} {v0 v1 v2 v3 v4 v5 v6 v7 v8 v9 v10 v11 : Value} (k : Box12 w b v0 v1 v2 v3 v4 v5 v6 v7 v8 v9 v10 v11) (h : Gr w w1) : Box12 w1 b v0 v1 v2 v3 v4 v5 v6 v7 v8 v9 v10 v11 := by
 obtain ⟨⟨k0, k1, k2, k3, k4, k5, k6, k7, k8, k9, k10, k11⟩, ⟨f0, f1, f2, f3, f4, f5, f6, f7, f8, f9, f10, f11⟩, hlt⟩ := k
 exact ⟨⟨h.cell k0, h.cell k1, h.cell k2, h.cell k3, h.cell k4, h.cell k5, h.cell k6, h.cell k7, h.cell k8, h.cell k9, h.cell k10, h.cell k11⟩, ⟨h.free (by exact hlt) f0, h.free (by exact hlt) f1, h.free (by exact hlt) f2, h.free (by exact hlt) f3, h.free (by exact hlt) f4, h.free (by exact hlt) f5, h.free (by exact hlt) f6, h.free (by exact hlt) f7, h.free (by exact hlt) f8, h.free (by exact hlt) f9, h.free (by exact hlt) f10, h.free (by exact hlt) f11⟩, Nat.lt_of_lt_of_le hlt h.size⟩
theorem Box12.of {w : World} {b : Nat} {v0 v1 v2 v3 v4 v5 v6 v7 v8 v9 v10 v11 : Value} {t : TypeId} (h : w.heap[b]? = some (.cells #[v0, v1, v2, v3, v4, v5, v6, v7, v8, v9, v10, v11] t (0, 0))) : Box12 w b v0 v1 v2 v3 v4 v5 v6 v7 v8 v9 v10 v11 := by
 have hlt : b < w.heap.size := (Array.getElem?_eq_some_iff.1 h).1
 refine ⟨⟨?_, ?_, ?_, ?_, ?_, ?_, ?_, ?_, ?_, ?_, ?_, ?_⟩, ⟨?_, ?_, ?_, ?_, ?_, ?_, ?_, ?_, ?_, ?_, ?_, ?_⟩, hlt⟩ <;> simp [World.cell?, World.frozen?, h]
theorem Box12.at {w w1 : World} {b : Nat} {v0 v1 v2 v3 v4 v5 v6 v7 v8 v9 v10 v11 : Value} {t : TypeId} (g : Gr w w1) (h : w.heap[b]? = some (.cells #[v0, v1, v2, v3, v4, v5, v6, v7, v8, v9, v10, v11] t (0, 0))) : Box12 w1 b v0 v1 v2 v3 v4 v5 v6 v7 v8 v9 v10 v11 := (Box12.of h).mono g
abbrev Box13 (w : World) (b : Nat) (v0 v1 v2 v3 v4 v5 v6 v7 v8 v9 v10 v11 v12 : Value) : Prop := (w.cell? ⟨b, 0, none⟩ = some v0 ∧ w.cell? ⟨b, 1, none⟩ = some v1 ∧ w.cell? ⟨b, 2, none⟩ = some v2 ∧ w.cell? ⟨b, 3, none⟩ = some v3 ∧ w.cell? ⟨b, 4, none⟩ = some v4 ∧ w.cell? ⟨b, 5, none⟩ = some v5 ∧ w.cell? ⟨b, 6, none⟩ = some v6 ∧ w.cell? ⟨b, 7, none⟩ = some v7 ∧ w.cell? ⟨b, 8, none⟩ = some v8 ∧ w.cell? ⟨b, 9, none⟩ = some v9 ∧ w.cell? ⟨b, 10, none⟩ = some v10 ∧ w.cell? ⟨b, 11, none⟩ = some v11 ∧ w.cell? ⟨b, 12, none⟩ = some v12) ∧ (w.frozen? ⟨b, 0, none⟩ = false ∧ w.frozen? ⟨b, 1, none⟩ = false ∧ w.frozen? ⟨b, 2, none⟩ = false ∧ w.frozen? ⟨b, 3, none⟩ = false ∧ w.frozen? ⟨b, 4, none⟩ = false ∧ w.frozen? ⟨b, 5, none⟩ = false ∧ w.frozen? ⟨b, 6, none⟩ = false ∧ w.frozen? ⟨b, 7, none⟩ = false ∧ w.frozen? ⟨b, 8, none⟩ = false ∧ w.frozen? ⟨b, 9, none⟩ = false ∧ w.frozen? ⟨b, 10, none⟩ = false ∧ w.frozen? ⟨b, 11, none⟩ = false ∧ w.frozen? ⟨b, 12, none⟩ = false) ∧ b < w.heap.size
theorem Box13.mono {w w1 : World} {b : Nat} {v0 v1 v2 v3 v4 v5 v6 v7 v8 v9 v10 v11 v12 : Value} (k : Box13 w b v0 v1 v2 v3 v4 v5 v6 v7 v8 v9 v10 v11 v12) (h : Gr w w1) : Box13 w1 b v0 v1 v2 v3 v4 v5 v6 v7 v8 v9 v10 v11 v12 := by
 obtain ⟨⟨k0, k1, k2, k3, k4, k5, k6, k7, k8, k9, k10, k11, k12⟩, ⟨f0, f1, f2, f3, f4, f5, f6, f7, f8, f9, f10, f11, f12⟩, hlt⟩ := k
 exact ⟨⟨h.cell k0, h.cell k1, h.cell k2, h.cell k3, h.cell k4, h.cell k5, h.cell k6, h.cell k7, h.cell k8, h.cell k9, h.cell k10, h.cell k11, h.cell k12⟩, ⟨h.free (by exact hlt) f0, h.free (by exact hlt) f1, h.free (by exact hlt) f2, h.free (by exact hlt) f3, h.free (by exact hlt) f4, h.free (by exact hlt) f5, h.free (by exact hlt) f6, h.free (by exact hlt) f7, h.free (by exact hlt) f8, h.free (by exact hlt) f9, h.free (by exact hlt) f10, h.free (by exact hlt) f11, h.free (by exact hlt) f12⟩, Nat.lt_of_lt_of_le hlt h.size⟩
theorem Box13.of {w : World} {b : Nat} {v0 v1 v2 v3 v4 v5 v6 v7 v8 v9 v10 v11 v12 : Value} {t : TypeId} (h : w.heap[b]? = some (.cells #[v0, v1, v2, v3, v4, v5, v6, v7, v8, v9, v10, v11, v12] t (0, 0))) : Box13 w b v0 v1 v2 v3 v4 v5 v6 v7 v8 v9 v10 v11 v12 := by
 have hlt : b < w.heap.size := (Array.getElem?_eq_some_iff.1 h).1
 refine ⟨⟨?_, ?_, ?_, ?_, ?_, ?_, ?_, ?_, ?_, ?_, ?_, ?_, ?_⟩, ⟨?_, ?_, ?_, ?_, ?_, ?_, ?_, ?_, ?_, ?_, ?_, ?_, ?_⟩, hlt⟩ <;> simp [World.cell?, World.frozen?, h]
theorem Box13.at {w w1 : World} {b : Nat} {v0 v1 v2 v3 v4 v5 v6 v7 v8 v9 v10 v11 v12 : Value} {t : TypeId} (g : Gr w w1) (h : w.heap[b]? = some (.cells #[v0, v1, v2, v3, v4, v5, v6, v7, v8, v9, v10, v11, v12] t (0, 0))) : Box13 w1 b v0 v1 v2 v3 v4 v5 v6 v7 v8 v9 v10 v11 v12 := (Box13.of h).mono g
abbrev Box14 (w : World) (b : Nat) (v0 v1 v2 v3 v4 v5 v6 v7 v8 v9 v10 v11 v12 v13 : Value) : Prop := (w.cell? ⟨b, 0, none⟩ = some v0 ∧ w.cell? ⟨b, 1, none⟩ = some v1 ∧ w.cell? ⟨b, 2, none⟩ = some v2 ∧ w.cell? ⟨b, 3, none⟩ = some v3 ∧ w.cell? ⟨b, 4, none⟩ = some v4 ∧ w.cell? ⟨b, 5, none⟩ = some v5 ∧ w.cell? ⟨b, 6, none⟩ = some v6 ∧ w.cell? ⟨b, 7, none⟩ = some v7 ∧ w.cell? ⟨b, 8, none⟩ = some v8 ∧ w.cell? ⟨b, 9, none⟩ = some v9 ∧ w.cell? ⟨b, 10, none⟩ = some v10 ∧ w.cell? ⟨b, 11, none⟩ = some v11 ∧ w.cell? ⟨b, 12, none⟩ = some v12 ∧ w.cell? ⟨b, 13, none⟩ = some v13) ∧ (w.frozen? ⟨b, 0, none⟩ = false ∧ w.frozen? ⟨b, 1, none⟩ = false ∧ w.frozen? ⟨b, 2, none⟩ = false ∧ w.frozen? ⟨b, 3, none⟩ = false ∧ w.frozen? ⟨b, 4, none⟩ = false ∧ w.frozen? ⟨b, 5, none⟩ = false ∧ w.frozen? ⟨b, 6, none⟩ = false ∧ w.frozen? ⟨b, 7, none⟩ = false ∧ w.frozen? ⟨b, 8, none⟩ = false ∧ w.frozen? ⟨b, 9, none⟩ = false ∧ w.frozen? ⟨b, 10, none⟩ = false ∧ w.frozen? ⟨b, 11, none⟩ = false ∧ w.frozen? ⟨b, 12, none⟩ = false ∧ w.frozen? ⟨b, 13, none⟩ = false) ∧ b < w.heap.size
theorem Box14.mono {w w1 : World} {b : Nat} {v0 v1 v2 v3 v4 v5 v6 v7 v8 v9 v10 v11 v12 v13 : Value} (k : Box14 w b v0 v1 v2 v3 v4 v5 v6 v7 v8 v9 v10 v11 v12 v13) (h : Gr w w1) : Box14 w1 b v0 v1 v2 v3 v4 v5 v6 v7 v8 v9 v10 v11 v12 v13 := by
 obtain ⟨⟨k0, k1, k2, k3, k4, k5, k6, k7, k8, k9, k10, k11, k12, k13⟩, ⟨f0, f1, f2, f3, f4, f5, f6, f7, f8, f9, f10, f11, f12, f13⟩, hlt⟩ := k
 exact ⟨⟨h.cell k0, h.cell k1, h.cell k2, h.cell k3, h.cell k4, h.cell k5, h.cell k6, h.cell k7, h.cell k8, h.cell k9, h.cell k10, h.cell k11, h.cell k12, h.cell k13⟩, ⟨h.free (by exact hlt) f0, h.free (by exact hlt) f1, h.free (by exact hlt) f2, h.free (by exact hlt) f3, h.free (by exact hlt) f4, h.free (by exact hlt) f5, h.free (by exact hlt) f6, h.free (by exact hlt) f7, h.free (by exact hlt) f8, h.free (by exact hlt) f9, h.free (by exact hlt) f10, h.free (by exact hlt) f11, h.free (by exact hlt) f12, h.free (by exact hlt) f13⟩, Nat.lt_of_lt_of_le hlt h.size⟩
theorem Box14.of {w : World} {b : Nat} {v0 v1 v2 v3 v4 v5 v6 v7 v8 v9 v10 v11 v12 v13 : Value} {t : TypeId} (h : w.heap[b]? = some (.cells #[v0, v1, v2, v3, v4, v5, v6, v7, v8, v9, v10, v11, v12, v13] t (0, 0))) : Box14 w b v0 v1 v2 v3 v4 v5 v6 v7 v8 v9 v10 v11 v12 v13 := by
 have hlt : b < w.heap.size := (Array.getElem?_eq_some_iff.1 h).1
 refine ⟨⟨?_, ?_, ?_, ?_, ?_, ?_, ?_, ?_, ?_, ?_, ?_, ?_, ?_, ?_⟩, ⟨?_, ?_, ?_, ?_, ?_, ?_, ?_, ?_, ?_, ?_, ?_, ?_, ?_, ?_⟩, hlt⟩ <;> simp [World.cell?, World.frozen?, h]
theorem Box14.at {w w1 : World} {b : Nat} {v0 v1 v2 v3 v4 v5 v6 v7 v8 v9 v10 v11 v12 v13 : Value} {t : TypeId} (g : Gr w w1) (h : w.heap[b]? = some (.cells #[v0, v1, v2, v3, v4, v5, v6, v7, v8, v9, v10, v11, v12, v13] t (0, 0))) : Box14 w1 b v0 v1 v2 v3 v4 v5 v6 v7 v8 v9 v10 v11 v12 v13 := (Box14.of h).mono g
end Go.Proofs.Ytphgchakmkankaa

namespace Go.Proofs.Ytphgchakmkankaa
set_option linter.unusedSectionVars false
open Go.RowKit Go.Deep
set_option linter.unusedVariables false
set_option linter.unusedSimpArgs false

theorem Gr.cells {w w' : World} (g : Gr w w') {a : Addr} {n : Nat} {cs : List Value} (h : ∀ i, i < n → w.cell? (a.add i) = cs[i]?) (hl : cs.length = n) : ∀ i, i < n → w'.cell? (a.add i) = cs[i]? := by
 intro i hi
 have h1 := h i hi
 rw [List.getElem?_eq_getElem (by omega)] at h1 ⊢
 exact g.cell h1

structure Cod (α : Type) where
 size : Nat
 is : World → List Value → α → Prop
 len : ∀ {w cs a}, is w cs a → cs.length = size
 mono : ∀ {w w' cs a}, is w cs a → Gr w w' → is w' cs a
 bulk : α → Nat

def intC : Cod Int where
 size := 1
 is := fun _ cs n => cs = [.int .i64 n] ∧ -9223372036854775808 ≤ n ∧ n ≤ 9223372036854775807
 len := fun h => by rw [h.1]; rfl
 mono := fun h _ => h
 bulk := fun _ => 1
def boolC : Cod Bool where
 size := 1
 is := fun _ cs b => cs = [.bool b]
 len := fun h => by rw [h]; rfl
 mono := fun h _ => h
 bulk := fun _ => 1
def strC : Cod ByteArray where
 size := 1
 is := fun _ cs s => cs = [.string s] ∧ s.size ≤ maxLen
 len := fun h => by rw [h.1]; rfl
 mono := fun h _ => h
 bulk := fun s => s.size + 1
def Cod.pair {α β : Type} (c : Cod α) (d : Cod β) : Cod (α × β) where
 size := c.size + d.size
 is := fun w cs x => c.is w (cs.take c.size) x.1 ∧ d.is w (cs.drop c.size) x.2
 len := fun {w cs a} h => by
  have h1 := c.len h.1
  have h2 := d.len h.2
  simp at h1 h2
  omega
 mono := fun h g => ⟨c.mono h.1 g, d.mono h.2 g⟩
 bulk := fun x => c.bulk x.1 + d.bulk x.2
def sliceC {α : Type} (c : Cod α) : Cod (List α) where
 size := 1
 is := fun w cs l => (cs = [.slice none 0 0] ∧ l = []) ∨ ∃ (b off : Nat) (sp : Option Nat) (cap : Nat), cs = [.slice (some ⟨b, off, sp⟩) l.length cap] ∧ l.length ≤ cap ∧ cap ≤ maxLen ∧
  ∀ i (h : i < l.length), sp = none ∧ ∃ cs', (∀ j, j < c.size → w.cell? ⟨b, off + (i * c.size + j), none⟩ = cs'[j]?) ∧ c.is w cs' l[i]
 len := fun h => by
  rcases h with ⟨rfl, _⟩ | ⟨b, off, sp, cap, rfl, _⟩ <;> rfl
 mono := fun {w w' cs l} h g => by
  rcases h with h | ⟨b, off, sp, cap, h1, h2, h3, h4⟩
  ·exact .inl h
  ·refine .inr ⟨b, off, sp, cap, h1, h2, h3, fun i hi => ?_⟩
   obtain ⟨e, cs', h5, h6⟩ := h4 i hi
   refine ⟨e, cs', fun j hj => ?_, c.mono h6 g⟩
   have h7 := h5 j hj
   have hl := c.len h6
   rw [List.getElem?_eq_getElem (by omega)] at h7 ⊢
   exact g.cell h7
 bulk := fun l => (l.map c.bulk).sum + 1

def ReadsF {α : Type} (F : Nat → Prop) (P : Program) (c : Cod α) (t : TypeId) : Prop :=
 ∀ ⦃H : Type⦄ ⦃enc : TypeId × Value → H⦄ ⦃w : World⦄ ⦃base : Nat⦄ ⦃spare : Nat → Bool⦄ ⦃held : Bool⦄ ⦃fuel : Nat⦄ ⦃cs : List Value⦄ ⦃x : DataW H × List MemPlace⦄, F fuel →
  DataW.trod enc P w base spare held fuel t cs = some x → ∃ a, c.is w cs a ∧ c.bulk a ≤ Rows.uptoBulk x.1
abbrev Reads {α : Type} (P : Program) (c : Cod α) (t : TypeId) : Prop := ReadsF (fun _ => True) P c t
theorem bulkAll_sum {H : Type} (l : List (DataW H)) : Rows.uptoBulkAll l = (l.map Rows.uptoBulk).sum := by
 induction l with
 | nil => rfl
 | cons x r ih => simp only [Rows.uptoBulkAll, List.map_cons, List.sum_cons, ih]
theorem sum_le_range {α : Type} (f : α → Nat) (D : Nat → Nat) : ∀ (l : List α) (o : Nat), (∀ i (h : i < l.length), f l[i] ≤ D (o + i)) → (l.map f).sum ≤ ((List.range' o l.length).map D).sum
 | [], _, _ => by simp
 | x :: r, o, h => by
  simp only [List.length_cons, List.range'_succ, List.map_cons, List.sum_cons]
  have h0 := h 0 (by simp)
  have := sum_le_range f D r (o + 1) (fun i hi => by have := h (i + 1) (by simp; omega); simp only [List.getElem_cons_succ] at this; rw [show o + 1 + i = o + (i + 1) by omega]; exact this)
  simp at h0
  omega

theorem wf_i64 {n : Int} (h : (Lit.int .i64 n).wf = true) : -9223372036854775808 ≤ n ∧ n ≤ 9223372036854775807 := by
 simpa [Lit.wf, IntKind.min, IntKind.max, IntKind.signed, IntKind.bits] using h
theorem bulk_pos {H : Type} (d : DataW H) : 1 ≤ Rows.uptoBulk d := by
 cases d with
 | lit l => cases l <;> simp [Rows.uptoBulk]
 | _ => simp [Rows.uptoBulk]
theorem reads_int {F : Nat → Prop} {P : Program} {t : TypeId} (ht : P.underlying t = some (.int .i64)) : ReadsF F P intC t := by
 intro H enc w base spare held fuel cs x _ h
 obtain ⟨n, rfl, _, hw⟩ := DataW.trod_int ht h
 exact ⟨n, ⟨rfl, wf_i64 hw⟩, bulk_pos _⟩
theorem reads_bool {F : Nat → Prop} {P : Program} {t : TypeId} (ht : P.underlying t = some .bool) : ReadsF F P boolC t := by
 intro H enc w base spare held fuel cs x _ h
 obtain ⟨n, rfl, _⟩ := DataW.trod_bool ht h
 exact ⟨n, rfl, bulk_pos _⟩
theorem reads_str {F : Nat → Prop} {P : Program} {t : TypeId} (ht : P.underlying t = some .string) : ReadsF F P strC t := by
 intro H enc w base spare held fuel cs x _ h
 obtain ⟨n, rfl, hx, hw⟩ := DataW.trod_string ht h
 refine ⟨n, ⟨rfl, hw⟩, ?_⟩
 subst hx
 simp only [Rows.uptoBulk, strC]
 first | (simp; done) | omega
theorem reads_slice {F : Nat → Prop} {P : Program} {α : Type} {c : Cod α} {t e : TypeId} (ht : P.underlying t = some (.slice e)) (hz : P.cellsOf e = c.size) (hp : 0 < c.size) (hr : ReadsF (fun m => F (m + 1)) P c e) : ReadsF F P (sliceC c) t := by
 intro H enc w base spare held fuel cs x hF h
 rcases DataW.trod_slice ht h with ⟨rfl, rfl⟩ | ⟨a, len, cap, elems, rest, n, hfu, rfl, hxe, hb, hl, hm, hlen, hel, h8, h9⟩
 ·exact ⟨[], .inl ⟨rfl, rfl⟩, by simp [sliceC, Rows.uptoBulk]⟩
 ·obtain ⟨D, hD⟩ : ∃ D : Nat → DataW H, D = fun i => (elems.getD i (.nil, [])).1 := ⟨_, rfl⟩
  have key : ∀ i, i < len → ∃ (y : α) (cs' : List Value), (∀ j, j < c.size → w.cell? (a.add (i * c.size + j)) = cs'[j]?) ∧ c.is w cs' y ∧ c.bulk y ≤ Rows.uptoBulk (D i) := by
   intro i hi
   have hk := hel i hi
   rw [List.getElem?_eq_getElem (by omega)] at hk
   obtain ⟨cs', h1, h2⟩ := Option.bind_eq_some_iff.1 hk
   obtain ⟨y, hy, hyb⟩ := hr (by subst hfu; exact hF) h2
   have hyb : c.bulk y ≤ Rows.uptoBulk (D i) := by
    rw [hD]
    simpa [List.getD, List.getElem?_eq_getElem (show i < elems.length by omega)] using hyb
   obtain ⟨_, h3, h4⟩ := World.cells?_some h1
   refine ⟨y, cs', fun j hj => ?_, hy, hyb⟩
   have := h4 j (by rw [hz]; exact hj)
   rw [hz] at this
   rw [← this, add_add]
  obtain ⟨ys, hys⟩ : ∃ ys : List α, ys.length = len ∧ ∀ i (h : i < ys.length), c.bulk ys[i] ≤ Rows.uptoBulk (D i) ∧ ∃ cs', (∀ j, j < c.size → w.cell? (a.add (i * c.size + j)) = cs'[j]?) ∧ c.is w cs' ys[i] := by
   clear hel hlen h hl hxe h8 h9
   induction len with
   | zero => exact ⟨[], rfl, fun i h => by simp at h⟩
   | succ k ih =>
    obtain ⟨ys, h1, h2⟩ := ih (fun i hi => key i (by omega))
    obtain ⟨y, cs', h3, h4, h4b⟩ := key k (by omega)
    refine ⟨ys ++ [y], by simp [h1], fun i hi => ?_⟩
    by_cases hk : i < ys.length
    ·rw [List.getElem_append_left hk]; exact h2 i hk
    ·have : i = k := by simp at hi; omega
     subst this
     rw [List.getElem_append_right (by omega)]
     simp only [h1, Nat.sub_self, List.getElem_cons_zero]
     exact ⟨h4b, cs', h3, h4⟩
  obtain ⟨h1, h2⟩ := hys
  obtain ⟨b, off, sp⟩ := a
  refine ⟨ys, .inr ⟨b, off, sp, cap, by rw [h1], by omega, hm, fun i hi => ?_⟩, ?_⟩
  ·have hs : sp = none := by
    cases sp with
    | none => rfl
    | some q =>
     exfalso
     obtain ⟨_, cs', h3, h4⟩ := h2 0 (by omega)
     have h5 := h3 0 hp
     have hl := c.len h4
     rw [List.getElem?_eq_getElem (by omega)] at h5
     simp only [Nat.zero_mul, Nat.zero_add, World.cell?, Addr.add] at h5
     split at h5 <;> simp at h5
   obtain ⟨_, cs', h3, h4⟩ := h2 i hi
   subst hs
   refine ⟨rfl, cs', fun j hj => ?_, h4⟩
   have h6 := h3 j hj
   rw [← h6]
   congr 1
   simp only [Addr.add]
   split
   ·rename_i h7; simp only [h7, Nat.add_zero]
   ·rfl
  ·subst hxe
   simp only [sliceC, Rows.uptoBulk, bulkAll_sum, List.map_map]
   have := sum_le_range c.bulk (fun i => Rows.uptoBulk (D i)) ys 0 (fun i hi => by simpa using (h2 i hi).1)
   rw [h1, ← List.range_eq_range'] at this
   have e : List.map (Rows.uptoBulk ∘ fun x => x.1) elems = List.map (fun i => Rows.uptoBulk (D i)) (List.range len) := by
    rw [← hlen, hD]
    apply List.ext_getElem (by simp)
    intro i h3 h4
    simp at h3
    simp [List.getD, List.getElem?_eq_getElem h3]
   rw [e]
   omega
theorem take_drop_all {α : Type} (l : List α) (o n : Nat) (h : l.length = o + n) : (l.drop o).take n = l.drop o := List.take_of_length_le (by simp; omega)

theorem list_of_len2 {α : Type} (l : List α) (h : l.length = 2) : ∃ x0 x1, l = [x0, x1] := by
 match l, h with
 | [x0, x1], _ => exact ⟨x0, x1, rfl⟩
theorem reads_struct2 {F : Nat → Prop} {P : Program} {α0 α1 : Type} {t : TypeId} {f0 f1 : Field} {c0 : Cod α0} {c1 : Cod α1} (ht : P.underlying t = some (.struct #[f0, f1])) (hz : P.cellsOf t = c0.size + c1.size) (o0 : f0.offset = 0) (o1 : f1.offset = c0.size) (z0 : P.cellsOf f0.type = c0.size) (z1 : P.cellsOf f1.type = c1.size) (r0 : ReadsF (fun m => F (m + 1)) P c0 f0.type) (r1 : ReadsF (fun m => F (m + 1)) P c1 f1.type) : ReadsF F P (c0.pair c1) t := by
 intro H enc w base spare held fuel cs x hF h
 obtain ⟨xs, m, hfu, hxx, hlen, hxl, hf⟩ := DataW.trod_struct ht h
 rw [hz] at hlen
 have hxl : xs.length = 2 := hxl
 have h0 := hf 0 f0 rfl
 rw [o0, z0, List.getElem?_eq_getElem (show 0 < xs.length by omega)] at h0
 obtain ⟨a0, k0, b0⟩ := r0 (by subst hfu; exact hF) h0
 have h1 := hf 1 f1 rfl
 rw [o1, z1, List.getElem?_eq_getElem (show 1 < xs.length by omega)] at h1
 obtain ⟨a1, k1, b1⟩ := r1 (by subst hfu; exact hF) h1
 rw [take_drop_all cs (c0.size) c1.size (by omega)] at k1
 refine ⟨(a0, a1), ?_, ?_⟩
 ·exact ⟨by simpa using k0, (by simpa [List.drop_drop, Nat.add_assoc] using k1)⟩
 ·subst hxx
  simp only [Rows.uptoBulk, bulkAll_sum, Cod.pair]
  have hs : (List.map Rows.uptoBulk (xs.map (·.1))).sum = Rows.uptoBulk xs[0].1 + (Rows.uptoBulk xs[1].1) := by
   obtain ⟨x0, x1, rfl⟩ := list_of_len2 xs hxl
   simp
  rw [hs]
  exact Nat.le_succ_of_le (Nat.add_le_add b0 b1)
theorem list_of_len6 {α : Type} (l : List α) (h : l.length = 6) : ∃ x0 x1 x2 x3 x4 x5, l = [x0, x1, x2, x3, x4, x5] := by
 match l, h with
 | [x0, x1, x2, x3, x4, x5], _ => exact ⟨x0, x1, x2, x3, x4, x5, rfl⟩
theorem reads_struct6 {F : Nat → Prop} {P : Program} {α0 α1 α2 α3 α4 α5 : Type} {t : TypeId} {f0 f1 f2 f3 f4 f5 : Field} {c0 : Cod α0} {c1 : Cod α1} {c2 : Cod α2} {c3 : Cod α3} {c4 : Cod α4} {c5 : Cod α5} (ht : P.underlying t = some (.struct #[f0, f1, f2, f3, f4, f5])) (hz : P.cellsOf t = c0.size + c1.size + c2.size + c3.size + c4.size + c5.size) (o0 : f0.offset = 0) (o1 : f1.offset = c0.size) (o2 : f2.offset = c0.size + c1.size) (o3 : f3.offset = c0.size + c1.size + c2.size) (o4 : f4.offset = c0.size + c1.size + c2.size + c3.size) (o5 : f5.offset = c0.size + c1.size + c2.size + c3.size + c4.size) (z0 : P.cellsOf f0.type = c0.size) (z1 : P.cellsOf f1.type = c1.size) (z2 : P.cellsOf f2.type = c2.size) (z3 : P.cellsOf f3.type = c3.size) (z4 : P.cellsOf f4.type = c4.size) (z5 : P.cellsOf f5.type = c5.size) (r0 : ReadsF (fun m => F (m + 1)) P c0 f0.type) (r1 : ReadsF (fun m => F (m + 1)) P c1 f1.type) (r2 : ReadsF (fun m => F (m + 1)) P c2 f2.type) (r3 : ReadsF (fun m => F (m + 1)) P c3 f3.type) (r4 : ReadsF (fun m => F (m + 1)) P c4 f4.type) (r5 : ReadsF (fun m => F (m + 1)) P c5 f5.type) : ReadsF F P (c0.pair (c1.pair (c2.pair (c3.pair (c4.pair c5))))) t := by
 intro H enc w base spare held fuel cs x hF h
 obtain ⟨xs, m, hfu, hxx, hlen, hxl, hf⟩ := DataW.trod_struct ht h
 rw [hz] at hlen
 have hxl : xs.length = 6 := hxl
 have h0 := hf 0 f0 rfl
 rw [o0, z0, List.getElem?_eq_getElem (show 0 < xs.length by omega)] at h0
 obtain ⟨a0, k0, b0⟩ := r0 (by subst hfu; exact hF) h0
 have h1 := hf 1 f1 rfl
 rw [o1, z1, List.getElem?_eq_getElem (show 1 < xs.length by omega)] at h1
 obtain ⟨a1, k1, b1⟩ := r1 (by subst hfu; exact hF) h1
 have h2 := hf 2 f2 rfl
 rw [o2, z2, List.getElem?_eq_getElem (show 2 < xs.length by omega)] at h2
 obtain ⟨a2, k2, b2⟩ := r2 (by subst hfu; exact hF) h2
 have h3 := hf 3 f3 rfl
 rw [o3, z3, List.getElem?_eq_getElem (show 3 < xs.length by omega)] at h3
 obtain ⟨a3, k3, b3⟩ := r3 (by subst hfu; exact hF) h3
 have h4 := hf 4 f4 rfl
 rw [o4, z4, List.getElem?_eq_getElem (show 4 < xs.length by omega)] at h4
 obtain ⟨a4, k4, b4⟩ := r4 (by subst hfu; exact hF) h4
 have h5 := hf 5 f5 rfl
 rw [o5, z5, List.getElem?_eq_getElem (show 5 < xs.length by omega)] at h5
 obtain ⟨a5, k5, b5⟩ := r5 (by subst hfu; exact hF) h5
 rw [take_drop_all cs (c0.size + c1.size + c2.size + c3.size + c4.size) c5.size (by omega)] at k5
 refine ⟨(a0, (a1, (a2, (a3, (a4, a5))))), ?_, ?_⟩
 ·exact ⟨by simpa using k0, ⟨by simpa [List.drop_drop, Nat.add_assoc] using k1, ⟨by simpa [List.drop_drop, Nat.add_assoc] using k2, ⟨by simpa [List.drop_drop, Nat.add_assoc] using k3, ⟨by simpa [List.drop_drop, Nat.add_assoc] using k4, (by simpa [List.drop_drop, Nat.add_assoc] using k5)⟩⟩⟩⟩⟩
 ·subst hxx
  simp only [Rows.uptoBulk, bulkAll_sum, Cod.pair]
  have hs : (List.map Rows.uptoBulk (xs.map (·.1))).sum = Rows.uptoBulk xs[0].1 + (Rows.uptoBulk xs[1].1 + (Rows.uptoBulk xs[2].1 + (Rows.uptoBulk xs[3].1 + (Rows.uptoBulk xs[4].1 + (Rows.uptoBulk xs[5].1))))) := by
   obtain ⟨x0, x1, x2, x3, x4, x5, rfl⟩ := list_of_len6 xs hxl
   simp
  rw [hs]
  exact Nat.le_succ_of_le (Nat.add_le_add b0 (Nat.add_le_add b1 (Nat.add_le_add b2 (Nat.add_le_add b3 (Nat.add_le_add b4 b5)))))
theorem list_of_len10 {α : Type} (l : List α) (h : l.length = 10) : ∃ x0 x1 x2 x3 x4 x5 x6 x7 x8 x9, l = [x0, x1, x2, x3, x4, x5, x6, x7, x8, x9] := by
 match l, h with
 | [x0, x1, x2, x3, x4, x5, x6, x7, x8, x9], _ => exact ⟨x0, x1, x2, x3, x4, x5, x6, x7, x8, x9, rfl⟩
theorem reads_struct10 {F : Nat → Prop} {P : Program} {α0 α1 α2 α3 α4 α5 α6 α7 α8 α9 : Type} {t : TypeId} {f0 f1 f2 f3 f4 f5 f6 f7 f8 f9 : Field} {c0 : Cod α0} {c1 : Cod α1} {c2 : Cod α2} {c3 : Cod α3} {c4 : Cod α4} {c5 : Cod α5} {c6 : Cod α6} {c7 : Cod α7} {c8 : Cod α8} {c9 : Cod α9} (ht : P.underlying t = some (.struct #[f0, f1, f2, f3, f4, f5, f6, f7, f8, f9])) (hz : P.cellsOf t = c0.size + c1.size + c2.size + c3.size + c4.size + c5.size + c6.size + c7.size + c8.size + c9.size) (o0 : f0.offset = 0) (o1 : f1.offset = c0.size) (o2 : f2.offset = c0.size + c1.size) (o3 : f3.offset = c0.size + c1.size + c2.size) (o4 : f4.offset = c0.size + c1.size + c2.size + c3.size) (o5 : f5.offset = c0.size + c1.size + c2.size + c3.size + c4.size) (o6 : f6.offset = c0.size + c1.size + c2.size + c3.size + c4.size + c5.size) (o7 : f7.offset = c0.size + c1.size + c2.size + c3.size + c4.size + c5.size + c6.size) (o8 : f8.offset = c0.size + c1.size + c2.size + c3.size + c4.size + c5.size + c6.size + c7.size) (o9 : f9.offset = c0.size + c1.size + c2.size + c3.size + c4.size + c5.size + c6.size + c7.size + c8.size) (z0 : P.cellsOf f0.type = c0.size) (z1 : P.cellsOf f1.type = c1.size) (z2 : P.cellsOf f2.type = c2.size) (z3 : P.cellsOf f3.type = c3.size) (z4 : P.cellsOf f4.type = c4.size) (z5 : P.cellsOf f5.type = c5.size) (z6 : P.cellsOf f6.type = c6.size) (z7 : P.cellsOf f7.type = c7.size) (z8 : P.cellsOf f8.type = c8.size) (z9 : P.cellsOf f9.type = c9.size) (r0 : ReadsF (fun m => F (m + 1)) P c0 f0.type) (r1 : ReadsF (fun m => F (m + 1)) P c1 f1.type) (r2 : ReadsF (fun m => F (m + 1)) P c2 f2.type) (r3 : ReadsF (fun m => F (m + 1)) P c3 f3.type) (r4 : ReadsF (fun m => F (m + 1)) P c4 f4.type) (r5 : ReadsF (fun m => F (m + 1)) P c5 f5.type) (r6 : ReadsF (fun m => F (m + 1)) P c6 f6.type) (r7 : ReadsF (fun m => F (m + 1)) P c7 f7.type) (r8 : ReadsF (fun m => F (m + 1)) P c8 f8.type) (r9 : ReadsF (fun m => F (m + 1)) P c9 f9.type) : ReadsF F P (c0.pair (c1.pair (c2.pair (c3.pair (c4.pair (c5.pair (c6.pair (c7.pair (c8.pair c9))))))))) t := by
 intro H enc w base spare held fuel cs x hF h
 obtain ⟨xs, m, hfu, hxx, hlen, hxl, hf⟩ := DataW.trod_struct ht h
 rw [hz] at hlen
 have hxl : xs.length = 10 := hxl
 have h0 := hf 0 f0 rfl
 rw [o0, z0, List.getElem?_eq_getElem (show 0 < xs.length by omega)] at h0
 obtain ⟨a0, k0, b0⟩ := r0 (by subst hfu; exact hF) h0
 have h1 := hf 1 f1 rfl
 rw [o1, z1, List.getElem?_eq_getElem (show 1 < xs.length by omega)] at h1
 obtain ⟨a1, k1, b1⟩ := r1 (by subst hfu; exact hF) h1
 have h2 := hf 2 f2 rfl
 rw [o2, z2, List.getElem?_eq_getElem (show 2 < xs.length by omega)] at h2
 obtain ⟨a2, k2, b2⟩ := r2 (by subst hfu; exact hF) h2
 have h3 := hf 3 f3 rfl
 rw [o3, z3, List.getElem?_eq_getElem (show 3 < xs.length by omega)] at h3
 obtain ⟨a3, k3, b3⟩ := r3 (by subst hfu; exact hF) h3
 have h4 := hf 4 f4 rfl
 rw [o4, z4, List.getElem?_eq_getElem (show 4 < xs.length by omega)] at h4
 obtain ⟨a4, k4, b4⟩ := r4 (by subst hfu; exact hF) h4
 have h5 := hf 5 f5 rfl
 rw [o5, z5, List.getElem?_eq_getElem (show 5 < xs.length by omega)] at h5
 obtain ⟨a5, k5, b5⟩ := r5 (by subst hfu; exact hF) h5
 have h6 := hf 6 f6 rfl
 rw [o6, z6, List.getElem?_eq_getElem (show 6 < xs.length by omega)] at h6
 obtain ⟨a6, k6, b6⟩ := r6 (by subst hfu; exact hF) h6
 have h7 := hf 7 f7 rfl
 rw [o7, z7, List.getElem?_eq_getElem (show 7 < xs.length by omega)] at h7
 obtain ⟨a7, k7, b7⟩ := r7 (by subst hfu; exact hF) h7
 have h8 := hf 8 f8 rfl
 rw [o8, z8, List.getElem?_eq_getElem (show 8 < xs.length by omega)] at h8
 obtain ⟨a8, k8, b8⟩ := r8 (by subst hfu; exact hF) h8
 have h9 := hf 9 f9 rfl
 rw [o9, z9, List.getElem?_eq_getElem (show 9 < xs.length by omega)] at h9
 obtain ⟨a9, k9, b9⟩ := r9 (by subst hfu; exact hF) h9
 rw [take_drop_all cs (c0.size + c1.size + c2.size + c3.size + c4.size + c5.size + c6.size + c7.size + c8.size) c9.size (by omega)] at k9
 refine ⟨(a0, (a1, (a2, (a3, (a4, (a5, (a6, (a7, (a8, a9))))))))), ?_, ?_⟩
 ·exact ⟨by simpa using k0, ⟨by simpa [List.drop_drop, Nat.add_assoc] using k1, ⟨by simpa [List.drop_drop, Nat.add_assoc] using k2, ⟨by simpa [List.drop_drop, Nat.add_assoc] using k3, ⟨by simpa [List.drop_drop, Nat.add_assoc] using k4, ⟨by simpa [List.drop_drop, Nat.add_assoc] using k5, ⟨by simpa [List.drop_drop, Nat.add_assoc] using k6, ⟨by simpa [List.drop_drop, Nat.add_assoc] using k7, ⟨by simpa [List.drop_drop, Nat.add_assoc] using k8, (by simpa [List.drop_drop, Nat.add_assoc] using k9)⟩⟩⟩⟩⟩⟩⟩⟩⟩
 ·subst hxx
  simp only [Rows.uptoBulk, bulkAll_sum, Cod.pair]
  have hs : (List.map Rows.uptoBulk (xs.map (·.1))).sum = Rows.uptoBulk xs[0].1 + (Rows.uptoBulk xs[1].1 + (Rows.uptoBulk xs[2].1 + (Rows.uptoBulk xs[3].1 + (Rows.uptoBulk xs[4].1 + (Rows.uptoBulk xs[5].1 + (Rows.uptoBulk xs[6].1 + (Rows.uptoBulk xs[7].1 + (Rows.uptoBulk xs[8].1 + (Rows.uptoBulk xs[9].1))))))))) := by
   obtain ⟨x0, x1, x2, x3, x4, x5, x6, x7, x8, x9, rfl⟩ := list_of_len10 xs hxl
   simp
  rw [hs]
  exact Nat.le_succ_of_le (Nat.add_le_add b0 (Nat.add_le_add b1 (Nat.add_le_add b2 (Nat.add_le_add b3 (Nat.add_le_add b4 (Nat.add_le_add b5 (Nat.add_le_add b6 (Nat.add_le_add b7 (Nat.add_le_add b8 b9)))))))))
end Go.Proofs.Ytphgchakmkankaa

namespace Go.Proofs.Ytphgchakmkankaa
set_option linter.unusedSectionVars false
open Go.RowKit Go.Deep
set_option linter.unusedVariables false
set_option linter.unusedSimpArgs false

theorem ReadsF.imp {F : Nat → Prop} {P : Program} {α β : Type} {c : Cod α} {d : Cod β} {t : TypeId} (h : ReadsF F P c t) (k : ∀ w cs a, c.is w cs a → ∃ b, d.is w cs b ∧ d.bulk b ≤ c.bulk a) : ReadsF F P d t := by
 intro H enc w base spare held fuel cs x hF h1
 obtain ⟨a, ha, hb⟩ := h hF h1
 obtain ⟨b, h2, h3⟩ := k _ _ _ ha
 exact ⟨b, h2, Nat.le_trans h3 hb⟩
theorem cells_split {α : Type} {cs a b : List α} {n : Nat} (h1 : cs.take n = a) (h2 : cs.drop n = b) : cs = a ++ b := by rw [← h1, ← h2, List.take_append_drop]
def pointC : Cod PointD where
 size := 2
 is := fun w cs x => cs = [.int .i64 x.time, .int .i64 x.way] ∧ inI x.time ∧ inI x.way
 len := fun h => by obtain ⟨rfl, _⟩ := h; rfl
 mono := fun h _ => h
 bulk := fun x => intC.bulk x.time + (intC.bulk x.way)
theorem reads_point : Reads Try.prog pointC 133 :=
 (reads_struct2 (F := fun _ => True) Try.underlying133 (c0 := intC) (c1 := intC) (by kernel_rfl) rfl rfl (by kernel_rfl) (by kernel_rfl) (reads_int Try.underlying3) (reads_int Try.underlying3)).imp fun w cs a h => by
  obtain ⟨a0, a1⟩ := a
  obtain ⟨h0, h1⟩ := h
  obtain ⟨e0, b0⟩ := h0
  obtain ⟨e1, b1⟩ := h1
  have e100 := cells_split e0 e1
  exact ⟨⟨a0, a1⟩, ⟨by rw [e100]; rfl, b0, b1⟩, Nat.le_refl _⟩
theorem reads_points : Reads Try.prog (sliceC pointC) 40 := reads_slice Try.underlying40 (c := pointC) (by kernel_rfl) (by decide) reads_point
def curveC : Cod CurveD where
 size := 2
 is := fun w cs x => ∃ v0 : Value, cs = [.int .i64 x.kind, v0] ∧ inI x.kind ∧ (sliceC pointC).is w [v0] x.points
 len := fun h => by obtain ⟨v0, rfl, _⟩ := h; rfl
 mono := fun {w w' cs x} h g => by obtain ⟨v0, e, h0, h1⟩ := h; exact ⟨v0, e, h0, ((sliceC pointC)).mono h1 g⟩
 bulk := fun x => intC.bulk x.kind + ((sliceC pointC).bulk x.points)
theorem reads_curve : Reads Try.prog curveC 42 :=
 (reads_struct2 (F := fun _ => True) Try.underlying42 (c0 := intC) (c1 := (sliceC pointC)) (by kernel_rfl) rfl rfl (by kernel_rfl) (by kernel_rfl) (reads_int Try.underlying3) reads_points).imp fun w cs a h => by
  obtain ⟨a0, a1⟩ := a
  obtain ⟨h0, h1⟩ := h
  obtain ⟨e0, b0⟩ := h0
  obtain ⟨s1, e1⟩ := List.length_eq_one_iff.1 (((sliceC pointC)).len h1); rw [e1] at h1
  have e100 := cells_split e0 e1
  exact ⟨⟨a0, a1⟩, ⟨s1, by rw [e100]; rfl, b0, h1⟩, Nat.le_refl _⟩
def keyC : Cod KeyD where
 size := 2
 is := fun w cs x => cs = [.int .i64 x.unit, .string x.param] ∧ inI x.unit ∧ x.param.size ≤ maxLen
 len := fun h => by obtain ⟨rfl, _⟩ := h; rfl
 mono := fun h _ => h
 bulk := fun x => intC.bulk x.unit + (strC.bulk x.param)
theorem reads_key : Reads Try.prog keyC 49 :=
 (reads_struct2 (F := fun _ => True) Try.underlying49 (c0 := intC) (c1 := strC) (by kernel_rfl) rfl rfl (by kernel_rfl) (by kernel_rfl) (reads_int Try.underlying3) (reads_str Try.underlying9)).imp fun w cs a h => by
  obtain ⟨a0, a1⟩ := a
  obtain ⟨h0, h1⟩ := h
  obtain ⟨e0, b0⟩ := h0
  obtain ⟨e1, b1⟩ := h1
  have e100 := cells_split e0 e1
  exact ⟨⟨a0, a1⟩, ⟨by rw [e100]; rfl, b0, b1⟩, Nat.le_refl _⟩
def valueC : Cod ValueD where
 size := 2
 is := fun w cs x => cs = [.int .i64 x.level, .int .i64 x.preset] ∧ inI x.level ∧ inI x.preset
 len := fun h => by obtain ⟨rfl, _⟩ := h; rfl
 mono := fun h _ => h
 bulk := fun x => intC.bulk x.level + (intC.bulk x.preset)
theorem reads_value : Reads Try.prog valueC 64 :=
 (reads_struct2 (F := fun _ => True) Try.underlying64 (c0 := intC) (c1 := intC) (by kernel_rfl) rfl rfl (by kernel_rfl) (by kernel_rfl) (reads_int Try.underlying3) (reads_int Try.underlying3)).imp fun w cs a h => by
  obtain ⟨a0, a1⟩ := a
  obtain ⟨h0, h1⟩ := h
  obtain ⟨e0, b0⟩ := h0
  obtain ⟨e1, b1⟩ := h1
  have e100 := cells_split e0 e1
  exact ⟨⟨a0, a1⟩, ⟨by rw [e100]; rfl, b0, b1⟩, Nat.le_refl _⟩
def moveC : Cod MoveD where
 size := 8
 is := fun w cs x => cs = [.int .i64 x.key.unit, .string x.key.param, .int .i64 x.value.level, .int .i64 x.value.preset, .bool x.release, .bool x.timed, .int .i64 x.delay, .int .i64 x.time] ∧ inI x.key.unit ∧ x.key.param.size ≤ maxLen ∧ inI x.value.level ∧ inI x.value.preset ∧ inI x.delay ∧ inI x.time
 len := fun h => by obtain ⟨rfl, _⟩ := h; rfl
 mono := fun h _ => h
 bulk := fun x => keyC.bulk x.key + (valueC.bulk x.value + (boolC.bulk x.release + (boolC.bulk x.timed + (intC.bulk x.delay + (intC.bulk x.time)))))
theorem reads_move : Reads Try.prog moveC 66 :=
 (reads_struct6 (F := fun _ => True) Try.underlying66 (c0 := keyC) (c1 := valueC) (c2 := boolC) (c3 := boolC) (c4 := intC) (c5 := intC) (by kernel_rfl) rfl rfl rfl rfl rfl rfl (by kernel_rfl) (by kernel_rfl) (by kernel_rfl) (by kernel_rfl) (by kernel_rfl) (by kernel_rfl) reads_key reads_value (reads_bool Try.underlying4) (reads_bool Try.underlying4) (reads_int Try.underlying3) (reads_int Try.underlying3)).imp fun w cs a h => by
  obtain ⟨a0, a1, a2, a3, a4, a5⟩ := a
  obtain ⟨h0, h1, h2, h3, h4, h5⟩ := h
  obtain ⟨e0, b0⟩ := h0
  obtain ⟨b0_0, b0_1⟩ := b0
  obtain ⟨e1, b1⟩ := h1
  obtain ⟨b1_0, b1_1⟩ := b1
  have e2 := h2; simp only [boolC] at e2
  have e3 := h3; simp only [boolC] at e3
  obtain ⟨e4, b4⟩ := h4
  obtain ⟨e5, b5⟩ := h5
  have e104 := cells_split e4 e5
  have e103 := cells_split e3 e104
  have e102 := cells_split e2 e103
  have e101 := cells_split e1 e102
  have e100 := cells_split e0 e101
  exact ⟨⟨a0, a1, a2, a3, a4, a5⟩, ⟨by rw [e100]; rfl, b0_0, b0_1, b1_0, b1_1, b4, b5⟩, Nat.le_refl _⟩
theorem reads_moves : Reads Try.prog (sliceC moveC) 31 := reads_slice Try.underlying31 (c := moveC) (by kernel_rfl) (by decide) reads_move
def cueC : Cod CueD where
 size := 11
 is := fun w cs x => ∃ v0 v1 : Value, cs = [.int .i64 x.number, .string x.title, .int .i64 x.delay, .int .i64 x.up, .int .i64 x.down, .int .i64 x.other, .int .i64 x.curve.kind, v0, .bool x.block, .int .i64 x.follow, v1] ∧ inI x.number ∧ x.title.size ≤ maxLen ∧ inI x.delay ∧ inI x.up ∧ inI x.down ∧ inI x.other ∧ inI x.curve.kind ∧ (sliceC pointC).is w [v0] x.curve.points ∧ inI x.follow ∧ (sliceC moveC).is w [v1] x.moves
 len := fun h => by obtain ⟨v0, v1, rfl, _⟩ := h; rfl
 mono := fun {w w' cs x} h g => by obtain ⟨v0, v1, e, h0, h1, h2, h3, h4, h5, h6, h7, h8, h9⟩ := h; exact ⟨v0, v1, e, h0, h1, h2, h3, h4, h5, h6, ((sliceC pointC)).mono h7 g, h8, ((sliceC moveC)).mono h9 g⟩
 bulk := fun x => intC.bulk x.number + (strC.bulk x.title + (intC.bulk x.delay + (intC.bulk x.up + (intC.bulk x.down + (intC.bulk x.other + (curveC.bulk x.curve + (boolC.bulk x.block + (intC.bulk x.follow + ((sliceC moveC).bulk x.moves)))))))))
theorem reads_cue : Reads Try.prog cueC 44 :=
 (reads_struct10 (F := fun _ => True) Try.underlying44 (c0 := intC) (c1 := strC) (c2 := intC) (c3 := intC) (c4 := intC) (c5 := intC) (c6 := curveC) (c7 := boolC) (c8 := intC) (c9 := (sliceC moveC)) (by kernel_rfl) rfl rfl rfl rfl rfl rfl rfl rfl rfl rfl (by kernel_rfl) (by kernel_rfl) (by kernel_rfl) (by kernel_rfl) (by kernel_rfl) (by kernel_rfl) (by kernel_rfl) (by kernel_rfl) (by kernel_rfl) (by kernel_rfl) (reads_int Try.underlying3) (reads_str Try.underlying9) (reads_int Try.underlying3) (reads_int Try.underlying3) (reads_int Try.underlying3) (reads_int Try.underlying3) reads_curve (reads_bool Try.underlying4) (reads_int Try.underlying3) reads_moves).imp fun w cs a h => by
  obtain ⟨a0, a1, a2, a3, a4, a5, a6, a7, a8, a9⟩ := a
  obtain ⟨h0, h1, h2, h3, h4, h5, h6, h7, h8, h9⟩ := h
  obtain ⟨e0, b0⟩ := h0
  obtain ⟨e1, b1⟩ := h1
  obtain ⟨e2, b2⟩ := h2
  obtain ⟨e3, b3⟩ := h3
  obtain ⟨e4, b4⟩ := h4
  obtain ⟨e5, b5⟩ := h5
  obtain ⟨s6_0, e6, b6⟩ := h6
  obtain ⟨b6_0, b6_1⟩ := b6
  have e7 := h7; simp only [boolC] at e7
  obtain ⟨e8, b8⟩ := h8
  obtain ⟨s9, e9⟩ := List.length_eq_one_iff.1 (((sliceC moveC)).len h9); rw [e9] at h9
  have e108 := cells_split e8 e9
  have e107 := cells_split e7 e108
  have e106 := cells_split e6 e107
  have e105 := cells_split e5 e106
  have e104 := cells_split e4 e105
  have e103 := cells_split e3 e104
  have e102 := cells_split e2 e103
  have e101 := cells_split e1 e102
  have e100 := cells_split e0 e101
  exact ⟨⟨a0, a1, a2, a3, a4, a5, a6, a7, a8, a9⟩, ⟨s6_0, s9, by rw [e100]; rfl, b0, b1, b2, b3, b4, b5, b6_0, b6_1, b8, h9⟩, Nat.le_refl _⟩
theorem reads_cues : Reads Try.prog (sliceC cueC) 22 := reads_slice Try.underlying22 (c := cueC) (by kernel_rfl) (by decide) reads_cue
end Go.Proofs.Ytphgchakmkankaa

namespace Go.Proofs.Ytphgchakmkankaa
set_option linter.unusedSectionVars false
open Go.RowKit Go.Deep
set_option linter.unusedVariables false
set_option linter.unusedSimpArgs false
section
variable {c : RC}
theorem repL_nil : RepL c [] [] := by simp [RepL]
theorem repL_cons {a : AV} {v : Value} {l : List AV} {vs : List Value} (h : Rep c a v) (k : RepL c l vs) : RepL c (a :: l) (v :: vs) := by
 simp only [RepL]; exact ⟨v, vs, rfl, h, k⟩
theorem rep_int (k : IntKind) (n : Int) : Rep c (.int k n) (.int k n) := by simp [Rep]
theorem rep_bool (b : Bool) : Rep c (.bool b) (.bool b) := by simp [Rep]
theorem rep_str (s : ByteArray) : Rep c (.str s) (.string s) := by simp [Rep]
def RP {α : Type} (c : RC) (d : Cod α) (e : α → List AV) (ok : α → Prop) : Prop := ∀ cs x, d.is c.w cs x → RepL c (e x) cs ∧ ok x ∧ (∀ v ∈ cs, one1 v = true)
theorem repL_len : ∀ {l : List AV} {vs : List Value}, RepL c l vs → l.length = vs.length
 | [], vs, h => by simp only [RepL] at h; subst h; rfl
 | a :: l, vs, h => by
  simp only [RepL] at h
  obtain ⟨v, vs', rfl, _, h⟩ := h
  simp [repL_len h]
theorem repCs_of {b : Nat} : ∀ {l : List AV} {vs : List Value} {off : Nat}, RepL c l vs → (∀ v ∈ vs, one1 v = true) → (∀ j, j < vs.length → c.w.cell? ⟨b, off + j, none⟩ = vs[j]?) → RepCs c b off l
 | [], vs, off, h, _, _ => by simp [RepCs]
 | a :: l, vs, off, h, ho, hc => by
  simp only [RepL] at h
  obtain ⟨v, vs', rfl, h1, h2⟩ := h
  simp only [RepCs]
  refine ⟨⟨v, by simpa using hc 0 (by simp), ho v (by simp), h1⟩, repCs_of h2 (fun v hv => ho v (by simp [hv])) fun j hj => ?_⟩
  have := hc (j + 1) (by simpa using hj)
  rw [show off + 1 + j = off + (j + 1) by omega]
  simpa using this
theorem repEs_of {α : Type} {d : Cod α} {e : α → List AV} {ok : α → Prop} (H : RP c d e ok) {b sz : Nat} (hsz : d.size = sz) : ∀ {l : List α} {off : Nat}, (∀ (i : Nat) (x : α), l[i]? = some x → ∃ cs', (∀ j, j < d.size → c.w.cell? ⟨b, off + (i * d.size + j), none⟩ = cs'[j]?) ∧ d.is c.w cs' x) → RepEs c sz b off (l.map e) ∧ ∀ x ∈ l, ok x
 | [], off, h => by simp [RepEs]
 | x :: l, off, h => by
  obtain ⟨cs, h1, h2⟩ := h 0 x rfl
  obtain ⟨k1, k2, k3⟩ := H cs x h2
  have hl : cs.length = d.size := d.len h2
  obtain ⟨r1, r2⟩ := repEs_of H hsz (l := l) (off := off + sz) (fun i y hy => by
   obtain ⟨cs', q1, q2⟩ := h (i + 1) y (by simpa using hy)
   refine ⟨cs', fun j hj => ?_, q2⟩
   have := q1 j hj
   rw [← hsz]
   rwa [show off + d.size + (i * d.size + j) = off + ((i + 1) * d.size + j) by rw [Nat.succ_mul]; omega])
  refine ⟨?_, fun y hy => ?_⟩
  ·simp only [List.map_cons, RepEs]
   refine ⟨by rw [repL_len k1, hl, hsz], repCs_of k1 k3 fun j hj => ?_, r1⟩
   have := h1 j (by rw [← hl]; exact hj)
   simpa using this
  ·rcases List.mem_cons.1 hy with rfl | hy
   ·exact k2
   ·exact r2 y hy
theorem cell_in {w : World} {b off : Nat} {v : Value} (h : w.cell? ⟨b, off, none⟩ = some v) : b < w.heap.size := by
 rcases Nat.lt_or_ge b w.heap.size with k | k
 ·exact k
 ·simp [World.cell?, Array.getElem?_eq_none k] at h
theorem rp_slice {α : Type} {d : Cod α} {e : α → List AV} {ok : α → Prop} (hX : ∀ b, ¬ c.X b) (H : RP c d e ok) {sz : Nat} (hsz : d.size = sz) (h0 : 0 < sz) {v : Value} {l : List α} (h : (sliceC d).is c.w [v] l) : Rep c (sl sz e l) v ∧ okL ok l ∧ one1 v = true := by
 rcases h with ⟨h1, rfl⟩ | ⟨b, off, sp, cap, h1, h2, h3, h4⟩
 ·simp only [List.cons.injEq, and_true] at h1
  subst h1
  exact ⟨by simp [sl, Rep, h0], ⟨by simp, by simp⟩, rfl⟩
 ·simp only [List.cons.injEq, and_true] at h1
  subst h1
  have hes : sp = none ∨ l = [] := by
   cases l with
   | nil => exact .inr rfl
   | cons x l => exact .inl (h4 0 (by simp)).1
  have hh : ∀ (i : Nat) (x : α), l[i]? = some x → ∃ cs', (∀ j, j < d.size → c.w.cell? ⟨b, off + (i * d.size + j), none⟩ = cs'[j]?) ∧ d.is c.w cs' x := by
   intro i x hx
   obtain ⟨hi, hx⟩ := List.getElem?_eq_some_iff.1 hx
   subst hx
   exact (h4 i hi).2
  obtain ⟨r1, r2⟩ := repEs_of H hsz hh
  refine ⟨?_, ⟨by unfold maxLen at h3; unfold mxl; omega, r2⟩, rfl⟩
  simp only [sl, Rep]
  refine ⟨some ⟨b, off, sp⟩, cap, by simp, by simpa using h2, h0, ?_⟩
  rcases hes with rfl | rfl
  ·cases l with
   | nil => exact .inl rfl
   | cons x l =>
    refine .inr ⟨b, off, rfl, ?_, hX b, r1⟩
    obtain ⟨cs, q1, q2⟩ := hh 0 x rfl
    have hl : cs.length = d.size := d.len q2
    have := q1 0 (by omega)
    obtain ⟨y, hy⟩ : ∃ y, cs[0]? = some y := ⟨cs[0], List.getElem?_eq_getElem (by omega)⟩
    rw [hy] at this
    exact cell_in this
  ·exact .inl rfl
theorem one_nil : ∀ v ∈ ([] : List Value), one1 v = true := by simp
theorem one_cons {v : Value} {vs : List Value} (h : one1 v = true) (k : ∀ x ∈ vs, one1 x = true) : ∀ x ∈ v :: vs, one1 x = true := by
 intro x hx
 rcases List.mem_cons.1 hx with rfl | hx
 ·exact h
 ·exact k x hx
theorem rp_Point : RP c pointC cPoint okPoint := by
 rintro cs x ⟨rfl, h0, h1⟩
 exact ⟨(repL_cons (rep_int _ _) (repL_cons (rep_int _ _) repL_nil)), ⟨h0, h1⟩, (one_cons rfl (one_cons rfl one_nil))⟩
theorem rp_Move : RP c moveC cMove okMove := by
 rintro cs x ⟨rfl, h0, h1, h2, h3, h6, h7⟩
 exact ⟨(repL_cons (rep_int _ _) (repL_cons (rep_str _) (repL_cons (rep_int _ _) (repL_cons (rep_int _ _) (repL_cons (rep_bool _) (repL_cons (rep_bool _) (repL_cons (rep_int _ _) (repL_cons (rep_int _ _) repL_nil)))))))), ⟨⟨h0, (show okS _ by unfold okS mxl; have := h1; unfold maxLen at this; omega)⟩, ⟨h2, h3⟩, h6, h7⟩, (one_cons rfl (one_cons rfl (one_cons rfl (one_cons rfl (one_cons rfl (one_cons rfl (one_cons rfl (one_cons rfl one_nil))))))))⟩
theorem rp_Cue (hX : ∀ b, ¬ c.X b) : RP c cueC cCue okCue := by
 rintro cs x ⟨v0, v1, rfl, h0, h1, h2, h3, h4, h5, h6, h7, h9, h10⟩
 obtain ⟨r7, o7, n7⟩ := rp_slice hX rp_Point (sz := 2) rfl (by decide) h7
 obtain ⟨r10, o10, n10⟩ := rp_slice hX rp_Move (sz := 8) rfl (by decide) h10
 exact ⟨(repL_cons (rep_int _ _) (repL_cons (rep_str _) (repL_cons (rep_int _ _) (repL_cons (rep_int _ _) (repL_cons (rep_int _ _) (repL_cons (rep_int _ _) (repL_cons (rep_int _ _) (repL_cons r7 (repL_cons (rep_bool _) (repL_cons (rep_int _ _) (repL_cons r10 repL_nil))))))))))), ⟨h0, (show okS _ by unfold okS mxl; have := h1; unfold maxLen at this; omega), h2, h3, h4, h5, ⟨h6, o7⟩, h9, o10⟩, (one_cons rfl (one_cons rfl (one_cons rfl (one_cons rfl (one_cons rfl (one_cons rfl (one_cons rfl (one_cons n7 (one_cons rfl (one_cons rfl (one_cons n10 one_nil)))))))))))⟩
end
end Go.Proofs.Ytphgchakmkankaa

namespace Go.Proofs.Ytphgchakmkankaa
set_option linter.unusedSectionVars false
set_option linter.unusedSimpArgs false
set_option linter.unusedVariables false
open Go.RowKit
noncomputable def base (W : World) : RC := ctx ⟨W, [], fun _ => False, nmT⟩ W [] nopb
theorem base_X (W : World) : ∀ b, ¬ (base W).X b := by
 rintro b (k | ⟨p, hp, _⟩ | ⟨i, k⟩)
 ·exact k
 ·cases hp
 ·cases k
theorem law_run {n : FuncId} {m : List AV → Heap → Option (AV × Heap)} {avs : List AV} (hs : Sound Try.prog nmT n m) (hc : ∀ us w, (callFunc n us).run Try.prog w = .ok (.enter n us) w) (W : World) (vs : Array Value) (hr : RepL (base W) avs vs.toList) (hm : m avs [] = some (.bool true, [])) :
  Calls Try.prog n vs W fun e W' => e = .returned (.bool true) ∧ Below W.heap.size W W' := by
 have hh0 : HeapRel (ctx ⟨W, [], fun _ => False, nmT⟩ W [] nopb) [] := by
  refine ⟨rfl, fun i j p q hp => ?_, fun i p x hp => ?_⟩
  ·simp [ctx] at hp
  ·simp [ctx] at hp
 rcases hs _ _ _ _ hm with ⟨g, h1, h2⟩ | hv
 case inr =>
  obtain ⟨v, w', E', k1, _⟩ := hv ⟨W, [], fun _ => False, nmT⟩ vs rfl (fun b k => k.elim) hh0 hr
  rw [hc] at k1
  injection k1 with k1
  cases k1
 have hg : g = n := by
  have e1 := h1 #[] W
  rw [hc #[] W] at e1
  injection e1 with e1
  injection e1 with e1
  exact e1.symm
 subst hg
 have hh : HeapRel (ctx ⟨W, [], fun _ => False, nmT⟩ W [] nopb) [] := by
  refine ⟨rfl, fun i j p q hp => ?_, fun i p x hp => ?_⟩
  ·simp [ctx] at hp
  ·simp [ctx] at hp
 refine (h2 ⟨W, [], fun _ => False, nmT⟩ vs rfl (fun b k => k.elim) hh hr).mono ?_
 rintro e w' ⟨v, E', rfl, ho, _, hv⟩
 simp only [Rep] at hv
 subst hv
 exact ⟨rfl, ho.os, ho.tape, ho.output, ho.size, fun k hk => ho.stay k hk (fun p hp => by cases hp)⟩
end Go.Proofs.Ytphgchakmkankaa

