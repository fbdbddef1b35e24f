/- Parts of the proof of StampDueMatchesSpec, in order. -/
import Derived.Orders
import Derived.Below
import Derived.WalkKit
import Derived.Laws.StructEq
import Derived.Laws.Append
import Derived.Laws.AppendOwn
import Derived.IntWalk
import Derived.Lib.Bytealg
import Derived.Lib.Strings
import Derived.Test.YtohbeolimnpehaaRows
import Derived.KernelRfl
import Derived.Test.YtohbeolimnpehaaShelf
import Derived.WalkSpells
import Derived.ProofKit
import Derived.OpenShut
import Derived.Lib.Hide
import Derived.Lib.SmallJoins
import Derived.Deep.QuietTactic
import Derived.BigQuiet
import Derived.Deep.RegionHeld3
import Derived.Deep.Slices
import Derived.Test.YtohbeolimnpehaaKStampDueMatchesSpec4
/- Typed runs, written by a program. -/
namespace Go.Proofs.Ytohbeolimnpehaa
set_option linter.unusedSectionVars false
set_option linter.unusedVariables false
set_option linter.unusedSimpArgs false
set_option maxRecDepth 100000
noncomputable def t_R5_At (a0 : (List CueD)) (a1 : Int) : Option Int :=
 forE a0 (fun (i8 : Nat) e7 (s1 : Unit) => (show Option (Lr Unit Unit Int) from
   if e7.number = a1 then
    some (.ret (i8 : Int))
   else
    some (.go ()))) (fun s1 => some ()) () (fun b2 =>
  some (-1)) (fun b2 =>
  some b2)
theorem h_R5_At {a0 : (List CueD)} { a1 : Int} {σ : Heap} {r : Int} (h : t_R5_At a0 a1 = some r) : m_R5_At [(sl 11 cCue a0), (AV.int .i64 a1)] σ = some ((AV.int .i64 r), σ) := by
 refine rf_wrap2 (f := r_R5_At) (y0 := (sl 11 cCue a0)) (y1 := (AV.int .i64 a1)) (enc := fun r : Int => (AV.int .i64 r)) (T := t_R5_At a0 a1) rfl rfl ?_ r h
 unfold r_R5_At t_R5_At
 refine rf_s (AV.int .i64 (a0.length : Int)) (lenS_sl _ _ _) ?_
 refine rf_for (B := Unit) (R := Int) (fun (i8 : Nat) (s1 : Unit) v w3 => v = [(AV.int .i64 0), (AV.int .i64 (i8 : Int))] ∧ σ = w3) (fun (b2 : Unit) (q : LS) => ∃ u4 u9, q = ((AX.exit 0), ([u4, u9] : List AV), σ)) (fun (b2 : Int) (q : LS) => ∃ u9, q = (AX.ret, ([(AV.int .i64 b2), u9] : List AV), σ)) ?_ ?_ ⟨rfl, rfl⟩ ?_ ?_
 ·intro hle7 i8 e7 s1 v w3 he7 hI
  obtain ⟨rfl, rfl⟩ := hI
  refine rf_s (AV.bool true) (ix_lt he7) ?_
  refine rf_ct ?_
  refine rf_s (AV.rp (cCue e7)) (ix_for he7) ?_
  refine rf_s (AV.agg (cCue e7)) rfl ?_
  refine rf_s (cCue e7) rfl ?_
  refine rf_s (cCue e7) (sp_cCue _ _ rfl) ?_
  refine rf_s (AV.int .i64 e7.number) rfl ?_
  refine rf_s (AV.bool (decide (e7.number = a1))) (aEq _ _ _) ?_
  refine rf_c (p := e7.number = a1) (fun c9 => ?_) (fun c9 => ?_)
  ·exact rf_ret (rnd_ret (by simp) ⟨_, rfl⟩)
  ·refine rf_s (AV.int .i64 ((i8 + 1 : Nat) : Int)) (ix_inc he7 hle7) ?_
   exact rf_ret (rnd_go ⟨rfl, rfl⟩)
 ·intro hl s1 v w3 hI
  obtain ⟨rfl, rfl⟩ := hI
  refine rf_s (AV.bool false) (ix_end _) ?_
  refine rf_cf ?_
  exact rf_ret ⟨by simp, ⟨_, _, rfl⟩⟩
 ·intro hl b2 q hq
  obtain ⟨u4, u9, rfl⟩ := hq
  refine rf_bt rfl ?_
  exact rf_fin _ (fin_same _ _) ⟨rfl, rfl⟩
 ·intro hl b2 q hq
  obtain ⟨u9, rfl⟩ := hq
  refine rf_bf rfl ?_
  refine rf_bt rfl ?_
  exact rf_fin _ (fin_same _ _) ⟨rfl, rfl⟩

noncomputable def t_R6_ActionForm (a0 : ActionD) : Option Int :=
 if (!(withinB a0.kind 1 9)) = true then
  some 4
 else
  if (((((decide (a0.kind = 8)) || (decide (a0.kind = 9))) && (decide (¬ (a0.playback = 0)))) || ((decide (¬ (a0.kind = 3))) && (decide (¬ (a0.cue = 0))))) || ((decide (¬ (6 ≤ a0.kind))) && (decide (¬ (a0.level = 0))))) = true then
   some 3
  else
   some 0
theorem h_R6_ActionForm {a0 : ActionD} {σ : Heap} {r : Int} (h : t_R6_ActionForm a0 = some r) : m_R6_ActionForm [(AV.agg (cAction a0))] σ = some ((AV.int .i64 r), σ) := by
 refine rf_wrap1 (f := r_R6_ActionForm) (y0 := (AV.agg (cAction a0))) (enc := fun r : Int => (AV.int .i64 r)) (T := t_R6_ActionForm a0) rfl rfl ?_ r h
 unfold r_R6_ActionForm t_R6_ActionForm
 refine rf_s (cAction a0) rfl ?_
 refine rf_s (AV.int .i64 a0.kind) rfl ?_
 refine rf_s ((AV.bool (withinB a0.kind 1 9)), σ) (Within1_eq a0.kind 1 9 σ) ?_
 refine rf_s (AV.bool (!(withinB a0.kind 1 9))) rfl ?_
 refine rf_cb (c := (!(withinB a0.kind 1 9))) (fun c2 => ?_) (fun c2 => ?_)
 ·exact rf_fin _ (fin_same _ _) ⟨rfl, rfl⟩
 ·refine rf_s (AV.int .i64 a0.kind) rfl ?_
  refine rf_s (AV.bool (decide (a0.kind = 8))) (aEq _ _ _) ?_
  refine rf_gf (AV.int .i64 a0.kind) (fun hg => by
    exact rfl) ?_
  refine rf_gf (AV.bool (decide (a0.kind = 9))) (fun hg => by
    first | exact (aEq _ _ _) | (simp only [hg, Bool.true_and, Bool.and_true, cond_true, hg]; first | done | exact (aEq _ _ _))) ?_
  refine rf_s (AV.bool ((decide (a0.kind = 8)) || (decide (a0.kind = 9)))) (pk_or _ _) ?_
  refine rf_s (AV.int .i64 a0.kind) rfl ?_
  refine rf_s (AV.bool (decide (6 ≤ a0.kind))) rfl ?_
  refine rf_gt (AV.int .i64 a0.playback) (fun hg => by
    exact rfl) ?_
  refine rf_gt (AV.bool (decide (¬ (a0.playback = 0)))) (fun hg => by
    first | exact (aNe _ _ _) | (simp only [hg, Bool.true_and, Bool.and_true, cond_true, hg]; first | done | exact (aNe _ _ _))) ?_
  refine rf_s (AV.bool (((decide (a0.kind = 8)) || (decide (a0.kind = 9))) && (decide (¬ (a0.playback = 0))))) (pk_and _ _) ?_
  refine rf_gf (AV.int .i64 a0.kind) (fun hg => by
    exact rfl) ?_
  refine rf_gf (AV.bool (decide (¬ (a0.kind = 3)))) (fun hg => by
    first | exact (aNe _ _ _) | (simp only [hg, Bool.true_and, Bool.and_true, cond_true, hg]; first | done | exact (aNe _ _ _))) ?_
  refine rf_gf (AV.bool (decide (¬ (a0.kind = 3)))) (fun hg => by
    first | exact rfl | (simp only [hg, Bool.true_and, Bool.and_true, cond_true, hg]; first | done | exact rfl)) ?_
  refine rf_ggt (AV.int .i64 a0.cue) (fun hg => by
    exact rfl) ?_
  refine rf_ggt (AV.bool (decide (¬ (a0.cue = 0)))) (fun hg => by
    first | exact (aNe _ _ _) | (simp only [hg, Bool.true_and, Bool.and_true, cond_true, hg]; first | done | exact (aNe _ _ _))) ?_
  refine rf_gf (AV.bool ((decide (¬ (a0.kind = 3))) && (decide (¬ (a0.cue = 0))))) (fun hg => by
    first | exact (pk_and _ _) | (simp only [hg, Bool.true_and, Bool.and_true, cond_true, hg]; first | done | exact (pk_and _ _))) ?_
  refine rf_s (AV.bool ((((decide (a0.kind = 8)) || (decide (a0.kind = 9))) && (decide (¬ (a0.playback = 0)))) || ((decide (¬ (a0.kind = 3))) && (decide (¬ (a0.cue = 0)))))) (pk_or _ _) ?_
  refine rf_gf (AV.bool (decide (6 ≤ a0.kind))) (fun hg => by
    exact rfl) ?_
  refine rf_gf (AV.bool (decide (¬ (6 ≤ a0.kind)))) (fun hg => by
    first | exact (aNotD (p := 6 ≤ a0.kind)) | (simp only [hg, Bool.true_and, Bool.and_true, cond_true, hg]; first | done | exact (aNotD (p := 6 ≤ a0.kind)))) ?_
  refine rf_gf (AV.bool (decide (¬ (6 ≤ a0.kind)))) (fun hg => by
    first | exact rfl | (simp only [hg, Bool.true_and, Bool.and_true, cond_true, hg]; first | done | exact rfl)) ?_
  refine rf_ggt (AV.int .i64 a0.level) (fun hg => by
    exact rfl) ?_
  refine rf_ggt (AV.bool (decide (¬ (a0.level = 0)))) (fun hg => by
    first | exact (aNe _ _ _) | (simp only [hg, Bool.true_and, Bool.and_true, cond_true, hg]; first | done | exact (aNe _ _ _))) ?_
  refine rf_gf (AV.bool ((decide (¬ (6 ≤ a0.kind))) && (decide (¬ (a0.level = 0))))) (fun hg => by
    first | exact (pk_and _ _) | (simp only [hg, Bool.true_and, Bool.and_true, cond_true, hg]; first | done | exact (pk_and _ _))) ?_
  refine rf_s (AV.bool (((((decide (a0.kind = 8)) || (decide (a0.kind = 9))) && (decide (¬ (a0.playback = 0)))) || ((decide (¬ (a0.kind = 3))) && (decide (¬ (a0.cue = 0))))) || ((decide (¬ (6 ≤ a0.kind))) && (decide (¬ (a0.level = 0)))))) (pk_or _ _) ?_
  refine rf_cb (c := (((((decide (a0.kind = 8)) || (decide (a0.kind = 9))) && (decide (¬ (a0.playback = 0)))) || ((decide (¬ (a0.kind = 3))) && (decide (¬ (a0.cue = 0))))) || ((decide (¬ (6 ≤ a0.kind))) && (decide (¬ (a0.level = 0)))))) (fun c1 => ?_) (fun c1 => ?_)
  ·exact rf_fin _ (fin_same _ _) ⟨rfl, rfl⟩
  ·exact rf_fin _ (fin_same _ _) ⟨rfl, rfl⟩

noncomputable def t_R6_LevelForm (a0 : ActionD) : Option Int :=
 if (((decide (a0.kind = 7)) || (decide (a0.kind = 8))) && (!(withinB a0.level 0 65535))) = true then
  some 1
 else
  if ((decide (a0.kind = 6)) && (!(withinB a0.level 0 36000000))) = true then
   some 1
  else
   if ((decide (a0.kind = 9)) && (!(withinB a0.level 0 1))) = true then
    some 1
   else
    some 0
theorem h_R6_LevelForm {a0 : ActionD} {σ : Heap} {r : Int} (h : t_R6_LevelForm a0 = some r) : m_R6_LevelForm [(AV.agg (cAction a0))] σ = some ((AV.int .i64 r), σ) := by
 refine rf_wrap1 (f := r_R6_LevelForm) (y0 := (AV.agg (cAction a0))) (enc := fun r : Int => (AV.int .i64 r)) (T := t_R6_LevelForm a0) rfl rfl ?_ r h
 unfold r_R6_LevelForm t_R6_LevelForm
 refine rf_s (cAction a0) rfl ?_
 refine rf_s (AV.int .i64 a0.kind) rfl ?_
 refine rf_s (AV.bool (decide (a0.kind = 7))) (aEq _ _ _) ?_
 refine rf_gf (AV.int .i64 a0.kind) (fun hg => by
   exact rfl) ?_
 refine rf_gf (AV.bool (decide (a0.kind = 8))) (fun hg => by
   first | exact (aEq _ _ _) | (simp only [hg, Bool.true_and, Bool.and_true, cond_true, hg]; first | done | exact (aEq _ _ _))) ?_
 refine rf_s (AV.bool ((decide (a0.kind = 7)) || (decide (a0.kind = 8)))) (pk_or _ _) ?_
 refine rf_gt (AV.int .i64 a0.level) (fun hg => by
   exact rfl) ?_
 refine rf_gt (AV.bool (withinB a0.level 0 65535)) (fun hg => by
   first | exact (quiet_of (IsLevel1_eq a0.level σ)) | (simp only [hg, Bool.true_and, Bool.and_true, cond_true, hg]; first | done | exact (quiet_of (IsLevel1_eq a0.level σ)))) ?_
 refine rf_gt (AV.bool (!(withinB a0.level 0 65535))) (fun hg => by
   first | exact rfl | (simp only [hg, Bool.true_and, Bool.and_true, cond_true, hg]; first | done | exact rfl)) ?_
 refine rf_s (AV.bool (((decide (a0.kind = 7)) || (decide (a0.kind = 8))) && (!(withinB a0.level 0 65535)))) (pk_and _ _) ?_
 refine rf_cb (c := (((decide (a0.kind = 7)) || (decide (a0.kind = 8))) && (!(withinB a0.level 0 65535)))) (fun c3 => ?_) (fun c3 => ?_)
 ·exact rf_fin _ (fin_same _ _) ⟨rfl, rfl⟩
 ·refine rf_s (AV.int .i64 a0.kind) rfl ?_
  refine rf_s (AV.bool (decide (a0.kind = 6))) (aEq _ _ _) ?_
  refine rf_gt (AV.int .i64 a0.level) (fun hg => by
    exact rfl) ?_
  refine rf_gt (AV.bool (withinB a0.level 0 36000000)) (fun hg => by
    first | exact (quiet_of (IsTime1_eq a0.level σ)) | (simp only [hg, Bool.true_and, Bool.and_true, cond_true, hg]; first | done | exact (quiet_of (IsTime1_eq a0.level σ)))) ?_
  refine rf_gt (AV.bool (!(withinB a0.level 0 36000000))) (fun hg => by
    first | exact rfl | (simp only [hg, Bool.true_and, Bool.and_true, cond_true, hg]; first | done | exact rfl)) ?_
  refine rf_s (AV.bool ((decide (a0.kind = 6)) && (!(withinB a0.level 0 36000000)))) (pk_and _ _) ?_
  refine rf_cb (c := ((decide (a0.kind = 6)) && (!(withinB a0.level 0 36000000)))) (fun c2 => ?_) (fun c2 => ?_)
  ·exact rf_fin _ (fin_same _ _) ⟨rfl, rfl⟩
  ·refine rf_s (AV.int .i64 a0.kind) rfl ?_
   refine rf_s (AV.bool (decide (a0.kind = 9))) (aEq _ _ _) ?_
   refine rf_gt (AV.int .i64 a0.level) (fun hg => by
     exact rfl) ?_
   refine rf_gt (AV.bool (withinB a0.level 0 1)) (fun hg => by
     first | exact (quiet_of (Within1_eq a0.level 0 1 σ)) | (simp only [hg, Bool.true_and, Bool.and_true, cond_true, hg]; first | done | exact (quiet_of (Within1_eq a0.level 0 1 σ)))) ?_
   refine rf_gt (AV.bool (!(withinB a0.level 0 1))) (fun hg => by
     first | exact rfl | (simp only [hg, Bool.true_and, Bool.and_true, cond_true, hg]; first | done | exact rfl)) ?_
   refine rf_s (AV.bool ((decide (a0.kind = 9)) && (!(withinB a0.level 0 1)))) (pk_and _ _) ?_
   refine rf_cb (c := ((decide (a0.kind = 9)) && (!(withinB a0.level 0 1)))) (fun c1 => ?_) (fun c1 => ?_)
   ·exact rf_fin _ (fin_same _ _) ⟨rfl, rfl⟩
   ·exact rf_fin _ (fin_same _ _) ⟨rfl, rfl⟩

noncomputable def t_play_CheckRanges_fn1 (a0 : PlaybackD) (a1 : ActionD) : Option Bool :=
 some (decide (a0.number = a1.playback))
theorem h_play_CheckRanges_fn1 {a0 : PlaybackD} { a1 : ActionD} {σ : Heap} {r : Bool} (h : t_play_CheckRanges_fn1 a0 a1 = some r) : m_play_CheckRanges_fn1 [(AV.agg (cPlayback a0)), (AV.rp (cAction a1))] σ = some ((AV.bool r), σ) := by
 refine rf_wrap2 (f := r_play_CheckRanges_fn1) (y0 := (AV.agg (cPlayback a0))) (y1 := (AV.rp (cAction a1))) (enc := fun r : Bool => (AV.bool r)) (T := t_play_CheckRanges_fn1 a0 a1) rfl rfl ?_ r h
 unfold r_play_CheckRanges_fn1 t_play_CheckRanges_fn1
 refine rf_s (cPlayback a0) rfl ?_
 refine rf_s (AV.int .i64 a0.number) rfl ?_
 refine rf_s (AV.rp (List.drop 2 (cAction a1))) rfl ?_
 refine rf_s (AV.int .i64 a1.playback) rfl ?_
 refine rf_s (AV.bool (decide (a0.number = a1.playback))) (aEq _ _ _) ?_
 exact rf_fin _ (fin_same _ _) ⟨rfl, rfl⟩

noncomputable def t_play_CheckFields (a0 : ActionD) : Option Int :=
 if (!(withinB a0.kind 1 9)) = true then
  some 4
 else
  if (((((decide (a0.kind = 8)) || (decide (a0.kind = 9))) && (decide (¬ (a0.playback = 0)))) || ((decide (¬ (a0.kind = 3))) && (decide (¬ (a0.cue = 0))))) || ((!((((decide (a0.kind = 8)) || (decide (a0.kind = 9))) || (decide (a0.kind = 6))) || (decide (a0.kind = 7)))) && (decide (¬ (a0.level = 0))))) = true then
   some 3
  else
   some 0
theorem h_play_CheckFields {a0 : ActionD} {σ : Heap} {r : Int} (h : t_play_CheckFields a0 = some r) : m_play_CheckFields [(AV.agg (cAction a0))] σ = some ((AV.int .i64 r), σ) := by
 refine rf_wrap1 (f := r_play_CheckFields) (y0 := (AV.agg (cAction a0))) (enc := fun r : Int => (AV.int .i64 r)) (T := t_play_CheckFields a0) rfl rfl ?_ r h
 unfold r_play_CheckFields t_play_CheckFields
 refine rf_s (cAction a0) rfl ?_
 refine rf_s (AV.int .i64 a0.kind) rfl ?_
 refine rf_s ((AV.bool (withinB a0.kind 1 9)), σ) (Within_eq a0.kind 1 9 σ) ?_
 refine rf_s (AV.bool (!(withinB a0.kind 1 9))) rfl ?_
 refine rf_cb (c := (!(withinB a0.kind 1 9))) (fun c2 => ?_) (fun c2 => ?_)
 ·exact rf_fin _ (fin_same _ _) ⟨rfl, rfl⟩
 ·refine rf_s (AV.int .i64 a0.kind) rfl ?_
  refine rf_s (AV.bool (decide (a0.kind = 8))) (aEq _ _ _) ?_
  refine rf_gf (AV.int .i64 a0.kind) (fun hg => by
    exact rfl) ?_
  refine rf_gf (AV.bool (decide (a0.kind = 9))) (fun hg => by
    first | exact (aEq _ _ _) | (simp only [hg, Bool.true_and, Bool.and_true, cond_true, hg]; first | done | exact (aEq _ _ _))) ?_
  refine rf_s (AV.bool ((decide (a0.kind = 8)) || (decide (a0.kind = 9)))) (pk_or _ _) ?_
  refine rf_gf (AV.int .i64 a0.kind) (fun hg => by
    exact rfl) ?_
  refine rf_gf (AV.bool (decide (a0.kind = 6))) (fun hg => by
    first | exact (aEq _ _ _) | (simp only [hg, Bool.true_and, Bool.and_true, cond_true, hg]; first | done | exact (aEq _ _ _))) ?_
  refine rf_s (AV.bool (((decide (a0.kind = 8)) || (decide (a0.kind = 9))) || (decide (a0.kind = 6)))) (pk_or _ _) ?_
  refine rf_gf (AV.int .i64 a0.kind) (fun hg => by
    exact rfl) ?_
  refine rf_gf (AV.bool (decide (a0.kind = 7))) (fun hg => by
    first | exact (aEq _ _ _) | (simp only [hg, Bool.true_and, Bool.and_true, cond_true, hg]; first | done | exact (aEq _ _ _))) ?_
  refine rf_s (AV.bool ((((decide (a0.kind = 8)) || (decide (a0.kind = 9))) || (decide (a0.kind = 6))) || (decide (a0.kind = 7)))) (pk_or _ _) ?_
  refine rf_gt (AV.int .i64 a0.playback) (fun hg => by
    exact rfl) ?_
  refine rf_gt (AV.bool (decide (¬ (a0.playback = 0)))) (fun hg => by
    first | exact (aNe _ _ _) | (simp only [hg, Bool.true_and, Bool.and_true, cond_true, hg]; first | done | exact (aNe _ _ _))) ?_
  refine rf_s (AV.bool (((decide (a0.kind = 8)) || (decide (a0.kind = 9))) && (decide (¬ (a0.playback = 0))))) (pk_and _ _) ?_
  refine rf_gf (AV.int .i64 a0.kind) (fun hg => by
    exact rfl) ?_
  refine rf_gf (AV.bool (decide (¬ (a0.kind = 3)))) (fun hg => by
    first | exact (aNe _ _ _) | (simp only [hg, Bool.true_and, Bool.and_true, cond_true, hg]; first | done | exact (aNe _ _ _))) ?_
  refine rf_gf (AV.bool (decide (¬ (a0.kind = 3)))) (fun hg => by
    first | exact rfl | (simp only [hg, Bool.true_and, Bool.and_true, cond_true, hg]; first | done | exact rfl)) ?_
  refine rf_ggt (AV.int .i64 a0.cue) (fun hg => by
    exact rfl) ?_
  refine rf_ggt (AV.bool (decide (¬ (a0.cue = 0)))) (fun hg => by
    first | exact (aNe _ _ _) | (simp only [hg, Bool.true_and, Bool.and_true, cond_true, hg]; first | done | exact (aNe _ _ _))) ?_
  refine rf_gf (AV.bool ((decide (¬ (a0.kind = 3))) && (decide (¬ (a0.cue = 0))))) (fun hg => by
    first | exact (pk_and _ _) | (simp only [hg, Bool.true_and, Bool.and_true, cond_true, hg]; first | done | exact (pk_and _ _))) ?_
  refine rf_s (AV.bool ((((decide (a0.kind = 8)) || (decide (a0.kind = 9))) && (decide (¬ (a0.playback = 0)))) || ((decide (¬ (a0.kind = 3))) && (decide (¬ (a0.cue = 0)))))) (pk_or _ _) ?_
  refine rf_gf (AV.bool ((((decide (a0.kind = 8)) || (decide (a0.kind = 9))) || (decide (a0.kind = 6))) || (decide (a0.kind = 7)))) (fun hg => by
    exact rfl) ?_
  refine rf_gf (AV.bool (!((((decide (a0.kind = 8)) || (decide (a0.kind = 9))) || (decide (a0.kind = 6))) || (decide (a0.kind = 7))))) (fun hg => by
    first | exact rfl | (simp only [hg, Bool.true_and, Bool.and_true, cond_true, hg]; first | done | exact rfl)) ?_
  refine rf_gf (AV.bool (!((((decide (a0.kind = 8)) || (decide (a0.kind = 9))) || (decide (a0.kind = 6))) || (decide (a0.kind = 7))))) (fun hg => by
    first | exact rfl | (simp only [hg, Bool.true_and, Bool.and_true, cond_true, hg]; first | done | exact rfl)) ?_
  refine rf_ggt (AV.int .i64 a0.level) (fun hg => by
    exact rfl) ?_
  refine rf_ggt (AV.bool (decide (¬ (a0.level = 0)))) (fun hg => by
    first | exact (aNe _ _ _) | (simp only [hg, Bool.true_and, Bool.and_true, cond_true, hg]; first | done | exact (aNe _ _ _))) ?_
  refine rf_gf (AV.bool ((!((((decide (a0.kind = 8)) || (decide (a0.kind = 9))) || (decide (a0.kind = 6))) || (decide (a0.kind = 7)))) && (decide (¬ (a0.level = 0))))) (fun hg => by
    first | exact (pk_and _ _) | (simp only [hg, Bool.true_and, Bool.and_true, cond_true, hg]; first | done | exact (pk_and _ _))) ?_
  refine rf_s (AV.bool (((((decide (a0.kind = 8)) || (decide (a0.kind = 9))) && (decide (¬ (a0.playback = 0)))) || ((decide (¬ (a0.kind = 3))) && (decide (¬ (a0.cue = 0))))) || ((!((((decide (a0.kind = 8)) || (decide (a0.kind = 9))) || (decide (a0.kind = 6))) || (decide (a0.kind = 7)))) && (decide (¬ (a0.level = 0)))))) (pk_or _ _) ?_
  refine rf_cb (c := (((((decide (a0.kind = 8)) || (decide (a0.kind = 9))) && (decide (¬ (a0.playback = 0)))) || ((decide (¬ (a0.kind = 3))) && (decide (¬ (a0.cue = 0))))) || ((!((((decide (a0.kind = 8)) || (decide (a0.kind = 9))) || (decide (a0.kind = 6))) || (decide (a0.kind = 7)))) && (decide (¬ (a0.level = 0)))))) (fun c1 => ?_) (fun c1 => ?_)
  ·exact rf_fin _ (fin_same _ _) ⟨rfl, rfl⟩
  ·exact rf_fin _ (fin_same _ _) ⟨rfl, rfl⟩

noncomputable def t_play_CheckRanges (a0 : SetupD) (a1 : ActionD) : Option Int :=
 (if (!((decide (a1.kind = 8)) || (decide (a1.kind = 9)))) = true then tq (a0.playbacks.length ≤ mxl) (a0.playbacks.any (fun x => (decide (x.number = a1.playback)))) else some default).bind fun r1 =>
 if ((!((decide (a1.kind = 8)) || (decide (a1.kind = 9)))) && (!r1)) = true then
  some 8
 else
  (show Option Int from
    if a1.kind = 6 then
     some 36000000
    else
     (show Option Int from
       if a1.kind = 9 then
        some 1
       else
        some 65535).bind fun j3 =>
     some j3).bind fun j7 =>
  some (if (!(withinB a1.level 0 j7)) = true then 1 else 0)
theorem h_play_CheckRanges {a0 : SetupD} { a1 : ActionD} {σ : Heap} {r : Int} (h : t_play_CheckRanges a0 a1 = some r) : m_play_CheckRanges [(AV.agg (cSetup a0)), (AV.agg (cAction a1))] σ = some ((AV.int .i64 r), σ) := by
 refine rf_wrap2 (f := r_play_CheckRanges) (y0 := (AV.agg (cSetup a0))) (y1 := (AV.agg (cAction a1))) (enc := fun r : Int => (AV.int .i64 r)) (T := t_play_CheckRanges a0 a1) rfl rfl ?_ r h
 unfold r_play_CheckRanges t_play_CheckRanges
 refine rf_s (cSetup a0) rfl ?_
 refine rf_s (AV.rp (cAction a1)) rfl ?_
 refine rf_s (AV.rp (List.drop 1 (cAction a1))) rfl ?_
 refine rf_s (AV.int .i64 a1.kind) rfl ?_
 refine rf_s (AV.bool (decide (a1.kind = 8))) (aEq _ _ _) ?_
 refine rf_gf (AV.rp (List.drop 1 (cAction a1))) (fun hg => by
   exact rfl) ?_
 refine rf_gf (AV.int .i64 a1.kind) (fun hg => by
   first | exact rfl | (simp only [hg, Bool.true_and, Bool.and_true, cond_true, hg]; first | done | exact rfl)) ?_
 refine rf_gf (AV.bool (decide (a1.kind = 9))) (fun hg => by
   first | exact (aEq _ _ _) | (simp only [hg, Bool.true_and, Bool.and_true, cond_true, hg]; first | done | exact (aEq _ _ _))) ?_
 refine rf_s (AV.bool ((decide (a1.kind = 8)) || (decide (a1.kind = 9)))) (pk_or _ _) ?_
 refine rf_s (AV.bool (!((decide (a1.kind = 8)) || (decide (a1.kind = 9))))) rfl ?_
 refine rf_gt (sl 3 cPlayback a0.playbacks) (fun hg => by
   exact rfl) ?_
 refine rf_gt (AV.fn 152 [(AV.rp (cAction a1))]) (fun hg => by
   exact rfl) ?_
 refine rf_gto (ω := Bool) (fun r1 => (AV.bool r1)) (fun hg r1 hr1 => by
   first | exact (quiet_of ((tq_of (e := fun r : Bool => ((AV.bool r), σ)) (fun hs => m_slices_ContainsFunc_api_Playback_eq _ a0.playbacks hs _ _ (fun x => (decide (x.number = a1.playback))) σ (fun x hx => h_play_CheckRanges_fn1 (σ := σ) (r := (decide (x.number = a1.playback))) rfl))) hr1)) | (simp only [hg, Bool.true_and, Bool.and_true, cond_true, hg]; first | done | exact (quiet_of ((tq_of (e := fun r : Bool => ((AV.bool r), σ)) (fun hs => m_slices_ContainsFunc_api_Playback_eq _ a0.playbacks hs _ _ (fun x => (decide (x.number = a1.playback))) σ (fun x hx => h_play_CheckRanges_fn1 (σ := σ) (r := (decide (x.number = a1.playback))) rfl))) hr1)))) (fun r1 hr1 => ?_)
 refine rf_gt (AV.bool (!r1)) (fun hg => by
   first | exact rfl | (simp only [hg, Bool.true_and, Bool.and_true, cond_true, hg]; first | done | exact rfl)) ?_
 refine rf_s (AV.bool ((!((decide (a1.kind = 8)) || (decide (a1.kind = 9)))) && (!r1))) (pk_and _ _) ?_
 refine rf_cb (c := ((!((decide (a1.kind = 8)) || (decide (a1.kind = 9)))) && (!r1))) (fun c10 => ?_) (fun c10 => ?_)
 ·exact rf_fin _ (fin_same _ _) ⟨rfl, rfl⟩
 ·refine rf_s (AV.rp (List.drop 1 (cAction a1))) rfl ?_
  refine rf_s (AV.int .i64 a1.kind) rfl ?_
  refine rf_s (AV.bool (decide (a1.kind = 6))) (aEq _ _ _) ?_
  refine rf_b (ω := Int) (fun j7 a => a = (([(AV.int .i64 j7)] : List AV), σ)) (
    by
     refine rf_c (p := a1.kind = 6) (fun c6 => ?_) (fun c6 => ?_)
     ·exact rf_ret rfl
     ·refine rf_s (AV.bool (decide (a1.kind = 9))) (aEq _ _ _) ?_
      refine rf_b (ω := Int) (fun j3 a => a = (([(AV.int .i64 j3)] : List AV), σ)) (
        by
         refine rf_c (p := a1.kind = 9) (fun c2 => ?_) (fun c2 => ?_)
         ·exact rf_ret rfl
         ·exact rf_ret rfl
        ) (fun j3 a ha => ?_)
      subst ha
      exact rf_ret rfl
    ) (fun j7 a ha => ?_)
  subst ha
  refine rf_s (AV.rp (List.drop 4 (cAction a1))) rfl ?_
  refine rf_s (AV.int .i64 a1.level) rfl ?_
  refine rf_s ((AV.bool (withinB a1.level 0 j7)), σ) (Within_eq a1.level 0 j7 σ) ?_
  refine rf_s (AV.bool (!(withinB a1.level 0 j7))) rfl ?_
  refine rf_s ((AV.int .i64 (if (!(withinB a1.level 0 j7)) = true then 1 else 0)), σ) (When_eq (!(withinB a1.level 0 j7)) 1 σ) ?_
  exact rf_fin _ (fin_same _ _) ⟨rfl, rfl⟩

noncomputable def t_stamp_speed (a0 : Int) : Option (Int × Int × Bool) :=
 (show Option Bool from
   if a0 = 24 then
    some (decide (a0 = 24))
   else
    (show Option Bool from
      if a0 = 25 then
       some (decide (a0 = 25))
      else
       some (decide (a0 = 30))).bind fun j2 =>
    some j2).bind fun j6 =>
 if j6 = true then
  some (a0, 1, true)
 else
  if a0 = 29 then
   some (30000, 1001, true)
  else
   some (0, 0, false)
theorem h_stamp_speed {a0 : Int} {σ : Heap} {r : (Int × Int × Bool)} (h : t_stamp_speed a0 = some r) : m_stamp_speed [(AV.int .i64 a0)] σ = some ((AV.tup [(AV.int .i64 r.1), (AV.int .i64 r.2.1), (AV.bool r.2.2)]), σ) := by
 refine rf_wrap1 (f := r_stamp_speed) (y0 := (AV.int .i64 a0)) (enc := fun r : (Int × Int × Bool) => (AV.tup [(AV.int .i64 r.1), (AV.int .i64 r.2.1), (AV.bool r.2.2)])) (T := t_stamp_speed a0) rfl rfl ?_ r h
 unfold r_stamp_speed t_stamp_speed
 refine rf_s (AV.bool (decide (a0 = 24))) (aEq _ _ _) ?_
 refine rf_b (ω := Bool) (fun j6 a => a = (([(AV.bool j6)] : List AV), σ)) (
   by
    refine rf_c (p := a0 = 24) (fun c5 => ?_) (fun c5 => ?_)
    ·exact rf_ret rfl
    ·refine rf_s (AV.bool (decide (a0 = 25))) (aEq _ _ _) ?_
     refine rf_b (ω := Bool) (fun j2 a => a = (([(AV.bool j2)] : List AV), σ)) (
       by
        refine rf_c (p := a0 = 25) (fun c1 => ?_) (fun c1 => ?_)
        ·exact rf_ret rfl
        ·refine rf_s (AV.bool (decide (a0 = 30))) (aEq _ _ _) ?_
         exact rf_ret rfl
       ) (fun j2 a ha => ?_)
     subst ha
     exact rf_ret rfl
   ) (fun j6 a ha => ?_)
 subst ha
 refine rf_cb (c := j6) (fun c10 => ?_) (fun c10 => ?_)
 ·exact rf_fin _ (fin_same _ _) ⟨rfl, rfl⟩
 ·refine rf_s (AV.bool (decide (a0 = 29))) (aEq _ _ _) ?_
  refine rf_c (p := a0 = 29) (fun c9 => ?_) (fun c9 => ?_)
  ·exact rf_fin _ (fin_same _ _) ⟨rfl, rfl⟩
  ·exact rf_fin _ (fin_same _ _) ⟨rfl, rfl⟩

noncomputable def t_stamp_mode (a0 : Int) : Option Int :=
 (t_stamp_speed a0).bind fun r1 =>
 some (if (!r1.2.2) = true then 16 else 0)
theorem h_stamp_mode {a0 : Int} {σ : Heap} {r : Int} (h : t_stamp_mode a0 = some r) : m_stamp_mode [(AV.int .i64 a0)] σ = some ((AV.int .i64 r), σ) := by
 refine rf_wrap1 (f := r_stamp_mode) (y0 := (AV.int .i64 a0)) (enc := fun r : Int => (AV.int .i64 r)) (T := t_stamp_mode a0) rfl rfl ?_ r h
 unfold r_stamp_mode t_stamp_mode
 refine rf_o (fun r1 : (Int × Int × Bool) => ((AV.tup [(AV.int .i64 r1.1), (AV.int .i64 r1.2.1), (AV.bool r1.2.2)]), σ)) (fun r1 hr1 => h_stamp_speed hr1) (fun r1 hr1 => ?_)
 refine rf_s (AV.int .i64 r1.1) rfl ?_
 refine rf_s (AV.int .i64 r1.2.1) rfl ?_
 refine rf_s (AV.bool r1.2.2) rfl ?_
 refine rf_s (AV.bool (!r1.2.2)) rfl ?_
 refine rf_s ((AV.int .i64 (if (!r1.2.2) = true then 16 else 0)), σ) (When_eq (!r1.2.2) 16 σ) ?_
 exact rf_fin _ (fin_same _ _) ⟨rfl, rfl⟩

noncomputable def t_stamp_day (a0 : Int) : Option Int :=
 if a0 = 29 then
  some 2589408
 else
  some (IntKind.i64.wrap (86400 * a0))
theorem h_stamp_day {a0 : Int} {σ : Heap} {r : Int} (h : t_stamp_day a0 = some r) : m_stamp_day [(AV.int .i64 a0)] σ = some ((AV.int .i64 r), σ) := by
 refine rf_wrap1 (f := r_stamp_day) (y0 := (AV.int .i64 a0)) (enc := fun r : Int => (AV.int .i64 r)) (T := t_stamp_day a0) rfl rfl ?_ r h
 unfold r_stamp_day t_stamp_day
 refine rf_s (AV.bool (decide (a0 = 29))) (aEq _ _ _) ?_
 refine rf_c (p := a0 = 29) (fun c1 => ?_) (fun c1 => ?_)
 ·exact rf_fin _ (fin_same _ _) ⟨rfl, rfl⟩
 ·refine rf_s (AV.int .i64 (IntKind.i64.wrap (86400 * a0))) rfl ?_
  exact rf_fin _ (fin_same _ _) ⟨rfl, rfl⟩

noncomputable def t_stamp_cuesOf (a0 : SetupD) (a1 : Int) : Option (List CueD) :=
 forE a0.playbacks (fun (i8 : Nat) e7 (s1 : Unit) => (show Option (Lr Unit Unit (List CueD)) from
   forE a0.lists (fun (i16 : Nat) e15 (s9 : Unit) => (show Option (Lr Unit Unit (List CueD)) from
     if ((decide (e7.number = a1)) && (decide (e15.number = e7.list))) = true then
      some (.ret e15.cues)
     else
      some (.go ()))) (fun s9 => some ()) () (fun b10 =>
    some (.go ())) (fun b10 =>
    some (.ret b10)))) (fun s1 => some ()) () (fun b2 =>
  some ([])) (fun b2 =>
  some b2)
theorem h_stamp_cuesOf {a0 : SetupD} { a1 : Int} {σ : Heap} {r : (List CueD)} (h : t_stamp_cuesOf a0 a1 = some r) : m_stamp_cuesOf [(AV.agg (cSetup a0)), (AV.int .i64 a1)] σ = some ((sl 11 cCue r), σ) := by
 refine rf_wrap2 (f := r_stamp_cuesOf) (y0 := (AV.agg (cSetup a0))) (y1 := (AV.int .i64 a1)) (enc := fun r : (List CueD) => (sl 11 cCue r)) (T := t_stamp_cuesOf a0 a1) rfl rfl ?_ r h
 unfold r_stamp_cuesOf t_stamp_cuesOf
 refine rf_s (cSetup a0) rfl ?_
 refine rf_s (sl 3 cPlayback a0.playbacks) rfl ?_
 refine rf_s (AV.int .i64 (a0.playbacks.length : Int)) (lenS_sl _ _ _) ?_
 refine rf_for (B := Unit) (R := (List CueD)) (fun (i8 : Nat) (s1 : Unit) v w3 => ∃ u4, v = [(AV.lbx (cSetup a0)), u4, (AV.int .i64 (i8 : Int))] ∧ σ = w3) (fun (b2 : Unit) (q : LS) => ∃ u2 u4 u12, q = ((AX.exit 0), ([u2, u4, u12] : List AV), σ)) (fun (b2 : (List CueD)) (q : LS) => ∃ u2 u12, q = (AX.ret, ([u2, (sl 11 cCue b2), u12] : List AV), σ)) ?_ ?_ ⟨_, rfl, rfl⟩ ?_ ?_
 ·intro hle7 i8 e7 s1 v w3 he7 hI
  obtain ⟨u4, rfl, rfl⟩ := hI
  refine rf_s (AV.bool true) (ix_lt he7) ?_
  refine rf_ct ?_
  refine rf_s (AV.rp (cPlayback e7)) (ix_for he7) ?_
  refine rf_s (AV.agg (cPlayback e7)) rfl ?_
  refine rf_s (cPlayback e7) rfl ?_
  refine rf_s (cPlayback e7) (sp_cPlayback _ _ rfl) ?_
  refine rf_s _ rfl ?_
  refine rf_s (sl 2 cList a0.lists) rfl ?_
  refine rf_s (AV.int .i64 (a0.lists.length : Int)) (lenS_sl _ _ _) ?_
  refine rf_for (B := Unit) (R := (List CueD)) (fun (i16 : Nat) (s9 : Unit) v w11 => ∃ u4, v = [(AV.lbx (cSetup a0)), u4, (AV.lbx (cPlayback e7)), (AV.int .i64 (i16 : Int))] ∧ σ = w11) (fun (b10 : Unit) (q : LS) => ∃ u4 u6 u19, q = ((AX.exit 2), ([(AV.lbx (cSetup a0)), u4, u6, u19] : List AV), σ)) (fun (b10 : (List CueD)) (q : LS) => ∃ u2 u6 u19, q = (AX.ret, ([u2, (sl 11 cCue b10), u6, u19] : List AV), σ)) ?_ ?_ ⟨_, rfl, rfl⟩ ?_ ?_
  ·intro hle15 i16 e15 s9 v w11 he15 hI
   obtain ⟨u4, rfl, rfl⟩ := hI
   refine rf_s (AV.bool true) (ix_lt he15) ?_
   refine rf_ct ?_
   refine rf_s (AV.rp (cList e15)) (ix_for he15) ?_
   refine rf_s (AV.agg (cList e15)) rfl ?_
   refine rf_s (cList e15) rfl ?_
   refine rf_s (cList e15) (sp_cList _ _ rfl) ?_
   refine rf_s _ rfl ?_
   refine rf_s (AV.int .i64 e7.number) rfl ?_
   refine rf_s (AV.bool (decide (e7.number = a1))) (aEq _ _ _) ?_
   refine rf_gt (AV.int .i64 e15.number) (fun hg => by
     exact rfl) ?_
   refine rf_s _ rfl ?_
   refine rf_gt (AV.int .i64 e7.list) (fun hg => by
     exact rfl) ?_
   refine rf_gt (AV.bool (decide (e15.number = e7.list))) (fun hg => by
     first | exact (aEq _ _ _) | (simp only [hg, Bool.true_and, Bool.and_true, cond_true, hg]; first | done | exact (aEq _ _ _))) ?_
   refine rf_s (AV.bool ((decide (e7.number = a1)) && (decide (e15.number = e7.list)))) (pk_and _ _) ?_
   refine rf_cb (c := ((decide (e7.number = a1)) && (decide (e15.number = e7.list)))) (fun c17 => ?_) (fun c17 => ?_)
   ·refine rf_s (sl 11 cCue e15.cues) rfl ?_
    exact rf_ret (rnd_ret (by simp) ⟨_, _, _, rfl⟩)
   ·refine rf_s (AV.int .i64 ((i16 + 1 : Nat) : Int)) (ix_inc he15 hle15) ?_
    exact rf_ret (rnd_go ⟨_, rfl, rfl⟩)
  ·intro hl s9 v w11 hI
   obtain ⟨u4, rfl, rfl⟩ := hI
   refine rf_s (AV.bool false) (ix_end _) ?_
   refine rf_cf ?_
   exact rf_ret ⟨by simp, ⟨_, _, _, rfl⟩⟩
  ·intro hl b10 q hq
   obtain ⟨u4, u6, u19, rfl⟩ := hq
   refine rf_bt rfl ?_
   refine rf_s (AV.int .i64 ((i8 + 1 : Nat) : Int)) (ix_inc he7 hle7) ?_
   exact rf_ret (rnd_go ⟨_, rfl, rfl⟩)
  ·intro hl b10 q hq
   obtain ⟨u2, u6, u19, rfl⟩ := hq
   refine rf_bf rfl ?_
   refine rf_bt rfl ?_
   exact rf_ret (rnd_ret (by simp) ⟨_, _, rfl⟩)
 ·intro hl s1 v w3 hI
  obtain ⟨u4, rfl, rfl⟩ := hI
  refine rf_s (AV.bool false) (ix_end _) ?_
  refine rf_cf ?_
  exact rf_ret ⟨by simp, ⟨_, _, _, rfl⟩⟩
 ·intro hl b2 q hq
  obtain ⟨u2, u4, u12, rfl⟩ := hq
  refine rf_bt rfl ?_
  exact rf_fin _ (fin_same _ _) ⟨(by first | rfl | exact nn_eNil _ _), rfl⟩
 ·intro hl b2 q hq
  obtain ⟨u2, u12, rfl⟩ := hq
  refine rf_bf rfl ?_
  refine rf_bt rfl ?_
  exact rf_fin _ (fin_same _ _) ⟨(nn_e (fun _ => rfl) _), rfl⟩

noncomputable def t_stamp_CheckEvents_fn1 (a0 : CueD) (a1 : ActionD) : Option Bool :=
 some (decide (a0.number = a1.cue))
theorem h_stamp_CheckEvents_fn1 {a0 : CueD} { a1 : ActionD} {σ : Heap} {r : Bool} (h : t_stamp_CheckEvents_fn1 a0 a1 = some r) : m_stamp_CheckEvents_fn1 [(AV.agg (cCue a0)), (AV.rp (cAction a1))] σ = some ((AV.bool r), σ) := by
 refine rf_wrap2 (f := r_stamp_CheckEvents_fn1) (y0 := (AV.agg (cCue a0))) (y1 := (AV.rp (cAction a1))) (enc := fun r : Bool => (AV.bool r)) (T := t_stamp_CheckEvents_fn1 a0 a1) rfl rfl ?_ r h
 unfold r_stamp_CheckEvents_fn1 t_stamp_CheckEvents_fn1
 refine rf_s (cCue a0) rfl ?_
 refine rf_s (AV.int .i64 a0.number) rfl ?_
 refine rf_s (AV.rp (List.drop 3 (cAction a1))) rfl ?_
 refine rf_s (AV.int .i64 a1.cue) rfl ?_
 refine rf_s (AV.bool (decide (a0.number = a1.cue))) (aEq _ _ _) ?_
 exact rf_fin _ (fin_same _ _) ⟨rfl, rfl⟩

noncomputable def t_stamp_CheckEvents (a0 : SetupD) (a1 : Int) (a2 : (List EventD)) : Option Int :=
 (t_play_CheckSetup a0).bind fun r1 =>
 (t_stamp_mode a1).bind fun r2 =>
 (tq (([r1, r2, (if (decide (2000 < (a2.length : Int))) = true then 2 else 0)] : (List Int)).length ≤ mxl) ((([r1, r2, (if (decide (2000 < (a2.length : Int))) = true then 2 else 0)] : (List Int)).find? fun n => decide (¬ n = 0)).getD 0)).bind fun r3 =>
 if ¬ (r3 = 0) then
  some r3
 else
  forE a2 (fun (i29 : Nat) e28 (s22 : Unit) => (show Option (Lr Unit Unit Int) from
    (t_stamp_day a1).bind fun r34 =>
    (if decide (0 < (i29 : Int)) = true then tIx a2 (IntKind.i64.wrap ((i29 : Int) - 1)) else some default).bind fun x35 =>
    (tq (([(if (!(withinB e28.att 0 (IntKind.i64.wrap (r34 - 1)))) = true then 1 else 0), (if ((decide (0 < (i29 : Int))) && (decide (e28.att < x35.att))) = true then 7 else 0)] : (List Int)).length ≤ mxl) ((([(if (!(withinB e28.att 0 (IntKind.i64.wrap (r34 - 1)))) = true then 1 else 0), (if ((decide (0 < (i29 : Int))) && (decide (e28.att < x35.att))) = true then 7 else 0)] : (List Int)).find? fun n => decide (¬ n = 0)).getD 0)).bind fun r36 =>
    (t_play_CheckFields e28.action).bind fun r37 =>
    (t_play_CheckRanges a0 e28.action).bind fun r38 =>
    (tq (([r36, r37, (if (decide (¬ (e28.action.time = 0))) = true then 3 else 0), r38] : (List Int)).length ≤ mxl) ((([r36, r37, (if (decide (¬ (e28.action.time = 0))) = true then 3 else 0), r38] : (List Int)).find? fun n => decide (¬ n = 0)).getD 0)).bind fun r39 =>
    if ¬ (r39 = 0) then
     some (.ret r39)
    else
     (if decide (e28.action.kind = 3) = true then t_stamp_cuesOf a0 e28.action.playback else some default).bind fun r40 =>
     (if decide (e28.action.kind = 3) = true then tq (r40.length ≤ mxl) (r40.any (fun x => (decide (x.number = e28.action.cue)))) else some default).bind fun r41 =>
     if ((decide (e28.action.kind = 3)) && (!r41)) = true then
      some (.ret 8)
     else
      some (.go ()))) (fun s22 => some ()) () (fun b23 =>
   some 0) (fun b23 =>
   some b23)
theorem h_stamp_CheckEvents {a0 : SetupD} { a1 : Int} { a2 : (List EventD)} {σ : Heap} {r : Int} (h : t_stamp_CheckEvents a0 a1 a2 = some r) : m_stamp_CheckEvents [(AV.agg (cSetup a0)), (AV.int .i64 a1), (sl 6 cEvent a2)] σ = some ((AV.int .i64 r), σ) := by
 refine rf_wrap3 (f := r_stamp_CheckEvents) (y0 := (AV.agg (cSetup a0))) (y1 := (AV.int .i64 a1)) (y2 := (sl 6 cEvent a2)) (enc := fun r : Int => (AV.int .i64 r)) (T := t_stamp_CheckEvents a0 a1 a2) rfl rfl ?_ r h
 unfold r_stamp_CheckEvents t_stamp_CheckEvents
 refine rf_s (cSetup a0) rfl ?_
 refine rf_s (AV.agg (cSetup a0)) rfl ?_
 refine rf_o (fun r1 : Int => ((AV.int .i64 r1), σ)) (fun r1 hr1 => h_play_CheckSetup hr1) (fun r1 hr1 => ?_)
 refine rf_o (fun r2 : Int => ((AV.int .i64 r2), σ)) (fun r2 hr2 => h_stamp_mode hr2) (fun r2 hr2 => ?_)
 refine rf_s (AV.int .i64 (a2.length : Int)) (lenS_sl _ _ _) ?_
 refine rf_s (AV.bool (decide (2000 < (a2.length : Int)))) rfl ?_
 refine rf_s ((AV.int .i64 (if (decide (2000 < (a2.length : Int))) = true then 2 else 0)), σ) (When_eq (decide (2000 < (a2.length : Int))) 2 σ) ?_
 refine rf_s (sl 1 cInt ([r1, r2, (if (decide (2000 < (a2.length : Int))) = true then 2 else 0)] : (List Int))) rfl ?_
 refine rf_o (fun r3 : Int => ((AV.int .i64 r3), σ)) (fun r3 hr3 => (tq_of (e := fun r : Int => ((AV.int .i64 r), σ)) (fun hs => First_eq ([r1, r2, (if (decide (2000 < (a2.length : Int))) = true then 2 else 0)] : (List Int)) hs σ)) hr3) (fun r3 hr3 => ?_)
 refine rf_s (AV.bool (decide (¬ (r3 = 0)))) (aNe _ _ _) ?_
 refine rf_c (p := ¬ (r3 = 0)) (fun c44 => ?_) (fun c44 => ?_)
 ·exact rf_fin _ (fin_same _ _) ⟨rfl, rfl⟩
 ·refine rf_s (AV.int .i64 (a2.length : Int)) (lenS_sl _ _ _) ?_
  have hp21 : Hp σ σ [] := hp_nil σ
  refine rf_for (B := Unit) (R := Int) (fun (i29 : Nat) (s22 : Unit) v w24 => v = [(AV.lbx (cSetup a0)), (AV.int .i64 0), (AV.int .i64 (i29 : Int))] ∧ Hp σ w24 []) (fun (b23 : Unit) (q : LS) => ∃ u3 u6 u27 w25, q = ((AX.exit 0), ([u3, u6, u27] : List AV), w25) ∧ Hp σ w25 []) (fun (b23 : Int) (q : LS) => ∃ u3 u27 w25, q = (AX.ret, ([u3, (AV.int .i64 b23), u27] : List AV), w25) ∧ Hp σ w25 []) ?_ ?_ ⟨rfl, hp21⟩ ?_ ?_
  ·intro hle28 i29 e28 s22 v w24 he28 hI
   obtain ⟨rfl, hp26⟩ := hI
   refine rf_s (AV.bool true) (ix_lt he28) ?_
   refine rf_ct ?_
   refine rf_s (AV.rp (cEvent e28)) (ix_for he28) ?_
   refine rf_s (AV.agg (cEvent e28)) rfl ?_
   refine rf_s (cEvent e28) rfl ?_
   refine rf_s (cEvent e28) (sp_cEvent _ _ rfl) ?_
   refine rf_s (AV.agg (cAction e28.action)) rfl ?_
   have hp30 : Hp σ (w24 ++ [Blk.box [(AV.int .i64 0), (AV.int .i64 0), (AV.int .i64 0), (AV.int .i64 0), (AV.int .i64 0)]]) [((AV.op w24.length 0), (Ct.b (cAction (⟨0, 0, 0, 0, 0⟩ : ActionD))))] := hp_op hp26 _
   refine rf_s (cAction e28.action) rfl ?_
   obtain ⟨w31, e33, hp32⟩ := hp_boxset (cs' := (cAction e28.action)) hp30 0 rfl 0 (by first | rfl | exact sp_cAction _ _ rfl)
   change Hp σ w31 [((AV.op w24.length 0), (Ct.b (cAction e28.action)))] at hp32
   refine rf_s w31 e33 ?_
   refine rf_s (AV.int .i64 e28.att) rfl ?_
   refine rf_o (fun r34 : Int => (AV.int .i64 r34)) (fun r34 hr34 => (quiet_of (h_stamp_day hr34))) (fun r34 hr34 => ?_)
   refine rf_s (AV.int .i64 (IntKind.i64.wrap (r34 - 1))) rfl ?_
   refine rf_s (AV.bool (withinB e28.att 0 (IntKind.i64.wrap (r34 - 1)))) (quiet_of (Within_eq e28.att 0 (IntKind.i64.wrap (r34 - 1)) w31)) ?_
   refine rf_s (AV.bool (!(withinB e28.att 0 (IntKind.i64.wrap (r34 - 1))))) rfl ?_
   refine rf_s (AV.int .i64 (if (!(withinB e28.att 0 (IntKind.i64.wrap (r34 - 1)))) = true then 1 else 0)) (quiet_of (When_eq (!(withinB e28.att 0 (IntKind.i64.wrap (r34 - 1)))) 1 w31)) ?_
   refine rf_s (AV.bool (decide (0 < (i29 : Int)))) rfl ?_
   refine rf_gt (AV.int .i64 e28.att) (fun hg => by
     exact rfl) ?_
   refine rf_gt (sl 6 cEvent a2) (fun hg => by
     exact rfl) ?_
   refine rf_gt (AV.int .i64 (i29 : Int)) (fun hg => by
     exact rfl) ?_
   refine rf_gt (AV.int .i64 (IntKind.i64.wrap ((i29 : Int) - 1))) (fun hg => by
     first | exact rfl | (simp only [hg, Bool.true_and, Bool.and_true, cond_true, hg]; first | done | exact rfl)) ?_
   refine rf_gto (ω := EventD) (fun x35 => (AV.rp (cEvent x35))) (fun hg x35 hx35 => by
     first | exact ix_at hx35 | (simp only [hg, Bool.true_and, Bool.and_true, cond_true, hg]; first | done | exact ix_at hx35)) (fun x35 hx35 => ?_)
   refine rf_gt (AV.rp (cEvent x35)) (fun hg => by
     first | exact rfl | (simp only [hg, Bool.true_and, Bool.and_true, cond_true, hg]; first | done | exact rfl)) ?_
   refine rf_gt (AV.int .i64 x35.att) (fun hg => by
     first | exact rfl | (simp only [hg, Bool.true_and, Bool.and_true, cond_true, hg]; first | done | exact rfl)) ?_
   refine rf_gt (AV.bool (decide (e28.att < x35.att))) (fun hg => by
     first | exact rfl | (simp only [hg, Bool.true_and, Bool.and_true, cond_true, hg]; first | done | exact rfl)) ?_
   refine rf_s (AV.bool ((decide (0 < (i29 : Int))) && (decide (e28.att < x35.att)))) (pk_and _ _) ?_
   refine rf_s (AV.int .i64 (if ((decide (0 < (i29 : Int))) && (decide (e28.att < x35.att))) = true then 7 else 0)) (quiet_of (When_eq ((decide (0 < (i29 : Int))) && (decide (e28.att < x35.att))) 7 w31)) ?_
   refine rf_s (sl 1 cInt ([(if (!(withinB e28.att 0 (IntKind.i64.wrap (r34 - 1)))) = true then 1 else 0), (if ((decide (0 < (i29 : Int))) && (decide (e28.att < x35.att))) = true then 7 else 0)] : (List Int))) rfl ?_
   refine rf_o (fun r36 : Int => (AV.int .i64 r36)) (fun r36 hr36 => (quiet_of ((tq_of (e := fun r : Int => ((AV.int .i64 r), w31)) (fun hs => First_eq ([(if (!(withinB e28.att 0 (IntKind.i64.wrap (r34 - 1)))) = true then 1 else 0), (if ((decide (0 < (i29 : Int))) && (decide (e28.att < x35.att))) = true then 7 else 0)] : (List Int)) hs w31)) hr36))) (fun r36 hr36 => ?_)
   refine rf_s (AV.agg (cAction e28.action)) (by rw [hp_box hp32 0 rfl]; rfl) ?_
   refine rf_o (fun r37 : Int => (AV.int .i64 r37)) (fun r37 hr37 => (quiet_of (h_play_CheckFields hr37))) (fun r37 hr37 => ?_)
   refine rf_s (AV.op w24.length 0) rfl ?_
   refine rf_s (AV.int .i64 e28.action.time) (by rw [hp_box hp32 0 rfl]; rfl) ?_
   refine rf_s (AV.bool (decide (¬ (e28.action.time = 0)))) (aNe _ _ _) ?_
   refine rf_s (AV.int .i64 (if (decide (¬ (e28.action.time = 0))) = true then 3 else 0)) (quiet_of (When_eq (decide (¬ (e28.action.time = 0))) 3 w31)) ?_
   refine rf_s (AV.agg (cSetup a0)) rfl ?_
   refine rf_s (AV.agg (cAction e28.action)) (by rw [hp_box hp32 0 rfl]; rfl) ?_
   refine rf_o (fun r38 : Int => (AV.int .i64 r38)) (fun r38 hr38 => (quiet_of (h_play_CheckRanges hr38))) (fun r38 hr38 => ?_)
   refine rf_s (sl 1 cInt ([r36, r37, (if (decide (¬ (e28.action.time = 0))) = true then 3 else 0), r38] : (List Int))) rfl ?_
   refine rf_o (fun r39 : Int => (AV.int .i64 r39)) (fun r39 hr39 => (quiet_of ((tq_of (e := fun r : Int => ((AV.int .i64 r), w31)) (fun hs => First_eq ([r36, r37, (if (decide (¬ (e28.action.time = 0))) = true then 3 else 0), r38] : (List Int)) hs w31)) hr39))) (fun r39 hr39 => ?_)
   refine rf_s (AV.bool (decide (¬ (r39 = 0)))) (aNe _ _ _) ?_
   refine rf_c (p := ¬ (r39 = 0)) (fun c43 => ?_) (fun c43 => ?_)
   ·exact rf_ret (rnd_ret (by simp) ⟨_, _, _, rfl, (hp_weak hp32)⟩)
   ·refine rf_s (AV.op w24.length 1) rfl ?_
    refine rf_s (AV.int .i64 e28.action.kind) (by rw [hp_box hp32 0 rfl]; rfl) ?_
    refine rf_s (AV.bool (decide (e28.action.kind = 3))) (aEq _ _ _) ?_
    refine rf_gt (AV.agg (cSetup a0)) (fun hg => by
      exact rfl) ?_
    refine rf_gt (AV.op w24.length 2) (fun hg => by
      exact rfl) ?_
    refine rf_gt (AV.int .i64 e28.action.playback) (fun hg => by
      first | exact (by rw [hp_box hp32 0 rfl]; rfl) | (simp only [hg, Bool.true_and, Bool.and_true, cond_true, hg]; first | done | exact (by rw [hp_box hp32 0 rfl]; rfl))) ?_
    refine rf_gto (ω := (List CueD)) (fun r40 => (sl 11 cCue r40)) (fun hg r40 hr40 => by
      first | exact (quiet_of (h_stamp_cuesOf hr40)) | (simp only [hg, Bool.true_and, Bool.and_true, cond_true, hg]; first | done | exact (quiet_of (h_stamp_cuesOf hr40)))) (fun r40 hr40 => ?_)
    refine rf_gt (AV.fn 157 [(AV.op w24.length 0)]) (fun hg => by
      exact rfl) ?_
    refine rf_gto (ω := Bool) (fun r41 => (AV.bool r41)) (fun hg r41 hr41 => by
      first | exact (quiet_of ((tq_of (e := fun r : Bool => ((AV.bool r), w31)) (fun hs => m_slices_ContainsFunc_api_Cue_eq _ r40 hs _ _ (fun x => (decide (x.number = e28.action.cue))) w31 (fun x hx => cap_own hp32 0 rfl (fz_cAction _) (fz_agg (fz_cCue _)) rfl rfl (h_stamp_CheckEvents_fn1 (σ := []) (r := (decide (x.number = e28.action.cue))) rfl)))) hr41)) | (simp only [hg, Bool.true_and, Bool.and_true, cond_true, hg]; first | done | exact (quiet_of ((tq_of (e := fun r : Bool => ((AV.bool r), w31)) (fun hs => m_slices_ContainsFunc_api_Cue_eq _ r40 hs _ _ (fun x => (decide (x.number = e28.action.cue))) w31 (fun x hx => cap_own hp32 0 rfl (fz_cAction _) (fz_agg (fz_cCue _)) rfl rfl (h_stamp_CheckEvents_fn1 (σ := []) (r := (decide (x.number = e28.action.cue))) rfl)))) hr41)))) (fun r41 hr41 => ?_)
    refine rf_gt (AV.bool (!r41)) (fun hg => by
      first | exact rfl | (simp only [hg, Bool.true_and, Bool.and_true, cond_true, hg]; first | done | exact rfl)) ?_
    refine rf_s (AV.bool ((decide (e28.action.kind = 3)) && (!r41))) (pk_and _ _) ?_
    refine rf_cb (c := ((decide (e28.action.kind = 3)) && (!r41))) (fun c42 => ?_) (fun c42 => ?_)
    ·exact rf_ret (rnd_ret (by simp) ⟨_, _, _, rfl, (hp_weak hp32)⟩)
    ·refine rf_s (AV.int .i64 ((i29 + 1 : Nat) : Int)) (ix_inc he28 hle28) ?_
     exact rf_ret (rnd_go ⟨rfl, (hp_take hp32 0)⟩)
  ·intro hl s22 v w24 hI
   obtain ⟨rfl, hp26⟩ := hI
   refine rf_s (AV.bool false) (ix_end _) ?_
   refine rf_cf ?_
   exact rf_ret ⟨by simp, ⟨_, _, _, _, rfl, hp26⟩⟩
  ·intro hl b23 q hq
   obtain ⟨u3, u6, u27, w25, rfl, hp27⟩ := hq
   refine rf_bt rfl ?_
   exact rf_fin _ (hp_fin hp27 (fzv_fz (fz_int _ _))) ⟨rfl, rfl⟩
  ·intro hl b23 q hq
   obtain ⟨u3, u27, w25, rfl, hp27⟩ := hq
   refine rf_bf rfl ?_
   refine rf_bt rfl ?_
   exact rf_fin _ (hp_fin hp27 (fzv_fz (fz_int _ _))) ⟨rfl, rfl⟩

noncomputable def t_stamp_due (a0 : SetupD) (a1 : Int) (a2 : (List EventD)) (a3 : Int) (a4 : Int) : Option ((List EventD) × Int) :=
 (t_stamp_CheckEvents a0 a1 a2).bind fun r1 =>
 (if ((decide (0 ≤ a3)) && (decide (a3 ≤ a4))) = true then t_stamp_day a1 else some default).bind fun r2 =>
 (tq (([r1, (if (!(((decide (0 ≤ a3)) && (decide (a3 ≤ a4))) && (decide (a4 ≤ r2)))) = true then 1 else 0)] : (List Int)).length ≤ mxl) ((([r1, (if (!(((decide (0 ≤ a3)) && (decide (a3 ≤ a4))) && (decide (a4 ≤ r2)))) = true then 1 else 0)] : (List Int)).find? fun n => decide (¬ n = 0)).getD 0)).bind fun r3 =>
 if ¬ (r3 = 0) then
  some ([], r3)
 else
  forE a2 (fun (i13 : Nat) e12 (s6 : (List EventD)) => (show Option (Lr (List EventD) (List EventD) Unit) from
    (show Option (List EventD) from
      if ((decide (a3 ≤ e12.att)) && (decide (e12.att < a4))) = true then
       if s6.length + ([e12] : (List EventD)).length ≤ 2932031007402 then
       some (s6 ++ ([e12] : (List EventD)))
       else none
      else
       some s6).bind fun j19 =>
    some (.go j19))) (fun s6 => some s6) ([] : List EventD) (fun b7 =>
   some (b7, 0)) (fun b7 =>
   none)
theorem h_stamp_due {a0 : SetupD} { a1 : Int} { a2 : (List EventD)} { a3 : Int} { a4 : Int} {σ : Heap} {r : ((List EventD) × Int)} (h : t_stamp_due a0 a1 a2 a3 a4 = some r) : m_stamp_due [(AV.agg (cSetup a0)), (AV.int .i64 a1), (sl 6 cEvent a2), (AV.int .i64 a3), (AV.int .i64 a4)] σ = some ((AV.tup [(sl 6 cEvent r.1), (AV.int .i64 r.2)]), σ) := by
 refine rf_wrap5 (f := r_stamp_due) (y0 := (AV.agg (cSetup a0))) (y1 := (AV.int .i64 a1)) (y2 := (sl 6 cEvent a2)) (y3 := (AV.int .i64 a3)) (y4 := (AV.int .i64 a4)) (enc := fun r : ((List EventD) × Int) => (AV.tup [(sl 6 cEvent r.1), (AV.int .i64 r.2)])) (T := t_stamp_due a0 a1 a2 a3 a4) rfl rfl ?_ r h
 unfold r_stamp_due t_stamp_due
 refine rf_s (cSetup a0) rfl ?_
 refine rf_s (AV.agg (cSetup a0)) rfl ?_
 refine rf_o (fun r1 : Int => ((AV.int .i64 r1), σ)) (fun r1 hr1 => h_stamp_CheckEvents hr1) (fun r1 hr1 => ?_)
 refine rf_s (AV.bool (decide (0 ≤ a3))) rfl ?_
 refine rf_gt (AV.int .i64 a3) (fun hg => by
   exact rfl) ?_
 refine rf_gt (AV.int .i64 a4) (fun hg => by
   exact rfl) ?_
 refine rf_gt (AV.bool (decide (a3 ≤ a4))) (fun hg => by
   first | exact rfl | (simp only [hg, Bool.true_and, Bool.and_true, cond_true, hg]; first | done | exact rfl)) ?_
 refine rf_s (AV.bool ((decide (0 ≤ a3)) && (decide (a3 ≤ a4)))) (pk_and _ _) ?_
 refine rf_gt (AV.int .i64 a4) (fun hg => by
   exact rfl) ?_
 refine rf_gt (AV.int .i64 a1) (fun hg => by
   exact rfl) ?_
 refine rf_gto (ω := Int) (fun r2 => (AV.int .i64 r2)) (fun hg r2 hr2 => by
   first | exact (quiet_of (h_stamp_day hr2)) | (simp only [hg, Bool.true_and, Bool.and_true, cond_true, hg]; first | done | exact (quiet_of (h_stamp_day hr2)))) (fun r2 hr2 => ?_)
 refine rf_gt (AV.bool (decide (a4 ≤ r2))) (fun hg => by
   first | exact rfl | (simp only [hg, Bool.true_and, Bool.and_true, cond_true, hg]; first | done | exact rfl)) ?_
 refine rf_s (AV.bool (((decide (0 ≤ a3)) && (decide (a3 ≤ a4))) && (decide (a4 ≤ r2)))) (pk_and _ _) ?_
 refine rf_s (AV.bool (!(((decide (0 ≤ a3)) && (decide (a3 ≤ a4))) && (decide (a4 ≤ r2))))) rfl ?_
 refine rf_s ((AV.int .i64 (if (!(((decide (0 ≤ a3)) && (decide (a3 ≤ a4))) && (decide (a4 ≤ r2)))) = true then 1 else 0)), σ) (When_eq (!(((decide (0 ≤ a3)) && (decide (a3 ≤ a4))) && (decide (a4 ≤ r2)))) 1 σ) ?_
 refine rf_s (sl 1 cInt ([r1, (if (!(((decide (0 ≤ a3)) && (decide (a3 ≤ a4))) && (decide (a4 ≤ r2)))) = true then 1 else 0)] : (List Int))) rfl ?_
 refine rf_o (fun r3 : Int => ((AV.int .i64 r3), σ)) (fun r3 hr3 => (tq_of (e := fun r : Int => ((AV.int .i64 r), σ)) (fun hs => First_eq ([r1, (if (!(((decide (0 ≤ a3)) && (decide (a3 ≤ a4))) && (decide (a4 ≤ r2)))) = true then 1 else 0)] : (List Int)) hs σ)) hr3) (fun r3 hr3 => ?_)
 refine rf_s (AV.bool (decide (¬ (r3 = 0)))) (aNe _ _ _) ?_
 refine rf_c (p := ¬ (r3 = 0)) (fun c22 => ?_) (fun c22 => ?_)
 ·exact rf_fin _ (fin_same _ _) ⟨(nn_t (nn_t1 (by first | rfl | exact nn_eNil _ _) (nn_t1 rfl nn_t0))), rfl⟩
 ·refine rf_s (AV.int .i64 (a2.length : Int)) (lenS_sl _ _ _) ?_
  have hp4 : Hp σ σ [] := hp_nil σ
  have hp5 : Hp σ σ [(AV.nsl, (Ct.s 6 (List.map cEvent ([] : List EventD))))] := hp_nsl hp4 6
  refine rf_for (B := (List EventD)) (R := Unit) (fun (i13 : Nat) (s6 : (List EventD)) v w8 => ∃ hh0, v = [hh0, (AV.int .i64 (i13 : Int))] ∧ Hp σ w8 [(hh0, (Ct.s 6 (List.map cEvent s6)))]) (fun (b7 : (List EventD)) (q : LS) => ∃ u42 hh0 w9, q = ((AX.exit 0), ([hh0, u42] : List AV), w9) ∧ Hp σ w9 [(hh0, (Ct.s 6 (List.map cEvent b7)))]) (fun (b7 : Unit) (q : LS) => False) ?_ ?_ ⟨_, rfl, hp5⟩ ?_ ?_
  ·intro hle12 i13 e12 s6 v w8 he12 hI
   obtain ⟨hh0, rfl, hp10⟩ := hI
   refine rf_s (AV.bool true) (ix_lt he12) ?_
   refine rf_ct ?_
   refine rf_s (AV.rp (cEvent e12)) (ix_for he12) ?_
   refine rf_s (AV.agg (cEvent e12)) rfl ?_
   refine rf_s (cEvent e12) rfl ?_
   refine rf_s (cEvent e12) (sp_cEvent _ _ rfl) ?_
   refine rf_s (AV.int .i64 e12.att) rfl ?_
   refine rf_s (AV.bool (decide (a3 ≤ e12.att))) rfl ?_
   refine rf_gt (AV.int .i64 e12.att) (fun hg => by
     exact rfl) ?_
   refine rf_gt (AV.int .i64 a4) (fun hg => by
     exact rfl) ?_
   refine rf_gt (AV.bool (decide (e12.att < a4))) (fun hg => by
     first | exact rfl | (simp only [hg, Bool.true_and, Bool.and_true, cond_true, hg]; first | done | exact rfl)) ?_
   refine rf_s (AV.bool ((decide (a3 ≤ e12.att)) && (decide (e12.att < a4)))) (pk_and _ _) ?_
   refine rf_b (ω := (List EventD)) (fun j19 a => ∃ hh0 w20, a = (([hh0] : List AV), w20) ∧ Hp σ w20 [(hh0, (Ct.s 6 (List.map cEvent j19)))]) (
     by
      refine rf_cb (c := ((decide (a3 ≤ e12.att)) && (decide (e12.att < a4)))) (fun c18 => ?_) (fun c18 => ?_)
      ·refine rf_s (AV.agg (cEvent e12)) rfl ?_
       refine rf_s (sl 6 cEvent ([e12] : (List EventD))) rfl ?_
       refine rf_tq (fun hm => ?_)
       obtain ⟨h17, w14, e16, hp15⟩ := hp_appT (c := cEvent) (ys := ([e12] : (List EventD))) (most := 2932031007402) hp10 0 rfl hm
       change Hp σ w14 [(h17, (Ct.s 6 (List.map cEvent (s6 ++ ([e12] : (List EventD))))))] at hp15
       refine rf_s (h17, w14) e16 ?_
       exact rf_ret ⟨_, _, rfl, hp15⟩
      ·exact rf_ret ⟨_, _, rfl, hp10⟩
     ) (fun j19 a ha => ?_)
   obtain ⟨hh0, w20, rfl, hp21⟩ := ha
   refine rf_s (AV.int .i64 ((i13 + 1 : Nat) : Int)) (ix_inc he12 hle12) ?_
   exact rf_ret (rnd_go ⟨_, rfl, hp21⟩)
  ·intro hl s6 v w8 hI
   obtain ⟨hh0, rfl, hp10⟩ := hI
   refine rf_s (AV.bool false) (ix_end _) ?_
   refine rf_cf ?_
   exact rf_ret ⟨by simp, ⟨_, _, _, rfl, hp10⟩⟩
  ·intro hl b7 q hq
   obtain ⟨u42, hh0, w9, rfl, hp11⟩ := hq
   refine rf_bt rfl ?_
   obtain ⟨ra0, fa0, fb0⟩ := fzv_own (c := cEvent) (l := b7) hp11 (k := 0) rfl fz_cEvent
   exact rf_fin _ (hp_fin hp11 (fzv_tup (fzvL_cons fa0 (fzvL_cons (fzv_fz (fz_int _ _)) fzvL_nil)))) ⟨(nn_t (nn_t1 (nn_own' fb0) (nn_t1 rfl nn_t0))), rfl⟩
  ·intro hl b7 q hq
   exact False.elim hq

noncomputable def t_stamp_Due (a0 : SetupD) (a1 : Int) (a2 : (List EventD)) (a3 : Int) (a4 : Int) : Option ((List EventD) × Int) :=
 (t_stamp_due a0 a1 a2 a3 a4).bind fun r1 =>
 some (r1.1, r1.2)
theorem h_stamp_Due {a0 : SetupD} { a1 : Int} { a2 : (List EventD)} { a3 : Int} { a4 : Int} {σ : Heap} {r : ((List EventD) × Int)} (h : t_stamp_Due a0 a1 a2 a3 a4 = some r) : m_stamp_Due [(AV.agg (cSetup a0)), (AV.int .i64 a1), (sl 6 cEvent a2), (AV.int .i64 a3), (AV.int .i64 a4)] σ = some ((AV.tup [(sl 6 cEvent r.1), (AV.int .i64 r.2)]), σ) := by
 refine rf_wrap5 (f := r_stamp_Due) (y0 := (AV.agg (cSetup a0))) (y1 := (AV.int .i64 a1)) (y2 := (sl 6 cEvent a2)) (y3 := (AV.int .i64 a3)) (y4 := (AV.int .i64 a4)) (enc := fun r : ((List EventD) × Int) => (AV.tup [(sl 6 cEvent r.1), (AV.int .i64 r.2)])) (T := t_stamp_Due a0 a1 a2 a3 a4) rfl rfl ?_ r h
 unfold r_stamp_Due t_stamp_Due
 refine rf_s (cSetup a0) rfl ?_
 refine rf_s (AV.agg (cSetup a0)) rfl ?_
 refine rf_o (fun r1 : ((List EventD) × Int) => ((AV.tup [(sl 6 cEvent r1.1), (AV.int .i64 r1.2)]), σ)) (fun r1 hr1 => h_stamp_due hr1) (fun r1 hr1 => ?_)
 refine rf_s (sl 6 cEvent r1.1) rfl ?_
 refine rf_s (AV.int .i64 r1.2) rfl ?_
 exact rf_fin _ (fin_same _ _) ⟨(nn_t (nn_t1 rfl (nn_t1 rfl nn_t0))), rfl⟩

noncomputable def t_R8_counted (a0 : Int) : Option Int :=
 (show Option Bool from
   if a0 = 24 then
    some (decide (a0 = 24))
   else
    (show Option Bool from
      if a0 = 25 then
       some (decide (a0 = 25))
      else
       some (decide (a0 = 30))).bind fun j2 =>
    some j2).bind fun j6 =>
 if j6 = true then
  some a0
 else
  if a0 = 29 then
   some 30
  else
   some 0
theorem h_R8_counted {a0 : Int} {σ : Heap} {r : Int} (h : t_R8_counted a0 = some r) : m_R8_counted [(AV.int .i64 a0)] σ = some ((AV.int .i64 r), σ) := by
 refine rf_wrap1 (f := r_R8_counted) (y0 := (AV.int .i64 a0)) (enc := fun r : Int => (AV.int .i64 r)) (T := t_R8_counted a0) rfl rfl ?_ r h
 unfold r_R8_counted t_R8_counted
 refine rf_s (AV.bool (decide (a0 = 24))) (aEq _ _ _) ?_
 refine rf_b (ω := Bool) (fun j6 a => a = (([(AV.bool j6)] : List AV), σ)) (
   by
    refine rf_c (p := a0 = 24) (fun c5 => ?_) (fun c5 => ?_)
    ·exact rf_ret rfl
    ·refine rf_s (AV.bool (decide (a0 = 25))) (aEq _ _ _) ?_
     refine rf_b (ω := Bool) (fun j2 a => a = (([(AV.bool j2)] : List AV), σ)) (
       by
        refine rf_c (p := a0 = 25) (fun c1 => ?_) (fun c1 => ?_)
        ·exact rf_ret rfl
        ·refine rf_s (AV.bool (decide (a0 = 30))) (aEq _ _ _) ?_
         exact rf_ret rfl
       ) (fun j2 a ha => ?_)
     subst ha
     exact rf_ret rfl
   ) (fun j6 a ha => ?_)
 subst ha
 refine rf_cb (c := j6) (fun c10 => ?_) (fun c10 => ?_)
 ·exact rf_fin _ (fin_same _ _) ⟨rfl, rfl⟩
 ·refine rf_s (AV.bool (decide (a0 = 29))) (aEq _ _ _) ?_
  refine rf_c (p := a0 = 29) (fun c9 => ?_) (fun c9 => ?_)
  ·exact rf_fin _ (fin_same _ _) ⟨rfl, rfl⟩
  ·exact rf_fin _ (fin_same _ _) ⟨rfl, rfl⟩

noncomputable def t_R8_minute (a0 : Int) (a1 : Int) : Option Int :=
 (t_R8_counted a0).bind fun r1 =>
 (show Option Int from
   if ((decide (a0 = 29)) && (decide (¬ (Int.tmod a1 10 = 0)))) = true then
    some (IntKind.i64.wrap (IntKind.i64.wrap (60 * r1) - 2))
   else
    some (IntKind.i64.wrap (60 * r1))).bind fun j3 =>
 some j3
theorem h_R8_minute {a0 : Int} { a1 : Int} {σ : Heap} {r : Int} (h : t_R8_minute a0 a1 = some r) : m_R8_minute [(AV.int .i64 a0), (AV.int .i64 a1)] σ = some ((AV.int .i64 r), σ) := by
 refine rf_wrap2 (f := r_R8_minute) (y0 := (AV.int .i64 a0)) (y1 := (AV.int .i64 a1)) (enc := fun r : Int => (AV.int .i64 r)) (T := t_R8_minute a0 a1) rfl rfl ?_ r h
 unfold r_R8_minute t_R8_minute
 refine rf_o (fun r1 : Int => ((AV.int .i64 r1), σ)) (fun r1 hr1 => h_R8_counted hr1) (fun r1 hr1 => ?_)
 refine rf_s (AV.int .i64 (IntKind.i64.wrap (60 * r1))) rfl ?_
 refine rf_s (AV.bool (decide (a0 = 29))) (aEq _ _ _) ?_
 refine rf_gt (AV.int .i64 a1) (fun hg => by
   exact rfl) ?_
 refine rf_gt (AV.int .i64 (Int.tmod a1 10)) (fun hg => by
   first | exact (aRem _ _ (by decide)) | (simp only [hg, Bool.true_and, Bool.and_true, cond_true, hg]; first | done | exact (aRem _ _ (by decide)))) ?_
 refine rf_gt (AV.bool (decide (¬ (Int.tmod a1 10 = 0)))) (fun hg => by
   first | exact (aNe _ _ _) | (simp only [hg, Bool.true_and, Bool.and_true, cond_true, hg]; first | done | exact (aNe _ _ _))) ?_
 refine rf_s (AV.bool ((decide (a0 = 29)) && (decide (¬ (Int.tmod a1 10 = 0))))) (pk_and _ _) ?_
 refine rf_b (ω := Int) (fun j3 a => a = (([(AV.int .i64 j3)] : List AV), σ)) (
   by
    refine rf_cb (c := ((decide (a0 = 29)) && (decide (¬ (Int.tmod a1 10 = 0))))) (fun c2 => ?_) (fun c2 => ?_)
    ·refine rf_s (AV.int .i64 (IntKind.i64.wrap (IntKind.i64.wrap (60 * r1) - 2))) rfl ?_
     exact rf_ret rfl
    ·exact rf_ret rfl
   ) (fun j3 a ha => ?_)
 subst ha
 exact rf_fin _ (fin_same _ _) ⟨rfl, rfl⟩

noncomputable def t_R8_day (a0 : Int) : Option Int :=
 whE (fun (s1 : (Int × Int)) => (show Option (Lr (Int × Int) Int Unit) from
   if s1.2 < 1440 then
    (t_R8_minute a0 s1.2).bind fun r7 =>
    some (.go (IntKind.i64.wrap (s1.1 + r7), IntKind.i64.wrap (s1.2 + 1)))
   else
    some (.brk s1.1))) (0, 0) (fun b2 =>
  some b2) (fun b2 =>
  none)
theorem h_R8_day {a0 : Int} {σ : Heap} {r : Int} (h : t_R8_day a0 = some r) : m_R8_day [(AV.int .i64 a0)] σ = some ((AV.int .i64 r), σ) := by
 refine rf_wrap1 (f := r_R8_day) (y0 := (AV.int .i64 a0)) (enc := fun r : Int => (AV.int .i64 r)) (T := t_R8_day a0) rfl rfl ?_ r h
 unfold r_R8_day t_R8_day
 refine rf_wh (B := Int) (R := Unit) (fun (s1 : (Int × Int)) v w3 => v = [(AV.int .i64 s1.1), (AV.int .i64 s1.2)] ∧ σ = w3) (fun (b2 : Int) (q : LS) => ∃ u5, q = ((AX.exit 0), ([(AV.int .i64 b2), u5] : List AV), σ)) (fun (b2 : Unit) (q : LS) => False) ?_ ⟨rfl, rfl⟩ ?_ ?_
 ·intro s1 v w3 hI
  obtain ⟨rfl, rfl⟩ := hI
  refine rf_s (AV.bool (decide (s1.2 < 1440))) rfl ?_
  refine rf_c (p := s1.2 < 1440) (fun c8 => ?_) (fun c8 => ?_)
  ·refine rf_o (fun r7 : Int => ((AV.int .i64 r7), σ)) (fun r7 hr7 => h_R8_minute hr7) (fun r7 hr7 => ?_)
   refine rf_s (AV.int .i64 (IntKind.i64.wrap (s1.1 + r7))) rfl ?_
   refine rf_s (AV.int .i64 (IntKind.i64.wrap (s1.2 + 1))) rfl ?_
   exact rf_ret (rnd_go ⟨rfl, rfl⟩)
  ·exact rf_ret (rnd_brk (by simp) ⟨_, rfl⟩)
 ·intro b2 q hq
  obtain ⟨u5, rfl⟩ := hq
  refine rf_bt rfl ?_
  exact rf_fin _ (fin_same _ _) ⟨rfl, rfl⟩
 ·intro b2 q hq
  exact False.elim hq

noncomputable def t_R8_playbackOf (a0 : SetupD) (a1 : Int) : Option (PlaybackD × Bool) :=
 forE a0.playbacks (fun (i8 : Nat) e7 (s1 : Unit) => (show Option (Lr Unit Unit (PlaybackD × Bool)) from
   if e7.number = a1 then
    some (.ret (e7, true))
   else
    some (.go ()))) (fun s1 => some ()) () (fun b2 =>
  some ((⟨0, 0, 0⟩ : PlaybackD), false)) (fun b2 =>
  some (b2.1, b2.2))
theorem h_R8_playbackOf {a0 : SetupD} { a1 : Int} {σ : Heap} {r : (PlaybackD × Bool)} (h : t_R8_playbackOf a0 a1 = some r) : m_R8_playbackOf [(AV.agg (cSetup a0)), (AV.int .i64 a1)] σ = some ((AV.tup [(AV.agg (cPlayback r.1)), (AV.bool r.2)]), σ) := by
 refine rf_wrap2 (f := r_R8_playbackOf) (y0 := (AV.agg (cSetup a0))) (y1 := (AV.int .i64 a1)) (enc := fun r : (PlaybackD × Bool) => (AV.tup [(AV.agg (cPlayback r.1)), (AV.bool r.2)])) (T := t_R8_playbackOf a0 a1) rfl rfl ?_ r h
 unfold r_R8_playbackOf t_R8_playbackOf
 refine rf_s (cSetup a0) rfl ?_
 refine rf_s (sl 3 cPlayback a0.playbacks) rfl ?_
 refine rf_s (AV.int .i64 (a0.playbacks.length : Int)) (lenS_sl _ _ _) ?_
 refine rf_for (B := Unit) (R := (PlaybackD × Bool)) (fun (i8 : Nat) (s1 : Unit) v w3 => v = [(AV.lbx (cPlayback (⟨0, 0, 0⟩ : PlaybackD))), (AV.bool false), (AV.int .i64 (i8 : Int))] ∧ σ = w3) (fun (b2 : Unit) (q : LS) => ∃ u5 u11, q = ((AX.exit 0), ([(AV.lbx (cPlayback (⟨0, 0, 0⟩ : PlaybackD))), u5, u11] : List AV), σ)) (fun (b2 : (PlaybackD × Bool)) (q : LS) => ∃ u11, q = (AX.ret, ([(AV.lbx (cPlayback b2.1)), (AV.bool b2.2), u11] : List AV), σ)) ?_ ?_ ⟨rfl, rfl⟩ ?_ ?_
 ·intro hle7 i8 e7 s1 v w3 he7 hI
  obtain ⟨rfl, rfl⟩ := hI
  refine rf_s (AV.bool true) (ix_lt he7) ?_
  refine rf_ct ?_
  refine rf_s (AV.rp (cPlayback e7)) (ix_for he7) ?_
  refine rf_s (AV.agg (cPlayback e7)) rfl ?_
  refine rf_s (cPlayback e7) rfl ?_
  refine rf_s (cPlayback e7) (sp_cPlayback _ _ rfl) ?_
  refine rf_s (AV.int .i64 e7.number) rfl ?_
  refine rf_s (AV.bool (decide (e7.number = a1))) (aEq _ _ _) ?_
  refine rf_c (p := e7.number = a1) (fun c9 => ?_) (fun c9 => ?_)
  ·refine rf_s (AV.agg (cPlayback e7)) rfl ?_
   refine rf_s _ rfl ?_
   refine rf_s (cPlayback e7) rfl ?_
   refine rf_s (cPlayback e7) (sp_cPlayback _ _ rfl) ?_
   exact rf_ret (rnd_ret (by simp) ⟨_, rfl⟩)
  ·refine rf_s (AV.int .i64 ((i8 + 1 : Nat) : Int)) (ix_inc he7 hle7) ?_
   exact rf_ret (rnd_go ⟨rfl, rfl⟩)
 ·intro hl s1 v w3 hI
  obtain ⟨rfl, rfl⟩ := hI
  refine rf_s (AV.bool false) (ix_end _) ?_
  refine rf_cf ?_
  exact rf_ret ⟨by simp, ⟨_, _, rfl⟩⟩
 ·intro hl b2 q hq
  obtain ⟨u5, u11, rfl⟩ := hq
  refine rf_bt rfl ?_
  refine rf_s _ rfl ?_
  refine rf_s (cPlayback (⟨0, 0, 0⟩ : PlaybackD)) rfl ?_
  refine rf_s (cPlayback (⟨0, 0, 0⟩ : PlaybackD)) (sp_cPlayback _ _ rfl) ?_
  refine rf_s (AV.agg (cPlayback (⟨0, 0, 0⟩ : PlaybackD))) rfl ?_
  exact rf_fin _ (fin_same _ _) ⟨rfl, rfl⟩
 ·intro hl b2 q hq
  obtain ⟨u11, rfl⟩ := hq
  refine rf_bf rfl ?_
  refine rf_bt rfl ?_
  refine rf_s (AV.agg (cPlayback b2.1)) rfl ?_
  exact rf_fin _ (fin_same _ _) ⟨rfl, rfl⟩

noncomputable def t_R8_checkAction (a0 : SetupD) (a1 : ActionD) : Option Int :=
 (t_R6_ActionForm a1).bind fun r1 =>
 if r1 = 4 then
  some r1
 else
  (t_R6_ActionForm a1).bind fun r2 =>
  if ((decide (¬ (r2 = 0))) || (decide (¬ (a1.time = 0)))) = true then
   some 3
  else
   (t_R8_playbackOf a0 a1.playback).bind fun r3 =>
   if ((decide (a1.kind < 8)) && (!r3.2)) = true then
    some 8
   else
    (t_R6_LevelForm a1).bind fun r4 =>
    if ¬ (r4 = 0) then
     some r4
    else
     if a1.kind = 3 then
      (t_R6_ListOf a0.lists r3.1.list).bind fun r5 =>
      (t_R5_At r5.1.cues a1.cue).bind fun r6 =>
      if r6 < 0 then
       some 8
      else
       some 0
     else
      some 0
theorem h_R8_checkAction {a0 : SetupD} { a1 : ActionD} {σ : Heap} {r : Int} (h : t_R8_checkAction a0 a1 = some r) : m_R8_checkAction [(AV.agg (cSetup a0)), (AV.agg (cAction a1))] σ = some ((AV.int .i64 r), σ) := by
 refine rf_wrap2 (f := r_R8_checkAction) (y0 := (AV.agg (cSetup a0))) (y1 := (AV.agg (cAction a1))) (enc := fun r : Int => (AV.int .i64 r)) (T := t_R8_checkAction a0 a1) rfl rfl ?_ r h
 unfold r_R8_checkAction t_R8_checkAction
 refine rf_s (cSetup a0) rfl ?_
 refine rf_s (cAction a1) rfl ?_
 refine rf_s (AV.agg (cAction a1)) rfl ?_
 refine rf_o (fun r1 : Int => ((AV.int .i64 r1), σ)) (fun r1 hr1 => h_R6_ActionForm hr1) (fun r1 hr1 => ?_)
 refine rf_s (AV.bool (decide (r1 = 4))) (aEq _ _ _) ?_
 refine rf_c (p := r1 = 4) (fun c12 => ?_) (fun c12 => ?_)
 ·exact rf_fin _ (fin_same _ _) ⟨rfl, rfl⟩
 ·refine rf_s (AV.agg (cAction a1)) rfl ?_
  refine rf_o (fun r2 : Int => ((AV.int .i64 r2), σ)) (fun r2 hr2 => h_R6_ActionForm hr2) (fun r2 hr2 => ?_)
  refine rf_s (AV.bool (decide (¬ (r2 = 0)))) (aNe _ _ _) ?_
  refine rf_gf (AV.int .i64 a1.time) (fun hg => by
    exact rfl) ?_
  refine rf_gf (AV.bool (decide (¬ (a1.time = 0)))) (fun hg => by
    first | exact (aNe _ _ _) | (simp only [hg, Bool.true_and, Bool.and_true, cond_true, hg]; first | done | exact (aNe _ _ _))) ?_
  refine rf_s (AV.bool ((decide (¬ (r2 = 0))) || (decide (¬ (a1.time = 0))))) (pk_or _ _) ?_
  refine rf_cb (c := ((decide (¬ (r2 = 0))) || (decide (¬ (a1.time = 0))))) (fun c11 => ?_) (fun c11 => ?_)
  ·exact rf_fin _ (fin_same _ _) ⟨rfl, rfl⟩
  ·refine rf_s (AV.agg (cSetup a0)) rfl ?_
   refine rf_s (AV.int .i64 a1.playback) rfl ?_
   refine rf_o (fun r3 : (PlaybackD × Bool) => ((AV.tup [(AV.agg (cPlayback r3.1)), (AV.bool r3.2)]), σ)) (fun r3 hr3 => h_R8_playbackOf hr3) (fun r3 hr3 => ?_)
   refine rf_s (AV.agg (cPlayback r3.1)) rfl ?_
   refine rf_s (AV.bool r3.2) rfl ?_
   refine rf_s (cPlayback r3.1) rfl ?_
   refine rf_s (cPlayback r3.1) (sp_cPlayback _ _ rfl) ?_
   refine rf_s (AV.int .i64 a1.kind) rfl ?_
   refine rf_s (AV.bool (decide (a1.kind < 8))) rfl ?_
   refine rf_gt (AV.bool r3.2) (fun hg => by
     exact rfl) ?_
   refine rf_gt (AV.bool (!r3.2)) (fun hg => by
     first | exact rfl | (simp only [hg, Bool.true_and, Bool.and_true, cond_true, hg]; first | done | exact rfl)) ?_
   refine rf_s (AV.bool ((decide (a1.kind < 8)) && (!r3.2))) (pk_and _ _) ?_
   refine rf_cb (c := ((decide (a1.kind < 8)) && (!r3.2))) (fun c10 => ?_) (fun c10 => ?_)
   ·exact rf_fin _ (fin_same _ _) ⟨rfl, rfl⟩
   ·refine rf_s (AV.agg (cAction a1)) rfl ?_
    refine rf_o (fun r4 : Int => ((AV.int .i64 r4), σ)) (fun r4 hr4 => h_R6_LevelForm hr4) (fun r4 hr4 => ?_)
    refine rf_s (AV.bool (decide (¬ (r4 = 0)))) (aNe _ _ _) ?_
    refine rf_c (p := ¬ (r4 = 0)) (fun c9 => ?_) (fun c9 => ?_)
    ·exact rf_fin _ (fin_same _ _) ⟨rfl, rfl⟩
    ·refine rf_s (AV.int .i64 a1.kind) rfl ?_
     refine rf_s (AV.bool (decide (a1.kind = 3))) (aEq _ _ _) ?_
     refine rf_c (p := a1.kind = 3) (fun c8 => ?_) (fun c8 => ?_)
     ·refine rf_s (sl 2 cList a0.lists) rfl ?_
      refine rf_s (AV.int .i64 r3.1.list) rfl ?_
      refine rf_o (fun r5 : (ListD × Bool) => ((AV.tup [(AV.agg (cList r5.1)), (AV.bool r5.2)]), σ)) (fun r5 hr5 => h_R6_ListOf hr5) (fun r5 hr5 => ?_)
      refine rf_s (AV.agg (cList r5.1)) rfl ?_
      refine rf_s (AV.bool r5.2) rfl ?_
      refine rf_s (cList r5.1) rfl ?_
      refine rf_s (cList r5.1) (sp_cList _ _ rfl) ?_
      refine rf_s (sl 11 cCue r5.1.cues) rfl ?_
      refine rf_s (AV.int .i64 a1.cue) rfl ?_
      refine rf_o (fun r6 : Int => ((AV.int .i64 r6), σ)) (fun r6 hr6 => h_R5_At hr6) (fun r6 hr6 => ?_)
      refine rf_s (AV.bool (decide (r6 < 0))) rfl ?_
      refine rf_c (p := r6 < 0) (fun c7 => ?_) (fun c7 => ?_)
      ·exact rf_fin _ (fin_same _ _) ⟨rfl, rfl⟩
      ·exact rf_fin _ (fin_same _ _) ⟨rfl, rfl⟩
     ·exact rf_fin _ (fin_same _ _) ⟨rfl, rfl⟩

noncomputable def t_R8_CheckEvents (a0 : SetupD) (a1 : Int) (a2 : (List EventD)) : Option Int :=
 (t_R6_CheckSetup a0).bind fun r1 =>
 if ¬ (r1 = 0) then
  some r1
 else
  (t_R8_counted a1).bind fun r2 =>
  if r2 = 0 then
   some 16
  else
   if 2000 < (a2.length : Int) then
    some 2
   else
    forE a2 (fun (i10 : Nat) e9 (s3 : Unit) => (show Option (Lr Unit Unit Int) from
      (t_R8_day a1).bind fun r11 =>
      if (!(withinB e9.att 0 (IntKind.i64.wrap (r11 - 1)))) = true then
       some (.ret 1)
      else
       (if decide (0 < (i10 : Int)) = true then tIx a2 (IntKind.i64.wrap ((i10 : Int) - 1)) else some default).bind fun x12 =>
       if ((decide (0 < (i10 : Int))) && (decide (e9.att < x12.att))) = true then
        some (.ret 7)
       else
        (t_R8_checkAction a0 e9.action).bind fun r13 =>
        if ¬ (r13 = 0) then
         some (.ret r13)
        else
         some (.go ()))) (fun s3 => some ()) () (fun b4 =>
     some 0) (fun b4 =>
     some b4)
theorem h_R8_CheckEvents {a0 : SetupD} { a1 : Int} { a2 : (List EventD)} {σ : Heap} {r : Int} (h : t_R8_CheckEvents a0 a1 a2 = some r) : m_R8_CheckEvents [(AV.agg (cSetup a0)), (AV.int .i64 a1), (sl 6 cEvent a2)] σ = some ((AV.int .i64 r), σ) := by
 refine rf_wrap3 (f := r_R8_CheckEvents) (y0 := (AV.agg (cSetup a0))) (y1 := (AV.int .i64 a1)) (y2 := (sl 6 cEvent a2)) (enc := fun r : Int => (AV.int .i64 r)) (T := t_R8_CheckEvents a0 a1 a2) rfl rfl ?_ r h
 unfold r_R8_CheckEvents t_R8_CheckEvents
 refine rf_s (cSetup a0) rfl ?_
 refine rf_s (AV.agg (cSetup a0)) rfl ?_
 refine rf_o (fun r1 : Int => ((AV.int .i64 r1), σ)) (fun r1 hr1 => h_R6_CheckSetup hr1) (fun r1 hr1 => ?_)
 refine rf_s (AV.bool (decide (¬ (r1 = 0)))) (aNe _ _ _) ?_
 refine rf_c (p := ¬ (r1 = 0)) (fun c19 => ?_) (fun c19 => ?_)
 ·exact rf_fin _ (fin_same _ _) ⟨rfl, rfl⟩
 ·refine rf_o (fun r2 : Int => ((AV.int .i64 r2), σ)) (fun r2 hr2 => h_R8_counted hr2) (fun r2 hr2 => ?_)
  refine rf_s (AV.bool (decide (r2 = 0))) (aEq _ _ _) ?_
  refine rf_c (p := r2 = 0) (fun c18 => ?_) (fun c18 => ?_)
  ·exact rf_fin _ (fin_same _ _) ⟨rfl, rfl⟩
  ·refine rf_s (AV.int .i64 (a2.length : Int)) (lenS_sl _ _ _) ?_
   refine rf_s (AV.bool (decide (2000 < (a2.length : Int)))) rfl ?_
   refine rf_c (p := 2000 < (a2.length : Int)) (fun c17 => ?_) (fun c17 => ?_)
   ·exact rf_fin _ (fin_same _ _) ⟨rfl, rfl⟩
   ·refine rf_s (AV.int .i64 (a2.length : Int)) (lenS_sl _ _ _) ?_
    refine rf_for (B := Unit) (R := Int) (fun (i10 : Nat) (s3 : Unit) v w5 => v = [(AV.lbx (cSetup a0)), (AV.int .i64 0), (AV.int .i64 (i10 : Int))] ∧ σ = w5) (fun (b4 : Unit) (q : LS) => ∃ u3 u6 u26, q = ((AX.exit 1), ([u3, u6, u26] : List AV), σ)) (fun (b4 : Int) (q : LS) => ∃ u3 u26, q = (AX.ret, ([u3, (AV.int .i64 b4), u26] : List AV), σ)) ?_ ?_ ⟨rfl, rfl⟩ ?_ ?_
    ·intro hle9 i10 e9 s3 v w5 he9 hI
     obtain ⟨rfl, rfl⟩ := hI
     refine rf_s (AV.bool true) (ix_lt he9) ?_
     refine rf_ct ?_
     refine rf_s (AV.rp (cEvent e9)) (ix_for he9) ?_
     refine rf_s (AV.agg (cEvent e9)) rfl ?_
     refine rf_s (cEvent e9) rfl ?_
     refine rf_s (cEvent e9) (sp_cEvent _ _ rfl) ?_
     refine rf_s (AV.int .i64 e9.att) rfl ?_
     refine rf_o (fun r11 : Int => (AV.int .i64 r11)) (fun r11 hr11 => (quiet_of (h_R8_day hr11))) (fun r11 hr11 => ?_)
     refine rf_s (AV.int .i64 (IntKind.i64.wrap (r11 - 1))) rfl ?_
     refine rf_s (AV.bool (withinB e9.att 0 (IntKind.i64.wrap (r11 - 1)))) (quiet_of (Within1_eq e9.att 0 (IntKind.i64.wrap (r11 - 1)) σ)) ?_
     refine rf_s (AV.bool (!(withinB e9.att 0 (IntKind.i64.wrap (r11 - 1))))) rfl ?_
     refine rf_cb (c := (!(withinB e9.att 0 (IntKind.i64.wrap (r11 - 1))))) (fun c16 => ?_) (fun c16 => ?_)
     ·exact rf_ret (rnd_ret (by simp) ⟨_, _, rfl⟩)
     ·refine rf_s (AV.bool (decide (0 < (i10 : Int)))) rfl ?_
      refine rf_gt (AV.int .i64 e9.att) (fun hg => by
        exact rfl) ?_
      refine rf_gt (sl 6 cEvent a2) (fun hg => by
        exact rfl) ?_
      refine rf_gt (AV.int .i64 (i10 : Int)) (fun hg => by
        exact rfl) ?_
      refine rf_gt (AV.int .i64 (IntKind.i64.wrap ((i10 : Int) - 1))) (fun hg => by
        first | exact rfl | (simp only [hg, Bool.true_and, Bool.and_true, cond_true, hg]; first | done | exact rfl)) ?_
      refine rf_gto (ω := EventD) (fun x12 => (AV.rp (cEvent x12))) (fun hg x12 hx12 => by
        first | exact ix_at hx12 | (simp only [hg, Bool.true_and, Bool.and_true, cond_true, hg]; first | done | exact ix_at hx12)) (fun x12 hx12 => ?_)
      refine rf_gt (AV.rp (cEvent x12)) (fun hg => by
        first | exact rfl | (simp only [hg, Bool.true_and, Bool.and_true, cond_true, hg]; first | done | exact rfl)) ?_
      refine rf_gt (AV.int .i64 x12.att) (fun hg => by
        first | exact rfl | (simp only [hg, Bool.true_and, Bool.and_true, cond_true, hg]; first | done | exact rfl)) ?_
      refine rf_gt (AV.bool (decide (e9.att < x12.att))) (fun hg => by
        first | exact rfl | (simp only [hg, Bool.true_and, Bool.and_true, cond_true, hg]; first | done | exact rfl)) ?_
      refine rf_s (AV.bool ((decide (0 < (i10 : Int))) && (decide (e9.att < x12.att)))) (pk_and _ _) ?_
      refine rf_cb (c := ((decide (0 < (i10 : Int))) && (decide (e9.att < x12.att)))) (fun c15 => ?_) (fun c15 => ?_)
      ·exact rf_ret (rnd_ret (by simp) ⟨_, _, rfl⟩)
      ·refine rf_s (AV.agg (cSetup a0)) rfl ?_
       refine rf_s (AV.agg (cAction e9.action)) rfl ?_
       refine rf_o (fun r13 : Int => ((AV.int .i64 r13), σ)) (fun r13 hr13 => h_R8_checkAction hr13) (fun r13 hr13 => ?_)
       refine rf_s (AV.bool (decide (¬ (r13 = 0)))) (aNe _ _ _) ?_
       refine rf_c (p := ¬ (r13 = 0)) (fun c14 => ?_) (fun c14 => ?_)
       ·exact rf_ret (rnd_ret (by simp) ⟨_, _, rfl⟩)
       ·refine rf_s (AV.int .i64 ((i10 + 1 : Nat) : Int)) (ix_inc he9 hle9) ?_
        exact rf_ret (rnd_go ⟨rfl, rfl⟩)
    ·intro hl s3 v w5 hI
     obtain ⟨rfl, rfl⟩ := hI
     refine rf_s (AV.bool false) (ix_end _) ?_
     refine rf_cf ?_
     exact rf_ret ⟨by simp, ⟨_, _, _, rfl⟩⟩
    ·intro hl b4 q hq
     obtain ⟨u3, u6, u26, rfl⟩ := hq
     refine rf_bt rfl ?_
     exact rf_fin _ (fin_same _ _) ⟨rfl, rfl⟩
    ·intro hl b4 q hq
     obtain ⟨u3, u26, rfl⟩ := hq
     refine rf_bf rfl ?_
     refine rf_bt rfl ?_
     exact rf_fin _ (fin_same _ _) ⟨rfl, rfl⟩

noncomputable def t_R8_Due (a0 : SetupD) (a1 : Int) (a2 : (List EventD)) (a3 : Int) (a4 : Int) : Option ((List EventD) × Int) :=
 (t_R8_CheckEvents a0 a1 a2).bind fun r1 =>
 if ¬ (r1 = 0) then
  some ([], r1)
 else
  (if (!((decide (a3 < 0)) || (decide (a4 < a3)))) = true then t_R8_day a1 else some default).bind fun r2 =>
  if (((decide (a3 < 0)) || (decide (a4 < a3))) || (decide (r2 < a4))) = true then
   some ([], 1)
  else
   forE a2 (fun (i12 : Nat) e11 (s5 : (List EventD)) => (show Option (Lr (List EventD) (List EventD) Unit) from
     (show Option (List EventD) from
       if ((decide (a3 ≤ e11.att)) && (decide (e11.att < a4))) = true then
        if s5.length + ([e11] : (List EventD)).length ≤ 2932031007402 then
        some (s5 ++ ([e11] : (List EventD)))
        else none
       else
        some s5).bind fun j18 =>
     some (.go j18))) (fun s5 => some s5) ([] : List EventD) (fun b6 =>
    some (b6, 0)) (fun b6 =>
    none)
theorem h_R8_Due {a0 : SetupD} { a1 : Int} { a2 : (List EventD)} { a3 : Int} { a4 : Int} {σ : Heap} {r : ((List EventD) × Int)} (h : t_R8_Due a0 a1 a2 a3 a4 = some r) : m_R8_Due [(AV.agg (cSetup a0)), (AV.int .i64 a1), (sl 6 cEvent a2), (AV.int .i64 a3), (AV.int .i64 a4)] σ = some ((AV.tup [(sl 6 cEvent r.1), (AV.int .i64 r.2)]), σ) := by
 refine rf_wrap5 (f := r_R8_Due) (y0 := (AV.agg (cSetup a0))) (y1 := (AV.int .i64 a1)) (y2 := (sl 6 cEvent a2)) (y3 := (AV.int .i64 a3)) (y4 := (AV.int .i64 a4)) (enc := fun r : ((List EventD) × Int) => (AV.tup [(sl 6 cEvent r.1), (AV.int .i64 r.2)])) (T := t_R8_Due a0 a1 a2 a3 a4) rfl rfl ?_ r h
 unfold r_R8_Due t_R8_Due
 refine rf_s (cSetup a0) rfl ?_
 refine rf_s (AV.agg (cSetup a0)) rfl ?_
 refine rf_o (fun r1 : Int => ((AV.int .i64 r1), σ)) (fun r1 hr1 => h_R8_CheckEvents hr1) (fun r1 hr1 => ?_)
 refine rf_s (AV.bool (decide (¬ (r1 = 0)))) (aNe _ _ _) ?_
 refine rf_c (p := ¬ (r1 = 0)) (fun c22 => ?_) (fun c22 => ?_)
 ·exact rf_fin _ (fin_same _ _) ⟨(nn_t (nn_t1 (by first | rfl | exact nn_eNil _ _) (nn_t1 rfl nn_t0))), rfl⟩
 ·refine rf_s (AV.bool (decide (a3 < 0))) rfl ?_
  refine rf_gf (AV.int .i64 a3) (fun hg => by
    exact rfl) ?_
  refine rf_gf (AV.int .i64 a4) (fun hg => by
    exact rfl) ?_
  refine rf_gf (AV.bool (decide (a4 < a3))) (fun hg => by
    first | exact rfl | (simp only [hg, Bool.true_and, Bool.and_true, cond_true, hg]; first | done | exact rfl)) ?_
  refine rf_s (AV.bool ((decide (a3 < 0)) || (decide (a4 < a3)))) (pk_or _ _) ?_
  refine rf_gf (AV.int .i64 a4) (fun hg => by
    exact rfl) ?_
  refine rf_gf (AV.int .i64 a1) (fun hg => by
    exact rfl) ?_
  refine rf_gfo (ω := Int) (fun r2 => (AV.int .i64 r2)) (fun hg r2 hr2 => by
    first | exact (quiet_of (h_R8_day hr2)) | (simp only [hg, Bool.true_and, Bool.and_true, cond_true, hg]; first | done | exact (quiet_of (h_R8_day hr2)))) (fun r2 hr2 => ?_)
  refine rf_gf (AV.bool (decide (r2 < a4))) (fun hg => by
    first | exact rfl | (simp only [hg, Bool.true_and, Bool.and_true, cond_true, hg]; first | done | exact rfl)) ?_
  refine rf_s (AV.bool (((decide (a3 < 0)) || (decide (a4 < a3))) || (decide (r2 < a4)))) (pk_or _ _) ?_
  refine rf_cb (c := (((decide (a3 < 0)) || (decide (a4 < a3))) || (decide (r2 < a4)))) (fun c21 => ?_) (fun c21 => ?_)
  ·exact rf_fin _ (fin_same _ _) ⟨(nn_t (nn_t1 (by first | rfl | exact nn_eNil _ _) (nn_t1 rfl nn_t0))), rfl⟩
  ·refine rf_s (AV.int .i64 (a2.length : Int)) (lenS_sl _ _ _) ?_
   have hp3 : Hp σ σ [] := hp_nil σ
   have hp4 : Hp σ σ [(AV.nsl, (Ct.s 6 (List.map cEvent ([] : List EventD))))] := hp_nsl hp3 6
   refine rf_for (B := (List EventD)) (R := Unit) (fun (i12 : Nat) (s5 : (List EventD)) v w7 => ∃ hh0, v = [hh0, (AV.int .i64 (i12 : Int))] ∧ Hp σ w7 [(hh0, (Ct.s 6 (List.map cEvent s5)))]) (fun (b6 : (List EventD)) (q : LS) => ∃ u38 hh0 w8, q = ((AX.exit 0), ([hh0, u38] : List AV), w8) ∧ Hp σ w8 [(hh0, (Ct.s 6 (List.map cEvent b6)))]) (fun (b6 : Unit) (q : LS) => False) ?_ ?_ ⟨_, rfl, hp4⟩ ?_ ?_
   ·intro hle11 i12 e11 s5 v w7 he11 hI
    obtain ⟨hh0, rfl, hp9⟩ := hI
    refine rf_s (AV.bool true) (ix_lt he11) ?_
    refine rf_ct ?_
    refine rf_s (AV.rp (cEvent e11)) (ix_for he11) ?_
    refine rf_s (AV.agg (cEvent e11)) rfl ?_
    refine rf_s (cEvent e11) rfl ?_
    refine rf_s (cEvent e11) (sp_cEvent _ _ rfl) ?_
    refine rf_s (AV.int .i64 e11.att) rfl ?_
    refine rf_s (AV.bool (decide (a3 ≤ e11.att))) rfl ?_
    refine rf_gt (AV.int .i64 e11.att) (fun hg => by
      exact rfl) ?_
    refine rf_gt (AV.int .i64 a4) (fun hg => by
      exact rfl) ?_
    refine rf_gt (AV.bool (decide (e11.att < a4))) (fun hg => by
      first | exact rfl | (simp only [hg, Bool.true_and, Bool.and_true, cond_true, hg]; first | done | exact rfl)) ?_
    refine rf_s (AV.bool ((decide (a3 ≤ e11.att)) && (decide (e11.att < a4)))) (pk_and _ _) ?_
    refine rf_b (ω := (List EventD)) (fun j18 a => ∃ hh0 w19, a = (([hh0] : List AV), w19) ∧ Hp σ w19 [(hh0, (Ct.s 6 (List.map cEvent j18)))]) (
      by
       refine rf_cb (c := ((decide (a3 ≤ e11.att)) && (decide (e11.att < a4)))) (fun c17 => ?_) (fun c17 => ?_)
       ·refine rf_s (AV.agg (cEvent e11)) rfl ?_
        refine rf_s (sl 6 cEvent ([e11] : (List EventD))) rfl ?_
        refine rf_tq (fun hm => ?_)
        obtain ⟨h16, w13, e15, hp14⟩ := hp_appT (c := cEvent) (ys := ([e11] : (List EventD))) (most := 2932031007402) hp9 0 rfl hm
        change Hp σ w13 [(h16, (Ct.s 6 (List.map cEvent (s5 ++ ([e11] : (List EventD))))))] at hp14
        refine rf_s (h16, w13) e15 ?_
        exact rf_ret ⟨_, _, rfl, hp14⟩
       ·exact rf_ret ⟨_, _, rfl, hp9⟩
      ) (fun j18 a ha => ?_)
    obtain ⟨hh0, w19, rfl, hp20⟩ := ha
    refine rf_s (AV.int .i64 ((i12 + 1 : Nat) : Int)) (ix_inc he11 hle11) ?_
    exact rf_ret (rnd_go ⟨_, rfl, hp20⟩)
   ·intro hl s5 v w7 hI
    obtain ⟨hh0, rfl, hp9⟩ := hI
    refine rf_s (AV.bool false) (ix_end _) ?_
    refine rf_cf ?_
    exact rf_ret ⟨by simp, ⟨_, _, _, rfl, hp9⟩⟩
   ·intro hl b6 q hq
    obtain ⟨u38, hh0, w8, rfl, hp10⟩ := hq
    refine rf_bt rfl ?_
    obtain ⟨ra0, fa0, fb0⟩ := fzv_own (c := cEvent) (l := b6) hp10 (k := 0) rfl fz_cEvent
    exact rf_fin _ (hp_fin hp10 (fzv_tup (fzvL_cons fa0 (fzvL_cons (fzv_fz (fz_int _ _)) fzvL_nil)))) ⟨(nn_t (nn_t1 (nn_own' fb0) (nn_t1 rfl nn_t0))), rfl⟩
   ·intro hl b6 q hq
    exact False.elim hq

noncomputable def t_slices_Equal_api_Event (a0 : (List EventD)) (a1 : (List EventD)) : Option Bool :=
 if ¬ ((a0.length : Int) = (a1.length : Int)) then
  some false
 else
  forE a0 (fun (i8 : Nat) e7 (s1 : Unit) => (show Option (Lr Unit Unit Unit) from
    (tIx a1 (i8 : Int)).bind fun x9 =>
    if ¬ (e7 = x9) then
     some (.ret ())
    else
     some (.go ()))) (fun s1 => some ()) () (fun b2 =>
   some true) (fun b2 =>
   some false)
theorem h_slices_Equal_api_Event {a0 : (List EventD)} { a1 : (List EventD)} {σ : Heap} {r : Bool} (h : t_slices_Equal_api_Event a0 a1 = some r) : m_slices_Equal_api_Event [(sl 6 cEvent a0), (sl 6 cEvent a1)] σ = some ((AV.bool r), σ) := by
 refine rf_wrap2 (f := r_slices_Equal_api_Event) (y0 := (sl 6 cEvent a0)) (y1 := (sl 6 cEvent a1)) (enc := fun r : Bool => (AV.bool r)) (T := t_slices_Equal_api_Event a0 a1) rfl rfl ?_ r h
 unfold r_slices_Equal_api_Event t_slices_Equal_api_Event
 refine rf_s (AV.int .i64 (a0.length : Int)) (lenS_sl _ _ _) ?_
 refine rf_s (AV.int .i64 (a1.length : Int)) (lenS_sl _ _ _) ?_
 refine rf_s (AV.bool (decide (¬ ((a0.length : Int) = (a1.length : Int))))) (aNe _ _ _) ?_
 refine rf_c (p := ¬ ((a0.length : Int) = (a1.length : Int))) (fun c11 => ?_) (fun c11 => ?_)
 ·exact rf_fin _ (fin_same _ _) ⟨rfl, rfl⟩
 ·refine rf_s (AV.int .i64 (a0.length : Int)) (lenS_sl _ _ _) ?_
  refine rf_for (B := Unit) (R := Unit) (fun (i8 : Nat) (s1 : Unit) v w3 => v = [(AV.bool false), (AV.int .i64 (i8 : Int))] ∧ σ = w3) (fun (b2 : Unit) (q : LS) => ∃ u4 u13, q = ((AX.exit 0), ([u4, u13] : List AV), σ)) (fun (b2 : Unit) (q : LS) => ∃ u13, q = (AX.ret, ([(AV.bool false), u13] : List AV), σ)) ?_ ?_ ⟨rfl, rfl⟩ ?_ ?_
  ·intro hle7 i8 e7 s1 v w3 he7 hI
   obtain ⟨rfl, rfl⟩ := hI
   refine rf_s (AV.bool true) (ix_lt he7) ?_
   refine rf_ct ?_
   refine rf_s (AV.rp (cEvent e7)) (ix_for he7) ?_
   refine rf_s (AV.agg (cEvent e7)) rfl ?_
   refine rf_o (fun x9 : EventD => (AV.rp (cEvent x9))) (fun x9 hx9 => ix_at hx9) (fun x9 hx9 => ?_)
   refine rf_s (AV.agg (cEvent x9)) rfl ?_
   refine rf_s (AV.bool (decide (¬ (e7 = x9)))) (ne_Event _ _) ?_
   refine rf_c (p := ¬ (e7 = x9)) (fun c10 => ?_) (fun c10 => ?_)
   ·exact rf_ret (rnd_ret (by simp) ⟨_, rfl⟩)
   ·refine rf_s (AV.int .i64 ((i8 + 1 : Nat) : Int)) (ix_inc he7 hle7) ?_
    exact rf_ret (rnd_go ⟨rfl, rfl⟩)
  ·intro hl s1 v w3 hI
   obtain ⟨rfl, rfl⟩ := hI
   refine rf_s (AV.bool false) (ix_end _) ?_
   refine rf_cf ?_
   exact rf_ret ⟨by simp, ⟨_, _, rfl⟩⟩
  ·intro hl b2 q hq
   obtain ⟨u4, u13, rfl⟩ := hq
   refine rf_bt rfl ?_
   exact rf_fin _ (fin_same _ _) ⟨rfl, rfl⟩
  ·intro hl b2 q hq
   obtain ⟨u13, rfl⟩ := hq
   refine rf_bf rfl ?_
   refine rf_bt rfl ?_
   exact rf_fin _ (fin_same _ _) ⟨rfl, rfl⟩
end Go.Proofs.Ytohbeolimnpehaa

/- Events of a stretch: what both sides say. -/
namespace Go.Proofs.Ytohbeolimnpehaa
set_option linter.unusedSectionVars false
set_option linter.unusedVariables false
set_option linter.unusedSimpArgs false
/-! ### More loops -/
section
variable {α γ R S B : Type}
theorem forE_some {q : α → Option R} {l : List α} {body : Nat → α → Unit → Option (Lr Unit Unit R)} {fin : Unit → Option Unit} {s : Unit} {K1 : Unit → Option γ} {K2 : R → Option γ} (hl : l.length ≤ mxl) (hb : ∀ i x, l[i]? = some x → body i x () = some (match q x with | some r => .ret r | none => .go ())) (hf : fin () = some () := by rfl) : forE l body fin s K1 K2 = match l.findSome? q with | some r => K2 r | none => K1 () := by
 rw [forE_le hl]
 have key : ∀ (rest pre : List α), l = pre ++ rest → forL body fin rest pre.length () = some (match rest.findSome? q with | some r => .inr r | none => .inl ()) := by
  intro rest
  induction rest with
  | nil => intro pre _; simp [forL, hf]
  | cons x rest ih =>
   intro pre hp
   rw [forL, hb pre.length x (by rw [hp]; simp), Option.bind_some, List.findSome?_cons]
   cases h : q x
   ·have := ih (pre ++ [x]) (by simpa using hp)
    simpa using this
   ·simp only
 have k := key l [] rfl
 rw [List.length_nil] at k
 rw [show s = () from rfl, k, Option.bind_some]
 cases l.findSome? q <;> rfl
theorem forE_idx {p : α → Bool} {l : List α} {body : Nat → α → Unit → Option (Lr Unit Unit Int)} {fin : Unit → Option Unit} {s : Unit} {K1 : Unit → Option γ} {K2 : Int → Option γ} (hl : l.length ≤ mxl) (hb : ∀ i x, l[i]? = some x → body i x () = some (if p x = true then .ret (i : Int) else .go ())) (hf : fin () = some () := by rfl) : forE l body fin s K1 K2 = if idxI p l = -1 then K1 () else K2 (idxI p l) := by
 rw [forE_le hl]
 have key : ∀ (rest pre : List α), l = pre ++ rest → (∀ x ∈ pre, p x = false) → forL body fin rest pre.length () = some (if idxI p l = -1 then .inl () else .inr (idxI p l)) := by
  intro rest
  induction rest with
  | nil =>
   intro pre hp hn
   rw [List.append_nil] at hp
   rcases idxI_cases p l with ⟨h1, _⟩ | ⟨k, x, h1, h2, _⟩
   ·simp [forL, hf, h1]
   ·have := hn x (by rw [← hp]; exact List.mem_of_getElem? h1); rw [h2] at this; cases this
  | cons x rest ih =>
   intro pre hp hn
   have hx : l[pre.length]? = some x := by rw [hp]; simp
   rw [forL, hb pre.length x hx, Option.bind_some]
   cases h : p x
   ·simp only [Bool.false_eq_true, if_false]
    have := ih (pre ++ [x]) (by simpa using hp) (fun y hy => by
     rcases List.mem_append.1 hy with hy | hy
     ·exact hn y hy
     ·simp at hy; subst hy; exact h)
    simpa using this
   ·simp only [if_true]
    have e : idxI p l = pre.length := by
     rcases idxI_cases p l with ⟨h1, h2, _⟩ | ⟨k, y, h1, h2, h3, _, h5⟩
     ·have := h2 x (List.mem_of_getElem? hx); rw [h] at this; cases this
     ·rw [h3]
      rcases Nat.lt_trichotomy k pre.length with hk | hk | hk
      ·rw [hp, List.getElem?_append_left hk] at h1
       have := hn y (List.mem_of_getElem? h1); rw [h2] at this; cases this
      ·omega
      ·have := h5 pre.length x hk hx; rw [h] at this; cases this
    rw [if_neg (by omega), e]
 have k := key l [] rfl (by simp)
 rw [List.length_nil] at k
 rw [show s = () from rfl, k, Option.bind_some]
 split <;> rfl
/-- A loop of so many rounds. -/
theorem whE_count {body : S → Option (Lr S B R)} (n : Nat) (f : Nat → S) {b : B} {K1 : B → Option γ} {K2 : R → Option γ} (hs : ∀ k, k < n → body (f k) = some (.go (f (k + 1)))) (he : body (f n) = some (.brk b)) {s : S} (h0 : s = f 0 := by rfl) : whE body s K1 K2 = K1 b := by
 have key : ∀ k, k ≤ n → whL body (f (n - k)) = some (.inl b) := by
  intro k
  induction k with
  | zero => intro _; rw [whL_step, Nat.sub_zero, he]; rfl
  | succ k ih =>
   intro hk
   rw [whL_step, hs (n - (k + 1)) (by omega), Option.bind_some]
   simp only
   rw [show n - (k + 1) + 1 = n - k by omega]
   exact ih (by omega)
 have := key n (Nat.le_refl _)
 rw [Nat.sub_self] at this
 rw [whE, h0, this]; rfl
end
/-! ### Rates -/
def cntF (r : Int) : Int := if r = 24 then 24 else if r = 25 then 25 else if r = 30 then 30 else if r = 29 then 30 else 0
def modeF (r : Int) : Int := if cntF r = 0 then 16 else 0
def dayF (r : Int) : Int := if r = 29 then 2589408 else 86400 * cntF r
theorem counted8_t (r : Int) : t_R8_counted r = some (cntF r) := by
 unfold t_R8_counted cntF
 by_cases h1 : r = 24
 ·subst h1; rfl
 by_cases h2 : r = 25
 ·subst h2; rfl
 by_cases h3 : r = 30
 ·subst h3; rfl
 by_cases h4 : r = 29
 ·subst h4; rfl
 simp [h1, h2, h3, h4]
theorem mode_t (r : Int) : t_stamp_mode r = some (modeF r) := by
 unfold t_stamp_mode t_stamp_speed modeF cntF
 by_cases h1 : r = 24
 ·subst h1; rfl
 by_cases h2 : r = 25
 ·subst h2; rfl
 by_cases h3 : r = 30
 ·subst h3; rfl
 by_cases h4 : r = 29
 ·subst h4; rfl
 simp [h1, h2, h3, h4]
theorem rate_cases {r : Int} (h : cntF r ≠ 0) : r = 24 ∨ r = 25 ∨ r = 30 ∨ r = 29 := by
 unfold cntF at h
 by_cases h1 : r = 24
 ·exact .inl h1
 by_cases h2 : r = 25
 ·exact .inr (.inl h2)
 by_cases h3 : r = 30
 ·exact .inr (.inr (.inl h3))
 by_cases h4 : r = 29
 ·exact .inr (.inr (.inr h4))
 simp [h1, h2, h3, h4] at h
theorem day_t {r : Int} (h : cntF r ≠ 0) : t_stamp_day r = some (dayF r) := by
 rcases rate_cases h with rfl | rfl | rfl | rfl <;> rfl
def preF (r : Int) (k : Nat) : Int := if r = 29 then 1800 * k - 2 * ((k : Int) - ((k : Int) + 9) / 10) else 60 * cntF r * k
theorem minute8_t {r : Int} (h : cntF r ≠ 0) (k : Nat) (hk : k < 1440) : t_R8_minute r k = some (if r = 29 ∧ ¬ ((k : Int) % 10 = 0) then 1798 else 60 * cntF r) := by
 unfold t_R8_minute
 have e : Int.tmod (k : Int) 10 = (k : Int) % 10 := Int.tmod_eq_emod_of_nonneg (by omega)
 simp only [counted8_t, Option.bind_some, e]
 rcases rate_cases h with rfl | rfl | rfl | rfl
 ·rfl
 ·rfl
 ·rfl
 ·by_cases h2 : (k : Int) % 10 = 0
  ·simp only [h2, not_true_eq_false, decide_false, Bool.and_false, Bool.false_eq_true, if_false, and_false]; rfl
  ·simp only [h2, not_false_eq_true, decide_true, Bool.and_self, if_true, and_self]; rfl
theorem day8_t {r : Int} (h : cntF r ≠ 0) : t_R8_day r = some (dayF r) := by
 unfold t_R8_day
 rw [whE_count 1440 (fun k => (preF r k, (k : Int))) (b := preF r 1440) ?_ ?_ ?_]
 ·rcases rate_cases h with rfl | rfl | rfl | rfl <;> rfl
 ·intro k hk
  have hk' : (k : Int) < 1440 := by omega
  simp only [hk', if_true, minute8_t h k hk, Option.bind_some]
  congr 3
  ·rcases rate_cases h with rfl | rfl | rfl | rfl
   ·rw [wrap64 (by simp [preF, cntF]; unfold inI; omega)]; simp [preF, cntF]; omega
   ·rw [wrap64 (by simp [preF, cntF]; unfold inI; omega)]; simp [preF, cntF]; omega
   ·rw [wrap64 (by simp [preF, cntF]; unfold inI; omega)]; simp [preF, cntF]; omega
   ·by_cases h2 : (k : Int) % 10 = 0
    ·rw [wrap64 (by simp [preF, cntF, h2]; unfold inI; omega)]; simp [preF, cntF, h2]; omega
    ·rw [wrap64 (by simp [preF, cntF, h2]; unfold inI; omega)]; simp [preF, cntF, h2]; omega
  ·rw [wrap64 (by unfold inI; omega)]; simp
 ·simp
 ·simp [preF]
/-! ### Actions -/
def fieldsF (a : ActionD) : Int :=
 if (!(withinB a.kind 1 9)) = true then 4
 else if (((((decide (a.kind = 8)) || (decide (a.kind = 9))) && (decide (¬ (a.playback = 0)))) || ((decide (¬ (a.kind = 3))) && (decide (¬ (a.cue = 0))))) || ((decide (¬ (6 ≤ a.kind))) && (decide (¬ (a.level = 0))))) = true then 3 else 0
theorem ActionForm_t (a : ActionD) : t_R6_ActionForm a = some (fieldsF a) := by
 unfold t_R6_ActionForm fieldsF
 split
 ·rfl
 split <;> rfl
theorem CheckFields_t (a : ActionD) : t_play_CheckFields a = some (fieldsF a) := by
 unfold t_play_CheckFields fieldsF
 by_cases h : withinB a.kind 1 9 = true
 case neg => simp [h]
 have hk : 1 ≤ a.kind ∧ a.kind ≤ 9 := by simpa [withinB] using h
 have e : (!((((decide (a.kind = 8)) || (decide (a.kind = 9))) || (decide (a.kind = 6))) || (decide (a.kind = 7)))) = decide (¬ (6 ≤ a.kind)) := by
  rw [Bool.eq_iff_iff]
  simp only [Bool.not_eq_true', Bool.or_eq_false_iff, decide_eq_false_iff_not, decide_eq_true_eq]
  omega
 simp only [h, Bool.not_true, Bool.false_eq_true, if_false, e, ite_pure]
def levelFormF (a : ActionD) : Int :=
 if (((decide (a.kind = 7)) || (decide (a.kind = 8))) && (!(withinB a.level 0 65535))) = true then 1
 else if ((decide (a.kind = 6)) && (!(withinB a.level 0 36000000))) = true then 1
 else if ((decide (a.kind = 9)) && (!(withinB a.level 0 1))) = true then 1 else 0
theorem LevelForm_t (a : ActionD) : t_R6_LevelForm a = some (levelFormF a) := by
 unfold t_R6_LevelForm levelFormF
 split
 ·rfl
 split
 ·rfl
 split <;> rfl
def hasPlay (s : SetupD) (n : Int) : Bool := s.playbacks.any fun x => decide (x.number = n)
def mostF (k : Int) : Int := if k = 6 then 36000000 else if k = 9 then 1 else 65535
def rangesPF (s : SetupD) (a : ActionD) : Int :=
 if (!((decide (a.kind = 8)) || (decide (a.kind = 9))) && !hasPlay s a.playback) = true then 8 else if (!(withinB a.level 0 (mostF a.kind))) = true then 1 else 0
theorem CheckRanges_t (s : SetupD) (hs : s.playbacks.length ≤ mxl) (a : ActionD) : t_play_CheckRanges s a = some (rangesPF s a) := by
 unfold t_play_CheckRanges rangesPF
 rw [tq_pos hs]
 simp only [bind_ite2]
 have e : (!(decide (a.kind = 8) || decide (a.kind = 9)) && !(if (!(decide (a.kind = 8) || decide (a.kind = 9))) = true then s.playbacks.any (fun x => decide (x.number = a.playback)) else (default : Bool))) = (!(decide (a.kind = 8) || decide (a.kind = 9)) && !hasPlay s a.playback) := by
  cases decide (a.kind = 8) || decide (a.kind = 9) <;> rfl
 rw [e]
 split
 ·rfl
 unfold mostF
 by_cases h6 : a.kind = 6
 ·simp only [h6, if_true, Option.bind_some, ite_pure]
 ·by_cases h9 : a.kind = 9 <;> simp [h6, h9]
def playbackOf (s : SetupD) (n : Int) : PlaybackD × Bool := match s.playbacks.find? fun x => decide (x.number = n) with | some x => (x, true) | none => (⟨0, 0, 0⟩, false)
theorem playbackOf8_t (s : SetupD) (hs : s.playbacks.length ≤ mxl) (n : Int) : t_R8_playbackOf s n = some (playbackOf s n) := by
 unfold t_R8_playbackOf playbackOf
 rw [forE_find (p := fun p => decide (p.number = n)) (r := fun p => (p, true)) hs (by intro i x _; simp only [decide_eq_true_eq, ite_pure])]
 cases s.playbacks.find? fun p => decide (p.number = n) <;> rfl
theorem playbackOf_has (s : SetupD) (n : Int) : (playbackOf s n).2 = hasPlay s n := by
 unfold playbackOf hasPlay
 cases h : s.playbacks.find? fun x => decide (x.number = n) with
 | none =>
  symm
  rw [Bool.eq_false_iff]
  intro k
  obtain ⟨x, hx, hp⟩ := List.any_eq_true.1 k
  have := List.find?_eq_none.1 h x hx
  exact this hp
 | some x =>
  symm
  have hx := List.find?_some h
  exact List.any_eq_true.2 ⟨x, List.mem_of_find?_eq_some h, by simpa using hx⟩
theorem At_t (l : List CueD) (hl : l.length ≤ mxl) (n : Int) : t_R5_At l n = some (idxI (fun c => decide (c.number = n)) l) := by
 unfold t_R5_At
 rw [forE_idx (p := fun c => decide (c.number = n)) hl (by intro i x _; simp only [decide_eq_true_eq, ite_pure])]
 split
 ·rename_i h; rw [h]
 ·rfl
/-- The cues of a playback. -/
def cuesF (s : SetupD) (n : Int) : List CueD := (listOf s.lists (playbackOf s n).1.list).1.cues
theorem setupF_play {s : SetupD} (h : setupF s = 0) : ∀ p ∈ s.playbacks, (listOf s.lists p.list).2 = true := by
 intro p hp
 unfold setupF at h
 by_cases h0 : presetsF s.rig s.presets = 0
 case neg => rw [if_pos h0] at h; exact absurd h h0
 by_cases h1 : 30 < (s.lists.length : Int)
 ·simp [h0, h1] at h
 by_cases h2 : chkE (listEF s) s.lists 0 = 0
 case neg => simp [h0, h1, h2] at h
 by_cases h3 : 40 < (s.playbacks.length : Int)
 ·simp [h0, h1, h2, h3] at h
 simp only [h0, h1, h2, h3, not_true_eq_false, if_false] at h
 obtain ⟨i, hi⟩ := List.mem_iff_getElem?.1 hp
 have := (chkE_zero _ _).1 h i p hi
 unfold playF at this
 cases hl : (listOf s.lists p.list).2
 ·rw [hl] at this
  split at this
  ·cases this
  split at this
  ·cases this
  simp at this
 ·rfl
theorem cuesOf_t (s : SetupD) (h1 : s.playbacks.length ≤ mxl) (h2 : s.lists.length ≤ mxl) (n : Int) (h : setupF s = 0) (hp : hasPlay s n = true) : t_stamp_cuesOf s n = some (cuesF s n) := by
 unfold t_stamp_cuesOf
 rw [forE_some (q := fun e => s.lists.findSome? fun x => if e.number = n ∧ x.number = e.list then some x.cues else none) h1 ?_]
 ·rw [← playbackOf_has] at hp
  unfold cuesF
  have hex := setupF_play h
  unfold playbackOf at hp ⊢
  cases hf : s.playbacks.find? fun x => decide (x.number = n) with
  | none => rw [hf] at hp; cases hp
  | some p =>
   simp only
   have key : ∀ (l : List PlaybackD), (∀ x ∈ l, (listOf s.lists x.list).2 = true) → l.find? (fun x => decide (x.number = n)) = some p → (l.findSome? fun e => s.lists.findSome? fun x => if e.number = n ∧ x.number = e.list then some x.cues else none) = some (listOf s.lists p.list).1.cues := by
    intro l
    induction l with
    | nil => intro _ h; cases h
    | cons x l ih =>
     intro hex hf
     rw [List.find?_cons] at hf
     rw [List.findSome?_cons]
     by_cases hx : x.number = n
     ·simp only [hx, decide_true] at hf
      injection hf with hf
      subst hf
      have hl := hex x (by simp)
      unfold listOf at hl ⊢
      have inner : ∀ (m : List ListD), (m.findSome? fun y => if x.number = n ∧ y.number = x.list then some y.cues else none) = (m.find? fun y => decide (y.number = x.list)).map (·.cues) := by
       intro m
       induction m with
       | nil => rfl
       | cons y m ihm =>
        rw [List.findSome?_cons, List.find?_cons]
        by_cases hy : y.number = x.list
        ·simp [hx, hy]
        ·simp only [hy, and_false, if_false, decide_false]; exact ihm
      rw [inner]
      cases hq : s.lists.find? fun y => decide (y.number = x.list) with
      | none => rw [hq] at hl; cases hl
      | some y => rfl
     ·have e : (s.lists.findSome? fun y => if x.number = n ∧ y.number = x.list then some y.cues else none) = none := by
       rw [List.findSome?_eq_none_iff]
       intro y _
       simp [hx]
      rw [e]
      simp only [hx, decide_false] at hf
      exact ih (fun y hy => hex y (by simp [hy])) hf
   rw [key s.playbacks hex hf]
 ·intro i e he
  rw [forE_some (q := fun x => if e.number = n ∧ x.number = e.list then some x.cues else none) h2 ?_]
  ·cases s.lists.findSome? fun x => if e.number = n ∧ x.number = e.list then some x.cues else none <;> rfl
  ·intro j x hx
   by_cases h1 : e.number = n <;> by_cases h2 : x.number = e.list <;> simp [h1, h2]
def jumpB (s : SetupD) (a : ActionD) : Bool := (cuesF s a.playback).any fun c => decide (c.number = a.cue)
def actF (s : SetupD) (a : ActionD) : Int :=
 if fieldsF a = 4 then fieldsF a
 else if ((decide (¬ (fieldsF a = 0))) || (decide (¬ (a.time = 0)))) = true then 3
 else if ((decide (a.kind < 8)) && (!hasPlay s a.playback)) = true then 8
 else if ¬ (levelFormF a = 0) then levelFormF a
 else if a.kind = 3 then (if jumpB s a = true then 0 else 8) else 0
theorem listOf_len {s : SetupD} (hs : okL okList s.lists) (n : Int) : (listOf s.lists n).1.cues.length ≤ mxl := by
 unfold listOf
 cases h : s.lists.find? fun x => decide (x.number = n) with
 | none => exact Nat.zero_le _
 | some x => exact (hs.2 x (List.mem_of_find?_eq_some h)).2.1
theorem checkAction8_t (s : SetupD) (hs : okSetup s) (a : ActionD) : t_R8_checkAction s a = some (actF s a) := by
 obtain ⟨hr, hp, hl, hb⟩ := hs
 unfold t_R8_checkAction actF
 simp only [ActionForm_t, Option.bind_some, playbackOf8_t s hb.1, LevelForm_t, ListOf6_t s.lists hl.1, At_t _ (listOf_len hl _), playbackOf_has]
 split
 ·rfl
 split
 ·rfl
 split
 ·rfl
 split
 ·rfl
 split
 ·have e := idxI_any (fun c : CueD => decide (c.number = a.cue)) (listOf s.lists (playbackOf s a.playback).1.list).1.cues
  unfold jumpB cuesF
  rw [← e]
  by_cases h : idxI (fun c : CueD => decide (c.number = a.cue)) (listOf s.lists (playbackOf s a.playback).1.list).1.cues < 0
  ·have h' : ¬ (0 ≤ idxI (fun c : CueD => decide (c.number = a.cue)) (listOf s.lists (playbackOf s a.playback).1.list).1.cues) := by omega
   simp [h, h']
  ·have h' : 0 ≤ idxI (fun c : CueD => decide (c.number = a.cue)) (listOf s.lists (playbackOf s a.playback).1.list).1.cues := by omega
   simp [h, h']
 ·rfl
/-- The program's order of tests of an action. -/
theorem act_eq (s : SetupD) (a : ActionD) : (if ¬ (fieldsF a = 0) then fieldsF a else if ¬ ((if decide (¬ (a.time = 0)) = true then (3 : Int) else 0) = 0) then (if decide (¬ (a.time = 0)) = true then (3 : Int) else 0) else rangesPF s a) = if fieldsF a = 4 then fieldsF a
 else if ((decide (¬ (fieldsF a = 0))) || (decide (¬ (a.time = 0)))) = true then 3
 else if ((decide (a.kind < 8)) && (!hasPlay s a.playback)) = true then 8
 else if ¬ (levelFormF a = 0) then levelFormF a else 0 := by
 have hf : fieldsF a = 4 ∨ fieldsF a = 3 ∨ fieldsF a = 0 := by
  unfold fieldsF; split
  ·exact .inl rfl
  split
  ·exact .inr (.inl rfl)
  ·exact .inr (.inr rfl)
 rcases hf with h | h | h
 ·simp [h]
 ·simp [h]
 by_cases ht : a.time = 0
 case neg => simp [h, ht]
 simp only [h, ht, not_true_eq_false, if_false, decide_false, Bool.false_eq_true, Bool.or_self, show ¬ ((0 : Int) = 4) by decide]
 unfold fieldsF at h
 split at h
 ·cases h
 rename_i hk
 split at h
 ·cases h
 rename_i hz
 have hk' : 1 ≤ a.kind ∧ a.kind ≤ 9 := by simpa [withinB] using hk
 have e8 : (!(decide (a.kind = 8) || decide (a.kind = 9))) = decide (a.kind < 8) := by
  rw [Bool.eq_iff_iff]
  simp only [Bool.not_eq_true', Bool.or_eq_false_iff, decide_eq_false_iff_not, decide_eq_true_eq]
  omega
 unfold rangesPF
 rw [e8]
 split
 ·rfl
 have hlev : a.kind < 6 → a.level = 0 := by
  intro hlt
  simp only [Bool.or_eq_true, Bool.and_eq_true, decide_eq_true_eq, not_or, not_and, Decidable.not_not] at hz
  exact hz.2 (by omega)
 unfold levelFormF mostF
 rcases (show a.kind < 6 ∨ a.kind = 6 ∨ a.kind = 7 ∨ a.kind = 8 ∨ a.kind = 9 by omega) with q | q | q | q | q
 ·rw [hlev q]
  have e1 : ¬ a.kind = 6 := by omega
  have e2 : ¬ a.kind = 7 := by omega
  have e3 : ¬ a.kind = 8 := by omega
  have e4 : ¬ a.kind = 9 := by omega
  simp [e1, e2, e3, e4, withinB]
 ·simp only [q]; cases hw : withinB a.level 0 36000000 <;> simp [hw]
 ·simp only [q]; cases hw : withinB a.level 0 65535 <;> simp [hw]
 ·simp only [q]; cases hw : withinB a.level 0 65535 <;> simp [hw]
 ·simp only [q]; cases hw : withinB a.level 0 1 <;> simp [hw]
def eventF (s : SetupD) (d : Int) (l : List EventD) (i : Nat) (e : EventD) : Int :=
 if (!(withinB e.att 0 (IntKind.i64.wrap (d - 1)))) = true then 1
 else if (decide (0 < (i : Int)) && decide (e.att < (pv l i).att)) = true then 7
 else if ¬ (actF s e.action = 0) then actF s e.action else 0
def eventsF (s : SetupD) (r : Int) (l : List EventD) : Int :=
 if ¬ (setupF s = 0) then setupF s else if cntF r = 0 then 16 else if 2000 < (l.length : Int) then 2 else chkE (eventF s (dayF r) l) l 0
theorem CheckEvents8_t (s : SetupD) (hs : okSetup s) (r : Int) (l : List EventD) (hl : l.length ≤ mxl) : t_R8_CheckEvents s r l = some (eventsF s r l) := by
 unfold t_R8_CheckEvents eventsF
 simp only [CheckSetup6_t s hs, counted8_t, Option.bind_some]
 split
 ·rfl
 split
 ·rfl
 rename_i hc
 split
 ·rfl
 rw [forE_chk (f := eventF s (dayF r) l) hl ?_]
 ·split
  ·rename_i h; rw [h]
  ·rfl
 intro i e he
 simp only [day8_t hc, Option.bind_some, prev_at he hl, checkAction8_t s hs]
 unfold eventF
 repeat first | exact ite_lastS | exact go_ret | refine ite_ret (by decide) ?_ | refine ite_retv ?_
theorem find4 {a b c d : Int} : (([a, b, c, d] : List Int).find? fun n => decide (¬ n = 0)).getD 0 = if ¬ (a = 0) then a else if ¬ (b = 0) then b else if ¬ (c = 0) then c else d := by
 by_cases ha : a = 0
 ·by_cases hb : b = 0
  ·by_cases hc : c = 0
   ·by_cases hd : d = 0 <;> simp [ha, hb, hc, hd, List.find?]
   ·simp [ha, hb, hc, List.find?]
  ·simp [ha, hb, List.find?]
 ·simp [ha, List.find?]
theorem CheckEvents_t (s : SetupD) (hs : okSetup s) (r : Int) (l : List EventD) (hl : l.length ≤ mxl) : t_stamp_CheckEvents s r l = some (eventsF s r l) := by
 obtain ⟨_, _, hli, hb⟩ := id hs
 unfold t_stamp_CheckEvents eventsF
 simp only [CheckSetup_t s hs, mode_t, Option.bind_some]
 rw [tq_pos (by show 3 ≤ mxl; unfold mxl; omega)]
 simp only [find3, Option.bind_some]
 by_cases h0 : setupF s = 0
 case neg => simp [h0]
 by_cases h1 : cntF r = 0
 ·simp [h0, modeF, h1]
 have hm : modeF r = 0 := by simp [modeF, h1]
 by_cases h2 : 2000 < (l.length : Int)
 ·simp [h0, h1, hm, h2]
 simp only [h0, h1, hm, h2, not_true_eq_false, if_false, decide_false, Bool.false_eq_true]
 rw [forE_chk (f := eventF s (dayF r) l) hl ?_]
 ·split
  ·rename_i h; rw [h]
  ·rfl
 intro i e he
 simp only [day_t h1, Option.bind_some, prev_at he hl]
 rw [tq_pos (by show 2 ≤ mxl; unfold mxl; omega)]
 simp only [find2, Option.bind_some, CheckFields_t, CheckRanges_t s hb.1]
 rw [tq_pos (by show 4 ≤ mxl; unfold mxl; omega)]
 simp only [find4, Option.bind_some, act_eq]
 unfold eventF
 by_cases c1 : withinB e.att 0 (IntKind.i64.wrap (dayF r - 1)) = true
 case neg => simp [c1]
 by_cases c2 : (decide (0 < (i : Int)) && decide (e.att < (pv l i).att)) = true
 ·simp only [c1, c2, Bool.not_true, Bool.false_eq_true, if_false, if_true, not_true_eq_false, not_false_eq_true, show ¬ ((7 : Int) = 0) by decide]
 simp only [c1, c2, Bool.not_true, Bool.false_eq_true, if_false, not_true_eq_false]
 unfold actF
 generalize (decide (¬ (fieldsF e.action = 0)) || decide (¬ (e.action.time = 0))) = b1
 generalize hb2 : (decide (e.action.kind < 8) && !hasPlay s e.action.playback) = b2
 by_cases d1 : fieldsF e.action = 4
 ·simp [d1]
 cases b1
 case true => simp [d1]
 cases b2
 case true => simp [d1]
 by_cases d4 : levelFormF e.action = 0
 case neg => simp [d1, d4]
 simp only [d1, d4, not_true_eq_false, if_false, if_true, Bool.false_eq_true]
 by_cases d5 : e.action.kind = 3
 case neg => simp [d5]
 have hp : hasPlay s e.action.playback = true := by
  rw [d5] at hb2
  simpa using hb2
 have hcl : (cuesF s e.action.playback).length ≤ mxl := listOf_len hli _
 simp only [d5, decide_true, if_true, cuesOf_t s hb.1 hli.1 _ h0 hp, Option.bind_some, tq_pos hcl, Bool.true_and]
 show (if (!jumpB s e.action) = true then _ else _) = _
 cases jumpB s e.action <;> simp
/-! ### The events of a stretch -/
def dueL (a b : Int) (l : List EventD) : List EventD := l.filter fun e => decide (a ≤ e.att) && decide (e.att < b)
def dueF (s : SetupD) (r : Int) (l : List EventD) (a b : Int) : List EventD × Int :=
 if ¬ (eventsF s r l = 0) then ([], eventsF s r l) else if 0 ≤ a ∧ a ≤ b ∧ b ≤ dayF r then (dueL a b l, 0) else ([], 1)
theorem eventsF_len {s : SetupD} {r : Int} {l : List EventD} (h : eventsF s r l = 0) : l.length ≤ 2000 ∧ cntF r ≠ 0 ∧ setupF s = 0 := by
 unfold eventsF at h
 by_cases h0 : setupF s = 0
 case neg => rw [if_pos h0] at h; exact absurd h h0
 by_cases h1 : cntF r = 0
 ·simp [h0, h1] at h
 by_cases h2 : 2000 < (l.length : Int)
 ·simp [h0, h1, h2] at h
 exact ⟨by omega, h1, h0⟩
theorem filter_fold {α : Type} (p : α → Bool) : ∀ (l acc : List α), l.foldl (fun s x => if p x = true then s ++ [x] else s) acc = acc ++ l.filter p
 | [], acc => by simp
 | x :: l, acc => by
  rw [List.foldl_cons, filter_fold p l, List.filter_cons]
  cases p x <;> simp
theorem due_loop {γ : Type} {l : List EventD} {a b : Int} (hl : l.length ≤ 2000) {body : Nat → EventD → List EventD → Option (Lr (List EventD) (List EventD) Unit)} {K1 : List EventD → Option γ} {K2 : Unit → Option γ}
  (hb : ∀ i e s, body i e s = (if (decide (a ≤ e.att) && decide (e.att < b)) = true then (if s.length + ([e] : List EventD).length ≤ 2932031007402 then some (s ++ [e]) else none) else some s).bind fun j => some (.go j)) :
  forE l body (fun s => some s) [] K1 K2 = K1 (dueL a b l) := by
 rw [forE_fold (fun s e => if (decide (a ≤ e.att) && decide (e.att < b)) = true then s ++ [e] else s) (fun i s => s.length ≤ i) (by unfold mxl; omega) (Nat.le_refl _) ?_ ?_]
 ·rw [filter_fold]; rfl
 ·intro i x s hx hs
  show List.length (if (decide (a ≤ x.att) && decide (x.att < b)) = true then s ++ [x] else s) ≤ i + 1
  split
  ·simp; omega
  ·omega
 ·intro i x s hx hs
  have hi := (List.getElem?_eq_some_iff.1 hx).1
  rw [hb]
  by_cases h : (decide (a ≤ x.att) && decide (x.att < b)) = true
  ·simp only [h, if_true]
   rw [if_pos (by simp; omega)]
   rfl
  ·simp only [h, if_false, Bool.false_eq_true]; rfl
theorem Due_t (s : SetupD) (hs : okSetup s) (r : Int) (l : List EventD) (hl : l.length ≤ mxl) (a b : Int) : t_stamp_Due s r l a b = some (dueF s r l a b) := by
 unfold t_stamp_Due t_stamp_due dueF
 simp only [CheckEvents_t s hs r l hl, Option.bind_some]
 by_cases h0 : eventsF s r l = 0
 case neg =>
  have hd : ∃ x, (if ((decide (0 ≤ a)) && (decide (a ≤ b))) = true then t_stamp_day r else some default) = some x := by
   split
   ·unfold t_stamp_day; split <;> exact ⟨_, rfl⟩
   ·exact ⟨_, rfl⟩
  obtain ⟨x, hx⟩ := hd
  simp only [hx, Option.bind_some]
  rw [tq_pos (by show 2 ≤ mxl; unfold mxl; omega)]
  simp [find2, h0]
 obtain ⟨h1, h2, _⟩ := eventsF_len h0
 simp only [day_t h2, bind_ite2]
 rw [tq_pos (by show 2 ≤ mxl; unfold mxl; omega)]
 simp only [find2, Option.bind_some, h0, not_true_eq_false, if_false]
 have e : (!(((decide (0 ≤ a)) && (decide (a ≤ b))) && (decide (b ≤ if ((decide (0 ≤ a)) && (decide (a ≤ b))) = true then dayF r else default)))) = decide (¬ (0 ≤ a ∧ a ≤ b ∧ b ≤ dayF r)) := by
  by_cases q1 : 0 ≤ a <;> by_cases q2 : a ≤ b <;> by_cases q3 : b ≤ dayF r <;> simp [q1, q2, q3] <;> omega
 rw [e]
 by_cases hq : 0 ≤ a ∧ a ≤ b ∧ b ≤ dayF r
 case neg => simp [hq]
 simp only [hq, not_true_eq_false, decide_false, Bool.false_eq_true, if_false, and_self, if_true]
 rw [due_loop (a := a) (b := b) h1 (fun i e s => rfl)]
 rfl
theorem Due8_t (s : SetupD) (hs : okSetup s) (r : Int) (l : List EventD) (hl : l.length ≤ mxl) (a b : Int) : t_R8_Due s r l a b = some (dueF s r l a b) := by
 unfold t_R8_Due dueF
 simp only [CheckEvents8_t s hs r l hl, Option.bind_some]
 by_cases h0 : eventsF s r l = 0
 case neg => simp [h0]
 obtain ⟨h1, h2, _⟩ := eventsF_len h0
 simp only [h0, not_true_eq_false, if_false, day8_t h2, bind_ite2]
 have e : (((decide (a < 0)) || (decide (b < a))) || (decide ((if (!((decide (a < 0)) || (decide (b < a)))) = true then dayF r else default) < b))) = decide (¬ (0 ≤ a ∧ a ≤ b ∧ b ≤ dayF r)) := by
  by_cases q1 : a < 0
  ·have : ¬ 0 ≤ a := by omega
   simp [q1, this]
  ·by_cases q2 : b < a
   ·have : ¬ a ≤ b := by omega
    simp [q1, q2, this]
   ·have q1' : 0 ≤ a := by omega
    have q2' : a ≤ b := by omega
    by_cases q3 : dayF r < b
    ·have q3' : ¬ b ≤ dayF r := by omega
     simp [q1, q2, q1', q2', q3, q3']
    ·have q3' : b ≤ dayF r := by omega
     simp [q1, q2, q1', q2', q3, q3']
 rw [e]
 by_cases hq : 0 ≤ a ∧ a ≤ b ∧ b ≤ dayF r
 case neg => simp [hq]
 simp only [hq, not_true_eq_false, decide_false, Bool.false_eq_true, if_false, and_self, if_true]
 rw [due_loop (a := a) (b := b) h1 (fun i e s => rfl)]
theorem EqualE_t (l : List EventD) (hl : l.length ≤ mxl) : t_slices_Equal_api_Event l l = some true := by
 unfold t_slices_Equal_api_Event
 simp only [not_true_eq_false, if_false]
 rw [forE_find (p := fun _ => false) (r := fun _ => ()) hl ?_]
 ·have : l.find? (fun _ => false) = none := by simp
  rw [this]
 ·intro i x hx
  have hi := (List.getElem?_eq_some_iff.1 hx).1
  rw [tIx_get (x := x) (by omega) (by simpa using hx)]
  simp
end Go.Proofs.Ytohbeolimnpehaa

/- What the functions of the package compute: written by a program from their code; that it is what the code does is shown elsewhere. -/
namespace Go.Proofs.Ytohbeolimnpehaa
set_option linter.unusedSectionVars false
set_option linter.unusedSimpArgs false
set_option linter.unusedVariables false
set_option maxRecDepth 100000
noncomputable def r_W8_StampDueMatchesSpec (a0 a1 a2 a3 a4 : AV) (σ : Heap) : Option (AV × Heap) :=
 (A.cells 5 a0).bind fun c1 =>
 (A.partA 0 5 c1).bind fun x2 =>
 (m_stamp_Due [x2, a1, a2, a3, a4] σ).bind fun r3 =>
 (A.ext 0 r3.1).bind fun x4 =>
 (A.ext 1 r3.1).bind fun x5 =>
 (A.partA 0 5 c1).bind fun x6 =>
 (m_R8_Due [x6, a1, a2, a3, a4] r3.2).bind fun r7 =>
 (A.ext 0 r7.1).bind fun x8 =>
 (A.ext 1 r7.1).bind fun x9 =>
 (m_slices_Equal_api_Event [x4, x8] r7.2).bind fun r10 =>
 (A.guard r10.1 true (some x5) (some (AV.tup []))).bind fun x11 =>
 (A.guard r10.1 true (some x9) (some (AV.tup []))).bind fun x12 =>
 (A.guard r10.1 true (A.eql .i x11 x12) (some (AV.tup []))).bind fun x13 =>
 (A.pick r10.1 x13 (AV.bool false)).bind fun x14 =>
 A.fin σ x14 r10.2
noncomputable def m_W8_StampDueMatchesSpec : List AV → Heap → Option (AV × Heap) := A.wrap true [(.a [(.s 3), (.s 4), (.s 3), (.s 2), (.s 3)]), .k, (.s 6)] .k (A.ar5 r_W8_StampDueMatchesSpec)
end Go.Proofs.Ytohbeolimnpehaa

/- Typed runs, written by a program. -/
namespace Go.Proofs.Ytohbeolimnpehaa
set_option linter.unusedSectionVars false
set_option linter.unusedVariables false
set_option linter.unusedSimpArgs false
set_option maxRecDepth 100000
noncomputable def t_W8_StampDueMatchesSpec (a0 : SetupD) (a1 : Int) (a2 : (List EventD)) (a3 : Int) (a4 : Int) : Option Bool :=
 (t_stamp_Due a0 a1 a2 a3 a4).bind fun r1 =>
 (t_R8_Due a0 a1 a2 a3 a4).bind fun r2 =>
 (t_slices_Equal_api_Event r1.1 r2.1).bind fun r3 =>
 some (r3 && (decide (r1.2 = r2.2)))
theorem h_W8_StampDueMatchesSpec {a0 : SetupD} { a1 : Int} { a2 : (List EventD)} { a3 : Int} { a4 : Int} {σ : Heap} {r : Bool} (h : t_W8_StampDueMatchesSpec a0 a1 a2 a3 a4 = some r) : m_W8_StampDueMatchesSpec [(AV.agg (cSetup a0)), (AV.int .i64 a1), (sl 6 cEvent a2), (AV.int .i64 a3), (AV.int .i64 a4)] σ = some ((AV.bool r), σ) := by
 refine rf_wrap5 (f := r_W8_StampDueMatchesSpec) (y0 := (AV.agg (cSetup a0))) (y1 := (AV.int .i64 a1)) (y2 := (sl 6 cEvent a2)) (y3 := (AV.int .i64 a3)) (y4 := (AV.int .i64 a4)) (enc := fun r : Bool => (AV.bool r)) (T := t_W8_StampDueMatchesSpec a0 a1 a2 a3 a4) rfl rfl ?_ r h
 unfold r_W8_StampDueMatchesSpec t_W8_StampDueMatchesSpec
 refine rf_s (cSetup a0) rfl ?_
 refine rf_s (AV.agg (cSetup a0)) rfl ?_
 refine rf_o (fun r1 : ((List EventD) × Int) => ((AV.tup [(sl 6 cEvent r1.1), (AV.int .i64 r1.2)]), σ)) (fun r1 hr1 => h_stamp_Due hr1) (fun r1 hr1 => ?_)
 refine rf_s (sl 6 cEvent r1.1) rfl ?_
 refine rf_s (AV.int .i64 r1.2) rfl ?_
 refine rf_s (AV.agg (cSetup a0)) rfl ?_
 refine rf_o (fun r2 : ((List EventD) × Int) => ((AV.tup [(sl 6 cEvent r2.1), (AV.int .i64 r2.2)]), σ)) (fun r2 hr2 => h_R8_Due hr2) (fun r2 hr2 => ?_)
 refine rf_s (sl 6 cEvent r2.1) rfl ?_
 refine rf_s (AV.int .i64 r2.2) rfl ?_
 refine rf_o (fun r3 : Bool => ((AV.bool r3), σ)) (fun r3 hr3 => h_slices_Equal_api_Event hr3) (fun r3 hr3 => ?_)
 refine rf_gt (AV.int .i64 r1.2) (fun hg => by
   exact rfl) ?_
 refine rf_gt (AV.int .i64 r2.2) (fun hg => by
   exact rfl) ?_
 refine rf_gt (AV.bool (decide (r1.2 = r2.2))) (fun hg => by
   first | exact (aEq _ _ _) | (simp only [hg, Bool.true_and, Bool.and_true, cond_true, hg]; first | done | exact (aEq _ _ _))) ?_
 refine rf_s (AV.bool (r3 && (decide (r1.2 = r2.2)))) (pk_and _ _) ?_
 exact rf_fin _ (fin_same _ _) ⟨rfl, rfl⟩
end Go.Proofs.Ytohbeolimnpehaa

/- The events of a stretch are as specified. -/
namespace Go.Proofs.Ytohbeolimnpehaa
set_option linter.unusedSectionVars false
set_option linter.unusedSimpArgs false
set_option linter.unusedVariables false
theorem dueF_len {s : SetupD} {r : Int} {l : List EventD} {a b : Int} (hl : l.length ≤ mxl) : (dueF s r l a b).1.length ≤ mxl := by
 unfold dueF
 split
 ·exact Nat.zero_le _
 split
 ·exact Nat.le_trans (List.length_filter_le _ _) hl
 ·exact Nat.zero_le _
theorem stampDueMatchesSpec_true (s : SetupD) (r : Int) (l : List EventD) (a b : Int) (hs : okSetup s) (_ : inI r) (hl : okL okEvent l) (_ : inI a) (_ : inI b) : t_W8_StampDueMatchesSpec s r l a b = some true := by
 unfold t_W8_StampDueMatchesSpec
 simp only [Due_t s hs r l hl.1, Due8_t s hs r l hl.1, Option.bind_some, EqualE_t _ (dueF_len hl.1), decide_true, if_true, Bool.and_self]
end Go.Proofs.Ytohbeolimnpehaa

/- The names of the functions as values. -/
namespace Go.Proofs.Ytohbeolimnpehaa
set_option linter.unusedSectionVars false
set_option linter.unusedSimpArgs false
set_option linter.unusedVariables false
noncomputable def nmT : List Nat := [0, 0, 0, 174, 0, 162, 172, 173, 175, 0, 161, 171, 165, 149, 150, 0, 14, 160, 13, 137, 163, 4, 170, 164, 148, 144, 1, 151, 155, 159, 156, 157, 94, 135, 136, 166, 167, 168, 169, 139, 143, 129, 154, 152, 158, 88, 89, 92, 5, 93, 134, 7, 130, 69, 71, 73, 2, 138, 142, 70, 3, 128, 127, 153, 85, 86, 87, 90, 91, 131, 133, 6, 63, 66, 67, 68, 72, 0, 125, 126, 141, 84, 132, 62, 65, 64, 0, 59, 140, 81, 83, 60, 61, 0, 58, 80, 82, 53, 52, 0, 0, 0, 0, 0, 0, 0, 0, 0, 0, 0, 0, 0, 0, 0, 0]
end Go.Proofs.Ytohbeolimnpehaa

/- Functions of the library: their contracts, off the shelf, as the abstract run needs them. -/
namespace Go.Proofs.Ytohbeolimnpehaa
set_option linter.unusedSectionVars false
set_option linter.unusedSimpArgs false
open Go.RowKit
set_option linter.unusedVariables false
/-- A call that leaves memory as it was, and yields a value without addresses. -/
theorem ACalls.same {P : Program} {nm : List Nat} {f : FuncId} {args : List AV} {σ : Heap} {r : AV} (hc : ∀ us w, (callFunc f us).run P w = .ok (.enter f us) w)
  (h : ∀ (c : RC) (vs : Array Value) (w : World), RepL c args vs.toList → Calls P f vs w fun e w' => ∃ v, e = .returned v ∧ Below w.heap.size w w' ∧ ∀ c', Rep c' r v) : ACalls P nm f args σ r σ := by
 refine ⟨f, hc, fun z vs e1 e2 hh ha => (h _ vs z.w ha).mono ?_⟩
 rintro e w' ⟨v, k1, k2, k3⟩
 have ho : Out z z.w z.E := ⟨rfl, rfl, rfl, Nat.le_refl _, fun _ _ _ => rfl, fun i p hp => .inr ⟨p, hp, rfl⟩, fun i p hp => ⟨p, hp, .inl rfl⟩, e2, fun p hp => hh.lt hp⟩
 exact ⟨v, z.E, k1, ho.grow k2, hh.mono (grow_ext k2) rfl (fun p hp => k2.block _ (hh.lt hp)), k3 _⟩
theorem repL2 {c : RC} {a b : AV} {vs : Array Value} (h : RepL c [a, b] vs.toList) : ∃ v u, vs = #[v, u] ∧ Rep c a v ∧ Rep c b u := by
 simp only [RepL] at h
 obtain ⟨v, vs', e, h1, u, vs2, e2, h2, e3⟩ := h
 refine ⟨v, u, ?_, h1, h2⟩
 subst e3; subst e2
 cases vs; simp at e; simp [e]
theorem s_strings_Compare : Sound Try.prog nmT 77 m_strings_Compare := by
 intro args σ r σ' h
 unfold m_strings_Compare A.ar2 at h
 split at h
 ·simp only at h
  split at h
  ·simp only [Option.some.injEq, Prod.mk.injEq] at h
   obtain ⟨rfl, rfl⟩ := h
   refine ACalls.same Try.call77 fun c vs w hr => ?_
   obtain ⟨v, u, rfl, h1, h2⟩ := repL2 hr
   simp only [Rep] at h1 h2
   subst h1 h2
   refine (Try.strings_Compare _ _ w).mono ?_
   rintro e w' ⟨rfl, rfl⟩
   exact ⟨_, rfl, Below.refl _ _, fun c' => by simp [Rep]⟩
  ·cases h
 ·cases h
end Go.Proofs.Ytohbeolimnpehaa

/- That the code of each function computes what its mirror says. Written by a program. -/
namespace Go.Proofs.Ytohbeolimnpehaa
set_option linter.unusedSectionVars false
set_option maxRecDepth 100000
set_option linter.unusedVariables false
set_option linter.unusedSimpArgs false
noncomputable def x_word_Row : Fx := ⟨Try.prog, nmT, A.tab (fun _ _ => none) [], (fun _ _ _ => none), [], [], 35⟩
theorem w_word_Row : Sound Try.prog nmT 94 (A.wrap true [] .k (A.ar1 (r_word_Row))) :=
 Sound.wrap (Sound.run1 (X := x_word_Row) (fn := Try.f94) (ann := (.s .n (.s (.s .n (.b (.l [2, 7] [.exit 0, .ret] (.s .n (.s (.j .n .n) (.s (.b (.s .n (.s .n (.s .n (.j (.s .n .n) .n))))) .n)))))) (.s .n .n)))) false (Snd.of rfl All.nil (fun _ => Sound.none)) Try.func94 Try.call94 (fun a0 σ => by kernel_rfl)) _ _ _ rfl rfl
theorem s_word_Row : Sound Try.prog nmT 94 m_word_Row := w_word_Row
noncomputable def x_word_Name : Fx := ⟨Try.prog, nmT, A.tab (fun _ _ => none) [(94, m_word_Row)], (fun _ _ _ => none), [], [], 20⟩
theorem w_word_Name : Sound Try.prog nmT 87 (A.wrap true [] .k (A.ar1 (r_word_Name))) :=
 Sound.wrap (Sound.run1 (X := x_word_Name) (fn := Try.f87) (ann := (.s .n (.s .n .n))) false (Snd.of rfl (All.cons s_word_Row All.nil) (fun _ => Sound.none)) Try.func87 Try.call87 (fun a0 σ => by kernel_rfl)) _ _ _ rfl rfl
theorem s_word_Name : Sound Try.prog nmT 87 m_word_Name := w_word_Name
noncomputable def x_word_Within : Fx := ⟨Try.prog, nmT, A.tab (fun _ _ => none) [], (fun _ _ _ => none), [], [], 15⟩
theorem w_word_Within : Sound Try.prog nmT 26 (A.wrap true [] .k (A.ar3 (r_word_Within))) :=
 Sound.wrap (Sound.run3 (X := x_word_Within) (fn := Try.f26) (ann := (.s .n (.s .n .n))) false (Snd.of rfl All.nil (fun _ => Sound.none)) Try.func26 Try.call26 (fun a0 a1 a2 σ => by kernel_rfl)) _ _ _ rfl rfl
theorem s_word_Within : Sound Try.prog nmT 26 m_word_Within := w_word_Within
noncomputable def x_fixture_isLevel : Fx := ⟨Try.prog, nmT, A.tab (fun _ _ => none) [(26, m_word_Within)], (fun _ _ _ => none), [], [], 5⟩
theorem w_fixture_isLevel : Sound Try.prog nmT 91 (A.wrap true [] .k (A.ar1 (r_fixture_isLevel))) :=
 Sound.wrap (Sound.run1 (X := x_fixture_isLevel) (fn := Try.f91) (ann := (.s .n (.s .n .n))) false (Snd.of rfl (All.cons s_word_Within All.nil) (fun _ => Sound.none)) Try.func91 Try.call91 (fun a0 σ => by kernel_rfl)) _ _ _ rfl rfl
theorem s_fixture_isLevel : Sound Try.prog nmT 91 m_fixture_isLevel := w_fixture_isLevel
noncomputable def x_fixture_checkRanges : Fx := ⟨Try.prog, nmT, A.tab (fun _ _ => none) [(91, m_fixture_isLevel), (87, m_word_Name)], (fun _ _ _ => none), [5], [], 63⟩
theorem w_fixture_checkRanges : Sound Try.prog nmT 92 (A.wrap true [(.s 3)] .k (A.ar1 (r_fixture_checkRanges))) :=
 Sound.wrap (Sound.run1 (X := x_fixture_checkRanges) (fn := Try.f92) (ann := (.s .n (.s (.s .n (.j (.s .n .n) .n)) (.s .n (.s (.s .n (.b (.l [2, 12] [.exit 0, .ret] (.s .n (.s (.j .n .n) (.s (.b (.s .n (.s (.b (.s .n (.j (.s .n .n) (.s .n (.j (.s .n .n) (.s .n (.j (.s .n .n) (.s .n (.j (.s .n .n) .n))))))))) .n))) .n)))))) (.s .n .n)))))) false (Snd.of rfl (All.cons s_fixture_isLevel (All.cons s_word_Name All.nil)) (fun _ => Sound.none)) Try.func92 Try.call92 (fun a0 σ => by kernel_rfl)) _ _ _ rfl rfl
theorem s_fixture_checkRanges : Sound Try.prog nmT 92 m_fixture_checkRanges := w_fixture_checkRanges
noncomputable def x_fixture_CheckProfile : Fx := ⟨Try.prog, nmT, A.tab (fun _ _ => none) [(87, m_word_Name), (26, m_word_Within), (91, m_fixture_isLevel), (92, m_fixture_checkRanges)], (fun _ _ _ => none), [1, 6], [], 115⟩
theorem w_fixture_CheckProfile : Sound Try.prog nmT 83 (A.wrap true [(.a [.k, .k, (.s 7)])] .k (A.ar1 (r_fixture_CheckProfile))) :=
 Sound.wrap (Sound.run1 (X := x_fixture_CheckProfile) (fn := Try.f83) (ann := (.s .n (.s (.b (.s .n (.j (.s .n .n) (.s .n (.j (.s .n .n) (.s .n (.j (.s .n .n) (.s .n (.j (.s .n .n) .n))))))))) (.s .n (.s (.s .n (.b (.l [1, 2, 33] [.exit 1, .ret] (.s .n (.s (.j .n .n) (.s (.b (.s .n (.s (.b (.s .n (.j (.s .n .n) (.s .n (.j (.s .n .n) (.s .n (.j (.s .n .n) (.s .n (.j (.s .n .n) (.s .n (.j (.s .n .n) .n))))))))))) (.s (.s .n (.s .n (.j (.s .n .n) .n))) (.s .n (.s .n (.c [1] .n .n))))))) .n)))))) (.s .n .n)))))) false (Snd.of rfl (All.cons s_word_Name (All.cons s_word_Within (All.cons s_fixture_isLevel (All.cons s_fixture_checkRanges All.nil)))) (fun _ => Sound.none)) Try.func83 Try.call83 (fun a0 σ => by kernel_rfl)) _ _ _ rfl rfl
theorem s_fixture_CheckProfile : Sound Try.prog nmT 83 m_fixture_CheckProfile := w_fixture_CheckProfile
noncomputable def x_fixture_CheckLibrary : Fx := ⟨Try.prog, nmT, A.tab (fun _ _ => none) [(83, m_fixture_CheckProfile)], (fun _ _ _ => none), [5], [], 30⟩
theorem w_fixture_CheckLibrary : Sound Try.prog nmT 72 (A.wrap true [(.s 3)] .k (A.ar1 (r_fixture_CheckLibrary))) :=
 Sound.wrap (Sound.run1 (X := x_fixture_CheckLibrary) (fn := Try.f72) (ann := (.s .n (.s (.s .n (.j (.s .n .n) .n)) (.s .n (.s (.s .n (.b (.l [2, 13] [.exit 0, .ret] (.s .n (.s (.j .n .n) (.s (.b (.s .n (.s (.s .n (.s .n (.j (.s .n .n) .n))) (.s (.s .n (.j (.s .n .n) .n)) .n)))) .n)))))) (.s .n .n)))))) false (Snd.of rfl (All.cons s_fixture_CheckProfile All.nil) (fun _ => Sound.none)) Try.func72 Try.call72 (fun a0 σ => by kernel_rfl)) _ _ _ rfl rfl
theorem s_fixture_CheckLibrary : Sound Try.prog nmT 72 m_fixture_CheckLibrary := w_fixture_CheckLibrary
noncomputable def x_slices_IndexFunc_api_Profile (dyn : Nat → List AV → Heap → Option (AV × Heap)) : Fx := ⟨Try.prog, nmT, A.tab (fun _ _ => none) [], dyn, [], [], 19⟩
theorem w_slices_IndexFunc_api_Profile (dyn : Nat → List AV → Heap → Option (AV × Heap)) (hd : ∀ f, Sound Try.prog nmT f (dyn (nmT.getD f 0))) : Sound Try.prog nmT 84 (A.wrap true [(.s 3)] .k (A.ar2 (r_slices_IndexFunc_api_Profile dyn))) :=
 Sound.wrap (Sound.run2 (X := x_slices_IndexFunc_api_Profile dyn) (fn := Try.f84) (ann := (.s .n (.s (.s .n (.b (.l [4, 8] [.exit 0, .ret] (.s .n (.s (.j .n .n) (.s (.b (.s .n (.s .n (.j (.s .n .n) .n)))) .n)))))) (.s .n .n)))) false (Snd.of rfl All.nil (hd)) Try.func84 Try.call84 (fun a0 a1 σ => by kernel_rfl)) _ _ _ rfl rfl
theorem s_slices_IndexFunc_api_Profile (dyn : Nat → List AV → Heap → Option (AV × Heap)) (hd : ∀ f, Sound Try.prog nmT f (dyn (nmT.getD f 0))) : Sound Try.prog nmT 84 (m_slices_IndexFunc_api_Profile dyn) := w_slices_IndexFunc_api_Profile dyn hd
noncomputable def x_fixture_profile_fn1 : Fx := ⟨Try.prog, nmT, A.tab (fun _ _ => none) [], (fun _ _ _ => none), [2], [], 8⟩
theorem w_fixture_profile_fn1 : Sound Try.prog nmT 85 (A.wrap true [(.a [.k, .k, (.s 7)])] .k (A.ar2 (r_fixture_profile_fn1))) :=
 Sound.wrap (Sound.run2 (X := x_fixture_profile_fn1) (fn := Try.f85) (ann := (.s .n (.s .n .n))) false (Snd.of rfl All.nil (fun _ => Sound.none)) Try.func85 Try.call85 (fun a0 a1 σ => by kernel_rfl)) _ _ _ rfl rfl
theorem s_fixture_profile_fn1 : Sound Try.prog nmT 85 m_fixture_profile_fn1 := w_fixture_profile_fn1
noncomputable def x_fixture_profile : Fx := ⟨Try.prog, nmT, A.tab (fun _ _ => none) [(84, m_slices_IndexFunc_api_Profile (A.tab (fun _ _ => none) [(64, m_fixture_profile_fn1), (64, m_fixture_profile_fn1)]))], (A.tab (fun _ _ => none) [(64, m_fixture_profile_fn1), (64, m_fixture_profile_fn1)]), [4], [], 17⟩
theorem w_fixture_profile : Sound Try.prog nmT 73 (A.wrap true [(.s 3)] (.t [(.a [.k, .k, (.e 7 [.k, .k, .k, .k, .k, .k, (.s 3)])]), .k]) (A.ar2 (r_fixture_profile))) :=
 Sound.wrap (Sound.run2 (X := x_fixture_profile) (fn := Try.f73) (ann := (.s .n (.s .n (.s (.s .n (.j (.s .n .n) .n)) (.s .n .n))))) false (Snd.of rfl (All.cons (s_slices_IndexFunc_api_Profile _ (dyn_of (DAll.cons (nm_sound s_fixture_profile_fn1 (by kernel_rfl) rfl) (DAll.cons (nm_sound s_fixture_profile_fn1 (by kernel_rfl) rfl) DAll.nil)))) All.nil) (dyn_of (DAll.cons (nm_sound s_fixture_profile_fn1 (by kernel_rfl) rfl) (DAll.cons (nm_sound s_fixture_profile_fn1 (by kernel_rfl) rfl) DAll.nil)))) Try.func73 Try.call73 (fun a0 a1 σ => by kernel_rfl)) _ _ _ rfl rfl
theorem s_fixture_profile : Sound Try.prog nmT 73 m_fixture_profile := w_fixture_profile
noncomputable def x_fixture_slots_free : Fx := ⟨Try.prog, nmT, A.tab (fun _ _ => none) [], (fun _ _ _ => none), [], [], 32⟩
theorem w_fixture_slots_free : Sound Try.prog nmT 74 (A.wrap true [] .k (A.ar3 (r_fixture_slots_free))) :=
 Sound.wrap (Sound.run3 (X := x_fixture_slots_free) (fn := Try.f74) (ann := (.s .n (.s (.s .n (.j (.s .n .n) .n)) (.s (.s .n (.b (.l [6, 7] [.exit 0, .ret] (.s (.s .n (.j .n .n)) (.s (.b (.s .n (.j (.s .n .n) .n))) .n))))) (.s .n .n))))) false (Snd.of rfl All.nil (fun _ => Sound.none)) Try.func74 Try.call74 (fun a0 a1 a2 σ => by kernel_rfl)) _ _ _ rfl rfl
theorem s_fixture_slots_free : Sound Try.prog nmT 74 m_fixture_slots_free := w_fixture_slots_free
noncomputable def x_fixture_take : Fx := ⟨Try.prog, nmT, A.tab (fun _ _ => none) [], (fun _ _ _ => none), [4], [15], 33⟩
theorem w_fixture_take : Sound Try.prog nmT 75 (A.wrap false [] .k (A.ar3 (r_fixture_take))) :=
 Sound.wrap (Sound.run3 (X := x_fixture_take) (fn := Try.f75) (ann := (.s .n (.s (.s .n (.c [4] .n .n)) (.s .n (.b (.l [4, 6] [.exit 0] (.s (.s .n (.j .n .n)) (.s (.b .n) .n)))))))) true (Snd.of rfl All.nil (fun _ => Sound.none)) Try.func75 Try.call75 (fun a0 a1 a2 σ => by kernel_rfl)) _ _ _ rfl rfl
theorem s_fixture_take : Sound Try.prog nmT 75 m_fixture_take := w_fixture_take
noncomputable def x_fixture_CheckRig : Fx := ⟨Try.prog, nmT, A.tab (fun _ _ => none) [(72, m_fixture_CheckLibrary), (26, m_word_Within), (73, m_fixture_profile), (74, m_fixture_slots_free), (75, m_fixture_take)], (fun _ _ _ => none), [1, 6, 7], [], 91⟩
theorem w_fixture_CheckRig : Sound Try.prog nmT 53 (A.wrap true [(.a [(.s 3), (.s 4)])] .k (A.ar1 (r_fixture_CheckRig))) :=
 Sound.wrap (Sound.run1 (X := x_fixture_CheckRig) (fn := Try.f53) (ann := (.s .n (.s (.s .n (.s .n (.j (.s .n .n) .n))) (.s (.s .n (.j (.s .n .n) .n)) (.s .n (.s (.s .n (.b (.l [1, 2, 23] [.exit 0, .ret] (.s .n (.s (.j .n .n) (.s (.b (.s .n (.s (.s .n (.j (.s .n .n) .n)) (.s (.s .n (.j (.s .n .n) .n)) (.s .n (.s (.s .n (.j (.s .n .n) .n)) (.s (.s .n (.j (.s .n .n) .n)) (.s (.s .n (.j (.s .n .n) .n)) .n)))))))) .n)))))) (.s .n .n))))))) false (Snd.of rfl (All.cons s_fixture_CheckLibrary (All.cons s_word_Within (All.cons s_fixture_profile (All.cons s_fixture_slots_free (All.cons s_fixture_take All.nil))))) (fun _ => Sound.none)) Try.func53 Try.call53 (fun a0 σ => by kernel_rfl)) _ _ _ rfl rfl
theorem s_fixture_CheckRig : Sound Try.prog nmT 53 m_fixture_CheckRig := w_fixture_CheckRig
noncomputable def x_word_When : Fx := ⟨Try.prog, nmT, A.tab (fun _ _ => none) [], (fun _ _ _ => none), [], [], 7⟩
theorem w_word_When : Sound Try.prog nmT 18 (A.wrap true [] .k (A.ar2 (r_word_When))) :=
 Sound.wrap (Sound.run2 (X := x_word_When) (fn := Try.f18) (ann := (.s .n (.s (.s .n (.j (.s .n .n) .n)) (.s .n .n)))) false (Snd.of rfl All.nil (fun _ => Sound.none)) Try.func18 Try.call18 (fun a0 a1 σ => by kernel_rfl)) _ _ _ rfl rfl
theorem s_word_When : Sound Try.prog nmT 18 m_word_When := w_word_When
noncomputable def x_word_First : Fx := ⟨Try.prog, nmT, A.tab (fun _ _ => none) [], (fun _ _ _ => none), [], [], 15⟩
theorem w_word_First : Sound Try.prog nmT 16 (A.wrap true [(.s 1)] .k (A.ar1 (r_word_First))) :=
 Sound.wrap (Sound.run1 (X := x_word_First) (fn := Try.f16) (ann := (.s .n (.s (.s .n (.b (.l [2, 7] [.exit 0, .ret] (.s .n (.s (.j .n .n) (.s (.b (.s .n (.s .n (.j (.s .n .n) .n)))) .n)))))) (.s .n .n)))) false (Snd.of rfl All.nil (fun _ => Sound.none)) Try.func16 Try.call16 (fun a0 σ => by kernel_rfl)) _ _ _ rfl rfl
theorem s_word_First : Sound Try.prog nmT 16 m_word_First := w_word_First
noncomputable def x_fixture_Keys : Fx := ⟨Try.prog, nmT, A.tab (fun _ _ => none) [(53, m_fixture_CheckRig), (73, m_fixture_profile)], (fun _ _ _ => none), [1, 7, 8, 11], [], 50⟩
theorem w_fixture_Keys : Sound Try.prog nmT 59 (A.wrap true [(.a [(.s 3), (.s 4)])] (.t [(.s 2), .k]) (A.ar1 (r_fixture_Keys))) :=
 Sound.wrap (Sound.run1 (X := x_fixture_Keys) (fn := Try.f59) (ann := (.s .n (.s (.s .n (.s .n (.j (.s .n .n) .n))) (.s .n (.s (.s .n (.b (.l [1, 5, 20] [.exit 0] (.s .n (.s (.j .n .n) (.s (.b (.s .n (.s .n (.s .n (.b (.l [1, 5, 7, 35] [.exit 2] (.s .n (.s (.j .n .n) (.s (.b (.s .n .n)) .n))))))))) .n)))))) (.s .n .n)))))) false (Snd.of rfl (All.cons s_fixture_CheckRig (All.cons s_fixture_profile All.nil)) (fun _ => Sound.none)) Try.func59 Try.call59 (fun a0 σ => by kernel_rfl)) _ _ _ rfl rfl
theorem s_fixture_Keys : Sound Try.prog nmT 59 m_fixture_Keys := w_fixture_Keys
noncomputable def x_pick_keys : Fx := ⟨Try.prog, nmT, A.tab (fun _ _ => none) [(59, m_fixture_Keys)], (fun _ _ _ => none), [1, 7], [], 24⟩
theorem w_pick_keys : Sound Try.prog nmT 54 (A.wrap true [(.a [(.s 3), (.s 4)])] .k (A.ar1 (r_pick_keys))) :=
 Sound.wrap (Sound.run1 (X := x_pick_keys) (fn := Try.f54) (ann := (.s .n (.s .n (.s .n (.s (.s .n (.b (.l [16] [.exit 0] (.s .n (.s (.j .n .n) (.s (.b (.s .n .n)) .n)))))) (.s .n .n)))))) false (Snd.of rfl (All.cons s_fixture_Keys All.nil) (fun _ => Sound.none)) Try.func54 Try.call54 (fun a0 σ => by kernel_rfl)) _ _ _ rfl rfl
theorem s_pick_keys : Sound Try.prog nmT 54 m_pick_keys := w_pick_keys
noncomputable def x_word_Title : Fx := ⟨Try.prog, nmT, A.tab (fun _ _ => none) [], (fun _ _ _ => none), [], [], 40⟩
theorem w_word_Title : Sound Try.prog nmT 76 (A.wrap true [] .k (A.ar1 (r_word_Title))) :=
 Sound.wrap (Sound.run1 (X := x_word_Title) (fn := Try.f76) (ann := (.s .n (.s (.s .n (.b (.l [2, 6] [.exit 0, .ret] (.s .n (.s (.j .n .n) (.s (.b (.s .n (.s .n (.j (.s .n .n) .n)))) .n)))))) (.s .n .n)))) false (Snd.of rfl All.nil (fun _ => Sound.none)) Try.func76 Try.call76 (fun a0 σ => by kernel_rfl)) _ _ _ rfl rfl
theorem s_word_Title : Sound Try.prog nmT 76 m_word_Title := w_word_Title
noncomputable def x_pick_blank : Fx := ⟨Try.prog, nmT, A.tab (fun _ _ => none) [(76, m_word_Title)], (fun _ _ _ => none), [], [], 9⟩
theorem w_pick_blank : Sound Try.prog nmT 55 (A.wrap true [] .k (A.ar1 (r_pick_blank))) :=
 Sound.wrap (Sound.run1 (X := x_pick_blank) (fn := Try.f55) (ann := (.s .n (.s .n .n))) false (Snd.of rfl (All.cons s_word_Title All.nil) (fun _ => Sound.none)) Try.func55 Try.call55 (fun a0 σ => by kernel_rfl)) _ _ _ rfl rfl
theorem s_pick_blank : Sound Try.prog nmT 55 m_pick_blank := w_pick_blank
noncomputable def x_pick_isLevel : Fx := ⟨Try.prog, nmT, A.tab (fun _ _ => none) [(26, m_word_Within)], (fun _ _ _ => none), [], [], 5⟩
theorem w_pick_isLevel : Sound Try.prog nmT 56 (A.wrap true [] .k (A.ar1 (r_pick_isLevel))) :=
 Sound.wrap (Sound.run1 (X := x_pick_isLevel) (fn := Try.f56) (ann := (.s .n (.s .n .n))) false (Snd.of rfl (All.cons s_word_Within All.nil) (fun _ => Sound.none)) Try.func56 Try.call56 (fun a0 σ => by kernel_rfl)) _ _ _ rfl rfl
theorem s_pick_isLevel : Sound Try.prog nmT 56 m_pick_isLevel := w_pick_isLevel
noncomputable def x_pick_before : Fx := ⟨Try.prog, nmT, A.tab (fun _ _ => none) [(77, m_strings_Compare)], (fun _ _ _ => none), [2, 3], [], 21⟩
theorem w_pick_before : Sound Try.prog nmT 57 (A.wrap true [] .k (A.ar2 (r_pick_before))) :=
 Sound.wrap (Sound.run2 (X := x_pick_before) (fn := Try.f57) (ann := (.s .n (.s (.s .n (.j (.s .n .n) .n)) (.s .n .n)))) false (Snd.of rfl (All.cons s_strings_Compare All.nil) (fun _ => Sound.none)) Try.func57 Try.call57 (fun a0 a1 σ => by kernel_rfl)) _ _ _ rfl rfl
theorem s_pick_before : Sound Try.prog nmT 57 m_pick_before := w_pick_before
noncomputable def x_pick_CheckPresets : Fx := ⟨Try.prog, nmT, A.tab (fun _ _ => none) [(53, m_fixture_CheckRig), (18, m_word_When), (16, m_word_First), (54, m_pick_keys), (26, m_word_Within), (55, m_pick_blank), (56, m_pick_isLevel), (57, m_pick_before)], (fun _ _ _ => none), [2, 8, 10], [], 97⟩
theorem w_pick_CheckPresets : Sound Try.prog nmT 39 (A.wrap true [(.a [(.s 3), (.s 4)]), (.s 3)] .k (A.ar2 (r_pick_CheckPresets))) :=
 Sound.wrap (Sound.run2 (X := x_pick_CheckPresets) (fn := Try.f39) (ann := (.s .n (.s (.s .n (.s .n (.j (.s .n .n) .n))) (.s .n (.s (.s .n (.b (.l [4, 26] [.exit 0, .ret] (.s .n (.s (.j .n .n) (.s (.b (.s .n (.s (.b (.s .n (.j (.s .n .n) (.s .n (.j (.s .n .n) (.s .n (.j (.s .n .n) (.s .n (.j (.s .n .n) .n))))))))) (.s .n (.b (.l [4, 8, 63] [.exit 3, .ret] (.s .n (.s (.j .n .n) (.s (.b (.s .n (.b (.s .n (.j (.s .n .n) (.s .n (.j (.s .n .n) (.s .n (.j (.s .n .n) .n))))))))) .n))))))))) .n)))))) (.s .n .n)))))) false (Snd.of rfl (All.cons s_fixture_CheckRig (All.cons s_word_When (All.cons s_word_First (All.cons s_pick_keys (All.cons s_word_Within (All.cons s_pick_blank (All.cons s_pick_isLevel (All.cons s_pick_before All.nil)))))))) (fun _ => Sound.none)) Try.func39 Try.call39 (fun a0 a1 σ => by kernel_rfl)) _ _ _ rfl rfl
theorem s_pick_CheckPresets : Sound Try.prog nmT 39 m_pick_CheckPresets := w_pick_CheckPresets
noncomputable def x_cue_isTime : Fx := ⟨Try.prog, nmT, A.tab (fun _ _ => none) [(26, m_word_Within)], (fun _ _ _ => none), [], [], 5⟩
theorem w_cue_isTime : Sound Try.prog nmT 78 (A.wrap true [] .k (A.ar1 (r_cue_isTime))) :=
 Sound.wrap (Sound.run1 (X := x_cue_isTime) (fn := Try.f78) (ann := (.s .n (.s .n .n))) false (Snd.of rfl (All.cons s_word_Within All.nil) (fun _ => Sound.none)) Try.func78 Try.call78 (fun a0 σ => by kernel_rfl)) _ _ _ rfl rfl
theorem s_cue_isTime : Sound Try.prog nmT 78 m_cue_isTime := w_cue_isTime
noncomputable def x_level_CheckCurve : Fx := ⟨Try.prog, nmT, A.tab (fun _ _ => none) [(26, m_word_Within), (18, m_word_When)], (fun _ _ _ => none), [1, 5], [], 90⟩
theorem w_level_CheckCurve : Sound Try.prog nmT 79 (A.wrap true [(.a [.k, (.s 2)])] .k (A.ar1 (r_level_CheckCurve))) :=
 Sound.wrap (Sound.run1 (X := x_level_CheckCurve) (fn := Try.f79) (ann := (.s .n (.s (.s .n (.j (.s .n .n) .n)) (.s .n (.s (.s .n (.j (.s .n .n) .n)) (.s (.s .n (.j (.s .n .n) .n)) (.s (.s .n (.j (.s .n .n) .n)) (.s (.s .n (.b (.l [2, 28] [.exit 0, .ret] (.s .n (.s (.j .n .n) (.s (.b (.s .n (.s .n (.j (.s .n .n) .n)))) .n)))))) (.s (.s .n (.j (.s .n .n) .n)) (.s (.s .n (.b (.l [2, 6] [.exit 2, .ret] (.s (.s .n (.j .n .n)) (.s (.b (.s .n (.j (.s .n .n) .n))) .n))))) (.s .n .n))))))))))) false (Snd.of rfl (All.cons s_word_Within (All.cons s_word_When All.nil)) (fun _ => Sound.none)) Try.func79 Try.call79 (fun a0 σ => by kernel_rfl)) _ _ _ rfl rfl
theorem s_level_CheckCurve : Sound Try.prog nmT 79 m_level_CheckCurve := w_level_CheckCurve
noncomputable def x_cue_compare : Fx := ⟨Try.prog, nmT, A.tab (fun _ _ => none) [(77, m_strings_Compare)], (fun _ _ _ => none), [2, 3], [], 20⟩
theorem w_cue_compare : Sound Try.prog nmT 88 (A.wrap true [] .k (A.ar2 (r_cue_compare))) :=
 Sound.wrap (Sound.run2 (X := x_cue_compare) (fn := Try.f88) (ann := (.s .n (.s (.s .n (.j (.s (.s .n (.j (.s .n .n) .n)) (.s .n .n)) .n)) (.s .n .n)))) false (Snd.of rfl (All.cons s_strings_Compare All.nil) (fun _ => Sound.none)) Try.func88 Try.call88 (fun a0 a1 σ => by kernel_rfl)) _ _ _ rfl rfl
theorem s_cue_compare : Sound Try.prog nmT 88 m_cue_compare := w_cue_compare
noncomputable def x_cue_checkMoves : Fx := ⟨Try.prog, nmT, A.tab (fun _ _ => none) [(26, m_word_Within), (87, m_word_Name), (78, m_cue_isTime), (88, m_cue_compare)], (fun _ _ _ => none), [4], [], 99⟩
theorem w_cue_checkMoves : Sound Try.prog nmT 80 (A.wrap true [(.s 8)] .k (A.ar1 (r_cue_checkMoves))) :=
 Sound.wrap (Sound.run1 (X := x_cue_checkMoves) (fn := Try.f80) (ann := (.s .n (.s (.s .n (.b (.l [2, 7] [.exit 0, .ret] (.s .n (.s (.j .n .n) (.s (.b (.s .n (.b (.s .n (.j (.s .n .n) (.s .n (.j (.s .n .n) (.s .n (.j (.s .n .n) (.s .n (.j (.s .n .n) (.s .n (.j (.s .n .n) (.s .n (.j (.s .n .n) (.s .n (.j (.s .n .n) .n))))))))))))))))) .n)))))) (.s .n .n)))) false (Snd.of rfl (All.cons s_word_Within (All.cons s_word_Name (All.cons s_cue_isTime (All.cons s_cue_compare All.nil)))) (fun _ => Sound.none)) Try.func80 Try.call80 (fun a0 σ => by kernel_rfl)) _ _ _ rfl rfl
theorem s_cue_checkMoves : Sound Try.prog nmT 80 m_cue_checkMoves := w_cue_checkMoves
noncomputable def x_cue_form : Fx := ⟨Try.prog, nmT, A.tab (fun _ _ => none) [(26, m_word_Within), (76, m_word_Title), (78, m_cue_isTime), (79, m_level_CheckCurve), (80, m_cue_checkMoves), (18, m_word_When)], (fun _ _ _ => none), [5], [], 101⟩
theorem w_cue_form : Sound Try.prog nmT 58 (A.wrap true [(.s 11)] .k (A.ar1 (r_cue_form))) :=
 Sound.wrap (Sound.run1 (X := x_cue_form) (fn := Try.f58) (ann := (.s .n (.s (.s .n (.j (.s .n .n) .n)) (.s .n (.s (.s .n (.b (.l [2, 3, 13] [.exit 0, .ret] (.s .n (.s (.j .n .n) (.s (.b (.s .n (.s (.b (.s .n (.j (.s .n .n) (.s .n (.j (.s .n .n) (.s .n (.j (.s .n .n) (.s .n (.j (.s .n .n) .n))))))))) (.s (.s .n (.s .n (.j (.s .n .n) .n))) (.s (.s .n (.j (.s .n .n) .n)) (.s (.s .n (.s .n (.j (.s .n .n) .n))) .n)))))) .n)))))) (.s .n .n)))))) false (Snd.of rfl (All.cons s_word_Within (All.cons s_word_Title (All.cons s_cue_isTime (All.cons s_level_CheckCurve (All.cons s_cue_checkMoves (All.cons s_word_When All.nil)))))) (fun _ => Sound.none)) Try.func58 Try.call58 (fun a0 σ => by kernel_rfl)) _ _ _ rfl rfl
theorem s_cue_form : Sound Try.prog nmT 58 m_cue_form := w_cue_form
noncomputable def x_pick_Level : Fx := ⟨Try.prog, nmT, A.tab (fun _ _ => none) [(56, m_pick_isLevel)], (fun _ _ _ => none), [4, 5, 9, 11], [], 55⟩
theorem w_pick_Level : Sound Try.prog nmT 60 (A.wrap true [(.s 3)] .k (A.ar3 (r_pick_Level))) :=
 Sound.wrap (Sound.run3 (X := x_pick_Level) (fn := Try.f60) (ann := (.s .n (.s (.s .n (.j (.s .n .n) .n)) (.s (.s .n (.j (.s .n .n) .n)) (.s (.s .n (.j (.s .n .n) .n)) (.s (.s .n (.b (.l [4, 5, 6, 7, 31] [.exit 0, .ret] (.s .n (.s (.j .n .n) (.s (.b (.s .n (.s (.s .n (.j .n .n)) (.s (.s .n (.b (.l [4, 6, 7, 43] [.exit 2, .ret] (.s .n (.s (.j .n .n) (.s (.b (.s .n (.s .n (.j (.s .n .n) .n)))) .n)))))) .n)))) .n)))))) (.s .n .n))))))) false (Snd.of rfl (All.cons s_pick_isLevel All.nil) (fun _ => Sound.none)) Try.func60 Try.call60 (fun a0 a1 a2 σ => by kernel_rfl)) _ _ _ rfl rfl
theorem s_pick_Level : Sound Try.prog nmT 60 m_pick_Level := w_pick_Level
noncomputable def x_cue_CheckList : Fx := ⟨Try.prog, nmT, A.tab (fun _ _ => none) [(39, m_pick_CheckPresets), (58, m_cue_form), (16, m_word_First), (59, m_fixture_Keys), (60, m_pick_Level)], (fun _ _ _ => none), [3, 12, 14, 16], [], 76⟩
theorem w_cue_CheckList : Sound Try.prog nmT 40 (A.wrap true [(.a [(.s 3), (.s 4)]), (.s 3), (.s 11)] .k (A.ar3 (r_cue_CheckList))) :=
 Sound.wrap (Sound.run3 (X := x_cue_CheckList) (fn := Try.f40) (ann := (.s .n (.s (.s .n (.s .n (.j (.s .n .n) .n))) (.s .n (.s .n (.s (.s .n (.b (.l [37] [.exit 0] (.s .n (.s (.j .n .n) (.s (.b (.s .n .n)) .n)))))) (.s (.s .n (.b (.l [6, 46] [.exit 2, .ret] (.s .n (.s (.j .n .n) (.s (.b (.s .n (.s .n (.b (.l [6, 53] [.exit 4, .ret] (.s .n (.s (.j .n .n) (.s (.b (.s .n (.s (.s .n (.j (.s .n .n) .n)) (.s .n (.s .n (.j (.s .n .n) .n)))))) .n)))))))) .n)))))) (.s .n .n)))))))) false (Snd.of rfl (All.cons s_pick_CheckPresets (All.cons s_cue_form (All.cons s_word_First (All.cons s_fixture_Keys (All.cons s_pick_Level All.nil))))) (fun _ => Sound.none)) Try.func40 Try.call40 (fun a0 a1 a2 σ => by kernel_rfl)) _ _ _ rfl rfl
theorem s_cue_CheckList : Sound Try.prog nmT 40 m_cue_CheckList := w_cue_CheckList
noncomputable def x_slices_IndexFunc_api_List (dyn : Nat → List AV → Heap → Option (AV × Heap)) : Fx := ⟨Try.prog, nmT, A.tab (fun _ _ => none) [], dyn, [], [], 19⟩
theorem w_slices_IndexFunc_api_List (dyn : Nat → List AV → Heap → Option (AV × Heap)) (hd : ∀ f, Sound Try.prog nmT f (dyn (nmT.getD f 0))) : Sound Try.prog nmT 61 (A.wrap true [(.s 2)] .k (A.ar2 (r_slices_IndexFunc_api_List dyn))) :=
 Sound.wrap (Sound.run2 (X := x_slices_IndexFunc_api_List dyn) (fn := Try.f61) (ann := (.s .n (.s (.s .n (.b (.l [4, 8] [.exit 0, .ret] (.s .n (.s (.j .n .n) (.s (.b (.s .n (.s .n (.j (.s .n .n) .n)))) .n)))))) (.s .n .n)))) false (Snd.of rfl All.nil (hd)) Try.func61 Try.call61 (fun a0 a1 σ => by kernel_rfl)) _ _ _ rfl rfl
theorem s_slices_IndexFunc_api_List (dyn : Nat → List AV → Heap → Option (AV × Heap)) (hd : ∀ f, Sound Try.prog nmT f (dyn (nmT.getD f 0))) : Sound Try.prog nmT 61 (m_slices_IndexFunc_api_List dyn) := w_slices_IndexFunc_api_List dyn hd
noncomputable def x_play_list_fn1 : Fx := ⟨Try.prog, nmT, A.tab (fun _ _ => none) [], (fun _ _ _ => none), [2], [], 8⟩
theorem w_play_list_fn1 : Sound Try.prog nmT 62 (A.wrap true [(.a [.k, (.s 11)])] .k (A.ar2 (r_play_list_fn1))) :=
 Sound.wrap (Sound.run2 (X := x_play_list_fn1) (fn := Try.f62) (ann := (.s .n (.s .n .n))) false (Snd.of rfl All.nil (fun _ => Sound.none)) Try.func62 Try.call62 (fun a0 a1 σ => by kernel_rfl)) _ _ _ rfl rfl
theorem s_play_list_fn1 : Sound Try.prog nmT 62 m_play_list_fn1 := w_play_list_fn1
noncomputable def x_play_list : Fx := ⟨Try.prog, nmT, A.tab (fun _ _ => none) [(61, m_slices_IndexFunc_api_List (A.tab (fun _ _ => none) [(127, m_play_list_fn1), (127, m_play_list_fn1)]))], (A.tab (fun _ _ => none) [(127, m_play_list_fn1), (127, m_play_list_fn1)]), [2, 4], [], 19⟩
theorem w_play_list : Sound Try.prog nmT 41 (A.wrap true [(.a [(.s 3), (.s 4), (.s 3), (.s 2), (.s 3)])] (.t [(.a [.k, (.e 11 [.k, .k, .k, .k, .k, .k, .k, (.s 2), .k, .k, (.s 8)])]), .k]) (A.ar2 (r_play_list))) :=
 Sound.wrap (Sound.run2 (X := x_play_list) (fn := Try.f41) (ann := (.s .n (.s .n (.s (.s .n (.j (.s .n .n) .n)) (.s .n .n))))) false (Snd.of rfl (All.cons (s_slices_IndexFunc_api_List _ (dyn_of (DAll.cons (nm_sound s_play_list_fn1 (by kernel_rfl) rfl) (DAll.cons (nm_sound s_play_list_fn1 (by kernel_rfl) rfl) DAll.nil)))) All.nil) (dyn_of (DAll.cons (nm_sound s_play_list_fn1 (by kernel_rfl) rfl) (DAll.cons (nm_sound s_play_list_fn1 (by kernel_rfl) rfl) DAll.nil)))) Try.func41 Try.call41 (fun a0 a1 σ => by kernel_rfl)) _ _ _ rfl rfl
theorem s_play_list : Sound Try.prog nmT 41 m_play_list := w_play_list
noncomputable def x_play_CheckSetup : Fx := ⟨Try.prog, nmT, A.tab (fun _ _ => none) [(39, m_pick_CheckPresets), (18, m_word_When), (16, m_word_First), (26, m_word_Within), (40, m_cue_CheckList), (41, m_play_list)], (fun _ _ _ => none), [1, 5, 8, 9], [], 107⟩
theorem w_play_CheckSetup : Sound Try.prog nmT 25 (A.wrap true [(.a [(.s 3), (.s 4), (.s 3), (.s 2), (.s 3)])] .k (A.ar1 (r_play_CheckSetup))) :=
 Sound.wrap (Sound.run1 (X := x_play_CheckSetup) (fn := Try.f25) (ann := (.s .n (.s (.s .n (.s .n (.j (.s .n .n) .n))) (.s (.s .n (.b (.l [1, 2, 29] [.exit 0, .ret] (.s .n (.s (.j .n .n) (.s (.b (.s .n (.s (.s .n (.j (.s .n .n) .n)) (.s (.s .n (.j (.s .n .n) .n)) (.s .n (.s .n (.j (.s .n .n) .n))))))) .n)))))) (.s (.s .n (.j (.s .n .n) .n)) (.s (.s .n (.b (.l [1, 2, 70] [.exit 2, .ret] (.s .n (.s (.j .n .n) (.s (.b (.s .n (.s (.s .n (.j (.s .n .n) .n)) (.s (.s .n (.j (.s .n .n) .n)) (.s (.s .n (.s .n (.j (.s .n .n) .n))) (.s .n (.j (.s .n .n) .n))))))) .n)))))) (.s .n .n))))))) false (Snd.of rfl (All.cons s_pick_CheckPresets (All.cons s_word_When (All.cons s_word_First (All.cons s_word_Within (All.cons s_cue_CheckList (All.cons s_play_list All.nil)))))) (fun _ => Sound.none)) Try.func25 Try.call25 (fun a0 σ => by kernel_rfl)) _ _ _ rfl rfl
theorem s_play_CheckSetup : Sound Try.prog nmT 25 m_play_CheckSetup := w_play_CheckSetup
noncomputable def x_stamp_speed : Fx := ⟨Try.prog, nmT, A.tab (fun _ _ => none) [], (fun _ _ _ => none), [], [], 13⟩
theorem w_stamp_speed : Sound Try.prog nmT 24 (A.wrap true [] .k (A.ar1 (r_stamp_speed))) :=
 Sound.wrap (Sound.run1 (X := x_stamp_speed) (fn := Try.f24) (ann := (.s .n (.s (.s .n (.b (.s (.s .n (.c [6] .n (.s .n (.c [6] .n .n)))) (.j (.s .n .n) (.s .n (.j (.s .n .n) .n)))))) (.s .n .n)))) false (Snd.of rfl All.nil (fun _ => Sound.none)) Try.func24 Try.call24 (fun a0 σ => by kernel_rfl)) _ _ _ rfl rfl
theorem s_stamp_speed : Sound Try.prog nmT 24 m_stamp_speed := w_stamp_speed
noncomputable def x_stamp_mode : Fx := ⟨Try.prog, nmT, A.tab (fun _ _ => none) [(24, m_stamp_speed), (18, m_word_When)], (fun _ _ _ => none), [], [], 15⟩
theorem w_stamp_mode : Sound Try.prog nmT 13 (A.wrap true [] .k (A.ar1 (r_stamp_mode))) :=
 Sound.wrap (Sound.run1 (X := x_stamp_mode) (fn := Try.f13) (ann := (.s .n (.s .n (.s .n .n)))) false (Snd.of rfl (All.cons s_stamp_speed (All.cons s_word_When All.nil)) (fun _ => Sound.none)) Try.func13 Try.call13 (fun a0 σ => by kernel_rfl)) _ _ _ rfl rfl
theorem s_stamp_mode : Sound Try.prog nmT 13 m_stamp_mode := w_stamp_mode
noncomputable def x_stamp_day : Fx := ⟨Try.prog, nmT, A.tab (fun _ _ => none) [], (fun _ _ _ => none), [], [], 7⟩
theorem w_stamp_day : Sound Try.prog nmT 14 (A.wrap true [] .k (A.ar1 (r_stamp_day))) :=
 Sound.wrap (Sound.run1 (X := x_stamp_day) (fn := Try.f14) (ann := (.s .n (.s (.s .n (.j (.s .n .n) .n)) (.s .n .n)))) false (Snd.of rfl All.nil (fun _ => Sound.none)) Try.func14 Try.call14 (fun a0 σ => by kernel_rfl)) _ _ _ rfl rfl
theorem s_stamp_day : Sound Try.prog nmT 14 m_stamp_day := w_stamp_day
noncomputable def x_play_CheckFields : Fx := ⟨Try.prog, nmT, A.tab (fun _ _ => none) [(26, m_word_Within)], (fun _ _ _ => none), [1], [], 53⟩
theorem w_play_CheckFields : Sound Try.prog nmT 27 (A.wrap true [] .k (A.ar1 (r_play_CheckFields))) :=
 Sound.wrap (Sound.run1 (X := x_play_CheckFields) (fn := Try.f27) (ann := (.s .n (.s (.s .n (.j (.s .n .n) .n)) (.s .n (.s .n (.s (.s .n (.j (.s .n .n) .n)) (.s .n .n))))))) false (Snd.of rfl (All.cons s_word_Within All.nil) (fun _ => Sound.none)) Try.func27 Try.call27 (fun a0 σ => by kernel_rfl)) _ _ _ rfl rfl
theorem s_play_CheckFields : Sound Try.prog nmT 27 m_play_CheckFields := w_play_CheckFields
noncomputable def x_slices_IndexFunc_api_Playback (dyn : Nat → List AV → Heap → Option (AV × Heap)) : Fx := ⟨Try.prog, nmT, A.tab (fun _ _ => none) [], dyn, [], [], 19⟩
theorem w_slices_IndexFunc_api_Playback (dyn : Nat → List AV → Heap → Option (AV × Heap)) (hd : ∀ f, Sound Try.prog nmT f (dyn (nmT.getD f 0))) : Sound Try.prog nmT 63 (A.wrap true [(.s 3)] .k (A.ar2 (r_slices_IndexFunc_api_Playback dyn))) :=
 Sound.wrap (Sound.run2 (X := x_slices_IndexFunc_api_Playback dyn) (fn := Try.f63) (ann := (.s .n (.s (.s .n (.b (.l [4, 8] [.exit 0, .ret] (.s .n (.s (.j .n .n) (.s (.b (.s .n (.s .n (.j (.s .n .n) .n)))) .n)))))) (.s .n .n)))) false (Snd.of rfl All.nil (hd)) Try.func63 Try.call63 (fun a0 a1 σ => by kernel_rfl)) _ _ _ rfl rfl
theorem s_slices_IndexFunc_api_Playback (dyn : Nat → List AV → Heap → Option (AV × Heap)) (hd : ∀ f, Sound Try.prog nmT f (dyn (nmT.getD f 0))) : Sound Try.prog nmT 63 (m_slices_IndexFunc_api_Playback dyn) := w_slices_IndexFunc_api_Playback dyn hd
noncomputable def x_slices_ContainsFunc_api_Playback (dyn : Nat → List AV → Heap → Option (AV × Heap)) : Fx := ⟨Try.prog, nmT, A.tab (fun _ _ => none) [(63, m_slices_IndexFunc_api_Playback dyn)], dyn, [], [], 9⟩
theorem w_slices_ContainsFunc_api_Playback (dyn : Nat → List AV → Heap → Option (AV × Heap)) (hd : ∀ f, Sound Try.prog nmT f (dyn (nmT.getD f 0))) : Sound Try.prog nmT 42 (A.wrap true [(.s 3)] .k (A.ar2 (r_slices_ContainsFunc_api_Playback dyn))) :=
 Sound.wrap (Sound.run2 (X := x_slices_ContainsFunc_api_Playback dyn) (fn := Try.f42) (ann := (.s .n (.s .n .n))) false (Snd.of rfl (All.cons (s_slices_IndexFunc_api_Playback dyn hd) All.nil) (hd)) Try.func42 Try.call42 (fun a0 a1 σ => by kernel_rfl)) _ _ _ rfl rfl
theorem s_slices_ContainsFunc_api_Playback (dyn : Nat → List AV → Heap → Option (AV × Heap)) (hd : ∀ f, Sound Try.prog nmT f (dyn (nmT.getD f 0))) : Sound Try.prog nmT 42 (m_slices_ContainsFunc_api_Playback dyn) := w_slices_ContainsFunc_api_Playback dyn hd
noncomputable def x_play_CheckRanges_fn1 : Fx := ⟨Try.prog, nmT, A.tab (fun _ _ => none) [], (fun _ _ _ => none), [2], [], 9⟩
theorem w_play_CheckRanges_fn1 : Sound Try.prog nmT 43 (A.wrap true [] .k (A.ar2 (r_play_CheckRanges_fn1))) :=
 Sound.wrap (Sound.run2 (X := x_play_CheckRanges_fn1) (fn := Try.f43) (ann := (.s .n (.s .n .n))) false (Snd.of rfl All.nil (fun _ => Sound.none)) Try.func43 Try.call43 (fun a0 a1 σ => by kernel_rfl)) _ _ _ rfl rfl
theorem s_play_CheckRanges_fn1 : Sound Try.prog nmT 43 m_play_CheckRanges_fn1 := w_play_CheckRanges_fn1
end Go.Proofs.Ytohbeolimnpehaa

/- That the code of each function computes what its mirror says. Written by a program. -/
namespace Go.Proofs.Ytohbeolimnpehaa
set_option linter.unusedSectionVars false
set_option maxRecDepth 100000
set_option linter.unusedVariables false
set_option linter.unusedSimpArgs false
noncomputable def x_play_CheckRanges : Fx := ⟨Try.prog, nmT, A.tab (fun _ _ => none) [(42, m_slices_ContainsFunc_api_Playback (A.tab (fun _ _ => none) [(152, m_play_CheckRanges_fn1), (152, m_play_CheckRanges_fn1)])), (26, m_word_Within), (18, m_word_When)], (A.tab (fun _ _ => none) [(152, m_play_CheckRanges_fn1), (152, m_play_CheckRanges_fn1)]), [2], [], 36⟩
theorem w_play_CheckRanges : Sound Try.prog nmT 28 (A.wrap true [(.a [(.s 3), (.s 4), (.s 3), (.s 2), (.s 3)])] .k (A.ar2 (r_play_CheckRanges))) :=
 Sound.wrap (Sound.run2 (X := x_play_CheckRanges) (fn := Try.f28) (ann := (.s .n (.s .n (.s (.s .n (.j (.s .n .n) .n)) (.s .n (.s (.s .n (.b (.s .n (.c [6] .n (.s .n (.c [6] .n .n)))))) (.s .n .n))))))) false (Snd.of rfl (All.cons (s_slices_ContainsFunc_api_Playback _ (dyn_of (DAll.cons (nm_sound s_play_CheckRanges_fn1 (by kernel_rfl) rfl) (DAll.cons (nm_sound s_play_CheckRanges_fn1 (by kernel_rfl) rfl) DAll.nil)))) (All.cons s_word_Within (All.cons s_word_When All.nil))) (dyn_of (DAll.cons (nm_sound s_play_CheckRanges_fn1 (by kernel_rfl) rfl) (DAll.cons (nm_sound s_play_CheckRanges_fn1 (by kernel_rfl) rfl) DAll.nil)))) Try.func28 Try.call28 (fun a0 a1 σ => by kernel_rfl)) _ _ _ rfl rfl
theorem s_play_CheckRanges : Sound Try.prog nmT 28 m_play_CheckRanges := w_play_CheckRanges
noncomputable def x_stamp_cuesOf : Fx := ⟨Try.prog, nmT, A.tab (fun _ _ => none) [], (fun _ _ _ => none), [2, 6, 8], [], 38⟩
theorem w_stamp_cuesOf : Sound Try.prog nmT 30 (A.wrap true [(.a [(.s 3), (.s 4), (.s 3), (.s 2), (.s 3)])] (.e 11 [.k, .k, .k, .k, .k, .k, .k, (.s 2), .k, .k, (.s 8)]) (A.ar2 (r_stamp_cuesOf))) :=
 Sound.wrap (Sound.run2 (X := x_stamp_cuesOf) (fn := Try.f30) (ann := (.s .n (.s (.s .n (.b (.l [2, 4, 12] [.exit 0, .ret] (.s .n (.s (.j .n .n) (.s (.b (.s .n (.s .n (.b (.l [2, 4, 6, 19] [.exit 2, .ret] (.s .n (.s (.j .n .n) (.s (.b (.s .n (.s .n (.j (.s .n .n) .n)))) .n)))))))) .n)))))) (.s .n .n)))) false (Snd.of rfl All.nil (fun _ => Sound.none)) Try.func30 Try.call30 (fun a0 a1 σ => by kernel_rfl)) _ _ _ rfl rfl
theorem s_stamp_cuesOf : Sound Try.prog nmT 30 m_stamp_cuesOf := w_stamp_cuesOf
noncomputable def x_slices_IndexFunc_api_Cue (dyn : Nat → List AV → Heap → Option (AV × Heap)) : Fx := ⟨Try.prog, nmT, A.tab (fun _ _ => none) [], dyn, [], [], 19⟩
theorem w_slices_IndexFunc_api_Cue (dyn : Nat → List AV → Heap → Option (AV × Heap)) (hd : ∀ f, Sound Try.prog nmT f (dyn (nmT.getD f 0))) : Sound Try.prog nmT 44 (A.wrap true [(.s 11)] .k (A.ar2 (r_slices_IndexFunc_api_Cue dyn))) :=
 Sound.wrap (Sound.run2 (X := x_slices_IndexFunc_api_Cue dyn) (fn := Try.f44) (ann := (.s .n (.s (.s .n (.b (.l [4, 8] [.exit 0, .ret] (.s .n (.s (.j .n .n) (.s (.b (.s .n (.s .n (.j (.s .n .n) .n)))) .n)))))) (.s .n .n)))) false (Snd.of rfl All.nil (hd)) Try.func44 Try.call44 (fun a0 a1 σ => by kernel_rfl)) _ _ _ rfl rfl
theorem s_slices_IndexFunc_api_Cue (dyn : Nat → List AV → Heap → Option (AV × Heap)) (hd : ∀ f, Sound Try.prog nmT f (dyn (nmT.getD f 0))) : Sound Try.prog nmT 44 (m_slices_IndexFunc_api_Cue dyn) := w_slices_IndexFunc_api_Cue dyn hd
noncomputable def x_slices_ContainsFunc_api_Cue (dyn : Nat → List AV → Heap → Option (AV × Heap)) : Fx := ⟨Try.prog, nmT, A.tab (fun _ _ => none) [(44, m_slices_IndexFunc_api_Cue dyn)], dyn, [], [], 9⟩
theorem w_slices_ContainsFunc_api_Cue (dyn : Nat → List AV → Heap → Option (AV × Heap)) (hd : ∀ f, Sound Try.prog nmT f (dyn (nmT.getD f 0))) : Sound Try.prog nmT 29 (A.wrap true [(.s 11)] .k (A.ar2 (r_slices_ContainsFunc_api_Cue dyn))) :=
 Sound.wrap (Sound.run2 (X := x_slices_ContainsFunc_api_Cue dyn) (fn := Try.f29) (ann := (.s .n (.s .n .n))) false (Snd.of rfl (All.cons (s_slices_IndexFunc_api_Cue dyn hd) All.nil) (hd)) Try.func29 Try.call29 (fun a0 a1 σ => by kernel_rfl)) _ _ _ rfl rfl
theorem s_slices_ContainsFunc_api_Cue (dyn : Nat → List AV → Heap → Option (AV × Heap)) (hd : ∀ f, Sound Try.prog nmT f (dyn (nmT.getD f 0))) : Sound Try.prog nmT 29 (m_slices_ContainsFunc_api_Cue dyn) := w_slices_ContainsFunc_api_Cue dyn hd
noncomputable def x_stamp_CheckEvents_fn1 : Fx := ⟨Try.prog, nmT, A.tab (fun _ _ => none) [], (fun _ _ _ => none), [2], [], 9⟩
theorem w_stamp_CheckEvents_fn1 : Sound Try.prog nmT 31 (A.wrap true [(.a [.k, .k, .k, .k, .k, .k, .k, (.s 2), .k, .k, (.s 8)])] .k (A.ar2 (r_stamp_CheckEvents_fn1))) :=
 Sound.wrap (Sound.run2 (X := x_stamp_CheckEvents_fn1) (fn := Try.f31) (ann := (.s .n (.s .n .n))) false (Snd.of rfl All.nil (fun _ => Sound.none)) Try.func31 Try.call31 (fun a0 a1 σ => by kernel_rfl)) _ _ _ rfl rfl
theorem s_stamp_CheckEvents_fn1 : Sound Try.prog nmT 31 m_stamp_CheckEvents_fn1 := w_stamp_CheckEvents_fn1
noncomputable def x_stamp_CheckEvents : Fx := ⟨Try.prog, nmT, A.tab (fun _ _ => none) [(25, m_play_CheckSetup), (13, m_stamp_mode), (18, m_word_When), (16, m_word_First), (14, m_stamp_day), (26, m_word_Within), (27, m_play_CheckFields), (28, m_play_CheckRanges), (30, m_stamp_cuesOf), (29, m_slices_ContainsFunc_api_Cue (A.tab (fun _ _ => none) [(157, m_stamp_CheckEvents_fn1), (157, m_stamp_CheckEvents_fn1)]))], (A.tab (fun _ _ => none) [(157, m_stamp_CheckEvents_fn1), (157, m_stamp_CheckEvents_fn1)]), [3, 9], [10], 86⟩
theorem w_stamp_CheckEvents : Sound Try.prog nmT 17 (A.wrap true [(.a [(.s 3), (.s 4), (.s 3), (.s 2), (.s 3)]), .k, (.s 6)] .k (A.ar3 (r_stamp_CheckEvents))) :=
 Sound.wrap (Sound.run3 (X := x_stamp_CheckEvents) (fn := Try.f17) (ann := (.s .n (.s (.s .n (.s .n (.j (.s .n .n) .n))) (.s (.s .n (.b (.l [3, 6, 27] [.exit 0, .ret] (.s .n (.s (.j .n .n) (.s (.b (.s .n (.s .n (.s .n (.s .n (.s (.s .n (.j (.s .n .n) .n)) (.s .n (.j (.s .n .n) .n)))))))) .n)))))) (.s .n .n))))) false (Snd.of rfl (All.cons s_play_CheckSetup (All.cons s_stamp_mode (All.cons s_word_When (All.cons s_word_First (All.cons s_stamp_day (All.cons s_word_Within (All.cons s_play_CheckFields (All.cons s_play_CheckRanges (All.cons s_stamp_cuesOf (All.cons (s_slices_ContainsFunc_api_Cue _ (dyn_of (DAll.cons (nm_sound s_stamp_CheckEvents_fn1 (by kernel_rfl) rfl) (DAll.cons (nm_sound s_stamp_CheckEvents_fn1 (by kernel_rfl) rfl) DAll.nil)))) All.nil)))))))))) (dyn_of (DAll.cons (nm_sound s_stamp_CheckEvents_fn1 (by kernel_rfl) rfl) (DAll.cons (nm_sound s_stamp_CheckEvents_fn1 (by kernel_rfl) rfl) DAll.nil)))) Try.func17 Try.call17 (fun a0 a1 a2 σ => by kernel_rfl)) _ _ _ rfl rfl
theorem s_stamp_CheckEvents : Sound Try.prog nmT 17 m_stamp_CheckEvents := w_stamp_CheckEvents
noncomputable def x_stamp_due : Fx := ⟨Try.prog, nmT, A.tab (fun _ _ => none) [(17, m_stamp_CheckEvents), (14, m_stamp_day), (18, m_word_When), (16, m_word_First)], (fun _ _ _ => none), [5, 15], [], 62⟩
theorem w_stamp_due : Sound Try.prog nmT 10 (A.wrap true [(.a [(.s 3), (.s 4), (.s 3), (.s 2), (.s 3)]), .k, (.s 6)] (.t [(.s 6), .k]) (A.ar5 (r_stamp_due))) :=
 Sound.wrap (Sound.run5 (X := x_stamp_due) (fn := Try.f10) (ann := (.s .n (.s (.s .n (.s .n (.j (.s .n .n) .n))) (.s .n (.s (.s .n (.b (.l [13, 42] [.exit 0] (.s .n (.s (.j .n .n) (.s (.b (.s .n (.s .n (.c [13] .n .n)))) .n)))))) (.s .n .n)))))) false (Snd.of rfl (All.cons s_stamp_CheckEvents (All.cons s_stamp_day (All.cons s_word_When (All.cons s_word_First All.nil)))) (fun _ => Sound.none)) Try.func10 Try.call10 (fun a0 a1 a2 a3 a4 σ => by kernel_rfl)) _ _ _ rfl rfl
theorem s_stamp_due : Sound Try.prog nmT 10 m_stamp_due := w_stamp_due
noncomputable def x_stamp_Due : Fx := ⟨Try.prog, nmT, A.tab (fun _ _ => none) [(10, m_stamp_due)], (fun _ _ _ => none), [5], [], 20⟩
theorem w_stamp_Due : Sound Try.prog nmT 5 (A.wrap true [(.a [(.s 3), (.s 4), (.s 3), (.s 2), (.s 3)]), .k, (.s 6)] (.t [(.s 6), .k]) (A.ar5 (r_stamp_Due))) :=
 Sound.wrap (Sound.run5 (X := x_stamp_Due) (fn := Try.f5) (ann := (.s .n (.s .n .n))) false (Snd.of rfl (All.cons s_stamp_due All.nil) (fun _ => Sound.none)) Try.func5 Try.call5 (fun a0 a1 a2 a3 a4 σ => by kernel_rfl)) _ _ _ rfl rfl
theorem s_stamp_Due : Sound Try.prog nmT 5 m_stamp_Due := w_stamp_Due
noncomputable def x_R1_IsWord : Fx := ⟨Try.prog, nmT, A.tab (fun _ _ => none) [], (fun _ _ _ => none), [], [], 34⟩
theorem w_R1_IsWord : Sound Try.prog nmT 95 (A.wrap true [] .k (A.ar1 (r_R1_IsWord))) :=
 Sound.wrap (Sound.run1 (X := x_R1_IsWord) (fn := Try.f95) (ann := (.s .n (.s (.s .n (.b (.l [2, 7] [.exit 0, .ret] (.s .n (.s (.j .n .n) (.s (.b (.s .n (.s .n (.s .n (.j (.s .n .n) .n))))) .n)))))) (.s .n .n)))) false (Snd.of rfl All.nil (fun _ => Sound.none)) Try.func95 Try.call95 (fun a0 σ => by kernel_rfl)) _ _ _ rfl rfl
theorem s_R1_IsWord : Sound Try.prog nmT 95 m_R1_IsWord := w_R1_IsWord
noncomputable def x_R1_IsName : Fx := ⟨Try.prog, nmT, A.tab (fun _ _ => none) [(95, m_R1_IsWord)], (fun _ _ _ => none), [], [], 20⟩
theorem w_R1_IsName : Sound Try.prog nmT 89 (A.wrap true [] .k (A.ar1 (r_R1_IsName))) :=
 Sound.wrap (Sound.run1 (X := x_R1_IsName) (fn := Try.f89) (ann := (.s .n (.s .n .n))) false (Snd.of rfl (All.cons s_R1_IsWord All.nil) (fun _ => Sound.none)) Try.func89 Try.call89 (fun a0 σ => by kernel_rfl)) _ _ _ rfl rfl
theorem s_R1_IsName : Sound Try.prog nmT 89 m_R1_IsName := w_R1_IsName
noncomputable def x_R1_Within : Fx := ⟨Try.prog, nmT, A.tab (fun _ _ => none) [], (fun _ _ _ => none), [], [], 15⟩
theorem w_R1_Within : Sound Try.prog nmT 21 (A.wrap true [] .k (A.ar3 (r_R1_Within))) :=
 Sound.wrap (Sound.run3 (X := x_R1_Within) (fn := Try.f21) (ann := (.s .n (.s .n .n))) false (Snd.of rfl All.nil (fun _ => Sound.none)) Try.func21 Try.call21 (fun a0 a1 a2 σ => by kernel_rfl)) _ _ _ rfl rfl
theorem s_R1_Within : Sound Try.prog nmT 21 m_R1_Within := w_R1_Within
noncomputable def x_R1_IsLevel : Fx := ⟨Try.prog, nmT, A.tab (fun _ _ => none) [(21, m_R1_Within)], (fun _ _ _ => none), [], [], 5⟩
theorem w_R1_IsLevel : Sound Try.prog nmT 48 (A.wrap true [] .k (A.ar1 (r_R1_IsLevel))) :=
 Sound.wrap (Sound.run1 (X := x_R1_IsLevel) (fn := Try.f48) (ann := (.s .n (.s .n .n))) false (Snd.of rfl (All.cons s_R1_Within All.nil) (fun _ => Sound.none)) Try.func48 Try.call48 (fun a0 σ => by kernel_rfl)) _ _ _ rfl rfl
theorem s_R1_IsLevel : Sound Try.prog nmT 48 m_R1_IsLevel := w_R1_IsLevel
noncomputable def x_R2_slots : Fx := ⟨Try.prog, nmT, A.tab (fun _ _ => none) [], (fun _ _ _ => none), [1], [], 14⟩
theorem w_R2_slots : Sound Try.prog nmT 96 (A.wrap true [(.a [.k, .k, .k, .k, .k, .k, (.s 3)])] (.s 1) (A.ar1 (r_R2_slots))) :=
 Sound.wrap (Sound.run1 (X := x_R2_slots) (fn := Try.f96) (ann := (.s .n (.s (.s .n (.j (.s .n .n) .n)) (.s .n .n)))) false (Snd.of rfl All.nil (fun _ => Sound.none)) Try.func96 Try.call96 (fun a0 σ => by kernel_rfl)) _ _ _ rfl rfl
theorem s_R2_slots : Sound Try.prog nmT 96 m_R2_slots := w_R2_slots
noncomputable def x_slices_Index_int : Fx := ⟨Try.prog, nmT, A.tab (fun _ _ => none) [], (fun _ _ _ => none), [], [], 19⟩
theorem w_slices_Index_int : Sound Try.prog nmT 98 (A.wrap true [(.s 1)] .k (A.ar2 (r_slices_Index_int))) :=
 Sound.wrap (Sound.run2 (X := x_slices_Index_int) (fn := Try.f98) (ann := (.s .n (.s (.s .n (.b (.l [4, 8] [.exit 0, .ret] (.s .n (.s (.j .n .n) (.s (.b (.s .n (.s .n (.j (.s .n .n) .n)))) .n)))))) (.s .n .n)))) false (Snd.of rfl All.nil (fun _ => Sound.none)) Try.func98 Try.call98 (fun a0 a1 σ => by kernel_rfl)) _ _ _ rfl rfl
theorem s_slices_Index_int : Sound Try.prog nmT 98 m_slices_Index_int := w_slices_Index_int
noncomputable def x_slices_Contains_int : Fx := ⟨Try.prog, nmT, A.tab (fun _ _ => none) [(98, m_slices_Index_int)], (fun _ _ _ => none), [], [], 9⟩
theorem w_slices_Contains_int : Sound Try.prog nmT 97 (A.wrap true [(.s 1)] .k (A.ar2 (r_slices_Contains_int))) :=
 Sound.wrap (Sound.run2 (X := x_slices_Contains_int) (fn := Try.f97) (ann := (.s .n (.s .n .n))) false (Snd.of rfl (All.cons s_slices_Index_int All.nil) (fun _ => Sound.none)) Try.func97 Try.call97 (fun a0 a1 σ => by kernel_rfl)) _ _ _ rfl rfl
theorem s_slices_Contains_int : Sound Try.prog nmT 97 m_slices_Contains_int := w_slices_Contains_int
noncomputable def x_R2_checkParam : Fx := ⟨Try.prog, nmT, A.tab (fun _ _ => none) [(89, m_R1_IsName), (21, m_R1_Within), (48, m_R1_IsLevel), (96, m_R2_slots), (97, m_slices_Contains_int)], (fun _ _ _ => none), [3, 8, 10, 14, 16], [], 148⟩
theorem w_R2_checkParam : Sound Try.prog nmT 90 (A.wrap true [(.a [.k, .k, .k, .k, .k, .k, (.s 3)]), (.s 7)] .k (A.ar3 (r_R2_checkParam))) :=
 Sound.wrap (Sound.run3 (X := x_R2_checkParam) (fn := Try.f90) (ann := (.s .n (.s (.s .n (.j (.s .n .n) .n)) (.s (.s .n (.b (.l [3, 6, 23] [.exit 0, .ret] (.s .n (.s (.j .n .n) (.s (.b (.s .n (.s .n (.j (.s .n .n) .n)))) .n)))))) (.s (.b (.s .n (.j (.s .n .n) (.s .n (.j (.s .n .n) (.s .n (.j (.s .n .n) .n))))))) (.s (.s .n (.b (.l [3, 6, 65] [.exit 3, .ret] (.s .n (.s (.j .n .n) (.s (.b (.s .n (.s .n (.b (.l [3, 6, 10, 72] [.exit 5, .ret] (.s .n (.s (.j .n .n) (.s (.b (.s .n (.s .n (.j (.s .n .n) .n)))) .n)))))))) .n)))))) (.s (.s .n (.j (.s .n .n) .n)) (.s (.s .n (.b (.l [3, 6, 89] [.exit 7, .ret] (.s .n (.s (.j .n .n) (.s (.b (.s .n (.s (.b (.s .n (.j (.s .n .n) (.s .n (.j (.s .n .n) (.s .n (.j (.s .n .n) .n))))))) (.s .n (.b (.l [3, 6, 14, 137] [.exit 10, .ret] (.s .n (.s (.j .n .n) (.s (.b (.s .n (.s .n (.j (.s .n .n) .n)))) .n))))))))) .n)))))) (.s .n .n))))))))) false (Snd.of rfl (All.cons s_R1_IsName (All.cons s_R1_Within (All.cons s_R1_IsLevel (All.cons s_R2_slots (All.cons s_slices_Contains_int All.nil))))) (fun _ => Sound.none)) Try.func90 Try.call90 (fun a0 a1 a2 σ => by kernel_rfl)) _ _ _ rfl rfl
theorem s_R2_checkParam : Sound Try.prog nmT 90 m_R2_checkParam := w_R2_checkParam
noncomputable def x_R2_CheckProfile : Fx := ⟨Try.prog, nmT, A.tab (fun _ _ => none) [(89, m_R1_IsName), (21, m_R1_Within), (90, m_R2_checkParam)], (fun _ _ _ => none), [1, 4], [], 46⟩
theorem w_R2_CheckProfile : Sound Try.prog nmT 81 (A.wrap true [(.a [.k, .k, (.s 7)])] .k (A.ar1 (r_R2_CheckProfile))) :=
 Sound.wrap (Sound.run1 (X := x_R2_CheckProfile) (fn := Try.f81) (ann := (.s .n (.s (.b (.s .n (.j (.s .n .n) (.s .n (.j (.s .n .n) (.s .n (.j (.s .n .n) (.s .n (.j (.s .n .n) .n))))))))) (.s (.s .n (.b (.l [1, 2, 29] [.exit 1, .ret] (.s .n (.s (.j .n .n) (.s (.b (.s .n (.s .n (.s .n (.j (.s .n .n) .n))))) .n)))))) (.s .n .n))))) false (Snd.of rfl (All.cons s_R1_IsName (All.cons s_R1_Within (All.cons s_R2_checkParam All.nil))) (fun _ => Sound.none)) Try.func81 Try.call81 (fun a0 σ => by kernel_rfl)) _ _ _ rfl rfl
theorem s_R2_CheckProfile : Sound Try.prog nmT 81 m_R2_CheckProfile := w_R2_CheckProfile
noncomputable def x_R2_CheckLibrary : Fx := ⟨Try.prog, nmT, A.tab (fun _ _ => none) [(81, m_R2_CheckProfile)], (fun _ _ _ => none), [4, 7], [], 38⟩
theorem w_R2_CheckLibrary : Sound Try.prog nmT 64 (A.wrap true [(.s 3)] .k (A.ar1 (r_R2_CheckLibrary))) :=
 Sound.wrap (Sound.run1 (X := x_R2_CheckLibrary) (fn := Try.f64) (ann := (.s .n (.s (.s .n (.j (.s .n .n) .n)) (.s (.s .n (.b (.l [2, 13] [.exit 0, .ret] (.s .n (.s (.j .n .n) (.s (.b (.s .n (.s (.s .n (.s .n (.j (.s .n .n) .n))) (.s .n (.b (.l [2, 4, 27] [.exit 2, .ret] (.s .n (.s (.j .n .n) (.s (.b (.s .n (.s .n (.j (.s .n .n) .n)))) .n))))))))) .n)))))) (.s .n .n))))) false (Snd.of rfl (All.cons s_R2_CheckProfile All.nil) (fun _ => Sound.none)) Try.func64 Try.call64 (fun a0 σ => by kernel_rfl)) _ _ _ rfl rfl
theorem s_R2_CheckLibrary : Sound Try.prog nmT 64 m_R2_CheckLibrary := w_R2_CheckLibrary
noncomputable def x_R2_Profile : Fx := ⟨Try.prog, nmT, A.tab (fun _ _ => none) [], (fun _ _ _ => none), [4, 7], [], 21⟩
theorem w_R2_Profile : Sound Try.prog nmT 65 (A.wrap true [(.s 3)] (.t [(.a [.k, .k, (.e 7 [.k, .k, .k, .k, .k, .k, (.s 3)])]), .k]) (A.ar2 (r_R2_Profile))) :=
 Sound.wrap (Sound.run2 (X := x_R2_Profile) (fn := Try.f65) (ann := (.s .n (.s (.s .n (.b (.l [4, 5, 10] [.exit 0, .ret] (.s .n (.s (.j .n .n) (.s (.b (.s .n (.s .n (.j (.s .n .n) .n)))) .n)))))) (.s .n .n)))) false (Snd.of rfl All.nil (fun _ => Sound.none)) Try.func65 Try.call65 (fun a0 a1 σ => by kernel_rfl)) _ _ _ rfl rfl
theorem s_R2_Profile : Sound Try.prog nmT 65 m_R2_Profile := w_R2_Profile
noncomputable def x_R2_last : Fx := ⟨Try.prog, nmT, A.tab (fun _ _ => none) [(65, m_R2_Profile)], (fun _ _ _ => none), [2, 3, 5], [], 21⟩
theorem w_R2_last : Sound Try.prog nmT 66 (A.wrap true [(.a [(.s 3), (.s 4)])] .k (A.ar2 (r_R2_last))) :=
 Sound.wrap (Sound.run2 (X := x_R2_last) (fn := Try.f66) (ann := (.s .n (.s .n (.s .n .n)))) false (Snd.of rfl (All.cons s_R2_Profile All.nil) (fun _ => Sound.none)) Try.func66 Try.call66 (fun a0 a1 σ => by kernel_rfl)) _ _ _ rfl rfl
theorem s_R2_last : Sound Try.prog nmT 66 m_R2_last := w_R2_last
noncomputable def x_R2_CheckRig : Fx := ⟨Try.prog, nmT, A.tab (fun _ _ => none) [(64, m_R2_CheckLibrary), (65, m_R2_Profile), (21, m_R1_Within), (66, m_R2_last)], (fun _ _ _ => none), [1, 5, 6, 9], [], 108⟩
theorem w_R2_CheckRig : Sound Try.prog nmT 45 (A.wrap true [(.a [(.s 3), (.s 4)])] .k (A.ar1 (r_R2_CheckRig))) :=
 Sound.wrap (Sound.run1 (X := x_R2_CheckRig) (fn := Try.f45) (ann := (.s .n (.s (.s .n (.s .n (.j (.s .n .n) .n))) (.s (.s .n (.j (.s .n .n) .n)) (.s (.s .n (.b (.l [1, 2, 23] [.exit 0, .ret] (.s .n (.s (.j .n .n) (.s (.b (.s .n (.s .n (.s (.b (.s .n (.j (.s .n .n) (.s .n (.j (.s .n .n) (.s .n (.j (.s .n .n) (.s .n (.j (.s .n .n) .n))))))))) (.s .n (.b (.l [1, 2, 5, 81] [.exit 3, .ret] (.s .n (.s (.j .n .n) (.s (.b (.s .n (.s .n (.j (.s .n .n) .n)))) .n)))))))))) .n)))))) (.s .n .n)))))) false (Snd.of rfl (All.cons s_R2_CheckLibrary (All.cons s_R2_Profile (All.cons s_R1_Within (All.cons s_R2_last All.nil)))) (fun _ => Sound.none)) Try.func45 Try.call45 (fun a0 σ => by kernel_rfl)) _ _ _ rfl rfl
theorem s_R2_CheckRig : Sound Try.prog nmT 45 m_R2_CheckRig := w_R2_CheckRig
noncomputable def x_R1_IsTitle : Fx := ⟨Try.prog, nmT, A.tab (fun _ _ => none) [], (fun _ _ _ => none), [], [], 40⟩
theorem w_R1_IsTitle : Sound Try.prog nmT 46 (A.wrap true [] .k (A.ar1 (r_R1_IsTitle))) :=
 Sound.wrap (Sound.run1 (X := x_R1_IsTitle) (fn := Try.f46) (ann := (.s .n (.s (.s .n (.j (.s .n .n) .n)) (.s (.s .n (.b (.l [2, 26] [.exit 0, .ret] (.s .n (.s (.j .n .n) (.s (.b (.s .n (.s .n (.j (.s .n .n) .n)))) .n)))))) (.s .n .n))))) false (Snd.of rfl All.nil (fun _ => Sound.none)) Try.func46 Try.call46 (fun a0 σ => by kernel_rfl)) _ _ _ rfl rfl
theorem s_R1_IsTitle : Sound Try.prog nmT 46 m_R1_IsTitle := w_R1_IsTitle
noncomputable def x_R2_unit : Fx := ⟨Try.prog, nmT, A.tab (fun _ _ => none) [], (fun _ _ _ => none), [2, 6], [], 21⟩
theorem w_R2_unit : Sound Try.prog nmT 67 (A.wrap true [(.a [(.s 3), (.s 4)])] .k (A.ar2 (r_R2_unit))) :=
 Sound.wrap (Sound.run2 (X := x_R2_unit) (fn := Try.f67) (ann := (.s .n (.s (.s .n (.b (.l [4, 10] [.exit 0, .ret] (.s .n (.s (.j .n .n) (.s (.b (.s .n (.s .n (.j (.s .n .n) .n)))) .n)))))) (.s .n .n)))) false (Snd.of rfl All.nil (fun _ => Sound.none)) Try.func67 Try.call67 (fun a0 a1 σ => by kernel_rfl)) _ _ _ rfl rfl
theorem s_R2_unit : Sound Try.prog nmT 67 m_R2_unit := w_R2_unit
noncomputable def x_R2_param : Fx := ⟨Try.prog, nmT, A.tab (fun _ _ => none) [], (fun _ _ _ => none), [2, 4, 7], [], 22⟩
theorem w_R2_param : Sound Try.prog nmT 68 (A.wrap true [(.a [.k, .k, (.s 7)])] (.t [(.a [.k, .k, .k, .k, .k, .k, (.s 3)]), .k]) (A.ar2 (r_R2_param))) :=
 Sound.wrap (Sound.run2 (X := x_R2_param) (fn := Try.f68) (ann := (.s .n (.s (.s .n (.b (.l [4, 5, 11] [.exit 0, .ret] (.s .n (.s (.j .n .n) (.s (.b (.s .n (.s .n (.j (.s .n .n) .n)))) .n)))))) (.s .n .n)))) false (Snd.of rfl All.nil (fun _ => Sound.none)) Try.func68 Try.call68 (fun a0 a1 σ => by kernel_rfl)) _ _ _ rfl rfl
theorem s_R2_param : Sound Try.prog nmT 68 m_R2_param := w_R2_param
noncomputable def x_R2_ParamOf : Fx := ⟨Try.prog, nmT, A.tab (fun _ _ => none) [(67, m_R2_unit), (65, m_R2_Profile), (68, m_R2_param)], (fun _ _ _ => none), [2, 3, 4, 7], [], 34⟩
theorem w_R2_ParamOf : Sound Try.prog nmT 47 (A.wrap true [(.a [(.s 3), (.s 4)])] (.t [(.a [.k, .k, .k, .k, .k, .k, (.s 3)]), .k]) (A.ar2 (r_R2_ParamOf))) :=
 Sound.wrap (Sound.run2 (X := x_R2_ParamOf) (fn := Try.f47) (ann := (.s .n (.s .n (.s (.s .n (.j (.s .n .n) .n)) (.s .n (.s .n .n)))))) false (Snd.of rfl (All.cons s_R2_unit (All.cons s_R2_Profile (All.cons s_R2_param All.nil))) (fun _ => Sound.none)) Try.func47 Try.call47 (fun a0 a1 σ => by kernel_rfl)) _ _ _ rfl rfl
theorem s_R2_ParamOf : Sound Try.prog nmT 47 m_R2_ParamOf := w_R2_ParamOf
noncomputable def x_R4_Before : Fx := ⟨Try.prog, nmT, A.tab (fun _ _ => none) [], (fun _ _ _ => none), [2, 3], [], 24⟩
theorem w_R4_Before : Sound Try.prog nmT 49 (A.wrap true [] .k (A.ar2 (r_R4_Before))) :=
 Sound.wrap (Sound.run2 (X := x_R4_Before) (fn := Try.f49) (ann := (.s .n (.s .n .n))) false (Snd.of rfl All.nil (fun _ => Sound.none)) Try.func49 Try.call49 (fun a0 a1 σ => by kernel_rfl)) _ _ _ rfl rfl
theorem s_R4_Before : Sound Try.prog nmT 49 m_R4_Before := w_R4_Before
noncomputable def x_R4_CheckPresets : Fx := ⟨Try.prog, nmT, A.tab (fun _ _ => none) [(45, m_R2_CheckRig), (21, m_R1_Within), (46, m_R1_IsTitle), (47, m_R2_ParamOf), (48, m_R1_IsLevel), (49, m_R4_Before)], (fun _ _ _ => none), [2, 7, 9, 10], [], 99⟩
theorem w_R4_CheckPresets : Sound Try.prog nmT 32 (A.wrap true [(.a [(.s 3), (.s 4)]), (.s 3)] .k (A.ar2 (r_R4_CheckPresets))) :=
 Sound.wrap (Sound.run2 (X := x_R4_CheckPresets) (fn := Try.f32) (ann := (.s .n (.s (.s .n (.s .n (.j (.s .n .n) .n))) (.s (.s .n (.j (.s .n .n) .n)) (.s (.s .n (.b (.l [2, 4, 22] [.exit 0, .ret] (.s .n (.s (.j .n .n) (.s (.b (.s .n (.s (.b (.s .n (.j (.s .n .n) (.s .n (.j (.s .n .n) (.s .n (.j (.s .n .n) (.s .n (.j (.s .n .n) .n))))))))) (.s .n (.b (.l [2, 4, 7, 64] [.exit 3, .ret] (.s .n (.s (.j .n .n) (.s (.b (.s .n (.s (.s .n (.s .n (.j (.s .n .n) .n))) (.s (.s .n (.j (.s .n .n) .n)) (.s .n (.j (.s .n .n) .n)))))) .n))))))))) .n)))))) (.s .n .n)))))) false (Snd.of rfl (All.cons s_R2_CheckRig (All.cons s_R1_Within (All.cons s_R1_IsTitle (All.cons s_R2_ParamOf (All.cons s_R1_IsLevel (All.cons s_R4_Before All.nil)))))) (fun _ => Sound.none)) Try.func32 Try.call32 (fun a0 a1 σ => by kernel_rfl)) _ _ _ rfl rfl
theorem s_R4_CheckPresets : Sound Try.prog nmT 32 m_R4_CheckPresets := w_R4_CheckPresets
noncomputable def x_R1_IsTime : Fx := ⟨Try.prog, nmT, A.tab (fun _ _ => none) [(21, m_R1_Within)], (fun _ _ _ => none), [], [], 5⟩
theorem w_R1_IsTime : Sound Try.prog nmT 52 (A.wrap true [] .k (A.ar1 (r_R1_IsTime))) :=
 Sound.wrap (Sound.run1 (X := x_R1_IsTime) (fn := Try.f52) (ann := (.s .n (.s .n .n))) false (Snd.of rfl (All.cons s_R1_Within All.nil) (fun _ => Sound.none)) Try.func52 Try.call52 (fun a0 σ => by kernel_rfl)) _ _ _ rfl rfl
theorem s_R1_IsTime : Sound Try.prog nmT 52 m_R1_IsTime := w_R1_IsTime
noncomputable def x_R1_CheckCurve : Fx := ⟨Try.prog, nmT, A.tab (fun _ _ => none) [(21, m_R1_Within)], (fun _ _ _ => none), [1, 4], [], 108⟩
theorem w_R1_CheckCurve : Sound Try.prog nmT 69 (A.wrap true [(.a [.k, (.s 2)])] .k (A.ar1 (r_R1_CheckCurve))) :=
 Sound.wrap (Sound.run1 (X := x_R1_CheckCurve) (fn := Try.f69) (ann := (.s .n (.s (.b (.s .n (.j (.s .n .n) (.s .n (.j (.s .n .n) (.s .n (.j (.s .n .n) (.s .n (.j (.s .n .n) (.s .n (.j (.s .n .n) .n))))))))))) (.s (.s .n (.b (.l [1, 2, 38] [.exit 1, .ret] (.s .n (.s (.j .n .n) (.s (.b (.s .n (.s .n (.j (.s .n .n) .n)))) .n)))))) (.s (.s .n (.j (.s .n .n) .n)) (.s (.s .n (.b (.l [1, 2, 5] [.exit 3, .ret] (.s (.s .n (.j .n .n)) (.s (.b (.s .n (.j (.s .n .n) .n))) .n))))) (.s .n .n))))))) false (Snd.of rfl (All.cons s_R1_Within All.nil) (fun _ => Sound.none)) Try.func69 Try.call69 (fun a0 σ => by kernel_rfl)) _ _ _ rfl rfl
theorem s_R1_CheckCurve : Sound Try.prog nmT 69 m_R1_CheckCurve := w_R1_CheckCurve
noncomputable def x_R5_checkMove : Fx := ⟨Try.prog, nmT, A.tab (fun _ _ => none) [(21, m_R1_Within), (89, m_R1_IsName), (48, m_R1_IsLevel), (52, m_R1_IsTime), (49, m_R4_Before)], (fun _ _ _ => none), [2], [], 93⟩
theorem w_R5_checkMove : Sound Try.prog nmT 82 (A.wrap true [.k, (.s 8)] .k (A.ar2 (r_R5_checkMove))) :=
 Sound.wrap (Sound.run2 (X := x_R5_checkMove) (fn := Try.f82) (ann := (.s .n (.s (.b (.s .n (.j (.s .n .n) (.s .n (.j (.s .n .n) (.s .n (.j (.s .n .n) (.s .n (.j (.s .n .n) (.s .n (.j (.s .n .n) (.s .n (.j (.s .n .n) (.s .n (.j (.s .n .n) .n))))))))))))))) (.s .n .n)))) false (Snd.of rfl (All.cons s_R1_Within (All.cons s_R1_IsName (All.cons s_R1_IsLevel (All.cons s_R1_IsTime (All.cons s_R4_Before All.nil))))) (fun _ => Sound.none)) Try.func82 Try.call82 (fun a0 a1 σ => by kernel_rfl)) _ _ _ rfl rfl
theorem s_R5_checkMove : Sound Try.prog nmT 82 m_R5_checkMove := w_R5_checkMove
noncomputable def x_R5_checkMoves : Fx := ⟨Try.prog, nmT, A.tab (fun _ _ => none) [(82, m_R5_checkMove)], (fun _ _ _ => none), [4], [], 25⟩
theorem w_R5_checkMoves : Sound Try.prog nmT 70 (A.wrap true [(.s 8)] .k (A.ar1 (r_R5_checkMoves))) :=
 Sound.wrap (Sound.run1 (X := x_R5_checkMoves) (fn := Try.f70) (ann := (.s .n (.s (.s .n (.j (.s .n .n) .n)) (.s (.s .n (.b (.l [2, 11] [.exit 0, .ret] (.s .n (.s (.j .n .n) (.s (.b (.s .n (.s .n (.s .n (.j (.s .n .n) .n))))) .n)))))) (.s .n .n))))) false (Snd.of rfl (All.cons s_R5_checkMove All.nil) (fun _ => Sound.none)) Try.func70 Try.call70 (fun a0 σ => by kernel_rfl)) _ _ _ rfl rfl
theorem s_R5_checkMoves : Sound Try.prog nmT 70 m_R5_checkMoves := w_R5_checkMoves
noncomputable def x_R5_CheckForm : Fx := ⟨Try.prog, nmT, A.tab (fun _ _ => none) [(21, m_R1_Within), (46, m_R1_IsTitle), (52, m_R1_IsTime), (69, m_R1_CheckCurve), (70, m_R5_checkMoves)], (fun _ _ _ => none), [5], [], 96⟩
theorem w_R5_CheckForm : Sound Try.prog nmT 50 (A.wrap true [(.s 11)] .k (A.ar1 (r_R5_CheckForm))) :=
 Sound.wrap (Sound.run1 (X := x_R5_CheckForm) (fn := Try.f50) (ann := (.s .n (.s (.s .n (.j (.s .n .n) .n)) (.s .n (.s (.s .n (.b (.l [2, 3, 13] [.exit 0, .ret] (.s .n (.s (.j .n .n) (.s (.b (.s .n (.s (.b (.s .n (.j (.s .n .n) (.s .n (.j (.s .n .n) (.s .n (.j (.s .n .n) (.s .n (.j (.s .n .n) .n))))))))) (.s (.s .n (.s .n (.j (.s .n .n) .n))) (.s (.s .n (.s .n (.j (.s .n .n) .n))) .n))))) .n)))))) (.s (.s .n (.j (.s .n .n) .n)) (.s .n .n))))))) false (Snd.of rfl (All.cons s_R1_Within (All.cons s_R1_IsTitle (All.cons s_R1_IsTime (All.cons s_R1_CheckCurve (All.cons s_R5_checkMoves All.nil))))) (fun _ => Sound.none)) Try.func50 Try.call50 (fun a0 σ => by kernel_rfl)) _ _ _ rfl rfl
theorem s_R5_CheckForm : Sound Try.prog nmT 50 m_R5_CheckForm := w_R5_CheckForm
noncomputable def x_R4_PresetOf : Fx := ⟨Try.prog, nmT, A.tab (fun _ _ => none) [], (fun _ _ _ => none), [4, 7], [], 21⟩
theorem w_R4_PresetOf : Sound Try.prog nmT 71 (A.wrap true [(.s 3)] (.t [(.a [.k, .k, (.s 3)]), .k]) (A.ar2 (r_R4_PresetOf))) :=
 Sound.wrap (Sound.run2 (X := x_R4_PresetOf) (fn := Try.f71) (ann := (.s .n (.s (.s .n (.b (.l [4, 5, 10] [.exit 0, .ret] (.s .n (.s (.j .n .n) (.s (.b (.s .n (.s .n (.j (.s .n .n) .n)))) .n)))))) (.s .n .n)))) false (Snd.of rfl All.nil (fun _ => Sound.none)) Try.func71 Try.call71 (fun a0 a1 σ => by kernel_rfl)) _ _ _ rfl rfl
theorem s_R4_PresetOf : Sound Try.prog nmT 71 m_R4_PresetOf := w_R4_PresetOf
noncomputable def x_R4_Level : Fx := ⟨Try.prog, nmT, A.tab (fun _ _ => none) [(48, m_R1_IsLevel), (71, m_R4_PresetOf)], (fun _ _ _ => none), [4, 5, 8, 11], [], 55⟩
theorem w_R4_Level : Sound Try.prog nmT 51 (A.wrap true [(.s 3)] .k (A.ar3 (r_R4_Level))) :=
 Sound.wrap (Sound.run3 (X := x_R4_Level) (fn := Try.f51) (ann := (.s .n (.s (.b (.s .n (.j (.s .n .n) (.s .n (.j (.s .n .n) (.s .n (.j (.s .n .n) .n))))))) (.s .n (.s (.s .n (.j (.s .n .n) .n)) (.s (.s .n (.b (.l [4, 6, 7, 44] [.exit 1, .ret] (.s .n (.s (.j .n .n) (.s (.b (.s .n (.s .n (.j (.s .n .n) .n)))) .n)))))) (.s .n .n))))))) false (Snd.of rfl (All.cons s_R1_IsLevel (All.cons s_R4_PresetOf All.nil)) (fun _ => Sound.none)) Try.func51 Try.call51 (fun a0 a1 a2 σ => by kernel_rfl)) _ _ _ rfl rfl
theorem s_R4_Level : Sound Try.prog nmT 51 m_R4_Level := w_R4_Level
noncomputable def x_R5_CheckList : Fx := ⟨Try.prog, nmT, A.tab (fun _ _ => none) [(32, m_R4_CheckPresets), (50, m_R5_CheckForm), (47, m_R2_ParamOf), (51, m_R4_Level)], (fun _ _ _ => none), [3, 10, 12, 13], [], 64⟩
theorem w_R5_CheckList : Sound Try.prog nmT 33 (A.wrap true [(.a [(.s 3), (.s 4)]), (.s 3), (.s 11)] .k (A.ar3 (r_R5_CheckList))) :=
 Sound.wrap (Sound.run3 (X := x_R5_CheckList) (fn := Try.f33) (ann := (.s .n (.s (.s .n (.s .n (.j (.s .n .n) .n))) (.s (.s .n (.s .n (.j (.s .n .n) .n))) (.s (.s .n (.b (.l [3, 6, 30] [.exit 0, .ret] (.s .n (.s (.j .n .n) (.s (.b (.s .n (.s .n (.b (.l [3, 6, 37] [.exit 2, .ret] (.s .n (.s (.j .n .n) (.s (.b (.s .n (.s (.s .n (.s .n (.j (.s .n .n) .n))) (.s .n (.s .n (.j (.s .n .n) .n)))))) .n)))))))) .n)))))) (.s .n .n)))))) false (Snd.of rfl (All.cons s_R4_CheckPresets (All.cons s_R5_CheckForm (All.cons s_R2_ParamOf (All.cons s_R4_Level All.nil)))) (fun _ => Sound.none)) Try.func33 Try.call33 (fun a0 a1 a2 σ => by kernel_rfl)) _ _ _ rfl rfl
theorem s_R5_CheckList : Sound Try.prog nmT 33 m_R5_CheckList := w_R5_CheckList
noncomputable def x_R6_ListOf : Fx := ⟨Try.prog, nmT, A.tab (fun _ _ => none) [], (fun _ _ _ => none), [4, 7], [], 21⟩
theorem w_R6_ListOf : Sound Try.prog nmT 34 (A.wrap true [(.s 2)] (.t [(.a [.k, (.e 11 [.k, .k, .k, .k, .k, .k, .k, (.s 2), .k, .k, (.s 8)])]), .k]) (A.ar2 (r_R6_ListOf))) :=
 Sound.wrap (Sound.run2 (X := x_R6_ListOf) (fn := Try.f34) (ann := (.s .n (.s (.s .n (.b (.l [4, 5, 10] [.exit 0, .ret] (.s .n (.s (.j .n .n) (.s (.b (.s .n (.s .n (.j (.s .n .n) .n)))) .n)))))) (.s .n .n)))) false (Snd.of rfl All.nil (fun _ => Sound.none)) Try.func34 Try.call34 (fun a0 a1 σ => by kernel_rfl)) _ _ _ rfl rfl
theorem s_R6_ListOf : Sound Try.prog nmT 34 m_R6_ListOf := w_R6_ListOf
noncomputable def x_R6_CheckSetup : Fx := ⟨Try.prog, nmT, A.tab (fun _ _ => none) [(32, m_R4_CheckPresets), (21, m_R1_Within), (33, m_R5_CheckList), (34, m_R6_ListOf)], (fun _ _ _ => none), [1, 5, 8, 9], [], 111⟩
theorem w_R6_CheckSetup : Sound Try.prog nmT 19 (A.wrap true [(.a [(.s 3), (.s 4), (.s 3), (.s 2), (.s 3)])] .k (A.ar1 (r_R6_CheckSetup))) :=
 Sound.wrap (Sound.run1 (X := x_R6_CheckSetup) (fn := Try.f19) (ann := (.s .n (.s (.s .n (.s .n (.j (.s .n .n) .n))) (.s (.s .n (.j (.s .n .n) .n)) (.s (.s .n (.b (.l [1, 2, 26] [.exit 0, .ret] (.s .n (.s (.j .n .n) (.s (.b (.s .n (.s (.b (.s .n (.j (.s .n .n) (.s .n (.j (.s .n .n) .n))))) (.s .n (.s .n (.j (.s .n .n) .n)))))) .n)))))) (.s (.s .n (.j (.s .n .n) .n)) (.s (.s .n (.b (.l [1, 2, 69] [.exit 3, .ret] (.s .n (.s (.j .n .n) (.s (.b (.s .n (.s .n (.b (.s .n (.j (.s .n .n) (.s .n (.j (.s .n .n) (.s .n (.j (.s .n .n) (.s .n (.j (.s .n .n) .n)))))))))))) .n)))))) (.s .n .n)))))))) false (Snd.of rfl (All.cons s_R4_CheckPresets (All.cons s_R1_Within (All.cons s_R5_CheckList (All.cons s_R6_ListOf All.nil)))) (fun _ => Sound.none)) Try.func19 Try.call19 (fun a0 σ => by kernel_rfl)) _ _ _ rfl rfl
theorem s_R6_CheckSetup : Sound Try.prog nmT 19 m_R6_CheckSetup := w_R6_CheckSetup
noncomputable def x_R8_counted : Fx := ⟨Try.prog, nmT, A.tab (fun _ _ => none) [], (fun _ _ _ => none), [], [], 11⟩
theorem w_R8_counted : Sound Try.prog nmT 20 (A.wrap true [] .k (A.ar1 (r_R8_counted))) :=
 Sound.wrap (Sound.run1 (X := x_R8_counted) (fn := Try.f20) (ann := (.s .n (.s (.s .n (.b (.s (.s .n (.c [4] .n (.s .n (.c [4] .n .n)))) (.j (.s .n .n) (.s .n (.j (.s .n .n) .n)))))) (.s .n .n)))) false (Snd.of rfl All.nil (fun _ => Sound.none)) Try.func20 Try.call20 (fun a0 σ => by kernel_rfl)) _ _ _ rfl rfl
theorem s_R8_counted : Sound Try.prog nmT 20 m_R8_counted := w_R8_counted
noncomputable def x_R8_minute : Fx := ⟨Try.prog, nmT, A.tab (fun _ _ => none) [(20, m_R8_counted)], (fun _ _ _ => none), [], [], 19⟩
theorem w_R8_minute : Sound Try.prog nmT 23 (A.wrap true [] .k (A.ar2 (r_R8_minute))) :=
 Sound.wrap (Sound.run2 (X := x_R8_minute) (fn := Try.f23) (ann := (.s .n (.s .n (.s (.s .n (.c [5] .n .n)) (.s .n .n))))) false (Snd.of rfl (All.cons s_R8_counted All.nil) (fun _ => Sound.none)) Try.func23 Try.call23 (fun a0 a1 σ => by kernel_rfl)) _ _ _ rfl rfl
theorem s_R8_minute : Sound Try.prog nmT 23 m_R8_minute := w_R8_minute
noncomputable def x_R8_day : Fx := ⟨Try.prog, nmT, A.tab (fun _ _ => none) [(23, m_R8_minute)], (fun _ _ _ => none), [], [], 15⟩
theorem w_R8_day : Sound Try.prog nmT 12 (A.wrap true [] .k (A.ar1 (r_R8_day))) :=
 Sound.wrap (Sound.run1 (X := x_R8_day) (fn := Try.f12) (ann := (.s .n (.s .n (.s (.s .n (.b (.l [3, 5] [.exit 0] (.s .n (.s (.j .n .n) (.s (.b (.s .n .n)) .n)))))) (.s .n .n))))) false (Snd.of rfl (All.cons s_R8_minute All.nil) (fun _ => Sound.none)) Try.func12 Try.call12 (fun a0 σ => by kernel_rfl)) _ _ _ rfl rfl
theorem s_R8_day : Sound Try.prog nmT 12 m_R8_day := w_R8_day
end Go.Proofs.Ytohbeolimnpehaa

/- That the code of each function computes what its mirror says. Written by a program. -/
namespace Go.Proofs.Ytohbeolimnpehaa
set_option linter.unusedSectionVars false
set_option maxRecDepth 100000
set_option linter.unusedVariables false
set_option linter.unusedSimpArgs false
noncomputable def x_R6_ActionForm : Fx := ⟨Try.prog, nmT, A.tab (fun _ _ => none) [(21, m_R1_Within)], (fun _ _ _ => none), [1], [], 45⟩
theorem w_R6_ActionForm : Sound Try.prog nmT 35 (A.wrap true [] .k (A.ar1 (r_R6_ActionForm))) :=
 Sound.wrap (Sound.run1 (X := x_R6_ActionForm) (fn := Try.f35) (ann := (.s .n (.s (.s .n (.j (.s .n .n) .n)) (.s .n (.s .n (.s (.s .n (.j (.s .n .n) .n)) (.s .n .n))))))) false (Snd.of rfl (All.cons s_R1_Within All.nil) (fun _ => Sound.none)) Try.func35 Try.call35 (fun a0 σ => by kernel_rfl)) _ _ _ rfl rfl
theorem s_R6_ActionForm : Sound Try.prog nmT 35 m_R6_ActionForm := w_R6_ActionForm
noncomputable def x_R8_playbackOf : Fx := ⟨Try.prog, nmT, A.tab (fun _ _ => none) [], (fun _ _ _ => none), [2, 4, 7], [], 22⟩
theorem w_R8_playbackOf : Sound Try.prog nmT 36 (A.wrap true [(.a [(.s 3), (.s 4), (.s 3), (.s 2), (.s 3)])] .k (A.ar2 (r_R8_playbackOf))) :=
 Sound.wrap (Sound.run2 (X := x_R8_playbackOf) (fn := Try.f36) (ann := (.s .n (.s (.s .n (.b (.l [4, 5, 11] [.exit 0, .ret] (.s .n (.s (.j .n .n) (.s (.b (.s .n (.s .n (.j (.s .n .n) .n)))) .n)))))) (.s .n .n)))) false (Snd.of rfl All.nil (fun _ => Sound.none)) Try.func36 Try.call36 (fun a0 a1 σ => by kernel_rfl)) _ _ _ rfl rfl
theorem s_R8_playbackOf : Sound Try.prog nmT 36 m_R8_playbackOf := w_R8_playbackOf
noncomputable def x_R6_LevelForm : Fx := ⟨Try.prog, nmT, A.tab (fun _ _ => none) [(48, m_R1_IsLevel), (52, m_R1_IsTime), (21, m_R1_Within)], (fun _ _ _ => none), [1], [], 38⟩
theorem w_R6_LevelForm : Sound Try.prog nmT 37 (A.wrap true [] .k (A.ar1 (r_R6_LevelForm))) :=
 Sound.wrap (Sound.run1 (X := x_R6_LevelForm) (fn := Try.f37) (ann := (.s .n (.s (.b (.s .n (.j (.s .n .n) (.s .n (.j (.s .n .n) (.s .n (.j (.s .n .n) .n))))))) (.s .n .n)))) false (Snd.of rfl (All.cons s_R1_IsLevel (All.cons s_R1_IsTime (All.cons s_R1_Within All.nil))) (fun _ => Sound.none)) Try.func37 Try.call37 (fun a0 σ => by kernel_rfl)) _ _ _ rfl rfl
theorem s_R6_LevelForm : Sound Try.prog nmT 37 m_R6_LevelForm := w_R6_LevelForm
noncomputable def x_R5_At : Fx := ⟨Try.prog, nmT, A.tab (fun _ _ => none) [], (fun _ _ _ => none), [6], [], 20⟩
theorem w_R5_At : Sound Try.prog nmT 38 (A.wrap true [(.s 11)] .k (A.ar2 (r_R5_At))) :=
 Sound.wrap (Sound.run2 (X := x_R5_At) (fn := Try.f38) (ann := (.s .n (.s (.s .n (.b (.l [4, 9] [.exit 0, .ret] (.s .n (.s (.j .n .n) (.s (.b (.s .n (.s .n (.j (.s .n .n) .n)))) .n)))))) (.s .n .n)))) false (Snd.of rfl All.nil (fun _ => Sound.none)) Try.func38 Try.call38 (fun a0 a1 σ => by kernel_rfl)) _ _ _ rfl rfl
theorem s_R5_At : Sound Try.prog nmT 38 m_R5_At := w_R5_At
noncomputable def x_R8_checkAction : Fx := ⟨Try.prog, nmT, A.tab (fun _ _ => none) [(35, m_R6_ActionForm), (36, m_R8_playbackOf), (37, m_R6_LevelForm), (34, m_R6_ListOf), (38, m_R5_At)], (fun _ _ _ => none), [2, 3, 6, 9], [], 60⟩
theorem w_R8_checkAction : Sound Try.prog nmT 22 (A.wrap true [(.a [(.s 3), (.s 4), (.s 3), (.s 2), (.s 3)])] .k (A.ar2 (r_R8_checkAction))) :=
 Sound.wrap (Sound.run2 (X := x_R8_checkAction) (fn := Try.f22) (ann := (.s .n (.s (.s .n (.s .n (.j (.s .n .n) .n))) (.s (.s .n (.j (.s .n .n) .n)) (.s .n (.s (.s .n (.j (.s .n .n) .n)) (.s (.s .n (.s .n (.j (.s .n .n) .n))) (.s (.s .n (.j (.s .n (.s .n (.j (.s .n .n) .n))) .n)) (.s .n .n))))))))) false (Snd.of rfl (All.cons s_R6_ActionForm (All.cons s_R8_playbackOf (All.cons s_R6_LevelForm (All.cons s_R6_ListOf (All.cons s_R5_At All.nil))))) (fun _ => Sound.none)) Try.func22 Try.call22 (fun a0 a1 σ => by kernel_rfl)) _ _ _ rfl rfl
theorem s_R8_checkAction : Sound Try.prog nmT 22 m_R8_checkAction := w_R8_checkAction
noncomputable def x_R8_CheckEvents : Fx := ⟨Try.prog, nmT, A.tab (fun _ _ => none) [(19, m_R6_CheckSetup), (20, m_R8_counted), (12, m_R8_day), (21, m_R1_Within), (22, m_R8_checkAction)], (fun _ _ _ => none), [3, 9], [], 61⟩
theorem w_R8_CheckEvents : Sound Try.prog nmT 11 (A.wrap true [(.a [(.s 3), (.s 4), (.s 3), (.s 2), (.s 3)]), .k, (.s 6)] .k (A.ar3 (r_R8_CheckEvents))) :=
 Sound.wrap (Sound.run3 (X := x_R8_CheckEvents) (fn := Try.f11) (ann := (.s .n (.s (.s .n (.s .n (.j (.s .n .n) .n))) (.s (.b (.s .n (.j (.s .n .n) (.s .n (.j (.s .n .n) .n))))) (.s (.s .n (.b (.l [3, 6, 26] [.exit 1, .ret] (.s .n (.s (.j .n .n) (.s (.b (.s .n (.s (.b (.s .n (.j (.s .n .n) (.s .n (.j (.s .n .n) .n))))) (.s .n (.s .n (.j (.s .n .n) .n)))))) .n)))))) (.s .n .n)))))) false (Snd.of rfl (All.cons s_R6_CheckSetup (All.cons s_R8_counted (All.cons s_R8_day (All.cons s_R1_Within (All.cons s_R8_checkAction All.nil))))) (fun _ => Sound.none)) Try.func11 Try.call11 (fun a0 a1 a2 σ => by kernel_rfl)) _ _ _ rfl rfl
theorem s_R8_CheckEvents : Sound Try.prog nmT 11 m_R8_CheckEvents := w_R8_CheckEvents
noncomputable def x_R8_Due : Fx := ⟨Try.prog, nmT, A.tab (fun _ _ => none) [(11, m_R8_CheckEvents), (12, m_R8_day)], (fun _ _ _ => none), [5, 15], [], 58⟩
theorem w_R8_Due : Sound Try.prog nmT 6 (A.wrap true [(.a [(.s 3), (.s 4), (.s 3), (.s 2), (.s 3)]), .k, (.s 6)] (.t [(.s 6), .k]) (A.ar5 (r_R8_Due))) :=
 Sound.wrap (Sound.run5 (X := x_R8_Due) (fn := Try.f6) (ann := (.s .n (.s (.s .n (.s .n (.j (.s .n .n) .n))) (.s (.s .n (.j (.s .n .n) .n)) (.s .n (.s (.s .n (.b (.l [13, 38] [.exit 0] (.s .n (.s (.j .n .n) (.s (.b (.s .n (.s .n (.c [13] .n .n)))) .n)))))) (.s .n .n))))))) false (Snd.of rfl (All.cons s_R8_CheckEvents (All.cons s_R8_day All.nil)) (fun _ => Sound.none)) Try.func6 Try.call6 (fun a0 a1 a2 a3 a4 σ => by kernel_rfl)) _ _ _ rfl rfl
theorem s_R8_Due : Sound Try.prog nmT 6 m_R8_Due := w_R8_Due
noncomputable def x_slices_Equal_api_Event : Fx := ⟨Try.prog, nmT, A.tab (fun _ _ => none) [], (fun _ _ _ => none), [], [], 26⟩
theorem w_slices_Equal_api_Event : Sound Try.prog nmT 7 (A.wrap true [(.s 6), (.s 6)] .k (A.ar2 (r_slices_Equal_api_Event))) :=
 Sound.wrap (Sound.run2 (X := x_slices_Equal_api_Event) (fn := Try.f7) (ann := (.s .n (.s (.s .n (.j (.s .n .n) .n)) (.s (.s .n (.b (.l [4, 13] [.exit 0, .ret] (.s .n (.s (.j .n .n) (.s (.b (.s .n (.s .n (.j (.s .n .n) .n)))) .n)))))) (.s .n .n))))) false (Snd.of rfl All.nil (fun _ => Sound.none)) Try.func7 Try.call7 (fun a0 a1 σ => by kernel_rfl)) _ _ _ rfl rfl
theorem s_slices_Equal_api_Event : Sound Try.prog nmT 7 m_slices_Equal_api_Event := w_slices_Equal_api_Event
noncomputable def x_W8_StampDueMatchesSpec : Fx := ⟨Try.prog, nmT, A.tab (fun _ _ => none) [(5, m_stamp_Due), (6, m_R8_Due), (7, m_slices_Equal_api_Event)], (fun _ _ _ => none), [5], [], 41⟩
theorem w_W8_StampDueMatchesSpec : Sound Try.prog nmT 3 (A.wrap true [(.a [(.s 3), (.s 4), (.s 3), (.s 2), (.s 3)]), .k, (.s 6)] .k (A.ar5 (r_W8_StampDueMatchesSpec))) :=
 Sound.wrap (Sound.run5 (X := x_W8_StampDueMatchesSpec) (fn := Try.f3) (ann := (.s .n (.s .n (.s .n (.s .n .n))))) false (Snd.of rfl (All.cons s_stamp_Due (All.cons s_R8_Due (All.cons s_slices_Equal_api_Event All.nil))) (fun _ => Sound.none)) Try.func3 Try.call3 (fun a0 a1 a2 a3 a4 σ => by kernel_rfl)) _ _ _ rfl rfl
theorem s_W8_StampDueMatchesSpec : Sound Try.prog nmT 3 m_W8_StampDueMatchesSpec := w_W8_StampDueMatchesSpec
end Go.Proofs.Ytohbeolimnpehaa

/- The step from a law's walk to its row: whatever the arguments, if the call returns true and leaves all that was there as it was, the row's postcondition holds. -/
namespace Go.Proofs.Ytohbeolimnpehaa
set_option linter.unusedSectionVars false
set_option linter.unusedSimpArgs false
set_option linter.unusedVariables false
open Go.ChangeShapes Go.WideShapes Go.ChangeAt Go.RowKit

theorem own : ownKnob Try.prog.godebug = none := by kernel_rfl
theorem laidOut : laidOutB Try.prog = true := by kernel_rfl

theorem trodAll_below {H : Type} {enc : TypeId × Value → H} {P : Program} (hl : laidOutB P = true) {W W' : World} (hb : Below W.heap.size W W') :
  ∀ {ts : List TypeId} {vs : List Value} {ds : List (DataW H)} {ps : List MemPlace}, (ts.all fun t => P.readableRec t && decide (t < P.types.size)) = true →
   DataW.TrodAll enc P W 0 (fun _ => true) true ts vs ds ps → (∀ x ∈ ps, x.block < W.heap.size) → DataW.TrodAll enc P W' 0 (fun b => decide (b < W.heap.size)) true ts vs ds ps
 | [], [], [], _, _, h, _ => h
 | t :: ts, v :: vs, d :: ds, ps, hts, h, hlt => by
  obtain ⟨p, q, h1, h2, rfl⟩ := h
  simp only [List.all_cons, Bool.and_eq_true, decide_eq_true_eq] at hts
  exact ⟨p, q, Below.trod hl hts.1.1 hts.1.2 h1 hb (fun x hx => hlt x (List.mem_append_left _ hx)),
   trodAll_below hl hb (by simpa using hts.2) h2 (fun x hx => hlt x (List.mem_append_right _ hx)), rfl⟩
 | [], _ :: _, _, _, _, h, _ => h.elim
 | [], [], _ :: _, _, _, h, _ => h.elim
 | _ :: _, [], _, _, _, h, _ => h.elim
 | _ :: _, _ :: _, [], _, _, h, _ => h.elim

/-- A law's postcondition, out of 'true' and 'Below'. -/
theorem law_post {H : Type} {enc : TypeId × Value → H} {f : Func} {s : ChangeSpec} {W W' : World} {args : Array Value} {ds gs : List (DataW H)} {before : List MemPlace} {t : TypeId}
  (hts : (f.params.toList.all fun t => Try.prog.readableRec t && decide (t < Try.prog.types.size)) = true) (hrt : f.resultTypes = #[t]) (ht : Try.prog.underlying t = some .bool) (hvs : s.vars = [])
  (hW : DataW.Whole enc Try.prog f.params.toList s.vars false W args.toList ds gs before) (hb : Below W.heap.size W W')
  (hspec : s.fn H (ds ++ gs) = { results := [.lit (.bool true)], args := ds }) :
  s.post enc Try.prog f false true false false W args (.bool true) W' := by
 have hW' := hW
 obtain ⟨p, q, hA, hV, rfl, hfz, hnd⟩ := hW
 have hlt : ∀ x ∈ p ++ q, x.block < W.heap.size := fun x hx => hW'.lt x hx
 refine ⟨ds, gs, p ++ q, [], p, [], hW', ?_, ?_, ?_, hb.frame _, fun h => by cases h⟩
 ·rw [hspec, hrt]
  exact trodAll_cons_mk (shut_bool ht _) trodAll_mk0
 ·rw [hspec]
  exact trodAll_below laidOut hb hts hA (fun x hx => hlt x (List.mem_append_left _ hx))
 ·rw [hspec, hvs]
  exact rfl
end Go.Proofs.Ytohbeolimnpehaa

/- The base of this seat's texts: 'Gr' (nothing that was there has changed), boxes, small lemmas. -/
namespace Go.Proofs.Ytohbeolimnpehaa
set_option linter.unusedSectionVars false
open Go.RowKit
set_option linter.unusedVariables false
set_option linter.unusedSimpArgs false

/-- Nothing that was there has changed; there may be more memory. -/
def Gr (w w' : World) : Prop := Below w.heap.size w w'
theorem Gr.refl (w : World) : Gr w w := Below.refl _ _
theorem Gr.below {w w' : World} (h : Gr w w') : Below w.heap.size w w' := h
theorem Gr.of {w w' : World} (h : Below w.heap.size w w') : Gr w w' := h
theorem Gr.trans {a b c : World} (h : Gr a b) (k : Gr b c) : Gr a c := Below.trans h (Below.mono k (Below.size h))
theorem Gr.alloc {a b : World} (h : Gr a b) (o : Obj) : Gr a (b.alloc o) := Below.alloc h (Below.size h) o
theorem Gr.drew {a b : World} (h : Gr a b) : Gr a b.drew := Below.drew h
theorem Gr.set {a b : World} (h : Gr a b) {k o : Nat} (hp : a.heap.size ≤ k) (u : Value) : Gr a (b.setCell ⟨k, o, none⟩ u) := Below.setCell h hp u
theorem Gr.put {a b : World} {k o : Nat} (hp : a.heap.size ≤ k) (h : Gr a b) (u : Value) : Gr a (b.setCell ⟨k, o, none⟩ u) := Below.setCell h hp u
theorem Gr.after {a b c : World} (k : Gr b c) (h : Gr a b) : Gr a c := h.trans k
theorem Gr.size {a b : World} (h : Gr a b) : a.heap.size ≤ b.heap.size := Below.size h
theorem Gr.cell {a b : World} (h : Gr a b) {p : Addr} {v : Value} (hc : a.cell? p = some v) : b.cell? p = some v := by
 by_cases hp : p.block < a.heap.size
 ·rw [Below.cell h hp]; exact hc
 ·have : a.heap[p.block]? = none := Array.getElem?_eq_none (by omega)
  simp [World.cell?, this] at hc
theorem Gr.free {a b : World} (h : Gr a b) {p : Addr} (hp : p.block < a.heap.size) {x : Bool} (hc : a.frozen? p = x) : b.frozen? p = x := by
 rw [Below.frozen h hp]; exact hc
theorem Gr.lt {w w1 : World} {o : Obj} (h : Gr (w.alloc o) w1) : w.heap.size < w1.heap.size := by have := h.size; simp at this; omega
/-- Block b has these cells, and may be written. -/
abbrev Box1 (w : World) (b : Nat) (v0 : Value) : Prop := (w.cell? ⟨b, 0, none⟩ = some v0) ∧ (w.frozen? ⟨b, 0, none⟩ = false) ∧ b < w.heap.size
theorem Box1.mono {w w1 : World} {b : Nat} {v0 : Value} (k : Box1 w b v0) (h : Gr w w1) : Box1 w1 b v0 := by
 obtain ⟨k0, f0, hlt⟩ := k
 exact ⟨h.cell k0, h.free (by exact hlt) f0, Nat.lt_of_lt_of_le hlt h.size⟩
theorem Box1.of {w : World} {b : Nat} {v0 : Value} {t : TypeId} (h : w.heap[b]? = some (.cells #[v0] t (0, 0))) : Box1 w b v0 := by
 have hlt : b < w.heap.size := (Array.getElem?_eq_some_iff.1 h).1
 refine ⟨?_, ?_, hlt⟩ <;> simp [World.cell?, World.frozen?, h]
theorem Box1.at {w w1 : World} {b : Nat} {v0 : Value} {t : TypeId} (g : Gr w w1) (h : w.heap[b]? = some (.cells #[v0] t (0, 0))) : Box1 w1 b v0 := (Box1.of h).mono g
/-- Block b has these cells, and may be written. -/
abbrev Box2 (w : World) (b : Nat) (v0 v1 : Value) : Prop := (w.cell? ⟨b, 0, none⟩ = some v0 ∧ w.cell? ⟨b, 1, none⟩ = some v1) ∧ (w.frozen? ⟨b, 0, none⟩ = false ∧ w.frozen? ⟨b, 1, none⟩ = false) ∧ b < w.heap.size
theorem Box2.mono {w w1 : World} {b : Nat} {v0 v1 : Value} (k : Box2 w b v0 v1) (h : Gr w w1) : Box2 w1 b v0 v1 := by
 obtain ⟨⟨k0, k1⟩, ⟨f0, f1⟩, hlt⟩ := k
 exact ⟨⟨h.cell k0, h.cell k1⟩, ⟨h.free (by exact hlt) f0, h.free (by exact hlt) f1⟩, Nat.lt_of_lt_of_le hlt h.size⟩
theorem Box2.of {w : World} {b : Nat} {v0 v1 : Value} {t : TypeId} (h : w.heap[b]? = some (.cells #[v0, v1] t (0, 0))) : Box2 w b v0 v1 := by
 have hlt : b < w.heap.size := (Array.getElem?_eq_some_iff.1 h).1
 refine ⟨⟨?_, ?_⟩, ⟨?_, ?_⟩, hlt⟩ <;> simp [World.cell?, World.frozen?, h]
theorem Box2.at {w w1 : World} {b : Nat} {v0 v1 : Value} {t : TypeId} (g : Gr w w1) (h : w.heap[b]? = some (.cells #[v0, v1] t (0, 0))) : Box2 w1 b v0 v1 := (Box2.of h).mono g
/-- Block b has these cells, and may be written. -/
abbrev Box3 (w : World) (b : Nat) (v0 v1 v2 : Value) : Prop := (w.cell? ⟨b, 0, none⟩ = some v0 ∧ w.cell? ⟨b, 1, none⟩ = some v1 ∧ w.cell? ⟨b, 2, none⟩ = some v2) ∧ (w.frozen? ⟨b, 0, none⟩ = false ∧ w.frozen? ⟨b, 1, none⟩ = false ∧ w.frozen? ⟨b, 2, none⟩ = false) ∧ b < w.heap.size
theorem Box3.mono {w w1 : World} {b : Nat} {v0 v1 v2 : Value} (k : Box3 w b v0 v1 v2) (h : Gr w w1) : Box3 w1 b v0 v1 v2 := by
 obtain ⟨⟨k0, k1, k2⟩, ⟨f0, f1, f2⟩, hlt⟩ := k
 exact ⟨⟨h.cell k0, h.cell k1, h.cell k2⟩, ⟨h.free (by exact hlt) f0, h.free (by exact hlt) f1, h.free (by exact hlt) f2⟩, Nat.lt_of_lt_of_le hlt h.size⟩
theorem Box3.of {w : World} {b : Nat} {v0 v1 v2 : Value} {t : TypeId} (h : w.heap[b]? = some (.cells #[v0, v1, v2] t (0, 0))) : Box3 w b v0 v1 v2 := by
 have hlt : b < w.heap.size := (Array.getElem?_eq_some_iff.1 h).1
 refine ⟨⟨?_, ?_, ?_⟩, ⟨?_, ?_, ?_⟩, hlt⟩ <;> simp [World.cell?, World.frozen?, h]
theorem Box3.at {w w1 : World} {b : Nat} {v0 v1 v2 : Value} {t : TypeId} (g : Gr w w1) (h : w.heap[b]? = some (.cells #[v0, v1, v2] t (0, 0))) : Box3 w1 b v0 v1 v2 := (Box3.of h).mono g
/-- Block b has these cells, and may be written. -/
abbrev Box4 (w : World) (b : Nat) (v0 v1 v2 v3 : Value) : Prop := (w.cell? ⟨b, 0, none⟩ = some v0 ∧ w.cell? ⟨b, 1, none⟩ = some v1 ∧ w.cell? ⟨b, 2, none⟩ = some v2 ∧ w.cell? ⟨b, 3, none⟩ = some v3) ∧ (w.frozen? ⟨b, 0, none⟩ = false ∧ w.frozen? ⟨b, 1, none⟩ = false ∧ w.frozen? ⟨b, 2, none⟩ = false ∧ w.frozen? ⟨b, 3, none⟩ = false) ∧ b < w.heap.size
theorem Box4.mono {w w1 : World} {b : Nat} {v0 v1 v2 v3 : Value} (k : Box4 w b v0 v1 v2 v3) (h : Gr w w1) : Box4 w1 b v0 v1 v2 v3 := by
 obtain ⟨⟨k0, k1, k2, k3⟩, ⟨f0, f1, f2, f3⟩, hlt⟩ := k
 exact ⟨⟨h.cell k0, h.cell k1, h.cell k2, h.cell k3⟩, ⟨h.free (by exact hlt) f0, h.free (by exact hlt) f1, h.free (by exact hlt) f2, h.free (by exact hlt) f3⟩, Nat.lt_of_lt_of_le hlt h.size⟩
theorem Box4.of {w : World} {b : Nat} {v0 v1 v2 v3 : Value} {t : TypeId} (h : w.heap[b]? = some (.cells #[v0, v1, v2, v3] t (0, 0))) : Box4 w b v0 v1 v2 v3 := by
 have hlt : b < w.heap.size := (Array.getElem?_eq_some_iff.1 h).1
 refine ⟨⟨?_, ?_, ?_, ?_⟩, ⟨?_, ?_, ?_, ?_⟩, hlt⟩ <;> simp [World.cell?, World.frozen?, h]
theorem Box4.at {w w1 : World} {b : Nat} {v0 v1 v2 v3 : Value} {t : TypeId} (g : Gr w w1) (h : w.heap[b]? = some (.cells #[v0, v1, v2, v3] t (0, 0))) : Box4 w1 b v0 v1 v2 v3 := (Box4.of h).mono g
/-- Block b has these cells, and may be written. -/
abbrev Box5 (w : World) (b : Nat) (v0 v1 v2 v3 v4 : Value) : Prop := (w.cell? ⟨b, 0, none⟩ = some v0 ∧ w.cell? ⟨b, 1, none⟩ = some v1 ∧ w.cell? ⟨b, 2, none⟩ = some v2 ∧ w.cell? ⟨b, 3, none⟩ = some v3 ∧ w.cell? ⟨b, 4, none⟩ = some v4) ∧ (w.frozen? ⟨b, 0, none⟩ = false ∧ w.frozen? ⟨b, 1, none⟩ = false ∧ w.frozen? ⟨b, 2, none⟩ = false ∧ w.frozen? ⟨b, 3, none⟩ = false ∧ w.frozen? ⟨b, 4, none⟩ = false) ∧ b < w.heap.size
theorem Box5.mono {w w1 : World} {b : Nat} {v0 v1 v2 v3 v4 : Value} (k : Box5 w b v0 v1 v2 v3 v4) (h : Gr w w1) : Box5 w1 b v0 v1 v2 v3 v4 := by
 obtain ⟨⟨k0, k1, k2, k3, k4⟩, ⟨f0, f1, f2, f3, f4⟩, hlt⟩ := k
 exact ⟨⟨h.cell k0, h.cell k1, h.cell k2, h.cell k3, h.cell k4⟩, ⟨h.free (by exact hlt) f0, h.free (by exact hlt) f1, h.free (by exact hlt) f2, h.free (by exact hlt) f3, h.free (by exact hlt) f4⟩, Nat.lt_of_lt_of_le hlt h.size⟩
theorem Box5.of {w : World} {b : Nat} {v0 v1 v2 v3 v4 : Value} {t : TypeId} (h : w.heap[b]? = some (.cells #[v0, v1, v2, v3, v4] t (0, 0))) : Box5 w b v0 v1 v2 v3 v4 := by
 have hlt : b < w.heap.size := (Array.getElem?_eq_some_iff.1 h).1
 refine ⟨⟨?_, ?_, ?_, ?_, ?_⟩, ⟨?_, ?_, ?_, ?_, ?_⟩, hlt⟩ <;> simp [World.cell?, World.frozen?, h]
theorem Box5.at {w w1 : World} {b : Nat} {v0 v1 v2 v3 v4 : Value} {t : TypeId} (g : Gr w w1) (h : w.heap[b]? = some (.cells #[v0, v1, v2, v3, v4] t (0, 0))) : Box5 w1 b v0 v1 v2 v3 v4 := (Box5.of h).mono g
/-- Block b has these cells, and may be written. -/
abbrev Box6 (w : World) (b : Nat) (v0 v1 v2 v3 v4 v5 : Value) : Prop := (w.cell? ⟨b, 0, none⟩ = some v0 ∧ w.cell? ⟨b, 1, none⟩ = some v1 ∧ w.cell? ⟨b, 2, none⟩ = some v2 ∧ w.cell? ⟨b, 3, none⟩ = some v3 ∧ w.cell? ⟨b, 4, none⟩ = some v4 ∧ w.cell? ⟨b, 5, none⟩ = some v5) ∧ (w.frozen? ⟨b, 0, none⟩ = false ∧ w.frozen? ⟨b, 1, none⟩ = false ∧ w.frozen? ⟨b, 2, none⟩ = false ∧ w.frozen? ⟨b, 3, none⟩ = false ∧ w.frozen? ⟨b, 4, none⟩ = false ∧ w.frozen? ⟨b, 5, none⟩ = false) ∧ b < w.heap.size
theorem Box6.mono {w w1 : World} {b : Nat} {v0 v1 v2 v3 v4 v5 : Value} (k : Box6 w b v0 v1 v2 v3 v4 v5) (h : Gr w w1) : Box6 w1 b v0 v1 v2 v3 v4 v5 := by
 obtain ⟨⟨k0, k1, k2, k3, k4, k5⟩, ⟨f0, f1, f2, f3, f4, f5⟩, hlt⟩ := k
 exact ⟨⟨h.cell k0, h.cell k1, h.cell k2, h.cell k3, h.cell k4, h.cell k5⟩, ⟨h.free (by exact hlt) f0, h.free (by exact hlt) f1, h.free (by exact hlt) f2, h.free (by exact hlt) f3, h.free (by exact hlt) f4, h.free (by exact hlt) f5⟩, Nat.lt_of_lt_of_le hlt h.size⟩
theorem Box6.of {w : World} {b : Nat} {v0 v1 v2 v3 v4 v5 : Value} {t : TypeId} (h : w.heap[b]? = some (.cells #[v0, v1, v2, v3, v4, v5] t (0, 0))) : Box6 w b v0 v1 v2 v3 v4 v5 := by
 have hlt : b < w.heap.size := (Array.getElem?_eq_some_iff.1 h).1
 refine ⟨⟨?_, ?_, ?_, ?_, ?_, ?_⟩, ⟨?_, ?_, ?_, ?_, ?_, ?_⟩, hlt⟩ <;> simp [World.cell?, World.frozen?, h]
theorem Box6.at {w w1 : World} {b : Nat} {v0 v1 v2 v3 v4 v5 : Value} {t : TypeId} (g : Gr w w1) (h : w.heap[b]? = some (.cells #[v0, v1, v2, v3, v4, v5] t (0, 0))) : Box6 w1 b v0 v1 v2 v3 v4 v5 := (Box6.of h).mono g
/-- Block b has these cells, and may be written. -/
abbrev Box7 (w : World) (b : Nat) (v0 v1 v2 v3 v4 v5 v6 : Value) : Prop := (w.cell? ⟨b, 0, none⟩ = some v0 ∧ w.cell? ⟨b, 1, none⟩ = some v1 ∧ w.cell? ⟨b, 2, none⟩ = some v2 ∧ w.cell? ⟨b, 3, none⟩ = some v3 ∧ w.cell? ⟨b, 4, none⟩ = some v4 ∧ w.cell? ⟨b, 5, none⟩ = some v5 ∧ w.cell? ⟨b, 6, none⟩ = some v6) ∧ (w.frozen? ⟨b, 0, none⟩ = false ∧ w.frozen? ⟨b, 1, none⟩ = false ∧ w.frozen? ⟨b, 2, none⟩ = false ∧ w.frozen? ⟨b, 3, none⟩ = false ∧ w.frozen? ⟨b, 4, none⟩ = false ∧ w.frozen? ⟨b, 5, none⟩ = false ∧ w.frozen? ⟨b, 6, none⟩ = false) ∧ b < w.heap.size
theorem Box7.mono {w w1 : World} {b : Nat} {v0 v1 v2 v3 v4 v5 v6 : Value} (k : Box7 w b v0 v1 v2 v3 v4 v5 v6) (h : Gr w w1) : Box7 w1 b v0 v1 v2 v3 v4 v5 v6 := by
 obtain ⟨⟨k0, k1, k2, k3, k4, k5, k6⟩, ⟨f0, f1, f2, f3, f4, f5, f6⟩, hlt⟩ := k
 exact ⟨⟨h.cell k0, h.cell k1, h.cell k2, h.cell k3, h.cell k4, h.cell k5, h.cell k6⟩, ⟨h.free (by exact hlt) f0, h.free (by exact hlt) f1, h.free (by exact hlt) f2, h.free (by exact hlt) f3, h.free (by exact hlt) f4, h.free (by exact hlt) f5, h.free (by exact hlt) f6⟩, Nat.lt_of_lt_of_le hlt h.size⟩
theorem Box7.of {w : World} {b : Nat} {v0 v1 v2 v3 v4 v5 v6 : Value} {t : TypeId} (h : w.heap[b]? = some (.cells #[v0, v1, v2, v3, v4, v5, v6] t (0, 0))) : Box7 w b v0 v1 v2 v3 v4 v5 v6 := by
 have hlt : b < w.heap.size := (Array.getElem?_eq_some_iff.1 h).1
 refine ⟨⟨?_, ?_, ?_, ?_, ?_, ?_, ?_⟩, ⟨?_, ?_, ?_, ?_, ?_, ?_, ?_⟩, hlt⟩ <;> simp [World.cell?, World.frozen?, h]
theorem Box7.at {w w1 : World} {b : Nat} {v0 v1 v2 v3 v4 v5 v6 : Value} {t : TypeId} (g : Gr w w1) (h : w.heap[b]? = some (.cells #[v0, v1, v2, v3, v4, v5, v6] t (0, 0))) : Box7 w1 b v0 v1 v2 v3 v4 v5 v6 := (Box7.of h).mono g
/-- Block b has these cells, and may be written. -/
abbrev Box8 (w : World) (b : Nat) (v0 v1 v2 v3 v4 v5 v6 v7 : Value) : Prop := (w.cell? ⟨b, 0, none⟩ = some v0 ∧ w.cell? ⟨b, 1, none⟩ = some v1 ∧ w.cell? ⟨b, 2, none⟩ = some v2 ∧ w.cell? ⟨b, 3, none⟩ = some v3 ∧ w.cell? ⟨b, 4, none⟩ = some v4 ∧ w.cell? ⟨b, 5, none⟩ = some v5 ∧ w.cell? ⟨b, 6, none⟩ = some v6 ∧ w.cell? ⟨b, 7, none⟩ = some v7) ∧ (w.frozen? ⟨b, 0, none⟩ = false ∧ w.frozen? ⟨b, 1, none⟩ = false ∧ w.frozen? ⟨b, 2, none⟩ = false ∧ w.frozen? ⟨b, 3, none⟩ = false ∧ w.frozen? ⟨b, 4, none⟩ = false ∧ w.frozen? ⟨b, 5, none⟩ = false ∧ w.frozen? ⟨b, 6, none⟩ = false ∧ w.frozen? ⟨b, 7, none⟩ = false) ∧ b < w.heap.size
theorem Box8.mono {w w1 : World} {b : Nat} {v0 v1 v2 v3 v4 v5 v6 v7 : Value} (k : Box8 w b v0 v1 v2 v3 v4 v5 v6 v7) (h : Gr w w1) : Box8 w1 b v0 v1 v2 v3 v4 v5 v6 v7 := by
 obtain ⟨⟨k0, k1, k2, k3, k4, k5, k6, k7⟩, ⟨f0, f1, f2, f3, f4, f5, f6, f7⟩, hlt⟩ := k
 exact ⟨⟨h.cell k0, h.cell k1, h.cell k2, h.cell k3, h.cell k4, h.cell k5, h.cell k6, h.cell k7⟩, ⟨h.free (by exact hlt) f0, h.free (by exact hlt) f1, h.free (by exact hlt) f2, h.free (by exact hlt) f3, h.free (by exact hlt) f4, h.free (by exact hlt) f5, h.free (by exact hlt) f6, h.free (by exact hlt) f7⟩, Nat.lt_of_lt_of_le hlt h.size⟩
theorem Box8.of {w : World} {b : Nat} {v0 v1 v2 v3 v4 v5 v6 v7 : Value} {t : TypeId} (h : w.heap[b]? = some (.cells #[v0, v1, v2, v3, v4, v5, v6, v7] t (0, 0))) : Box8 w b v0 v1 v2 v3 v4 v5 v6 v7 := by
 have hlt : b < w.heap.size := (Array.getElem?_eq_some_iff.1 h).1
 refine ⟨⟨?_, ?_, ?_, ?_, ?_, ?_, ?_, ?_⟩, ⟨?_, ?_, ?_, ?_, ?_, ?_, ?_, ?_⟩, hlt⟩ <;> simp [World.cell?, World.frozen?, h]
theorem Box8.at {w w1 : World} {b : Nat} {v0 v1 v2 v3 v4 v5 v6 v7 : Value} {t : TypeId} (g : Gr w w1) (h : w.heap[b]? = some (.cells #[v0, v1, v2, v3, v4, v5, v6, v7] t (0, 0))) : Box8 w1 b v0 v1 v2 v3 v4 v5 v6 v7 := (Box8.of h).mono g
/-- Block b has these cells, and may be written. -/
abbrev Box9 (w : World) (b : Nat) (v0 v1 v2 v3 v4 v5 v6 v7 v8 : Value) : Prop := (w.cell? ⟨b, 0, none⟩ = some v0 ∧ w.cell? ⟨b, 1, none⟩ = some v1 ∧ w.cell? ⟨b, 2, none⟩ = some v2 ∧ w.cell? ⟨b, 3, none⟩ = some v3 ∧ w.cell? ⟨b, 4, none⟩ = some v4 ∧ w.cell? ⟨b, 5, none⟩ = some v5 ∧ w.cell? ⟨b, 6, none⟩ = some v6 ∧ w.cell? ⟨b, 7, none⟩ = some v7 ∧ w.cell? ⟨b, 8, none⟩ = some v8) ∧ (w.frozen? ⟨b, 0, none⟩ = false ∧ w.frozen? ⟨b, 1, none⟩ = false ∧ w.frozen? ⟨b, 2, none⟩ = false ∧ w.frozen? ⟨b, 3, none⟩ = false ∧ w.frozen? ⟨b, 4, none⟩ = false ∧ w.frozen? ⟨b, 5, none⟩ = false ∧ w.frozen? ⟨b, 6, none⟩ = false ∧ w.frozen? ⟨b, 7, none⟩ = false ∧ w.frozen? ⟨b, 8, none⟩ = false) ∧ b < w.heap.size
theorem Box9.mono {w w1 : World} {b : Nat} {v0 v1 v2 v3 v4 v5 v6 v7 v8 : Value} (k : Box9 w b v0 v1 v2 v3 v4 v5 v6 v7 v8) (h : Gr w w1) : Box9 w1 b v0 v1 v2 v3 v4 v5 v6 v7 v8 := by
 obtain ⟨⟨k0, k1, k2, k3, k4, k5, k6, k7, k8⟩, ⟨f0, f1, f2, f3, f4, f5, f6, f7, f8⟩, hlt⟩ := k
 exact ⟨⟨h.cell k0, h.cell k1, h.cell k2, h.cell k3, h.cell k4, h.cell k5, h.cell k6, h.cell k7, h.cell k8⟩, ⟨h.free (by exact hlt) f0, h.free (by exact hlt) f1, h.free (by exact hlt) f2, h.free (by exact hlt) f3, h.free (by exact hlt) f4, h.free (by exact hlt) f5, h.free (by exact hlt) f6, h.free (by exact hlt) f7, h.free (by exact hlt) f8⟩, Nat.lt_of_lt_of_le hlt h.size⟩
theorem Box9.of {w : World} {b : Nat} {v0 v1 v2 v3 v4 v5 v6 v7 v8 : Value} {t : TypeId} (h : w.heap[b]? = some (.cells #[v0, v1, v2, v3, v4, v5, v6, v7, v8] t (0, 0))) : Box9 w b v0 v1 v2 v3 v4 v5 v6 v7 v8 := by
 have hlt : b < w.heap.size := (Array.getElem?_eq_some_iff.1 h).1
 refine ⟨⟨?_, ?_, ?_, ?_, ?_, ?_, ?_, ?_, ?_⟩, ⟨?_, ?_, ?_, ?_, ?_, ?_, ?_, ?_, ?_⟩, hlt⟩ <;> simp [World.cell?, World.frozen?, h]
theorem Box9.at {w w1 : World} {b : Nat} {v0 v1 v2 v3 v4 v5 v6 v7 v8 : Value} {t : TypeId} (g : Gr w w1) (h : w.heap[b]? = some (.cells #[v0, v1, v2, v3, v4, v5, v6, v7, v8] t (0, 0))) : Box9 w1 b v0 v1 v2 v3 v4 v5 v6 v7 v8 := (Box9.of h).mono g
/-- Block b has these cells, and may be written. -/
abbrev Box10 (w : World) (b : Nat) (v0 v1 v2 v3 v4 v5 v6 v7 v8 v9 : Value) : Prop := (w.cell? ⟨b, 0, none⟩ = some v0 ∧ w.cell? ⟨b, 1, none⟩ = some v1 ∧ w.cell? ⟨b, 2, none⟩ = some v2 ∧ w.cell? ⟨b, 3, none⟩ = some v3 ∧ w.cell? ⟨b, 4, none⟩ = some v4 ∧ w.cell? ⟨b, 5, none⟩ = some v5 ∧ w.cell? ⟨b, 6, none⟩ = some v6 ∧ w.cell? ⟨b, 7, none⟩ = some v7 ∧ w.cell? ⟨b, 8, none⟩ = some v8 ∧ w.cell? ⟨b, 9, none⟩ = some v9) ∧ (w.frozen? ⟨b, 0, none⟩ = false ∧ w.frozen? ⟨b, 1, none⟩ = false ∧ w.frozen? ⟨b, 2, none⟩ = false ∧ w.frozen? ⟨b, 3, none⟩ = false ∧ w.frozen? ⟨b, 4, none⟩ = false ∧ w.frozen? ⟨b, 5, none⟩ = false ∧ w.frozen? ⟨b, 6, none⟩ = false ∧ w.frozen? ⟨b, 7, none⟩ = false ∧ w.frozen? ⟨b, 8, none⟩ = false ∧ w.frozen? ⟨b, 9, none⟩ = false) ∧ b < w.heap.size
theorem Box10.mono {w w1 : World} {b : Nat} {v0 v1 v2 v3 v4 v5 v6 v7 v8 v9 : Value} (k : Box10 w b v0 v1 v2 v3 v4 v5 v6 v7 v8 v9) (h : Gr w w1) : Box10 w1 b v0 v1 v2 v3 v4 v5 v6 v7 v8 v9 := by
 obtain ⟨⟨k0, k1, k2, k3, k4, k5, k6, k7, k8, k9⟩, ⟨f0, f1, f2, f3, f4, f5, f6, f7, f8, f9⟩, hlt⟩ := k
 exact ⟨⟨h.cell k0, h.cell k1, h.cell k2, h.cell k3, h.cell k4, h.cell k5, h.cell k6, h.cell k7, h.cell k8, h.cell k9⟩, ⟨h.free (by exact hlt) f0, h.free (by exact hlt) f1, h.free (by exact hlt) f2, h.free (by exact hlt) f3, h.free (by exact hlt) f4, h.free (by exact hlt) f5, h.free (by exact hlt) f6, h.free (by exact hlt) f7, h.free (by exact hlt) f8, h.free (by exact hlt) f9⟩, Nat.lt_of_lt_of_le hlt h.size⟩
theorem Box10.of {w : World} {b : Nat} {v0 v1 v2 v3 v4 v5 v6 v7 v8 v9 : Value} {t : TypeId} (h : w.heap[b]? = some (.cells #[v0, v1, v2, v3, v4, v5, v6, v7, v8, v9] t (0, 0))) : Box10 w b v0 v1 v2 v3 v4 v5 v6 v7 v8 v9 := by
 have hlt : b < w.heap.size := (Array.getElem?_eq_some_iff.1 h).1
 refine ⟨⟨?_, ?_, ?_, ?_, ?_, ?_, ?_, ?_, ?_, ?_⟩, ⟨?_, ?_, ?_, ?_, ?_, ?_, ?_, ?_, ?_, ?_⟩, hlt⟩ <;> simp [World.cell?, World.frozen?, h]
theorem Box10.at {w w1 : World} {b : Nat} {v0 v1 v2 v3 v4 v5 v6 v7 v8 v9 : Value} {t : TypeId} (g : Gr w w1) (h : w.heap[b]? = some (.cells #[v0, v1, v2, v3, v4, v5, v6, v7, v8, v9] t (0, 0))) : Box10 w1 b v0 v1 v2 v3 v4 v5 v6 v7 v8 v9 := (Box10.of h).mono g
/-- Block b has these cells, and may be written. -/
abbrev Box11 (w : World) (b : Nat) (v0 v1 v2 v3 v4 v5 v6 v7 v8 v9 v10 : Value) : Prop := (w.cell? ⟨b, 0, none⟩ = some v0 ∧ w.cell? ⟨b, 1, none⟩ = some v1 ∧ w.cell? ⟨b, 2, none⟩ = some v2 ∧ w.cell? ⟨b, 3, none⟩ = some v3 ∧ w.cell? ⟨b, 4, none⟩ = some v4 ∧ w.cell? ⟨b, 5, none⟩ = some v5 ∧ w.cell? ⟨b, 6, none⟩ = some v6 ∧ w.cell? ⟨b, 7, none⟩ = some v7 ∧ w.cell? ⟨b, 8, none⟩ = some v8 ∧ w.cell? ⟨b, 9, none⟩ = some v9 ∧ w.cell? ⟨b, 10, none⟩ = some v10) ∧ (w.frozen? ⟨b, 0, none⟩ = false ∧ w.frozen? ⟨b, 1, none⟩ = false ∧ w.frozen? ⟨b, 2, none⟩ = false ∧ w.frozen? ⟨b, 3, none⟩ = false ∧ w.frozen? ⟨b, 4, none⟩ = false ∧ w.frozen? ⟨b, 5, none⟩ = false ∧ w.frozen? ⟨b, 6, none⟩ = false ∧ w.frozen? ⟨b, 7, none⟩ = false ∧ w.frozen? ⟨b, 8, none⟩ = false ∧ w.frozen? ⟨b, 9, none⟩ = false ∧ w.frozen? ⟨b, 10, none⟩ = false) ∧ b < w.heap.size
theorem Box11.mono {w w1 : World} {b : Nat} {v0 v1 v2 v3 v4 v5 v6 v7 v8 v9 v10 : Value} (k : Box11 w b v0 v1 v2 v3 v4 v5 v6 v7 v8 v9 v10) (h : Gr w w1) : Box11 w1 b v0 v1 v2 v3 v4 v5 v6 v7 v8 v9 v10 := by
 obtain ⟨⟨k0, k1, k2, k3, k4, k5, k6, k7, k8, k9, k10⟩, ⟨f0, f1, f2, f3, f4, f5, f6, f7, f8, f9, f10⟩, hlt⟩ := k
 exact ⟨⟨h.cell k0, h.cell k1, h.cell k2, h.cell k3, h.cell k4, h.cell k5, h.cell k6, h.cell k7, h.cell k8, h.cell k9, h.cell k10⟩, ⟨h.free (by exact hlt) f0, h.free (by exact hlt) f1, h.free (by exact hlt) f2, h.free (by exact hlt) f3, h.free (by exact hlt) f4, h.free (by exact hlt) f5, h.free (by exact hlt) f6, h.free (by exact hlt) f7, h.free (by exact hlt) f8, h.free (by exact hlt) f9, h.free (by exact hlt) f10⟩, Nat.lt_of_lt_of_le hlt h.size⟩
theorem Box11.of {w : World} {b : Nat} {v0 v1 v2 v3 v4 v5 v6 v7 v8 v9 v10 : Value} {t : TypeId} (h : w.heap[b]? = some (.cells #[v0, v1, v2, v3, v4, v5, v6, v7, v8, v9, v10] t (0, 0))) : Box11 w b v0 v1 v2 v3 v4 v5 v6 v7 v8 v9 v10 := by
 have hlt : b < w.heap.size := (Array.getElem?_eq_some_iff.1 h).1
 refine ⟨⟨?_, ?_, ?_, ?_, ?_, ?_, ?_, ?_, ?_, ?_, ?_⟩, ⟨?_, ?_, ?_, ?_, ?_, ?_, ?_, ?_, ?_, ?_, ?_⟩, hlt⟩ <;> simp [World.cell?, World.frozen?, h]
theorem Box11.at {w w1 : World} {b : Nat} {v0 v1 v2 v3 v4 v5 v6 v7 v8 v9 v10 : Value} {t : TypeId} (g : Gr w w1) (h : w.heap[b]? = some (.cells #[v0, v1, v2, v3, v4, v5, v6, v7, v8, v9, v10] t (0, 0))) : Box11 w1 b v0 v1 v2 v3 v4 v5 v6 v7 v8 v9 v10 := (Box11.of h).mono g
/-- Block b has these cells, and may be written. -/
abbrev Box12 (w : World) (b : Nat) (v0 v1 v2 v3 v4 v5 v6 v7 v8 v9 v10 v11 : Value) : Prop := (w.cell? ⟨b, 0, none⟩ = some v0 ∧ w.cell? ⟨b, 1, none⟩ = some v1 ∧ w.cell? ⟨b, 2, none⟩ = some v2 ∧ w.cell? ⟨b, 3, none⟩ = some v3 ∧ w.cell? ⟨b, 4, none⟩ = some v4 ∧ w.cell? ⟨b, 5, none⟩ = some v5 ∧ w.cell? ⟨b, 6, none⟩ = some v6 ∧ w.cell? ⟨b, 7, none⟩ = some v7 ∧ w.cell? ⟨b, 8, none⟩ = some v8 ∧ w.cell? ⟨b, 9, none⟩ = some v9 ∧ w.cell? ⟨b, 10, none⟩ = some v10 ∧ w.cell? ⟨b, 11, none⟩ = some v11) ∧ (w.frozen? ⟨b, 0, none⟩ = false ∧ w.frozen? ⟨b, 1, none⟩ = false ∧ w.frozen? ⟨b, 2, none⟩ = false ∧ w.frozen? ⟨b, 3, none⟩ = false ∧ w.frozen? ⟨b, 4, none⟩ = false ∧ w.frozen? ⟨b, 5, none⟩ = false ∧ w.frozen? ⟨b, 6, none⟩ = false ∧ w.frozen? ⟨b, 7, none⟩ = false ∧ w.frozen? ⟨b, 8, none⟩ = false ∧ w.frozen? ⟨b, 9, none⟩ = false ∧ w.frozen? ⟨b, 10, none⟩ = false ∧ w.frozen? ⟨b, 11, none⟩ = false) ∧ b < w.heap.size
theorem Box12.mono {w w1 : World} {b : Nat} {v0 v1 v2 v3 v4 v5 v6 v7 v8 v9 v10 v11 : Value} (k : Box12 w b v0 v1 v2 v3 v4 v5 v6 v7 v8 v9 v10 v11) (h : Gr w w1) : Box12 w1 b v0 v1 v2 v3 v4 v5 v6 v7 v8 v9 v10 v11 := by
 obtain ⟨⟨k0, k1, k2, k3, k4, k5, k6, k7, k8, k9, k10, k11⟩, ⟨f0, f1, f2, f3, f4, f5, f6, f7, f8, f9, f10, f11⟩, hlt⟩ := k
 exact ⟨⟨h.cell k0, h.cell k1, h.cell k2, h.cell k3, h.cell k4, h.cell k5, h.cell k6, h.cell k7, h.cell k8, h.cell k9, h.cell k10, h.cell k11⟩, ⟨h.free (by exact hlt) f0, h.free (by exact hlt) f1, h.free (by exact hlt) f2, h.free (by exact hlt) f3, h.free (by exact hlt) f4, h.free (by exact hlt) f5, h.free (by exact hlt) f6, h.free (by exact hlt) f7, h.free (by exact hlt) f8, h.free (by exact hlt) f9, h.free (by exact hlt) f10, h.free (by exact hlt) f11⟩, Nat.lt_of_lt_of_le hlt h.size⟩
theorem Box12.of {w : World} {b : Nat} {v0 v1 v2 v3 v4 v5 v6 v7 v8 v9 v10 v11 : Value} {t : TypeId} (h : w.heap[b]? = some (.cells #[v0, v1, v2, v3, v4, v5, v6, v7, v8, v9, v10, v11] t (0, 0))) : Box12 w b v0 v1 v2 v3 v4 v5 v6 v7 v8 v9 v10 v11 := by
 have hlt : b < w.heap.size := (Array.getElem?_eq_some_iff.1 h).1
 refine ⟨⟨?_, ?_, ?_, ?_, ?_, ?_, ?_, ?_, ?_, ?_, ?_, ?_⟩, ⟨?_, ?_, ?_, ?_, ?_, ?_, ?_, ?_, ?_, ?_, ?_, ?_⟩, hlt⟩ <;> simp [World.cell?, World.frozen?, h]
theorem Box12.at {w w1 : World} {b : Nat} {v0 v1 v2 v3 v4 v5 v6 v7 v8 v9 v10 v11 : Value} {t : TypeId} (g : Gr w w1) (h : w.heap[b]? = some (.cells #[v0, v1, v2, v3, v4, v5, v6, v7, v8, v9, v10, v11] t (0, 0))) : Box12 w1 b v0 v1 v2 v3 v4 v5 v6 v7 v8 v9 v10 v11 := (Box12.of h).mono g
/-- Block b has these cells, and may be written. -/
abbrev Box13 (w : World) (b : Nat) (v0 v1 v2 v3 v4 v5 v6 v7 v8 v9 v10 v11 v12 : Value) : Prop := (w.cell? ⟨b, 0, none⟩ = some v0 ∧ w.cell? ⟨b, 1, none⟩ = some v1 ∧ w.cell? ⟨b, 2, none⟩ = some v2 ∧ w.cell? ⟨b, 3, none⟩ = some v3 ∧ w.cell? ⟨b, 4, none⟩ = some v4 ∧ w.cell? ⟨b, 5, none⟩ = some v5 ∧ w.cell? ⟨b, 6, none⟩ = some v6 ∧ w.cell? ⟨b, 7, none⟩ = some v7 ∧ w.cell? ⟨b, 8, none⟩ = some v8 ∧ w.cell? ⟨b, 9, none⟩ = some v9 ∧ w.cell? ⟨b, 10, none⟩ = some v10 ∧ w.cell? ⟨b, 11, none⟩ = some v11 ∧ w.cell? ⟨b, 12, none⟩ = some v12) ∧ (w.frozen? ⟨b, 0, none⟩ = false ∧ w.frozen? ⟨b, 1, none⟩ = false ∧ w.frozen? ⟨b, 2, none⟩ = false ∧ w.frozen? ⟨b, 3, none⟩ = false ∧ w.frozen? ⟨b, 4, none⟩ = false ∧ w.frozen? ⟨b, 5, none⟩ = false ∧ w.frozen? ⟨b, 6, none⟩ = false ∧ w.frozen? ⟨b, 7, none⟩ = false ∧ w.frozen? ⟨b, 8, none⟩ = false ∧ w.frozen? ⟨b, 9, none⟩ = false ∧ w.frozen? ⟨b, 10, none⟩ = false ∧ w.frozen? ⟨b, 11, none⟩ = false ∧ w.frozen? ⟨b, 12, none⟩ = false) ∧ b < w.heap.size
theorem Box13.mono {w w1 : World} {b : Nat} {v0 v1 v2 v3 v4 v5 v6 v7 v8 v9 v10 v11 v12 : Value} (k : Box13 w b v0 v1 v2 v3 v4 v5 v6 v7 v8 v9 v10 v11 v12) (h : Gr w w1) : Box13 w1 b v0 v1 v2 v3 v4 v5 v6 v7 v8 v9 v10 v11 v12 := by
 obtain ⟨⟨k0, k1, k2, k3, k4, k5, k6, k7, k8, k9, k10, k11, k12⟩, ⟨f0, f1, f2, f3, f4, f5, f6, f7, f8, f9, f10, f11, f12⟩, hlt⟩ := k
 exact ⟨⟨h.cell k0, h.cell k1, h.cell k2, h.cell k3, h.cell k4, h.cell k5, h.cell k6, h.cell k7, h.cell k8, h.cell k9, h.cell k10, h.cell k11, h.cell k12⟩, ⟨h.free (by exact hlt) f0, h.free (by exact hlt) f1, h.free (by exact hlt) f2, h.free (by exact hlt) f3, h.free (by exact hlt) f4, h.free (by exact hlt) f5, h.free (by exact hlt) f6, h.free (by exact hlt) f7, h.free (by exact hlt) f8, h.free (by exact hlt) f9, h.free (by exact hlt) f10, h.free (by exact hlt) f11, h.free (by exact hlt) f12⟩, Nat.lt_of_lt_of_le hlt h.size⟩
theorem Box13.of {w : World} {b : Nat} {v0 v1 v2 v3 v4 v5 v6 v7 v8 v9 v10 v11 v12 : Value} {t : TypeId} (h : w.heap[b]? = some (.cells #[v0, v1, v2, v3, v4, v5, v6, v7, v8, v9, v10, v11, v12] t (0, 0))) : Box13 w b v0 v1 v2 v3 v4 v5 v6 v7 v8 v9 v10 v11 v12 := by
 have hlt : b < w.heap.size := (Array.getElem?_eq_some_iff.1 h).1
 refine ⟨⟨?_, ?_, ?_, ?_, ?_, ?_, ?_, ?_, ?_, ?_, ?_, ?_, ?_⟩, ⟨?_, ?_, ?_, ?_, ?_, ?_, ?_, ?_, ?_, ?_, ?_, ?_, ?_⟩, hlt⟩ <;> simp [World.cell?, World.frozen?, h]
theorem Box13.at {w w1 : World} {b : Nat} {v0 v1 v2 v3 v4 v5 v6 v7 v8 v9 v10 v11 v12 : Value} {t : TypeId} (g : Gr w w1) (h : w.heap[b]? = some (.cells #[v0, v1, v2, v3, v4, v5, v6, v7, v8, v9, v10, v11, v12] t (0, 0))) : Box13 w1 b v0 v1 v2 v3 v4 v5 v6 v7 v8 v9 v10 v11 v12 := (Box13.of h).mono g
/-- Block b has these cells, and may be written. -/
abbrev Box14 (w : World) (b : Nat) (v0 v1 v2 v3 v4 v5 v6 v7 v8 v9 v10 v11 v12 v13 : Value) : Prop := (w.cell? ⟨b, 0, none⟩ = some v0 ∧ w.cell? ⟨b, 1, none⟩ = some v1 ∧ w.cell? ⟨b, 2, none⟩ = some v2 ∧ w.cell? ⟨b, 3, none⟩ = some v3 ∧ w.cell? ⟨b, 4, none⟩ = some v4 ∧ w.cell? ⟨b, 5, none⟩ = some v5 ∧ w.cell? ⟨b, 6, none⟩ = some v6 ∧ w.cell? ⟨b, 7, none⟩ = some v7 ∧ w.cell? ⟨b, 8, none⟩ = some v8 ∧ w.cell? ⟨b, 9, none⟩ = some v9 ∧ w.cell? ⟨b, 10, none⟩ = some v10 ∧ w.cell? ⟨b, 11, none⟩ = some v11 ∧ w.cell? ⟨b, 12, none⟩ = some v12 ∧ w.cell? ⟨b, 13, none⟩ = some v13) ∧ (w.frozen? ⟨b, 0, none⟩ = false ∧ w.frozen? ⟨b, 1, none⟩ = false ∧ w.frozen? ⟨b, 2, none⟩ = false ∧ w.frozen? ⟨b, 3, none⟩ = false ∧ w.frozen? ⟨b, 4, none⟩ = false ∧ w.frozen? ⟨b, 5, none⟩ = false ∧ w.frozen? ⟨b, 6, none⟩ = false ∧ w.frozen? ⟨b, 7, none⟩ = false ∧ w.frozen? ⟨b, 8, none⟩ = false ∧ w.frozen? ⟨b, 9, none⟩ = false ∧ w.frozen? ⟨b, 10, none⟩ = false ∧ w.frozen? ⟨b, 11, none⟩ = false ∧ w.frozen? ⟨b, 12, none⟩ = false ∧ w.frozen? ⟨b, 13, none⟩ = false) ∧ b < w.heap.size
theorem Box14.mono {w w1 : World} {b : Nat} {v0 v1 v2 v3 v4 v5 v6 v7 v8 v9 v10 v11 v12 v13 : Value} (k : Box14 w b v0 v1 v2 v3 v4 v5 v6 v7 v8 v9 v10 v11 v12 v13) (h : Gr w w1) : Box14 w1 b v0 v1 v2 v3 v4 v5 v6 v7 v8 v9 v10 v11 v12 v13 := by
 obtain ⟨⟨k0, k1, k2, k3, k4, k5, k6, k7, k8, k9, k10, k11, k12, k13⟩, ⟨f0, f1, f2, f3, f4, f5, f6, f7, f8, f9, f10, f11, f12, f13⟩, hlt⟩ := k
 exact ⟨⟨h.cell k0, h.cell k1, h.cell k2, h.cell k3, h.cell k4, h.cell k5, h.cell k6, h.cell k7, h.cell k8, h.cell k9, h.cell k10, h.cell k11, h.cell k12, h.cell k13⟩, ⟨h.free (by exact hlt) f0, h.free (by exact hlt) f1, h.free (by exact hlt) f2, h.free (by exact hlt) f3, h.free (by exact hlt) f4, h.free (by exact hlt) f5, h.free (by exact hlt) f6, h.free (by exact hlt) f7, h.free (by exact hlt) f8, h.free (by exact hlt) f9, h.free (by exact hlt) f10, h.free (by exact hlt) f11, h.free (by exact hlt) f12, h.free (by exact hlt) f13⟩, Nat.lt_of_lt_of_le hlt h.size⟩
theorem Box14.of {w : World} {b : Nat} {v0 v1 v2 v3 v4 v5 v6 v7 v8 v9 v10 v11 v12 v13 : Value} {t : TypeId} (h : w.heap[b]? = some (.cells #[v0, v1, v2, v3, v4, v5, v6, v7, v8, v9, v10, v11, v12, v13] t (0, 0))) : Box14 w b v0 v1 v2 v3 v4 v5 v6 v7 v8 v9 v10 v11 v12 v13 := by
 have hlt : b < w.heap.size := (Array.getElem?_eq_some_iff.1 h).1
 refine ⟨⟨?_, ?_, ?_, ?_, ?_, ?_, ?_, ?_, ?_, ?_, ?_, ?_, ?_, ?_⟩, ⟨?_, ?_, ?_, ?_, ?_, ?_, ?_, ?_, ?_, ?_, ?_, ?_, ?_, ?_⟩, hlt⟩ <;> simp [World.cell?, World.frozen?, h]
theorem Box14.at {w w1 : World} {b : Nat} {v0 v1 v2 v3 v4 v5 v6 v7 v8 v9 v10 v11 v12 v13 : Value} {t : TypeId} (g : Gr w w1) (h : w.heap[b]? = some (.cells #[v0, v1, v2, v3, v4, v5, v6, v7, v8, v9, v10, v11, v12, v13] t (0, 0))) : Box14 w1 b v0 v1 v2 v3 v4 v5 v6 v7 v8 v9 v10 v11 v12 v13 := (Box14.of h).mono g
end Go.Proofs.Ytohbeolimnpehaa

/- Codecs: what it means that cells hold a number, a string, a struct, a slice; and that an argument that can be read has such cells. -/
namespace Go.Proofs.Ytohbeolimnpehaa
set_option linter.unusedSectionVars false
open Go.RowKit Go.Deep
set_option linter.unusedVariables false
set_option linter.unusedSimpArgs false

theorem Gr.cells {w w' : World} (g : Gr w w') {a : Addr} {n : Nat} {cs : List Value} (h : ∀ i, i < n → w.cell? (a.add i) = cs[i]?) (hl : cs.length = n) : ∀ i, i < n → w'.cell? (a.add i) = cs[i]? := by
 intro i hi
 have h1 := h i hi
 rw [List.getElem?_eq_getElem (by omega)] at h1 ⊢
 exact g.cell h1

/-- How values of a Lean type lie in cells. -/
structure Cod (α : Type) where
 size : Nat
 is : World → List Value → α → Prop
 len : ∀ {w cs a}, is w cs a → cs.length = size
 mono : ∀ {w w' cs a}, is w cs a → Gr w w' → is w' cs a
 bulk : α → Nat

def intC : Cod Int where
 size := 1
 is := fun _ cs n => cs = [.int .i64 n] ∧ -9223372036854775808 ≤ n ∧ n ≤ 9223372036854775807
 len := fun h => by rw [h.1]; rfl
 mono := fun h _ => h
 bulk := fun _ => 1
def boolC : Cod Bool where
 size := 1
 is := fun _ cs b => cs = [.bool b]
 len := fun h => by rw [h]; rfl
 mono := fun h _ => h
 bulk := fun _ => 1
def strC : Cod ByteArray where
 size := 1
 is := fun _ cs s => cs = [.string s] ∧ s.size ≤ maxLen
 len := fun h => by rw [h.1]; rfl
 mono := fun h _ => h
 bulk := fun s => s.size + 1
def Cod.pair {α β : Type} (c : Cod α) (d : Cod β) : Cod (α × β) where
 size := c.size + d.size
 is := fun w cs x => c.is w (cs.take c.size) x.1 ∧ d.is w (cs.drop c.size) x.2
 len := fun {w cs a} h => by
  have h1 := c.len h.1
  have h2 := d.len h.2
  simp at h1 h2
  omega
 mono := fun h g => ⟨c.mono h.1 g, d.mono h.2 g⟩
 bulk := fun x => c.bulk x.1 + d.bulk x.2
/-- A slice's elements, one behind the other. -/
def sliceC {α : Type} (c : Cod α) : Cod (List α) where
 size := 1
 is := fun w cs l => (cs = [.slice none 0 0] ∧ l = []) ∨ ∃ (b off : Nat) (sp : Option Nat) (cap : Nat), cs = [.slice (some ⟨b, off, sp⟩) l.length cap] ∧ l.length ≤ cap ∧ cap ≤ maxLen ∧
  ∀ i (h : i < l.length), sp = none ∧ ∃ cs', (∀ j, j < c.size → w.cell? ⟨b, off + (i * c.size + j), none⟩ = cs'[j]?) ∧ c.is w cs' l[i]
 len := fun h => by
  rcases h with ⟨rfl, _⟩ | ⟨b, off, sp, cap, rfl, _⟩ <;> rfl
 mono := fun {w w' cs l} h g => by
  rcases h with h | ⟨b, off, sp, cap, h1, h2, h3, h4⟩
  ·exact .inl h
  ·refine .inr ⟨b, off, sp, cap, h1, h2, h3, fun i hi => ?_⟩
   obtain ⟨e, cs', h5, h6⟩ := h4 i hi
   refine ⟨e, cs', fun j hj => ?_, c.mono h6 g⟩
   have h7 := h5 j hj
   have hl := c.len h6
   rw [List.getElem?_eq_getElem (by omega)] at h7 ⊢
   exact g.cell h7
 bulk := fun l => (l.map c.bulk).sum + 1

/-- Whatever can be read as a value of type t has cells of this codec. -/
def ReadsF {α : Type} (F : Nat → Prop) (P : Program) (c : Cod α) (t : TypeId) : Prop :=
 ∀ ⦃H : Type⦄ ⦃enc : TypeId × Value → H⦄ ⦃w : World⦄ ⦃base : Nat⦄ ⦃spare : Nat → Bool⦄ ⦃held : Bool⦄ ⦃fuel : Nat⦄ ⦃cs : List Value⦄ ⦃x : DataW H × List MemPlace⦄, F fuel →
  DataW.trod enc P w base spare held fuel t cs = some x → ∃ a, c.is w cs a ∧ c.bulk a ≤ Rows.uptoBulk x.1
abbrev Reads {α : Type} (P : Program) (c : Cod α) (t : TypeId) : Prop := ReadsF (fun _ => True) P c t
theorem bulkAll_sum {H : Type} (l : List (DataW H)) : Rows.uptoBulkAll l = (l.map Rows.uptoBulk).sum := by
 induction l with
 | nil => rfl
 | cons x r ih => simp only [Rows.uptoBulkAll, List.map_cons, List.sum_cons, ih]
theorem sum_le_range {α : Type} (f : α → Nat) (D : Nat → Nat) : ∀ (l : List α) (o : Nat), (∀ i (h : i < l.length), f l[i] ≤ D (o + i)) → (l.map f).sum ≤ ((List.range' o l.length).map D).sum
 | [], _, _ => by simp
 | x :: r, o, h => by
  simp only [List.length_cons, List.range'_succ, List.map_cons, List.sum_cons]
  have h0 := h 0 (by simp)
  have := sum_le_range f D r (o + 1) (fun i hi => by have := h (i + 1) (by simp; omega); simp only [List.getElem_cons_succ] at this; rw [show o + 1 + i = o + (i + 1) by omega]; exact this)
  simp at h0
  omega

theorem wf_i64 {n : Int} (h : (Lit.int .i64 n).wf = true) : -9223372036854775808 ≤ n ∧ n ≤ 9223372036854775807 := by
 simpa [Lit.wf, IntKind.min, IntKind.max, IntKind.signed, IntKind.bits] using h
theorem bulk_pos {H : Type} (d : DataW H) : 1 ≤ Rows.uptoBulk d := by
 cases d with
 | lit l => cases l <;> simp [Rows.uptoBulk]
 | _ => simp [Rows.uptoBulk]
theorem reads_int {F : Nat → Prop} {P : Program} {t : TypeId} (ht : P.underlying t = some (.int .i64)) : ReadsF F P intC t := by
 intro H enc w base spare held fuel cs x _ h
 obtain ⟨n, rfl, _, hw⟩ := DataW.trod_int ht h
 exact ⟨n, ⟨rfl, wf_i64 hw⟩, bulk_pos _⟩
theorem reads_bool {F : Nat → Prop} {P : Program} {t : TypeId} (ht : P.underlying t = some .bool) : ReadsF F P boolC t := by
 intro H enc w base spare held fuel cs x _ h
 obtain ⟨n, rfl, _⟩ := DataW.trod_bool ht h
 exact ⟨n, rfl, bulk_pos _⟩
theorem reads_str {F : Nat → Prop} {P : Program} {t : TypeId} (ht : P.underlying t = some .string) : ReadsF F P strC t := by
 intro H enc w base spare held fuel cs x _ h
 obtain ⟨n, rfl, hx, hw⟩ := DataW.trod_string ht h
 refine ⟨n, ⟨rfl, hw⟩, ?_⟩
 subst hx
 simp only [Rows.uptoBulk, strC]
 first | (simp; done) | omega
theorem reads_slice {F : Nat → Prop} {P : Program} {α : Type} {c : Cod α} {t e : TypeId} (ht : P.underlying t = some (.slice e)) (hz : P.cellsOf e = c.size) (hp : 0 < c.size) (hr : ReadsF (fun m => F (m + 1)) P c e) : ReadsF F P (sliceC c) t := by
 intro H enc w base spare held fuel cs x hF h
 rcases DataW.trod_slice ht h with ⟨rfl, rfl⟩ | ⟨a, len, cap, elems, rest, n, hfu, rfl, hxe, hb, hl, hm, hlen, hel, h8, h9⟩
 ·exact ⟨[], .inl ⟨rfl, rfl⟩, by simp [sliceC, Rows.uptoBulk]⟩
 ·obtain ⟨D, hD⟩ : ∃ D : Nat → DataW H, D = fun i => (elems.getD i (.nil, [])).1 := ⟨_, rfl⟩
  have key : ∀ i, i < len → ∃ (y : α) (cs' : List Value), (∀ j, j < c.size → w.cell? (a.add (i * c.size + j)) = cs'[j]?) ∧ c.is w cs' y ∧ c.bulk y ≤ Rows.uptoBulk (D i) := by
   intro i hi
   have hk := hel i hi
   rw [List.getElem?_eq_getElem (by omega)] at hk
   obtain ⟨cs', h1, h2⟩ := Option.bind_eq_some_iff.1 hk
   obtain ⟨y, hy, hyb⟩ := hr (by subst hfu; exact hF) h2
   have hyb : c.bulk y ≤ Rows.uptoBulk (D i) := by
    rw [hD]
    simpa [List.getD, List.getElem?_eq_getElem (show i < elems.length by omega)] using hyb
   obtain ⟨_, h3, h4⟩ := World.cells?_some h1
   refine ⟨y, cs', fun j hj => ?_, hy, hyb⟩
   have := h4 j (by rw [hz]; exact hj)
   rw [hz] at this
   rw [← this, add_add]
  obtain ⟨ys, hys⟩ : ∃ ys : List α, ys.length = len ∧ ∀ i (h : i < ys.length), c.bulk ys[i] ≤ Rows.uptoBulk (D i) ∧ ∃ cs', (∀ j, j < c.size → w.cell? (a.add (i * c.size + j)) = cs'[j]?) ∧ c.is w cs' ys[i] := by
   clear hel hlen h hl hxe h8 h9
   induction len with
   | zero => exact ⟨[], rfl, fun i h => by simp at h⟩
   | succ k ih =>
    obtain ⟨ys, h1, h2⟩ := ih (fun i hi => key i (by omega))
    obtain ⟨y, cs', h3, h4, h4b⟩ := key k (by omega)
    refine ⟨ys ++ [y], by simp [h1], fun i hi => ?_⟩
    by_cases hk : i < ys.length
    ·rw [List.getElem_append_left hk]; exact h2 i hk
    ·have : i = k := by simp at hi; omega
     subst this
     rw [List.getElem_append_right (by omega)]
     simp only [h1, Nat.sub_self, List.getElem_cons_zero]
     exact ⟨h4b, cs', h3, h4⟩
  obtain ⟨h1, h2⟩ := hys
  obtain ⟨b, off, sp⟩ := a
  refine ⟨ys, .inr ⟨b, off, sp, cap, by rw [h1], by omega, hm, fun i hi => ?_⟩, ?_⟩
  ·have hs : sp = none := by
    cases sp with
    | none => rfl
    | some q =>
     exfalso
     obtain ⟨_, cs', h3, h4⟩ := h2 0 (by omega)
     have h5 := h3 0 hp
     have hl := c.len h4
     rw [List.getElem?_eq_getElem (by omega)] at h5
     simp only [Nat.zero_mul, Nat.zero_add, World.cell?, Addr.add] at h5
     split at h5 <;> simp at h5
   obtain ⟨_, cs', h3, h4⟩ := h2 i hi
   subst hs
   refine ⟨rfl, cs', fun j hj => ?_, h4⟩
   have h6 := h3 j hj
   rw [← h6]
   congr 1
   simp only [Addr.add]
   split
   ·rename_i h7; simp only [h7, Nat.add_zero]
   ·rfl
  ·subst hxe
   simp only [sliceC, Rows.uptoBulk, bulkAll_sum, List.map_map]
   have := sum_le_range c.bulk (fun i => Rows.uptoBulk (D i)) ys 0 (fun i hi => by simpa using (h2 i hi).1)
   rw [h1, ← List.range_eq_range'] at this
   have e : List.map (Rows.uptoBulk ∘ fun x => x.1) elems = List.map (fun i => Rows.uptoBulk (D i)) (List.range len) := by
    rw [← hlen, hD]
    apply List.ext_getElem (by simp)
    intro i h3 h4
    simp at h3
    simp [List.getD, List.getElem?_eq_getElem h3]
   rw [e]
   omega
theorem take_drop_all {α : Type} (l : List α) (o n : Nat) (h : l.length = o + n) : (l.drop o).take n = l.drop o := List.take_of_length_le (by simp; omega)

theorem list_of_len2 {α : Type} (l : List α) (h : l.length = 2) : ∃ x0 x1, l = [x0, x1] := by
 match l, h with
 | [x0, x1], _ => exact ⟨x0, x1, rfl⟩
theorem reads_struct2 {F : Nat → Prop} {P : Program} {α0 α1 : Type} {t : TypeId} {f0 f1 : Field} {c0 : Cod α0} {c1 : Cod α1} (ht : P.underlying t = some (.struct #[f0, f1])) (hz : P.cellsOf t = c0.size + c1.size) (o0 : f0.offset = 0) (o1 : f1.offset = c0.size) (z0 : P.cellsOf f0.type = c0.size) (z1 : P.cellsOf f1.type = c1.size) (r0 : ReadsF (fun m => F (m + 1)) P c0 f0.type) (r1 : ReadsF (fun m => F (m + 1)) P c1 f1.type) : ReadsF F P (c0.pair c1) t := by
 intro H enc w base spare held fuel cs x hF h
 obtain ⟨xs, m, hfu, hxx, hlen, hxl, hf⟩ := DataW.trod_struct ht h
 rw [hz] at hlen
 have hxl : xs.length = 2 := hxl
 have h0 := hf 0 f0 rfl
 rw [o0, z0, List.getElem?_eq_getElem (show 0 < xs.length by omega)] at h0
 obtain ⟨a0, k0, b0⟩ := r0 (by subst hfu; exact hF) h0
 have h1 := hf 1 f1 rfl
 rw [o1, z1, List.getElem?_eq_getElem (show 1 < xs.length by omega)] at h1
 obtain ⟨a1, k1, b1⟩ := r1 (by subst hfu; exact hF) h1
 rw [take_drop_all cs (c0.size) c1.size (by omega)] at k1
 refine ⟨(a0, a1), ?_, ?_⟩
 ·exact ⟨by simpa using k0, (by simpa [List.drop_drop, Nat.add_assoc] using k1)⟩
 ·subst hxx
  simp only [Rows.uptoBulk, bulkAll_sum, Cod.pair]
  have hs : (List.map Rows.uptoBulk (xs.map (·.1))).sum = Rows.uptoBulk xs[0].1 + (Rows.uptoBulk xs[1].1) := by
   obtain ⟨x0, x1, rfl⟩ := list_of_len2 xs hxl
   simp
  rw [hs]
  exact Nat.le_succ_of_le (Nat.add_le_add b0 b1)
theorem list_of_len3 {α : Type} (l : List α) (h : l.length = 3) : ∃ x0 x1 x2, l = [x0, x1, x2] := by
 match l, h with
 | [x0, x1, x2], _ => exact ⟨x0, x1, x2, rfl⟩
theorem reads_struct3 {F : Nat → Prop} {P : Program} {α0 α1 α2 : Type} {t : TypeId} {f0 f1 f2 : Field} {c0 : Cod α0} {c1 : Cod α1} {c2 : Cod α2} (ht : P.underlying t = some (.struct #[f0, f1, f2])) (hz : P.cellsOf t = c0.size + c1.size + c2.size) (o0 : f0.offset = 0) (o1 : f1.offset = c0.size) (o2 : f2.offset = c0.size + c1.size) (z0 : P.cellsOf f0.type = c0.size) (z1 : P.cellsOf f1.type = c1.size) (z2 : P.cellsOf f2.type = c2.size) (r0 : ReadsF (fun m => F (m + 1)) P c0 f0.type) (r1 : ReadsF (fun m => F (m + 1)) P c1 f1.type) (r2 : ReadsF (fun m => F (m + 1)) P c2 f2.type) : ReadsF F P (c0.pair (c1.pair c2)) t := by
 intro H enc w base spare held fuel cs x hF h
 obtain ⟨xs, m, hfu, hxx, hlen, hxl, hf⟩ := DataW.trod_struct ht h
 rw [hz] at hlen
 have hxl : xs.length = 3 := hxl
 have h0 := hf 0 f0 rfl
 rw [o0, z0, List.getElem?_eq_getElem (show 0 < xs.length by omega)] at h0
 obtain ⟨a0, k0, b0⟩ := r0 (by subst hfu; exact hF) h0
 have h1 := hf 1 f1 rfl
 rw [o1, z1, List.getElem?_eq_getElem (show 1 < xs.length by omega)] at h1
 obtain ⟨a1, k1, b1⟩ := r1 (by subst hfu; exact hF) h1
 have h2 := hf 2 f2 rfl
 rw [o2, z2, List.getElem?_eq_getElem (show 2 < xs.length by omega)] at h2
 obtain ⟨a2, k2, b2⟩ := r2 (by subst hfu; exact hF) h2
 rw [take_drop_all cs (c0.size + c1.size) c2.size (by omega)] at k2
 refine ⟨(a0, (a1, a2)), ?_, ?_⟩
 ·exact ⟨by simpa using k0, ⟨by simpa [List.drop_drop, Nat.add_assoc] using k1, (by simpa [List.drop_drop, Nat.add_assoc] using k2)⟩⟩
 ·subst hxx
  simp only [Rows.uptoBulk, bulkAll_sum, Cod.pair]
  have hs : (List.map Rows.uptoBulk (xs.map (·.1))).sum = Rows.uptoBulk xs[0].1 + (Rows.uptoBulk xs[1].1 + (Rows.uptoBulk xs[2].1)) := by
   obtain ⟨x0, x1, x2, rfl⟩ := list_of_len3 xs hxl
   simp
  rw [hs]
  exact Nat.le_succ_of_le (Nat.add_le_add b0 (Nat.add_le_add b1 b2))
theorem list_of_len4 {α : Type} (l : List α) (h : l.length = 4) : ∃ x0 x1 x2 x3, l = [x0, x1, x2, x3] := by
 match l, h with
 | [x0, x1, x2, x3], _ => exact ⟨x0, x1, x2, x3, rfl⟩
theorem reads_struct4 {F : Nat → Prop} {P : Program} {α0 α1 α2 α3 : Type} {t : TypeId} {f0 f1 f2 f3 : Field} {c0 : Cod α0} {c1 : Cod α1} {c2 : Cod α2} {c3 : Cod α3} (ht : P.underlying t = some (.struct #[f0, f1, f2, f3])) (hz : P.cellsOf t = c0.size + c1.size + c2.size + c3.size) (o0 : f0.offset = 0) (o1 : f1.offset = c0.size) (o2 : f2.offset = c0.size + c1.size) (o3 : f3.offset = c0.size + c1.size + c2.size) (z0 : P.cellsOf f0.type = c0.size) (z1 : P.cellsOf f1.type = c1.size) (z2 : P.cellsOf f2.type = c2.size) (z3 : P.cellsOf f3.type = c3.size) (r0 : ReadsF (fun m => F (m + 1)) P c0 f0.type) (r1 : ReadsF (fun m => F (m + 1)) P c1 f1.type) (r2 : ReadsF (fun m => F (m + 1)) P c2 f2.type) (r3 : ReadsF (fun m => F (m + 1)) P c3 f3.type) : ReadsF F P (c0.pair (c1.pair (c2.pair c3))) t := by
 intro H enc w base spare held fuel cs x hF h
 obtain ⟨xs, m, hfu, hxx, hlen, hxl, hf⟩ := DataW.trod_struct ht h
 rw [hz] at hlen
 have hxl : xs.length = 4 := hxl
 have h0 := hf 0 f0 rfl
 rw [o0, z0, List.getElem?_eq_getElem (show 0 < xs.length by omega)] at h0
 obtain ⟨a0, k0, b0⟩ := r0 (by subst hfu; exact hF) h0
 have h1 := hf 1 f1 rfl
 rw [o1, z1, List.getElem?_eq_getElem (show 1 < xs.length by omega)] at h1
 obtain ⟨a1, k1, b1⟩ := r1 (by subst hfu; exact hF) h1
 have h2 := hf 2 f2 rfl
 rw [o2, z2, List.getElem?_eq_getElem (show 2 < xs.length by omega)] at h2
 obtain ⟨a2, k2, b2⟩ := r2 (by subst hfu; exact hF) h2
 have h3 := hf 3 f3 rfl
 rw [o3, z3, List.getElem?_eq_getElem (show 3 < xs.length by omega)] at h3
 obtain ⟨a3, k3, b3⟩ := r3 (by subst hfu; exact hF) h3
 rw [take_drop_all cs (c0.size + c1.size + c2.size) c3.size (by omega)] at k3
 refine ⟨(a0, (a1, (a2, a3))), ?_, ?_⟩
 ·exact ⟨by simpa using k0, ⟨by simpa [List.drop_drop, Nat.add_assoc] using k1, ⟨by simpa [List.drop_drop, Nat.add_assoc] using k2, (by simpa [List.drop_drop, Nat.add_assoc] using k3)⟩⟩⟩
 ·subst hxx
  simp only [Rows.uptoBulk, bulkAll_sum, Cod.pair]
  have hs : (List.map Rows.uptoBulk (xs.map (·.1))).sum = Rows.uptoBulk xs[0].1 + (Rows.uptoBulk xs[1].1 + (Rows.uptoBulk xs[2].1 + (Rows.uptoBulk xs[3].1))) := by
   obtain ⟨x0, x1, x2, x3, rfl⟩ := list_of_len4 xs hxl
   simp
  rw [hs]
  exact Nat.le_succ_of_le (Nat.add_le_add b0 (Nat.add_le_add b1 (Nat.add_le_add b2 b3)))
theorem list_of_len5 {α : Type} (l : List α) (h : l.length = 5) : ∃ x0 x1 x2 x3 x4, l = [x0, x1, x2, x3, x4] := by
 match l, h with
 | [x0, x1, x2, x3, x4], _ => exact ⟨x0, x1, x2, x3, x4, rfl⟩
theorem reads_struct5 {F : Nat → Prop} {P : Program} {α0 α1 α2 α3 α4 : Type} {t : TypeId} {f0 f1 f2 f3 f4 : Field} {c0 : Cod α0} {c1 : Cod α1} {c2 : Cod α2} {c3 : Cod α3} {c4 : Cod α4} (ht : P.underlying t = some (.struct #[f0, f1, f2, f3, f4])) (hz : P.cellsOf t = c0.size + c1.size + c2.size + c3.size + c4.size) (o0 : f0.offset = 0) (o1 : f1.offset = c0.size) (o2 : f2.offset = c0.size + c1.size) (o3 : f3.offset = c0.size + c1.size + c2.size) (o4 : f4.offset = c0.size + c1.size + c2.size + c3.size) (z0 : P.cellsOf f0.type = c0.size) (z1 : P.cellsOf f1.type = c1.size) (z2 : P.cellsOf f2.type = c2.size) (z3 : P.cellsOf f3.type = c3.size) (z4 : P.cellsOf f4.type = c4.size) (r0 : ReadsF (fun m => F (m + 1)) P c0 f0.type) (r1 : ReadsF (fun m => F (m + 1)) P c1 f1.type) (r2 : ReadsF (fun m => F (m + 1)) P c2 f2.type) (r3 : ReadsF (fun m => F (m + 1)) P c3 f3.type) (r4 : ReadsF (fun m => F (m + 1)) P c4 f4.type) : ReadsF F P (c0.pair (c1.pair (c2.pair (c3.pair c4)))) t := by
 intro H enc w base spare held fuel cs x hF h
 obtain ⟨xs, m, hfu, hxx, hlen, hxl, hf⟩ := DataW.trod_struct ht h
 rw [hz] at hlen
 have hxl : xs.length = 5 := hxl
 have h0 := hf 0 f0 rfl
 rw [o0, z0, List.getElem?_eq_getElem (show 0 < xs.length by omega)] at h0
 obtain ⟨a0, k0, b0⟩ := r0 (by subst hfu; exact hF) h0
 have h1 := hf 1 f1 rfl
 rw [o1, z1, List.getElem?_eq_getElem (show 1 < xs.length by omega)] at h1
 obtain ⟨a1, k1, b1⟩ := r1 (by subst hfu; exact hF) h1
 have h2 := hf 2 f2 rfl
 rw [o2, z2, List.getElem?_eq_getElem (show 2 < xs.length by omega)] at h2
 obtain ⟨a2, k2, b2⟩ := r2 (by subst hfu; exact hF) h2
 have h3 := hf 3 f3 rfl
 rw [o3, z3, List.getElem?_eq_getElem (show 3 < xs.length by omega)] at h3
 obtain ⟨a3, k3, b3⟩ := r3 (by subst hfu; exact hF) h3
 have h4 := hf 4 f4 rfl
 rw [o4, z4, List.getElem?_eq_getElem (show 4 < xs.length by omega)] at h4
 obtain ⟨a4, k4, b4⟩ := r4 (by subst hfu; exact hF) h4
 rw [take_drop_all cs (c0.size + c1.size + c2.size + c3.size) c4.size (by omega)] at k4
 refine ⟨(a0, (a1, (a2, (a3, a4)))), ?_, ?_⟩
 ·exact ⟨by simpa using k0, ⟨by simpa [List.drop_drop, Nat.add_assoc] using k1, ⟨by simpa [List.drop_drop, Nat.add_assoc] using k2, ⟨by simpa [List.drop_drop, Nat.add_assoc] using k3, (by simpa [List.drop_drop, Nat.add_assoc] using k4)⟩⟩⟩⟩
 ·subst hxx
  simp only [Rows.uptoBulk, bulkAll_sum, Cod.pair]
  have hs : (List.map Rows.uptoBulk (xs.map (·.1))).sum = Rows.uptoBulk xs[0].1 + (Rows.uptoBulk xs[1].1 + (Rows.uptoBulk xs[2].1 + (Rows.uptoBulk xs[3].1 + (Rows.uptoBulk xs[4].1)))) := by
   obtain ⟨x0, x1, x2, x3, x4, rfl⟩ := list_of_len5 xs hxl
   simp
  rw [hs]
  exact Nat.le_succ_of_le (Nat.add_le_add b0 (Nat.add_le_add b1 (Nat.add_le_add b2 (Nat.add_le_add b3 b4))))
theorem list_of_len6 {α : Type} (l : List α) (h : l.length = 6) : ∃ x0 x1 x2 x3 x4 x5, l = [x0, x1, x2, x3, x4, x5] := by
 match l, h with
 | [x0, x1, x2, x3, x4, x5], _ => exact ⟨x0, x1, x2, x3, x4, x5, rfl⟩
theorem reads_struct6 {F : Nat → Prop} {P : Program} {α0 α1 α2 α3 α4 α5 : Type} {t : TypeId} {f0 f1 f2 f3 f4 f5 : Field} {c0 : Cod α0} {c1 : Cod α1} {c2 : Cod α2} {c3 : Cod α3} {c4 : Cod α4} {c5 : Cod α5} (ht : P.underlying t = some (.struct #[f0, f1, f2, f3, f4, f5])) (hz : P.cellsOf t = c0.size + c1.size + c2.size + c3.size + c4.size + c5.size) (o0 : f0.offset = 0) (o1 : f1.offset = c0.size) (o2 : f2.offset = c0.size + c1.size) (o3 : f3.offset = c0.size + c1.size + c2.size) (o4 : f4.offset = c0.size + c1.size + c2.size + c3.size) (o5 : f5.offset = c0.size + c1.size + c2.size + c3.size + c4.size) (z0 : P.cellsOf f0.type = c0.size) (z1 : P.cellsOf f1.type = c1.size) (z2 : P.cellsOf f2.type = c2.size) (z3 : P.cellsOf f3.type = c3.size) (z4 : P.cellsOf f4.type = c4.size) (z5 : P.cellsOf f5.type = c5.size) (r0 : ReadsF (fun m => F (m + 1)) P c0 f0.type) (r1 : ReadsF (fun m => F (m + 1)) P c1 f1.type) (r2 : ReadsF (fun m => F (m + 1)) P c2 f2.type) (r3 : ReadsF (fun m => F (m + 1)) P c3 f3.type) (r4 : ReadsF (fun m => F (m + 1)) P c4 f4.type) (r5 : ReadsF (fun m => F (m + 1)) P c5 f5.type) : ReadsF F P (c0.pair (c1.pair (c2.pair (c3.pair (c4.pair c5))))) t := by
 intro H enc w base spare held fuel cs x hF h
 obtain ⟨xs, m, hfu, hxx, hlen, hxl, hf⟩ := DataW.trod_struct ht h
 rw [hz] at hlen
 have hxl : xs.length = 6 := hxl
 have h0 := hf 0 f0 rfl
 rw [o0, z0, List.getElem?_eq_getElem (show 0 < xs.length by omega)] at h0
 obtain ⟨a0, k0, b0⟩ := r0 (by subst hfu; exact hF) h0
 have h1 := hf 1 f1 rfl
 rw [o1, z1, List.getElem?_eq_getElem (show 1 < xs.length by omega)] at h1
 obtain ⟨a1, k1, b1⟩ := r1 (by subst hfu; exact hF) h1
 have h2 := hf 2 f2 rfl
 rw [o2, z2, List.getElem?_eq_getElem (show 2 < xs.length by omega)] at h2
 obtain ⟨a2, k2, b2⟩ := r2 (by subst hfu; exact hF) h2
 have h3 := hf 3 f3 rfl
 rw [o3, z3, List.getElem?_eq_getElem (show 3 < xs.length by omega)] at h3
 obtain ⟨a3, k3, b3⟩ := r3 (by subst hfu; exact hF) h3
 have h4 := hf 4 f4 rfl
 rw [o4, z4, List.getElem?_eq_getElem (show 4 < xs.length by omega)] at h4
 obtain ⟨a4, k4, b4⟩ := r4 (by subst hfu; exact hF) h4
 have h5 := hf 5 f5 rfl
 rw [o5, z5, List.getElem?_eq_getElem (show 5 < xs.length by omega)] at h5
 obtain ⟨a5, k5, b5⟩ := r5 (by subst hfu; exact hF) h5
 rw [take_drop_all cs (c0.size + c1.size + c2.size + c3.size + c4.size) c5.size (by omega)] at k5
 refine ⟨(a0, (a1, (a2, (a3, (a4, a5))))), ?_, ?_⟩
 ·exact ⟨by simpa using k0, ⟨by simpa [List.drop_drop, Nat.add_assoc] using k1, ⟨by simpa [List.drop_drop, Nat.add_assoc] using k2, ⟨by simpa [List.drop_drop, Nat.add_assoc] using k3, ⟨by simpa [List.drop_drop, Nat.add_assoc] using k4, (by simpa [List.drop_drop, Nat.add_assoc] using k5)⟩⟩⟩⟩⟩
 ·subst hxx
  simp only [Rows.uptoBulk, bulkAll_sum, Cod.pair]
  have hs : (List.map Rows.uptoBulk (xs.map (·.1))).sum = Rows.uptoBulk xs[0].1 + (Rows.uptoBulk xs[1].1 + (Rows.uptoBulk xs[2].1 + (Rows.uptoBulk xs[3].1 + (Rows.uptoBulk xs[4].1 + (Rows.uptoBulk xs[5].1))))) := by
   obtain ⟨x0, x1, x2, x3, x4, x5, rfl⟩ := list_of_len6 xs hxl
   simp
  rw [hs]
  exact Nat.le_succ_of_le (Nat.add_le_add b0 (Nat.add_le_add b1 (Nat.add_le_add b2 (Nat.add_le_add b3 (Nat.add_le_add b4 b5)))))
theorem list_of_len7 {α : Type} (l : List α) (h : l.length = 7) : ∃ x0 x1 x2 x3 x4 x5 x6, l = [x0, x1, x2, x3, x4, x5, x6] := by
 match l, h with
 | [x0, x1, x2, x3, x4, x5, x6], _ => exact ⟨x0, x1, x2, x3, x4, x5, x6, rfl⟩
theorem reads_struct7 {F : Nat → Prop} {P : Program} {α0 α1 α2 α3 α4 α5 α6 : Type} {t : TypeId} {f0 f1 f2 f3 f4 f5 f6 : Field} {c0 : Cod α0} {c1 : Cod α1} {c2 : Cod α2} {c3 : Cod α3} {c4 : Cod α4} {c5 : Cod α5} {c6 : Cod α6} (ht : P.underlying t = some (.struct #[f0, f1, f2, f3, f4, f5, f6])) (hz : P.cellsOf t = c0.size + c1.size + c2.size + c3.size + c4.size + c5.size + c6.size) (o0 : f0.offset = 0) (o1 : f1.offset = c0.size) (o2 : f2.offset = c0.size + c1.size) (o3 : f3.offset = c0.size + c1.size + c2.size) (o4 : f4.offset = c0.size + c1.size + c2.size + c3.size) (o5 : f5.offset = c0.size + c1.size + c2.size + c3.size + c4.size) (o6 : f6.offset = c0.size + c1.size + c2.size + c3.size + c4.size + c5.size) (z0 : P.cellsOf f0.type = c0.size) (z1 : P.cellsOf f1.type = c1.size) (z2 : P.cellsOf f2.type = c2.size) (z3 : P.cellsOf f3.type = c3.size) (z4 : P.cellsOf f4.type = c4.size) (z5 : P.cellsOf f5.type = c5.size) (z6 : P.cellsOf f6.type = c6.size) (r0 : ReadsF (fun m => F (m + 1)) P c0 f0.type) (r1 : ReadsF (fun m => F (m + 1)) P c1 f1.type) (r2 : ReadsF (fun m => F (m + 1)) P c2 f2.type) (r3 : ReadsF (fun m => F (m + 1)) P c3 f3.type) (r4 : ReadsF (fun m => F (m + 1)) P c4 f4.type) (r5 : ReadsF (fun m => F (m + 1)) P c5 f5.type) (r6 : ReadsF (fun m => F (m + 1)) P c6 f6.type) : ReadsF F P (c0.pair (c1.pair (c2.pair (c3.pair (c4.pair (c5.pair c6)))))) t := by
 intro H enc w base spare held fuel cs x hF h
 obtain ⟨xs, m, hfu, hxx, hlen, hxl, hf⟩ := DataW.trod_struct ht h
 rw [hz] at hlen
 have hxl : xs.length = 7 := hxl
 have h0 := hf 0 f0 rfl
 rw [o0, z0, List.getElem?_eq_getElem (show 0 < xs.length by omega)] at h0
 obtain ⟨a0, k0, b0⟩ := r0 (by subst hfu; exact hF) h0
 have h1 := hf 1 f1 rfl
 rw [o1, z1, List.getElem?_eq_getElem (show 1 < xs.length by omega)] at h1
 obtain ⟨a1, k1, b1⟩ := r1 (by subst hfu; exact hF) h1
 have h2 := hf 2 f2 rfl
 rw [o2, z2, List.getElem?_eq_getElem (show 2 < xs.length by omega)] at h2
 obtain ⟨a2, k2, b2⟩ := r2 (by subst hfu; exact hF) h2
 have h3 := hf 3 f3 rfl
 rw [o3, z3, List.getElem?_eq_getElem (show 3 < xs.length by omega)] at h3
 obtain ⟨a3, k3, b3⟩ := r3 (by subst hfu; exact hF) h3
 have h4 := hf 4 f4 rfl
 rw [o4, z4, List.getElem?_eq_getElem (show 4 < xs.length by omega)] at h4
 obtain ⟨a4, k4, b4⟩ := r4 (by subst hfu; exact hF) h4
 have h5 := hf 5 f5 rfl
 rw [o5, z5, List.getElem?_eq_getElem (show 5 < xs.length by omega)] at h5
 obtain ⟨a5, k5, b5⟩ := r5 (by subst hfu; exact hF) h5
 have h6 := hf 6 f6 rfl
 rw [o6, z6, List.getElem?_eq_getElem (show 6 < xs.length by omega)] at h6
 obtain ⟨a6, k6, b6⟩ := r6 (by subst hfu; exact hF) h6
 rw [take_drop_all cs (c0.size + c1.size + c2.size + c3.size + c4.size + c5.size) c6.size (by omega)] at k6
 refine ⟨(a0, (a1, (a2, (a3, (a4, (a5, a6)))))), ?_, ?_⟩
 ·exact ⟨by simpa using k0, ⟨by simpa [List.drop_drop, Nat.add_assoc] using k1, ⟨by simpa [List.drop_drop, Nat.add_assoc] using k2, ⟨by simpa [List.drop_drop, Nat.add_assoc] using k3, ⟨by simpa [List.drop_drop, Nat.add_assoc] using k4, ⟨by simpa [List.drop_drop, Nat.add_assoc] using k5, (by simpa [List.drop_drop, Nat.add_assoc] using k6)⟩⟩⟩⟩⟩⟩
 ·subst hxx
  simp only [Rows.uptoBulk, bulkAll_sum, Cod.pair]
  have hs : (List.map Rows.uptoBulk (xs.map (·.1))).sum = Rows.uptoBulk xs[0].1 + (Rows.uptoBulk xs[1].1 + (Rows.uptoBulk xs[2].1 + (Rows.uptoBulk xs[3].1 + (Rows.uptoBulk xs[4].1 + (Rows.uptoBulk xs[5].1 + (Rows.uptoBulk xs[6].1)))))) := by
   obtain ⟨x0, x1, x2, x3, x4, x5, x6, rfl⟩ := list_of_len7 xs hxl
   simp
  rw [hs]
  exact Nat.le_succ_of_le (Nat.add_le_add b0 (Nat.add_le_add b1 (Nat.add_le_add b2 (Nat.add_le_add b3 (Nat.add_le_add b4 (Nat.add_le_add b5 b6))))))
theorem list_of_len10 {α : Type} (l : List α) (h : l.length = 10) : ∃ x0 x1 x2 x3 x4 x5 x6 x7 x8 x9, l = [x0, x1, x2, x3, x4, x5, x6, x7, x8, x9] := by
 match l, h with
 | [x0, x1, x2, x3, x4, x5, x6, x7, x8, x9], _ => exact ⟨x0, x1, x2, x3, x4, x5, x6, x7, x8, x9, rfl⟩
theorem reads_struct10 {F : Nat → Prop} {P : Program} {α0 α1 α2 α3 α4 α5 α6 α7 α8 α9 : Type} {t : TypeId} {f0 f1 f2 f3 f4 f5 f6 f7 f8 f9 : Field} {c0 : Cod α0} {c1 : Cod α1} {c2 : Cod α2} {c3 : Cod α3} {c4 : Cod α4} {c5 : Cod α5} {c6 : Cod α6} {c7 : Cod α7} {c8 : Cod α8} {c9 : Cod α9} (ht : P.underlying t = some (.struct #[f0, f1, f2, f3, f4, f5, f6, f7, f8, f9])) (hz : P.cellsOf t = c0.size + c1.size + c2.size + c3.size + c4.size + c5.size + c6.size + c7.size + c8.size + c9.size) (o0 : f0.offset = 0) (o1 : f1.offset = c0.size) (o2 : f2.offset = c0.size + c1.size) (o3 : f3.offset = c0.size + c1.size + c2.size) (o4 : f4.offset = c0.size + c1.size + c2.size + c3.size) (o5 : f5.offset = c0.size + c1.size + c2.size + c3.size + c4.size) (o6 : f6.offset = c0.size + c1.size + c2.size + c3.size + c4.size + c5.size) (o7 : f7.offset = c0.size + c1.size + c2.size + c3.size + c4.size + c5.size + c6.size) (o8 : f8.offset = c0.size + c1.size + c2.size + c3.size + c4.size + c5.size + c6.size + c7.size) (o9 : f9.offset = c0.size + c1.size + c2.size + c3.size + c4.size + c5.size + c6.size + c7.size + c8.size) (z0 : P.cellsOf f0.type = c0.size) (z1 : P.cellsOf f1.type = c1.size) (z2 : P.cellsOf f2.type = c2.size) (z3 : P.cellsOf f3.type = c3.size) (z4 : P.cellsOf f4.type = c4.size) (z5 : P.cellsOf f5.type = c5.size) (z6 : P.cellsOf f6.type = c6.size) (z7 : P.cellsOf f7.type = c7.size) (z8 : P.cellsOf f8.type = c8.size) (z9 : P.cellsOf f9.type = c9.size) (r0 : ReadsF (fun m => F (m + 1)) P c0 f0.type) (r1 : ReadsF (fun m => F (m + 1)) P c1 f1.type) (r2 : ReadsF (fun m => F (m + 1)) P c2 f2.type) (r3 : ReadsF (fun m => F (m + 1)) P c3 f3.type) (r4 : ReadsF (fun m => F (m + 1)) P c4 f4.type) (r5 : ReadsF (fun m => F (m + 1)) P c5 f5.type) (r6 : ReadsF (fun m => F (m + 1)) P c6 f6.type) (r7 : ReadsF (fun m => F (m + 1)) P c7 f7.type) (r8 : ReadsF (fun m => F (m + 1)) P c8 f8.type) (r9 : ReadsF (fun m => F (m + 1)) P c9 f9.type) : ReadsF F P (c0.pair (c1.pair (c2.pair (c3.pair (c4.pair (c5.pair (c6.pair (c7.pair (c8.pair c9))))))))) t := by
 intro H enc w base spare held fuel cs x hF h
 obtain ⟨xs, m, hfu, hxx, hlen, hxl, hf⟩ := DataW.trod_struct ht h
 rw [hz] at hlen
 have hxl : xs.length = 10 := hxl
 have h0 := hf 0 f0 rfl
 rw [o0, z0, List.getElem?_eq_getElem (show 0 < xs.length by omega)] at h0
 obtain ⟨a0, k0, b0⟩ := r0 (by subst hfu; exact hF) h0
 have h1 := hf 1 f1 rfl
 rw [o1, z1, List.getElem?_eq_getElem (show 1 < xs.length by omega)] at h1
 obtain ⟨a1, k1, b1⟩ := r1 (by subst hfu; exact hF) h1
 have h2 := hf 2 f2 rfl
 rw [o2, z2, List.getElem?_eq_getElem (show 2 < xs.length by omega)] at h2
 obtain ⟨a2, k2, b2⟩ := r2 (by subst hfu; exact hF) h2
 have h3 := hf 3 f3 rfl
 rw [o3, z3, List.getElem?_eq_getElem (show 3 < xs.length by omega)] at h3
 obtain ⟨a3, k3, b3⟩ := r3 (by subst hfu; exact hF) h3
 have h4 := hf 4 f4 rfl
 rw [o4, z4, List.getElem?_eq_getElem (show 4 < xs.length by omega)] at h4
 obtain ⟨a4, k4, b4⟩ := r4 (by subst hfu; exact hF) h4
 have h5 := hf 5 f5 rfl
 rw [o5, z5, List.getElem?_eq_getElem (show 5 < xs.length by omega)] at h5
 obtain ⟨a5, k5, b5⟩ := r5 (by subst hfu; exact hF) h5
 have h6 := hf 6 f6 rfl
 rw [o6, z6, List.getElem?_eq_getElem (show 6 < xs.length by omega)] at h6
 obtain ⟨a6, k6, b6⟩ := r6 (by subst hfu; exact hF) h6
 have h7 := hf 7 f7 rfl
 rw [o7, z7, List.getElem?_eq_getElem (show 7 < xs.length by omega)] at h7
 obtain ⟨a7, k7, b7⟩ := r7 (by subst hfu; exact hF) h7
 have h8 := hf 8 f8 rfl
 rw [o8, z8, List.getElem?_eq_getElem (show 8 < xs.length by omega)] at h8
 obtain ⟨a8, k8, b8⟩ := r8 (by subst hfu; exact hF) h8
 have h9 := hf 9 f9 rfl
 rw [o9, z9, List.getElem?_eq_getElem (show 9 < xs.length by omega)] at h9
 obtain ⟨a9, k9, b9⟩ := r9 (by subst hfu; exact hF) h9
 rw [take_drop_all cs (c0.size + c1.size + c2.size + c3.size + c4.size + c5.size + c6.size + c7.size + c8.size) c9.size (by omega)] at k9
 refine ⟨(a0, (a1, (a2, (a3, (a4, (a5, (a6, (a7, (a8, a9))))))))), ?_, ?_⟩
 ·exact ⟨by simpa using k0, ⟨by simpa [List.drop_drop, Nat.add_assoc] using k1, ⟨by simpa [List.drop_drop, Nat.add_assoc] using k2, ⟨by simpa [List.drop_drop, Nat.add_assoc] using k3, ⟨by simpa [List.drop_drop, Nat.add_assoc] using k4, ⟨by simpa [List.drop_drop, Nat.add_assoc] using k5, ⟨by simpa [List.drop_drop, Nat.add_assoc] using k6, ⟨by simpa [List.drop_drop, Nat.add_assoc] using k7, ⟨by simpa [List.drop_drop, Nat.add_assoc] using k8, (by simpa [List.drop_drop, Nat.add_assoc] using k9)⟩⟩⟩⟩⟩⟩⟩⟩⟩
 ·subst hxx
  simp only [Rows.uptoBulk, bulkAll_sum, Cod.pair]
  have hs : (List.map Rows.uptoBulk (xs.map (·.1))).sum = Rows.uptoBulk xs[0].1 + (Rows.uptoBulk xs[1].1 + (Rows.uptoBulk xs[2].1 + (Rows.uptoBulk xs[3].1 + (Rows.uptoBulk xs[4].1 + (Rows.uptoBulk xs[5].1 + (Rows.uptoBulk xs[6].1 + (Rows.uptoBulk xs[7].1 + (Rows.uptoBulk xs[8].1 + (Rows.uptoBulk xs[9].1))))))))) := by
   obtain ⟨x0, x1, x2, x3, x4, x5, x6, x7, x8, x9, rfl⟩ := list_of_len10 xs hxl
   simp
  rw [hs]
  exact Nat.le_succ_of_le (Nat.add_le_add b0 (Nat.add_le_add b1 (Nat.add_le_add b2 (Nat.add_le_add b3 (Nat.add_le_add b4 (Nat.add_le_add b5 (Nat.add_le_add b6 (Nat.add_le_add b7 (Nat.add_le_add b8 b9)))))))))
end Go.Proofs.Ytohbeolimnpehaa

