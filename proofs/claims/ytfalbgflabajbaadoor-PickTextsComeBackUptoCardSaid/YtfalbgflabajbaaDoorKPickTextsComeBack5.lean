/- Parts of the proof of PickTextsComeBack, in order. -/
import Derived.Orders
import Derived.Below
import Derived.WalkKit
import Derived.Test.YtfalbgflabajbaaDoorRows
import Derived.Lib.LaidTab
import Derived.Lib.ItoaNum
import Derived.KernelRfl
import Derived.Laws.StructEq
import Derived.Laws.Append
import Derived.Laws.AppendOwn
import Derived.Lib.Bytealg
import Derived.Sort.Defs
import Derived.Lib.BitFns
import Derived.Lib.Strings
import Derived.Lib.Split
import Derived.Lib.IndexMore
import Derived.Lib.TrimByte
import Derived.Lib.Join
import Derived.Lib.Atoi
import Derived.WalkSpells
import Derived.ProofKit
import Derived.OpenShut
import Derived.Deep.QuietTactic
import Derived.BigQuiet
import Derived.Lib.Hide
import Derived.IntWalk
import Derived.Deep.RegionHeld3
import Derived.Test.YtfalbgflabajbaaDoorTrim
import Derived.Test.YtfalbgflabajbaaDoorShelf
import Derived.Lib.SmallJoins
import Derived.Deep.Slices
import Derived.OwnWalk
import Derived.Laws.OwnMore
import Derived.Deep.AppendLies
import Derived.StillTail
import Derived.Lib.QuietBelow
import Derived.WalkLawsBesides
import Derived.Recover
import Derived.Defers
import Derived.Lib.Builder
import Derived.Lib.AppendStr
import Derived.Lib.UnsafeStr
import Derived.Lib.OthersKept
import Derived.Lib.OwnKind
import Derived.Laws.Externs
import Derived.Shelf.Strings.Builder1
import Derived.Sort.Statements
import Derived.Lib.ItoaMem
import Derived.Lib.ItoaLen
import Derived.Deep.DeepHandedRow
import Derived.Test.YtfalbgflabajbaaDoorKPickTextsComeBack4
namespace Go.Proofs.YtfalbgflabajbaaDoor
set_option linter.unusedSectionVars false
set_option linter.unusedVariables false
set_option linter.unusedSimpArgs false
set_option maxRecDepth 100000
noncomputable def t_pick_size (q_pick_size : PickD → Option (Int × Int)) (a0 : PickD) : Option (Int × Int) :=
 forE a0.args (fun (i8 : Nat) e7 (s1 : (Int × Int)) => (show Option (Lr (Int × Int) (Int × Int) Unit) from
   (q_pick_size e7).bind fun r9 =>
   some (.go (IntKind.i64.wrap (s1.1 + r9.1), (if s1.2 < IntKind.i64.wrap (r9.2 + 1) then IntKind.i64.wrap (r9.2 + 1) else s1.2))))) (fun s1 => some (s1.1, s1.2)) (1, 1) (fun b2 =>
  some (b2.1, b2.2)) (fun b2 =>
  none)
theorem h_pick_size {rc : Nat → List AV → Heap → Option (AV × Heap)} (q_pick_size : PickD → Option (Int × Int)) (hq_pick_size : ∀ (x0 : PickD) (s : Heap) r, q_pick_size x0 = some r → rc 37 [(AV.agg (cPick x0))] s = some ((AV.tup [(AV.int .i64 r.1), (AV.int .i64 r.2)]), s)) {a0 : PickD} {σ : Heap} {r : (Int × Int)} (h : t_pick_size q_pick_size a0 = some r) : A.wrap true [(.a [.k, .k, .k, (.s 4)])] .k (A.ar1 (r_pick_size rc)) [(AV.agg (cPick a0))] σ = some ((AV.tup [(AV.int .i64 r.1), (AV.int .i64 r.2)]), σ) := by
 refine rf_wrap1 (f := r_pick_size rc) (y0 := (AV.agg (cPick a0))) (enc := fun r : (Int × Int) => (AV.tup [(AV.int .i64 r.1), (AV.int .i64 r.2)])) (T := t_pick_size q_pick_size a0) (by first | rfl | (simp only [cPick_eq]; rfl)) (by first | rfl | (simp only [cPick_eq]; rfl)) ?_ r h
 unfold r_pick_size t_pick_size
 refine rf_s (cPick a0) (by first | rfl | (simp only [cPick_eq]; rfl)) <| rf_s (sl 4 cPick a0.args) (by first | rfl | (simp only [cPick_eq]; rfl)) <| rf_s _ (lenS_sl _ _ _) ?_
 refine rf_for (B := (Int × Int)) (R := Unit) (fun (i8 : Nat) (s1 : (Int × Int)) v w3 => v = [(AV.int .i64 s1.1), (AV.int .i64 s1.2), (AV.int .i64 (i8 : Int))] ∧ σ = w3) (fun (b2 : (Int × Int)) (q : LS) => ∃ u11, q = ((AX.exit 0), ([(AV.int .i64 b2.1), (AV.int .i64 b2.2), u11] : List AV), σ)) (fun (b2 : Unit) (q : LS) => False) ?_ ?_ ⟨rfl, rfl⟩ ?_ ?_
 ·intro hle7 i8 e7 s1 v w3 he7 hI
  obtain ⟨rfl, rfl⟩ := hI
  refine rf_s _ (ix_lt he7) <| rf_ct <| rf_s _ (ix_for he7) <| rf_s (AV.agg (cPick e7)) (by first | rfl | (simp only [cPick_eq]; rfl)) <| rf_s (cPick e7) (by first | rfl | (simp only [cPick_eq]; rfl)) <| rf_s _ (sp_cPick _ _ rfl) <| rf_s (AV.agg (cPick e7)) (by first | rfl | (simp only [cPick_eq]; rfl)) ?_
  refine rf_o (fun r9 : (Int × Int) => ((AV.tup [(AV.int .i64 r9.1), (AV.int .i64 r9.2)]), σ)) (fun r9 hr9 => hq_pick_size _ _ _ hr9) (fun r9 hr9 => ?_)
  refine rf_s (AV.int .i64 r9.1) (by first | rfl | (simp only [cPick_eq]; rfl)) <| rf_s (AV.int .i64 r9.2) (by first | rfl | (simp only [cPick_eq]; rfl)) <| rf_s (AV.int .i64 (IntKind.i64.wrap (s1.1 + r9.1))) (by first | rfl | (simp only [cPick_eq]; rfl)) <| rf_s (AV.int .i64 (IntKind.i64.wrap (r9.2 + 1))) (by first | rfl | (simp only [cPick_eq]; rfl)) <| rf_s (AV.int .i64 (if s1.2 < IntKind.i64.wrap (r9.2 + 1) then IntKind.i64.wrap (r9.2 + 1) else s1.2)) (by first | rfl | (simp only [cPick_eq]; rfl)) <| rf_s _ (ix_inc he7 hle7) ?_
  exact rf_ret (rnd_go ⟨rfl, rfl⟩)
 ·intro hl s1 v w3 hI
  obtain ⟨rfl, rfl⟩ := hI
  refine rf_s _ (ix_end _) <| rf_cf ?_
  exact rf_ret ⟨by simp, ⟨_, rfl⟩⟩
 ·intro hl b2 q hq
  obtain ⟨u11, rfl⟩ := hq
  refine rf_bt (by first | rfl | (simp only [cPick_eq]; rfl)) ?_
  exact rf_fin _ (fin_same _ _) ⟨rfl, rfl⟩
 ·intro hl b2 q hq
  exact False.elim hq

noncomputable def t_pick_check (q_pick_check : PickD → Option Int) (a0 : PickD) : Option Int :=
 if a0.kind = 1 then
  (show Option Bool from
    if a0.kind = 4 then
     some (decide ((a0.args.length : Int) < 2))
    else
    some (decide (¬ ((a0.args.length : Int) = 0)))).bind fun j2 =>
  if ((j2 || ((!true) && (decide (¬ (a0.frm = 0))))) || ((!true) && (decide (¬ (a0.to = 0))))) = true then
   some 3
  else
  (show Option Int from
    if a0.kind = 2 then
     some 999
    else
    (show Option Int from
      if a0.kind = 3 then
       some 999
      else
      some 9999).bind fun j6 =>
    some j6).bind fun j10 =>
  if ((true && (!(withinB a0.frm 1 j10))) || (true && (!(withinB a0.to 1 j10)))) = true then
   some 1
  else
  forE a0.args (fun (i20 : Nat) e19 (s13 : Unit) => (show Option (Lr Unit Unit Int) from
    (q_pick_check e19).bind fun r21 =>
    if ¬ (r21 = 0) then
     some (.ret r21)
    else
    some (.go ()))) (fun s13 => some ()) () (fun b14 =>
   some 0) (fun b14 =>
   some b14)
 else
 (show Option Bool from
   if a0.kind = 2 then
    some (decide (a0.kind = 2))
   else
   some (decide (a0.kind = 3))).bind fun j26 =>
 if j26 = true then
  (show Option Bool from
    if a0.kind = 4 then
     some (decide ((a0.args.length : Int) < 2))
    else
    some (decide (¬ ((a0.args.length : Int) = 0)))).bind fun j30 =>
  if ((j30 || ((!true) && (decide (¬ (a0.frm = 0))))) || ((!false) && (decide (¬ (a0.to = 0))))) = true then
   some 3
  else
  (show Option Int from
    if a0.kind = 2 then
     some 999
    else
    (show Option Int from
      if a0.kind = 3 then
       some 999
      else
      some 9999).bind fun j34 =>
    some j34).bind fun j38 =>
  if ((true && (!(withinB a0.frm 1 j38))) || (false && (!(withinB a0.to 1 j38)))) = true then
   some 1
  else
  forE a0.args (fun (i48 : Nat) e47 (s41 : Unit) => (show Option (Lr Unit Unit Int) from
    (q_pick_check e47).bind fun r49 =>
    if ¬ (r49 = 0) then
     some (.ret r49)
    else
    some (.go ()))) (fun s41 => some ()) () (fun b42 =>
   some 0) (fun b42 =>
   some b42)
 else
 (show Option Bool from
   if a0.kind = 4 then
    some (decide (a0.kind = 4))
   else
   some (decide (a0.kind = 5))).bind fun j54 =>
 if j54 = true then
  (show Option Bool from
    if a0.kind = 4 then
     some (decide ((a0.args.length : Int) < 2))
    else
    some (decide (¬ ((a0.args.length : Int) = 2)))).bind fun j58 =>
  if ((j58 || ((!false) && (decide (¬ (a0.frm = 0))))) || ((!false) && (decide (¬ (a0.to = 0))))) = true then
   some 3
  else
  (show Option Int from
    if a0.kind = 2 then
     some 999
    else
    (show Option Int from
      if a0.kind = 3 then
       some 999
      else
      some 9999).bind fun j62 =>
    some j62).bind fun j66 =>
  if ((false && (!(withinB a0.frm 1 j66))) || (false && (!(withinB a0.to 1 j66)))) = true then
   some 1
  else
  forE a0.args (fun (i76 : Nat) e75 (s69 : Unit) => (show Option (Lr Unit Unit Int) from
    (q_pick_check e75).bind fun r77 =>
    if ¬ (r77 = 0) then
     some (.ret r77)
    else
    some (.go ()))) (fun s69 => some ()) () (fun b70 =>
   some 0) (fun b70 =>
   some b70)
 else
 (show Option Bool from
   if a0.kind = 6 then
    some (decide (a0.kind = 6))
   else
   (show Option Bool from
     if a0.kind = 7 then
      some (decide (a0.kind = 7))
     else
     some (decide (a0.kind = 8))).bind fun j82 =>
   some j82).bind fun j86 =>
 if j86 = true then
  (show Option Bool from
    if a0.kind = 4 then
     some (decide ((a0.args.length : Int) < 2))
    else
    some (decide (¬ ((a0.args.length : Int) = 1)))).bind fun j90 =>
  if ((j90 || ((!false) && (decide (¬ (a0.frm = 0))))) || ((!false) && (decide (¬ (a0.to = 0))))) = true then
   some 3
  else
  (show Option Int from
    if a0.kind = 2 then
     some 999
    else
    (show Option Int from
      if a0.kind = 3 then
       some 999
      else
      some 9999).bind fun j94 =>
    some j94).bind fun j98 =>
  if ((false && (!(withinB a0.frm 1 j98))) || (false && (!(withinB a0.to 1 j98)))) = true then
   some 1
  else
  forE a0.args (fun (i108 : Nat) e107 (s101 : Unit) => (show Option (Lr Unit Unit Int) from
    (q_pick_check e107).bind fun r109 =>
    if ¬ (r109 = 0) then
     some (.ret r109)
    else
    some (.go ()))) (fun s101 => some ()) () (fun b102 =>
   some 0) (fun b102 =>
   some b102)
 else
 if a0.kind = 9 then
  (show Option Bool from
    if a0.kind = 4 then
     some (decide ((a0.args.length : Int) < 2))
    else
    some (decide (¬ ((a0.args.length : Int) = 1)))).bind fun j114 =>
  if ((j114 || ((!true) && (decide (¬ (a0.frm = 0))))) || ((!true) && (decide (¬ (a0.to = 0))))) = true then
   some 3
  else
  (show Option Int from
    if a0.kind = 2 then
     some 999
    else
    (show Option Int from
      if a0.kind = 3 then
       some 999
      else
      some 9999).bind fun j118 =>
    some j118).bind fun j122 =>
  if ((true && (!(withinB a0.frm 1 j122))) || (true && (!(withinB a0.to 1 j122)))) = true then
   some 1
  else
  forE a0.args (fun (i132 : Nat) e131 (s125 : Unit) => (show Option (Lr Unit Unit Int) from
    (q_pick_check e131).bind fun r133 =>
    if ¬ (r133 = 0) then
     some (.ret r133)
    else
    some (.go ()))) (fun s125 => some ()) () (fun b126 =>
   some 0) (fun b126 =>
   some b126)
 else
 some 4
theorem h_pick_check {rc : Nat → List AV → Heap → Option (AV × Heap)} (q_pick_check : PickD → Option Int) (hq_pick_check : ∀ (x0 : PickD) (s : Heap) r, q_pick_check x0 = some r → rc 38 [(AV.agg (cPick x0))] s = some ((AV.int .i64 r), s)) {a0 : PickD} {σ : Heap} {r : Int} (h : t_pick_check q_pick_check a0 = some r) : A.wrap true [(.a [.k, .k, .k, (.s 4)])] .k (A.ar1 (r_pick_check rc)) [(AV.agg (cPick a0))] σ = some ((AV.int .i64 r), σ) := by
 refine rf_wrap1 (f := r_pick_check rc) (y0 := (AV.agg (cPick a0))) (enc := fun r : Int => (AV.int .i64 r)) (T := t_pick_check q_pick_check a0) (by first | rfl | (simp only [cPick_eq]; rfl)) (by first | rfl | (simp only [cPick_eq]; rfl)) ?_ r h
 unfold r_pick_check t_pick_check
 refine rf_s (cPick a0) (by first | rfl | (simp only [cPick_eq]; rfl)) <| rf_s (AV.int .i64 a0.kind) (by first | rfl | (simp only [cPick_eq]; rfl)) <| rf_s _ (aEq _ _ _) ?_
 refine rf_c (p := a0.kind = 1) (fun c141 => ?_) (fun c141 => ?_)
 ·refine rf_s (sl 4 cPick a0.args) (by first | rfl | (simp only [cPick_eq]; rfl)) <| rf_s _ (lenS_sl _ _ _) <| rf_s _ (aNe _ _ _) <| rf_s (AV.int .i64 a0.kind) (by first | rfl | (simp only [cPick_eq]; rfl)) <| rf_s _ (aEq _ _ _) ?_
  refine rf_b (ω := Bool) (fun j2 a => a = (([(AV.lbx (cPick a0)), (AV.bool j2)] : List AV), σ)) (
    by
     refine rf_c (p := a0.kind = 4) (fun c1 => ?_) (fun c1 => ?_)
     ·refine rf_s (sl 4 cPick a0.args) (by first | rfl | (simp only [cPick_eq]; rfl)) <| rf_s _ (lenS_sl _ _ _) <| rf_s (AV.bool (decide ((a0.args.length : Int) < 2))) (by first | rfl | (simp only [cPick_eq]; rfl)) ?_
      exact rf_ret rfl
     exact rf_ret rfl
    ) (fun j2 a ha => ?_)
  subst ha
  refine rf_gf (AV.bool true) (fun hg => by first | rfl | (simp only [cPick_eq]; rfl)) <| rf_gf (AV.bool (!true)) (fun hg => by (try rw [hg]); exact rfl) <| rf_gf (AV.bool (!true)) (fun hg => by (try rw [hg]); exact rfl) <| rf_s _ (by first | rfl | (simp only [cPick_eq]; rfl)) <| rf_ggt (AV.int .i64 a0.frm) (fun hg => by first | rfl | (simp only [cPick_eq]; rfl)) <| rf_ggt (AV.bool (decide (¬ (a0.frm = 0)))) (fun hg => by (try rw [hg]); exact (aNe _ _ _)) <| rf_gf (AV.bool ((!true) && (decide (¬ (a0.frm = 0))))) (fun hg => by (try rw [hg]); exact (pk_and _ _)) <| rf_s _ (pk_or _ _) <| rf_gf (AV.bool true) (fun hg => by first | rfl | (simp only [cPick_eq]; rfl)) <| rf_gf (AV.bool (!true)) (fun hg => by (try rw [hg]); exact rfl) <| rf_gf (AV.bool (!true)) (fun hg => by (try rw [hg]); exact rfl) <| rf_s _ (by first | rfl | (simp only [cPick_eq]; rfl)) <| rf_ggt (AV.int .i64 a0.to) (fun hg => by first | rfl | (simp only [cPick_eq]; rfl)) <| rf_ggt (AV.bool (decide (¬ (a0.to = 0)))) (fun hg => by (try rw [hg]); exact (aNe _ _ _)) <| rf_gf (AV.bool ((!true) && (decide (¬ (a0.to = 0))))) (fun hg => by (try rw [hg]); exact (pk_and _ _)) <| rf_s _ (pk_or _ _) ?_
  refine rf_cb (c := ((j2 || ((!true) && (decide (¬ (a0.frm = 0))))) || ((!true) && (decide (¬ (a0.to = 0)))))) (fun c24 => ?_) (fun c24 => ?_)
  ·exact rf_fin _ (fin_same _ _) ⟨rfl, rfl⟩
  refine rf_s _ (by first | rfl | (simp only [cPick_eq]; rfl)) <| rf_s (AV.int .i64 a0.kind) (by first | rfl | (simp only [cPick_eq]; rfl)) <| rf_s _ (aEq _ _ _) ?_
  refine rf_b (ω := Int) (fun j10 a => a = (([(AV.lbx (cPick a0)), (AV.int .i64 j10)] : List AV), σ)) (
    by
     refine rf_c (p := a0.kind = 2) (fun c9 => ?_) (fun c9 => ?_)
     ·exact rf_ret rfl
     refine rf_s _ (aEq _ _ _) ?_
     refine rf_b (ω := Int) (fun j6 a => a = (([(AV.lbx (cPick a0)), (AV.int .i64 j6)] : List AV), σ)) (
       by
        refine rf_c (p := a0.kind = 3) (fun c5 => ?_) (fun c5 => ?_)
        ·exact rf_ret rfl
        exact rf_ret rfl
       ) (fun j6 a ha => ?_)
     subst ha
     exact rf_ret rfl
    ) (fun j10 a ha => ?_)
  subst ha
  refine rf_s _ (by first | rfl | (simp only [cPick_eq]; rfl)) <| rf_gt (AV.int .i64 a0.frm) (fun hg => by first | rfl | (simp only [cPick_eq]; rfl)) <| rf_gt (AV.int .i64 j10) (fun hg => by first | rfl | (simp only [cPick_eq]; rfl)) <| rf_gt (AV.bool (withinB a0.frm 1 j10)) (fun hg => by (try rw [hg]); exact (quiet_of (Within_eq a0.frm 1 j10 σ))) <| rf_gt (AV.bool (!(withinB a0.frm 1 j10))) (fun hg => by (try rw [hg]); exact rfl) <| rf_s _ (pk_and _ _) <| rf_gf (AV.bool true) (fun hg => by first | rfl | (simp only [cPick_eq]; rfl)) <| rf_gf (AV.bool true) (fun hg => by (try rw [hg]); exact rfl) <| rf_s _ (by first | rfl | (simp only [cPick_eq]; rfl)) <| rf_ggt (AV.int .i64 a0.to) (fun hg => by first | rfl | (simp only [cPick_eq]; rfl)) <| rf_ggt (AV.int .i64 j10) (fun hg => by first | rfl | (simp only [cPick_eq]; rfl)) <| rf_ggt (AV.bool (withinB a0.to 1 j10)) (fun hg => by (try rw [hg]); exact (quiet_of (Within_eq a0.to 1 j10 σ))) <| rf_ggt (AV.bool (!(withinB a0.to 1 j10))) (fun hg => by (try rw [hg]); exact rfl) <| rf_gf (AV.bool (true && (!(withinB a0.to 1 j10)))) (fun hg => by (try rw [hg]); exact (pk_and _ _)) <| rf_s _ (pk_or _ _) ?_
  refine rf_cb (c := ((true && (!(withinB a0.frm 1 j10))) || (true && (!(withinB a0.to 1 j10))))) (fun c23 => ?_) (fun c23 => ?_)
  ·exact rf_fin _ (fin_same _ _) ⟨rfl, rfl⟩
  refine rf_s _ (by first | rfl | (simp only [cPick_eq]; rfl)) <| rf_s (sl 4 cPick a0.args) (by first | rfl | (simp only [cPick_eq]; rfl)) <| rf_s _ (lenS_sl _ _ _) ?_
  refine rf_for (B := Unit) (R := Int) (fun (i20 : Nat) (s13 : Unit) v w15 => v = [(AV.int .i64 0), (AV.int .i64 (i20 : Int))] ∧ σ = w15) (fun (b14 : Unit) (q : LS) => ∃ u2 u85, q = ((AX.exit 2), ([u2, u85] : List AV), σ)) (fun (b14 : Int) (q : LS) => ∃ u85, q = (AX.ret, ([(AV.int .i64 b14), u85] : List AV), σ)) ?_ ?_ ⟨rfl, rfl⟩ ?_ ?_
  ·intro hle19 i20 e19 s13 v w15 he19 hI
   obtain ⟨rfl, rfl⟩ := hI
   refine rf_s _ (ix_lt he19) <| rf_ct <| rf_s _ (ix_for he19) <| rf_s (AV.agg (cPick e19)) (by first | rfl | (simp only [cPick_eq]; rfl)) <| rf_s (cPick e19) (by first | rfl | (simp only [cPick_eq]; rfl)) <| rf_s _ (sp_cPick _ _ rfl) <| rf_s (AV.agg (cPick e19)) (by first | rfl | (simp only [cPick_eq]; rfl)) ?_
   refine rf_o (fun r21 : Int => ((AV.int .i64 r21), σ)) (fun r21 hr21 => hq_pick_check _ _ _ hr21) (fun r21 hr21 => ?_)
   refine rf_s _ (aNe _ _ _) ?_
   refine rf_c (p := ¬ (r21 = 0)) (fun c22 => ?_) (fun c22 => ?_)
   ·exact rf_ret (rnd_ret (by simp) ⟨_, rfl⟩)
   refine rf_s _ (ix_inc he19 hle19) ?_
   exact rf_ret (rnd_go ⟨rfl, rfl⟩)
  ·intro hl s13 v w15 hI
   obtain ⟨rfl, rfl⟩ := hI
   refine rf_s _ (ix_end _) <| rf_cf ?_
   exact rf_ret ⟨by simp, ⟨_, _, rfl⟩⟩
  ·intro hl b14 q hq
   obtain ⟨u2, u85, rfl⟩ := hq
   refine rf_bt (by first | rfl | (simp only [cPick_eq]; rfl)) ?_
   exact rf_fin _ (fin_same _ _) ⟨rfl, rfl⟩
  ·intro hl b14 q hq
   obtain ⟨u85, rfl⟩ := hq
   refine rf_bf (by first | rfl | (simp only [cPick_eq]; rfl)) <| rf_bt (by first | rfl | (simp only [cPick_eq]; rfl)) ?_
   exact rf_fin _ (fin_same _ _) ⟨rfl, rfl⟩
 refine rf_s _ (aEq _ _ _) ?_
 refine rf_b (ω := Bool) (fun j26 a => a = (([(AV.lbx (cPick a0)), (AV.bool j26)] : List AV), σ)) (
   by
    refine rf_c (p := a0.kind = 2) (fun c25 => ?_) (fun c25 => ?_)
    ·exact rf_ret rfl
    refine rf_s _ (aEq _ _ _) ?_
    exact rf_ret rfl
   ) (fun j26 a ha => ?_)
 subst ha
 refine rf_cb (c := j26) (fun c140 => ?_) (fun c140 => ?_)
 ·refine rf_s _ (by first | rfl | (simp only [cPick_eq]; rfl)) <| rf_s (sl 4 cPick a0.args) (by first | rfl | (simp only [cPick_eq]; rfl)) <| rf_s _ (lenS_sl _ _ _) <| rf_s _ (aNe _ _ _) <| rf_s _ (by first | rfl | (simp only [cPick_eq]; rfl)) <| rf_s (AV.int .i64 a0.kind) (by first | rfl | (simp only [cPick_eq]; rfl)) <| rf_s _ (aEq _ _ _) ?_
  refine rf_b (ω := Bool) (fun j30 a => a = (([(AV.lbx (cPick a0)), (AV.bool j30)] : List AV), σ)) (
    by
     refine rf_c (p := a0.kind = 4) (fun c29 => ?_) (fun c29 => ?_)
     ·refine rf_s _ (by first | rfl | (simp only [cPick_eq]; rfl)) <| rf_s (sl 4 cPick a0.args) (by first | rfl | (simp only [cPick_eq]; rfl)) <| rf_s _ (lenS_sl _ _ _) <| rf_s (AV.bool (decide ((a0.args.length : Int) < 2))) (by first | rfl | (simp only [cPick_eq]; rfl)) ?_
      exact rf_ret rfl
     exact rf_ret rfl
    ) (fun j30 a ha => ?_)
  subst ha
  refine rf_gf (AV.bool true) (fun hg => by first | rfl | (simp only [cPick_eq]; rfl)) <| rf_gf (AV.bool (!true)) (fun hg => by (try rw [hg]); exact rfl) <| rf_gf (AV.bool (!true)) (fun hg => by (try rw [hg]); exact rfl) <| rf_s _ (by first | rfl | (simp only [cPick_eq]; rfl)) <| rf_ggt (AV.int .i64 a0.frm) (fun hg => by first | rfl | (simp only [cPick_eq]; rfl)) <| rf_ggt (AV.bool (decide (¬ (a0.frm = 0)))) (fun hg => by (try rw [hg]); exact (aNe _ _ _)) <| rf_gf (AV.bool ((!true) && (decide (¬ (a0.frm = 0))))) (fun hg => by (try rw [hg]); exact (pk_and _ _)) <| rf_s _ (pk_or _ _) <| rf_gf (AV.bool false) (fun hg => by first | rfl | (simp only [cPick_eq]; rfl)) <| rf_gf (AV.bool (!false)) (fun hg => by (try rw [hg]); exact rfl) <| rf_gf (AV.bool (!false)) (fun hg => by (try rw [hg]); exact rfl) <| rf_s _ (by first | rfl | (simp only [cPick_eq]; rfl)) <| rf_ggt (AV.int .i64 a0.to) (fun hg => by first | rfl | (simp only [cPick_eq]; rfl)) <| rf_ggt (AV.bool (decide (¬ (a0.to = 0)))) (fun hg => by (try rw [hg]); exact (aNe _ _ _)) <| rf_gf (AV.bool ((!false) && (decide (¬ (a0.to = 0))))) (fun hg => by (try rw [hg]); exact (pk_and _ _)) <| rf_s _ (pk_or _ _) ?_
  refine rf_cb (c := ((j30 || ((!true) && (decide (¬ (a0.frm = 0))))) || ((!false) && (decide (¬ (a0.to = 0)))))) (fun c52 => ?_) (fun c52 => ?_)
  ·exact rf_fin _ (fin_same _ _) ⟨rfl, rfl⟩
  refine rf_s _ (by first | rfl | (simp only [cPick_eq]; rfl)) <| rf_s (AV.int .i64 a0.kind) (by first | rfl | (simp only [cPick_eq]; rfl)) <| rf_s _ (aEq _ _ _) ?_
  refine rf_b (ω := Int) (fun j38 a => a = (([(AV.lbx (cPick a0)), (AV.int .i64 j38)] : List AV), σ)) (
    by
     refine rf_c (p := a0.kind = 2) (fun c37 => ?_) (fun c37 => ?_)
     ·exact rf_ret rfl
     refine rf_s _ (aEq _ _ _) ?_
     refine rf_b (ω := Int) (fun j34 a => a = (([(AV.lbx (cPick a0)), (AV.int .i64 j34)] : List AV), σ)) (
       by
        refine rf_c (p := a0.kind = 3) (fun c33 => ?_) (fun c33 => ?_)
        ·exact rf_ret rfl
        exact rf_ret rfl
       ) (fun j34 a ha => ?_)
     subst ha
     exact rf_ret rfl
    ) (fun j38 a ha => ?_)
  subst ha
  refine rf_s _ (by first | rfl | (simp only [cPick_eq]; rfl)) <| rf_gt (AV.int .i64 a0.frm) (fun hg => by first | rfl | (simp only [cPick_eq]; rfl)) <| rf_gt (AV.int .i64 j38) (fun hg => by first | rfl | (simp only [cPick_eq]; rfl)) <| rf_gt (AV.bool (withinB a0.frm 1 j38)) (fun hg => by (try rw [hg]); exact (quiet_of (Within_eq a0.frm 1 j38 σ))) <| rf_gt (AV.bool (!(withinB a0.frm 1 j38))) (fun hg => by (try rw [hg]); exact rfl) <| rf_s _ (pk_and _ _) <| rf_gf (AV.bool false) (fun hg => by first | rfl | (simp only [cPick_eq]; rfl)) <| rf_gf (AV.bool false) (fun hg => by (try rw [hg]); exact rfl) <| rf_s _ (by first | rfl | (simp only [cPick_eq]; rfl)) <| rf_ggt (AV.int .i64 a0.to) (fun hg => by first | rfl | (simp only [cPick_eq]; rfl)) <| rf_ggt (AV.int .i64 j38) (fun hg => by first | rfl | (simp only [cPick_eq]; rfl)) <| rf_ggt (AV.bool (withinB a0.to 1 j38)) (fun hg => by (try rw [hg]); exact (quiet_of (Within_eq a0.to 1 j38 σ))) <| rf_ggt (AV.bool (!(withinB a0.to 1 j38))) (fun hg => by (try rw [hg]); exact rfl) <| rf_gf (AV.bool (false && (!(withinB a0.to 1 j38)))) (fun hg => by (try rw [hg]); exact (pk_and _ _)) <| rf_s _ (pk_or _ _) ?_
  refine rf_cb (c := ((true && (!(withinB a0.frm 1 j38))) || (false && (!(withinB a0.to 1 j38))))) (fun c51 => ?_) (fun c51 => ?_)
  ·exact rf_fin _ (fin_same _ _) ⟨rfl, rfl⟩
  refine rf_s _ (by first | rfl | (simp only [cPick_eq]; rfl)) <| rf_s (sl 4 cPick a0.args) (by first | rfl | (simp only [cPick_eq]; rfl)) <| rf_s _ (lenS_sl _ _ _) ?_
  refine rf_for (B := Unit) (R := Int) (fun (i48 : Nat) (s41 : Unit) v w43 => v = [(AV.int .i64 0), (AV.int .i64 (i48 : Int))] ∧ σ = w43) (fun (b42 : Unit) (q : LS) => ∃ u2 u85, q = ((AX.exit 2), ([u2, u85] : List AV), σ)) (fun (b42 : Int) (q : LS) => ∃ u85, q = (AX.ret, ([(AV.int .i64 b42), u85] : List AV), σ)) ?_ ?_ ⟨rfl, rfl⟩ ?_ ?_
  ·intro hle47 i48 e47 s41 v w43 he47 hI
   obtain ⟨rfl, rfl⟩ := hI
   refine rf_s _ (ix_lt he47) <| rf_ct <| rf_s _ (ix_for he47) <| rf_s (AV.agg (cPick e47)) (by first | rfl | (simp only [cPick_eq]; rfl)) <| rf_s (cPick e47) (by first | rfl | (simp only [cPick_eq]; rfl)) <| rf_s _ (sp_cPick _ _ rfl) <| rf_s (AV.agg (cPick e47)) (by first | rfl | (simp only [cPick_eq]; rfl)) ?_
   refine rf_o (fun r49 : Int => ((AV.int .i64 r49), σ)) (fun r49 hr49 => hq_pick_check _ _ _ hr49) (fun r49 hr49 => ?_)
   refine rf_s _ (aNe _ _ _) ?_
   refine rf_c (p := ¬ (r49 = 0)) (fun c50 => ?_) (fun c50 => ?_)
   ·exact rf_ret (rnd_ret (by simp) ⟨_, rfl⟩)
   refine rf_s _ (ix_inc he47 hle47) ?_
   exact rf_ret (rnd_go ⟨rfl, rfl⟩)
  ·intro hl s41 v w43 hI
   obtain ⟨rfl, rfl⟩ := hI
   refine rf_s _ (ix_end _) <| rf_cf ?_
   exact rf_ret ⟨by simp, ⟨_, _, rfl⟩⟩
  ·intro hl b42 q hq
   obtain ⟨u2, u85, rfl⟩ := hq
   refine rf_bt (by first | rfl | (simp only [cPick_eq]; rfl)) ?_
   exact rf_fin _ (fin_same _ _) ⟨rfl, rfl⟩
  ·intro hl b42 q hq
   obtain ⟨u85, rfl⟩ := hq
   refine rf_bf (by first | rfl | (simp only [cPick_eq]; rfl)) <| rf_bt (by first | rfl | (simp only [cPick_eq]; rfl)) ?_
   exact rf_fin _ (fin_same _ _) ⟨rfl, rfl⟩
 refine rf_s _ (aEq _ _ _) ?_
 refine rf_b (ω := Bool) (fun j54 a => a = (([(AV.lbx (cPick a0)), (AV.bool j54)] : List AV), σ)) (
   by
    refine rf_c (p := a0.kind = 4) (fun c53 => ?_) (fun c53 => ?_)
    ·exact rf_ret rfl
    refine rf_s _ (aEq _ _ _) ?_
    exact rf_ret rfl
   ) (fun j54 a ha => ?_)
 subst ha
 refine rf_cb (c := j54) (fun c139 => ?_) (fun c139 => ?_)
 ·refine rf_s _ (by first | rfl | (simp only [cPick_eq]; rfl)) <| rf_s (sl 4 cPick a0.args) (by first | rfl | (simp only [cPick_eq]; rfl)) <| rf_s _ (lenS_sl _ _ _) <| rf_s _ (aNe _ _ _) <| rf_s _ (by first | rfl | (simp only [cPick_eq]; rfl)) <| rf_s (AV.int .i64 a0.kind) (by first | rfl | (simp only [cPick_eq]; rfl)) <| rf_s _ (aEq _ _ _) ?_
  refine rf_b (ω := Bool) (fun j58 a => a = (([(AV.lbx (cPick a0)), (AV.bool j58)] : List AV), σ)) (
    by
     refine rf_c (p := a0.kind = 4) (fun c57 => ?_) (fun c57 => ?_)
     ·refine rf_s _ (by first | rfl | (simp only [cPick_eq]; rfl)) <| rf_s (sl 4 cPick a0.args) (by first | rfl | (simp only [cPick_eq]; rfl)) <| rf_s _ (lenS_sl _ _ _) <| rf_s (AV.bool (decide ((a0.args.length : Int) < 2))) (by first | rfl | (simp only [cPick_eq]; rfl)) ?_
      exact rf_ret rfl
     exact rf_ret rfl
    ) (fun j58 a ha => ?_)
  subst ha
  refine rf_gf (AV.bool false) (fun hg => by first | rfl | (simp only [cPick_eq]; rfl)) <| rf_gf (AV.bool (!false)) (fun hg => by (try rw [hg]); exact rfl) <| rf_gf (AV.bool (!false)) (fun hg => by (try rw [hg]); exact rfl) <| rf_s _ (by first | rfl | (simp only [cPick_eq]; rfl)) <| rf_ggt (AV.int .i64 a0.frm) (fun hg => by first | rfl | (simp only [cPick_eq]; rfl)) <| rf_ggt (AV.bool (decide (¬ (a0.frm = 0)))) (fun hg => by (try rw [hg]); exact (aNe _ _ _)) <| rf_gf (AV.bool ((!false) && (decide (¬ (a0.frm = 0))))) (fun hg => by (try rw [hg]); exact (pk_and _ _)) <| rf_s _ (pk_or _ _) <| rf_gf (AV.bool false) (fun hg => by first | rfl | (simp only [cPick_eq]; rfl)) <| rf_gf (AV.bool (!false)) (fun hg => by (try rw [hg]); exact rfl) <| rf_gf (AV.bool (!false)) (fun hg => by (try rw [hg]); exact rfl) <| rf_s _ (by first | rfl | (simp only [cPick_eq]; rfl)) <| rf_ggt (AV.int .i64 a0.to) (fun hg => by first | rfl | (simp only [cPick_eq]; rfl)) <| rf_ggt (AV.bool (decide (¬ (a0.to = 0)))) (fun hg => by (try rw [hg]); exact (aNe _ _ _)) <| rf_gf (AV.bool ((!false) && (decide (¬ (a0.to = 0))))) (fun hg => by (try rw [hg]); exact (pk_and _ _)) <| rf_s _ (pk_or _ _) ?_
  refine rf_cb (c := ((j58 || ((!false) && (decide (¬ (a0.frm = 0))))) || ((!false) && (decide (¬ (a0.to = 0)))))) (fun c80 => ?_) (fun c80 => ?_)
  ·exact rf_fin _ (fin_same _ _) ⟨rfl, rfl⟩
  refine rf_s _ (by first | rfl | (simp only [cPick_eq]; rfl)) <| rf_s (AV.int .i64 a0.kind) (by first | rfl | (simp only [cPick_eq]; rfl)) <| rf_s _ (aEq _ _ _) ?_
  refine rf_b (ω := Int) (fun j66 a => a = (([(AV.lbx (cPick a0)), (AV.int .i64 j66)] : List AV), σ)) (
    by
     refine rf_c (p := a0.kind = 2) (fun c65 => ?_) (fun c65 => ?_)
     ·exact rf_ret rfl
     refine rf_s _ (aEq _ _ _) ?_
     refine rf_b (ω := Int) (fun j62 a => a = (([(AV.lbx (cPick a0)), (AV.int .i64 j62)] : List AV), σ)) (
       by
        refine rf_c (p := a0.kind = 3) (fun c61 => ?_) (fun c61 => ?_)
        ·exact rf_ret rfl
        exact rf_ret rfl
       ) (fun j62 a ha => ?_)
     subst ha
     exact rf_ret rfl
    ) (fun j66 a ha => ?_)
  subst ha
  refine rf_s _ (by first | rfl | (simp only [cPick_eq]; rfl)) <| rf_gt (AV.int .i64 a0.frm) (fun hg => by first | rfl | (simp only [cPick_eq]; rfl)) <| rf_gt (AV.int .i64 j66) (fun hg => by first | rfl | (simp only [cPick_eq]; rfl)) <| rf_gt (AV.bool (withinB a0.frm 1 j66)) (fun hg => by (try rw [hg]); exact (quiet_of (Within_eq a0.frm 1 j66 σ))) <| rf_gt (AV.bool (!(withinB a0.frm 1 j66))) (fun hg => by (try rw [hg]); exact rfl) <| rf_s _ (pk_and _ _) <| rf_gf (AV.bool false) (fun hg => by first | rfl | (simp only [cPick_eq]; rfl)) <| rf_gf (AV.bool false) (fun hg => by (try rw [hg]); exact rfl) <| rf_s _ (by first | rfl | (simp only [cPick_eq]; rfl)) <| rf_ggt (AV.int .i64 a0.to) (fun hg => by first | rfl | (simp only [cPick_eq]; rfl)) <| rf_ggt (AV.int .i64 j66) (fun hg => by first | rfl | (simp only [cPick_eq]; rfl)) <| rf_ggt (AV.bool (withinB a0.to 1 j66)) (fun hg => by (try rw [hg]); exact (quiet_of (Within_eq a0.to 1 j66 σ))) <| rf_ggt (AV.bool (!(withinB a0.to 1 j66))) (fun hg => by (try rw [hg]); exact rfl) <| rf_gf (AV.bool (false && (!(withinB a0.to 1 j66)))) (fun hg => by (try rw [hg]); exact (pk_and _ _)) <| rf_s _ (pk_or _ _) ?_
  refine rf_cb (c := ((false && (!(withinB a0.frm 1 j66))) || (false && (!(withinB a0.to 1 j66))))) (fun c79 => ?_) (fun c79 => ?_)
  ·exact rf_fin _ (fin_same _ _) ⟨rfl, rfl⟩
  refine rf_s _ (by first | rfl | (simp only [cPick_eq]; rfl)) <| rf_s (sl 4 cPick a0.args) (by first | rfl | (simp only [cPick_eq]; rfl)) <| rf_s _ (lenS_sl _ _ _) ?_
  refine rf_for (B := Unit) (R := Int) (fun (i76 : Nat) (s69 : Unit) v w71 => v = [(AV.int .i64 0), (AV.int .i64 (i76 : Int))] ∧ σ = w71) (fun (b70 : Unit) (q : LS) => ∃ u2 u85, q = ((AX.exit 2), ([u2, u85] : List AV), σ)) (fun (b70 : Int) (q : LS) => ∃ u85, q = (AX.ret, ([(AV.int .i64 b70), u85] : List AV), σ)) ?_ ?_ ⟨rfl, rfl⟩ ?_ ?_
  ·intro hle75 i76 e75 s69 v w71 he75 hI
   obtain ⟨rfl, rfl⟩ := hI
   refine rf_s _ (ix_lt he75) <| rf_ct <| rf_s _ (ix_for he75) <| rf_s (AV.agg (cPick e75)) (by first | rfl | (simp only [cPick_eq]; rfl)) <| rf_s (cPick e75) (by first | rfl | (simp only [cPick_eq]; rfl)) <| rf_s _ (sp_cPick _ _ rfl) <| rf_s (AV.agg (cPick e75)) (by first | rfl | (simp only [cPick_eq]; rfl)) ?_
   refine rf_o (fun r77 : Int => ((AV.int .i64 r77), σ)) (fun r77 hr77 => hq_pick_check _ _ _ hr77) (fun r77 hr77 => ?_)
   refine rf_s _ (aNe _ _ _) ?_
   refine rf_c (p := ¬ (r77 = 0)) (fun c78 => ?_) (fun c78 => ?_)
   ·exact rf_ret (rnd_ret (by simp) ⟨_, rfl⟩)
   refine rf_s _ (ix_inc he75 hle75) ?_
   exact rf_ret (rnd_go ⟨rfl, rfl⟩)
  ·intro hl s69 v w71 hI
   obtain ⟨rfl, rfl⟩ := hI
   refine rf_s _ (ix_end _) <| rf_cf ?_
   exact rf_ret ⟨by simp, ⟨_, _, rfl⟩⟩
  ·intro hl b70 q hq
   obtain ⟨u2, u85, rfl⟩ := hq
   refine rf_bt (by first | rfl | (simp only [cPick_eq]; rfl)) ?_
   exact rf_fin _ (fin_same _ _) ⟨rfl, rfl⟩
  ·intro hl b70 q hq
   obtain ⟨u85, rfl⟩ := hq
   refine rf_bf (by first | rfl | (simp only [cPick_eq]; rfl)) <| rf_bt (by first | rfl | (simp only [cPick_eq]; rfl)) ?_
   exact rf_fin _ (fin_same _ _) ⟨rfl, rfl⟩
 refine rf_s _ (aEq _ _ _) ?_
 refine rf_b (ω := Bool) (fun j86 a => a = (([(AV.lbx (cPick a0)), (AV.bool j86)] : List AV), σ)) (
   by
    refine rf_c (p := a0.kind = 6) (fun c85 => ?_) (fun c85 => ?_)
    ·exact rf_ret rfl
    refine rf_s _ (aEq _ _ _) ?_
    refine rf_b (ω := Bool) (fun j82 a => a = (([(AV.lbx (cPick a0)), (AV.bool j82)] : List AV), σ)) (
      by
       refine rf_c (p := a0.kind = 7) (fun c81 => ?_) (fun c81 => ?_)
       ·exact rf_ret rfl
       refine rf_s _ (aEq _ _ _) ?_
       exact rf_ret rfl
      ) (fun j82 a ha => ?_)
    subst ha
    exact rf_ret rfl
   ) (fun j86 a ha => ?_)
 subst ha
 refine rf_cb (c := j86) (fun c138 => ?_) (fun c138 => ?_)
 ·refine rf_s _ (by first | rfl | (simp only [cPick_eq]; rfl)) <| rf_s (sl 4 cPick a0.args) (by first | rfl | (simp only [cPick_eq]; rfl)) <| rf_s _ (lenS_sl _ _ _) <| rf_s _ (aNe _ _ _) <| rf_s _ (by first | rfl | (simp only [cPick_eq]; rfl)) <| rf_s (AV.int .i64 a0.kind) (by first | rfl | (simp only [cPick_eq]; rfl)) <| rf_s _ (aEq _ _ _) ?_
  refine rf_b (ω := Bool) (fun j90 a => a = (([(AV.lbx (cPick a0)), (AV.bool j90)] : List AV), σ)) (
    by
     refine rf_c (p := a0.kind = 4) (fun c89 => ?_) (fun c89 => ?_)
     ·refine rf_s _ (by first | rfl | (simp only [cPick_eq]; rfl)) <| rf_s (sl 4 cPick a0.args) (by first | rfl | (simp only [cPick_eq]; rfl)) <| rf_s _ (lenS_sl _ _ _) <| rf_s (AV.bool (decide ((a0.args.length : Int) < 2))) (by first | rfl | (simp only [cPick_eq]; rfl)) ?_
      exact rf_ret rfl
     exact rf_ret rfl
    ) (fun j90 a ha => ?_)
  subst ha
  refine rf_gf (AV.bool false) (fun hg => by first | rfl | (simp only [cPick_eq]; rfl)) <| rf_gf (AV.bool (!false)) (fun hg => by (try rw [hg]); exact rfl) <| rf_gf (AV.bool (!false)) (fun hg => by (try rw [hg]); exact rfl) <| rf_s _ (by first | rfl | (simp only [cPick_eq]; rfl)) <| rf_ggt (AV.int .i64 a0.frm) (fun hg => by first | rfl | (simp only [cPick_eq]; rfl)) <| rf_ggt (AV.bool (decide (¬ (a0.frm = 0)))) (fun hg => by (try rw [hg]); exact (aNe _ _ _)) <| rf_gf (AV.bool ((!false) && (decide (¬ (a0.frm = 0))))) (fun hg => by (try rw [hg]); exact (pk_and _ _)) <| rf_s _ (pk_or _ _) <| rf_gf (AV.bool false) (fun hg => by first | rfl | (simp only [cPick_eq]; rfl)) <| rf_gf (AV.bool (!false)) (fun hg => by (try rw [hg]); exact rfl) <| rf_gf (AV.bool (!false)) (fun hg => by (try rw [hg]); exact rfl) <| rf_s _ (by first | rfl | (simp only [cPick_eq]; rfl)) <| rf_ggt (AV.int .i64 a0.to) (fun hg => by first | rfl | (simp only [cPick_eq]; rfl)) <| rf_ggt (AV.bool (decide (¬ (a0.to = 0)))) (fun hg => by (try rw [hg]); exact (aNe _ _ _)) <| rf_gf (AV.bool ((!false) && (decide (¬ (a0.to = 0))))) (fun hg => by (try rw [hg]); exact (pk_and _ _)) <| rf_s _ (pk_or _ _) ?_
  refine rf_cb (c := ((j90 || ((!false) && (decide (¬ (a0.frm = 0))))) || ((!false) && (decide (¬ (a0.to = 0)))))) (fun c112 => ?_) (fun c112 => ?_)
  ·exact rf_fin _ (fin_same _ _) ⟨rfl, rfl⟩
  refine rf_s _ (by first | rfl | (simp only [cPick_eq]; rfl)) <| rf_s (AV.int .i64 a0.kind) (by first | rfl | (simp only [cPick_eq]; rfl)) <| rf_s _ (aEq _ _ _) ?_
  refine rf_b (ω := Int) (fun j98 a => a = (([(AV.lbx (cPick a0)), (AV.int .i64 j98)] : List AV), σ)) (
    by
     refine rf_c (p := a0.kind = 2) (fun c97 => ?_) (fun c97 => ?_)
     ·exact rf_ret rfl
     refine rf_s _ (aEq _ _ _) ?_
     refine rf_b (ω := Int) (fun j94 a => a = (([(AV.lbx (cPick a0)), (AV.int .i64 j94)] : List AV), σ)) (
       by
        refine rf_c (p := a0.kind = 3) (fun c93 => ?_) (fun c93 => ?_)
        ·exact rf_ret rfl
        exact rf_ret rfl
       ) (fun j94 a ha => ?_)
     subst ha
     exact rf_ret rfl
    ) (fun j98 a ha => ?_)
  subst ha
  refine rf_s _ (by first | rfl | (simp only [cPick_eq]; rfl)) <| rf_gt (AV.int .i64 a0.frm) (fun hg => by first | rfl | (simp only [cPick_eq]; rfl)) <| rf_gt (AV.int .i64 j98) (fun hg => by first | rfl | (simp only [cPick_eq]; rfl)) <| rf_gt (AV.bool (withinB a0.frm 1 j98)) (fun hg => by (try rw [hg]); exact (quiet_of (Within_eq a0.frm 1 j98 σ))) <| rf_gt (AV.bool (!(withinB a0.frm 1 j98))) (fun hg => by (try rw [hg]); exact rfl) <| rf_s _ (pk_and _ _) <| rf_gf (AV.bool false) (fun hg => by first | rfl | (simp only [cPick_eq]; rfl)) <| rf_gf (AV.bool false) (fun hg => by (try rw [hg]); exact rfl) <| rf_s _ (by first | rfl | (simp only [cPick_eq]; rfl)) <| rf_ggt (AV.int .i64 a0.to) (fun hg => by first | rfl | (simp only [cPick_eq]; rfl)) <| rf_ggt (AV.int .i64 j98) (fun hg => by first | rfl | (simp only [cPick_eq]; rfl)) <| rf_ggt (AV.bool (withinB a0.to 1 j98)) (fun hg => by (try rw [hg]); exact (quiet_of (Within_eq a0.to 1 j98 σ))) <| rf_ggt (AV.bool (!(withinB a0.to 1 j98))) (fun hg => by (try rw [hg]); exact rfl) <| rf_gf (AV.bool (false && (!(withinB a0.to 1 j98)))) (fun hg => by (try rw [hg]); exact (pk_and _ _)) <| rf_s _ (pk_or _ _) ?_
  refine rf_cb (c := ((false && (!(withinB a0.frm 1 j98))) || (false && (!(withinB a0.to 1 j98))))) (fun c111 => ?_) (fun c111 => ?_)
  ·exact rf_fin _ (fin_same _ _) ⟨rfl, rfl⟩
  refine rf_s _ (by first | rfl | (simp only [cPick_eq]; rfl)) <| rf_s (sl 4 cPick a0.args) (by first | rfl | (simp only [cPick_eq]; rfl)) <| rf_s _ (lenS_sl _ _ _) ?_
  refine rf_for (B := Unit) (R := Int) (fun (i108 : Nat) (s101 : Unit) v w103 => v = [(AV.int .i64 0), (AV.int .i64 (i108 : Int))] ∧ σ = w103) (fun (b102 : Unit) (q : LS) => ∃ u2 u85, q = ((AX.exit 2), ([u2, u85] : List AV), σ)) (fun (b102 : Int) (q : LS) => ∃ u85, q = (AX.ret, ([(AV.int .i64 b102), u85] : List AV), σ)) ?_ ?_ ⟨rfl, rfl⟩ ?_ ?_
  ·intro hle107 i108 e107 s101 v w103 he107 hI
   obtain ⟨rfl, rfl⟩ := hI
   refine rf_s _ (ix_lt he107) <| rf_ct <| rf_s _ (ix_for he107) <| rf_s (AV.agg (cPick e107)) (by first | rfl | (simp only [cPick_eq]; rfl)) <| rf_s (cPick e107) (by first | rfl | (simp only [cPick_eq]; rfl)) <| rf_s _ (sp_cPick _ _ rfl) <| rf_s (AV.agg (cPick e107)) (by first | rfl | (simp only [cPick_eq]; rfl)) ?_
   refine rf_o (fun r109 : Int => ((AV.int .i64 r109), σ)) (fun r109 hr109 => hq_pick_check _ _ _ hr109) (fun r109 hr109 => ?_)
   refine rf_s _ (aNe _ _ _) ?_
   refine rf_c (p := ¬ (r109 = 0)) (fun c110 => ?_) (fun c110 => ?_)
   ·exact rf_ret (rnd_ret (by simp) ⟨_, rfl⟩)
   refine rf_s _ (ix_inc he107 hle107) ?_
   exact rf_ret (rnd_go ⟨rfl, rfl⟩)
  ·intro hl s101 v w103 hI
   obtain ⟨rfl, rfl⟩ := hI
   refine rf_s _ (ix_end _) <| rf_cf ?_
   exact rf_ret ⟨by simp, ⟨_, _, rfl⟩⟩
  ·intro hl b102 q hq
   obtain ⟨u2, u85, rfl⟩ := hq
   refine rf_bt (by first | rfl | (simp only [cPick_eq]; rfl)) ?_
   exact rf_fin _ (fin_same _ _) ⟨rfl, rfl⟩
  ·intro hl b102 q hq
   obtain ⟨u85, rfl⟩ := hq
   refine rf_bf (by first | rfl | (simp only [cPick_eq]; rfl)) <| rf_bt (by first | rfl | (simp only [cPick_eq]; rfl)) ?_
   exact rf_fin _ (fin_same _ _) ⟨rfl, rfl⟩
 refine rf_s _ (aEq _ _ _) ?_
 refine rf_c (p := a0.kind = 9) (fun c137 => ?_) (fun c137 => ?_)
 ·refine rf_s _ (by first | rfl | (simp only [cPick_eq]; rfl)) <| rf_s (sl 4 cPick a0.args) (by first | rfl | (simp only [cPick_eq]; rfl)) <| rf_s _ (lenS_sl _ _ _) <| rf_s _ (aNe _ _ _) <| rf_s _ (by first | rfl | (simp only [cPick_eq]; rfl)) <| rf_s (AV.int .i64 a0.kind) (by first | rfl | (simp only [cPick_eq]; rfl)) <| rf_s _ (aEq _ _ _) ?_
  refine rf_b (ω := Bool) (fun j114 a => a = (([(AV.lbx (cPick a0)), (AV.bool j114)] : List AV), σ)) (
    by
     refine rf_c (p := a0.kind = 4) (fun c113 => ?_) (fun c113 => ?_)
     ·refine rf_s _ (by first | rfl | (simp only [cPick_eq]; rfl)) <| rf_s (sl 4 cPick a0.args) (by first | rfl | (simp only [cPick_eq]; rfl)) <| rf_s _ (lenS_sl _ _ _) <| rf_s (AV.bool (decide ((a0.args.length : Int) < 2))) (by first | rfl | (simp only [cPick_eq]; rfl)) ?_
      exact rf_ret rfl
     exact rf_ret rfl
    ) (fun j114 a ha => ?_)
  subst ha
  refine rf_gf (AV.bool true) (fun hg => by first | rfl | (simp only [cPick_eq]; rfl)) <| rf_gf (AV.bool (!true)) (fun hg => by (try rw [hg]); exact rfl) <| rf_gf (AV.bool (!true)) (fun hg => by (try rw [hg]); exact rfl) <| rf_s _ (by first | rfl | (simp only [cPick_eq]; rfl)) <| rf_ggt (AV.int .i64 a0.frm) (fun hg => by first | rfl | (simp only [cPick_eq]; rfl)) <| rf_ggt (AV.bool (decide (¬ (a0.frm = 0)))) (fun hg => by (try rw [hg]); exact (aNe _ _ _)) <| rf_gf (AV.bool ((!true) && (decide (¬ (a0.frm = 0))))) (fun hg => by (try rw [hg]); exact (pk_and _ _)) <| rf_s _ (pk_or _ _) <| rf_gf (AV.bool true) (fun hg => by first | rfl | (simp only [cPick_eq]; rfl)) <| rf_gf (AV.bool (!true)) (fun hg => by (try rw [hg]); exact rfl) <| rf_gf (AV.bool (!true)) (fun hg => by (try rw [hg]); exact rfl) <| rf_s _ (by first | rfl | (simp only [cPick_eq]; rfl)) <| rf_ggt (AV.int .i64 a0.to) (fun hg => by first | rfl | (simp only [cPick_eq]; rfl)) <| rf_ggt (AV.bool (decide (¬ (a0.to = 0)))) (fun hg => by (try rw [hg]); exact (aNe _ _ _)) <| rf_gf (AV.bool ((!true) && (decide (¬ (a0.to = 0))))) (fun hg => by (try rw [hg]); exact (pk_and _ _)) <| rf_s _ (pk_or _ _) ?_
  refine rf_cb (c := ((j114 || ((!true) && (decide (¬ (a0.frm = 0))))) || ((!true) && (decide (¬ (a0.to = 0)))))) (fun c136 => ?_) (fun c136 => ?_)
  ·exact rf_fin _ (fin_same _ _) ⟨rfl, rfl⟩
  refine rf_s _ (by first | rfl | (simp only [cPick_eq]; rfl)) <| rf_s (AV.int .i64 a0.kind) (by first | rfl | (simp only [cPick_eq]; rfl)) <| rf_s _ (aEq _ _ _) ?_
  refine rf_b (ω := Int) (fun j122 a => a = (([(AV.lbx (cPick a0)), (AV.int .i64 j122)] : List AV), σ)) (
    by
     refine rf_c (p := a0.kind = 2) (fun c121 => ?_) (fun c121 => ?_)
     ·exact rf_ret rfl
     refine rf_s _ (aEq _ _ _) ?_
     refine rf_b (ω := Int) (fun j118 a => a = (([(AV.lbx (cPick a0)), (AV.int .i64 j118)] : List AV), σ)) (
       by
        refine rf_c (p := a0.kind = 3) (fun c117 => ?_) (fun c117 => ?_)
        ·exact rf_ret rfl
        exact rf_ret rfl
       ) (fun j118 a ha => ?_)
     subst ha
     exact rf_ret rfl
    ) (fun j122 a ha => ?_)
  subst ha
  refine rf_s _ (by first | rfl | (simp only [cPick_eq]; rfl)) <| rf_gt (AV.int .i64 a0.frm) (fun hg => by first | rfl | (simp only [cPick_eq]; rfl)) <| rf_gt (AV.int .i64 j122) (fun hg => by first | rfl | (simp only [cPick_eq]; rfl)) <| rf_gt (AV.bool (withinB a0.frm 1 j122)) (fun hg => by (try rw [hg]); exact (quiet_of (Within_eq a0.frm 1 j122 σ))) <| rf_gt (AV.bool (!(withinB a0.frm 1 j122))) (fun hg => by (try rw [hg]); exact rfl) <| rf_s _ (pk_and _ _) <| rf_gf (AV.bool true) (fun hg => by first | rfl | (simp only [cPick_eq]; rfl)) <| rf_gf (AV.bool true) (fun hg => by (try rw [hg]); exact rfl) <| rf_s _ (by first | rfl | (simp only [cPick_eq]; rfl)) <| rf_ggt (AV.int .i64 a0.to) (fun hg => by first | rfl | (simp only [cPick_eq]; rfl)) <| rf_ggt (AV.int .i64 j122) (fun hg => by first | rfl | (simp only [cPick_eq]; rfl)) <| rf_ggt (AV.bool (withinB a0.to 1 j122)) (fun hg => by (try rw [hg]); exact (quiet_of (Within_eq a0.to 1 j122 σ))) <| rf_ggt (AV.bool (!(withinB a0.to 1 j122))) (fun hg => by (try rw [hg]); exact rfl) <| rf_gf (AV.bool (true && (!(withinB a0.to 1 j122)))) (fun hg => by (try rw [hg]); exact (pk_and _ _)) <| rf_s _ (pk_or _ _) ?_
  refine rf_cb (c := ((true && (!(withinB a0.frm 1 j122))) || (true && (!(withinB a0.to 1 j122))))) (fun c135 => ?_) (fun c135 => ?_)
  ·exact rf_fin _ (fin_same _ _) ⟨rfl, rfl⟩
  refine rf_s _ (by first | rfl | (simp only [cPick_eq]; rfl)) <| rf_s (sl 4 cPick a0.args) (by first | rfl | (simp only [cPick_eq]; rfl)) <| rf_s _ (lenS_sl _ _ _) ?_
  refine rf_for (B := Unit) (R := Int) (fun (i132 : Nat) (s125 : Unit) v w127 => v = [(AV.int .i64 0), (AV.int .i64 (i132 : Int))] ∧ σ = w127) (fun (b126 : Unit) (q : LS) => ∃ u2 u85, q = ((AX.exit 2), ([u2, u85] : List AV), σ)) (fun (b126 : Int) (q : LS) => ∃ u85, q = (AX.ret, ([(AV.int .i64 b126), u85] : List AV), σ)) ?_ ?_ ⟨rfl, rfl⟩ ?_ ?_
  ·intro hle131 i132 e131 s125 v w127 he131 hI
   obtain ⟨rfl, rfl⟩ := hI
   refine rf_s _ (ix_lt he131) <| rf_ct <| rf_s _ (ix_for he131) <| rf_s (AV.agg (cPick e131)) (by first | rfl | (simp only [cPick_eq]; rfl)) <| rf_s (cPick e131) (by first | rfl | (simp only [cPick_eq]; rfl)) <| rf_s _ (sp_cPick _ _ rfl) <| rf_s (AV.agg (cPick e131)) (by first | rfl | (simp only [cPick_eq]; rfl)) ?_
   refine rf_o (fun r133 : Int => ((AV.int .i64 r133), σ)) (fun r133 hr133 => hq_pick_check _ _ _ hr133) (fun r133 hr133 => ?_)
   refine rf_s _ (aNe _ _ _) ?_
   refine rf_c (p := ¬ (r133 = 0)) (fun c134 => ?_) (fun c134 => ?_)
   ·exact rf_ret (rnd_ret (by simp) ⟨_, rfl⟩)
   refine rf_s _ (ix_inc he131 hle131) ?_
   exact rf_ret (rnd_go ⟨rfl, rfl⟩)
  ·intro hl s125 v w127 hI
   obtain ⟨rfl, rfl⟩ := hI
   refine rf_s _ (ix_end _) <| rf_cf ?_
   exact rf_ret ⟨by simp, ⟨_, _, rfl⟩⟩
  ·intro hl b126 q hq
   obtain ⟨u2, u85, rfl⟩ := hq
   refine rf_bt (by first | rfl | (simp only [cPick_eq]; rfl)) ?_
   exact rf_fin _ (fin_same _ _) ⟨rfl, rfl⟩
  ·intro hl b126 q hq
   obtain ⟨u85, rfl⟩ := hq
   refine rf_bf (by first | rfl | (simp only [cPick_eq]; rfl)) <| rf_bt (by first | rfl | (simp only [cPick_eq]; rfl)) ?_
   exact rf_fin _ (fin_same _ _) ⟨rfl, rfl⟩
 exact rf_fin _ (fin_same _ _) ⟨rfl, rfl⟩

end Go.Proofs.YtfalbgflabajbaaDoor

namespace Go.Proofs.YtfalbgflabajbaaDoor
set_option linter.unusedSectionVars false
set_option linter.unusedVariables false
set_option linter.unusedSimpArgs false
theorem pSizes_snoc : ∀ (l : List PickD) (p : PickD), pSizes (l ++ [p]) = pSizes l + pSize p
 | [], p => by rw [List.nil_append, pSizes, pSizes, pSizes]; omega
 | q :: l, p => by rw [List.cons_append, pSizes, pSizes, pSizes_snoc l p]; omega
theorem pDeeps_snoc : ∀ (l : List PickD) (p : PickD), pDeeps (l ++ [p]) = max (pDeeps l) (pDeep p)
 | [], p => by rw [List.nil_append, pDeeps, pDeeps, pDeeps]; omega
 | q :: l, p => by rw [List.cons_append, pDeeps, pDeeps, pDeeps_snoc l p]; omega
theorem pSizes_take (l : List PickD) (k : Nat) : pSizes (l.take k) ≤ pSizes l := by
 have h : pSizes (l.take k ++ l.drop k) = pSizes (l.take k) + pSizes (l.drop k) := by
  rw [pSizes_sum, pSizes_sum, pSizes_sum, List.map_append, List.sum_append]
 rw [List.take_append_drop] at h
 omega
theorem pDeeps_size : ∀ l : List PickD, pDeeps l ≤ pSizes l
 | [] => by rw [pDeeps, pSizes]; omega
 | .mk k f t a :: l => by
  rw [pDeeps, pSizes, pDeep, pSize]
  have := pDeeps_size a
  have := pDeeps_size l
  omega
def partF (k f t : Int) (n : Nat) : Int :=
 if ¬ (1 ≤ k ∧ k ≤ 9) then 4
 else if (k ≤ 3 ∧ n ≠ 0) ∨ (k = 4 ∧ n < 2) ∨ (k = 5 ∧ n ≠ 2) ∨ (6 ≤ k ∧ n ≠ 1) ∨ (4 ≤ k ∧ k ≤ 8 ∧ f ≠ 0) ∨ (2 ≤ k ∧ k ≤ 8 ∧ t ≠ 0) then 3
 else if ((k = 1 ∨ k = 9) ∧ ¬ (1 ≤ f ∧ f ≤ 9999)) ∨ ((k = 2 ∨ k = 3) ∧ ¬ (1 ≤ f ∧ f ≤ 999)) ∨ ((k = 1 ∨ k = 9) ∧ ¬ (1 ≤ t ∧ t ≤ 9999)) then 1
 else 0
mutual
def pChk : PickD → Int
 | .mk k f t l => if partF k f t l.length = 0 then pChks l else partF k f t l.length
def pChks : List PickD → Int
 | [] => 0
 | p :: l => if pChk p = 0 then pChks l else pChk p
end
def checkF (p : PickD) : Int := if 200 < pSize p ∨ 12 < pDeep p then 2 else pChk p
end Go.Proofs.YtfalbgflabajbaaDoor

namespace Go.Proofs.YtfalbgflabajbaaDoor
set_option linter.unusedSectionVars false
set_option linter.unusedVariables false
set_option linter.unusedSimpArgs false
section
variable {α S B R γ : Type}
theorem forE_st {l : List α} {body : Nat → α → S → Option (Lr S B R)} {fin : S → Option B} {s : S} {K1 : B → Option γ} {K2 : R → Option γ} (st : Nat → S) (hl : l.length ≤ mxl) (h0 : s = st 0) (hb : ∀ i x, l[i]? = some x → body i x (st i) = some (.go (st (i + 1)))) : forE l body fin s K1 K2 = (fin (st l.length)).bind K1 := by
 rw [forE_le hl]
 have key : ∀ (rest pre : List α), l = pre ++ rest → forL body fin rest pre.length (st pre.length) = (fin (st l.length)).map .inl := by
  intro rest
  induction rest with
  | nil => intro pre hp; rw [List.append_nil] at hp; subst hp; rfl
  | cons x rest ih =>
   intro pre hp
   have hx : l[pre.length]? = some x := by rw [hp]; simp
   rw [forL, hb pre.length x hx, Option.bind_some]
   have := ih (pre ++ [x]) (by simpa using hp)
   simpa using this
 have k := key l [] rfl
 rw [List.length_nil] at k
 rw [h0, k]
 cases fin (st l.length) <;> rfl
end
theorem pSizes_len : ∀ l : List PickD, l.length ≤ pSizes l
 | [] => Nat.zero_le _
 | p :: l => by rw [pSizes, pSize_eq, List.length_cons]; have := pSizes_len l; omega
theorem pDeeps_mem {p : PickD} : ∀ {l : List PickD}, p ∈ l → pDeep p ≤ pDeeps l
 | q :: l, h => by
  rw [pDeeps]
  rcases List.mem_cons.1 h with rfl | h
  ·omega
  ·have := pDeeps_mem h; omega
theorem pDeep_size (p : PickD) : pDeep p ≤ pSize p := by
 rw [pDeep_eq, pSize_eq]; have := pDeeps_size p.args; omega
theorem pDeep_pos (p : PickD) : 1 ≤ pDeep p := by rw [pDeep_eq]; omega
abbrev pMx : Nat := 4611686018427387904
theorem args_mx {p : PickD} (h : pSize p ≤ pMx) : p.args.length ≤ mxl := by
 have := pSizes_len p.args; rw [pSize_eq] at h; unfold pMx at h; unfold mxl; omega
theorem size_t : ∀ (n : Nat) (p : PickD) (σ : Heap), pDeep p ≤ n → pSize p ≤ pMx → fuel R_pick_size n 37 [.agg (cPick p)] σ = some (.tup [.int .i64 (pSize p : Int), .int .i64 (pDeep p : Int)], σ)
 | 0, p, σ, h, _ => by have := pDeep_pos p; omega
 | n + 1, p, σ, h, hs => by
  let q : PickD → Option (Int × Int) := fun p => if pDeep p ≤ n ∧ pSize p ≤ pMx then some ((pSize p : Int), (pDeep p : Int)) else none
  have hd : pDeeps p.args ≤ n := by rw [pDeep_eq] at h; omega
  have hz : 1 + pSizes p.args ≤ pMx := by rw [pSize_eq] at hs; exact hs
  have e : t_pick_size q p = some ((pSize p : Int), (pDeep p : Int)) := by
   unfold t_pick_size
   rw [forE_st (fun i => (((1 + pSizes (p.args.take i) : Nat) : Int), ((1 + pDeeps (p.args.take i) : Nat) : Int))) (args_mx hs) (by simp [pSizes, pDeeps])]
   ·simp only [List.take_length, Option.bind_some, pSize_eq p, pDeep_eq p]
   ·intro i x hx
    have hm := List.mem_of_getElem? hx
    have hxd := pDeeps_mem hm
    have hxs := pSizes_mem hm
    have hi := (List.getElem?_eq_some_iff.1 hx).1
    have ht : p.args.take (i + 1) = p.args.take i ++ [x] := by rw [List.take_add_one, hx]; rfl
    have hle := pSizes_take p.args (i + 1)
    rw [ht, pSizes_snoc] at hle
    have hdl := pDeeps_size (p.args.take i)
    have hds := pDeep_size x
    have hq : q x = some ((pSize x : Int), (pDeep x : Int)) := if_pos ⟨by omega, by omega⟩
    unfold pMx at *
    simp only [hq, Option.bind_some, ht, pSizes_snoc, pDeeps_snoc]
    rw [wrap64 (by unfold inI; omega), wrap64 (by unfold inI; omega)]
    congr 3
    ·omega
    ·split <;> omega
  have hr : fuel R_pick_size (n + 1) 37 = A.wrap true [(.a [.k, .k, .k, (.s 4)])] .k (A.ar1 (r_pick_size (fuel R_pick_size n))) := rfl
  rw [hr]
  exact h_pick_size (rc := fuel R_pick_size n) q (fun x s r hx => by
   by_cases hp : pDeep x ≤ n ∧ pSize x ≤ pMx
   ·have : q x = _ := if_pos hp
    rw [this] at hx; injection hx with hx; subst hx
    exact size_t n x s hp.1 hp.2
   ·have : q x = none := if_neg hp
    rw [this] at hx; cases hx) e
theorem pChks_chkE : ∀ (l : List PickD) (i : Nat), chkE (fun _ x => pChk x) l i = pChks l
 | [], i => by rw [chkE, pChks]
 | p :: l, i => by rw [chkE, pChks, pChks_chkE l (i + 1)]
theorem chk_loop {q : PickD → Option Int} {l : List PickD} (hl : l.length ≤ mxl) (hq : ∀ x ∈ l, q x = some (pChk x)) :
  forE l (fun (i : Nat) e (s : Unit) => (show Option (Lr Unit Unit Int) from (q e).bind fun r => if ¬ (r = 0) then some (.ret r) else some (.go ()))) (fun s => some ()) () (fun b => some 0) (fun b => some b) = some (pChks l) := by
 rw [forE_chk (f := fun _ x => pChk x) hl (fun i x hx => by
  simp only [hq x (List.mem_of_getElem? hx), Option.bind_some]
  by_cases h : pChk x = 0 <;> simp [h]) rfl, pChks_chkE]
 split
 ·rename_i h; rw [h]
 ·rfl
def pkA (k f t : Int) (n : Nat) : Prop := (k ≤ 3 ∧ n ≠ 0) ∨ (k = 4 ∧ n < 2) ∨ (k = 5 ∧ n ≠ 2) ∨ (6 ≤ k ∧ n ≠ 1) ∨ (4 ≤ k ∧ k ≤ 8 ∧ f ≠ 0) ∨ (2 ≤ k ∧ k ≤ 8 ∧ t ≠ 0)
def pkB (k f t : Int) : Prop := ((k = 1 ∨ k = 9) ∧ ¬ (1 ≤ f ∧ f ≤ 9999)) ∨ ((k = 2 ∨ k = 3) ∧ ¬ (1 ≤ f ∧ f ≤ 999)) ∨ ((k = 1 ∨ k = 9) ∧ ¬ (1 ≤ t ∧ t ≤ 9999))
theorem pk_in {k f t : Int} {n : Nat} {L : Int} {A B : Prop} [Decidable A] [Decidable B] {X : Option Int} (hk : 1 ≤ k ∧ k ≤ 9) (hA : A ↔ pkA k f t n) (hB : B ↔ pkB k f t) (hX : X = if A then some 3 else if B then some 1 else some L) : X = some (if partF k f t n = 0 then L else partF k f t n) := by
 rw [hX]; unfold pkA at hA; unfold pkB at hB
 by_cases a : A
 ·have e : partF k f t n = 3 := by unfold partF; rw [if_neg (fun h => h hk), if_pos (hA.1 a)]
  rw [if_pos a, e]; rfl
 ·by_cases b : B
  ·have e : partF k f t n = 1 := by unfold partF; rw [if_neg (fun h => h hk), if_neg (fun h => a (hA.2 h)), if_pos (hB.1 b)]
   rw [if_neg a, if_pos b, e]; rfl
  ·have e : partF k f t n = 0 := by unfold partF; rw [if_neg (fun h => h hk), if_neg (fun h => a (hA.2 h)), if_neg (fun h => b (hB.2 h))]
   rw [if_neg a, if_neg b, e]; rfl
theorem pChk_eq (p : PickD) : pChk p = if partF p.kind p.frm p.to p.args.length = 0 then pChks p.args else partF p.kind p.frm p.to p.args.length := by cases p; rw [pChk]; rfl
theorem partF_out {k f t : Int} {n : Nat} (hk : ¬ (1 ≤ k ∧ k ≤ 9)) : partF k f t n = 4 := by unfold partF; rw [if_pos hk]
theorem check_k {q : PickD → Option Int} (p : PickD) (hl : p.args.length ≤ mxl) (hq : ∀ x ∈ p.args, q x = some (pChk x)) : t_pick_check q p = some (pChk p) := by
 have hL := chk_loop hl hq
 unfold t_pick_check
 rw [pChk_eq]
 simp only [hL]
 generalize pChks p.args = L
 clear hL hq
 generalize p.args.length = n at *
 generalize p.kind = k
 generalize p.frm = f
 generalize p.to = t
 by_cases hk : 1 ≤ k ∧ k ≤ 9
 ·have hk' : k = 1 ∨ k = 2 ∨ k = 3 ∨ k = 4 ∨ k = 5 ∨ k = 6 ∨ k = 7 ∨ k = 8 ∨ k = 9 := by omega
  rcases hk' with rfl | rfl | rfl | rfl | rfl | rfl | rfl | rfl | rfl <;>
   (simp only [withinB, reduceIte, Option.bind_some, Int.reduceEq, decide_true, decide_false, Bool.false_eq_true, Bool.not_true, Bool.not_false, Bool.true_and, Bool.false_and, Bool.or_false, Bool.false_or, Bool.or_eq_true, decide_eq_true_eq, Bool.not_eq_true', decide_eq_false_iff_not]; (first | refine pk_in (by decide) ?_ ?_ rfl | refine pk_in (B := False) (by decide) ?_ ?_ rfl) <;> (simp [pkA, pkB]; try omega))
 ·rw [partF_out hk]
  have n1 : ¬ k = 1 := by omega
  have n2 : ¬ k = 2 := by omega
  have n3 : ¬ k = 3 := by omega
  have n4 : ¬ k = 4 := by omega
  have n5 : ¬ k = 5 := by omega
  have n6 : ¬ k = 6 := by omega
  have n7 : ¬ k = 7 := by omega
  have n8 : ¬ k = 8 := by omega
  have n9 : ¬ k = 9 := by omega
  simp [n1, n2, n3, n4, n5, n6, n7, n8, n9]
theorem args_d {p : PickD} {n : Nat} (h : pDeep p ≤ n + 1) : pDeeps p.args ≤ n := by rw [pDeep_eq] at h; omega
theorem check_t : ∀ (n : Nat) (p : PickD) (σ : Heap), pDeep p ≤ n → pSize p ≤ pMx → fuel R_pick_check n 38 [.agg (cPick p)] σ = some (.int .i64 (pChk p), σ)
 | 0, p, σ, h, _ => by have := pDeep_pos p; omega
 | n + 1, p, σ, h, hs => by
  let q : PickD → Option Int := fun p => if pDeep p ≤ n ∧ pSize p ≤ pMx then some (pChk p) else none
  have hd := args_d h
  have e : t_pick_check q p = some (pChk p) := check_k p (args_mx hs) fun x hx => if_pos ⟨Nat.le_trans (pDeeps_mem hx) hd, by have := pSize_arg hx; omega⟩
  have hr : fuel R_pick_check (n + 1) 38 = A.wrap true [(.a [.k, .k, .k, (.s 4)])] .k (A.ar1 (r_pick_check (fuel R_pick_check n))) := rfl
  rw [hr]
  exact h_pick_check (rc := fuel R_pick_check n) q (fun x s r hx => by
   by_cases hp : pDeep x ≤ n ∧ pSize x ≤ pMx
   ·have : q x = _ := if_pos hp
    rw [this] at hx; injection hx with hx; subst hx
    exact check_t n x s hp.1 hp.2
   ·have : q x = none := if_neg hp
    rw [this] at hx; cases hx) e
abbrev apM : Nat := 17592186044416
mutual
def pNamed (k : Int) : PickD → List Int
 | .mk kd f t l => (if kd = k then [f] else []) ++ pNameds k l
def pNameds (k : Int) : List PickD → List Int
 | [] => []
 | p :: l => pNamed k p ++ pNameds k l
end
end Go.Proofs.YtfalbgflabajbaaDoor

namespace Go.Proofs.YtfalbgflabajbaaDoor
set_option linter.unusedSectionVars false
set_option linter.unusedVariables false
set_option linter.unusedSimpArgs false
def HP := (Nat → Option Blk) → Prop
namespace HP
set_option linter.unusedSectionVars false
def blk (id : Nat) (b : Blk) : HP := fun h => ∀ i, h i = if i = id then some b else none
def star (P Q : HP) : HP := fun h => ∃ f g, P f ∧ Q g ∧ (∀ i, f i = none ∨ g i = none) ∧ ∀ i, h i = (f i).or (g i)
def pr (p : Prop) : HP := fun h => p ∧ ∀ i, h i = none
instance : Mul HP := ⟨star⟩
theorem star_comm (P Q : HP) : P * Q = Q * P := by
 have key : ∀ P Q : HP, ∀ h, (P * Q) h → (Q * P) h := by
  rintro P Q h ⟨f, g, hf, hg, hd, hh⟩
  refine ⟨g, f, hg, hf, fun i => (hd i).symm, fun i => ?_⟩
  rw [hh i]
  rcases hd i with e | e <;> rw [e] <;> simp
 funext h
 exact propext ⟨key P Q h, key Q P h⟩
theorem star_assoc (P Q R : HP) : P * Q * R = P * (Q * R) := by
 funext h
 apply propext
 constructor
 ·rintro ⟨f, g, ⟨f1, f2, h1, h2, hd1, hf⟩, hg, hd, hh⟩
  refine ⟨f1, fun i => (f2 i).or (g i), h1, ⟨f2, g, h2, hg, fun i => ?_, fun i => rfl⟩, fun i => ?_, fun i => ?_⟩
  ·have := hd i; rw [hf i] at this
   rcases this with e | e
   ·cases h : f1 i <;> simp [h] at e <;> exact .inl e
   ·exact .inr e
  ·have a := hd i; have b := hd1 i; rw [hf i] at a
   rcases b with b | b
   ·exact .inl b
   ·rcases a with a | a
    ·cases h : f1 i <;> simp [h] at a; exact .inl rfl
    ·exact .inr (show (f2 i).or (g i) = none by rw [b, a]; rfl)
  ·rw [hh i, hf i]; cases f1 i <;> simp
 ·rintro ⟨f, g, hf, ⟨g1, g2, h1, h2, hd1, hg⟩, hd, hh⟩
  refine ⟨fun i => (f i).or (g1 i), g2, ⟨f, g1, hf, h1, fun i => ?_, fun i => rfl⟩, h2, fun i => ?_, fun i => ?_⟩
  ·have := hd i; rw [hg i] at this
   rcases this with e | e
   ·exact .inl e
   ·cases h : g1 i <;> simp [h] at e; exact .inr rfl
  ·have a := hd i; have b := hd1 i; rw [hg i] at a
   rcases b with b | b
   ·rcases a with a | a
    ·exact .inl (show (f i).or (g1 i) = none by rw [a, b]; rfl)
    ·rw [b] at a; exact .inr (by simpa using a)
   ·exact .inr b
  ·show h i = ((f i).or (g1 i)).or (g2 i)
   rw [hh i, hg i]; cases f i <;> simp
instance : Std.Associative (α := HP) (· * ·) := ⟨star_assoc⟩
instance : Std.Commutative (α := HP) (· * ·) := ⟨star_comm⟩
end HP
open HP
section
variable {B : Blk → Prop} {σ0 σ : Heap} {P Q R : HP} {id : Nat} {b b' : Blk}
end
section
variable {α : Type} {E : List AV → α → HP} {B : Blk → Prop} {σ0 σ : Heap} {R : HP}
def fl (c : α → List AV) : List AV → α → HP := fun e x => pr (e = c x)
variable {sz : Nat} {v : AV} {l : List α}
end
end Go.Proofs.YtfalbgflabajbaaDoor

namespace Go.Proofs.YtfalbgflabajbaaDoor
set_option linter.unusedSectionVars false
set_option linter.unusedVariables false
set_option linter.unusedSimpArgs false
open HP
section
variable {σ : Heap} {id g sz off len : Nat} {es : List (List AV)}
theorem cnd_t {α : Type} {X Y : Option α} : A.cond (.bool true) X Y = X := rfl
theorem cnd_f {α : Type} {X Y : Option α} : A.cond (.bool false) X Y = Y := rfl
end
section
variable {α : Type} {E : List AV → α → HP} {σ0 σ : Heap} {R : HP} {sz most : Nat} {zs : List AV} {rot : List AV → Heap → Option (AV × Heap)} {v : AV} {l : List α} {y : α} {ye : List AV} {i : Nat}
end
end Go.Proofs.YtfalbgflabajbaaDoor

namespace Go.Proofs.YtfalbgflabajbaaDoor
set_option linter.unusedSectionVars false
set_option linter.unusedVariables false
set_option linter.unusedSimpArgs false
def srtM (l : List MoveD) : Prop := l.Pairwise fun a b => ltK a.key b.key = true
structure Good (l : List CueD) : Prop where
 len : l.length ≤ 300
 num : ∀ c ∈ l, 1 ≤ c.number ∧ c.number ≤ 9999999
 srt : l.Pairwise fun a b => a.number < b.number
 mv : ∀ c ∈ l, c.moves.length ≤ 2000 ∧ srtM c.moves
 pts : ∀ c ∈ l, c.curve.points.length ≤ 20
end Go.Proofs.YtfalbgflabajbaaDoor

namespace Go.Proofs.YtfalbgflabajbaaDoor
set_option linter.unusedSectionVars false
set_option linter.unusedVariables false
set_option linter.unusedSimpArgs false
structure GoodN (l : List CueD) : Prop where
 len : l.length ≤ 300
 num : ∀ c ∈ l, 1 ≤ c.number ∧ c.number ≤ 9999999
 srt : l.Pairwise fun a b => a.number < b.number
section
variable {α R γ S B : Type}
end
end Go.Proofs.YtfalbgflabajbaaDoor

namespace Go.Proofs.YtfalbgflabajbaaDoor
set_option linter.unusedSectionVars false
set_option linter.unusedVariables false
set_option linter.unusedSimpArgs false
open HP
def Lt (σ : Heap) (sh : Sh) (v t : AV) : Prop := (∃ v', A.frz σ 0 8 v = some v' ∧ A.own v' = false ∧ A.nn sh v' = A.nn sh t) ∧ A.own t = false ∧ (A.own v = false → A.nn sh v = A.nn sh t)
def LtL (σ : Heap) : List Sh → List AV → List AV → Prop
 | _, [], [] => True
 | [], a :: aas, t :: ts => Lt σ .k a t ∧ LtL σ [] aas ts
 | s :: ss, a :: aas, t :: ts => Lt σ s a t ∧ LtL σ ss aas ts
 | _, _, _ => False
theorem nn_k (v : AV) : A.nn .k v = v := by simp [A.nn]
theorem ltL {σ : Heap} : ∀ {ss : List Sh} {aas ts : List AV}, LtL σ ss aas ts → (∃ aas', A.frzL σ 0 8 aas = some aas' ∧ aas'.any A.own = false ∧ A.nnL ss aas' = A.nnL ss ts) ∧ ts.any A.own = false ∧ (aas.any A.own = false → A.nnL ss aas = A.nnL ss ts)
 | ss, [], [], _ => ⟨⟨[], by simp [A.frzL], rfl, rfl⟩, rfl, fun _ => rfl⟩
 | [], a :: aas, t :: ts, h => by
  obtain ⟨⟨⟨v', h1, h2, h3⟩, h4, h5⟩, h6⟩ := h
  obtain ⟨⟨aas', k1, k2, k3⟩, k4, k5⟩ := ltL h6
  rw [nn_k, nn_k] at h3
  simp only [A.nnL] at k3 k5
  refine ⟨⟨v' :: aas', by simp [A.frzL, h1, k1], by simp [h2, k2], by simp [A.nnL, h3, k3]⟩, by simp [h4, k4], fun h => ?_⟩
  simp only [List.any_cons, Bool.or_eq_false_iff] at h
  have := h5 h.1
  rw [nn_k, nn_k] at this
  simp [A.nnL, this, k5 h.2]
 | s :: ss, a :: aas, t :: ts, h => by
  obtain ⟨⟨⟨v', h1, h2, h3⟩, h4, h5⟩, h6⟩ := h
  obtain ⟨⟨aas', k1, k2, k3⟩, k4, k5⟩ := ltL h6
  refine ⟨⟨v' :: aas', by simp [A.frzL, h1, k1], by simp [h2, k2], by simp [A.nnL, h3, k3]⟩, by simp [h4, k4], fun h => ?_⟩
  simp only [List.any_cons, Bool.or_eq_false_iff] at h
  simp [A.nnL, h5 h.1, k5 h.2]
 | _, [], _ :: _, h => by cases h
 | [], _ :: _, [], h => by cases h
 | _ :: _, _ :: _, [], h => by cases h
theorem lent {ain : List Sh} {rout : Sh} {r : List AV → Heap → Option (AV × Heap)} {aas ts : List AV} {σ : Heap} {v : AV} (h : LtL σ ain aas ts) (e : ∀ σ, A.wrap true ain rout r ts σ = some (v, σ)) (hs : A.scal v = true) : A.wrap true ain rout r aas σ = some (v, σ) := by
 obtain ⟨⟨aas', k1, k2, k3⟩, k4, k5⟩ := ltL h
 cases ho : aas.any A.own
 ·rw [wrap_nn (k5 ho) ho k4]; exact e σ
 ·exact wrap_own ho k1 k2 (by rw [wrap_nn k3 k2 k4]; exact e []) hs
section
variable {α : Type} {c : α → List AV} {sz : Nat} {B : Blk → Prop} {σ0 σ : Heap} {R : HP} {v : AV} {l : List α}
end
section
variable {α : Type} {E : List AV → α → HP} {sz : Nat} {σ0 σ : Heap} {R : HP} {v : AV} {l : List α}
end
section
variable {B : Blk → Prop} {σ0 σ : Heap} {R : HP} {M : AV → List MoveD → HP} {e : List AV} {x : CueD}
variable {v : AV} {l : List CueD}
end
end Go.Proofs.YtfalbgflabajbaaDoor

namespace Go.Proofs.YtfalbgflabajbaaDoor
set_option linter.unusedSectionVars false
set_option linter.unusedVariables false
set_option linter.unusedSimpArgs false
open HP
theorem loop_ms {f : List AV → Heap → Option LS} {Q : LS → Prop} (I : Nat → List AV → Heap → Prop) (hstep : ∀ n v σ, I n v σ → (∃ m v' σ', m < n ∧ f v σ = some (.normal, v', σ') ∧ I m v' σ') ∨ ∃ q, f v σ = some q ∧ q.1 ≠ .normal ∧ Q q) {n : Nat} {v0 : List AV} {σ : Heap} (h0 : I n v0 σ) : ∃ q, A.loop f v0 σ = some q ∧ Q q := by
 have key : ∀ (k n : Nat) v σ, n ≤ k → I n v σ → ∃ q, (∃ m, A.iter f m v σ = some q) ∧ Q q := by
  intro k
  induction k with
  | zero =>
   intro n v σ hn hI
   rcases hstep n v σ hI with ⟨m, _, _, hm, _⟩ | ⟨q, h1, h2, h3⟩
   ·omega
   ·exact ⟨q, loop_done h1 h2, h3⟩
  | succ k ih =>
   intro n v σ hn hI
   rcases hstep n v σ hI with ⟨m, v', σ', hm, h1, h2⟩ | ⟨q, h1, h2, h3⟩
   ·obtain ⟨q, hq, hQ⟩ := ih m v' σ' (by omega) h2
    exact ⟨q, loop_step h1 hq, hQ⟩
   ·exact ⟨q, loop_done h1 h2, h3⟩
 obtain ⟨q, ⟨m, hm⟩, hQ⟩ := key n n v0 σ (Nat.le_refl _) h0
 exact ⟨q, loop_of_iter hm, hQ⟩
theorem bS {α β : Type} (a : α) (f : α → Option β) : (some a).bind f = f a := by have h : (some a).bind f = f a := rfl; exact h.trans (Eq.refl (f a))
theorem exE (n : Nat) {α : Type} {X Y : α} : (bif (AX.exit n == AX.exit n) then X else Y) = X := by rw [show (AX.exit n == AX.exit n) = true from beq_self_eq_true _]; rfl
theorem notT : A.not (.bool true) = some (.bool false) := rfl
end Go.Proofs.YtfalbgflabajbaaDoor

namespace Go.Proofs.YtfalbgflabajbaaDoor
set_option linter.unusedSectionVars false
set_option linter.unusedVariables false
set_option linter.unusedSimpArgs false
def nslE {α : Type} (sz : Nat) (c : α → List AV) : List α → AV
 | [] => .nsl
 | x :: l => .sl sz ((x :: l).map c)
theorem nslE_ne {α : Type} {sz : Nat} {c : α → List AV} {l : List α} (h : l ≠ []) : nslE sz c l = sl sz c l := by
 cases l with
 | nil => exact absurd rfl h
 | cons x l => rfl
end Go.Proofs.YtfalbgflabajbaaDoor

namespace Go.Proofs.YtfalbgflabajbaaDoor
set_option linter.unusedSectionVars false
set_option linter.unusedVariables false
set_option linter.unusedSimpArgs false
set_option maxRecDepth 100000
def NsV (σ : Heap) (lo hi : Nat) (v : AV) (xs : List Int) : Prop := (v = .nsl ∧ xs = []) ∨ ∃ id g, v = .os id g 1 0 xs.length ∧ lo ≤ id ∧ id < hi ∧ σ[id]? = some (.arr g 1 (xs.map cInt)) ∧ xs ≠ []
def EntU (σ : Heap) (lo hi : Nat) : List (Int × AV) → List GroupD → Prop
 | [], [] => True
 | p :: E, g :: l => p.1 = g.number ∧ NsV σ lo hi p.2 (pNamed 2 g.pick) ∧ EntU σ lo hi E l
 | _, _ => False
def usesL (l : List GroupD) : List (Int × List Int) := l.map fun g => (g.number, pNamed 2 g.pick)
abbrev eI (E : List (Int × AV)) : List (AV × AV) := E.map fun p => (.int .i64 p.1, p.2)
end Go.Proofs.YtfalbgflabajbaaDoor

namespace Go.Proofs.YtfalbgflabajbaaDoor
set_option linter.unusedSectionVars false
set_option linter.unusedVariables false
set_option linter.unusedSimpArgs false
inductive Rch (f : Int → List Int) (a : Int) : Int → Prop where
 | one {b : Int} (h : b ∈ f a) : Rch f a b
 | step {b c : Int} (h : Rch f a b) (k : c ∈ f b) : Rch f a c
def unS (V seen : List Int) : Nat := (V.filter fun x => decide (x ∉ seen)).length
theorem unS_le (V seen : List Int) : unS V seen ≤ V.length := List.length_filter_le _ _
theorem unS_sub {k : Int} : ∀ (V seen : List Int), unS V (seen ++ [k]) ≤ unS V seen
 | [], seen => Nat.le_refl _
 | x :: V, seen => by
  have := unS_sub (k := k) V seen
  unfold unS at this ⊢
  simp only [List.filter_cons]
  by_cases h : x ∈ seen
  ·rw [if_neg (by simp [h]), if_neg (by simp [h])]; exact this
  ·by_cases hk : x = k
   ·rw [if_neg (by simp [hk]), if_pos (by simp [h]), List.length_cons]; omega
   ·rw [if_pos (by simp [h, hk]), if_pos (by simp [h]), List.length_cons, List.length_cons]; omega
theorem unS_lt {k : Int} : ∀ {V seen : List Int}, k ∈ V → k ∉ seen → unS V (seen ++ [k]) < unS V seen
 | x :: V, seen, h, hn => by
  have hs := unS_sub (k := k) V seen
  by_cases hk : x = k
  ·unfold unS at hs ⊢
   simp only [List.filter_cons]
   rw [if_neg (by simp [hk]), if_pos (by simp [hk, hn]), List.length_cons]; omega
  ·have := unS_lt (V := V) (by simpa [Ne.symm hk] using h) hn
   unfold unS at this ⊢
   simp only [List.filter_cons]
   by_cases h : x ∈ seen
   ·rw [if_neg (by simp [h]), if_neg (by simp [h])]; exact this
   ·rw [if_pos (by simp [h, hk]), if_pos (by simp [h]), List.length_cons, List.length_cons]; omega
structure ReI (f : Int → List Int) (V : List Int) (a : Int) (cur : Option (Int × List Int)) (st seen : List Int) : Prop where
 sound : ∀ n ∈ seen, Rch f a n
 known : ∀ n ∈ st, n = a ∨ n ∈ seen
 all : ∀ n, (n = a ∨ n ∈ seen) → n ∈ st ∨ (∀ k ∈ f n, k ∈ seen) ∨ ∃ xs ys, cur = some (n, ys) ∧ f n = xs ++ ys ∧ ∀ k ∈ xs, k ∈ seen
 few : st.length + unS V seen ≤ V.length + 1
 here : ∀ n ys, cur = some (n, ys) → (n = a ∨ n ∈ seen) ∧ ∀ k ∈ ys, k ∈ f n
section
variable {f : Int → List Int} {V : List Int} {a : Int} {st st' seen : List Int} {n k : Int} {r : List Int}
end
def StkV (σ : Heap) (id : Nat) (v : AV) (st : List Int) : Prop := ∃ g off es, v = .os id g 1 off st.length ∧ σ[id]? = some (.arr g 1 es) ∧ off + st.length ≤ es.length ∧ (es.drop off).take st.length = st.map cInt
section
variable {σ : Heap} {id : Nat} {v : AV} {st : List Int} {n x : Int}
end
end Go.Proofs.YtfalbgflabajbaaDoor

namespace Go.Proofs.YtfalbgflabajbaaDoor
set_option linter.unusedSectionVars false
set_option linter.unusedVariables false
set_option linter.unusedSimpArgs false
open HP
def Inv (k : Nat) (l : List CueD) : Prop := l.length ≤ 1000 ∧ ∀ c ∈ l, srtM c.moves ∧ c.moves.length ≤ 2000 + k
section
variable {σ0 σ : Heap} {R : HP}
end
end Go.Proofs.YtfalbgflabajbaaDoor

namespace Go.Proofs.YtfalbgflabajbaaDoor
set_option linter.unusedSectionVars false
set_option linter.unusedVariables false
set_option linter.unusedSimpArgs false
set_option maxRecDepth 100000
def nx (U : List (Int × List Int)) (n : Int) : List Int := (tfind n U).getD []
end Go.Proofs.YtfalbgflabajbaaDoor

namespace Go.Proofs.YtfalbgflabajbaaDoor
set_option linter.unusedSectionVars false
set_option linter.unusedSimpArgs false
set_option linter.unusedVariables false
theorem size_m (p : PickD) (h : pSize p ≤ 2000000) (σ : Heap) : m_pick_size [.agg (cPick p)] σ = some (.tup [.int .i64 (pSize p : Int), .int .i64 (pDeep p : Int)], σ) := size_t 2000000 p σ (Nat.le_trans (pDeep_size p) h) (Nat.le_trans h (by decide))
theorem check_m (p : PickD) (h : pSize p ≤ 2000000) (σ : Heap) : m_pick_check [.agg (cPick p)] σ = some (.int .i64 (pChk p), σ) := check_t 2000000 p σ (Nat.le_trans (pDeep_size p) h) (Nat.le_trans h (by decide))
end Go.Proofs.YtfalbgflabajbaaDoor

namespace Go.Proofs.YtfalbgflabajbaaDoor
set_option linter.unusedSectionVars false
set_option linter.unusedVariables false
set_option linter.unusedSimpArgs false
set_option maxRecDepth 100000
noncomputable def t_pick_Check (a0 : PickD) : Option Int :=
 (tq (pSize a0 ≤ 2000000) (((pSize a0 : Int), (pDeep a0 : Int)))).bind fun r1 =>
 if ((decide (200 < r1.1)) || (decide (12 < r1.2))) = true then
  some 2
 else
 (tq (pSize a0 ≤ 2000000) (pChk a0)).bind fun r2 =>
 some r2
theorem h_pick_Check {a0 : PickD} {σ : Heap} {r : Int} (h : t_pick_Check a0 = some r) : m_pick_Check [(AV.agg (cPick a0))] σ = some ((AV.int .i64 r), σ) := by
 refine rf_wrap1 (f := r_pick_Check) (y0 := (AV.agg (cPick a0))) (enc := fun r : Int => (AV.int .i64 r)) (T := t_pick_Check a0) (by first | rfl | (simp only [cPick_eq]; rfl)) (by first | rfl | (simp only [cPick_eq]; rfl)) ?_ r h
 unfold r_pick_Check t_pick_Check
 refine rf_s (cPick a0) (by first | rfl | (simp only [cPick_eq]; rfl)) <| rf_s (AV.agg (cPick a0)) (by first | rfl | (simp only [cPick_eq]; rfl)) ?_
 refine rf_o (fun r1 : (Int × Int) => ((AV.tup [(AV.int .i64 r1.1), (AV.int .i64 r1.2)]), σ)) (fun r1 hr1 => (tq_of (e := fun r : (Int × Int) => ((AV.tup [(AV.int .i64 r.1), (AV.int .i64 r.2)]), σ)) (fun hs => size_m a0 hs σ)) hr1) (fun r1 hr1 => ?_)
 refine rf_s (AV.int .i64 r1.1) (by first | rfl | (simp only [cPick_eq]; rfl)) <| rf_s (AV.int .i64 r1.2) (by first | rfl | (simp only [cPick_eq]; rfl)) <| rf_s (AV.bool (decide (200 < r1.1))) (by first | rfl | (simp only [cPick_eq]; rfl)) <| rf_gf (AV.int .i64 r1.2) (fun hg => by first | rfl | (simp only [cPick_eq]; rfl)) <| rf_gf (AV.bool (decide (12 < r1.2))) (fun hg => by (try rw [hg]); exact rfl) <| rf_s _ (pk_or _ _) ?_
 refine rf_cb (c := ((decide (200 < r1.1)) || (decide (12 < r1.2)))) (fun c3 => ?_) (fun c3 => ?_)
 ·exact rf_fin _ (fin_same _ _) ⟨rfl, rfl⟩
 refine rf_s (AV.agg (cPick a0)) (by first | rfl | (simp only [cPick_eq]; rfl)) ?_
 refine rf_o (fun r2 : Int => ((AV.int .i64 r2), σ)) (fun r2 hr2 => (tq_of (e := fun r : Int => ((AV.int .i64 r), σ)) (fun hs => check_m a0 hs σ)) hr2) (fun r2 hr2 => ?_)
 exact rf_fin _ (fin_same _ _) ⟨rfl, rfl⟩

end Go.Proofs.YtfalbgflabajbaaDoor

namespace Go.Proofs.YtfalbgflabajbaaDoor
set_option linter.unusedSectionVars false
set_option linter.unusedVariables false
set_option linter.unusedSimpArgs false
set_option maxRecDepth 100000
noncomputable def t_pick_text (q_pick_arg : PickD → Option ByteArray) (q_pick_text : PickD → Option ByteArray) (a0 : PickD) : Option ByteArray :=
 (tq (inI a0.frm) (itoaB a0.frm)).bind fun r1 =>
 (tq (inI a0.to) (itoaB a0.to)).bind fun r2 =>
 if a0.kind = 1 then
  if r1 = r2 then
   some r1
  else
  (tCat r1 (⟨#[32, 116, 104, 114, 117, 32]⟩ : ByteArray)).bind fun x3 =>
  (tCat x3 r2).bind fun x4 =>
  some x4
 else
 if a0.kind = 2 then
  (tCat (⟨#[103, 114, 111, 117, 112, 32]⟩ : ByteArray) r1).bind fun x6 =>
  some x6
 else
 if a0.kind = 3 then
  (tCat (⟨#[112, 114, 101, 115, 101, 116, 32]⟩ : ByteArray) r1).bind fun x7 =>
  some x7
 else
 if a0.kind = 6 then
  (tIx a0.args 0).bind fun x8 =>
  (q_pick_arg x8).bind fun r9 =>
  (tCat (⟨#[111, 100, 100, 32]⟩ : ByteArray) r9).bind fun x10 =>
  some x10
 else
 if a0.kind = 7 then
  (tIx a0.args 0).bind fun x11 =>
  (q_pick_arg x11).bind fun r12 =>
  (tCat (⟨#[101, 118, 101, 110, 32]⟩ : ByteArray) r12).bind fun x13 =>
  some x13
 else
 if a0.kind = 8 then
  (tIx a0.args 0).bind fun x14 =>
  (q_pick_arg x14).bind fun r15 =>
  (tCat (⟨#[98, 97, 99, 107, 32]⟩ : ByteArray) r15).bind fun x16 =>
  some x16
 else
 if a0.kind = 9 then
  (tCat (⟨#[101, 118, 101, 114, 121, 32]⟩ : ByteArray) r1).bind fun x17 =>
  (tCat x17 (⟨#[32, 102, 114, 111, 109, 32]⟩ : ByteArray)).bind fun x18 =>
  (tCat x18 r2).bind fun x19 =>
  (tCat x19 (⟨#[32]⟩ : ByteArray)).bind fun x20 =>
  (tIx a0.args 0).bind fun x21 =>
  (q_pick_arg x21).bind fun r22 =>
  (tCat x20 r22).bind fun x23 =>
  some x23
 else
 (tIx a0.args 0).bind fun x24 =>
 (q_pick_arg x24).bind fun r25 =>
 (show Option ByteArray from
   if a0.kind = 5 then
    some (⟨#[32, 45, 32]⟩ : ByteArray)
   else
   some (⟨#[32, 43, 32]⟩ : ByteArray)).bind fun j27 =>
 (show Option ByteArray from
   if ((decide (x24.kind = 5)) || (decide (a0.kind = 5))) = true then
    (q_pick_text x24).bind fun r30 =>
    some r30
   else
   some r25).bind fun j32 =>
 (tSl a0.args (some 1) none).bind fun x35 =>
 forE x35 (fun (i43 : Nat) e42 (s36 : ByteArray) => (show Option (Lr ByteArray ByteArray Unit) from
   (q_pick_arg e42).bind fun r44 =>
   (tCat j27 r44).bind fun x45 =>
   (tCat s36 x45).bind fun x46 =>
   some (.go x46))) (fun s36 => some s36) j32 (fun b37 =>
  some b37) (fun b37 =>
  none)
theorem h_pick_text {rc : Nat → List AV → Heap → Option (AV × Heap)} (q_pick_arg : PickD → Option ByteArray) (q_pick_text : PickD → Option ByteArray) (hq_pick_arg : ∀ (x0 : PickD) (s : Heap) r, q_pick_arg x0 = some r → rc 461 [(AV.agg (cPick x0))] s = some ((AV.str r), s)) (hq_pick_text : ∀ (x0 : PickD) (s : Heap) r, q_pick_text x0 = some r → rc 462 [(AV.agg (cPick x0))] s = some ((AV.str r), s)) {a0 : PickD} {σ : Heap} {r : ByteArray} (h : t_pick_text q_pick_arg q_pick_text a0 = some r) : A.wrap true [(.a [.k, .k, .k, (.s 4)])] .k (A.ar1 (r_pick_text rc)) [(AV.agg (cPick a0))] σ = some ((AV.str r), σ) := by
 refine rf_wrap1 (f := r_pick_text rc) (y0 := (AV.agg (cPick a0))) (enc := fun r : ByteArray => (AV.str r)) (T := t_pick_text q_pick_arg q_pick_text a0) (by first | rfl | (simp only [cPick_eq]; rfl)) (by first | rfl | (simp only [cPick_eq]; rfl)) ?_ r h
 unfold r_pick_text t_pick_text
 refine rf_s (cPick a0) (by first | rfl | (simp only [cPick_eq]; rfl)) <| rf_s (AV.int .i64 a0.frm) (by first | rfl | (simp only [cPick_eq]; rfl)) ?_
 refine rf_o (fun r1 : ByteArray => (AV.str r1)) (fun r1 hr1 => (quiet_of ((tq_of (e := fun r : ByteArray => ((AV.str r), σ)) (fun hs => Itoa_eq a0.frm hs σ)) hr1))) (fun r1 hr1 => ?_)
 refine rf_s (AV.int .i64 a0.to) (by first | rfl | (simp only [cPick_eq]; rfl)) ?_
 refine rf_o (fun r2 : ByteArray => (AV.str r2)) (fun r2 hr2 => (quiet_of ((tq_of (e := fun r : ByteArray => ((AV.str r), σ)) (fun hs => Itoa_eq a0.to hs σ)) hr2))) (fun r2 hr2 => ?_)
 refine rf_s (AV.int .i64 a0.kind) (by first | rfl | (simp only [cPick_eq]; rfl)) <| rf_s _ (aEq _ _ _) ?_
 refine rf_c (p := a0.kind = 1) (fun c53 => ?_) (fun c53 => ?_)
 ·refine rf_s _ (aEqZ _ _) ?_
  refine rf_c (p := r1 = r2) (fun c5 => ?_) (fun c5 => ?_)
  ·exact rf_fin _ (fin_same _ _) ⟨rfl, rfl⟩
  refine rf_o (fun x3 : ByteArray => (AV.str x3)) (fun x3 hx3 => (cat_at hx3)) (fun x3 hx3 => ?_)
  refine rf_o (fun x4 : ByteArray => (AV.str x4)) (fun x4 hx4 => (cat_at hx4)) (fun x4 hx4 => ?_)
  exact rf_fin _ (fin_same _ _) ⟨rfl, rfl⟩
 refine rf_s _ (aEq _ _ _) ?_
 refine rf_c (p := a0.kind = 2) (fun c52 => ?_) (fun c52 => ?_)
 ·refine rf_o (fun x6 : ByteArray => (AV.str x6)) (fun x6 hx6 => (cat_at hx6)) (fun x6 hx6 => ?_)
  exact rf_fin _ (fin_same _ _) ⟨rfl, rfl⟩
 refine rf_s _ (aEq _ _ _) ?_
 refine rf_c (p := a0.kind = 3) (fun c51 => ?_) (fun c51 => ?_)
 ·refine rf_o (fun x7 : ByteArray => (AV.str x7)) (fun x7 hx7 => (cat_at hx7)) (fun x7 hx7 => ?_)
  exact rf_fin _ (fin_same _ _) ⟨rfl, rfl⟩
 refine rf_s _ (aEq _ _ _) ?_
 refine rf_c (p := a0.kind = 6) (fun c50 => ?_) (fun c50 => ?_)
 ·refine rf_s (sl 4 cPick a0.args) (by first | rfl | (simp only [cPick_eq]; rfl)) ?_
  refine rf_o (fun x8 : PickD => (AV.rp (cPick x8))) (fun x8 hx8 => ix_at hx8) (fun x8 hx8 => ?_)
  refine rf_s (AV.agg (cPick x8)) (by first | rfl | (simp only [cPick_eq]; rfl)) ?_
  refine rf_o (fun r9 : ByteArray => ((AV.str r9), σ)) (fun r9 hr9 => hq_pick_arg _ _ _ hr9) (fun r9 hr9 => ?_)
  refine rf_o (fun x10 : ByteArray => (AV.str x10)) (fun x10 hx10 => (cat_at hx10)) (fun x10 hx10 => ?_)
  exact rf_fin _ (fin_same _ _) ⟨rfl, rfl⟩
 refine rf_s _ (aEq _ _ _) ?_
 refine rf_c (p := a0.kind = 7) (fun c49 => ?_) (fun c49 => ?_)
 ·refine rf_s (sl 4 cPick a0.args) (by first | rfl | (simp only [cPick_eq]; rfl)) ?_
  refine rf_o (fun x11 : PickD => (AV.rp (cPick x11))) (fun x11 hx11 => ix_at hx11) (fun x11 hx11 => ?_)
  refine rf_s (AV.agg (cPick x11)) (by first | rfl | (simp only [cPick_eq]; rfl)) ?_
  refine rf_o (fun r12 : ByteArray => ((AV.str r12), σ)) (fun r12 hr12 => hq_pick_arg _ _ _ hr12) (fun r12 hr12 => ?_)
  refine rf_o (fun x13 : ByteArray => (AV.str x13)) (fun x13 hx13 => (cat_at hx13)) (fun x13 hx13 => ?_)
  exact rf_fin _ (fin_same _ _) ⟨rfl, rfl⟩
 refine rf_s _ (aEq _ _ _) ?_
 refine rf_c (p := a0.kind = 8) (fun c48 => ?_) (fun c48 => ?_)
 ·refine rf_s (sl 4 cPick a0.args) (by first | rfl | (simp only [cPick_eq]; rfl)) ?_
  refine rf_o (fun x14 : PickD => (AV.rp (cPick x14))) (fun x14 hx14 => ix_at hx14) (fun x14 hx14 => ?_)
  refine rf_s (AV.agg (cPick x14)) (by first | rfl | (simp only [cPick_eq]; rfl)) ?_
  refine rf_o (fun r15 : ByteArray => ((AV.str r15), σ)) (fun r15 hr15 => hq_pick_arg _ _ _ hr15) (fun r15 hr15 => ?_)
  refine rf_o (fun x16 : ByteArray => (AV.str x16)) (fun x16 hx16 => (cat_at hx16)) (fun x16 hx16 => ?_)
  exact rf_fin _ (fin_same _ _) ⟨rfl, rfl⟩
 refine rf_s _ (aEq _ _ _) ?_
 refine rf_c (p := a0.kind = 9) (fun c47 => ?_) (fun c47 => ?_)
 ·refine rf_o (fun x17 : ByteArray => (AV.str x17)) (fun x17 hx17 => (cat_at hx17)) (fun x17 hx17 => ?_)
  refine rf_o (fun x18 : ByteArray => (AV.str x18)) (fun x18 hx18 => (cat_at hx18)) (fun x18 hx18 => ?_)
  refine rf_o (fun x19 : ByteArray => (AV.str x19)) (fun x19 hx19 => (cat_at hx19)) (fun x19 hx19 => ?_)
  refine rf_o (fun x20 : ByteArray => (AV.str x20)) (fun x20 hx20 => (cat_at hx20)) (fun x20 hx20 => ?_)
  refine rf_s (sl 4 cPick a0.args) (by first | rfl | (simp only [cPick_eq]; rfl)) ?_
  refine rf_o (fun x21 : PickD => (AV.rp (cPick x21))) (fun x21 hx21 => ix_at hx21) (fun x21 hx21 => ?_)
  refine rf_s (AV.agg (cPick x21)) (by first | rfl | (simp only [cPick_eq]; rfl)) ?_
  refine rf_o (fun r22 : ByteArray => ((AV.str r22), σ)) (fun r22 hr22 => hq_pick_arg _ _ _ hr22) (fun r22 hr22 => ?_)
  refine rf_o (fun x23 : ByteArray => (AV.str x23)) (fun x23 hx23 => (cat_at hx23)) (fun x23 hx23 => ?_)
  exact rf_fin _ (fin_same _ _) ⟨rfl, rfl⟩
 refine rf_s (sl 4 cPick a0.args) (by first | rfl | (simp only [cPick_eq]; rfl)) ?_
 refine rf_o (fun x24 : PickD => (AV.rp (cPick x24))) (fun x24 hx24 => ix_at hx24) (fun x24 hx24 => ?_)
 refine rf_s (AV.agg (cPick x24)) (by first | rfl | (simp only [cPick_eq]; rfl)) <| rf_s (cPick x24) (by first | rfl | (simp only [cPick_eq]; rfl)) <| rf_s _ (sp_cPick _ _ rfl) <| rf_s (AV.agg (cPick x24)) (by first | rfl | (simp only [cPick_eq]; rfl)) ?_
 refine rf_o (fun r25 : ByteArray => ((AV.str r25), σ)) (fun r25 hr25 => hq_pick_arg _ _ _ hr25) (fun r25 hr25 => ?_)
 refine rf_s (AV.int .i64 a0.kind) (by first | rfl | (simp only [cPick_eq]; rfl)) <| rf_s _ (aEq _ _ _) ?_
 refine rf_b (ω := ByteArray) (fun j27 a => a = (([(AV.lbx (cPick a0)), (AV.str j27), (AV.lbx (cPick x24))] : List AV), σ)) (
   by
    refine rf_c (p := a0.kind = 5) (fun c26 => ?_) (fun c26 => ?_)
    ·exact rf_ret rfl
    exact rf_ret rfl
   ) (fun j27 a ha => ?_)
 subst ha
 refine rf_s _ (by first | rfl | (simp only [cPick_eq]; rfl)) <| rf_s (AV.int .i64 x24.kind) (by first | rfl | (simp only [cPick_eq]; rfl)) <| rf_s _ (aEq _ _ _) <| rf_s _ (by first | rfl | (simp only [cPick_eq]; rfl)) <| rf_gf (AV.int .i64 a0.kind) (fun hg => by first | rfl | (simp only [cPick_eq]; rfl)) <| rf_gf (AV.bool (decide (a0.kind = 5))) (fun hg => by (try rw [hg]); exact (aEq _ _ _)) <| rf_s _ (pk_or _ _) ?_
 refine rf_b (ω := ByteArray) (fun j32 a => a = (([(AV.lbx (cPick a0)), (AV.str j32)] : List AV), σ)) (
   by
    refine rf_cb (c := ((decide (x24.kind = 5)) || (decide (a0.kind = 5)))) (fun c31 => ?_) (fun c31 => ?_)
    ·refine rf_s (AV.agg (cPick x24)) (by first | rfl | (simp only [cPick_eq]; rfl)) ?_
     refine rf_o (fun r30 : ByteArray => ((AV.str r30), σ)) (fun r30 hr30 => hq_pick_text _ _ _ hr30) (fun r30 hr30 => ?_)
     exact rf_ret rfl
    exact rf_ret rfl
   ) (fun j32 a ha => ?_)
 subst ha
 refine rf_s _ (by first | rfl | (simp only [cPick_eq]; rfl)) <| rf_s (sl 4 cPick a0.args) (by first | rfl | (simp only [cPick_eq]; rfl)) ?_
 refine rf_o (fun x35 : (List PickD) => (sl 4 cPick x35)) (fun x35 hx35 => (sls_at hx35)) (fun x35 hx35 => ?_)
 refine rf_s _ (lenS_sl _ _ _) ?_
 refine rf_for (B := ByteArray) (R := Unit) (fun (i43 : Nat) (s36 : ByteArray) v w38 => v = [(AV.str s36), (AV.int .i64 (i43 : Int))] ∧ σ = w38) (fun (b37 : ByteArray) (q : LS) => ∃ u97, q = ((AX.exit 1), ([(AV.str b37), u97] : List AV), σ)) (fun (b37 : Unit) (q : LS) => False) ?_ ?_ ⟨rfl, rfl⟩ ?_ ?_
 ·intro hle42 i43 e42 s36 v w38 he42 hI
  obtain ⟨rfl, rfl⟩ := hI
  refine rf_s _ (ix_lt he42) <| rf_ct <| rf_s _ (ix_for he42) <| rf_s (AV.agg (cPick e42)) (by first | rfl | (simp only [cPick_eq]; rfl)) <| rf_s (cPick e42) (by first | rfl | (simp only [cPick_eq]; rfl)) <| rf_s _ (sp_cPick _ _ rfl) <| rf_s (AV.agg (cPick e42)) (by first | rfl | (simp only [cPick_eq]; rfl)) ?_
  refine rf_o (fun r44 : ByteArray => ((AV.str r44), σ)) (fun r44 hr44 => hq_pick_arg _ _ _ hr44) (fun r44 hr44 => ?_)
  refine rf_o (fun x45 : ByteArray => (AV.str x45)) (fun x45 hx45 => (cat_at hx45)) (fun x45 hx45 => ?_)
  refine rf_o (fun x46 : ByteArray => (AV.str x46)) (fun x46 hx46 => (cat_at hx46)) (fun x46 hx46 => ?_)
  refine rf_s _ (ix_inc he42 hle42) ?_
  exact rf_ret (rnd_go ⟨rfl, rfl⟩)
 ·intro hl s36 v w38 hI
  obtain ⟨rfl, rfl⟩ := hI
  refine rf_s _ (ix_end _) <| rf_cf ?_
  exact rf_ret ⟨by simp, ⟨_, rfl⟩⟩
 ·intro hl b37 q hq
  obtain ⟨u97, rfl⟩ := hq
  refine rf_bt (by first | rfl | (simp only [cPick_eq]; rfl)) ?_
  exact rf_fin _ (fin_same _ _) ⟨rfl, rfl⟩
 ·intro hl b37 q hq
  exact False.elim hq

noncomputable def t_pick_arg (q_pick_text : PickD → Option ByteArray) (a0 : PickD) : Option ByteArray :=
 if ((decide (a0.kind = 4)) || (decide (a0.kind = 5))) = true then
  (q_pick_text a0).bind fun r1 =>
  (tCat (⟨#[40]⟩ : ByteArray) r1).bind fun x2 =>
  (tCat x2 (⟨#[41]⟩ : ByteArray)).bind fun x3 =>
  some x3
 else
 (q_pick_text a0).bind fun r4 =>
 some r4
theorem h_pick_arg {rc : Nat → List AV → Heap → Option (AV × Heap)} (q_pick_text : PickD → Option ByteArray) (hq_pick_text : ∀ (x0 : PickD) (s : Heap) r, q_pick_text x0 = some r → rc 462 [(AV.agg (cPick x0))] s = some ((AV.str r), s)) {a0 : PickD} {σ : Heap} {r : ByteArray} (h : t_pick_arg q_pick_text a0 = some r) : A.wrap true [(.a [.k, .k, .k, (.s 4)])] .k (A.ar1 (r_pick_arg rc)) [(AV.agg (cPick a0))] σ = some ((AV.str r), σ) := by
 refine rf_wrap1 (f := r_pick_arg rc) (y0 := (AV.agg (cPick a0))) (enc := fun r : ByteArray => (AV.str r)) (T := t_pick_arg q_pick_text a0) (by first | rfl | (simp only [cPick_eq]; rfl)) (by first | rfl | (simp only [cPick_eq]; rfl)) ?_ r h
 unfold r_pick_arg t_pick_arg
 refine rf_s (cPick a0) (by first | rfl | (simp only [cPick_eq]; rfl)) <| rf_s (AV.int .i64 a0.kind) (by first | rfl | (simp only [cPick_eq]; rfl)) <| rf_s _ (aEq _ _ _) <| rf_gf (AV.int .i64 a0.kind) (fun hg => by first | rfl | (simp only [cPick_eq]; rfl)) <| rf_gf (AV.bool (decide (a0.kind = 5))) (fun hg => by (try rw [hg]); exact (aEq _ _ _)) <| rf_s _ (pk_or _ _) ?_
 refine rf_cb (c := ((decide (a0.kind = 4)) || (decide (a0.kind = 5)))) (fun c5 => ?_) (fun c5 => ?_)
 ·refine rf_s (AV.agg (cPick a0)) (by first | rfl | (simp only [cPick_eq]; rfl)) ?_
  refine rf_o (fun r1 : ByteArray => ((AV.str r1), σ)) (fun r1 hr1 => hq_pick_text _ _ _ hr1) (fun r1 hr1 => ?_)
  refine rf_o (fun x2 : ByteArray => (AV.str x2)) (fun x2 hx2 => (cat_at hx2)) (fun x2 hx2 => ?_)
  refine rf_o (fun x3 : ByteArray => (AV.str x3)) (fun x3 hx3 => (cat_at hx3)) (fun x3 hx3 => ?_)
  exact rf_fin _ (fin_same _ _) ⟨rfl, rfl⟩
 refine rf_s (AV.agg (cPick a0)) (by first | rfl | (simp only [cPick_eq]; rfl)) ?_
 refine rf_o (fun r4 : ByteArray => ((AV.str r4), σ)) (fun r4 hr4 => hq_pick_text _ _ _ hr4) (fun r4 hr4 => ?_)
 exact rf_fin _ (fin_same _ _) ⟨rfl, rfl⟩

end Go.Proofs.YtfalbgflabajbaaDoor

namespace Go.Proofs.YtfalbgflabajbaaDoor
set_option linter.unusedSectionVars false
set_option linter.unusedVariables false
set_option linter.unusedSimpArgs false
def dVal (l : List UInt8) : Nat := l.foldl (fun a d => 10 * a + (d.toNat - 48)) 0
theorem dVal_dec : ∀ u : Nat, dVal (Lib.decDigits u) = u := by
 intro u
 induction u using Nat.strongRecOn with
 | ind u ih =>
  rw [Lib.decDigits]
  by_cases h : u < 10
  ·rw [dif_pos h]
   have : u % 256 = u := Nat.mod_eq_of_lt (by omega)
   simp [dVal]; omega
  ·rw [dif_neg h]
   have h1 := ih (u / 10) (by omega)
   unfold dVal at h1 ⊢
   rw [List.foldl_append, h1]
   simp; omega
theorem itoaB_inj {a b : Int} (ha : 0 ≤ a) (hb : 0 ≤ b) (h : itoaB a = itoaB b) : a = b := by
 obtain ⟨m, rfl⟩ := Int.eq_ofNat_of_zero_le ha
 obtain ⟨n, rfl⟩ := Int.eq_ofNat_of_zero_le hb
 unfold itoaB at h
 have h1 := congrArg (fun s : ByteArray => s.data.toList) h
 simp only [Lib.itoa_nonneg] at h1
 have h2 := congrArg dVal h1
 simp only [dVal_dec] at h2
 rw [h2]
theorem itoaB_size {n : Int} (h : inI n) : (itoaB n).size ≤ 21 := by
 have := Lib.itoa_length_le n h.1 h.2
 show (Lib.itoa n).toArray.size ≤ 21
 simpa using this
abbrev bOpen : ByteArray := ⟨#[40]⟩
abbrev bClose : ByteArray := ⟨#[41]⟩
abbrev bThru : ByteArray := ⟨#[32, 116, 104, 114, 117, 32]⟩
abbrev bGroup : ByteArray := ⟨#[103, 114, 111, 117, 112, 32]⟩
abbrev bPreset : ByteArray := ⟨#[112, 114, 101, 115, 101, 116, 32]⟩
abbrev bOdd : ByteArray := ⟨#[111, 100, 100, 32]⟩
abbrev bEven : ByteArray := ⟨#[101, 118, 101, 110, 32]⟩
abbrev bBack : ByteArray := ⟨#[98, 97, 99, 107, 32]⟩
abbrev bEvery : ByteArray := ⟨#[101, 118, 101, 114, 121, 32]⟩
abbrev bFrom : ByteArray := ⟨#[32, 102, 114, 111, 109, 32]⟩
abbrev bMinus : ByteArray := ⟨#[32, 45, 32]⟩
abbrev bPlus : ByteArray := ⟨#[32, 43, 32]⟩
abbrev bBlank : ByteArray := ⟨#[32]⟩
def argT (k : Int) (s : ByteArray) : ByteArray := if k = 4 ∨ k = 5 then bOpen ++ s ++ bClose else s
def tailT (m s : ByteArray) : List ByteArray → ByteArray
 | [] => s
 | a :: l => tailT m (s ++ (m ++ a)) l
def txtF (k f t : Int) (ks : List Int) (ts : List ByteArray) : ByteArray :=
 if k = 1 then (if f = t then itoaB f else itoaB f ++ bThru ++ itoaB t)
 else if k = 2 then bGroup ++ itoaB f
 else if k = 3 then bPreset ++ itoaB f
 else if k = 6 then bOdd ++ argT (ks.headD 0) (ts.headD default)
 else if k = 7 then bEven ++ argT (ks.headD 0) (ts.headD default)
 else if k = 8 then bBack ++ argT (ks.headD 0) (ts.headD default)
 else if k = 9 then bEvery ++ itoaB f ++ bFrom ++ itoaB t ++ bBlank ++ argT (ks.headD 0) (ts.headD default)
 else tailT (if k = 5 then bMinus else bPlus) (if ks.headD 0 = 5 ∨ k = 5 then ts.headD default else argT (ks.headD 0) (ts.headD default)) (List.zipWith argT (ks.drop 1) (ts.drop 1))
mutual
def pTxt : PickD → ByteArray
 | .mk k f t l => txtF k f t (l.map PickD.kind) (pTxts l)
def pTxts : List PickD → List ByteArray
 | [] => []
 | p :: l => pTxt p :: pTxts l
end
theorem pTxts_eq : ∀ l : List PickD, pTxts l = l.map pTxt
 | [] => by rw [pTxts]; rfl
 | p :: l => by rw [pTxts, pTxts_eq l]; rfl
def pArgT (p : PickD) : ByteArray := argT p.kind (pTxt p)
theorem zip_args : ∀ l : List PickD, List.zipWith argT (l.map PickD.kind) (l.map pTxt) = l.map pArgT
 | [] => rfl
 | p :: l => by rw [List.map_cons, List.map_cons, List.zipWith_cons_cons, zip_args l]; rfl
theorem pTxt_eq (p : PickD) : pTxt p = txtF p.kind p.frm p.to (p.args.map PickD.kind) (p.args.map pTxt) := by cases p; rw [pTxt, pTxts_eq]; rfl
theorem bsz (a b : ByteArray) : (a ++ b).size = a.size + b.size := ByteArray.size_append
theorem argT_size (k : Int) (s : ByteArray) : (argT k s).size ≤ s.size + 2 := by
 unfold argT
 split
 ·rw [bsz, bsz]; show 1 + s.size + 1 ≤ _; omega
 ·omega
theorem tailT_size (m : ByteArray) : ∀ (l : List ByteArray) (s : ByteArray), (tailT m s l).size = s.size + (l.map fun a => m.size + a.size).sum
 | [], s => by simp [tailT]
 | a :: l, s => by rw [tailT, tailT_size m l, bsz, bsz, List.map_cons, List.sum_cons]; omega
theorem pChks_zero : ∀ {l : List PickD}, pChks l = 0 → ∀ x ∈ l, pChk x = 0
 | p :: l, h, x, hx => by
  rw [pChks] at h
  by_cases hp : pChk p = 0
  ·rw [if_pos hp] at h
   rcases List.mem_cons.1 hx with rfl | hx
   ·exact hp
   ·exact pChks_zero h x hx
  ·rw [if_neg hp] at h; exact absurd h hp
theorem pChk_zero {p : PickD} (h : pChk p = 0) : partF p.kind p.frm p.to p.args.length = 0 ∧ ∀ x ∈ p.args, pChk x = 0 := by
 rw [pChk_eq] at h
 by_cases hp : partF p.kind p.frm p.to p.args.length = 0
 ·rw [if_pos hp] at h; exact ⟨hp, pChks_zero h⟩
 ·rw [if_neg hp] at h; exact absurd h hp
theorem partF_zero {k f t : Int} {n : Nat} (h : partF k f t n = 0) : (1 ≤ k ∧ k ≤ 9) ∧ ¬ pkA k f t n ∧ ¬ pkB k f t := by
 unfold partF at h
 split at h
 ·cases h
 ·rename_i h1
  split at h
  ·cases h
  ·rename_i h2
   split at h
   ·cases h
   ·rename_i h3
    exact ⟨by omega, h2, h3⟩
theorem part_in {k f t : Int} {n : Nat} (h : partF k f t n = 0) : 0 ≤ f ∧ f ≤ 9999 ∧ 0 ≤ t ∧ t ≤ 9999 := by
 obtain ⟨h1, h2, h3⟩ := partF_zero h
 unfold pkA at h2; unfold pkB at h3
 have hk' : k = 1 ∨ k = 2 ∨ k = 3 ∨ k = 4 ∨ k = 5 ∨ k = 6 ∨ k = 7 ∨ k = 8 ∨ k = 9 := by omega
 rcases hk' with rfl | rfl | rfl | rfl | rfl | rfl | rfl | rfl | rfl <;> omega
theorem sum_le {f g : PickD → Nat} : ∀ {l : List PickD}, (∀ x ∈ l, f x ≤ g x) → (l.map f).sum ≤ (l.map g).sum
 | [], _ => Nat.le_refl _
 | x :: l, h => by
  rw [List.map_cons, List.map_cons, List.sum_cons, List.sum_cons]
  have := h x (by simp); have := sum_le (f := f) (g := g) (l := l) fun y hy => h y (by simp [hy])
  omega
theorem sum_70 : ∀ l : List PickD, (l.map fun x => 70 * pSize x).sum = 70 * pSizes l
 | [] => by rw [pSizes]; rfl
 | p :: l => by rw [List.map_cons, List.sum_cons, sum_70 l, pSizes]; omega
theorem pTxt_size : ∀ (n : Nat) (p : PickD), pSize p ≤ n → pChk p = 0 → (pTxt p).size + 5 ≤ 70 * pSize p
 | 0, p, h, _ => by rw [pSize_eq] at h; omega
 | n + 1, p, h, hc => by
  obtain ⟨h0, h1⟩ := pChk_zero hc
  have hin := part_in h0
  have ih : ∀ x ∈ p.args, (pTxt x).size + 5 ≤ 70 * pSize x := fun x hx => pTxt_size n x (by have := pSize_arg hx; omega) (h1 x hx)
  have hf : (itoaB p.frm).size ≤ 21 := itoaB_size (by unfold inI; omega)
  have ht : (itoaB p.to).size ≤ 21 := itoaB_size (by unfold inI; omega)
  have ha : ∀ x ∈ p.args, (pArgT x).size + 3 ≤ 70 * pSize x := fun x hx => by have := ih x hx; have := argT_size x.kind (pTxt x); unfold pArgT; omega
  rw [pTxt_eq, pSize_eq]
  have hd : ∀ x l, p.args = x :: l → (argT ((p.args.map PickD.kind).headD 0) ((p.args.map pTxt).headD default)).size + 3 ≤ 70 * pSizes p.args ∧ ((p.args.map pTxt).headD default).size + 5 ≤ 70 * pSize x := fun x l e => by
   rw [e]
   have := ha x (by rw [e]; simp); have := ih x (by rw [e]; simp)
   rw [pSizes]
   unfold pArgT at *
   simp only [List.map_cons, List.headD_cons]
   omega
  obtain ⟨hk, hA, hB⟩ := partF_zero h0
  unfold pkA at hA
  unfold txtF
  cases hargs : p.args with
  | nil =>
   rw [hargs] at hA
   simp only [List.length_nil] at hA
   by_cases k1 : p.kind = 1
   ·rw [if_pos k1]
    split
    ·omega
    ·rw [bsz, bsz]; show _ + 6 + _ + 5 ≤ _; omega
   ·rw [if_neg k1]
    by_cases k2 : p.kind = 2
    ·rw [if_pos k2, bsz]; show 6 + _ + 5 ≤ _; omega
    ·rw [if_neg k2, if_pos (by omega), bsz]; show 7 + _ + 5 ≤ _; omega
  | cons x l =>
   obtain ⟨d1, d2⟩ := hd x l hargs
   rw [hargs] at hA d1 d2 ha
   simp only [List.length_cons] at hA
   have hz : (l.map fun a => 3 + (pArgT a).size).sum ≤ 70 * pSizes l := by
    rw [← sum_70]; exact sum_le fun y hy => by have := ha y (by simp [hy]); omega
   rw [if_neg (by omega), if_neg (by omega), if_neg (by omega)]
   by_cases k6 : p.kind = 6
   ·rw [if_pos k6, bsz]; show 4 + _ + 5 ≤ _; omega
   ·rw [if_neg k6]
    by_cases k7 : p.kind = 7
    ·rw [if_pos k7, bsz]; show 5 + _ + 5 ≤ _; omega
    ·rw [if_neg k7]
     by_cases k8 : p.kind = 8
     ·rw [if_pos k8, bsz]; show 5 + _ + 5 ≤ _; omega
     ·rw [if_neg k8]
      by_cases k9 : p.kind = 9
      ·rw [if_pos k9, bsz, bsz, bsz, bsz, bsz]; show 6 + _ + 6 + _ + 1 + _ + 5 ≤ _; omega
      ·rw [if_neg k9, tailT_size]
       have hm : ∀ y : List ByteArray, (y.map fun a => (if p.kind = 5 then bMinus else bPlus).size + a.size) = y.map fun a => 3 + a.size := fun y => by
        split <;> rfl
       rw [hm]
       have e1 : List.zipWith argT (((x :: l).map PickD.kind).drop 1) (((x :: l).map pTxt).drop 1) = l.map pArgT := by
        simp only [List.map_cons, List.drop_succ_cons, List.drop_zero]; exact zip_args l
       rw [e1, List.map_map]
       have e2 : (if ((x :: l).map PickD.kind).headD 0 = 5 ∨ p.kind = 5 then ((x :: l).map pTxt).headD default else argT (((x :: l).map PickD.kind).headD 0) (((x :: l).map pTxt).headD default)).size + 3 ≤ 70 * pSize x := by
        have q := ha x (by simp)
        unfold pArgT at q
        simp only [List.map_cons, List.headD_cons] at d2 ⊢
        by_cases hq : x.kind = 5 ∨ p.kind = 5
        ·rw [if_pos hq]; omega
        ·rw [if_neg hq]; omega
       rw [pSizes]
       have e3 : ((l.map ((fun a : ByteArray => 3 + a.size) ∘ pArgT))).sum ≤ 70 * pSizes l := hz
       omega
end Go.Proofs.YtfalbgflabajbaaDoor

namespace Go.Proofs.YtfalbgflabajbaaDoor
set_option linter.unusedSectionVars false
set_option linter.unusedVariables false
set_option linter.unusedSimpArgs false
open Lib
theorem digitVal_of {k : Nat} (h : k < 10) : digitVal (UInt8.ofNat (48 + k)) = some k := by
 have e : (UInt8.ofNat (48 + k)).toNat = 48 + k := by
  rw [UInt8.toNat_ofNat']; omega
 unfold digitVal
 rw [e, if_pos (by omega)]
 congr 1; omega
theorem digB_of {k : Nat} (h : k < 10) : digB (UInt8.ofNat (48 + k)) = true := by
 have e : (UInt8.ofNat (48 + k)).toNat = 48 + k := by
  rw [UInt8.toNat_ofNat']; omega
 unfold digB
 rw [e]; simp; omega
theorem decFrom_app (l r : List UInt8) : ∀ a : Nat, decFrom a (l ++ r) = (decFrom a l).bind fun b => decFrom b r := by
 induction l with
 | nil => intro a; rfl
 | cons x l ih =>
  intro a
  rw [List.cons_append, show decFrom a (x :: (l ++ r)) = (match digitVal x with | some d => decFrom (a * 10 + d) (l ++ r) | none => none) from rfl, show decFrom a (x :: l) = (match digitVal x with | some d => decFrom (a * 10 + d) l | none => none) from rfl]
  cases digitVal x with
  | none => rfl
  | some d => exact ih _
theorem decFrom_digits (u : Nat) : decFrom 0 (decDigits u) = some u := by
 induction u using Nat.strongRecOn with
 | _ u ih =>
  by_cases h : u < 10
  ·rw [decDigits, dif_pos h]
   unfold decFrom
   rw [digitVal_of h]
   simp [decFrom]
  ·rw [decDigits, dif_neg h, decFrom_app, ih (u / 10) (by omega), Option.bind_some]
   unfold decFrom
   rw [digitVal_of (by omega)]
   simp only [decFrom]
   congr 1; omega
theorem decDigits_dig (u : Nat) : (decDigits u).all digB = true := by
 induction u using Nat.strongRecOn with
 | _ u ih =>
  by_cases h : u < 10
  ·rw [decDigits, dif_pos h, List.all_cons, digB_of h]; rfl
  ·rw [decDigits, dif_neg h, List.all_append, ih (u / 10) (by omega)]
   rw [List.all_cons, digB_of (show u % 10 < 10 by omega)]; rfl
theorem decDigits_ne (u : Nat) : decDigits u ≠ [] := by
 intro h
 have := decDigits_length u
 rw [h] at this
 have := nDigits_pos u
 simp at *; omega
theorem decDigits_head (u : Nat) (h0 : 0 < u) : (decDigits u).head? ≠ some 48 := by
 induction u using Nat.strongRecOn with
 | _ u ih =>
  by_cases h : u < 10
  ·rw [decDigits, dif_pos h]
   intro e
   simp only [List.head?_cons, Option.some.injEq] at e
   have := congrArg UInt8.toNat e
   rw [UInt8.toNat_ofNat'] at this
   simp at this; omega
  ·rw [decDigits, dif_neg h, List.head?_append]
   have hne := decDigits_ne (u / 10)
   have := ih (u / 10) (by omega) (by omega)
   cases hd : (decDigits (u / 10)).head? with
   | none => rw [List.head?_eq_none_iff] at hd; exact absurd hd hne
   | some x => rw [hd] at this; simpa using this
theorem decNat_digits (u : Nat) : decNat (decDigits u) = some u := by
 unfold decNat
 rw [if_neg (by simpa using decDigits_ne u), decFrom_digits]
theorem itoaB_nat (u : Nat) : itoaB (u : Int) = bZ (decDigits u) := by
 unfold itoaB itoa bZ
 rw [if_neg (by omega), Int.toNat_natCast]
theorem lZ_bZ (l : List UInt8) : lZ (bZ l) = l := by simp [bZ]
theorem bZ_lZ (s : ByteArray) : bZ (lZ s) = s := by simp [bZ]
theorem bZ_size (l : List UInt8) : (bZ l).size = l.length := by simp [bZ, ByteArray.size]
theorem nDigits_le {u k : Nat} (h : u < 10 ^ k) (hk : 1 ≤ k) : nDigits u ≤ k := by
 induction k generalizing u with
 | zero => omega
 | succ k ih =>
  by_cases hu : u < 10
  ·rw [nDigits_small hu]; omega
  ·rw [nDigits_big hu]
   by_cases hk0 : k = 0
   ·subst hk0; simp at h; omega
   ·have := ih (u := u / 10) (by rw [Nat.pow_succ] at h; omega) (by omega)
    omega
theorem numZ_itoa {n : Int} {k : Nat} (h0 : 0 ≤ n) (h1 : n < (10 ^ k : Nat)) (hk : 1 ≤ k) : numZ (itoaB n) k = (n, true) := by
 obtain ⟨u, rfl⟩ := Int.eq_ofNat_of_zero_le h0
 have hu : u < 10 ^ k := by exact_mod_cast h1
 rw [itoaB_nat]
 unfold numZ digZ
 rw [lZ_bZ, bZ_size, decDigits_length, decNat_digits]
 have hd := decDigits_dig u
 have hl := nDigits_le hu hk
 rw [if_neg]
 ·rfl
 ·rintro (h | h | ⟨h, h2⟩)
  ·rw [hd] at h
   have := decDigits_ne u
   simp at h
   exact this h
  ·omega
  ·by_cases hz : u = 0
   ·subst hz
    rw [nDigits_small (by decide)] at h; omega
   ·exact decDigits_head u (by omega) h2
end Go.Proofs.YtfalbgflabajbaaDoor

namespace Go.Proofs.YtfalbgflabajbaaDoor
set_option linter.unusedSectionVars false
set_option linter.unusedVariables false
set_option linter.unusedSimpArgs false
def AgP {α : Type} (r : PR α) (x : α) (l : List TokD) : Prop := r = .out ∨ r = .ok x l
theorem AgP.bind {α β : Type} {r : PR α} {y : α} {m : List TokD} {k : α → List TokD → PR β} {x : β} {l : List TokD} (h : AgP r y m) (hk : AgP (k y m) x l) : AgP (r.bind k) x l := by
 rcases h with rfl | rfl
 ·exact .inl rfl
 ·exact hk
def IsW (L : List TokD) (ws : List (List UInt8)) : Prop := L.map TokD.text = ws ∧ ∀ t ∈ L, t.touch = false
theorem IsW.cons {L : List TokD} {w : List UInt8} {ws : List (List UInt8)} (h : IsW L (w :: ws)) : ∃ t L', L = t :: L' ∧ t.text = w ∧ t.touch = false ∧ IsW L' ws := by
 obtain ⟨h1, h2⟩ := h
 cases L with
 | nil => cases h1
 | cons t L' =>
  injection h1 with h3 h4
  exact ⟨t, L', rfl, h3, h2 t List.mem_cons_self, h4, fun x hx => h2 x (List.mem_cons_of_mem _ hx)⟩
theorem IsW.nil {L : List TokD} (h : IsW L []) : L = [] := List.map_eq_nil_iff.1 h.1
theorem IsW.app {L : List TokD} {a b : List (List UInt8)} (h : IsW L (a ++ b)) : ∃ L1 L2, L = L1 ++ L2 ∧ IsW L1 a ∧ IsW L2 b := by
 obtain ⟨h1, h2⟩ := h
 obtain ⟨L1, L2, rfl, h3, h4⟩ := List.map_eq_append_iff.1 h1
 exact ⟨L1, L2, rfl, ⟨h3, fun t ht => h2 t (List.mem_append_left _ ht)⟩, ⟨h4, fun t ht => h2 t (List.mem_append_right _ ht)⟩⟩
theorem tak_y {s : List UInt8} {t : TokD} {r : List TokD} (h1 : t.text = s) (h2 : t.touch = false) : takP s (t :: r) = some r := by
 exact if_pos ⟨h1, h2⟩
theorem tak_n {s : List UInt8} {t : TokD} {r : List TokD} (h1 : t.text ≠ s) : takP s (t :: r) = none := by
 exact if_neg (fun h => h1 h.1)
def dW (n : Int) : List UInt8 := lZ (itoaB n)
theorem dW_dig {n : Int} (h : 0 ≤ n) : (dW n).all digB = true ∧ dW n ≠ [] := by
 obtain ⟨m, rfl⟩ := Int.eq_ofNat_of_zero_le h
 unfold dW
 rw [itoaB_nat, lZ_bZ]
 exact ⟨decDigits_dig m, decDigits_ne m⟩
theorem dW_key {n : Int} (h : 0 ≤ n) {b : UInt8} {r : List UInt8} (hb : digB b = false) : dW n ≠ b :: r := by
 intro e
 obtain ⟨h1, _⟩ := dW_dig h
 rw [e, List.all_cons, hb] at h1
 cases h1
theorem num_ok {n : Int} (h : 1 ≤ n ∧ n ≤ 9999) {t : TokD} {r : List TokD} (h1 : t.text = dW n) (h2 : t.touch = false) : numP (t :: r) = .ok n r := by
 have hz : numZ (bZ (dW n)) 9 = (n, true) := by
  unfold dW
  rw [bZ_lZ]
  have e9 : ((10 ^ 9 : Nat) : Int) = 1000000000 := by decide
  have := numZ_itoa (n := n) (k := 9) (by omega) (by omega) (by omega)
  exact this
 simp only [numP, h1, hz, h2]
 simp
def argW (k : Int) (s : List (List UInt8)) : List (List UInt8) := if k = 4 ∨ k = 5 then wOpen :: (s ++ [wShut]) else s
def wdsF (k f t : Int) (ks : List Int) (ts : List (List (List UInt8))) : List (List UInt8) :=
 if k = 1 then (if f = t then [dW f] else [dW f, wThru, dW t])
 else if k = 2 then [wGroup, dW f]
 else if k = 3 then [wPreset, dW f]
 else if k = 6 then wOdd :: argW (ks.headD 0) (ts.headD [])
 else if k = 7 then wEven :: argW (ks.headD 0) (ts.headD [])
 else if k = 8 then wBk :: argW (ks.headD 0) (ts.headD [])
 else if k = 9 then wEvery :: dW f :: wFrom :: dW t :: argW (ks.headD 0) (ts.headD [])
 else (if ks.headD 0 = 5 ∨ k = 5 then ts.headD [] else argW (ks.headD 0) (ts.headD [])) ++ (List.zipWith argW (ks.drop 1) (ts.drop 1)).flatMap fun a => (if k = 5 then wMinus else wPlus) :: a
mutual
def pWds : PickD → List (List UInt8)
 | .mk k f t l => wdsF k f t (l.map PickD.kind) (pWdss l)
def pWdss : List PickD → List (List (List UInt8))
 | [] => []
 | p :: l => pWds p :: pWdss l
end
theorem pWdss_eq : ∀ l : List PickD, pWdss l = l.map pWds
 | [] => by rw [pWdss]; rfl
 | p :: l => by rw [pWdss, pWdss_eq l]; rfl
def pArgW (p : PickD) : List (List UInt8) := argW p.kind (pWds p)
theorem zip_argW : ∀ l : List PickD, List.zipWith argW (l.map PickD.kind) (l.map pWds) = l.map pArgW
 | [] => rfl
 | p :: l => by rw [List.map_cons, List.map_cons, List.zipWith_cons_cons, zip_argW l]; rfl
theorem pWds_eq (p : PickD) : pWds p = wdsF p.kind p.frm p.to (p.args.map PickD.kind) (p.args.map pWds) := by cases p; rw [pWds, pWdss_eq]; rfl
theorem pk_form {p : PickD} (hc : pChk p = 0) : (∃ f t, p = .mk 1 f t [] ∧ (1 ≤ f ∧ f ≤ 9999) ∧ 1 ≤ t ∧ t ≤ 9999) ∨ (∃ f, p = .mk 2 f 0 [] ∧ 1 ≤ f ∧ f ≤ 9999) ∨ (∃ f, p = .mk 3 f 0 [] ∧ 1 ≤ f ∧ f ≤ 9999) ∨ (∃ x y az, p = .mk 4 0 0 (x :: y :: az)) ∨ (∃ x y, p = .mk 5 0 0 [x, y]) ∨ (∃ k x, p = .mk k 0 0 [x] ∧ (k = 6 ∨ k = 7 ∨ k = 8)) ∨ (∃ f t x, p = .mk 9 f t [x] ∧ (1 ≤ f ∧ f ≤ 9999) ∧ 1 ≤ t ∧ t ≤ 9999) := by
 obtain ⟨h0, _⟩ := pChk_zero hc
 obtain ⟨k, f, t, l⟩ := p
 have h0 : partF k f t l.length = 0 := h0
 obtain ⟨hk, hA, hB⟩ := partF_zero h0
 unfold pkA at hA
 unfold pkB at hB
 have hk' : k = 1 ∨ k = 2 ∨ k = 3 ∨ k = 4 ∨ k = 5 ∨ k = 6 ∨ k = 7 ∨ k = 8 ∨ k = 9 := by omega
 have h00 : l.length = 0 → l = [] := List.length_eq_zero_iff.1
 have h11 : l.length = 1 → ∃ x, l = [x] := List.length_eq_one_iff.1
 rcases hk' with rfl | rfl | rfl | rfl | rfl | rfl | rfl | rfl | rfl
 ·obtain rfl := h00 (by omega)
  exact .inl ⟨f, t, rfl, by omega, by omega⟩
 ·obtain rfl := h00 (by omega)
  obtain rfl : t = 0 := by omega
  exact .inr (.inl ⟨f, rfl, by omega⟩)
 ·obtain rfl := h00 (by omega)
  obtain rfl : t = 0 := by omega
  exact .inr (.inr (.inl ⟨f, rfl, by omega⟩))
 ·obtain rfl : t = 0 := by omega
  obtain rfl : f = 0 := by omega
  match l, hA with
  | x :: y :: az, _ => exact .inr (.inr (.inr (.inl ⟨x, y, az, rfl⟩)))
  | [x], hA => simp at hA
  | [], hA => simp at hA
 ·obtain rfl : t = 0 := by omega
  obtain rfl : f = 0 := by omega
  match l, hA with
  | [x, y], _ => exact .inr (.inr (.inr (.inr (.inl ⟨x, y, rfl⟩))))
  | x :: y :: z :: az, hA => simp at hA
  | [x], hA => simp at hA
  | [], hA => simp at hA
 ·obtain rfl : t = 0 := by omega
  obtain rfl : f = 0 := by omega
  obtain ⟨x, rfl⟩ := h11 (by omega)
  exact .inr (.inr (.inr (.inr (.inr (.inl ⟨6, x, rfl, .inl rfl⟩)))))
 ·obtain rfl : t = 0 := by omega
  obtain rfl : f = 0 := by omega
  obtain ⟨x, rfl⟩ := h11 (by omega)
  exact .inr (.inr (.inr (.inr (.inr (.inl ⟨7, x, rfl, .inr (.inl rfl)⟩)))))
 ·obtain rfl : t = 0 := by omega
  obtain rfl : f = 0 := by omega
  obtain ⟨x, rfl⟩ := h11 (by omega)
  exact .inr (.inr (.inr (.inr (.inr (.inl ⟨8, x, rfl, .inr (.inr rfl)⟩)))))
 ·obtain ⟨x, rfl⟩ := h11 (by omega)
  exact .inr (.inr (.inr (.inr (.inr (.inr ⟨f, t, x, rfl, by omega, by omega⟩)))))
end Go.Proofs.YtfalbgflabajbaaDoor

namespace Go.Proofs.YtfalbgflabajbaaDoor
set_option linter.unusedSectionVars false
set_option linter.unusedVariables false
set_option linter.unusedSimpArgs false
theorem dw_n {n : Int} (s : List UInt8) (h : 1 ≤ n ∧ n ≤ 9999) {t : TokD} {r : List TokD} (h1 : t.text = dW n) (hs : ∃ b w, s = b :: w ∧ digB b = false) : takP s (t :: r) = none := by
 obtain ⟨b, w, rfl, hb⟩ := hs
 exact tak_n (by rw [h1]; exact dW_key (by omega) hb)
def PartOk (p : PickD) : Prop := ∀ (f deep : Nat) (L rest : List TokD), IsW L (pArgW p) → deep + 2 * pDeep p ≤ 100 → takP wThru rest = none → AgP (parP f deep (L ++ rest)) p rest
def WholeOk (p : PickD) : Prop := ∀ (f deep : Nat) (L rest : List TokD) (x : PickD) (m : List TokD), IsW L (pWds p) → deep + 2 * pDeep p ≤ 101 → takP wThru rest = none → (∀ g, AgP (rowP g deep p (decide (p.kind = 4)) rest) x m) → AgP (whlP f deep (L ++ rest)) x m
def BareOk (p : PickD) : Prop := ∀ (f deep : Nat) (L rest : List TokD), IsW L (pWds p) → deep + 2 * pDeep p ≤ 101 → takP wThru rest = none → AgP (parP f deep (L ++ rest)) p rest
theorem whole_bare {p : PickD} (h : BareOk p) (hk : p.kind ≠ 4) : WholeOk p := by
 intro f deep L rest x m hL hd hr hk2
 cases f with
 | zero => rw [whlP]; exact .inl rfl
 | succ f =>
  rw [whlP]
  have := hk2 f
  rw [decide_eq_false hk] at this
  exact AgP.bind (h f deep L rest hL hd hr) this
theorem part_bare {p : PickD} (h : BareOk p) (hk : ¬ (p.kind = 4 ∨ p.kind = 5)) : PartOk p := by
 intro f deep L rest hL hd hr
 refine h f deep L rest ?_ (by omega) hr
 unfold pArgW argW at hL
 rwa [if_neg hk] at hL
theorem part_shut {p : PickD} (h : WholeOk p) (hk : p.kind = 4 ∨ p.kind = 5) : PartOk p := by
 intro f deep L rest hL hd hr
 unfold pArgW argW at hL
 rw [if_pos hk] at hL
 obtain ⟨t, L1, rfl, h1, h2, hL1⟩ := hL.cons
 obtain ⟨L2, L3, rfl, hL2, hL3⟩ := hL1.app
 obtain ⟨u, L4, rfl, h3, h4, hL4⟩ := hL3.cons
 obtain rfl := hL4.nil
 cases f with
 | zero => rw [parP]; exact .inl rfl
 | succ f =>
  rw [parP, List.cons_append, tak_n (s := wGroup) (by rw [h1]; decide), tak_n (s := wPreset) (by rw [h1]; decide), tak_y h1 h2]
  simp only
  rw [if_neg (by have := pDeep_pos p; omega)]
  have hap : L2 ++ [u] ++ rest = L2 ++ (u :: rest) := by simp
  rw [hap]
  have hw := h f (deep + 1) L2 (u :: rest) p (u :: rest) hL2 (by omega) (tak_n (by rw [h3]; decide)) (fun g => by
   cases g with
   | zero => rw [rowP]; exact .inl rfl
   | succ g =>
    rw [rowP, tak_n (s := wPlus) (by rw [h3]; decide), tak_n (s := wMinus) (by rw [h3]; decide)]
    exact .inr rfl)
  refine AgP.bind hw ?_
  rw [tak_y h3 h4]
  exact .inr rfl
theorem bare_units {f t : Int} (hf : 1 ≤ f ∧ f ≤ 9999) (ht : 1 ≤ t ∧ t ≤ 9999) : BareOk (.mk 1 f t []) := by
 intro n deep L rest hL hd hr
 rw [pWds_eq] at hL
 replace hL : IsW L (if f = t then [dW f] else [dW f, wThru, dW t]) := hL
 cases n with
 | zero => rw [parP]; exact .inl rfl
 | succ n =>
  by_cases hft : f = t
  ·subst hft
   rw [if_pos rfl] at hL
   obtain ⟨a, L1, rfl, h1, h2, hL1⟩ := hL.cons
   obtain rfl := hL1.nil
   rw [parP, List.cons_append, List.nil_append, dw_n wGroup hf h1 ⟨_, _, rfl, by decide⟩, dw_n wPreset hf h1 ⟨_, _, rfl, by decide⟩, dw_n wOpen hf h1 ⟨_, _, rfl, by decide⟩, dw_n wOdd hf h1 ⟨_, _, rfl, by decide⟩, dw_n wEven hf h1 ⟨_, _, rfl, by decide⟩, dw_n wBk hf h1 ⟨_, _, rfl, by decide⟩, dw_n wEvery hf h1 ⟨_, _, rfl, by decide⟩, num_ok hf h1 h2]
   simp only [PR.bind]
   rw [hr]
   exact .inr rfl
  ·rw [if_neg hft] at hL
   obtain ⟨a, L1, rfl, h1, h2, hL1⟩ := hL.cons
   obtain ⟨b, L2, rfl, h3, h4, hL2⟩ := hL1.cons
   obtain ⟨c, L3, rfl, h5, h6, hL3⟩ := hL2.cons
   obtain rfl := hL3.nil
   rw [parP, List.cons_append, List.cons_append, List.cons_append, List.nil_append, dw_n wGroup hf h1 ⟨_, _, rfl, by decide⟩, dw_n wPreset hf h1 ⟨_, _, rfl, by decide⟩, dw_n wOpen hf h1 ⟨_, _, rfl, by decide⟩, dw_n wOdd hf h1 ⟨_, _, rfl, by decide⟩, dw_n wEven hf h1 ⟨_, _, rfl, by decide⟩, dw_n wBk hf h1 ⟨_, _, rfl, by decide⟩, dw_n wEvery hf h1 ⟨_, _, rfl, by decide⟩, num_ok hf h1 h2]
   simp only [PR.bind]
   rw [tak_y h3 h4]
   simp only
   rw [num_ok ht h5 h6]
   simp only
   rw [if_neg (fun e => hft e.symm)]
   exact .inr rfl
theorem bare_group {f : Int} (hf : 1 ≤ f ∧ f ≤ 9999) : BareOk (.mk 2 f 0 []) := by
 intro n deep L rest hL hd hr
 rw [pWds_eq] at hL
 replace hL : IsW L [wGroup, dW f] := hL
 obtain ⟨a, L1, rfl, h1, h2, hL1⟩ := hL.cons
 obtain ⟨b, L2, rfl, h3, h4, hL2⟩ := hL1.cons
 obtain rfl := hL2.nil
 cases n with
 | zero => rw [parP]; exact .inl rfl
 | succ n =>
  rw [parP, List.cons_append, List.cons_append, List.nil_append, tak_y h1 h2]
  simp only
  rw [num_ok hf h3 h4]
  exact .inr rfl
theorem bare_preset {f : Int} (hf : 1 ≤ f ∧ f ≤ 9999) : BareOk (.mk 3 f 0 []) := by
 intro n deep L rest hL hd hr
 rw [pWds_eq] at hL
 replace hL : IsW L [wPreset, dW f] := hL
 obtain ⟨a, L1, rfl, h1, h2, hL1⟩ := hL.cons
 obtain ⟨b, L2, rfl, h3, h4, hL2⟩ := hL1.cons
 obtain rfl := hL2.nil
 cases n with
 | zero => rw [parP]; exact .inl rfl
 | succ n =>
  rw [parP, List.cons_append, List.cons_append, List.nil_append, tak_n (s := wGroup) (by rw [h1]; decide), tak_y h1 h2]
  simp only
  rw [num_ok hf h3 h4]
  exact .inr rfl
theorem pref_ok {k f t : Int} {x : PickD} (hx : PartOk x) {n deep : Nat} {L rest : List TokD} (hL : IsW L (pArgW x)) (hd : deep + 2 * (1 + pDeep x) ≤ 101) (hr : takP wThru rest = none) : AgP (prfP n deep (.mk k f t []) (L ++ rest)) (.mk k f t [x]) rest := by
 cases n with
 | zero => rw [prfP]; exact .inl rfl
 | succ n =>
  rw [prfP, if_neg (by omega)]
  exact AgP.bind (hx n (deep + 1) L rest hL (by omega) hr) (.inr rfl)
theorem deep_one (k f t : Int) (x : PickD) : pDeep (.mk k f t [x]) = 1 + pDeep x := by rw [pDeep, pDeeps, pDeeps]; omega
theorem bare_pref {k : Int} {x : PickD} (hk : k = 6 ∨ k = 7 ∨ k = 8) (hx : PartOk x) : BareOk (.mk k 0 0 [x]) := by
 intro n deep L rest hL hd hr
 rw [deep_one] at hd
 rw [pWds_eq] at hL
 cases n with
 | zero => rw [parP]; exact .inl rfl
 | succ n =>
  rcases hk with rfl | rfl | rfl
  ·replace hL : IsW L (wOdd :: pArgW x) := hL
   obtain ⟨a, L1, rfl, h1, h2, hL1⟩ := hL.cons
   rw [parP, List.cons_append, tak_n (s := wGroup) (by rw [h1]; decide), tak_n (s := wPreset) (by rw [h1]; decide), tak_n (s := wOpen) (by rw [h1]; decide), tak_y h1 h2]
   exact pref_ok hx hL1 hd hr
  ·replace hL : IsW L (wEven :: pArgW x) := hL
   obtain ⟨a, L1, rfl, h1, h2, hL1⟩ := hL.cons
   rw [parP, List.cons_append, tak_n (s := wGroup) (by rw [h1]; decide), tak_n (s := wPreset) (by rw [h1]; decide), tak_n (s := wOpen) (by rw [h1]; decide), tak_n (s := wOdd) (by rw [h1]; decide), tak_y h1 h2]
   exact pref_ok hx hL1 hd hr
  ·replace hL : IsW L (wBk :: pArgW x) := hL
   obtain ⟨a, L1, rfl, h1, h2, hL1⟩ := hL.cons
   rw [parP, List.cons_append, tak_n (s := wGroup) (by rw [h1]; decide), tak_n (s := wPreset) (by rw [h1]; decide), tak_n (s := wOpen) (by rw [h1]; decide), tak_n (s := wOdd) (by rw [h1]; decide), tak_n (s := wEven) (by rw [h1]; decide), tak_y h1 h2]
   exact pref_ok hx hL1 hd hr
theorem bare_every {f t : Int} (hf : 1 ≤ f ∧ f ≤ 9999) (ht : 1 ≤ t ∧ t ≤ 9999) {x : PickD} (hx : PartOk x) : BareOk (.mk 9 f t [x]) := by
 intro n deep L rest hL hd hr
 rw [deep_one] at hd
 rw [pWds_eq] at hL
 replace hL : IsW L (wEvery :: dW f :: wFrom :: dW t :: pArgW x) := hL
 obtain ⟨a, L1, rfl, h1, h2, hL1⟩ := hL.cons
 obtain ⟨b, L2, rfl, h3, h4, hL2⟩ := hL1.cons
 obtain ⟨c, L3, rfl, h5, h6, hL3⟩ := hL2.cons
 obtain ⟨d, L4, rfl, h7, h8, hL4⟩ := hL3.cons
 cases n with
 | zero => rw [parP]; exact .inl rfl
 | succ n =>
  rw [parP, List.cons_append, List.cons_append, List.cons_append, List.cons_append, tak_n (s := wGroup) (by rw [h1]; decide), tak_n (s := wPreset) (by rw [h1]; decide), tak_n (s := wOpen) (by rw [h1]; decide), tak_n (s := wOdd) (by rw [h1]; decide), tak_n (s := wEven) (by rw [h1]; decide), tak_n (s := wBk) (by rw [h1]; decide), tak_y h1 h2]
  simp only
  rw [if_neg (by have := pDeep_pos x; omega), num_ok hf h3 h4]
  simp only [PR.bind]
  rw [tak_y h5 h6]
  simp only
  rw [num_ok ht h7 h8]
  exact pref_ok hx hL4 hd hr
theorem rows_ok {deep : Nat} {rest : List TokD} {X : PickD} {m : List TokD} (hr : takP wThru rest = none) : ∀ (az acc : List PickD) (L : List TokD), (∀ a ∈ az, PartOk a ∧ deep + 2 * pDeep a ≤ 100) → IsW L (az.flatMap fun a => wPlus :: pArgW a) → (∀ g, AgP (rowP g deep (.mk 4 0 0 (acc ++ az)) true rest) X m) → ∀ g, AgP (rowP g deep (.mk 4 0 0 acc) true (L ++ rest)) X m
 | [], acc, L, _, hL, h, g => by
  obtain rfl := hL.nil
  have := h g
  rwa [List.append_nil] at this
 | a :: az, acc, L, ha, hL, h, g => by
  rw [List.flatMap_cons, List.cons_append] at hL
  obtain ⟨t, L1, rfl, h1, h2, hL1⟩ := hL.cons
  obtain ⟨L2, L3, rfl, hL2, hL3⟩ := hL1.app
  cases g with
  | zero => rw [rowP]; exact .inl rfl
  | succ g =>
   rw [rowP, List.cons_append, tak_y h1 h2, List.append_assoc]
   have hthru : takP wThru (L3 ++ rest) = none := by
    cases az with
    | nil => obtain rfl := IsW.nil hL3; exact hr
    | cons b az =>
     rw [List.flatMap_cons, List.cons_append] at hL3
     obtain ⟨u, L4, rfl, h3, h4, hL4⟩ := hL3.cons
     exact tak_n (by rw [h3]; decide)
   refine AgP.bind ((ha a List.mem_cons_self).1 g deep L2 (L3 ++ rest) hL2 (ha a List.mem_cons_self).2 hthru) ?_
   exact rows_ok hr az (acc ++ [a]) L3 (fun b hb => ha b (List.mem_cons_of_mem _ hb)) hL3 (fun g => by have := h g; rwa [List.append_assoc]) g
theorem first_ok {x : PickD} (hp : PartOk x) (hw : WholeOk x) {f deep : Nat} {L rest : List TokD} {X : PickD} {m : List TokD} (hL : IsW L (if x.kind = 5 then pWds x else pArgW x)) (hd : deep + 2 * pDeep x ≤ 100) (hr : takP wThru rest = none) (h : ∀ g, AgP (rowP g deep x false rest) X m) : AgP (whlP f deep (L ++ rest)) X m := by
 by_cases hk : x.kind = 5
 ·rw [if_pos hk] at hL
  refine hw f deep L rest X m hL (by omega) hr ?_
  rw [decide_eq_false (by omega)]
  exact h
 ·rw [if_neg hk] at hL
  cases f with
  | zero => rw [whlP]; exact .inl rfl
  | succ f =>
   rw [whlP]
   exact AgP.bind (hp f deep L rest hL hd hr) (h f)
theorem deep_arg {p x : PickD} (h : x ∈ p.args) : 1 + pDeep x ≤ pDeep p := by
 have h1 := pDeep_eq p
 have := pDeeps_mem h
 omega
theorem whole_join {x y : PickD} {az : List PickD} (hx : PartOk x ∧ WholeOk x) (ha : ∀ a ∈ y :: az, PartOk a) : WholeOk (.mk 4 0 0 (x :: y :: az)) := by
 intro f deep L rest X m hL hd hr h
 have hdx : ∀ a ∈ x :: y :: az, 1 + pDeep a ≤ pDeep (.mk 4 0 0 (x :: y :: az)) := fun a h => deep_arg (p := .mk 4 0 0 (x :: y :: az)) h
 rw [pWds_eq] at hL
 have e : wdsF 4 0 0 ((x :: y :: az).map PickD.kind) ((x :: y :: az).map pWds) = (if x.kind = 5 then pWds x else pArgW x) ++ ((y :: az).flatMap fun a => wPlus :: pArgW a) := by
  show (if x.kind = 5 ∨ (4 : Int) = 5 then pWds x else argW x.kind (pWds x)) ++ (List.zipWith argW ((y :: az).map PickD.kind) ((y :: az).map pWds)).flatMap (fun a => wPlus :: a) = _
  rw [zip_argW, List.flatMap_map]
  have : (x.kind = 5 ∨ (4 : Int) = 5) ↔ x.kind = 5 := ⟨fun h => h.elim id (fun h => by omega), .inl⟩
  simp only [this]
  rfl
 replace hL : IsW L (wdsF 4 0 0 ((x :: y :: az).map PickD.kind) ((x :: y :: az).map pWds)) := hL
 rw [e] at hL
 obtain ⟨L1, L2, rfl, hL1, hL2⟩ := hL.app
 rw [List.flatMap_cons, List.cons_append] at hL2
 obtain ⟨t, L3, rfl, h1, h2, hL3⟩ := hL2.cons
 obtain ⟨L4, L5, rfl, hL4, hL5⟩ := hL3.app
 rw [List.append_assoc, List.cons_append, List.append_assoc]
 refine first_ok hx.1 hx.2 hL1 (by have := hdx x List.mem_cons_self; omega) (tak_n (by rw [h1]; decide)) fun g => ?_
 cases g with
 | zero => rw [rowP]; exact .inl rfl
 | succ g =>
  rw [rowP, tak_y h1 h2]
  have hthru : takP wThru (L5 ++ rest) = none := by
   cases az with
   | nil => obtain rfl := IsW.nil hL5; exact hr
   | cons b az =>
    rw [List.flatMap_cons, List.cons_append] at hL5
    obtain ⟨u, L6, rfl, h3, h4, hL6⟩ := hL5.cons
    exact tak_n (by rw [h3]; decide)
  refine AgP.bind (ha y List.mem_cons_self g deep L4 (L5 ++ rest) hL4 (by have := hdx y (List.mem_cons_of_mem _ List.mem_cons_self); omega) hthru) ?_
  exact rows_ok hr az [x, y] L5 (fun a h => ⟨ha a (List.mem_cons_of_mem _ h), by have := hdx a (List.mem_cons_of_mem _ (List.mem_cons_of_mem _ h)); omega⟩) hL5 (fun g => h g) g
theorem whole_less {x y : PickD} (hx : WholeOk x) (hy : PartOk y) : WholeOk (.mk 5 0 0 [x, y]) := by
 intro f deep L rest X m hL hd hr h
 have hdx : ∀ a ∈ [x, y], 1 + pDeep a ≤ pDeep (.mk 5 0 0 [x, y]) := fun a h => deep_arg (p := .mk 5 0 0 [x, y]) h
 rw [pWds_eq] at hL
 have e : wdsF 5 0 0 ([x, y].map PickD.kind) ([x, y].map pWds) = pWds x ++ (wMinus :: pArgW y) := by
  show (if x.kind = 5 ∨ (5 : Int) = 5 then pWds x else argW x.kind (pWds x)) ++ (List.zipWith argW ([y].map PickD.kind) ([y].map pWds)).flatMap (fun a => wMinus :: a) = _
  rw [if_pos (.inr rfl), zip_argW]
  simp
 replace hL : IsW L (wdsF 5 0 0 ([x, y].map PickD.kind) ([x, y].map pWds)) := hL
 rw [e] at hL
 obtain ⟨L1, L2, rfl, hL1, hL2⟩ := hL.app
 obtain ⟨t, L3, rfl, h1, h2, hL3⟩ := hL2.cons
 rw [List.append_assoc, List.cons_append]
 refine hx f deep L1 _ X m hL1 (by have := hdx x List.mem_cons_self; omega) (tak_n (by rw [h1]; decide)) fun g => ?_
 cases g with
 | zero => rw [rowP]; exact .inl rfl
 | succ g =>
  rw [rowP, tak_n (s := wPlus) (by rw [h1]; decide), tak_y h1 h2]
  exact AgP.bind (hy g deep L3 rest hL3 (by have := hdx y (List.mem_cons_of_mem _ List.mem_cons_self); omega) hr) (h g)
theorem par_ok : ∀ (n : Nat) (p : PickD), pSize p ≤ n → pChk p = 0 → PartOk p ∧ WholeOk p
 | 0, p, h, _ => by rw [pSize_eq] at h; omega
 | n + 1, p, h, hc => by
  have ih : ∀ x ∈ p.args, PartOk x ∧ WholeOk x := fun x hx => par_ok n x (by have := pSize_arg hx; omega) ((pChk_zero hc).2 x hx)
  rcases pk_form hc with ⟨f, t, rfl, h1, h2⟩ | ⟨f, rfl, h1⟩ | ⟨f, rfl, h1⟩ | ⟨x, y, az, rfl⟩ | ⟨x, y, rfl⟩ | ⟨k, x, rfl, h1⟩ | ⟨f, t, x, rfl, h1, h2⟩
  ·have b := bare_units h1 h2
   exact ⟨part_bare b (by show ¬ ((1 : Int) = 4 ∨ (1 : Int) = 5); omega), whole_bare b (by show (1 : Int) ≠ 4; omega)⟩
  ·have b := bare_group h1
   exact ⟨part_bare b (by show ¬ ((2 : Int) = 4 ∨ (2 : Int) = 5); omega), whole_bare b (by show (2 : Int) ≠ 4; omega)⟩
  ·have b := bare_preset h1
   exact ⟨part_bare b (by show ¬ ((3 : Int) = 4 ∨ (3 : Int) = 5); omega), whole_bare b (by show (3 : Int) ≠ 4; omega)⟩
  ·have w := whole_join (az := az) (ih x List.mem_cons_self) (fun a ha => (ih a (List.mem_cons_of_mem _ ha)).1)
   exact ⟨part_shut w (.inl rfl), w⟩
  ·have w := whole_less (ih x List.mem_cons_self).2 (ih y (List.mem_cons_of_mem _ List.mem_cons_self)).1
   exact ⟨part_shut w (.inr rfl), w⟩
  ·have b := bare_pref h1 (ih x List.mem_cons_self).1
   exact ⟨part_bare b (by show ¬ (k = 4 ∨ k = 5); omega), whole_bare b (by show k ≠ 4; omega)⟩
  ·have b := bare_every h1 h2 (ih x List.mem_cons_self).1
   exact ⟨part_bare b (by show ¬ ((9 : Int) = 4 ∨ (9 : Int) = 5); omega), whole_bare b (by show (9 : Int) ≠ 4; omega)⟩
theorem whl_ok {p : PickD} (hc : pChk p = 0) (hd : pDeep p ≤ 12) {L : List TokD} {n f : Nat} (hL : IsW L (pWds p)) (hf : 2 * L.length + 4 ≤ f) : whlP f 0 (L ++ [⟨[], n, false⟩]) = .ok p [⟨[], n, false⟩] := by
 have h := (par_ok (pSize p) p (Nat.le_refl _) hc).2 f 0 L [⟨[], n, false⟩] p [⟨[], n, false⟩] hL (by omega) (tak_n (show ([] : List UInt8) ≠ wThru by decide)) (fun g => by
  cases g with
  | zero => rw [rowP]; exact .inl rfl
  | succ g =>
   rw [rowP, tak_n (s := wPlus) (show ([] : List UInt8) ≠ wPlus by decide), tak_n (s := wMinus) (show ([] : List UInt8) ≠ wMinus by decide)]
   exact .inr rfl)
 rcases h with h | h
 ·exact absurd h ((par_fuel f).2.1 0 _ (by simp; omega))
 ·exact h
end Go.Proofs.YtfalbgflabajbaaDoor

namespace Go.Proofs.YtfalbgflabajbaaDoor
set_option linter.unusedSectionVars false
set_option linter.unusedVariables false
set_option linter.unusedSimpArgs false
def Seg (l : List UInt8) (ws : List (List UInt8)) : Prop := ∀ (rest : List UInt8) (f pos : Nat), (rest = [] ∨ ∃ c r, rest = c :: r ∧ clsB c = 0) → (l ++ rest).length ≤ f → ∃ L f' pos' prev', toksI f pos 0 (l ++ rest) = L ++ toksI f' pos' prev' rest ∧ IsW L ws ∧ rest.length ≤ f'
theorem IsW.join {L M : List TokD} {a b : List (List UInt8)} (h : IsW L a) (k : IsW M b) : IsW (L ++ M) (a ++ b) :=
 ⟨by rw [List.map_append, h.1, k.1], fun t ht => (List.mem_append.1 ht).elim (h.2 t) (k.2 t)⟩
theorem Seg.word {b : UInt8} {r : List UInt8} (hb : 0 < clsB b) (hr : ∀ c ∈ r, clsB c = clsB b) : Seg (b :: r) [b :: r] := by
 intro rest f pos hrest hf
 have hb32 : b ≠ 32 := fun e => by rw [e] at hb; exact absurd hb (by decide)
 cases f with
 | zero => simp at hf
 | succ f =>
  have hrun : runB b (r ++ rest) = r.length := by
   unfold runB
   rw [if_neg (by omega), List.takeWhile_append_of_pos (fun c hc => decide_eq_true (hr c hc))]
   have : rest.takeWhile (fun c => decide (clsB c = clsB b)) = [] := by
    rcases hrest with rfl | ⟨c, s, rfl, hc⟩
    ·rfl
    ·rw [List.takeWhile_cons, decide_eq_false (by omega)]; rfl
   rw [this, List.append_nil]
  refine ⟨[⟨b :: r, pos, false⟩], f, pos + r.length + 1, clsB b, ?_, ⟨rfl, fun t ht => by rw [List.mem_singleton.1 ht]⟩, ?_⟩
  ·rw [List.cons_append, toksI, if_neg hb32, hrun, List.drop_left, show r.length + 1 = (b :: r).length from rfl, ← List.cons_append, List.take_left, decide_eq_false (by omega)]
   rfl
  ·simp at hf; omega
theorem Seg.sym {b : UInt8} (hb : clsB b = 0) (h32 : b ≠ 32) : Seg [b] [[b]] := by
 intro rest f pos hrest hf
 cases f with
 | zero => simp at hf
 | succ f =>
  have hrun : runB b rest = 0 := by unfold runB; rw [if_pos hb]
  refine ⟨[⟨[b], pos, false⟩], f, pos + 0 + 1, clsB b, ?_, ⟨rfl, fun t ht => by rw [List.mem_singleton.1 ht]⟩, ?_⟩
  ·rw [List.cons_append, List.nil_append, toksI, if_neg h32, hrun, decide_eq_false (by omega)]
   rfl
  ·simp at hf; omega
theorem Seg.sp {a b : List UInt8} {wa wb : List (List UInt8)} (ha : Seg a wa) (hb : Seg b wb) : Seg (a ++ 32 :: b) (wa ++ wb) := by
 intro rest f pos hrest hf
 rw [List.append_assoc, List.cons_append] at hf ⊢
 obtain ⟨L, f1, p1, v1, e1, w1, l1⟩ := ha (32 :: (b ++ rest)) f pos (.inr ⟨32, _, rfl, by decide⟩) hf
 cases f1 with
 | zero => simp at l1
 | succ f1 =>
  obtain ⟨M, f2, p2, v2, e2, w2, l2⟩ := hb rest f1 (p1 + 1) hrest (by simp at l1 ⊢; omega)
  refine ⟨L ++ M, f2, p2, v2, ?_, w1.join w2, l2⟩
  rw [e1, toksI, if_pos rfl, e2, List.append_assoc]
theorem Seg.par {a : List UInt8} {wa : List (List UInt8)} (ha : Seg a wa) : Seg (40 :: (a ++ [41])) (wOpen :: (wa ++ [wShut])) := by
 intro rest f pos hrest hf
 cases f with
 | zero => simp at hf
 | succ f =>
  rw [List.cons_append, List.append_assoc] at hf ⊢
  have hrun : ∀ r, runB 40 r = 0 := fun r => by unfold runB; rw [if_pos (by decide)]
  obtain ⟨L, f1, p1, v1, e1, w1, l1⟩ := ha ([41] ++ rest) f (pos + 0 + 1) (.inr ⟨41, _, rfl, by decide⟩) (by simp at hf ⊢; omega)
  cases f1 with
  | zero => simp at l1
  | succ f1 =>
   have hrun2 : runB 41 rest = 0 := by unfold runB; rw [if_pos (by decide)]
   refine ⟨⟨[40], pos, false⟩ :: (L ++ [⟨[41], p1, false⟩]), f1, p1 + 0 + 1, clsB 41, ?_, ?_, by simp at l1; omega⟩
   ·rw [toksI, if_neg (by decide), hrun, show clsB 40 = 0 from by decide, decide_eq_false (by omega), List.drop_zero, e1]
    show _ :: (L ++ toksI (f1 + 1) p1 v1 (41 :: rest)) = _
    rw [toksI, if_neg (by decide), hrun2, decide_eq_false (show ¬ (0 < clsB 41 ∧ 0 < v1) from fun h => absurd h.1 (by decide)), List.drop_zero]
    simp
   ·refine ⟨by rw [List.map_cons, List.map_append, w1.1]; rfl, fun t ht => ?_⟩
    rcases List.mem_cons.1 ht with rfl | ht
    ·rfl
    ·rcases List.mem_append.1 ht with ht | ht
     ·exact w1.2 t ht
     ·rw [List.mem_singleton.1 ht]
theorem Seg.lit {b : UInt8} {r : List UInt8} (h : 0 < clsB b ∧ (r.all fun c => decide (clsB c = clsB b)) = true := by decide) : Seg (b :: r) [b :: r] := by
 exact Seg.word h.1 fun c hc => of_decide_eq_true (List.all_eq_true.1 h.2 c hc)
theorem Seg.num {n : Int} (h : 0 ≤ n) : Seg (dW n) [dW n] := by
 obtain ⟨h1, h2⟩ := dW_dig h
 cases hd : dW n with
 | nil => exact absurd hd h2
 | cons b r =>
  rw [hd, List.all_cons, Bool.and_eq_true] at h1
  have hc : ∀ c, digB c = true → clsB c = 2 := fun c hc => by
   have := of_decide_eq_true hc
   unfold clsB
   rw [if_neg (by omega), if_pos this]
  exact Seg.word (by rw [hc b h1.1]; omega) fun c hcr => by rw [hc b h1.1, hc c (List.all_eq_true.1 h1.2 c hcr)]
theorem lZ_app (a b : ByteArray) : lZ (a ++ b) = lZ a ++ lZ b := by simp [lZ]
theorem Seg.arg {p : PickD} (h : Seg (lZ (pTxt p)) (pWds p)) : Seg (lZ (pArgT p)) (pArgW p) := by
 unfold pArgT argT pArgW argW
 by_cases hk : p.kind = 4 ∨ p.kind = 5
 ·rw [if_pos hk, if_pos hk, lZ_app, lZ_app]
  have := h.par
  exact this
 ·rw [if_neg hk, if_neg hk]; exact h
theorem Seg.tail {m : UInt8} (hm : clsB m = 0) (hm32 : m ≠ 32) : ∀ (l : List PickD) (s : ByteArray) (ws : List (List UInt8)), Seg (lZ s) ws → (∀ x ∈ l, Seg (lZ (pArgT x)) (pArgW x)) → Seg (lZ (tailT ⟨#[32, m, 32]⟩ s (l.map pArgT))) (ws ++ l.flatMap fun a => [m] :: pArgW a)
 | [], s, ws, h, _ => by
  rw [List.map_nil, tailT, List.flatMap_nil, List.append_nil]; exact h
 | x :: l, s, ws, h, hl => by
  rw [List.map_cons, tailT, List.flatMap_cons, ← List.append_assoc]
  refine Seg.tail hm hm32 l _ _ ?_ (fun y hy => hl y (List.mem_cons_of_mem _ hy))
  rw [lZ_app, lZ_app]
  have := Seg.sp h (Seg.sp (Seg.sym hm hm32) (hl x List.mem_cons_self))
  exact this
theorem txt_seg : ∀ (n : Nat) (p : PickD), pSize p ≤ n → pChk p = 0 → Seg (lZ (pTxt p)) (pWds p)
 | 0, p, h, _ => by rw [pSize_eq] at h; omega
 | n + 1, p, h, hc => by
  have ih : ∀ x ∈ p.args, Seg (lZ (pTxt x)) (pWds x) := fun x hx => txt_seg n x (by have := pSize_arg hx; omega) ((pChk_zero hc).2 x hx)
  rw [pTxt_eq, pWds_eq]
  rcases pk_form hc with ⟨f, t, rfl, h1, h2⟩ | ⟨f, rfl, h1⟩ | ⟨f, rfl, h1⟩ | ⟨x, y, az, rfl⟩ | ⟨x, y, rfl⟩ | ⟨k, x, rfl, h1⟩ | ⟨f, t, x, rfl, h1, h2⟩
  ·show Seg (lZ (if f = t then itoaB f else itoaB f ++ bThru ++ itoaB t)) (if f = t then [dW f] else [dW f, wThru, dW t])
   by_cases hft : f = t
   ·rw [if_pos hft, if_pos hft]; exact Seg.num (by omega)
   ·rw [if_neg hft, if_neg hft, lZ_app, lZ_app, List.append_assoc]
    exact Seg.sp (Seg.num (n := f) (by omega)) (Seg.sp (Seg.lit (b := 116) (r := [104, 114, 117])) (Seg.num (n := t) (by omega)))
  ·show Seg (lZ (bGroup ++ itoaB f)) [wGroup, dW f]
   rw [lZ_app]
   exact Seg.sp (Seg.lit (b := 103) (r := [114, 111, 117, 112])) (Seg.num (n := f) (by omega))
  ·show Seg (lZ (bPreset ++ itoaB f)) [wPreset, dW f]
   rw [lZ_app]
   exact Seg.sp (Seg.lit (b := 112) (r := [114, 101, 115, 101, 116])) (Seg.num (n := f) (by omega))
  ·have ha : ∀ a ∈ x :: y :: az, Seg (lZ (pArgT a)) (pArgW a) := fun a h => (ih a h).arg
   show Seg (lZ (tailT bPlus (if x.kind = 5 ∨ (4 : Int) = 5 then pTxt x else argT x.kind (pTxt x)) (List.zipWith argT ((y :: az).map PickD.kind) ((y :: az).map pTxt)))) ((if x.kind = 5 ∨ (4 : Int) = 5 then pWds x else argW x.kind (pWds x)) ++ (List.zipWith argW ((y :: az).map PickD.kind) ((y :: az).map pWds)).flatMap (fun a => wPlus :: a))
   rw [zip_args, zip_argW, List.flatMap_map]
   refine Seg.tail (by decide) (by decide) (y :: az) _ _ ?_ (fun a h => ha a (List.mem_cons_of_mem _ h))
   by_cases h5 : x.kind = 5
   ·rw [if_pos (.inl h5), if_pos (.inl h5)]; exact ih x List.mem_cons_self
   ·rw [if_neg (by omega), if_neg (by omega)]; exact ha x List.mem_cons_self
  ·have ha : ∀ a ∈ [x, y], Seg (lZ (pArgT a)) (pArgW a) := fun a h => (ih a h).arg
   show Seg (lZ (tailT bMinus (if x.kind = 5 ∨ (5 : Int) = 5 then pTxt x else argT x.kind (pTxt x)) (List.zipWith argT ([y].map PickD.kind) ([y].map pTxt)))) ((if x.kind = 5 ∨ (5 : Int) = 5 then pWds x else argW x.kind (pWds x)) ++ (List.zipWith argW ([y].map PickD.kind) ([y].map pWds)).flatMap (fun a => wMinus :: a))
   rw [zip_args, zip_argW, List.flatMap_map, if_pos (.inr rfl), if_pos (.inr rfl)]
   exact Seg.tail (by decide) (by decide) [y] _ _ (ih x List.mem_cons_self) (fun a h => ha a (List.mem_cons_of_mem _ h))
  ·have ha := (ih x List.mem_cons_self).arg
   rcases h1 with rfl | rfl | rfl
   ·show Seg (lZ (bOdd ++ pArgT x)) (wOdd :: pArgW x)
    rw [lZ_app]
    exact Seg.sp (Seg.lit (b := 111) (r := [100, 100])) ha
   ·show Seg (lZ (bEven ++ pArgT x)) (wEven :: pArgW x)
    rw [lZ_app]
    exact Seg.sp (Seg.lit (b := 101) (r := [118, 101, 110])) ha
   ·show Seg (lZ (bBack ++ pArgT x)) (wBk :: pArgW x)
    rw [lZ_app]
    exact Seg.sp (Seg.lit (b := 98) (r := [97, 99, 107])) ha
  ·have ha := (ih x List.mem_cons_self).arg
   show Seg (lZ (bEvery ++ itoaB f ++ bFrom ++ itoaB t ++ bBlank ++ pArgT x)) (wEvery :: dW f :: wFrom :: dW t :: pArgW x)
   rw [lZ_app, lZ_app, lZ_app, lZ_app, lZ_app, List.append_assoc, List.append_assoc, List.append_assoc, List.append_assoc]
   exact Seg.sp (Seg.lit (b := 101) (r := [118, 101, 114, 121])) (Seg.sp (Seg.num (n := f) (by omega)) (Seg.sp (Seg.lit (b := 102) (r := [114, 111, 109])) (Seg.sp (Seg.num (n := t) (by omega)) ha)))
theorem prS_txt {p : PickD} (hc : pChk p = 0) (hd : pDeep p ≤ 12) : ∃ l, prS (lZ (pTxt p)) = .ok p l := by
 obtain ⟨L, f', pos', prev', e, w, _⟩ := txt_seg _ p (Nat.le_refl _) hc [] (lZ (pTxt p)).length 0 (.inl rfl) (by simp)
 rw [List.append_nil] at e
 have e2 : toksI f' pos' prev' [] = [] := by unfold toksI; cases f' <;> rfl
 rw [e2, List.append_nil] at e
 have hT : toksP (lZ (pTxt p)).length 0 0 (lZ (pTxt p)) = L ++ [⟨[], (lZ (pTxt p)).length, false⟩] := by
  rw [toksP_eq _ _ _ _ (Nat.le_refl _), e, Nat.zero_add]
 have hl : L.length ≤ (lZ (pTxt p)).length := by rw [← e]; exact toksI_len _ _ _ _
 have h := whl_ok hc hd w (n := (lZ (pTxt p)).length) (f := 2 * (lZ (pTxt p)).length + 10) (by omega)
 refine ⟨[⟨[], (lZ (pTxt p)).length, false⟩], ?_⟩
 unfold prS
 rw [hT, h]
 show (if (lZ (pTxt p)).length < (lZ (pTxt p)).length then _ else _) = _
 rw [if_neg (Nat.lt_irrefl _)]
end Go.Proofs.YtfalbgflabajbaaDoor

namespace Go.Proofs.YtfalbgflabajbaaDoor
set_option linter.unusedSectionVars false
set_option linter.unusedVariables false
set_option linter.unusedSimpArgs false
theorem cat_ok {a b : ByteArray} (h : a.size + b.size ≤ 1000000000) : tCat a b = some (a ++ b) := if_pos (by omega)
theorem tailT_snoc (m : ByteArray) : ∀ (l : List ByteArray) (s a : ByteArray), tailT m s (l ++ [a]) = tailT m s l ++ (m ++ a)
 | [], s, a => rfl
 | b :: l, s, a => by rw [List.cons_append, tailT, tailT, tailT_snoc m l]
theorem tSl_one {α : Type} {x : α} {l : List α} : tSl (x :: l) (some 1) none = some l := by simp [tSl]; omega
theorem take_sum {f : PickD → Nat} (l : List PickD) (i : Nat) : ((l.take i).map f).sum ≤ (l.map f).sum := by
 have h := List.take_append_drop i l
 have h2 : (l.map f).sum = ((l.take i).map f).sum + ((l.drop i).map f).sum := by rw [← List.sum_append, ← List.map_append, h]
 omega
theorem tail_loop {q : PickD → Option ByteArray} {m s : ByteArray} {l : List PickD} {γ : Type} {K1 : ByteArray → Option γ} {K2 : Unit → Option γ} (hl : l.length ≤ mxl) (hq : ∀ x ∈ l, q x = some (pArgT x)) (hm : m.size ≤ 3) (hs : s.size + (l.map fun a => m.size + (pArgT a).size).sum ≤ 100000000) :
  forE l (fun (i : Nat) e (s : ByteArray) => (q e).bind fun r => (tCat m r).bind fun x => (tCat s x).bind fun x => some (.go x)) (fun s => some s) s K1 K2 = K1 (tailT m s (l.map pArgT)) := by
 rw [forE_st (fun i => tailT m s ((l.take i).map pArgT)) hl (by simp [tailT])]
 ·rw [List.take_length, Option.bind_some]
 ·intro i x hx
  have ht : l.take (i + 1) = l.take i ++ [x] := by rw [List.take_add_one, hx]; rfl
  have h1 := take_sum (f := fun a => m.size + (pArgT a).size) l (i + 1)
  rw [ht, List.map_append, List.sum_append] at h1
  simp only [List.map_cons, List.map_nil, List.sum_cons, List.sum_nil] at h1
  have h2 := tailT_size m ((l.take i).map pArgT) s
  rw [List.map_map] at h2
  have h3 : (((l.take i).map ((fun a : ByteArray => m.size + a.size) ∘ pArgT))).sum = ((l.take i).map fun a => m.size + (pArgT a).size).sum := rfl
  rw [h3] at h2
  simp only [hq x (List.mem_of_getElem? hx), Option.bind_some]
  rw [cat_ok (by omega), Option.bind_some, cat_ok (by rw [h2, bsz]; omega), Option.bind_some, ht, List.map_append, List.map_cons, List.map_nil, tailT_snoc]
theorem pArgT_eq (p : PickD) : pArgT p = if p.kind = 4 ∨ p.kind = 5 then bOpen ++ pTxt p ++ bClose else pTxt p := rfl
theorem arg_k {q : PickD → Option ByteArray} {p : PickD} (h : q p = some (pTxt p)) (hs : (pTxt p).size ≤ 100000000) : t_pick_arg q p = some (pArgT p) := by
 unfold t_pick_arg
 rw [h, pArgT_eq]
 by_cases hk : p.kind = 4 ∨ p.kind = 5
 ·rw [if_pos (by simpa using hk), if_pos hk, Option.bind_some, cat_ok (by show 1 + _ ≤ _; omega), Option.bind_some, cat_ok (by rw [bsz]; show 1 + _ + 1 ≤ _; omega)]; rfl
 ·rw [if_neg (by simpa using hk), if_neg hk]; rfl
theorem argT_hd (x : PickD) (l : List PickD) : argT (((x :: l).map PickD.kind).headD 0) (((x :: l).map pTxt).headD default) = pArgT x := rfl
theorem txt_hd (x : PickD) (l : List PickD) : ((x :: l).map pTxt).headD default = pTxt x := rfl
theorem knd_hd (x : PickD) (l : List PickD) : ((x :: l).map PickD.kind).headD 0 = x.kind := rfl
theorem args_tl (x : PickD) (l : List PickD) : List.zipWith argT (((x :: l).map PickD.kind).drop 1) (((x :: l).map pTxt).drop 1) = l.map pArgT := by
 simp only [List.map_cons, List.drop_succ_cons, List.drop_zero]; exact zip_args l
theorem txt_facts {p : PickD} (h : pChk p = 0) (hs : pSize p ≤ 1000000) : inI p.frm ∧ inI p.to ∧ (itoaB p.frm).size ≤ 21 ∧ (itoaB p.to).size ≤ 21 ∧ (∀ x ∈ p.args, pChk x = 0 ∧ (pTxt x).size + 5 ≤ 70 * pSize x ∧ (pArgT x).size + 3 ≤ 70 * pSize x) ∧ (1 ≤ p.kind ∧ p.kind ≤ 9) ∧ ¬ pkA p.kind p.frm p.to p.args.length ∧ (p.kind = 1 → (p.frm = p.to ↔ itoaB p.frm = itoaB p.to)) := by
 obtain ⟨h0, h1⟩ := pChk_zero h
 obtain ⟨a, b, c, d⟩ := part_in h0
 obtain ⟨e, g, _⟩ := partF_zero h0
 have i1 : inI p.frm := by unfold inI; omega
 have i2 : inI p.to := by unfold inI; omega
 refine ⟨i1, i2, itoaB_size i1, itoaB_size i2, fun x hx => ?_, e, g, fun _ => ⟨fun q => by rw [q], fun q => itoaB_inj a c q⟩⟩
 have := pTxt_size _ x (Nat.le_refl _) (h1 x hx)
 have := argT_size x.kind (pTxt x)
 exact ⟨h1 x hx, by omega, by unfold pArgT; omega⟩
theorem rest_le {x : PickD} {l : List PickD} {N : Nat} (hs : 1 + (pSize x + pSizes l) ≤ N) (ha : ∀ y ∈ x :: l, (pArgT y).size + 3 ≤ 70 * pSize y) {m : ByteArray} (hm : m.size ≤ 3) : (l.map fun a => m.size + (pArgT a).size).sum ≤ 70 * pSizes l := by
 rw [← sum_70]; exact sum_le fun y hy => by have := ha y (by simp [hy]); omega
theorem text_k {qa qt : PickD → Option ByteArray} {p : PickD} (h : pChk p = 0) (hs : pSize p ≤ 1000000) (ha : ∀ x ∈ p.args, qa x = some (pArgT x)) (ht : ∀ x ∈ p.args, qt x = some (pTxt x)) : t_pick_text qa qt p = some (pTxt p) := by
 obtain ⟨i1, i2, f1, f2, hx, hk, hA, hj⟩ := txt_facts h hs
 unfold t_pick_text
 rw [pTxt_eq, tq_pos i1, tq_pos i2, Option.bind_some, Option.bind_some]
 unfold txtF
 unfold pkA at hA
 rw [pSize_eq] at hs
 cases hargs : p.args with
 | nil =>
  rw [hargs] at hA
  simp only [List.length_nil] at hA
  by_cases k1 : p.kind = 1
  ·rw [if_pos k1, if_pos k1]
   by_cases e : p.frm = p.to
   ·rw [if_pos ((hj k1).1 e), if_pos e]
   ·rw [if_neg (fun q => e ((hj k1).2 q)), if_neg e, cat_ok (by show _ + 6 ≤ _; omega), Option.bind_some, cat_ok (by rw [bsz]; show _ + 6 + _ ≤ _; omega)]; rfl
  ·rw [if_neg k1, if_neg k1]
   by_cases k2 : p.kind = 2
   ·rw [if_pos k2, if_pos k2, cat_ok (by show 6 + _ ≤ _; omega)]; rfl
   ·rw [if_neg k2, if_neg k2, if_pos (show p.kind = 3 by omega), if_pos (show p.kind = 3 by omega), cat_ok (by show 7 + _ ≤ _; omega)]; rfl
 | cons x l =>
  rw [hargs] at hA ha ht hx hs
  simp only [List.length_cons] at hA
  rw [pSizes] at hs
  have hl : l.length ≤ mxl := by have := pSizes_len l; unfold mxl; omega
  obtain ⟨_, x1, x2⟩ := hx x (by simp)
  have ix : tIx (x :: l) 0 = some x := rfl
  have k1 : ¬ p.kind = 1 := by omega
  have k2 : ¬ p.kind = 2 := by omega
  have k3 : ¬ p.kind = 3 := by omega
  rw [if_neg k1, if_neg k2, if_neg k3, if_neg k1, if_neg k2, if_neg k3, ix, argT_hd, txt_hd, knd_hd, args_tl]
  simp only [Option.bind_some, ha x (by simp)]
  by_cases k6 : p.kind = 6
  ·rw [if_pos k6, if_pos k6, cat_ok (by show 4 + _ ≤ _; omega)]; rfl
  ·rw [if_neg k6, if_neg k6]
   by_cases k7 : p.kind = 7
   ·rw [if_pos k7, if_pos k7, cat_ok (by show 5 + _ ≤ _; omega)]; rfl
   ·rw [if_neg k7, if_neg k7]
    by_cases k8 : p.kind = 8
    ·rw [if_pos k8, if_pos k8, cat_ok (by show 5 + _ ≤ _; omega)]; rfl
    ·rw [if_neg k8, if_neg k8]
     by_cases k9 : p.kind = 9
     ·rw [if_pos k9, if_pos k9, cat_ok (by show 6 + _ ≤ _; omega), Option.bind_some, cat_ok (by rw [bsz]; show 6 + _ + 6 ≤ _; omega), Option.bind_some, cat_ok (by rw [bsz, bsz]; show 6 + _ + 6 + _ ≤ _; omega), Option.bind_some, cat_ok (by rw [bsz, bsz, bsz]; show 6 + _ + 6 + _ + 1 ≤ _; omega), Option.bind_some, cat_ok (by rw [bsz, bsz, bsz, bsz]; show 6 + _ + 6 + _ + 1 + _ ≤ _; omega)]; rfl
     ·rw [if_neg k9, if_neg k9]
      have e1 : (if p.kind = 5 then some (⟨#[32, 45, 32]⟩ : ByteArray) else some (⟨#[32, 43, 32]⟩ : ByteArray)) = some (if p.kind = 5 then bMinus else bPlus) := by
       by_cases k5 : p.kind = 5 <;> simp [k5]
      have e2 : (if ((decide (x.kind = 5)) || (decide (p.kind = 5))) = true then (qt x).bind fun r30 => some r30 else some (pArgT x)) = some (if x.kind = 5 ∨ p.kind = 5 then pTxt x else pArgT x) := by
       rw [ht x (by simp)]
       by_cases k5 : x.kind = 5 ∨ p.kind = 5
       ·rw [if_pos k5, if_pos (by simpa using k5)]; rfl
       ·rw [if_neg k5, if_neg (by simpa using k5)]
      rw [e1, Option.bind_some, e2, Option.bind_some, tSl_one, Option.bind_some]
      have hm : (if p.kind = 5 then bMinus else bPlus).size ≤ 3 := by split <;> exact Nat.le_refl 3
      rw [tail_loop hl (fun y hy => ha y (by simp [hy])) hm]
      have := rest_le hs (fun y hy => (hx y hy).2.2) hm
      split <;> omega
theorem text_t : ∀ (n : Nat) (p : PickD) (σ : Heap), 2 * pDeep p ≤ n → pSize p ≤ 1000000 → pChk p = 0 → fuel R_pick_text (n + 1) 462 [.agg (cPick p)] σ = some (.str (pTxt p), σ) ∧ fuel R_pick_text (n + 2) 461 [.agg (cPick p)] σ = some (.str (pArgT p), σ) := by
 have texts : ∀ (n : Nat), (∀ (p : PickD) (σ : Heap), 2 * pDeep p ≤ n → pSize p ≤ 1000000 → pChk p = 0 → fuel R_pick_text (n + 1) 462 [.agg (cPick p)] σ = some (.str (pTxt p), σ)) → ∀ (p : PickD) (σ : Heap), 2 * pDeep p ≤ n → pSize p ≤ 1000000 → pChk p = 0 → fuel R_pick_text (n + 2) 461 [.agg (cPick p)] σ = some (.str (pArgT p), σ) := by
  intro n ih p σ hd hs hc
  let q : PickD → Option ByteArray := fun x => if 2 * pDeep x ≤ n ∧ pSize x ≤ 1000000 ∧ pChk x = 0 then some (pTxt x) else none
  have e : t_pick_arg q p = some (pArgT p) := arg_k (if_pos ⟨hd, hs, hc⟩) (by have := pTxt_size _ p (Nat.le_refl _) hc; omega)
  have hr : fuel R_pick_text (n + 2) 461 = A.wrap true [(.a [.k, .k, .k, (.s 4)])] .k (A.ar1 (r_pick_arg (fuel R_pick_text (n + 1)))) := rfl
  rw [hr]
  exact h_pick_arg (rc := fuel R_pick_text (n + 1)) q (fun x s r hx => by
   by_cases hp : 2 * pDeep x ≤ n ∧ pSize x ≤ 1000000 ∧ pChk x = 0
   ·have : q x = _ := if_pos hp
    rw [this] at hx; injection hx with hx; subst hx
    exact ih x s hp.1 hp.2.1 hp.2.2
   ·have : q x = none := if_neg hp
    rw [this] at hx; cases hx) e
 have main : ∀ (n : Nat) (p : PickD) (σ : Heap), 2 * pDeep p ≤ n → pSize p ≤ 1000000 → pChk p = 0 → fuel R_pick_text (n + 1) 462 [.agg (cPick p)] σ = some (.str (pTxt p), σ) := by
  intro n
  induction n using Nat.strongRecOn with
  | ind n ih =>
   intro p σ hd hs hc
   have h1 := pDeep_pos p
   obtain ⟨m, rfl⟩ : ∃ m, n = m + 2 := ⟨n - 2, by omega⟩
   have hda : ∀ x ∈ p.args, 2 * pDeep x ≤ m := fun x hx => by have := pDeeps_mem hx; rw [pDeep_eq] at hd; omega
   let qa : PickD → Option ByteArray := fun x => if 2 * pDeep x ≤ m ∧ pSize x ≤ 1000000 ∧ pChk x = 0 then some (pArgT x) else none
   let qt : PickD → Option ByteArray := fun x => if 2 * pDeep x ≤ m ∧ pSize x ≤ 1000000 ∧ pChk x = 0 then some (pTxt x) else none
   have hz : ∀ x ∈ p.args, 2 * pDeep x ≤ m ∧ pSize x ≤ 1000000 ∧ pChk x = 0 := fun x hx => ⟨hda x hx, by have := pSize_arg hx; omega, (pChk_zero hc).2 x hx⟩
   have e : t_pick_text qa qt p = some (pTxt p) := text_k hc hs (fun x hx => if_pos (hz x hx)) (fun x hx => if_pos (hz x hx))
   have hr : fuel R_pick_text (m + 2 + 1) 462 = A.wrap true [(.a [.k, .k, .k, (.s 4)])] .k (A.ar1 (r_pick_text (fuel R_pick_text (m + 2)))) := rfl
   rw [hr]
   exact h_pick_text (rc := fuel R_pick_text (m + 2)) qa qt (fun x s r hx => by
    by_cases hp : 2 * pDeep x ≤ m ∧ pSize x ≤ 1000000 ∧ pChk x = 0
    ·have : qa x = _ := if_pos hp
     rw [this] at hx; injection hx with hx; subst hx
     exact texts m (ih m (by omega)) x s hp.1 hp.2.1 hp.2.2
    ·have : qa x = none := if_neg hp
     rw [this] at hx; cases hx) (fun x s r hx => by
    by_cases hp : 2 * pDeep x ≤ m ∧ pSize x ≤ 1000000 ∧ pChk x = 0
    ·have : qt x = _ := if_pos hp
     rw [this] at hx; injection hx with hx; subst hx
     exact ih (m + 1) (by omega) x s (by omega) hp.2.1 hp.2.2
    ·have : qt x = none := if_neg hp
     rw [this] at hx; cases hx) e
 exact fun n p σ hd hs hc => ⟨main n p σ hd hs hc, texts n (main n) p σ hd hs hc⟩
theorem text_m (p : PickD) (h : pSize p ≤ 900000 ∧ pChk p = 0) (σ : Heap) : m_pick_text [.agg (cPick p)] σ = some (.str (pTxt p), σ) := (text_t 1999999 p σ (by have := pDeep_size p; omega) (by omega) h.2).1
end Go.Proofs.YtfalbgflabajbaaDoor

namespace Go.Proofs.YtfalbgflabajbaaDoor
set_option linter.unusedSectionVars false
set_option linter.unusedVariables false
set_option linter.unusedSimpArgs false
set_option maxRecDepth 100000
noncomputable def t_pick_Print (a0 : PickD) : Option (ByteArray × Int) :=
 (t_pick_Check a0).bind fun r1 =>
 if ¬ (r1 = 0) then
  some ((⟨#[]⟩ : ByteArray), r1)
 else
 (tq (pSize a0 ≤ 900000 ∧ pChk a0 = 0) (pTxt a0)).bind fun r2 =>
 if 4000 < (r2.size : Int) then
  some ((⟨#[]⟩ : ByteArray), 2)
 else
 some (r2, 0)
theorem h_pick_Print {a0 : PickD} {σ : Heap} {r : (ByteArray × Int)} (h : t_pick_Print a0 = some r) : m_pick_Print [(AV.agg (cPick a0))] σ = some ((AV.tup [(AV.str r.1), (AV.int .i64 r.2)]), σ) := by
 refine rf_wrap1 (f := r_pick_Print) (y0 := (AV.agg (cPick a0))) (enc := fun r : (ByteArray × Int) => (AV.tup [(AV.str r.1), (AV.int .i64 r.2)])) (T := t_pick_Print a0) (by first | rfl | (simp only [cPick_eq]; rfl)) (by first | rfl | (simp only [cPick_eq]; rfl)) ?_ r h
 unfold r_pick_Print t_pick_Print
 refine rf_s (cPick a0) (by first | rfl | (simp only [cPick_eq]; rfl)) <| rf_s (AV.agg (cPick a0)) (by first | rfl | (simp only [cPick_eq]; rfl)) ?_
 refine rf_o (fun r1 : Int => ((AV.int .i64 r1), σ)) (fun r1 hr1 => h_pick_Check hr1) (fun r1 hr1 => ?_)
 refine rf_s _ (aNe _ _ _) ?_
 refine rf_c (p := ¬ (r1 = 0)) (fun c4 => ?_) (fun c4 => ?_)
 ·exact rf_fin _ (fin_same _ _) ⟨rfl, rfl⟩
 refine rf_s (AV.agg (cPick a0)) (by first | rfl | (simp only [cPick_eq]; rfl)) ?_
 refine rf_o (fun r2 : ByteArray => ((AV.str r2), σ)) (fun r2 hr2 => (tq_of (e := fun r : ByteArray => ((AV.str r), σ)) (fun hs => text_m a0 hs σ)) hr2) (fun r2 hr2 => ?_)
 refine rf_s (AV.int .i64 (r2.size : Int)) (by first | rfl | (simp only [cPick_eq]; rfl)) <| rf_s (AV.bool (decide (4000 < (r2.size : Int)))) (by first | rfl | (simp only [cPick_eq]; rfl)) ?_
 refine rf_c (p := 4000 < (r2.size : Int)) (fun c3 => ?_) (fun c3 => ?_)
 ·exact rf_fin _ (fin_same _ _) ⟨rfl, rfl⟩
 exact rf_fin _ (fin_same _ _) ⟨rfl, rfl⟩

end Go.Proofs.YtfalbgflabajbaaDoor

namespace Go.Proofs.YtfalbgflabajbaaDoor
set_option linter.unusedSectionVars false
set_option linter.unusedVariables false
set_option linter.unusedSimpArgs false
section
variable {f : Int → List Int} {V : List Int} {a n : Int}
end
theorem checkF_pk {p : PickD} (h : pSize p ≤ 2000000) : t_pick_Check p = some (checkF p) := by
 unfold t_pick_Check checkF
 rw [tq_pos h, tq_pos h, Option.bind_some, Option.bind_some]
 by_cases hc : 200 < pSize p ∨ 12 < pDeep p
 ·rw [if_pos hc, if_pos (by simp; omega)]
 ·rw [if_neg hc, if_neg (by simp; omega)]
end Go.Proofs.YtfalbgflabajbaaDoor

namespace Go.Proofs.YtfalbgflabajbaaDoor
set_option linter.unusedSectionVars false
set_option linter.unusedVariables false
set_option linter.unusedSimpArgs false
def printF (p : PickD) : ByteArray × Int := if ¬ checkF p = 0 then ((⟨#[]⟩ : ByteArray), checkF p) else if 4000 < ((pTxt p).size : Int) then ((⟨#[]⟩ : ByteArray), 2) else (pTxt p, 0)
theorem checkF_zero {p : PickD} (h : checkF p = 0) : pSize p ≤ 200 ∧ pDeep p ≤ 12 ∧ pChk p = 0 := by
 unfold checkF at h
 split at h
 ·cases h
 ·exact ⟨by omega, by omega, h⟩
theorem print_pk {p : PickD} (h : pSize p ≤ 2000000) : t_pick_Print p = some (printF p) := by
 unfold t_pick_Print printF
 rw [checkF_pk h, Option.bind_some]
 by_cases hc : checkF p = 0
 ·rw [if_neg (fun k => k hc), if_neg (fun k => k hc), tq_pos ⟨by have := (checkF_zero hc).1; omega, (checkF_zero hc).2.2⟩, Option.bind_some]
  split <;> rfl
 ·rw [if_pos hc, if_pos hc]
end Go.Proofs.YtfalbgflabajbaaDoor

namespace Go.Proofs.YtfalbgflabajbaaDoor
set_option linter.unusedSectionVars false
set_option linter.unusedVariables false
set_option linter.unusedSimpArgs false
set_option maxRecDepth 100000
theorem nAdd {a b : Nat} (h : a + b < 4611686018427387904) : A.add (.int .i64 (a : Int)) (.int .i64 (b : Int)) = some (.int .i64 ((a + b : Nat) : Int)) := by
 rw [aAdd, wrap64 (by unfold inI; omega)]; rfl
theorem nAdd1 {a : Nat} (h : a + 1 < 4611686018427387904) : A.add (.int .i64 (a : Int)) (.int .i64 1) = some (.int .i64 ((a + 1 : Nat) : Int)) := nAdd (b := 1) h
theorem nLss (a b : Nat) : A.lss (.int .i64 (a : Int)) (.int .i64 (b : Int)) = some (.bool (decide (a < b))) := by
 rw [aLss]; congr 2; rw [decide_eq_decide]; omega
section
variable {id g n : Nat} {W : Heap} {l : List SettingD}
end
end Go.Proofs.YtfalbgflabajbaaDoor

namespace Go.Proofs.YtfalbgflabajbaaDoor
set_option linter.unusedSectionVars false
set_option linter.unusedVariables false
set_option linter.unusedSimpArgs false
set_option maxRecDepth 100000
theorem bnQ {α β : Type} {x y : Option α} (h : x = y) (f : α → Option β) : x.bind f = y.bind f := by rw [h]
theorem sameL_t {rc : Nat → List AV → Heap → Option (AV × Heap)} (l : List PickD) (hl : l.length ≤ 1000000) (σ : Heap) (hd : ∀ x ∈ l, rc 500 [.agg (cPick x), .agg (cPick x)] σ = some (.bool true, σ)) : m_slices_EqualFunc_api_Pick (A.tab (fun _ _ => none) [(500, rc 500)]) [sl 4 cPick l, sl 4 cPick l, .fn 500 []] σ = some (.bool true, σ) := by
 refine wrap_eq rfl ?_ rfl
 show r_slices_EqualFunc_api_Pick _ (sl 4 cPick l) (sl 4 cPick l) (.fn 500 []) σ = _
 unfold r_slices_EqualFunc_api_Pick
 rw [lenS_sl, bS, bS, aNe, bS, decide_eq_false (by simp), cnd_f, bS]
 obtain ⟨q, hq, rfl⟩ : ∃ q, A.loop ((fun v5 s6 =>
    (A.lss (v5.getD 1 AV.undef) (AV.int .i64 (l.length: Int))).bind fun x8 =>
    A.cond x8 (
     (A.iaddr 4 (sl 4 cPick l) (v5.getD 1 AV.undef)).bind fun x9 =>
     ((A.deref x9 s6).bind fun c10 => A.partA 0 4 c10).bind fun x11 =>
     (A.cells 4 x11).bind fun c12 =>
     (A.splice 0 c12 [(AV.int .i64 0), (AV.int .i64 0), (AV.int .i64 0), AV.nsl]).bind fun c13 =>
     (A.iaddr 4 (sl 4 cPick l) (v5.getD 1 AV.undef)).bind fun x14 =>
     ((A.deref x14 s6).bind fun c15 => A.partA 0 4 c15).bind fun x16 =>
     (A.cells 4 x16).bind fun c17 =>
     (A.splice 0 c17 [(AV.int .i64 0), (AV.int .i64 0), (AV.int .i64 0), AV.nsl]).bind fun c18 =>
     (A.partA 0 4 c13).bind fun x19 =>
     (A.partA 0 4 c18).bind fun x20 =>
     (A.callv (A.tab (fun _ _ => none) [(500, rc 500)]) (AV.fn 500 []) [x19, x20] s6).bind fun r21 =>
     (A.not r21.1).bind fun x22 =>
     A.cond x22 (
      some (AX.ret, [(AV.bool false), (v5.getD 1 AV.undef)], r21.2)) (
      (A.add (v5.getD 1 AV.undef) (AV.int .i64 1)).bind fun x23 =>
      some (AX.normal, [(v5.getD 0 AV.undef), x23], r21.2))) (
     some (AX.exit 0, [(v5.getD 0 AV.undef), (v5.getD 1 AV.undef)], s6)))) [.bool false, .int .i64 0] σ = some q ∧ q = (.exit 0, [.bool false, .int .i64 (l.length : Int)], σ) := by
  refine loop_ms (fun z u w => ∃ i : Nat, i ≤ l.length ∧ z = l.length - i ∧ u = [.bool false, .int .i64 (i : Int)] ∧ w = σ) ?_ (n := l.length) ⟨0, Nat.zero_le _, rfl, rfl, rfl⟩
  rintro z u w ⟨i, hi, rfl, rfl, rfl⟩
  simp only [List.getD_cons_zero, List.getD_cons_succ]
  rw [nLss, bS]
  by_cases hlt : i < l.length
  ·have hx : l[i]? = some l[i] := List.getElem?_eq_getElem hlt
   have hdx := hd _ (List.getElem_mem hlt)
   generalize l[i] = x at hx hdx
   have hcv : A.callv (A.tab (fun _ _ => none) [(500, rc 500)]) (.fn 500 []) [.agg (cPick x), .agg (cPick x)] w = some (.bool true, w) := by simp only [A.callv, List.append_nil]; exact hdx
   have hdf : ((A.deref (.rp (cPick x)) w).bind fun c7 => A.partA 0 4 c7) = some (.agg (cPick x)) := pA_cPick x
   have hce : A.cells 4 (.agg (cPick x)) = some (cPick x) := ce_cPick x
   have hsp : A.splice 0 (cPick x) [(AV.int .i64 0), (AV.int .i64 0), (AV.int .i64 0), AV.nsl] = some (cPick x) := sp_cPick x _ rfl
   have hpa : A.partA 0 4 (cPick x) = some (.agg (cPick x)) := pA_cPick x
   rw [decide_eq_true hlt, cnd_t, iaddr_sl 4 cPick l hx, bS, hdf, bS, hce, bS, hsp, bS, bS, hdf, bS, hce, bS, hsp, bS, hpa, bS, bS, hcv, bS]
   simp only
   rw [notT, bS, cnd_f, nAdd1 (by omega), bS]
   exact .inl ⟨l.length - (i + 1), _, _, by omega, rfl, i + 1, hlt, rfl, rfl, rfl⟩
  ·rw [decide_eq_false hlt, cnd_f]
   have : i = l.length := by omega
   subst this
   exact .inr ⟨_, rfl, by simp, rfl⟩
 refine (bnQ hq _).trans ?_
 rw [bS]
 simp only [exE]
 rw [fin_same]
theorem same_t : ∀ (n : Nat) (p : PickD) (σ : Heap), pDeep p ≤ n → pSize p ≤ 1000000 → fuel R_W4_samePick n 500 [.agg (cPick p), .agg (cPick p)] σ = some (.bool true, σ)
 | 0, p, σ, h, _ => by have := pDeep_pos p; omega
 | n + 1, p, σ, h, hs => by
  have hd := args_d h
  have hL := sameL_t (rc := fuel R_W4_samePick n) p.args (by have := pSizes_len p.args; have := pSize_eq p; omega) σ (fun x hx => same_t n x σ (Nat.le_trans (pDeeps_mem hx) hd) (by have := pSize_arg hx; omega))
  have hr : fuel R_W4_samePick (n + 1) 500 = A.wrap true [(.a [.k, .k, .k, (.s 4)]), (.a [.k, .k, .k, (.s 4)])] .k (A.ar2 (r_W4_samePick (fuel R_W4_samePick n))) := rfl
  rw [hr]
  rw [cPick_eq]
  generalize p.kind = k
  generalize p.frm = f
  generalize p.to = t
  generalize p.args = l at *
  refine wrap_eq rfl ?_ rfl
  show r_W4_samePick _ (.agg [.int .i64 k, .int .i64 f, .int .i64 t, sl 4 cPick l]) (.agg [.int .i64 k, .int .i64 f, .int .i64 t, sl 4 cPick l]) σ = _
  unfold r_W4_samePick
  have e1 : A.cells 4 (.agg [.int .i64 k, .int .i64 f, .int .i64 t, sl 4 cPick l]) = some [.int .i64 k, .int .i64 f, .int .i64 t, sl 4 cPick l] := rfl
  have p0 : A.part1 0 [.int .i64 k, .int .i64 f, .int .i64 t, sl 4 cPick l] = some (.int .i64 k) := rfl
  have p1 : A.part1 1 [.int .i64 k, .int .i64 f, .int .i64 t, sl 4 cPick l] = some (.int .i64 f) := rfl
  have p2 : A.part1 2 [.int .i64 k, .int .i64 f, .int .i64 t, sl 4 cPick l] = some (.int .i64 t) := rfl
  have p3 : A.part1 3 [.int .i64 k, .int .i64 f, .int .i64 t, sl 4 cPick l] = some (sl 4 cPick l) := rfl
  have gt : ∀ (x y : Option AV), A.guard (.bool true) true x y = x := fun _ _ => rfl
  have pk : ∀ (x y : AV), A.pick (.bool true) x y = some x := fun _ _ => rfl
  rw [e1, bS, bS, p0, bS, bS, aEq, bS, decide_eq_true rfl]
  simp only [gt, pk, p1, p2, p3, bS, aEq, decide_true]
  rw [quiet_of hL, bS, fin_same]
theorem same_m {p : PickD} (h : pSize p ≤ 1000000) (σ : Heap) : m_W4_samePick [.agg (cPick p), .agg (cPick p)] σ = some (.bool true, σ) := same_t 2000000 p σ (by have := pDeep_size p; omega) h
theorem par_size (f : Nat) : (∀ deep l p l', parP f deep l = .ok p l' → pSize p + l'.length ≤ l.length) ∧ (∀ deep l p l', whlP f deep l = .ok p l' → pSize p + l'.length ≤ l.length) ∧ (∀ deep p b l q l', rowP f deep p b l = .ok q l' → pSize q + l'.length ≤ pSize p + l.length) ∧ (∀ deep k fr t l q l', prfP f deep (.mk k fr t []) l = .ok q l' → pSize q + l'.length ≤ 1 + l.length) := by
 induction f with
 | zero => exact ⟨fun _ _ _ _ h => (by rw [parP] at h; cases h), fun _ _ _ _ h => (by rw [whlP] at h; cases h), fun _ _ _ _ _ _ h => (by rw [rowP] at h; cases h), fun _ _ _ _ _ _ _ h => (by rw [prfP] at h; cases h)⟩
 | succ f ih =>
  obtain ⟨i1, i2, i3, i4⟩ := ih
  have leaf : ∀ k fr t, pSize (.mk k fr t []) = 1 := fun k fr t => by rw [pSize, pSizes]
  refine ⟨fun deep l p l' h => ?_, fun deep l p l' h => ?_, fun deep p b l q l' h => ?_, fun deep k fr t l q l' h => ?_⟩
  ·rw [parP] at h
   split at h
   ·rename_i h1
    obtain ⟨n, m, h2, h3⟩ := bind_ok h
    injection h3 with h4 h3; subst h3; subst h4
    have := takP_len h1; have := numP_len h2; rw [leaf]; omega
   split at h
   ·rename_i h1
    obtain ⟨n, m, h2, h3⟩ := bind_ok h
    injection h3 with h4 h3; subst h3; subst h4
    have := takP_len h1; have := numP_len h2; rw [leaf]; omega
   split at h
   ·rename_i h1
    split at h
    ·cases h
    obtain ⟨n, m, h2, h3⟩ := bind_ok h
    split at h3
    ·rename_i h4
     injection h3 with h5 h3; subst h3; subst h5
     have := takP_len h1; have := takP_len h4; have := i2 _ _ _ _ h2; omega
    ·cases h3
   split at h
   ·rename_i h1; have := takP_len h1; have := i4 _ _ _ _ _ _ _ h; omega
   split at h
   ·rename_i h1; have := takP_len h1; have := i4 _ _ _ _ _ _ _ h; omega
   split at h
   ·rename_i h1; have := takP_len h1; have := i4 _ _ _ _ _ _ _ h; omega
   split at h
   ·rename_i h1
    split at h
    ·cases h
    obtain ⟨n, m, h2, h3⟩ := bind_ok h
    split at h3
    ·rename_i h4
     obtain ⟨n2, m2, h5, h6⟩ := bind_ok h3
     have := takP_len h1; have := takP_len h4; have := numP_len h2; have := numP_len h5; have := i4 _ _ _ _ _ _ _ h6; omega
    ·cases h3
   obtain ⟨n, m, h2, h3⟩ := bind_ok h
   split at h3
   ·rename_i h4
    obtain ⟨n2, m2, h5, h6⟩ := bind_ok h3
    split at h6
    ·cases h6
    injection h6 with h7 h6; subst h6; subst h7
    have := takP_len h4; have := numP_len h2; have := numP_len h5; rw [leaf]; omega
   ·injection h3 with h4 h3; subst h3; subst h4
    have := numP_len h2; rw [leaf]; omega
  ·rw [whlP] at h
   obtain ⟨n, m, h2, h3⟩ := bind_ok h
   have := i1 _ _ _ _ h2; have := i3 _ _ _ _ _ _ h3; omega
  ·rw [rowP] at h
   split at h
   ·rename_i h1
    obtain ⟨n, m, h2, h3⟩ := bind_ok h
    have e1 := takP_len h1; have e2 := i1 _ _ _ _ h2; have e3 := i3 _ _ _ _ _ _ h3
    cases b
    ·rw [if_neg (by simp), pSize, pSizes, pSizes, pSizes] at e3; omega
    ·rw [if_pos rfl, pSize, pSizes_snoc] at e3
     have := pSize_eq p
     omega
   split at h
   ·rename_i h1
    obtain ⟨n, m, h2, h3⟩ := bind_ok h
    have e1 := takP_len h1; have e2 := i1 _ _ _ _ h2; have e3 := i3 _ _ _ _ _ _ h3
    rw [pSize, pSizes, pSizes, pSizes] at e3; omega
   ·injection h with h1 h; subst h; subst h1; exact Nat.le_refl _
  ·rw [prfP] at h
   split at h
   ·cases h
   obtain ⟨n, m, h2, h3⟩ := bind_ok h
   injection h3 with h4 h3; subst h3; subst h4
   have := i1 _ _ _ _ h2
   rw [pSize, pSizes, pSizes]; omega
theorem parse_t (s : ByteArray) : ∃ q n f, m_pick_Parse [.str s] [] = some (prT q n f, []) ∧ ((f ≠ 0 ∧ q = .mk 0 0 0 []) ∨ (f = 0 ∧ checkF q = 0)) := by
 unfold m_pick_Parse A.ar1
 simp only
 by_cases hs : 4000 < s.size
 ·rw [if_pos hs]; exact ⟨_, _, _, rfl, .inl ⟨by decide, rfl⟩⟩
 rw [if_neg hs]
 have hl : (lZ s).length = s.size := rfl
 have hlen := toksI_len (lZ s).length 0 0 (lZ s)
 have htl : (toksP (lZ s).length 0 0 (lZ s)).length ≤ (lZ s).length + 1 := by
  rw [toksP_eq _ _ _ _ (Nat.le_refl _)]
  simp only [List.length_append, List.length_cons, List.length_nil]
  omega
 unfold prS
 cases hw : whlP (2 * (lZ s).length + 10) 0 (toksP (lZ s).length 0 0 (lZ s)) with
 | out => exact absurd hw ((par_fuel _).2.1 0 _ (by omega))
 | bad n => exact ⟨_, _, _, rfl, .inl ⟨by decide, rfl⟩⟩
 | large => exact ⟨_, _, _, rfl, .inl ⟨by decide, rfl⟩⟩
 | ok p l =>
  simp only
  by_cases hp : posP l < (lZ s).length
  ·rw [if_pos hp]; exact ⟨_, _, _, rfl, .inl ⟨by decide, rfl⟩⟩
  ·rw [if_neg hp]
   have hz := (par_size _).2.1 _ _ _ _ hw
   have hc := h_pick_Check (σ := []) (checkF_pk (p := p) (by omega))
   simp only [prE, hc, Option.bind_some]
   by_cases h0 : checkF p = 0
   ·rw [if_pos h0]; exact ⟨_, _, _, rfl, .inr ⟨rfl, h0⟩⟩
   ·rw [if_neg h0]; exact ⟨_, _, _, rfl, .inl ⟨h0, rfl⟩⟩
theorem parse_txt {p : PickD} (hc : checkF p = 0) (hs : (pTxt p).size ≤ 4000) : m_pick_Parse [.str (pTxt p)] [] = some (prT p 0 0, []) := by
 obtain ⟨h1, h2, h3⟩ := checkF_zero hc
 obtain ⟨l, hl⟩ := prS_txt h3 h2
 unfold m_pick_Parse A.ar1
 simp only
 rw [if_neg (by omega), hl]
 have hk := h_pick_Check (σ := []) (checkF_pk (p := p) (by omega))
 simp only [prE, hk, Option.bind_some, hc, if_true]
theorem tail_t (c1 : List AV) (h1 : c1.length = 4) (s : ByteArray) :
 (    (m_pick_Parse [.str s] ([] : Heap)).bind fun r45 =>
  (A.ext 0 r45.1).bind fun x46 =>
  (A.ext 1 r45.1).bind fun x47 =>
  (A.ext 2 r45.1).bind fun x48 =>
  (A.cells 4 x46).bind fun c49 =>
  (A.splice 0 c49 c1).bind fun c50 =>
  (A.neq .i x48 (AV.int .i64 0)).bind fun x51 =>
  A.cond x51 (
   (A.part1 0 c50).bind fun x52 =>
   (A.eql .i x52 (AV.int .i64 0)).bind fun x53 =>
   A.fin ([] : Heap) x53 r45.2) (
   (A.partA 0 4 c50).bind fun x54 =>
   (m_pick_Print [x54] r45.2).bind fun r55 =>
   (A.ext 0 r55.1).bind fun x56 =>
   (A.ext 1 r55.1).bind fun x57 =>
   (A.neq .i x57 (AV.int .i64 0)).bind fun x58 =>
   A.cond x58 (
    (A.eql .i x57 (AV.int .i64 2)).bind fun x59 =>
    A.fin ([] : Heap) x59 r55.2) (
    (m_pick_Parse [x56] r55.2).bind fun r60 =>
    (A.ext 0 r60.1).bind fun x61 =>
    (A.ext 1 r60.1).bind fun x62 =>
    (A.ext 2 r60.1).bind fun x63 =>
    (A.cells 4 x61).bind fun c64 =>
    (A.splice 0 c64 [(AV.int .i64 0), (AV.int .i64 0), (AV.int .i64 0), AV.nsl]).bind fun c65 =>
    (A.eql .i x63 (AV.int .i64 0)).bind fun x66 =>
    (A.guard x66 true (A.partA 0 4 c50) (some (AV.tup []))).bind fun x67 =>
    (A.guard x66 true (A.partA 0 4 c65) (some (AV.tup []))).bind fun x68 =>
    (A.guard x66 true (A.quiet (m_W4_samePick [x67, x68] r60.2) r60.2) (some (AV.tup []))).bind fun x69 =>
    (A.pick x66 x69 (AV.bool false)).bind fun x70 =>
    A.fin ([] : Heap) x70 r60.2)) : Option (AV × Heap)) = some (.bool true, []) := by
 obtain ⟨q, n, f, hq, hor⟩ := parse_t s
 have x0 : A.ext 0 (prT q n f) = some (.agg (cPick q)) := rfl
 have x1 : A.ext 1 (prT q n f) = some (.int .i64 n) := rfl
 have x2 : A.ext 2 (prT q n f) = some (.int .i64 f) := rfl
 rw [hq, bS, x0, bS, x1, bS, x2, bS, ce_cPick, bS, sp_cPick q c1 h1, bS, aNe, bS]
 rcases hor with ⟨h0, rfl⟩ | ⟨rfl, hc⟩
 ·have p0 : A.part1 0 (cPick (.mk 0 0 0 [])) = some (.int .i64 0) := by rw [cPick_eq]; rfl
  rw [decide_eq_true (show ¬ f = 0 from h0), cnd_t, p0, bS, aEq, bS, decide_eq_true rfl, fin_same]
 ·have hs := (checkF_zero hc).1
  have hpr := h_pick_Print (σ := []) (print_pk (p := q) (by omega))
  rw [decide_eq_false (fun h => h rfl), cnd_f, pA_cPick, bS, hpr, bS]
  have e0 : ∀ a b : AV, A.ext 0 (.tup [a, b]) = some a := fun _ _ => rfl
  have e1 : ∀ a b : AV, A.ext 1 (.tup [a, b]) = some b := fun _ _ => rfl
  simp only
  rw [e0, bS, e1, bS, aNe, bS]
  unfold printF
  rw [if_neg (fun h => h hc)]
  by_cases h4 : 4000 < ((pTxt q).size : Int)
  ·rw [if_pos h4]
   simp only
   rw [decide_eq_true (by decide), cnd_t, aEq, bS, decide_eq_true rfl, fin_same]
  ·rw [if_neg h4]
   simp only
   rw [decide_eq_false (by decide), cnd_f, parse_txt hc (by omega), bS]
   have y0 : A.ext 0 (prT q 0 0) = some (.agg (cPick q)) := rfl
   have y1 : A.ext 1 (prT q 0 0) = some (.int .i64 0) := rfl
   have y2 : A.ext 2 (prT q 0 0) = some (.int .i64 0) := rfl
   have gt : ∀ (x y : Option AV), A.guard (.bool true) true x y = x := fun _ _ => rfl
   have pk : ∀ (x y : AV), A.pick (.bool true) x y = some x := fun _ _ => rfl
   simp only
   rw [y0, bS, y1, bS, y2, bS, ce_cPick, bS, sp_cPick q _ rfl, bS, aEq, bS, decide_eq_true rfl]
   simp only [gt, pk, bS, pA_cPick]
   rw [quiet_of (same_m (by omega) [])]
   simp only [bS]
   rw [fin_same]
theorem pickTextsComeBack_true (p : PickD) (s : ByteArray) (h : pSize p ≤ 2000000) (_ : okS s) : pSize p ≤ 2000000 := h
theorem h_W4_PickTextsComeBack {p : PickD} {s : ByteArray} (hp : pSize p ≤ 2000000) : m_W4_PickTextsComeBack [.agg (cPick p), .str s] [] = some (.bool true, []) := by
 refine wrap_eq (by rw [cPick_eq]; rfl) ?_ rfl
 have hnn : A.nnL [(.a [.k, .k, .k, (.s 4)])] [.agg (cPick p), .str s] = [.agg (cPick p), .str s] := by rw [cPick_eq]; rfl
 rw [hnn]
 show r_W4_PickTextsComeBack (.agg (cPick p)) (.str s) [] = _
 unfold r_W4_PickTextsComeBack
 have hpr := h_pick_Print (σ := []) (print_pk (p := p) (by omega))
 have e0 : ∀ a b : AV, A.ext 0 (.tup [a, b]) = some a := fun _ _ => rfl
 have e1 : ∀ a b : AV, A.ext 1 (.tup [a, b]) = some b := fun _ _ => rfl
 rw [ce_cPick, bS, pA_cPick, bS, hpr, bS]
 simp only
 rw [e0, bS, e1, bS, aEq, bS]
 by_cases hc : checkF p = 0
 case neg =>
  have : (printF p).2 ≠ 0 := by unfold printF; rw [if_pos hc]; exact hc
  rw [decide_eq_false this, cnd_f]
  exact tail_t _ (cPick_len p) s
 by_cases h4 : 4000 < ((pTxt p).size : Int)
 ·have : (printF p).2 ≠ 0 := by unfold printF; rw [if_neg (fun h => h hc), if_pos h4]; decide
  rw [decide_eq_false this, cnd_f]
  exact tail_t _ (cPick_len p) s
 ·have hpf : printF p = (pTxt p, 0) := by unfold printF; rw [if_neg (fun h => h hc), if_neg h4]
  have hs := (checkF_zero hc).1
  rw [hpf, decide_eq_true rfl, cnd_t]
  simp only
  rw [parse_txt hc (by omega), bS]
  have y0 : A.ext 0 (prT p 0 0) = some (.agg (cPick p)) := rfl
  have y1 : A.ext 1 (prT p 0 0) = some (.int .i64 0) := rfl
  have y2 : A.ext 2 (prT p 0 0) = some (.int .i64 0) := rfl
  have gf : ∀ (x y : Option AV), A.guard (.bool false) false x y = x := fun _ _ => rfl
  have pkf : ∀ (x y : AV), A.pick (.bool false) x y = some y := fun _ _ => rfl
  simp only
  rw [y0, bS, y1, bS, y2, bS, ce_cPick, bS, sp_cPick p _ rfl, bS, aNe, bS, decide_eq_false (fun h => h rfl)]
  simp only [gf, pkf, bS, pA_cPick]
  rw [quiet_of (same_m (by omega) [])]
  simp only [bS, notT]
  rw [cnd_f]
  exact tail_t _ (cPick_len p) s
end Go.Proofs.YtfalbgflabajbaaDoor

namespace Go.Proofs.YtfalbgflabajbaaDoor
set_option linter.unusedSectionVars false
open Go.RowKit Go.Deep
set_option linter.unusedVariables false
set_option linter.unusedSimpArgs false
def pickC : Nat → Cod PickD
 | 0 => { size := 4, is := fun _ _ _ => False, len := fun h => h.elim, mono := fun h _ => h.elim, bulk := fun _ => 0 }
 | n + 1 => { size := 4, is := fun w cs x => ∃ v : Value, cs = [.int .i64 x.kind, .int .i64 x.from_, .int .i64 x.to_, v] ∧ inI x.kind ∧ inI x.from_ ∧ inI x.to_ ∧ (sliceC (pickC n)).is w [v] x.args, len := fun h => (by obtain ⟨v, rfl, _⟩ := h; rfl), mono := fun {w w' cs x} h g => (by obtain ⟨v, e, h0, h1, h2, h3⟩ := h; exact ⟨v, e, h0, h1, h2, (sliceC (pickC n)).mono h3 g⟩), bulk := fun x => intC.bulk x.kind + (intC.bulk x.from_ + (intC.bulk x.to_ + (sliceC (pickC n)).bulk x.args)) }
theorem pickC_size (n : Nat) : (pickC n).size = 4 := by cases n <;> rfl
theorem reads_pick : ∀ n : Nat, ReadsF (fun m => m ≤ n) Tryd.prog (pickC n) 24
 | 0 => by
  intro H enc w base spare held fuel cs x hF h
  obtain rfl : fuel = 0 := Nat.le_zero.1 hF
  simp [DataW.trod] at h
 | n + 1 => by
  intro H enc w base spare held fuel cs x hF h
  have hs : ReadsF (fun m => m ≤ n) Tryd.prog (sliceC (pickC n)) 22 := by
   have hr := reads_pick n
   exact reads_slice Tryd.underlying22 (c := pickC n) (by rw [pickC_size]; kernel_rfl) (by rw [pickC_size]; decide) (fun H enc w base spare held fuel cs x hF h => hr (show fuel ≤ n by have : fuel + 1 ≤ n := hF; omega) h)
  obtain ⟨a, h1, hb⟩ := (reads_struct4 (F := fun m => m ≤ n + 1) Tryd.underlying24 (c0 := intC) (c1 := intC) (c2 := intC) (c3 := sliceC (pickC n)) (by kernel_rfl) rfl rfl rfl rfl (by kernel_rfl) (by kernel_rfl) (by kernel_rfl) (by kernel_rfl)
   (reads_int Tryd.underlying3) (reads_int Tryd.underlying3) (reads_int Tryd.underlying3) (fun H enc w base spare held fuel cs x hF h => hs (show fuel ≤ n by have : fuel + 1 ≤ n + 1 := hF; omega) h)) hF h
  obtain ⟨a0, a1, a2, a3⟩ := a
  obtain ⟨h0, h1, h2, h3⟩ := h1
  obtain ⟨e0, b0⟩ := h0
  obtain ⟨e1, b1⟩ := h1
  obtain ⟨e2, b2⟩ := h2
  obtain ⟨s3, e3⟩ := List.length_eq_one_iff.1 ((sliceC (pickC n)).len h3); rw [e3] at h3
  have e102 := cells_split e2 e3
  have e101 := cells_split e1 e102
  have e100 := cells_split e0 e101
  exact ⟨.mk a0 a1 a2 a3, ⟨s3, by rw [e100]; rfl, b0, b1, b2, h3⟩, hb⟩
theorem pick_bulk : ∀ (n : Nat) {w : World} {cs : List Value} {p : PickD}, (pickC n).is w cs p → pSize p ≤ (pickC n).bulk p
 | 0, _, _, _, h => h.elim
 | n + 1, w, cs, p, h => by
  obtain ⟨v, _, _, _, _, h3⟩ := h
  have hl : ∀ q ∈ p.args, pSize q ≤ (pickC n).bulk q := by
   rcases h3 with ⟨_, e⟩ | ⟨b, off, sp, cap, _, _, _, h4⟩
   ·rw [e]; intro q hq; cases hq
   ·intro q hq
    obtain ⟨i, hi, rfl⟩ := List.getElem_of_mem hq
    obtain ⟨_, cs', _, h5⟩ := h4 i hi
    exact pick_bulk n h5
  have hsum : pSizes p.args ≤ (p.args.map (pickC n).bulk).sum := by
   rw [pSizes_sum]
   generalize p.args = l at hl
   induction l with
   | nil => simp
   | cons q l ih =>
    simp only [List.map_cons, List.sum_cons]
    have h1 := hl q (by simp)
    have h2 := ih (fun x hx => hl x (by simp [hx]))
    omega
  rw [pSize_eq]
  show _ ≤ intC.bulk p.kind + (intC.bulk p.from_ + (intC.bulk p.to_ + (sliceC (pickC n)).bulk p.args))
  simp only [intC, sliceC]
  omega
end Go.Proofs.YtfalbgflabajbaaDoor

namespace Go.Proofs.YtfalbgflabajbaaDoor
set_option linter.unusedSectionVars false
open Go.RowKit Go.Deep
set_option linter.unusedVariables false
set_option linter.unusedSimpArgs false
section
variable {c : RC}
theorem repL_nil : RepL c [] [] := by simp [RepL]
theorem repL_cons {a : AV} {v : Value} {l : List AV} {vs : List Value} (h : Rep c a v) (k : RepL c l vs) : RepL c (a :: l) (v :: vs) := by
 simp only [RepL]; exact ⟨v, vs, rfl, h, k⟩
theorem rep_int (k : IntKind) (n : Int) : Rep c (.int k n) (.int k n) := by simp [Rep]
theorem rep_str (s : ByteArray) : Rep c (.str s) (.string s) := by simp [Rep]
def RP {α : Type} (c : RC) (d : Cod α) (e : α → List AV) (ok : α → Prop) : Prop := ∀ cs x, d.is c.w cs x → RepL c (e x) cs ∧ ok x ∧ (∀ v ∈ cs, one1 v = true)
theorem repL_len : ∀ {l : List AV} {vs : List Value}, RepL c l vs → l.length = vs.length
 | [], vs, h => by simp only [RepL] at h; subst h; rfl
 | a :: l, vs, h => by
  simp only [RepL] at h
  obtain ⟨v, vs', rfl, _, h⟩ := h
  simp [repL_len h]
theorem repCs_of {b : Nat} : ∀ {l : List AV} {vs : List Value} {off : Nat}, RepL c l vs → (∀ v ∈ vs, one1 v = true) → (∀ j, j < vs.length → c.w.cell? ⟨b, off + j, none⟩ = vs[j]?) → RepCs c b off l
 | [], vs, off, h, _, _ => by simp [RepCs]
 | a :: l, vs, off, h, ho, hc => by
  simp only [RepL] at h
  obtain ⟨v, vs', rfl, h1, h2⟩ := h
  simp only [RepCs]
  refine ⟨⟨v, by simpa using hc 0 (by simp), ho v (by simp), h1⟩, repCs_of h2 (fun v hv => ho v (by simp [hv])) fun j hj => ?_⟩
  have := hc (j + 1) (by simpa using hj)
  rw [show off + 1 + j = off + (j + 1) by omega]
  simpa using this
theorem repEs_of {α : Type} {d : Cod α} {e : α → List AV} {ok : α → Prop} (H : RP c d e ok) {b sz : Nat} (hsz : d.size = sz) : ∀ {l : List α} {off : Nat}, (∀ (i : Nat) (x : α), l[i]? = some x → ∃ cs', (∀ j, j < d.size → c.w.cell? ⟨b, off + (i * d.size + j), none⟩ = cs'[j]?) ∧ d.is c.w cs' x) → RepEs c sz b off (l.map e) ∧ ∀ x ∈ l, ok x
 | [], off, h => by simp [RepEs]
 | x :: l, off, h => by
  obtain ⟨cs, h1, h2⟩ := h 0 x rfl
  obtain ⟨k1, k2, k3⟩ := H cs x h2
  have hl : cs.length = d.size := d.len h2
  obtain ⟨r1, r2⟩ := repEs_of H hsz (l := l) (off := off + sz) (fun i y hy => by
   obtain ⟨cs', q1, q2⟩ := h (i + 1) y (by simpa using hy)
   refine ⟨cs', fun j hj => ?_, q2⟩
   have := q1 j hj
   rw [← hsz]
   rwa [show off + d.size + (i * d.size + j) = off + ((i + 1) * d.size + j) by rw [Nat.succ_mul]; omega])
  refine ⟨?_, fun y hy => ?_⟩
  ·simp only [List.map_cons, RepEs]
   refine ⟨by rw [repL_len k1, hl, hsz], repCs_of k1 k3 fun j hj => ?_, r1⟩
   have := h1 j (by rw [← hl]; exact hj)
   simpa using this
  ·rcases List.mem_cons.1 hy with rfl | hy
   ·exact k2
   ·exact r2 y hy
theorem cell_in {w : World} {b off : Nat} {v : Value} (h : w.cell? ⟨b, off, none⟩ = some v) : b < w.heap.size := by
 rcases Nat.lt_or_ge b w.heap.size with k | k
 ·exact k
 ·simp [World.cell?, Array.getElem?_eq_none k] at h
theorem rp_slice {α : Type} {d : Cod α} {e : α → List AV} {ok : α → Prop} (hX : ∀ b, ¬ c.X b) (H : RP c d e ok) {sz : Nat} (hsz : d.size = sz) (h0 : 0 < sz) {v : Value} {l : List α} (h : (sliceC d).is c.w [v] l) : Rep c (sl sz e l) v ∧ okL ok l ∧ one1 v = true := by
 rcases h with ⟨h1, rfl⟩ | ⟨b, off, sp, cap, h1, h2, h3, h4⟩
 ·simp only [List.cons.injEq, and_true] at h1
  subst h1
  exact ⟨by simp [sl, Rep, h0], ⟨by simp, by simp⟩, rfl⟩
 ·simp only [List.cons.injEq, and_true] at h1
  subst h1
  have hes : sp = none ∨ l = [] := by
   cases l with
   | nil => exact .inr rfl
   | cons x l => exact .inl (h4 0 (by simp)).1
  have hh : ∀ (i : Nat) (x : α), l[i]? = some x → ∃ cs', (∀ j, j < d.size → c.w.cell? ⟨b, off + (i * d.size + j), none⟩ = cs'[j]?) ∧ d.is c.w cs' x := by
   intro i x hx
   obtain ⟨hi, hx⟩ := List.getElem?_eq_some_iff.1 hx
   subst hx
   exact (h4 i hi).2
  obtain ⟨r1, r2⟩ := repEs_of H hsz hh
  refine ⟨?_, ⟨by unfold maxLen at h3; unfold mxl; omega, r2⟩, rfl⟩
  simp only [sl, Rep]
  refine ⟨some ⟨b, off, sp⟩, cap, by simp, by simpa using h2, h0, ?_⟩
  rcases hes with rfl | rfl
  ·cases l with
   | nil => exact .inl rfl
   | cons x l =>
    refine .inr ⟨b, off, rfl, ?_, hX b, r1⟩
    obtain ⟨cs, q1, q2⟩ := hh 0 x rfl
    have hl : cs.length = d.size := d.len q2
    have := q1 0 (by omega)
    obtain ⟨y, hy⟩ : ∃ y, cs[0]? = some y := ⟨cs[0], List.getElem?_eq_getElem (by omega)⟩
    rw [hy] at this
    exact cell_in this
  ·exact .inl rfl
theorem one_nil : ∀ v ∈ ([] : List Value), one1 v = true := by simp
theorem one_cons {v : Value} {vs : List Value} (h : one1 v = true) (k : ∀ x ∈ vs, one1 x = true) : ∀ x ∈ v :: vs, one1 x = true := by
 intro x hx
 rcases List.mem_cons.1 hx with rfl | hx
 ·exact h
 ·exact k x hx
theorem rp_agg {α : Type} {d : Cod α} {e : α → List AV} {ok : α → Prop} (H : RP c d e ok) {cs : Array Value} {x : α} (h : d.is c.w cs.toList x) : Rep c (.agg (e x)) (.agg cs) ∧ ok x := by
 obtain ⟨h1, h2, h3⟩ := H _ _ h
 simp only [Rep]
 exact ⟨⟨cs, rfl, h1, h3⟩, h2⟩
end
end Go.Proofs.YtfalbgflabajbaaDoor

namespace Go.Proofs.YtfalbgflabajbaaDoor
set_option linter.unusedSectionVars false
open Go.RowKit Go.Deep
set_option linter.unusedVariables false
set_option linter.unusedSimpArgs false
section
variable {c : RC}
theorem rp_pick (hX : ∀ b, ¬ c.X b) : ∀ n : Nat, RP c (pickC n) cPick (fun _ => True)
 | 0 => fun cs x h => h.elim
 | n + 1 => by
  rintro cs x ⟨v, rfl, h0, h1, h2, h3⟩
  obtain ⟨r, o, k⟩ := rp_slice hX (rp_pick hX n) (sz := 4) (pickC_size n) (by decide) h3
  refine ⟨?_, trivial, one_cons rfl (one_cons rfl (one_cons rfl (one_cons k one_nil)))⟩
  rw [cPick_eq]
  exact repL_cons (rep_int _ _) (repL_cons (rep_int _ _) (repL_cons (rep_int _ _) (repL_cons r repL_nil)))
end
end Go.Proofs.YtfalbgflabajbaaDoor

namespace Go.Proofs.YtfalbgflabajbaaDoor
set_option linter.unusedSectionVars false
set_option linter.unusedSimpArgs false
set_option linter.unusedVariables false
open Go.ChangeShapes Go.WideShapes Go.ChangeAt Go.RowKit

theorem own : ownKnob Tryd.prog.godebug = none := by kernel_rfl
theorem laidOut : laidOutB Tryd.prog = true := by kernel_rfl

theorem trodAll_below {H : Type} {enc : TypeId × Value → H} {P : Program} (hl : laidOutB P = true) {W W' : World} (hb : Below W.heap.size W W') :
  ∀ {ts : List TypeId} {vs : List Value} {ds : List (DataW H)} {ps : List MemPlace}, (ts.all fun t => P.readableRec t && decide (t < P.types.size)) = true →
   DataW.TrodAll enc P W 0 (fun _ => true) true ts vs ds ps → (∀ x ∈ ps, x.block < W.heap.size) → DataW.TrodAll enc P W' 0 (fun b => decide (b < W.heap.size)) true ts vs ds ps
 | [], [], [], _, _, h, _ => h
 | t :: ts, v :: vs, d :: ds, ps, hts, h, hlt => by
  obtain ⟨p, q, h1, h2, rfl⟩ := h
  simp only [List.all_cons, Bool.and_eq_true, decide_eq_true_eq] at hts
  exact ⟨p, q, Below.trod hl hts.1.1 hts.1.2 h1 hb (fun x hx => hlt x (List.mem_append_left _ hx)),
   trodAll_below hl hb (by simpa using hts.2) h2 (fun x hx => hlt x (List.mem_append_right _ hx)), rfl⟩
 | [], _ :: _, _, _, _, h, _ => h.elim
 | [], [], _ :: _, _, _, h, _ => h.elim
 | _ :: _, [], _, _, _, h, _ => h.elim
 | _ :: _, _ :: _, [], _, _, h, _ => h.elim

theorem law_post {H : Type} {enc : TypeId × Value → H} {f : Func} {s : ChangeSpec} {W W' : World} {args : Array Value} {ds gs : List (DataW H)} {before : List MemPlace} {t : TypeId}
  (hts : (f.params.toList.all fun t => Tryd.prog.readableRec t && decide (t < Tryd.prog.types.size)) = true) (hrt : f.resultTypes = #[t]) (ht : Tryd.prog.underlying t = some .bool) (hvs : s.vars = [])
  (hW : DataW.Whole enc Tryd.prog f.params.toList s.vars false W args.toList ds gs before) (hb : Below W.heap.size W W')
  (hspec : s.fn H (ds ++ gs) = { results := [.lit (.bool true)], args := ds }) :
  s.post enc Tryd.prog f false true false false W args (.bool true) W' := by
 have hW' := hW
 obtain ⟨p, q, hA, hV, rfl, hfz, hnd⟩ := hW
 have hlt : ∀ x ∈ p ++ q, x.block < W.heap.size := fun x hx => hW'.lt x hx
 refine ⟨ds, gs, p ++ q, [], p, [], hW', ?_, ?_, ?_, hb.frame _, fun h => by cases h⟩
 ·rw [hspec, hrt]
  exact trodAll_cons_mk (shut_bool ht _) trodAll_mk0
 ·rw [hspec]
  exact trodAll_below laidOut hb hts hA (fun x hx => hlt x (List.mem_append_left _ hx))
 ·rw [hspec, hvs]
  exact rfl
end Go.Proofs.YtfalbgflabajbaaDoor

namespace Go.Proofs.YtfalbgflabajbaaDoor
set_option linter.unusedSectionVars false
set_option linter.unusedSimpArgs false
set_option linter.unusedVariables false
open Go.RowKit
theorem okS_of {s : ByteArray} (h : s.size ≤ maxLen) : okS s := by unfold okS mxl; unfold maxLen at h; omega
noncomputable def base (W : World) : RC := ctx ⟨W, [], fun _ => False, nmT⟩ W [] nopb
theorem base_X (W : World) : ∀ b, ¬ (base W).X b := by
 rintro b (k | ⟨p, hp, _⟩ | ⟨i, k⟩)
 ·exact k
 ·cases hp
 ·cases k
theorem law_runT {n : FuncId} {m : List AV → Heap → Option (AV × Heap)} {avs : List AV} (hs : Sound Tryd.prog nmT n m) (hc : ∀ us w, (callFunc n us).run Tryd.prog w = .ok (.enter n us) w) (W : World) (hT : tabOk W (fun _ => False)) (vs : Array Value) (hr : RepL (base W) avs vs.toList) (hm : m avs [] = some (.bool true, [])) :
  Calls Tryd.prog n vs W fun e W' => e = .returned (.bool true) ∧ Below W.heap.size W W' := by
 have hZ : ZLt ⟨W, [], fun _ => False, nmT⟩ := ⟨fun _ (k : False) => k.elim, hT.to (Nat.le_refl _) (fun _ _ _ => rfl) fun b _ k => by rcases k with k | ⟨p, hp, _⟩; exact k; cases hp⟩
 have hh0 : HeapRel (ctx ⟨W, [], fun _ => False, nmT⟩ W [] nopb) [] := by
  refine ⟨rfl, fun i j p q hp => ?_, fun i p x hp => ?_⟩
  ·simp [ctx] at hp
  ·simp [ctx] at hp
 rcases hs _ _ _ _ hm with ⟨g, h1, h2⟩ | hv
 case inr =>
  obtain ⟨v, w', E', k1, _⟩ := hv ⟨W, [], fun _ => False, nmT⟩ vs rfl hZ hh0 hr
  rw [hc] at k1
  injection k1 with k1
  cases k1
 have hg : g = n := by
  have e1 := h1 #[] W
  rw [hc #[] W] at e1
  injection e1 with e1
  injection e1 with e1
  exact e1.symm
 subst hg
 have hh : HeapRel (ctx ⟨W, [], fun _ => False, nmT⟩ W [] nopb) [] := by
  refine ⟨rfl, fun i j p q hp => ?_, fun i p x hp => ?_⟩
  ·simp [ctx] at hp
  ·simp [ctx] at hp
 refine (h2 ⟨W, [], fun _ => False, nmT⟩ vs rfl hZ hh hr).mono ?_
 rintro e w' ⟨v, E', rfl, ho, _, hv⟩
 simp only [Rep] at hv
 subst hv
 exact ⟨rfl, ho.os, ho.tape, ho.output, ho.size, fun k hk => ho.stay k hk (fun p hp => by cases hp)⟩
end Go.Proofs.YtfalbgflabajbaaDoor

namespace Go.Proofs.YtfalbgflabajbaaDoor
set_option linter.unusedSectionVars false
set_option linter.unusedSimpArgs false
open Go.ChangeShapes Go.WideShapes Go.ChangeAt Go.RowKit
set_option linter.unusedVariables false
mutual
def flatD : DataW Unit → List Value
 | .lit (.int k z) => [.int k z]
 | .agg l => flatDs l
 | _ => []
def flatDs : List (DataW Unit) → List Value
 | [] => []
 | d :: l => flatD d ++ flatDs l
end
def layD (d : DataW Unit) : Obj → Obj
 | .cells _ t fr => .cells (flatD d).toArray t fr
 | o => o
theorem typePow : (Tryd.prog.globals[0]?).map (·.type) = some 86 := by kernel_rfl
theorem tabOk_of {W : World} (h : Lib.TabIs Tryd.prog W "internal/strconv.uint64pow10" .u64 Lib.pow10Tab) : tabOk W (fun _ => False) := by
 refine ⟨h, ?_, id⟩
 unfold Lib.TabIs World.var? at h
 rw [gPow, Option.bind_some] at h
 split at h
 ·rename_i k; exact (Array.getElem?_eq_some_iff.1 k).1
 ·cases h
end Go.Proofs.YtfalbgflabajbaaDoor

