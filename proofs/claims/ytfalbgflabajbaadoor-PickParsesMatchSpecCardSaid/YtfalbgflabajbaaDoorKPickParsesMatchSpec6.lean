/- Parts of the proof of PickParsesMatchSpec, in order. -/
import Derived.Orders
import Derived.Below
import Derived.WalkKit
import Derived.Test.YtfalbgflabajbaaDoorRows
import Derived.Lib.LaidTab
import Derived.Lib.ItoaNum
import Derived.KernelRfl
import Derived.Laws.StructEq
import Derived.Laws.Append
import Derived.Laws.AppendOwn
import Derived.Lib.Bytealg
import Derived.Sort.Defs
import Derived.Lib.BitFns
import Derived.Lib.Strings
import Derived.Lib.Split
import Derived.Lib.IndexMore
import Derived.Lib.TrimByte
import Derived.Lib.Join
import Derived.Lib.Atoi
import Derived.Test.YtfalbgflabajbaaDoorShelf
import Derived.WalkSpells
import Derived.ProofKit
import Derived.OpenShut
import Derived.Deep.QuietTactic
import Derived.BigQuiet
import Derived.Lib.Hide
import Derived.IntWalk
import Derived.Deep.RegionHeld3
import Derived.Test.YtfalbgflabajbaaDoorTrim
import Derived.Lib.SmallJoins
import Derived.Deep.Slices
import Derived.OwnWalk
import Derived.Laws.OwnMore
import Derived.Deep.AppendLies
import Derived.StillTail
import Derived.Lib.QuietBelow
import Derived.WalkLawsBesides
import Derived.Recover
import Derived.Defers
import Derived.Lib.Builder
import Derived.Lib.AppendStr
import Derived.Lib.UnsafeStr
import Derived.Lib.OthersKept
import Derived.Lib.OwnKind
import Derived.Laws.Externs
import Derived.Shelf.Strings.Builder1
import Derived.Sort.Statements
import Derived.Lib.ItoaMem
import Derived.Lib.ItoaLen
import Derived.Deep.DeepHandedRow
import Derived.Test.YtfalbgflabajbaaDoorKPickParsesMatchSpec5
namespace Go.Proofs.YtfalbgflabajbaaDoor
set_option linter.unusedSectionVars false
set_option linter.unusedVariables false
set_option linter.unusedSimpArgs false
set_option maxRecDepth 100000
noncomputable def t_pick_size (q_pick_size : PickD → Option (Int × Int)) (a0 : PickD) : Option (Int × Int) :=
 forE a0.args (fun (i8 : Nat) e7 (s1 : (Int × Int)) => (show Option (Lr (Int × Int) (Int × Int) Unit) from
   (q_pick_size e7).bind fun r9 =>
   some (.go (IntKind.i64.wrap (s1.1 + r9.1), (if s1.2 < IntKind.i64.wrap (r9.2 + 1) then IntKind.i64.wrap (r9.2 + 1) else s1.2))))) (fun s1 => some (s1.1, s1.2)) (1, 1) (fun b2 =>
  some (b2.1, b2.2)) (fun b2 =>
  none)
theorem h_pick_size {rc : Nat → List AV → Heap → Option (AV × Heap)} (q_pick_size : PickD → Option (Int × Int)) (hq_pick_size : ∀ (x0 : PickD) (s : Heap) r, q_pick_size x0 = some r → rc 37 [(AV.agg (cPick x0))] s = some ((AV.tup [(AV.int .i64 r.1), (AV.int .i64 r.2)]), s)) {a0 : PickD} {σ : Heap} {r : (Int × Int)} (h : t_pick_size q_pick_size a0 = some r) : A.wrap true [(.a [.k, .k, .k, (.s 4)])] .k (A.ar1 (r_pick_size rc)) [(AV.agg (cPick a0))] σ = some ((AV.tup [(AV.int .i64 r.1), (AV.int .i64 r.2)]), σ) := by
 refine rf_wrap1 (f := r_pick_size rc) (y0 := (AV.agg (cPick a0))) (enc := fun r : (Int × Int) => (AV.tup [(AV.int .i64 r.1), (AV.int .i64 r.2)])) (T := t_pick_size q_pick_size a0) (by first | rfl | (simp only [cPick_eq]; rfl)) (by first | rfl | (simp only [cPick_eq]; rfl)) ?_ r h
 unfold r_pick_size t_pick_size
 refine rf_s (cPick a0) (by first | rfl | (simp only [cPick_eq]; rfl)) <| rf_s (sl 4 cPick a0.args) (by first | rfl | (simp only [cPick_eq]; rfl)) <| rf_s _ (lenS_sl _ _ _) ?_
 refine rf_for (B := (Int × Int)) (R := Unit) (fun (i8 : Nat) (s1 : (Int × Int)) v w3 => v = [(AV.int .i64 s1.1), (AV.int .i64 s1.2), (AV.int .i64 (i8 : Int))] ∧ σ = w3) (fun (b2 : (Int × Int)) (q : LS) => ∃ u11, q = ((AX.exit 0), ([(AV.int .i64 b2.1), (AV.int .i64 b2.2), u11] : List AV), σ)) (fun (b2 : Unit) (q : LS) => False) ?_ ?_ ⟨rfl, rfl⟩ ?_ ?_
 ·intro hle7 i8 e7 s1 v w3 he7 hI
  obtain ⟨rfl, rfl⟩ := hI
  refine rf_s _ (ix_lt he7) <| rf_ct <| rf_s _ (ix_for he7) <| rf_s (AV.agg (cPick e7)) (by first | rfl | (simp only [cPick_eq]; rfl)) <| rf_s (cPick e7) (by first | rfl | (simp only [cPick_eq]; rfl)) <| rf_s _ (sp_cPick _ _ rfl) <| rf_s (AV.agg (cPick e7)) (by first | rfl | (simp only [cPick_eq]; rfl)) ?_
  refine rf_o (fun r9 : (Int × Int) => ((AV.tup [(AV.int .i64 r9.1), (AV.int .i64 r9.2)]), σ)) (fun r9 hr9 => hq_pick_size _ _ _ hr9) (fun r9 hr9 => ?_)
  refine rf_s (AV.int .i64 r9.1) (by first | rfl | (simp only [cPick_eq]; rfl)) <| rf_s (AV.int .i64 r9.2) (by first | rfl | (simp only [cPick_eq]; rfl)) <| rf_s (AV.int .i64 (IntKind.i64.wrap (s1.1 + r9.1))) (by first | rfl | (simp only [cPick_eq]; rfl)) <| rf_s (AV.int .i64 (IntKind.i64.wrap (r9.2 + 1))) (by first | rfl | (simp only [cPick_eq]; rfl)) <| rf_s (AV.int .i64 (if s1.2 < IntKind.i64.wrap (r9.2 + 1) then IntKind.i64.wrap (r9.2 + 1) else s1.2)) (by first | rfl | (simp only [cPick_eq]; rfl)) <| rf_s _ (ix_inc he7 hle7) ?_
  exact rf_ret (rnd_go ⟨rfl, rfl⟩)
 ·intro hl s1 v w3 hI
  obtain ⟨rfl, rfl⟩ := hI
  refine rf_s _ (ix_end _) <| rf_cf ?_
  exact rf_ret ⟨by simp, ⟨_, rfl⟩⟩
 ·intro hl b2 q hq
  obtain ⟨u11, rfl⟩ := hq
  refine rf_bt (by first | rfl | (simp only [cPick_eq]; rfl)) ?_
  exact rf_fin _ (fin_same _ _) ⟨rfl, rfl⟩
 ·intro hl b2 q hq
  exact False.elim hq

noncomputable def t_pick_check (q_pick_check : PickD → Option Int) (a0 : PickD) : Option Int :=
 if a0.kind = 1 then
  (show Option Bool from
    if a0.kind = 4 then
     some (decide ((a0.args.length : Int) < 2))
    else
    some (decide (¬ ((a0.args.length : Int) = 0)))).bind fun j2 =>
  if ((j2 || ((!true) && (decide (¬ (a0.frm = 0))))) || ((!true) && (decide (¬ (a0.to = 0))))) = true then
   some 3
  else
  (show Option Int from
    if a0.kind = 2 then
     some 999
    else
    (show Option Int from
      if a0.kind = 3 then
       some 999
      else
      some 9999).bind fun j6 =>
    some j6).bind fun j10 =>
  if ((true && (!(withinB a0.frm 1 j10))) || (true && (!(withinB a0.to 1 j10)))) = true then
   some 1
  else
  forE a0.args (fun (i20 : Nat) e19 (s13 : Unit) => (show Option (Lr Unit Unit Int) from
    (q_pick_check e19).bind fun r21 =>
    if ¬ (r21 = 0) then
     some (.ret r21)
    else
    some (.go ()))) (fun s13 => some ()) () (fun b14 =>
   some 0) (fun b14 =>
   some b14)
 else
 (show Option Bool from
   if a0.kind = 2 then
    some (decide (a0.kind = 2))
   else
   some (decide (a0.kind = 3))).bind fun j26 =>
 if j26 = true then
  (show Option Bool from
    if a0.kind = 4 then
     some (decide ((a0.args.length : Int) < 2))
    else
    some (decide (¬ ((a0.args.length : Int) = 0)))).bind fun j30 =>
  if ((j30 || ((!true) && (decide (¬ (a0.frm = 0))))) || ((!false) && (decide (¬ (a0.to = 0))))) = true then
   some 3
  else
  (show Option Int from
    if a0.kind = 2 then
     some 999
    else
    (show Option Int from
      if a0.kind = 3 then
       some 999
      else
      some 9999).bind fun j34 =>
    some j34).bind fun j38 =>
  if ((true && (!(withinB a0.frm 1 j38))) || (false && (!(withinB a0.to 1 j38)))) = true then
   some 1
  else
  forE a0.args (fun (i48 : Nat) e47 (s41 : Unit) => (show Option (Lr Unit Unit Int) from
    (q_pick_check e47).bind fun r49 =>
    if ¬ (r49 = 0) then
     some (.ret r49)
    else
    some (.go ()))) (fun s41 => some ()) () (fun b42 =>
   some 0) (fun b42 =>
   some b42)
 else
 (show Option Bool from
   if a0.kind = 4 then
    some (decide (a0.kind = 4))
   else
   some (decide (a0.kind = 5))).bind fun j54 =>
 if j54 = true then
  (show Option Bool from
    if a0.kind = 4 then
     some (decide ((a0.args.length : Int) < 2))
    else
    some (decide (¬ ((a0.args.length : Int) = 2)))).bind fun j58 =>
  if ((j58 || ((!false) && (decide (¬ (a0.frm = 0))))) || ((!false) && (decide (¬ (a0.to = 0))))) = true then
   some 3
  else
  (show Option Int from
    if a0.kind = 2 then
     some 999
    else
    (show Option Int from
      if a0.kind = 3 then
       some 999
      else
      some 9999).bind fun j62 =>
    some j62).bind fun j66 =>
  if ((false && (!(withinB a0.frm 1 j66))) || (false && (!(withinB a0.to 1 j66)))) = true then
   some 1
  else
  forE a0.args (fun (i76 : Nat) e75 (s69 : Unit) => (show Option (Lr Unit Unit Int) from
    (q_pick_check e75).bind fun r77 =>
    if ¬ (r77 = 0) then
     some (.ret r77)
    else
    some (.go ()))) (fun s69 => some ()) () (fun b70 =>
   some 0) (fun b70 =>
   some b70)
 else
 (show Option Bool from
   if a0.kind = 6 then
    some (decide (a0.kind = 6))
   else
   (show Option Bool from
     if a0.kind = 7 then
      some (decide (a0.kind = 7))
     else
     some (decide (a0.kind = 8))).bind fun j82 =>
   some j82).bind fun j86 =>
 if j86 = true then
  (show Option Bool from
    if a0.kind = 4 then
     some (decide ((a0.args.length : Int) < 2))
    else
    some (decide (¬ ((a0.args.length : Int) = 1)))).bind fun j90 =>
  if ((j90 || ((!false) && (decide (¬ (a0.frm = 0))))) || ((!false) && (decide (¬ (a0.to = 0))))) = true then
   some 3
  else
  (show Option Int from
    if a0.kind = 2 then
     some 999
    else
    (show Option Int from
      if a0.kind = 3 then
       some 999
      else
      some 9999).bind fun j94 =>
    some j94).bind fun j98 =>
  if ((false && (!(withinB a0.frm 1 j98))) || (false && (!(withinB a0.to 1 j98)))) = true then
   some 1
  else
  forE a0.args (fun (i108 : Nat) e107 (s101 : Unit) => (show Option (Lr Unit Unit Int) from
    (q_pick_check e107).bind fun r109 =>
    if ¬ (r109 = 0) then
     some (.ret r109)
    else
    some (.go ()))) (fun s101 => some ()) () (fun b102 =>
   some 0) (fun b102 =>
   some b102)
 else
 if a0.kind = 9 then
  (show Option Bool from
    if a0.kind = 4 then
     some (decide ((a0.args.length : Int) < 2))
    else
    some (decide (¬ ((a0.args.length : Int) = 1)))).bind fun j114 =>
  if ((j114 || ((!true) && (decide (¬ (a0.frm = 0))))) || ((!true) && (decide (¬ (a0.to = 0))))) = true then
   some 3
  else
  (show Option Int from
    if a0.kind = 2 then
     some 999
    else
    (show Option Int from
      if a0.kind = 3 then
       some 999
      else
      some 9999).bind fun j118 =>
    some j118).bind fun j122 =>
  if ((true && (!(withinB a0.frm 1 j122))) || (true && (!(withinB a0.to 1 j122)))) = true then
   some 1
  else
  forE a0.args (fun (i132 : Nat) e131 (s125 : Unit) => (show Option (Lr Unit Unit Int) from
    (q_pick_check e131).bind fun r133 =>
    if ¬ (r133 = 0) then
     some (.ret r133)
    else
    some (.go ()))) (fun s125 => some ()) () (fun b126 =>
   some 0) (fun b126 =>
   some b126)
 else
 some 4
theorem h_pick_check {rc : Nat → List AV → Heap → Option (AV × Heap)} (q_pick_check : PickD → Option Int) (hq_pick_check : ∀ (x0 : PickD) (s : Heap) r, q_pick_check x0 = some r → rc 38 [(AV.agg (cPick x0))] s = some ((AV.int .i64 r), s)) {a0 : PickD} {σ : Heap} {r : Int} (h : t_pick_check q_pick_check a0 = some r) : A.wrap true [(.a [.k, .k, .k, (.s 4)])] .k (A.ar1 (r_pick_check rc)) [(AV.agg (cPick a0))] σ = some ((AV.int .i64 r), σ) := by
 refine rf_wrap1 (f := r_pick_check rc) (y0 := (AV.agg (cPick a0))) (enc := fun r : Int => (AV.int .i64 r)) (T := t_pick_check q_pick_check a0) (by first | rfl | (simp only [cPick_eq]; rfl)) (by first | rfl | (simp only [cPick_eq]; rfl)) ?_ r h
 unfold r_pick_check t_pick_check
 refine rf_s (cPick a0) (by first | rfl | (simp only [cPick_eq]; rfl)) <| rf_s (AV.int .i64 a0.kind) (by first | rfl | (simp only [cPick_eq]; rfl)) <| rf_s _ (aEq _ _ _) ?_
 refine rf_c (p := a0.kind = 1) (fun c141 => ?_) (fun c141 => ?_)
 ·refine rf_s (sl 4 cPick a0.args) (by first | rfl | (simp only [cPick_eq]; rfl)) <| rf_s _ (lenS_sl _ _ _) <| rf_s _ (aNe _ _ _) <| rf_s (AV.int .i64 a0.kind) (by first | rfl | (simp only [cPick_eq]; rfl)) <| rf_s _ (aEq _ _ _) ?_
  refine rf_b (ω := Bool) (fun j2 a => a = (([(AV.lbx (cPick a0)), (AV.bool j2)] : List AV), σ)) (
    by
     refine rf_c (p := a0.kind = 4) (fun c1 => ?_) (fun c1 => ?_)
     ·refine rf_s (sl 4 cPick a0.args) (by first | rfl | (simp only [cPick_eq]; rfl)) <| rf_s _ (lenS_sl _ _ _) <| rf_s (AV.bool (decide ((a0.args.length : Int) < 2))) (by first | rfl | (simp only [cPick_eq]; rfl)) ?_
      exact rf_ret rfl
     exact rf_ret rfl
    ) (fun j2 a ha => ?_)
  subst ha
  refine rf_gf (AV.bool true) (fun hg => by first | rfl | (simp only [cPick_eq]; rfl)) <| rf_gf (AV.bool (!true)) (fun hg => by (try rw [hg]); exact rfl) <| rf_gf (AV.bool (!true)) (fun hg => by (try rw [hg]); exact rfl) <| rf_s _ (by first | rfl | (simp only [cPick_eq]; rfl)) <| rf_ggt (AV.int .i64 a0.frm) (fun hg => by first | rfl | (simp only [cPick_eq]; rfl)) <| rf_ggt (AV.bool (decide (¬ (a0.frm = 0)))) (fun hg => by (try rw [hg]); exact (aNe _ _ _)) <| rf_gf (AV.bool ((!true) && (decide (¬ (a0.frm = 0))))) (fun hg => by (try rw [hg]); exact (pk_and _ _)) <| rf_s _ (pk_or _ _) <| rf_gf (AV.bool true) (fun hg => by first | rfl | (simp only [cPick_eq]; rfl)) <| rf_gf (AV.bool (!true)) (fun hg => by (try rw [hg]); exact rfl) <| rf_gf (AV.bool (!true)) (fun hg => by (try rw [hg]); exact rfl) <| rf_s _ (by first | rfl | (simp only [cPick_eq]; rfl)) <| rf_ggt (AV.int .i64 a0.to) (fun hg => by first | rfl | (simp only [cPick_eq]; rfl)) <| rf_ggt (AV.bool (decide (¬ (a0.to = 0)))) (fun hg => by (try rw [hg]); exact (aNe _ _ _)) <| rf_gf (AV.bool ((!true) && (decide (¬ (a0.to = 0))))) (fun hg => by (try rw [hg]); exact (pk_and _ _)) <| rf_s _ (pk_or _ _) ?_
  refine rf_cb (c := ((j2 || ((!true) && (decide (¬ (a0.frm = 0))))) || ((!true) && (decide (¬ (a0.to = 0)))))) (fun c24 => ?_) (fun c24 => ?_)
  ·exact rf_fin _ (fin_same _ _) ⟨rfl, rfl⟩
  refine rf_s _ (by first | rfl | (simp only [cPick_eq]; rfl)) <| rf_s (AV.int .i64 a0.kind) (by first | rfl | (simp only [cPick_eq]; rfl)) <| rf_s _ (aEq _ _ _) ?_
  refine rf_b (ω := Int) (fun j10 a => a = (([(AV.lbx (cPick a0)), (AV.int .i64 j10)] : List AV), σ)) (
    by
     refine rf_c (p := a0.kind = 2) (fun c9 => ?_) (fun c9 => ?_)
     ·exact rf_ret rfl
     refine rf_s _ (aEq _ _ _) ?_
     refine rf_b (ω := Int) (fun j6 a => a = (([(AV.lbx (cPick a0)), (AV.int .i64 j6)] : List AV), σ)) (
       by
        refine rf_c (p := a0.kind = 3) (fun c5 => ?_) (fun c5 => ?_)
        ·exact rf_ret rfl
        exact rf_ret rfl
       ) (fun j6 a ha => ?_)
     subst ha
     exact rf_ret rfl
    ) (fun j10 a ha => ?_)
  subst ha
  refine rf_s _ (by first | rfl | (simp only [cPick_eq]; rfl)) <| rf_gt (AV.int .i64 a0.frm) (fun hg => by first | rfl | (simp only [cPick_eq]; rfl)) <| rf_gt (AV.int .i64 j10) (fun hg => by first | rfl | (simp only [cPick_eq]; rfl)) <| rf_gt (AV.bool (withinB a0.frm 1 j10)) (fun hg => by (try rw [hg]); exact (quiet_of (Within_eq a0.frm 1 j10 σ))) <| rf_gt (AV.bool (!(withinB a0.frm 1 j10))) (fun hg => by (try rw [hg]); exact rfl) <| rf_s _ (pk_and _ _) <| rf_gf (AV.bool true) (fun hg => by first | rfl | (simp only [cPick_eq]; rfl)) <| rf_gf (AV.bool true) (fun hg => by (try rw [hg]); exact rfl) <| rf_s _ (by first | rfl | (simp only [cPick_eq]; rfl)) <| rf_ggt (AV.int .i64 a0.to) (fun hg => by first | rfl | (simp only [cPick_eq]; rfl)) <| rf_ggt (AV.int .i64 j10) (fun hg => by first | rfl | (simp only [cPick_eq]; rfl)) <| rf_ggt (AV.bool (withinB a0.to 1 j10)) (fun hg => by (try rw [hg]); exact (quiet_of (Within_eq a0.to 1 j10 σ))) <| rf_ggt (AV.bool (!(withinB a0.to 1 j10))) (fun hg => by (try rw [hg]); exact rfl) <| rf_gf (AV.bool (true && (!(withinB a0.to 1 j10)))) (fun hg => by (try rw [hg]); exact (pk_and _ _)) <| rf_s _ (pk_or _ _) ?_
  refine rf_cb (c := ((true && (!(withinB a0.frm 1 j10))) || (true && (!(withinB a0.to 1 j10))))) (fun c23 => ?_) (fun c23 => ?_)
  ·exact rf_fin _ (fin_same _ _) ⟨rfl, rfl⟩
  refine rf_s _ (by first | rfl | (simp only [cPick_eq]; rfl)) <| rf_s (sl 4 cPick a0.args) (by first | rfl | (simp only [cPick_eq]; rfl)) <| rf_s _ (lenS_sl _ _ _) ?_
  refine rf_for (B := Unit) (R := Int) (fun (i20 : Nat) (s13 : Unit) v w15 => v = [(AV.int .i64 0), (AV.int .i64 (i20 : Int))] ∧ σ = w15) (fun (b14 : Unit) (q : LS) => ∃ u2 u85, q = ((AX.exit 2), ([u2, u85] : List AV), σ)) (fun (b14 : Int) (q : LS) => ∃ u85, q = (AX.ret, ([(AV.int .i64 b14), u85] : List AV), σ)) ?_ ?_ ⟨rfl, rfl⟩ ?_ ?_
  ·intro hle19 i20 e19 s13 v w15 he19 hI
   obtain ⟨rfl, rfl⟩ := hI
   refine rf_s _ (ix_lt he19) <| rf_ct <| rf_s _ (ix_for he19) <| rf_s (AV.agg (cPick e19)) (by first | rfl | (simp only [cPick_eq]; rfl)) <| rf_s (cPick e19) (by first | rfl | (simp only [cPick_eq]; rfl)) <| rf_s _ (sp_cPick _ _ rfl) <| rf_s (AV.agg (cPick e19)) (by first | rfl | (simp only [cPick_eq]; rfl)) ?_
   refine rf_o (fun r21 : Int => ((AV.int .i64 r21), σ)) (fun r21 hr21 => hq_pick_check _ _ _ hr21) (fun r21 hr21 => ?_)
   refine rf_s _ (aNe _ _ _) ?_
   refine rf_c (p := ¬ (r21 = 0)) (fun c22 => ?_) (fun c22 => ?_)
   ·exact rf_ret (rnd_ret (by simp) ⟨_, rfl⟩)
   refine rf_s _ (ix_inc he19 hle19) ?_
   exact rf_ret (rnd_go ⟨rfl, rfl⟩)
  ·intro hl s13 v w15 hI
   obtain ⟨rfl, rfl⟩ := hI
   refine rf_s _ (ix_end _) <| rf_cf ?_
   exact rf_ret ⟨by simp, ⟨_, _, rfl⟩⟩
  ·intro hl b14 q hq
   obtain ⟨u2, u85, rfl⟩ := hq
   refine rf_bt (by first | rfl | (simp only [cPick_eq]; rfl)) ?_
   exact rf_fin _ (fin_same _ _) ⟨rfl, rfl⟩
  ·intro hl b14 q hq
   obtain ⟨u85, rfl⟩ := hq
   refine rf_bf (by first | rfl | (simp only [cPick_eq]; rfl)) <| rf_bt (by first | rfl | (simp only [cPick_eq]; rfl)) ?_
   exact rf_fin _ (fin_same _ _) ⟨rfl, rfl⟩
 refine rf_s _ (aEq _ _ _) ?_
 refine rf_b (ω := Bool) (fun j26 a => a = (([(AV.lbx (cPick a0)), (AV.bool j26)] : List AV), σ)) (
   by
    refine rf_c (p := a0.kind = 2) (fun c25 => ?_) (fun c25 => ?_)
    ·exact rf_ret rfl
    refine rf_s _ (aEq _ _ _) ?_
    exact rf_ret rfl
   ) (fun j26 a ha => ?_)
 subst ha
 refine rf_cb (c := j26) (fun c140 => ?_) (fun c140 => ?_)
 ·refine rf_s _ (by first | rfl | (simp only [cPick_eq]; rfl)) <| rf_s (sl 4 cPick a0.args) (by first | rfl | (simp only [cPick_eq]; rfl)) <| rf_s _ (lenS_sl _ _ _) <| rf_s _ (aNe _ _ _) <| rf_s _ (by first | rfl | (simp only [cPick_eq]; rfl)) <| rf_s (AV.int .i64 a0.kind) (by first | rfl | (simp only [cPick_eq]; rfl)) <| rf_s _ (aEq _ _ _) ?_
  refine rf_b (ω := Bool) (fun j30 a => a = (([(AV.lbx (cPick a0)), (AV.bool j30)] : List AV), σ)) (
    by
     refine rf_c (p := a0.kind = 4) (fun c29 => ?_) (fun c29 => ?_)
     ·refine rf_s _ (by first | rfl | (simp only [cPick_eq]; rfl)) <| rf_s (sl 4 cPick a0.args) (by first | rfl | (simp only [cPick_eq]; rfl)) <| rf_s _ (lenS_sl _ _ _) <| rf_s (AV.bool (decide ((a0.args.length : Int) < 2))) (by first | rfl | (simp only [cPick_eq]; rfl)) ?_
      exact rf_ret rfl
     exact rf_ret rfl
    ) (fun j30 a ha => ?_)
  subst ha
  refine rf_gf (AV.bool true) (fun hg => by first | rfl | (simp only [cPick_eq]; rfl)) <| rf_gf (AV.bool (!true)) (fun hg => by (try rw [hg]); exact rfl) <| rf_gf (AV.bool (!true)) (fun hg => by (try rw [hg]); exact rfl) <| rf_s _ (by first | rfl | (simp only [cPick_eq]; rfl)) <| rf_ggt (AV.int .i64 a0.frm) (fun hg => by first | rfl | (simp only [cPick_eq]; rfl)) <| rf_ggt (AV.bool (decide (¬ (a0.frm = 0)))) (fun hg => by (try rw [hg]); exact (aNe _ _ _)) <| rf_gf (AV.bool ((!true) && (decide (¬ (a0.frm = 0))))) (fun hg => by (try rw [hg]); exact (pk_and _ _)) <| rf_s _ (pk_or _ _) <| rf_gf (AV.bool false) (fun hg => by first | rfl | (simp only [cPick_eq]; rfl)) <| rf_gf (AV.bool (!false)) (fun hg => by (try rw [hg]); exact rfl) <| rf_gf (AV.bool (!false)) (fun hg => by (try rw [hg]); exact rfl) <| rf_s _ (by first | rfl | (simp only [cPick_eq]; rfl)) <| rf_ggt (AV.int .i64 a0.to) (fun hg => by first | rfl | (simp only [cPick_eq]; rfl)) <| rf_ggt (AV.bool (decide (¬ (a0.to = 0)))) (fun hg => by (try rw [hg]); exact (aNe _ _ _)) <| rf_gf (AV.bool ((!false) && (decide (¬ (a0.to = 0))))) (fun hg => by (try rw [hg]); exact (pk_and _ _)) <| rf_s _ (pk_or _ _) ?_
  refine rf_cb (c := ((j30 || ((!true) && (decide (¬ (a0.frm = 0))))) || ((!false) && (decide (¬ (a0.to = 0)))))) (fun c52 => ?_) (fun c52 => ?_)
  ·exact rf_fin _ (fin_same _ _) ⟨rfl, rfl⟩
  refine rf_s _ (by first | rfl | (simp only [cPick_eq]; rfl)) <| rf_s (AV.int .i64 a0.kind) (by first | rfl | (simp only [cPick_eq]; rfl)) <| rf_s _ (aEq _ _ _) ?_
  refine rf_b (ω := Int) (fun j38 a => a = (([(AV.lbx (cPick a0)), (AV.int .i64 j38)] : List AV), σ)) (
    by
     refine rf_c (p := a0.kind = 2) (fun c37 => ?_) (fun c37 => ?_)
     ·exact rf_ret rfl
     refine rf_s _ (aEq _ _ _) ?_
     refine rf_b (ω := Int) (fun j34 a => a = (([(AV.lbx (cPick a0)), (AV.int .i64 j34)] : List AV), σ)) (
       by
        refine rf_c (p := a0.kind = 3) (fun c33 => ?_) (fun c33 => ?_)
        ·exact rf_ret rfl
        exact rf_ret rfl
       ) (fun j34 a ha => ?_)
     subst ha
     exact rf_ret rfl
    ) (fun j38 a ha => ?_)
  subst ha
  refine rf_s _ (by first | rfl | (simp only [cPick_eq]; rfl)) <| rf_gt (AV.int .i64 a0.frm) (fun hg => by first | rfl | (simp only [cPick_eq]; rfl)) <| rf_gt (AV.int .i64 j38) (fun hg => by first | rfl | (simp only [cPick_eq]; rfl)) <| rf_gt (AV.bool (withinB a0.frm 1 j38)) (fun hg => by (try rw [hg]); exact (quiet_of (Within_eq a0.frm 1 j38 σ))) <| rf_gt (AV.bool (!(withinB a0.frm 1 j38))) (fun hg => by (try rw [hg]); exact rfl) <| rf_s _ (pk_and _ _) <| rf_gf (AV.bool false) (fun hg => by first | rfl | (simp only [cPick_eq]; rfl)) <| rf_gf (AV.bool false) (fun hg => by (try rw [hg]); exact rfl) <| rf_s _ (by first | rfl | (simp only [cPick_eq]; rfl)) <| rf_ggt (AV.int .i64 a0.to) (fun hg => by first | rfl | (simp only [cPick_eq]; rfl)) <| rf_ggt (AV.int .i64 j38) (fun hg => by first | rfl | (simp only [cPick_eq]; rfl)) <| rf_ggt (AV.bool (withinB a0.to 1 j38)) (fun hg => by (try rw [hg]); exact (quiet_of (Within_eq a0.to 1 j38 σ))) <| rf_ggt (AV.bool (!(withinB a0.to 1 j38))) (fun hg => by (try rw [hg]); exact rfl) <| rf_gf (AV.bool (false && (!(withinB a0.to 1 j38)))) (fun hg => by (try rw [hg]); exact (pk_and _ _)) <| rf_s _ (pk_or _ _) ?_
  refine rf_cb (c := ((true && (!(withinB a0.frm 1 j38))) || (false && (!(withinB a0.to 1 j38))))) (fun c51 => ?_) (fun c51 => ?_)
  ·exact rf_fin _ (fin_same _ _) ⟨rfl, rfl⟩
  refine rf_s _ (by first | rfl | (simp only [cPick_eq]; rfl)) <| rf_s (sl 4 cPick a0.args) (by first | rfl | (simp only [cPick_eq]; rfl)) <| rf_s _ (lenS_sl _ _ _) ?_
  refine rf_for (B := Unit) (R := Int) (fun (i48 : Nat) (s41 : Unit) v w43 => v = [(AV.int .i64 0), (AV.int .i64 (i48 : Int))] ∧ σ = w43) (fun (b42 : Unit) (q : LS) => ∃ u2 u85, q = ((AX.exit 2), ([u2, u85] : List AV), σ)) (fun (b42 : Int) (q : LS) => ∃ u85, q = (AX.ret, ([(AV.int .i64 b42), u85] : List AV), σ)) ?_ ?_ ⟨rfl, rfl⟩ ?_ ?_
  ·intro hle47 i48 e47 s41 v w43 he47 hI
   obtain ⟨rfl, rfl⟩ := hI
   refine rf_s _ (ix_lt he47) <| rf_ct <| rf_s _ (ix_for he47) <| rf_s (AV.agg (cPick e47)) (by first | rfl | (simp only [cPick_eq]; rfl)) <| rf_s (cPick e47) (by first | rfl | (simp only [cPick_eq]; rfl)) <| rf_s _ (sp_cPick _ _ rfl) <| rf_s (AV.agg (cPick e47)) (by first | rfl | (simp only [cPick_eq]; rfl)) ?_
   refine rf_o (fun r49 : Int => ((AV.int .i64 r49), σ)) (fun r49 hr49 => hq_pick_check _ _ _ hr49) (fun r49 hr49 => ?_)
   refine rf_s _ (aNe _ _ _) ?_
   refine rf_c (p := ¬ (r49 = 0)) (fun c50 => ?_) (fun c50 => ?_)
   ·exact rf_ret (rnd_ret (by simp) ⟨_, rfl⟩)
   refine rf_s _ (ix_inc he47 hle47) ?_
   exact rf_ret (rnd_go ⟨rfl, rfl⟩)
  ·intro hl s41 v w43 hI
   obtain ⟨rfl, rfl⟩ := hI
   refine rf_s _ (ix_end _) <| rf_cf ?_
   exact rf_ret ⟨by simp, ⟨_, _, rfl⟩⟩
  ·intro hl b42 q hq
   obtain ⟨u2, u85, rfl⟩ := hq
   refine rf_bt (by first | rfl | (simp only [cPick_eq]; rfl)) ?_
   exact rf_fin _ (fin_same _ _) ⟨rfl, rfl⟩
  ·intro hl b42 q hq
   obtain ⟨u85, rfl⟩ := hq
   refine rf_bf (by first | rfl | (simp only [cPick_eq]; rfl)) <| rf_bt (by first | rfl | (simp only [cPick_eq]; rfl)) ?_
   exact rf_fin _ (fin_same _ _) ⟨rfl, rfl⟩
 refine rf_s _ (aEq _ _ _) ?_
 refine rf_b (ω := Bool) (fun j54 a => a = (([(AV.lbx (cPick a0)), (AV.bool j54)] : List AV), σ)) (
   by
    refine rf_c (p := a0.kind = 4) (fun c53 => ?_) (fun c53 => ?_)
    ·exact rf_ret rfl
    refine rf_s _ (aEq _ _ _) ?_
    exact rf_ret rfl
   ) (fun j54 a ha => ?_)
 subst ha
 refine rf_cb (c := j54) (fun c139 => ?_) (fun c139 => ?_)
 ·refine rf_s _ (by first | rfl | (simp only [cPick_eq]; rfl)) <| rf_s (sl 4 cPick a0.args) (by first | rfl | (simp only [cPick_eq]; rfl)) <| rf_s _ (lenS_sl _ _ _) <| rf_s _ (aNe _ _ _) <| rf_s _ (by first | rfl | (simp only [cPick_eq]; rfl)) <| rf_s (AV.int .i64 a0.kind) (by first | rfl | (simp only [cPick_eq]; rfl)) <| rf_s _ (aEq _ _ _) ?_
  refine rf_b (ω := Bool) (fun j58 a => a = (([(AV.lbx (cPick a0)), (AV.bool j58)] : List AV), σ)) (
    by
     refine rf_c (p := a0.kind = 4) (fun c57 => ?_) (fun c57 => ?_)
     ·refine rf_s _ (by first | rfl | (simp only [cPick_eq]; rfl)) <| rf_s (sl 4 cPick a0.args) (by first | rfl | (simp only [cPick_eq]; rfl)) <| rf_s _ (lenS_sl _ _ _) <| rf_s (AV.bool (decide ((a0.args.length : Int) < 2))) (by first | rfl | (simp only [cPick_eq]; rfl)) ?_
      exact rf_ret rfl
     exact rf_ret rfl
    ) (fun j58 a ha => ?_)
  subst ha
  refine rf_gf (AV.bool false) (fun hg => by first | rfl | (simp only [cPick_eq]; rfl)) <| rf_gf (AV.bool (!false)) (fun hg => by (try rw [hg]); exact rfl) <| rf_gf (AV.bool (!false)) (fun hg => by (try rw [hg]); exact rfl) <| rf_s _ (by first | rfl | (simp only [cPick_eq]; rfl)) <| rf_ggt (AV.int .i64 a0.frm) (fun hg => by first | rfl | (simp only [cPick_eq]; rfl)) <| rf_ggt (AV.bool (decide (¬ (a0.frm = 0)))) (fun hg => by (try rw [hg]); exact (aNe _ _ _)) <| rf_gf (AV.bool ((!false) && (decide (¬ (a0.frm = 0))))) (fun hg => by (try rw [hg]); exact (pk_and _ _)) <| rf_s _ (pk_or _ _) <| rf_gf (AV.bool false) (fun hg => by first | rfl | (simp only [cPick_eq]; rfl)) <| rf_gf (AV.bool (!false)) (fun hg => by (try rw [hg]); exact rfl) <| rf_gf (AV.bool (!false)) (fun hg => by (try rw [hg]); exact rfl) <| rf_s _ (by first | rfl | (simp only [cPick_eq]; rfl)) <| rf_ggt (AV.int .i64 a0.to) (fun hg => by first | rfl | (simp only [cPick_eq]; rfl)) <| rf_ggt (AV.bool (decide (¬ (a0.to = 0)))) (fun hg => by (try rw [hg]); exact (aNe _ _ _)) <| rf_gf (AV.bool ((!false) && (decide (¬ (a0.to = 0))))) (fun hg => by (try rw [hg]); exact (pk_and _ _)) <| rf_s _ (pk_or _ _) ?_
  refine rf_cb (c := ((j58 || ((!false) && (decide (¬ (a0.frm = 0))))) || ((!false) && (decide (¬ (a0.to = 0)))))) (fun c80 => ?_) (fun c80 => ?_)
  ·exact rf_fin _ (fin_same _ _) ⟨rfl, rfl⟩
  refine rf_s _ (by first | rfl | (simp only [cPick_eq]; rfl)) <| rf_s (AV.int .i64 a0.kind) (by first | rfl | (simp only [cPick_eq]; rfl)) <| rf_s _ (aEq _ _ _) ?_
  refine rf_b (ω := Int) (fun j66 a => a = (([(AV.lbx (cPick a0)), (AV.int .i64 j66)] : List AV), σ)) (
    by
     refine rf_c (p := a0.kind = 2) (fun c65 => ?_) (fun c65 => ?_)
     ·exact rf_ret rfl
     refine rf_s _ (aEq _ _ _) ?_
     refine rf_b (ω := Int) (fun j62 a => a = (([(AV.lbx (cPick a0)), (AV.int .i64 j62)] : List AV), σ)) (
       by
        refine rf_c (p := a0.kind = 3) (fun c61 => ?_) (fun c61 => ?_)
        ·exact rf_ret rfl
        exact rf_ret rfl
       ) (fun j62 a ha => ?_)
     subst ha
     exact rf_ret rfl
    ) (fun j66 a ha => ?_)
  subst ha
  refine rf_s _ (by first | rfl | (simp only [cPick_eq]; rfl)) <| rf_gt (AV.int .i64 a0.frm) (fun hg => by first | rfl | (simp only [cPick_eq]; rfl)) <| rf_gt (AV.int .i64 j66) (fun hg => by first | rfl | (simp only [cPick_eq]; rfl)) <| rf_gt (AV.bool (withinB a0.frm 1 j66)) (fun hg => by (try rw [hg]); exact (quiet_of (Within_eq a0.frm 1 j66 σ))) <| rf_gt (AV.bool (!(withinB a0.frm 1 j66))) (fun hg => by (try rw [hg]); exact rfl) <| rf_s _ (pk_and _ _) <| rf_gf (AV.bool false) (fun hg => by first | rfl | (simp only [cPick_eq]; rfl)) <| rf_gf (AV.bool false) (fun hg => by (try rw [hg]); exact rfl) <| rf_s _ (by first | rfl | (simp only [cPick_eq]; rfl)) <| rf_ggt (AV.int .i64 a0.to) (fun hg => by first | rfl | (simp only [cPick_eq]; rfl)) <| rf_ggt (AV.int .i64 j66) (fun hg => by first | rfl | (simp only [cPick_eq]; rfl)) <| rf_ggt (AV.bool (withinB a0.to 1 j66)) (fun hg => by (try rw [hg]); exact (quiet_of (Within_eq a0.to 1 j66 σ))) <| rf_ggt (AV.bool (!(withinB a0.to 1 j66))) (fun hg => by (try rw [hg]); exact rfl) <| rf_gf (AV.bool (false && (!(withinB a0.to 1 j66)))) (fun hg => by (try rw [hg]); exact (pk_and _ _)) <| rf_s _ (pk_or _ _) ?_
  refine rf_cb (c := ((false && (!(withinB a0.frm 1 j66))) || (false && (!(withinB a0.to 1 j66))))) (fun c79 => ?_) (fun c79 => ?_)
  ·exact rf_fin _ (fin_same _ _) ⟨rfl, rfl⟩
  refine rf_s _ (by first | rfl | (simp only [cPick_eq]; rfl)) <| rf_s (sl 4 cPick a0.args) (by first | rfl | (simp only [cPick_eq]; rfl)) <| rf_s _ (lenS_sl _ _ _) ?_
  refine rf_for (B := Unit) (R := Int) (fun (i76 : Nat) (s69 : Unit) v w71 => v = [(AV.int .i64 0), (AV.int .i64 (i76 : Int))] ∧ σ = w71) (fun (b70 : Unit) (q : LS) => ∃ u2 u85, q = ((AX.exit 2), ([u2, u85] : List AV), σ)) (fun (b70 : Int) (q : LS) => ∃ u85, q = (AX.ret, ([(AV.int .i64 b70), u85] : List AV), σ)) ?_ ?_ ⟨rfl, rfl⟩ ?_ ?_
  ·intro hle75 i76 e75 s69 v w71 he75 hI
   obtain ⟨rfl, rfl⟩ := hI
   refine rf_s _ (ix_lt he75) <| rf_ct <| rf_s _ (ix_for he75) <| rf_s (AV.agg (cPick e75)) (by first | rfl | (simp only [cPick_eq]; rfl)) <| rf_s (cPick e75) (by first | rfl | (simp only [cPick_eq]; rfl)) <| rf_s _ (sp_cPick _ _ rfl) <| rf_s (AV.agg (cPick e75)) (by first | rfl | (simp only [cPick_eq]; rfl)) ?_
   refine rf_o (fun r77 : Int => ((AV.int .i64 r77), σ)) (fun r77 hr77 => hq_pick_check _ _ _ hr77) (fun r77 hr77 => ?_)
   refine rf_s _ (aNe _ _ _) ?_
   refine rf_c (p := ¬ (r77 = 0)) (fun c78 => ?_) (fun c78 => ?_)
   ·exact rf_ret (rnd_ret (by simp) ⟨_, rfl⟩)
   refine rf_s _ (ix_inc he75 hle75) ?_
   exact rf_ret (rnd_go ⟨rfl, rfl⟩)
  ·intro hl s69 v w71 hI
   obtain ⟨rfl, rfl⟩ := hI
   refine rf_s _ (ix_end _) <| rf_cf ?_
   exact rf_ret ⟨by simp, ⟨_, _, rfl⟩⟩
  ·intro hl b70 q hq
   obtain ⟨u2, u85, rfl⟩ := hq
   refine rf_bt (by first | rfl | (simp only [cPick_eq]; rfl)) ?_
   exact rf_fin _ (fin_same _ _) ⟨rfl, rfl⟩
  ·intro hl b70 q hq
   obtain ⟨u85, rfl⟩ := hq
   refine rf_bf (by first | rfl | (simp only [cPick_eq]; rfl)) <| rf_bt (by first | rfl | (simp only [cPick_eq]; rfl)) ?_
   exact rf_fin _ (fin_same _ _) ⟨rfl, rfl⟩
 refine rf_s _ (aEq _ _ _) ?_
 refine rf_b (ω := Bool) (fun j86 a => a = (([(AV.lbx (cPick a0)), (AV.bool j86)] : List AV), σ)) (
   by
    refine rf_c (p := a0.kind = 6) (fun c85 => ?_) (fun c85 => ?_)
    ·exact rf_ret rfl
    refine rf_s _ (aEq _ _ _) ?_
    refine rf_b (ω := Bool) (fun j82 a => a = (([(AV.lbx (cPick a0)), (AV.bool j82)] : List AV), σ)) (
      by
       refine rf_c (p := a0.kind = 7) (fun c81 => ?_) (fun c81 => ?_)
       ·exact rf_ret rfl
       refine rf_s _ (aEq _ _ _) ?_
       exact rf_ret rfl
      ) (fun j82 a ha => ?_)
    subst ha
    exact rf_ret rfl
   ) (fun j86 a ha => ?_)
 subst ha
 refine rf_cb (c := j86) (fun c138 => ?_) (fun c138 => ?_)
 ·refine rf_s _ (by first | rfl | (simp only [cPick_eq]; rfl)) <| rf_s (sl 4 cPick a0.args) (by first | rfl | (simp only [cPick_eq]; rfl)) <| rf_s _ (lenS_sl _ _ _) <| rf_s _ (aNe _ _ _) <| rf_s _ (by first | rfl | (simp only [cPick_eq]; rfl)) <| rf_s (AV.int .i64 a0.kind) (by first | rfl | (simp only [cPick_eq]; rfl)) <| rf_s _ (aEq _ _ _) ?_
  refine rf_b (ω := Bool) (fun j90 a => a = (([(AV.lbx (cPick a0)), (AV.bool j90)] : List AV), σ)) (
    by
     refine rf_c (p := a0.kind = 4) (fun c89 => ?_) (fun c89 => ?_)
     ·refine rf_s _ (by first | rfl | (simp only [cPick_eq]; rfl)) <| rf_s (sl 4 cPick a0.args) (by first | rfl | (simp only [cPick_eq]; rfl)) <| rf_s _ (lenS_sl _ _ _) <| rf_s (AV.bool (decide ((a0.args.length : Int) < 2))) (by first | rfl | (simp only [cPick_eq]; rfl)) ?_
      exact rf_ret rfl
     exact rf_ret rfl
    ) (fun j90 a ha => ?_)
  subst ha
  refine rf_gf (AV.bool false) (fun hg => by first | rfl | (simp only [cPick_eq]; rfl)) <| rf_gf (AV.bool (!false)) (fun hg => by (try rw [hg]); exact rfl) <| rf_gf (AV.bool (!false)) (fun hg => by (try rw [hg]); exact rfl) <| rf_s _ (by first | rfl | (simp only [cPick_eq]; rfl)) <| rf_ggt (AV.int .i64 a0.frm) (fun hg => by first | rfl | (simp only [cPick_eq]; rfl)) <| rf_ggt (AV.bool (decide (¬ (a0.frm = 0)))) (fun hg => by (try rw [hg]); exact (aNe _ _ _)) <| rf_gf (AV.bool ((!false) && (decide (¬ (a0.frm = 0))))) (fun hg => by (try rw [hg]); exact (pk_and _ _)) <| rf_s _ (pk_or _ _) <| rf_gf (AV.bool false) (fun hg => by first | rfl | (simp only [cPick_eq]; rfl)) <| rf_gf (AV.bool (!false)) (fun hg => by (try rw [hg]); exact rfl) <| rf_gf (AV.bool (!false)) (fun hg => by (try rw [hg]); exact rfl) <| rf_s _ (by first | rfl | (simp only [cPick_eq]; rfl)) <| rf_ggt (AV.int .i64 a0.to) (fun hg => by first | rfl | (simp only [cPick_eq]; rfl)) <| rf_ggt (AV.bool (decide (¬ (a0.to = 0)))) (fun hg => by (try rw [hg]); exact (aNe _ _ _)) <| rf_gf (AV.bool ((!false) && (decide (¬ (a0.to = 0))))) (fun hg => by (try rw [hg]); exact (pk_and _ _)) <| rf_s _ (pk_or _ _) ?_
  refine rf_cb (c := ((j90 || ((!false) && (decide (¬ (a0.frm = 0))))) || ((!false) && (decide (¬ (a0.to = 0)))))) (fun c112 => ?_) (fun c112 => ?_)
  ·exact rf_fin _ (fin_same _ _) ⟨rfl, rfl⟩
  refine rf_s _ (by first | rfl | (simp only [cPick_eq]; rfl)) <| rf_s (AV.int .i64 a0.kind) (by first | rfl | (simp only [cPick_eq]; rfl)) <| rf_s _ (aEq _ _ _) ?_
  refine rf_b (ω := Int) (fun j98 a => a = (([(AV.lbx (cPick a0)), (AV.int .i64 j98)] : List AV), σ)) (
    by
     refine rf_c (p := a0.kind = 2) (fun c97 => ?_) (fun c97 => ?_)
     ·exact rf_ret rfl
     refine rf_s _ (aEq _ _ _) ?_
     refine rf_b (ω := Int) (fun j94 a => a = (([(AV.lbx (cPick a0)), (AV.int .i64 j94)] : List AV), σ)) (
       by
        refine rf_c (p := a0.kind = 3) (fun c93 => ?_) (fun c93 => ?_)
        ·exact rf_ret rfl
        exact rf_ret rfl
       ) (fun j94 a ha => ?_)
     subst ha
     exact rf_ret rfl
    ) (fun j98 a ha => ?_)
  subst ha
  refine rf_s _ (by first | rfl | (simp only [cPick_eq]; rfl)) <| rf_gt (AV.int .i64 a0.frm) (fun hg => by first | rfl | (simp only [cPick_eq]; rfl)) <| rf_gt (AV.int .i64 j98) (fun hg => by first | rfl | (simp only [cPick_eq]; rfl)) <| rf_gt (AV.bool (withinB a0.frm 1 j98)) (fun hg => by (try rw [hg]); exact (quiet_of (Within_eq a0.frm 1 j98 σ))) <| rf_gt (AV.bool (!(withinB a0.frm 1 j98))) (fun hg => by (try rw [hg]); exact rfl) <| rf_s _ (pk_and _ _) <| rf_gf (AV.bool false) (fun hg => by first | rfl | (simp only [cPick_eq]; rfl)) <| rf_gf (AV.bool false) (fun hg => by (try rw [hg]); exact rfl) <| rf_s _ (by first | rfl | (simp only [cPick_eq]; rfl)) <| rf_ggt (AV.int .i64 a0.to) (fun hg => by first | rfl | (simp only [cPick_eq]; rfl)) <| rf_ggt (AV.int .i64 j98) (fun hg => by first | rfl | (simp only [cPick_eq]; rfl)) <| rf_ggt (AV.bool (withinB a0.to 1 j98)) (fun hg => by (try rw [hg]); exact (quiet_of (Within_eq a0.to 1 j98 σ))) <| rf_ggt (AV.bool (!(withinB a0.to 1 j98))) (fun hg => by (try rw [hg]); exact rfl) <| rf_gf (AV.bool (false && (!(withinB a0.to 1 j98)))) (fun hg => by (try rw [hg]); exact (pk_and _ _)) <| rf_s _ (pk_or _ _) ?_
  refine rf_cb (c := ((false && (!(withinB a0.frm 1 j98))) || (false && (!(withinB a0.to 1 j98))))) (fun c111 => ?_) (fun c111 => ?_)
  ·exact rf_fin _ (fin_same _ _) ⟨rfl, rfl⟩
  refine rf_s _ (by first | rfl | (simp only [cPick_eq]; rfl)) <| rf_s (sl 4 cPick a0.args) (by first | rfl | (simp only [cPick_eq]; rfl)) <| rf_s _ (lenS_sl _ _ _) ?_
  refine rf_for (B := Unit) (R := Int) (fun (i108 : Nat) (s101 : Unit) v w103 => v = [(AV.int .i64 0), (AV.int .i64 (i108 : Int))] ∧ σ = w103) (fun (b102 : Unit) (q : LS) => ∃ u2 u85, q = ((AX.exit 2), ([u2, u85] : List AV), σ)) (fun (b102 : Int) (q : LS) => ∃ u85, q = (AX.ret, ([(AV.int .i64 b102), u85] : List AV), σ)) ?_ ?_ ⟨rfl, rfl⟩ ?_ ?_
  ·intro hle107 i108 e107 s101 v w103 he107 hI
   obtain ⟨rfl, rfl⟩ := hI
   refine rf_s _ (ix_lt he107) <| rf_ct <| rf_s _ (ix_for he107) <| rf_s (AV.agg (cPick e107)) (by first | rfl | (simp only [cPick_eq]; rfl)) <| rf_s (cPick e107) (by first | rfl | (simp only [cPick_eq]; rfl)) <| rf_s _ (sp_cPick _ _ rfl) <| rf_s (AV.agg (cPick e107)) (by first | rfl | (simp only [cPick_eq]; rfl)) ?_
   refine rf_o (fun r109 : Int => ((AV.int .i64 r109), σ)) (fun r109 hr109 => hq_pick_check _ _ _ hr109) (fun r109 hr109 => ?_)
   refine rf_s _ (aNe _ _ _) ?_
   refine rf_c (p := ¬ (r109 = 0)) (fun c110 => ?_) (fun c110 => ?_)
   ·exact rf_ret (rnd_ret (by simp) ⟨_, rfl⟩)
   refine rf_s _ (ix_inc he107 hle107) ?_
   exact rf_ret (rnd_go ⟨rfl, rfl⟩)
  ·intro hl s101 v w103 hI
   obtain ⟨rfl, rfl⟩ := hI
   refine rf_s _ (ix_end _) <| rf_cf ?_
   exact rf_ret ⟨by simp, ⟨_, _, rfl⟩⟩
  ·intro hl b102 q hq
   obtain ⟨u2, u85, rfl⟩ := hq
   refine rf_bt (by first | rfl | (simp only [cPick_eq]; rfl)) ?_
   exact rf_fin _ (fin_same _ _) ⟨rfl, rfl⟩
  ·intro hl b102 q hq
   obtain ⟨u85, rfl⟩ := hq
   refine rf_bf (by first | rfl | (simp only [cPick_eq]; rfl)) <| rf_bt (by first | rfl | (simp only [cPick_eq]; rfl)) ?_
   exact rf_fin _ (fin_same _ _) ⟨rfl, rfl⟩
 refine rf_s _ (aEq _ _ _) ?_
 refine rf_c (p := a0.kind = 9) (fun c137 => ?_) (fun c137 => ?_)
 ·refine rf_s _ (by first | rfl | (simp only [cPick_eq]; rfl)) <| rf_s (sl 4 cPick a0.args) (by first | rfl | (simp only [cPick_eq]; rfl)) <| rf_s _ (lenS_sl _ _ _) <| rf_s _ (aNe _ _ _) <| rf_s _ (by first | rfl | (simp only [cPick_eq]; rfl)) <| rf_s (AV.int .i64 a0.kind) (by first | rfl | (simp only [cPick_eq]; rfl)) <| rf_s _ (aEq _ _ _) ?_
  refine rf_b (ω := Bool) (fun j114 a => a = (([(AV.lbx (cPick a0)), (AV.bool j114)] : List AV), σ)) (
    by
     refine rf_c (p := a0.kind = 4) (fun c113 => ?_) (fun c113 => ?_)
     ·refine rf_s _ (by first | rfl | (simp only [cPick_eq]; rfl)) <| rf_s (sl 4 cPick a0.args) (by first | rfl | (simp only [cPick_eq]; rfl)) <| rf_s _ (lenS_sl _ _ _) <| rf_s (AV.bool (decide ((a0.args.length : Int) < 2))) (by first | rfl | (simp only [cPick_eq]; rfl)) ?_
      exact rf_ret rfl
     exact rf_ret rfl
    ) (fun j114 a ha => ?_)
  subst ha
  refine rf_gf (AV.bool true) (fun hg => by first | rfl | (simp only [cPick_eq]; rfl)) <| rf_gf (AV.bool (!true)) (fun hg => by (try rw [hg]); exact rfl) <| rf_gf (AV.bool (!true)) (fun hg => by (try rw [hg]); exact rfl) <| rf_s _ (by first | rfl | (simp only [cPick_eq]; rfl)) <| rf_ggt (AV.int .i64 a0.frm) (fun hg => by first | rfl | (simp only [cPick_eq]; rfl)) <| rf_ggt (AV.bool (decide (¬ (a0.frm = 0)))) (fun hg => by (try rw [hg]); exact (aNe _ _ _)) <| rf_gf (AV.bool ((!true) && (decide (¬ (a0.frm = 0))))) (fun hg => by (try rw [hg]); exact (pk_and _ _)) <| rf_s _ (pk_or _ _) <| rf_gf (AV.bool true) (fun hg => by first | rfl | (simp only [cPick_eq]; rfl)) <| rf_gf (AV.bool (!true)) (fun hg => by (try rw [hg]); exact rfl) <| rf_gf (AV.bool (!true)) (fun hg => by (try rw [hg]); exact rfl) <| rf_s _ (by first | rfl | (simp only [cPick_eq]; rfl)) <| rf_ggt (AV.int .i64 a0.to) (fun hg => by first | rfl | (simp only [cPick_eq]; rfl)) <| rf_ggt (AV.bool (decide (¬ (a0.to = 0)))) (fun hg => by (try rw [hg]); exact (aNe _ _ _)) <| rf_gf (AV.bool ((!true) && (decide (¬ (a0.to = 0))))) (fun hg => by (try rw [hg]); exact (pk_and _ _)) <| rf_s _ (pk_or _ _) ?_
  refine rf_cb (c := ((j114 || ((!true) && (decide (¬ (a0.frm = 0))))) || ((!true) && (decide (¬ (a0.to = 0)))))) (fun c136 => ?_) (fun c136 => ?_)
  ·exact rf_fin _ (fin_same _ _) ⟨rfl, rfl⟩
  refine rf_s _ (by first | rfl | (simp only [cPick_eq]; rfl)) <| rf_s (AV.int .i64 a0.kind) (by first | rfl | (simp only [cPick_eq]; rfl)) <| rf_s _ (aEq _ _ _) ?_
  refine rf_b (ω := Int) (fun j122 a => a = (([(AV.lbx (cPick a0)), (AV.int .i64 j122)] : List AV), σ)) (
    by
     refine rf_c (p := a0.kind = 2) (fun c121 => ?_) (fun c121 => ?_)
     ·exact rf_ret rfl
     refine rf_s _ (aEq _ _ _) ?_
     refine rf_b (ω := Int) (fun j118 a => a = (([(AV.lbx (cPick a0)), (AV.int .i64 j118)] : List AV), σ)) (
       by
        refine rf_c (p := a0.kind = 3) (fun c117 => ?_) (fun c117 => ?_)
        ·exact rf_ret rfl
        exact rf_ret rfl
       ) (fun j118 a ha => ?_)
     subst ha
     exact rf_ret rfl
    ) (fun j122 a ha => ?_)
  subst ha
  refine rf_s _ (by first | rfl | (simp only [cPick_eq]; rfl)) <| rf_gt (AV.int .i64 a0.frm) (fun hg => by first | rfl | (simp only [cPick_eq]; rfl)) <| rf_gt (AV.int .i64 j122) (fun hg => by first | rfl | (simp only [cPick_eq]; rfl)) <| rf_gt (AV.bool (withinB a0.frm 1 j122)) (fun hg => by (try rw [hg]); exact (quiet_of (Within_eq a0.frm 1 j122 σ))) <| rf_gt (AV.bool (!(withinB a0.frm 1 j122))) (fun hg => by (try rw [hg]); exact rfl) <| rf_s _ (pk_and _ _) <| rf_gf (AV.bool true) (fun hg => by first | rfl | (simp only [cPick_eq]; rfl)) <| rf_gf (AV.bool true) (fun hg => by (try rw [hg]); exact rfl) <| rf_s _ (by first | rfl | (simp only [cPick_eq]; rfl)) <| rf_ggt (AV.int .i64 a0.to) (fun hg => by first | rfl | (simp only [cPick_eq]; rfl)) <| rf_ggt (AV.int .i64 j122) (fun hg => by first | rfl | (simp only [cPick_eq]; rfl)) <| rf_ggt (AV.bool (withinB a0.to 1 j122)) (fun hg => by (try rw [hg]); exact (quiet_of (Within_eq a0.to 1 j122 σ))) <| rf_ggt (AV.bool (!(withinB a0.to 1 j122))) (fun hg => by (try rw [hg]); exact rfl) <| rf_gf (AV.bool (true && (!(withinB a0.to 1 j122)))) (fun hg => by (try rw [hg]); exact (pk_and _ _)) <| rf_s _ (pk_or _ _) ?_
  refine rf_cb (c := ((true && (!(withinB a0.frm 1 j122))) || (true && (!(withinB a0.to 1 j122))))) (fun c135 => ?_) (fun c135 => ?_)
  ·exact rf_fin _ (fin_same _ _) ⟨rfl, rfl⟩
  refine rf_s _ (by first | rfl | (simp only [cPick_eq]; rfl)) <| rf_s (sl 4 cPick a0.args) (by first | rfl | (simp only [cPick_eq]; rfl)) <| rf_s _ (lenS_sl _ _ _) ?_
  refine rf_for (B := Unit) (R := Int) (fun (i132 : Nat) (s125 : Unit) v w127 => v = [(AV.int .i64 0), (AV.int .i64 (i132 : Int))] ∧ σ = w127) (fun (b126 : Unit) (q : LS) => ∃ u2 u85, q = ((AX.exit 2), ([u2, u85] : List AV), σ)) (fun (b126 : Int) (q : LS) => ∃ u85, q = (AX.ret, ([(AV.int .i64 b126), u85] : List AV), σ)) ?_ ?_ ⟨rfl, rfl⟩ ?_ ?_
  ·intro hle131 i132 e131 s125 v w127 he131 hI
   obtain ⟨rfl, rfl⟩ := hI
   refine rf_s _ (ix_lt he131) <| rf_ct <| rf_s _ (ix_for he131) <| rf_s (AV.agg (cPick e131)) (by first | rfl | (simp only [cPick_eq]; rfl)) <| rf_s (cPick e131) (by first | rfl | (simp only [cPick_eq]; rfl)) <| rf_s _ (sp_cPick _ _ rfl) <| rf_s (AV.agg (cPick e131)) (by first | rfl | (simp only [cPick_eq]; rfl)) ?_
   refine rf_o (fun r133 : Int => ((AV.int .i64 r133), σ)) (fun r133 hr133 => hq_pick_check _ _ _ hr133) (fun r133 hr133 => ?_)
   refine rf_s _ (aNe _ _ _) ?_
   refine rf_c (p := ¬ (r133 = 0)) (fun c134 => ?_) (fun c134 => ?_)
   ·exact rf_ret (rnd_ret (by simp) ⟨_, rfl⟩)
   refine rf_s _ (ix_inc he131 hle131) ?_
   exact rf_ret (rnd_go ⟨rfl, rfl⟩)
  ·intro hl s125 v w127 hI
   obtain ⟨rfl, rfl⟩ := hI
   refine rf_s _ (ix_end _) <| rf_cf ?_
   exact rf_ret ⟨by simp, ⟨_, _, rfl⟩⟩
  ·intro hl b126 q hq
   obtain ⟨u2, u85, rfl⟩ := hq
   refine rf_bt (by first | rfl | (simp only [cPick_eq]; rfl)) ?_
   exact rf_fin _ (fin_same _ _) ⟨rfl, rfl⟩
  ·intro hl b126 q hq
   obtain ⟨u85, rfl⟩ := hq
   refine rf_bf (by first | rfl | (simp only [cPick_eq]; rfl)) <| rf_bt (by first | rfl | (simp only [cPick_eq]; rfl)) ?_
   exact rf_fin _ (fin_same _ _) ⟨rfl, rfl⟩
 exact rf_fin _ (fin_same _ _) ⟨rfl, rfl⟩

noncomputable def t_R4_parts (q_R4_parts : PickD → Int → Option (Int × Int)) (a0 : PickD) (a1 : Int) : Option (Int × Int) :=
 if 12 < a1 then
  some (1, a1)
 else
 forE a0.args (fun (i8 : Nat) e7 (s1 : (Int × Int)) => (show Option (Lr (Int × Int) (Int × Int) Unit) from
   (q_R4_parts e7 (IntKind.i64.wrap (a1 + 1))).bind fun r9 =>
   some (.go ((if 201 < IntKind.i64.wrap (s1.1 + r9.1) then 201 else IntKind.i64.wrap (s1.1 + r9.1)), (if s1.2 < r9.2 then r9.2 else s1.2))))) (fun s1 => some (s1.1, s1.2)) (1, a1) (fun b2 =>
  some (b2.1, b2.2)) (fun b2 =>
  none)
theorem h_R4_parts {rc : Nat → List AV → Heap → Option (AV × Heap)} (q_R4_parts : PickD → Int → Option (Int × Int)) (hq_R4_parts : ∀ (x0 : PickD) (x1 : Int) (s : Heap) r, q_R4_parts x0 x1 = some r → rc 46 [(AV.agg (cPick x0)), (AV.int .i64 x1)] s = some ((AV.tup [(AV.int .i64 r.1), (AV.int .i64 r.2)]), s)) {a0 : PickD} {a1 : Int} {σ : Heap} {r : (Int × Int)} (h : t_R4_parts q_R4_parts a0 a1 = some r) : A.wrap true [(.a [.k, .k, .k, (.s 4)])] .k (A.ar2 (r_R4_parts rc)) [(AV.agg (cPick a0)), (AV.int .i64 a1)] σ = some ((AV.tup [(AV.int .i64 r.1), (AV.int .i64 r.2)]), σ) := by
 refine rf_wrap2 (f := r_R4_parts rc) (y0 := (AV.agg (cPick a0))) (y1 := (AV.int .i64 a1)) (enc := fun r : (Int × Int) => (AV.tup [(AV.int .i64 r.1), (AV.int .i64 r.2)])) (T := t_R4_parts q_R4_parts a0 a1) (by first | rfl | (simp only [cPick_eq]; rfl)) (by first | rfl | (simp only [cPick_eq]; rfl)) ?_ r h
 unfold r_R4_parts t_R4_parts
 refine rf_s (cPick a0) (by first | rfl | (simp only [cPick_eq]; rfl)) <| rf_s (AV.bool (decide (12 < a1))) (by first | rfl | (simp only [cPick_eq]; rfl)) ?_
 refine rf_c (p := 12 < a1) (fun c10 => ?_) (fun c10 => ?_)
 ·exact rf_fin _ (fin_same _ _) ⟨rfl, rfl⟩
 refine rf_s (sl 4 cPick a0.args) (by first | rfl | (simp only [cPick_eq]; rfl)) <| rf_s _ (lenS_sl _ _ _) ?_
 refine rf_for (B := (Int × Int)) (R := Unit) (fun (i8 : Nat) (s1 : (Int × Int)) v w3 => v = [(AV.int .i64 s1.1), (AV.int .i64 s1.2), (AV.int .i64 (i8 : Int))] ∧ σ = w3) (fun (b2 : (Int × Int)) (q : LS) => ∃ u20, q = ((AX.exit 0), ([(AV.int .i64 b2.1), (AV.int .i64 b2.2), u20] : List AV), σ)) (fun (b2 : Unit) (q : LS) => False) ?_ ?_ ⟨rfl, rfl⟩ ?_ ?_
 ·intro hle7 i8 e7 s1 v w3 he7 hI
  obtain ⟨rfl, rfl⟩ := hI
  refine rf_s _ (ix_lt he7) <| rf_ct <| rf_s _ (ix_for he7) <| rf_s (AV.agg (cPick e7)) (by first | rfl | (simp only [cPick_eq]; rfl)) <| rf_s (cPick e7) (by first | rfl | (simp only [cPick_eq]; rfl)) <| rf_s _ (sp_cPick _ _ rfl) <| rf_s (AV.agg (cPick e7)) (by first | rfl | (simp only [cPick_eq]; rfl)) <| rf_s (AV.int .i64 (IntKind.i64.wrap (a1 + 1))) (by first | rfl | (simp only [cPick_eq]; rfl)) ?_
  refine rf_o (fun r9 : (Int × Int) => ((AV.tup [(AV.int .i64 r9.1), (AV.int .i64 r9.2)]), σ)) (fun r9 hr9 => hq_R4_parts _ _ _ _ hr9) (fun r9 hr9 => ?_)
  refine rf_s (AV.int .i64 r9.1) (by first | rfl | (simp only [cPick_eq]; rfl)) <| rf_s (AV.int .i64 r9.2) (by first | rfl | (simp only [cPick_eq]; rfl)) <| rf_s (AV.int .i64 (IntKind.i64.wrap (s1.1 + r9.1))) (by first | rfl | (simp only [cPick_eq]; rfl)) <| rf_s (AV.int .i64 (if 201 < IntKind.i64.wrap (s1.1 + r9.1) then 201 else IntKind.i64.wrap (s1.1 + r9.1))) (by first | rfl | (simp only [cPick_eq]; rfl)) <| rf_s (AV.int .i64 (if s1.2 < r9.2 then r9.2 else s1.2)) (by first | rfl | (simp only [cPick_eq]; rfl)) <| rf_s _ (ix_inc he7 hle7) ?_
  exact rf_ret (rnd_go ⟨rfl, rfl⟩)
 ·intro hl s1 v w3 hI
  obtain ⟨rfl, rfl⟩ := hI
  refine rf_s _ (ix_end _) <| rf_cf ?_
  exact rf_ret ⟨by simp, ⟨_, rfl⟩⟩
 ·intro hl b2 q hq
  obtain ⟨u20, rfl⟩ := hq
  refine rf_bt (by first | rfl | (simp only [cPick_eq]; rfl)) ?_
  exact rf_fin _ (fin_same _ _) ⟨rfl, rfl⟩
 ·intro hl b2 q hq
  exact False.elim hq

noncomputable def t_R4_used (a0 : Int) : Option (Bool × Bool × Int) :=
 if a0 = 1 then
  some (true, true, 0)
 else
 (show Option Bool from
   if a0 = 2 then
    some (decide (a0 = 2))
   else
   some (decide (a0 = 3))).bind fun j2 =>
 if j2 = true then
  some (true, false, 0)
 else
 if a0 = 4 then
  some (false, false, (-1))
 else
 if a0 = 5 then
  some (false, false, 2)
 else
 if a0 = 9 then
  some (true, true, 1)
 else
 some (false, false, 1)
theorem h_R4_used {a0 : Int} {σ : Heap} {r : (Bool × Bool × Int)} (h : t_R4_used a0 = some r) : m_R4_used [(AV.int .i64 a0)] σ = some ((AV.tup [(AV.bool r.1), (AV.bool r.2.1), (AV.int .i64 r.2.2)]), σ) := by
 refine rf_wrap1 (f := r_R4_used) (y0 := (AV.int .i64 a0)) (enc := fun r : (Bool × Bool × Int) => (AV.tup [(AV.bool r.1), (AV.bool r.2.1), (AV.int .i64 r.2.2)])) (T := t_R4_used a0) rfl rfl ?_ r h
 unfold r_R4_used t_R4_used
 refine rf_s _ (aEq _ _ _) ?_
 refine rf_c (p := a0 = 1) (fun c9 => ?_) (fun c9 => ?_)
 ·exact rf_fin _ (fin_same _ _) ⟨rfl, rfl⟩
 refine rf_s _ (aEq _ _ _) ?_
 refine rf_b (ω := Bool) (fun j2 a => a = (([(AV.bool j2)] : List AV), σ)) (
   by
    refine rf_c (p := a0 = 2) (fun c1 => ?_) (fun c1 => ?_)
    ·exact rf_ret rfl
    refine rf_s _ (aEq _ _ _) ?_
    exact rf_ret rfl
   ) (fun j2 a ha => ?_)
 subst ha
 refine rf_cb (c := j2) (fun c8 => ?_) (fun c8 => ?_)
 ·exact rf_fin _ (fin_same _ _) ⟨rfl, rfl⟩
 refine rf_s _ (aEq _ _ _) ?_
 refine rf_c (p := a0 = 4) (fun c7 => ?_) (fun c7 => ?_)
 ·exact rf_fin _ (fin_same _ _) ⟨rfl, rfl⟩
 refine rf_s _ (aEq _ _ _) ?_
 refine rf_c (p := a0 = 5) (fun c6 => ?_) (fun c6 => ?_)
 ·exact rf_fin _ (fin_same _ _) ⟨rfl, rfl⟩
 refine rf_s _ (aEq _ _ _) ?_
 refine rf_c (p := a0 = 9) (fun c5 => ?_) (fun c5 => ?_)
 ·exact rf_fin _ (fin_same _ _) ⟨rfl, rfl⟩
 exact rf_fin _ (fin_same _ _) ⟨rfl, rfl⟩

noncomputable def t_R4_checkPart (q_R4_checkPart : PickD → Option Int) (a0 : PickD) : Option Int :=
 if (!(withinB a0.kind 1 9)) = true then
  some 4
 else
 (t_R4_used a0.kind).bind fun r1 =>
 if (((((!r1.1) && (decide (¬ (a0.frm = 0)))) || ((!r1.2.1) && (decide (¬ (a0.to = 0))))) || ((decide (0 ≤ r1.2.2)) && (decide (¬ ((a0.args.length : Int) = r1.2.2))))) || ((decide (r1.2.2 < 0)) && (decide ((a0.args.length : Int) < 2)))) = true then
  some 3
 else
 (show Option Int from
   if a0.kind = 2 then
    some 999
   else
   (show Option Int from
     if a0.kind = 3 then
      some 999
     else
     some 9999).bind fun j3 =>
   some j3).bind fun j7 =>
 if ((r1.1 && (!(withinB a0.frm 1 j7))) || (r1.2.1 && (!(withinB a0.to 1 9999)))) = true then
  some 1
 else
 forE a0.args (fun (i17 : Nat) e16 (s10 : Unit) => (show Option (Lr Unit Unit Int) from
   (q_R4_checkPart e16).bind fun r18 =>
   if ¬ (r18 = 0) then
    some (.ret r18)
   else
   some (.go ()))) (fun s10 => some ()) () (fun b11 =>
  some 0) (fun b11 =>
  some b11)
theorem h_R4_checkPart {rc : Nat → List AV → Heap → Option (AV × Heap)} (q_R4_checkPart : PickD → Option Int) (hq_R4_checkPart : ∀ (x0 : PickD) (s : Heap) r, q_R4_checkPart x0 = some r → rc 48 [(AV.agg (cPick x0))] s = some ((AV.int .i64 r), s)) {a0 : PickD} {σ : Heap} {r : Int} (h : t_R4_checkPart q_R4_checkPart a0 = some r) : A.wrap true [(.a [.k, .k, .k, (.s 4)])] .k (A.ar1 (r_R4_checkPart rc)) [(AV.agg (cPick a0))] σ = some ((AV.int .i64 r), σ) := by
 refine rf_wrap1 (f := r_R4_checkPart rc) (y0 := (AV.agg (cPick a0))) (enc := fun r : Int => (AV.int .i64 r)) (T := t_R4_checkPart q_R4_checkPart a0) (by first | rfl | (simp only [cPick_eq]; rfl)) (by first | rfl | (simp only [cPick_eq]; rfl)) ?_ r h
 unfold r_R4_checkPart t_R4_checkPart
 refine rf_s (cPick a0) (by first | rfl | (simp only [cPick_eq]; rfl)) <| rf_s (AV.int .i64 a0.kind) (by first | rfl | (simp only [cPick_eq]; rfl)) <| rf_s _ (Within1_eq a0.kind 1 9 σ) <| rf_s (AV.bool (!(withinB a0.kind 1 9))) (by first | rfl | (simp only [cPick_eq]; rfl)) ?_
 refine rf_cb (c := (!(withinB a0.kind 1 9))) (fun c22 => ?_) (fun c22 => ?_)
 ·exact rf_fin _ (fin_same _ _) ⟨rfl, rfl⟩
 refine rf_s (AV.int .i64 a0.kind) (by first | rfl | (simp only [cPick_eq]; rfl)) ?_
 refine rf_o (fun r1 : (Bool × Bool × Int) => ((AV.tup [(AV.bool r1.1), (AV.bool r1.2.1), (AV.int .i64 r1.2.2)]), σ)) (fun r1 hr1 => h_R4_used hr1) (fun r1 hr1 => ?_)
 refine rf_s (AV.bool r1.1) (by first | rfl | (simp only [cPick_eq]; rfl)) <| rf_s (AV.bool r1.2.1) (by first | rfl | (simp only [cPick_eq]; rfl)) <| rf_s (AV.int .i64 r1.2.2) (by first | rfl | (simp only [cPick_eq]; rfl)) <| rf_s (AV.bool (!r1.1)) (by first | rfl | (simp only [cPick_eq]; rfl)) <| rf_gt (AV.int .i64 a0.frm) (fun hg => by first | rfl | (simp only [cPick_eq]; rfl)) <| rf_gt (AV.bool (decide (¬ (a0.frm = 0)))) (fun hg => by (try rw [hg]); exact (aNe _ _ _)) <| rf_s _ (pk_and _ _) <| rf_gf (AV.bool r1.2.1) (fun hg => by first | rfl | (simp only [cPick_eq]; rfl)) <| rf_gf (AV.bool (!r1.2.1)) (fun hg => by (try rw [hg]); exact rfl) <| rf_gf (AV.bool (!r1.2.1)) (fun hg => by (try rw [hg]); exact rfl) <| rf_ggt (AV.int .i64 a0.to) (fun hg => by first | rfl | (simp only [cPick_eq]; rfl)) <| rf_ggt (AV.bool (decide (¬ (a0.to = 0)))) (fun hg => by (try rw [hg]); exact (aNe _ _ _)) <| rf_gf (AV.bool ((!r1.2.1) && (decide (¬ (a0.to = 0))))) (fun hg => by (try rw [hg]); exact (pk_and _ _)) <| rf_s _ (pk_or _ _) <| rf_gf (AV.int .i64 r1.2.2) (fun hg => by first | rfl | (simp only [cPick_eq]; rfl)) <| rf_gf (AV.bool (decide (0 ≤ r1.2.2))) (fun hg => by (try rw [hg]); exact rfl) <| rf_gf (AV.bool (decide (0 ≤ r1.2.2))) (fun hg => by (try rw [hg]); exact rfl) <| rf_ggt (sl 4 cPick a0.args) (fun hg => by first | rfl | (simp only [cPick_eq]; rfl)) <| rf_ggt (AV.int .i64 (a0.args.length : Int)) (fun hg => by (try rw [hg]); exact (lenS_sl _ _ _)) <| rf_ggt (AV.int .i64 r1.2.2) (fun hg => by first | rfl | (simp only [cPick_eq]; rfl)) <| rf_ggt (AV.bool (decide (¬ ((a0.args.length : Int) = r1.2.2)))) (fun hg => by (try rw [hg]); exact (aNe _ _ _)) <| rf_gf (AV.bool ((decide (0 ≤ r1.2.2)) && (decide (¬ ((a0.args.length : Int) = r1.2.2))))) (fun hg => by (try rw [hg]); exact (pk_and _ _)) <| rf_s _ (pk_or _ _) <| rf_gf (AV.int .i64 r1.2.2) (fun hg => by first | rfl | (simp only [cPick_eq]; rfl)) <| rf_gf (AV.bool (decide (r1.2.2 < 0))) (fun hg => by (try rw [hg]); exact rfl) <| rf_gf (AV.bool (decide (r1.2.2 < 0))) (fun hg => by (try rw [hg]); exact rfl) <| rf_ggt (sl 4 cPick a0.args) (fun hg => by first | rfl | (simp only [cPick_eq]; rfl)) <| rf_ggt (AV.int .i64 (a0.args.length : Int)) (fun hg => by (try rw [hg]); exact (lenS_sl _ _ _)) <| rf_ggt (AV.bool (decide ((a0.args.length : Int) < 2))) (fun hg => by (try rw [hg]); exact rfl) <| rf_gf (AV.bool ((decide (r1.2.2 < 0)) && (decide ((a0.args.length : Int) < 2)))) (fun hg => by (try rw [hg]); exact (pk_and _ _)) <| rf_s _ (pk_or _ _) ?_
 refine rf_cb (c := (((((!r1.1) && (decide (¬ (a0.frm = 0)))) || ((!r1.2.1) && (decide (¬ (a0.to = 0))))) || ((decide (0 ≤ r1.2.2)) && (decide (¬ ((a0.args.length : Int) = r1.2.2))))) || ((decide (r1.2.2 < 0)) && (decide ((a0.args.length : Int) < 2))))) (fun c21 => ?_) (fun c21 => ?_)
 ·exact rf_fin _ (fin_same _ _) ⟨rfl, rfl⟩
 refine rf_s (AV.int .i64 a0.kind) (by first | rfl | (simp only [cPick_eq]; rfl)) <| rf_s _ (aEq _ _ _) ?_
 refine rf_b (ω := Int) (fun j7 a => a = (([(AV.lbx (cPick a0)), (AV.int .i64 j7)] : List AV), σ)) (
   by
    refine rf_c (p := a0.kind = 2) (fun c6 => ?_) (fun c6 => ?_)
    ·exact rf_ret rfl
    refine rf_s _ (aEq _ _ _) ?_
    refine rf_b (ω := Int) (fun j3 a => a = (([(AV.lbx (cPick a0)), (AV.int .i64 j3)] : List AV), σ)) (
      by
       refine rf_c (p := a0.kind = 3) (fun c2 => ?_) (fun c2 => ?_)
       ·exact rf_ret rfl
       exact rf_ret rfl
      ) (fun j3 a ha => ?_)
    subst ha
    exact rf_ret rfl
   ) (fun j7 a ha => ?_)
 subst ha
 refine rf_s _ (by first | rfl | (simp only [cPick_eq]; rfl)) <| rf_gt (AV.int .i64 a0.frm) (fun hg => by first | rfl | (simp only [cPick_eq]; rfl)) <| rf_gt (AV.int .i64 j7) (fun hg => by first | rfl | (simp only [cPick_eq]; rfl)) <| rf_gt (AV.bool (withinB a0.frm 1 j7)) (fun hg => by (try rw [hg]); exact (quiet_of (Within1_eq a0.frm 1 j7 σ))) <| rf_gt (AV.bool (!(withinB a0.frm 1 j7))) (fun hg => by (try rw [hg]); exact rfl) <| rf_s _ (pk_and _ _) <| rf_gf (AV.bool r1.2.1) (fun hg => by first | rfl | (simp only [cPick_eq]; rfl)) <| rf_gf (AV.bool r1.2.1) (fun hg => by (try rw [hg]); exact rfl) <| rf_s _ (by first | rfl | (simp only [cPick_eq]; rfl)) <| rf_ggt (AV.int .i64 a0.to) (fun hg => by first | rfl | (simp only [cPick_eq]; rfl)) <| rf_ggt (AV.bool (withinB a0.to 1 9999)) (fun hg => by (try rw [hg]); exact (quiet_of (Within1_eq a0.to 1 9999 σ))) <| rf_ggt (AV.bool (!(withinB a0.to 1 9999))) (fun hg => by (try rw [hg]); exact rfl) <| rf_gf (AV.bool (r1.2.1 && (!(withinB a0.to 1 9999)))) (fun hg => by (try rw [hg]); exact (pk_and _ _)) <| rf_s _ (pk_or _ _) ?_
 refine rf_cb (c := ((r1.1 && (!(withinB a0.frm 1 j7))) || (r1.2.1 && (!(withinB a0.to 1 9999))))) (fun c20 => ?_) (fun c20 => ?_)
 ·exact rf_fin _ (fin_same _ _) ⟨rfl, rfl⟩
 refine rf_s _ (by first | rfl | (simp only [cPick_eq]; rfl)) <| rf_s (sl 4 cPick a0.args) (by first | rfl | (simp only [cPick_eq]; rfl)) <| rf_s _ (lenS_sl _ _ _) ?_
 refine rf_for (B := Unit) (R := Int) (fun (i17 : Nat) (s10 : Unit) v w12 => v = [(AV.int .i64 0), (AV.int .i64 (i17 : Int))] ∧ σ = w12) (fun (b11 : Unit) (q : LS) => ∃ u2 u84, q = ((AX.exit 1), ([u2, u84] : List AV), σ)) (fun (b11 : Int) (q : LS) => ∃ u84, q = (AX.ret, ([(AV.int .i64 b11), u84] : List AV), σ)) ?_ ?_ ⟨rfl, rfl⟩ ?_ ?_
 ·intro hle16 i17 e16 s10 v w12 he16 hI
  obtain ⟨rfl, rfl⟩ := hI
  refine rf_s _ (ix_lt he16) <| rf_ct <| rf_s _ (ix_for he16) <| rf_s (AV.agg (cPick e16)) (by first | rfl | (simp only [cPick_eq]; rfl)) <| rf_s (cPick e16) (by first | rfl | (simp only [cPick_eq]; rfl)) <| rf_s _ (sp_cPick _ _ rfl) <| rf_s (AV.agg (cPick e16)) (by first | rfl | (simp only [cPick_eq]; rfl)) ?_
  refine rf_o (fun r18 : Int => ((AV.int .i64 r18), σ)) (fun r18 hr18 => hq_R4_checkPart _ _ _ hr18) (fun r18 hr18 => ?_)
  refine rf_s _ (aNe _ _ _) ?_
  refine rf_c (p := ¬ (r18 = 0)) (fun c19 => ?_) (fun c19 => ?_)
  ·exact rf_ret (rnd_ret (by simp) ⟨_, rfl⟩)
  refine rf_s _ (ix_inc he16 hle16) ?_
  exact rf_ret (rnd_go ⟨rfl, rfl⟩)
 ·intro hl s10 v w12 hI
  obtain ⟨rfl, rfl⟩ := hI
  refine rf_s _ (ix_end _) <| rf_cf ?_
  exact rf_ret ⟨by simp, ⟨_, _, rfl⟩⟩
 ·intro hl b11 q hq
  obtain ⟨u2, u84, rfl⟩ := hq
  refine rf_bt (by first | rfl | (simp only [cPick_eq]; rfl)) ?_
  exact rf_fin _ (fin_same _ _) ⟨rfl, rfl⟩
 ·intro hl b11 q hq
  obtain ⟨u84, rfl⟩ := hq
  refine rf_bf (by first | rfl | (simp only [cPick_eq]; rfl)) <| rf_bt (by first | rfl | (simp only [cPick_eq]; rfl)) ?_
  exact rf_fin _ (fin_same _ _) ⟨rfl, rfl⟩

end Go.Proofs.YtfalbgflabajbaaDoor

namespace Go.Proofs.YtfalbgflabajbaaDoor
set_option linter.unusedSectionVars false
set_option linter.unusedVariables false
set_option linter.unusedSimpArgs false
theorem pSizes_snoc : ∀ (l : List PickD) (p : PickD), pSizes (l ++ [p]) = pSizes l + pSize p
 | [], p => by rw [List.nil_append, pSizes, pSizes, pSizes]; omega
 | q :: l, p => by rw [List.cons_append, pSizes, pSizes, pSizes_snoc l p]; omega
theorem pDeeps_snoc : ∀ (l : List PickD) (p : PickD), pDeeps (l ++ [p]) = max (pDeeps l) (pDeep p)
 | [], p => by rw [List.nil_append, pDeeps, pDeeps, pDeeps]; omega
 | q :: l, p => by rw [List.cons_append, pDeeps, pDeeps, pDeeps_snoc l p]; omega
theorem pSizes_take (l : List PickD) (k : Nat) : pSizes (l.take k) ≤ pSizes l := by
 have h : pSizes (l.take k ++ l.drop k) = pSizes (l.take k) + pSizes (l.drop k) := by
  rw [pSizes_sum, pSizes_sum, pSizes_sum, List.map_append, List.sum_append]
 rw [List.take_append_drop] at h
 omega
theorem pDeeps_size : ∀ l : List PickD, pDeeps l ≤ pSizes l
 | [] => by rw [pDeeps, pSizes]; omega
 | .mk k f t a :: l => by
  rw [pDeeps, pSizes, pDeep, pSize]
  have := pDeeps_size a
  have := pDeeps_size l
  omega
def partF (k f t : Int) (n : Nat) : Int :=
 if ¬ (1 ≤ k ∧ k ≤ 9) then 4
 else if (k ≤ 3 ∧ n ≠ 0) ∨ (k = 4 ∧ n < 2) ∨ (k = 5 ∧ n ≠ 2) ∨ (6 ≤ k ∧ n ≠ 1) ∨ (4 ≤ k ∧ k ≤ 8 ∧ f ≠ 0) ∨ (2 ≤ k ∧ k ≤ 8 ∧ t ≠ 0) then 3
 else if ((k = 1 ∨ k = 9) ∧ ¬ (1 ≤ f ∧ f ≤ 9999)) ∨ ((k = 2 ∨ k = 3) ∧ ¬ (1 ≤ f ∧ f ≤ 999)) ∨ ((k = 1 ∨ k = 9) ∧ ¬ (1 ≤ t ∧ t ≤ 9999)) then 1
 else 0
mutual
def pChk : PickD → Int
 | .mk k f t l => if partF k f t l.length = 0 then pChks l else partF k f t l.length
def pChks : List PickD → Int
 | [] => 0
 | p :: l => if pChk p = 0 then pChks l else pChk p
end
def checkF (p : PickD) : Int := if 200 < pSize p ∨ 12 < pDeep p then 2 else pChk p
mutual
def rP (lv : Nat) : PickD → Nat × Nat
 | .mk _ _ _ l => if 12 < lv then (1, lv) else rPs lv l (1, lv)
def rPs (lv : Nat) : List PickD → Nat × Nat → Nat × Nat
 | [], c => c
 | p :: l, c => rPs lv l (min (c.1 + (rP (lv + 1) p).1) 201, max c.2 (rP (lv + 1) p).2)
end
mutual
theorem rP_bd (lv : Nat) (h : lv ≤ 13) : ∀ p : PickD, (rP lv p).1 ≤ 201 ∧ (rP lv p).2 ≤ 13
 | .mk _ _ _ l => by
  rw [rP]
  by_cases h12 : 12 < lv
  ·rw [if_pos h12]; exact ⟨by show 1 ≤ 201; omega, h⟩
  ·rw [if_neg h12]
   exact rPs_bd lv (by omega) l (1, lv) (by show 1 ≤ 201; omega) h
theorem rPs_bd (lv : Nat) (h : lv ≤ 12) : ∀ (l : List PickD) (c : Nat × Nat), c.1 ≤ 201 → c.2 ≤ 13 → (rPs lv l c).1 ≤ 201 ∧ (rPs lv l c).2 ≤ 13
 | [], c, h1, h2 => by rw [rPs]; exact ⟨h1, h2⟩
 | p :: l, c, h1, h2 => by
  rw [rPs]
  have := rP_bd (lv + 1) (by omega) p
  exact rPs_bd lv h l _ (by show min _ 201 ≤ 201; omega) (by show max _ _ ≤ 13; omega)
end
mutual
theorem rP_in (lv : Nat) : ∀ p : PickD, lv + pDeep p ≤ 13 → rP lv p = (min (pSize p) 201, lv + pDeep p - 1)
 | .mk k f t l, h => by
  rw [pDeep] at h
  rw [rP, if_neg (by omega), rPs_in lv l (1, lv) (by omega) (by show 1 ≤ 201; omega) (Nat.le_refl lv), pSize, pDeep]
  show (min (1 + pSizes l) 201, max lv (lv + pDeeps l)) = _
  rw [show max lv (lv + pDeeps l) = lv + (1 + pDeeps l) - 1 by omega]
theorem rPs_in (lv : Nat) : ∀ (l : List PickD) (c : Nat × Nat), lv + pDeeps l ≤ 12 → c.1 ≤ 201 → lv ≤ c.2 → rPs lv l c = (min (c.1 + pSizes l) 201, max c.2 (lv + pDeeps l))
 | [], (c1, c2), h, h1, h2 => by
  rw [rPs, pSizes, pDeeps]
  have h1 : c1 ≤ 201 := h1
  have h2 : lv ≤ c2 := h2
  show (c1, c2) = (min (c1 + 0) 201, max c2 (lv + 0))
  rw [show min (c1 + 0) 201 = c1 by omega, show max c2 (lv + 0) = c2 by omega]
 | p :: l, (c1, c2), h, h1, h2 => by
  rw [pDeeps] at h
  have h1 : c1 ≤ 201 := h1
  have h2 : lv ≤ c2 := h2
  rw [rPs, rP_in (lv + 1) p (by omega), rPs_in lv l _ (by omega) (by show min _ 201 ≤ 201; omega) (by show lv ≤ max c2 _; omega), pSizes, pDeeps]
  show (min (min (c1 + min (pSize p) 201) 201 + pSizes l) 201, max (max c2 (lv + 1 + pDeep p - 1)) (lv + pDeeps l)) = (min (c1 + (pSize p + pSizes l)) 201, max c2 (lv + max (pDeep p) (pDeeps l)))
  rw [show min (min (c1 + min (pSize p) 201) 201 + pSizes l) 201 = min (c1 + (pSize p + pSizes l)) 201 by omega, show max (max c2 (lv + 1 + pDeep p - 1)) (lv + pDeeps l) = max c2 (lv + max (pDeep p) (pDeeps l)) by omega]
end
mutual
theorem rP_out (lv : Nat) : ∀ p : PickD, lv ≤ 13 → 13 < lv + pDeep p → 12 < (rP lv p).2
 | .mk k f t l, h0, h => by
  rw [pDeep] at h
  rw [rP]
  by_cases h12 : 12 < lv
  ·rw [if_pos h12]; exact h12
  ·rw [if_neg h12]
   exact rPs_out lv l (1, lv) (by omega) (by omega)
theorem rPs_ge (lv : Nat) : ∀ (l : List PickD) (c : Nat × Nat), c.2 ≤ (rPs lv l c).2
 | [], c => by rw [rPs]; omega
 | p :: l, c => by
  rw [rPs]
  have := rPs_ge lv l (min (c.1 + (rP (lv + 1) p).1) 201, max c.2 (rP (lv + 1) p).2)
  have h2 : max c.2 (rP (lv + 1) p).2 ≤ (rPs lv l (min (c.1 + (rP (lv + 1) p).1) 201, max c.2 (rP (lv + 1) p).2)).2 := this
  omega
theorem rPs_out (lv : Nat) : ∀ (l : List PickD) (c : Nat × Nat), lv ≤ 12 → 12 < lv + pDeeps l → 12 < (rPs lv l c).2
 | [], c, h0, h => by rw [pDeeps] at h; omega
 | p :: l, c, h0, h => by
  rw [pDeeps] at h
  rw [rPs]
  by_cases hp : 12 < lv + pDeep p
  ·have h1 := rP_out (lv + 1) p (by omega) (by omega)
   have h2 := rPs_ge lv l (min (c.1 + (rP (lv + 1) p).1) 201, max c.2 (rP (lv + 1) p).2)
   have h3 : max c.2 (rP (lv + 1) p).2 ≤ (rPs lv l (min (c.1 + (rP (lv + 1) p).1) 201, max c.2 (rP (lv + 1) p).2)).2 := h2
   omega
  ·exact rPs_out lv l _ h0 (by omega)
end
theorem large_iff (p : PickD) : (200 < (rP 1 p).1 ∨ 12 < (rP 1 p).2) ↔ (200 < pSize p ∨ 12 < pDeep p) := by
 by_cases h : 1 + pDeep p ≤ 13
 ·rw [rP_in 1 p h]
  show (200 < min (pSize p) 201 ∨ 12 < 1 + pDeep p - 1) ↔ _
  omega
 ·have := rP_out 1 p (by omega) (by omega)
  omega
end Go.Proofs.YtfalbgflabajbaaDoor

namespace Go.Proofs.YtfalbgflabajbaaDoor
set_option linter.unusedSectionVars false
set_option linter.unusedVariables false
set_option linter.unusedSimpArgs false
section
variable {α S B R γ : Type}
theorem forE_st {l : List α} {body : Nat → α → S → Option (Lr S B R)} {fin : S → Option B} {s : S} {K1 : B → Option γ} {K2 : R → Option γ} (st : Nat → S) (hl : l.length ≤ mxl) (h0 : s = st 0) (hb : ∀ i x, l[i]? = some x → body i x (st i) = some (.go (st (i + 1)))) : forE l body fin s K1 K2 = (fin (st l.length)).bind K1 := by
 rw [forE_le hl]
 have key : ∀ (rest pre : List α), l = pre ++ rest → forL body fin rest pre.length (st pre.length) = (fin (st l.length)).map .inl := by
  intro rest
  induction rest with
  | nil => intro pre hp; rw [List.append_nil] at hp; subst hp; rfl
  | cons x rest ih =>
   intro pre hp
   have hx : l[pre.length]? = some x := by rw [hp]; simp
   rw [forL, hb pre.length x hx, Option.bind_some]
   have := ih (pre ++ [x]) (by simpa using hp)
   simpa using this
 have k := key l [] rfl
 rw [List.length_nil] at k
 rw [h0, k]
 cases fin (st l.length) <;> rfl
end
theorem pSizes_len : ∀ l : List PickD, l.length ≤ pSizes l
 | [] => Nat.zero_le _
 | p :: l => by rw [pSizes, pSize_eq, List.length_cons]; have := pSizes_len l; omega
theorem pDeeps_mem {p : PickD} : ∀ {l : List PickD}, p ∈ l → pDeep p ≤ pDeeps l
 | q :: l, h => by
  rw [pDeeps]
  rcases List.mem_cons.1 h with rfl | h
  ·omega
  ·have := pDeeps_mem h; omega
theorem pDeep_size (p : PickD) : pDeep p ≤ pSize p := by
 rw [pDeep_eq, pSize_eq]; have := pDeeps_size p.args; omega
theorem pDeep_pos (p : PickD) : 1 ≤ pDeep p := by rw [pDeep_eq]; omega
abbrev pMx : Nat := 4611686018427387904
theorem args_mx {p : PickD} (h : pSize p ≤ pMx) : p.args.length ≤ mxl := by
 have := pSizes_len p.args; rw [pSize_eq] at h; unfold pMx at h; unfold mxl; omega
theorem size_t : ∀ (n : Nat) (p : PickD) (σ : Heap), pDeep p ≤ n → pSize p ≤ pMx → fuel R_pick_size n 37 [.agg (cPick p)] σ = some (.tup [.int .i64 (pSize p : Int), .int .i64 (pDeep p : Int)], σ)
 | 0, p, σ, h, _ => by have := pDeep_pos p; omega
 | n + 1, p, σ, h, hs => by
  let q : PickD → Option (Int × Int) := fun p => if pDeep p ≤ n ∧ pSize p ≤ pMx then some ((pSize p : Int), (pDeep p : Int)) else none
  have hd : pDeeps p.args ≤ n := by rw [pDeep_eq] at h; omega
  have hz : 1 + pSizes p.args ≤ pMx := by rw [pSize_eq] at hs; exact hs
  have e : t_pick_size q p = some ((pSize p : Int), (pDeep p : Int)) := by
   unfold t_pick_size
   rw [forE_st (fun i => (((1 + pSizes (p.args.take i) : Nat) : Int), ((1 + pDeeps (p.args.take i) : Nat) : Int))) (args_mx hs) (by simp [pSizes, pDeeps])]
   ·simp only [List.take_length, Option.bind_some, pSize_eq p, pDeep_eq p]
   ·intro i x hx
    have hm := List.mem_of_getElem? hx
    have hxd := pDeeps_mem hm
    have hxs := pSizes_mem hm
    have hi := (List.getElem?_eq_some_iff.1 hx).1
    have ht : p.args.take (i + 1) = p.args.take i ++ [x] := by rw [List.take_add_one, hx]; rfl
    have hle := pSizes_take p.args (i + 1)
    rw [ht, pSizes_snoc] at hle
    have hdl := pDeeps_size (p.args.take i)
    have hds := pDeep_size x
    have hq : q x = some ((pSize x : Int), (pDeep x : Int)) := if_pos ⟨by omega, by omega⟩
    unfold pMx at *
    simp only [hq, Option.bind_some, ht, pSizes_snoc, pDeeps_snoc]
    rw [wrap64 (by unfold inI; omega), wrap64 (by unfold inI; omega)]
    congr 3
    ·omega
    ·split <;> omega
  have hr : fuel R_pick_size (n + 1) 37 = A.wrap true [(.a [.k, .k, .k, (.s 4)])] .k (A.ar1 (r_pick_size (fuel R_pick_size n))) := rfl
  rw [hr]
  exact h_pick_size (rc := fuel R_pick_size n) q (fun x s r hx => by
   by_cases hp : pDeep x ≤ n ∧ pSize x ≤ pMx
   ·have : q x = _ := if_pos hp
    rw [this] at hx; injection hx with hx; subst hx
    exact size_t n x s hp.1 hp.2
   ·have : q x = none := if_neg hp
    rw [this] at hx; cases hx) e
theorem pChks_chkE : ∀ (l : List PickD) (i : Nat), chkE (fun _ x => pChk x) l i = pChks l
 | [], i => by rw [chkE, pChks]
 | p :: l, i => by rw [chkE, pChks, pChks_chkE l (i + 1)]
theorem chk_loop {q : PickD → Option Int} {l : List PickD} (hl : l.length ≤ mxl) (hq : ∀ x ∈ l, q x = some (pChk x)) :
  forE l (fun (i : Nat) e (s : Unit) => (show Option (Lr Unit Unit Int) from (q e).bind fun r => if ¬ (r = 0) then some (.ret r) else some (.go ()))) (fun s => some ()) () (fun b => some 0) (fun b => some b) = some (pChks l) := by
 rw [forE_chk (f := fun _ x => pChk x) hl (fun i x hx => by
  simp only [hq x (List.mem_of_getElem? hx), Option.bind_some]
  by_cases h : pChk x = 0 <;> simp [h]) rfl, pChks_chkE]
 split
 ·rename_i h; rw [h]
 ·rfl
def pkA (k f t : Int) (n : Nat) : Prop := (k ≤ 3 ∧ n ≠ 0) ∨ (k = 4 ∧ n < 2) ∨ (k = 5 ∧ n ≠ 2) ∨ (6 ≤ k ∧ n ≠ 1) ∨ (4 ≤ k ∧ k ≤ 8 ∧ f ≠ 0) ∨ (2 ≤ k ∧ k ≤ 8 ∧ t ≠ 0)
def pkB (k f t : Int) : Prop := ((k = 1 ∨ k = 9) ∧ ¬ (1 ≤ f ∧ f ≤ 9999)) ∨ ((k = 2 ∨ k = 3) ∧ ¬ (1 ≤ f ∧ f ≤ 999)) ∨ ((k = 1 ∨ k = 9) ∧ ¬ (1 ≤ t ∧ t ≤ 9999))
theorem pk_in {k f t : Int} {n : Nat} {L : Int} {A B : Prop} [Decidable A] [Decidable B] {X : Option Int} (hk : 1 ≤ k ∧ k ≤ 9) (hA : A ↔ pkA k f t n) (hB : B ↔ pkB k f t) (hX : X = if A then some 3 else if B then some 1 else some L) : X = some (if partF k f t n = 0 then L else partF k f t n) := by
 rw [hX]; unfold pkA at hA; unfold pkB at hB
 by_cases a : A
 ·have e : partF k f t n = 3 := by unfold partF; rw [if_neg (fun h => h hk), if_pos (hA.1 a)]
  rw [if_pos a, e]; rfl
 ·by_cases b : B
  ·have e : partF k f t n = 1 := by unfold partF; rw [if_neg (fun h => h hk), if_neg (fun h => a (hA.2 h)), if_pos (hB.1 b)]
   rw [if_neg a, if_pos b, e]; rfl
  ·have e : partF k f t n = 0 := by unfold partF; rw [if_neg (fun h => h hk), if_neg (fun h => a (hA.2 h)), if_neg (fun h => b (hB.2 h))]
   rw [if_neg a, if_neg b, e]; rfl
theorem pChk_eq (p : PickD) : pChk p = if partF p.kind p.frm p.to p.args.length = 0 then pChks p.args else partF p.kind p.frm p.to p.args.length := by cases p; rw [pChk]; rfl
theorem partF_out {k f t : Int} {n : Nat} (hk : ¬ (1 ≤ k ∧ k ≤ 9)) : partF k f t n = 4 := by unfold partF; rw [if_pos hk]
theorem check_k {q : PickD → Option Int} (p : PickD) (hl : p.args.length ≤ mxl) (hq : ∀ x ∈ p.args, q x = some (pChk x)) : t_pick_check q p = some (pChk p) := by
 have hL := chk_loop hl hq
 unfold t_pick_check
 rw [pChk_eq]
 simp only [hL]
 generalize pChks p.args = L
 clear hL hq
 generalize p.args.length = n at *
 generalize p.kind = k
 generalize p.frm = f
 generalize p.to = t
 by_cases hk : 1 ≤ k ∧ k ≤ 9
 ·have hk' : k = 1 ∨ k = 2 ∨ k = 3 ∨ k = 4 ∨ k = 5 ∨ k = 6 ∨ k = 7 ∨ k = 8 ∨ k = 9 := by omega
  rcases hk' with rfl | rfl | rfl | rfl | rfl | rfl | rfl | rfl | rfl <;>
   (simp only [withinB, reduceIte, Option.bind_some, Int.reduceEq, decide_true, decide_false, Bool.false_eq_true, Bool.not_true, Bool.not_false, Bool.true_and, Bool.false_and, Bool.or_false, Bool.false_or, Bool.or_eq_true, decide_eq_true_eq, Bool.not_eq_true', decide_eq_false_iff_not]; (first | refine pk_in (by decide) ?_ ?_ rfl | refine pk_in (B := False) (by decide) ?_ ?_ rfl) <;> (simp [pkA, pkB]; try omega))
 ·rw [partF_out hk]
  have n1 : ¬ k = 1 := by omega
  have n2 : ¬ k = 2 := by omega
  have n3 : ¬ k = 3 := by omega
  have n4 : ¬ k = 4 := by omega
  have n5 : ¬ k = 5 := by omega
  have n6 : ¬ k = 6 := by omega
  have n7 : ¬ k = 7 := by omega
  have n8 : ¬ k = 8 := by omega
  have n9 : ¬ k = 9 := by omega
  simp [n1, n2, n3, n4, n5, n6, n7, n8, n9]
theorem check4_k {q : PickD → Option Int} (p : PickD) (hl : p.args.length ≤ mxl) (hq : ∀ x ∈ p.args, q x = some (pChk x)) : t_R4_checkPart q p = some (pChk p) := by
 have hL := chk_loop hl hq
 unfold t_R4_checkPart t_R4_used
 rw [pChk_eq]
 simp only [hL]
 generalize pChks p.args = L
 clear hL hq
 generalize p.args.length = n at *
 generalize p.kind = k
 generalize p.frm = f
 generalize p.to = t
 by_cases hk : 1 ≤ k ∧ k ≤ 9
 ·have hk' : k = 1 ∨ k = 2 ∨ k = 3 ∨ k = 4 ∨ k = 5 ∨ k = 6 ∨ k = 7 ∨ k = 8 ∨ k = 9 := by omega
  rcases hk' with rfl | rfl | rfl | rfl | rfl | rfl | rfl | rfl | rfl <;>
   (simp only [withinB, reduceIte, Option.bind_some, Int.reduceEq, Int.reduceLE, Int.reduceLT, Int.reduceNeg, and_self, decide_true, decide_false, Bool.false_eq_true, Bool.not_true, Bool.not_false, Bool.true_and, Bool.false_and, Bool.or_false, Bool.false_or, Bool.or_eq_true, decide_eq_true_eq, Bool.not_eq_true', decide_eq_false_iff_not]; (first | refine pk_in (by decide) ?_ ?_ rfl | refine pk_in (B := False) (by decide) ?_ ?_ rfl) <;> (simp [pkA, pkB]; try omega))
 ·rw [partF_out hk]
  have : withinB k 1 9 = false := decide_eq_false hk
  simp [this]
theorem args_d {p : PickD} {n : Nat} (h : pDeep p ≤ n + 1) : pDeeps p.args ≤ n := by rw [pDeep_eq] at h; omega
theorem check_t : ∀ (n : Nat) (p : PickD) (σ : Heap), pDeep p ≤ n → pSize p ≤ pMx → fuel R_pick_check n 38 [.agg (cPick p)] σ = some (.int .i64 (pChk p), σ)
 | 0, p, σ, h, _ => by have := pDeep_pos p; omega
 | n + 1, p, σ, h, hs => by
  let q : PickD → Option Int := fun p => if pDeep p ≤ n ∧ pSize p ≤ pMx then some (pChk p) else none
  have hd := args_d h
  have e : t_pick_check q p = some (pChk p) := check_k p (args_mx hs) fun x hx => if_pos ⟨Nat.le_trans (pDeeps_mem hx) hd, by have := pSize_arg hx; omega⟩
  have hr : fuel R_pick_check (n + 1) 38 = A.wrap true [(.a [.k, .k, .k, (.s 4)])] .k (A.ar1 (r_pick_check (fuel R_pick_check n))) := rfl
  rw [hr]
  exact h_pick_check (rc := fuel R_pick_check n) q (fun x s r hx => by
   by_cases hp : pDeep x ≤ n ∧ pSize x ≤ pMx
   ·have : q x = _ := if_pos hp
    rw [this] at hx; injection hx with hx; subst hx
    exact check_t n x s hp.1 hp.2
   ·have : q x = none := if_neg hp
    rw [this] at hx; cases hx) e
theorem checkPart_t : ∀ (n : Nat) (p : PickD) (σ : Heap), pDeep p ≤ n → pSize p ≤ pMx → fuel R_R4_checkPart n 48 [.agg (cPick p)] σ = some (.int .i64 (pChk p), σ)
 | 0, p, σ, h, _ => by have := pDeep_pos p; omega
 | n + 1, p, σ, h, hs => by
  let q : PickD → Option Int := fun p => if pDeep p ≤ n ∧ pSize p ≤ pMx then some (pChk p) else none
  have hd := args_d h
  have e : t_R4_checkPart q p = some (pChk p) := check4_k p (args_mx hs) fun x hx => if_pos ⟨Nat.le_trans (pDeeps_mem hx) hd, by have := pSize_arg hx; omega⟩
  have hr : fuel R_R4_checkPart (n + 1) 48 = A.wrap true [(.a [.k, .k, .k, (.s 4)])] .k (A.ar1 (r_R4_checkPart (fuel R_R4_checkPart n))) := rfl
  rw [hr]
  exact h_R4_checkPart (rc := fuel R_R4_checkPart n) q (fun x s r hx => by
   by_cases hp : pDeep x ≤ n ∧ pSize x ≤ pMx
   ·have : q x = _ := if_pos hp
    rw [this] at hx; injection hx with hx; subst hx
    exact checkPart_t n x s hp.1 hp.2
   ·have : q x = none := if_neg hp
    rw [this] at hx; cases hx) e
theorem rPs_snoc (lv : Nat) : ∀ (l : List PickD) (x : PickD) (c : Nat × Nat), rPs lv (l ++ [x]) c = (min ((rPs lv l c).1 + (rP (lv + 1) x).1) 201, max (rPs lv l c).2 (rP (lv + 1) x).2)
 | [], x, c => by rw [List.nil_append, rPs, rPs, rPs]
 | p :: l, x, c => by rw [List.cons_append, rPs, rPs, rPs_snoc lv l x]
theorem rP_eq (lv : Nat) (p : PickD) : rP lv p = if 12 < lv then (1, lv) else rPs lv p.args (1, lv) := by cases p; rw [rP]; rfl
theorem parts_t : ∀ (n : Nat) (p : PickD) (lv : Nat) (σ : Heap), lv ≤ 13 → 14 ≤ n + lv → pSize p ≤ pMx → fuel R_R4_parts n 46 [.agg (cPick p), .int .i64 (lv : Int)] σ = some (.tup [.int .i64 ((rP lv p).1 : Int), .int .i64 ((rP lv p).2 : Int)], σ)
 | 0, p, lv, σ, h, h2, _ => by omega
 | n + 1, p, lv, σ, h, h2, hs => by
  let q : PickD → Int → Option (Int × Int) := fun p i => if 0 ≤ i ∧ i ≤ 13 ∧ 14 ≤ n + i.toNat ∧ pSize p ≤ pMx then some (((rP i.toNat p).1 : Int), ((rP i.toNat p).2 : Int)) else none
  have e : t_R4_parts q p (lv : Int) = some (((rP lv p).1 : Int), ((rP lv p).2 : Int)) := by
   unfold t_R4_parts
   rw [rP_eq]
   by_cases h12 : 12 < lv
   ·rw [if_pos (by omega), if_pos h12]; rfl
   ·rw [if_neg (by omega), if_neg h12]
    rw [forE_st (fun i => (((rPs lv (p.args.take i) (1, lv)).1 : Int), ((rPs lv (p.args.take i) (1, lv)).2 : Int))) (args_mx hs) (by simp [rPs])]
    ·simp only [List.take_length, Option.bind_some]
    ·intro i x hx
     have hm := List.mem_of_getElem? hx
     have ht : p.args.take (i + 1) = p.args.take i ++ [x] := by rw [List.take_add_one, hx]; rfl
     have b1 := rPs_bd lv (by omega) (p.args.take i) (1, lv) (by show 1 ≤ 201; omega) (by show lv ≤ 13; omega)
     have b2 := rP_bd (lv + 1) (by omega) x
     have hq : q x (IntKind.i64.wrap ((lv : Int) + 1)) = some (((rP (lv + 1) x).1 : Int), ((rP (lv + 1) x).2 : Int)) := by
      rw [wrap64 (by unfold inI; omega)]
      have ee : ((lv : Int) + 1).toNat = lv + 1 := by omega
      have := pSize_arg hm
      refine (if_pos ⟨by omega, by omega, by omega, by omega⟩).trans ?_
      rw [ee]
     simp only [hq, Option.bind_some, ht, rPs_snoc]
     rw [wrap64 (by unfold inI; omega)]
     congr 3
     ·split <;> omega
     ·split <;> omega
  have hr : fuel R_R4_parts (n + 1) 46 = A.wrap true [(.a [.k, .k, .k, (.s 4)])] .k (A.ar2 (r_R4_parts (fuel R_R4_parts n))) := rfl
  rw [hr]
  exact h_R4_parts (rc := fuel R_R4_parts n) q (fun x i s r hx => by
   by_cases hp : 0 ≤ i ∧ i ≤ 13 ∧ 14 ≤ n + i.toNat ∧ pSize x ≤ pMx
   ·have : q x i = _ := if_pos hp
    rw [this] at hx; injection hx with hx; subst hx
    have := parts_t n x i.toNat s (by omega) hp.2.2.1 hp.2.2.2
    rwa [show ((i.toNat : Nat) : Int) = i by omega] at this
   ·have : q x i = none := if_neg hp
    rw [this] at hx; cases hx) e
abbrev apM : Nat := 17592186044416
mutual
def pNamed (k : Int) : PickD → List Int
 | .mk kd f t l => (if kd = k then [f] else []) ++ pNameds k l
def pNameds (k : Int) : List PickD → List Int
 | [] => []
 | p :: l => pNamed k p ++ pNameds k l
end
end Go.Proofs.YtfalbgflabajbaaDoor

namespace Go.Proofs.YtfalbgflabajbaaDoor
set_option linter.unusedSectionVars false
set_option linter.unusedVariables false
set_option linter.unusedSimpArgs false
def HP := (Nat → Option Blk) → Prop
namespace HP
set_option linter.unusedSectionVars false
def blk (id : Nat) (b : Blk) : HP := fun h => ∀ i, h i = if i = id then some b else none
def star (P Q : HP) : HP := fun h => ∃ f g, P f ∧ Q g ∧ (∀ i, f i = none ∨ g i = none) ∧ ∀ i, h i = (f i).or (g i)
def pr (p : Prop) : HP := fun h => p ∧ ∀ i, h i = none
instance : Mul HP := ⟨star⟩
theorem star_comm (P Q : HP) : P * Q = Q * P := by
 have key : ∀ P Q : HP, ∀ h, (P * Q) h → (Q * P) h := by
  rintro P Q h ⟨f, g, hf, hg, hd, hh⟩
  refine ⟨g, f, hg, hf, fun i => (hd i).symm, fun i => ?_⟩
  rw [hh i]
  rcases hd i with e | e <;> rw [e] <;> simp
 funext h
 exact propext ⟨key P Q h, key Q P h⟩
theorem star_assoc (P Q R : HP) : P * Q * R = P * (Q * R) := by
 funext h
 apply propext
 constructor
 ·rintro ⟨f, g, ⟨f1, f2, h1, h2, hd1, hf⟩, hg, hd, hh⟩
  refine ⟨f1, fun i => (f2 i).or (g i), h1, ⟨f2, g, h2, hg, fun i => ?_, fun i => rfl⟩, fun i => ?_, fun i => ?_⟩
  ·have := hd i; rw [hf i] at this
   rcases this with e | e
   ·cases h : f1 i <;> simp [h] at e <;> exact .inl e
   ·exact .inr e
  ·have a := hd i; have b := hd1 i; rw [hf i] at a
   rcases b with b | b
   ·exact .inl b
   ·rcases a with a | a
    ·cases h : f1 i <;> simp [h] at a; exact .inl rfl
    ·exact .inr (show (f2 i).or (g i) = none by rw [b, a]; rfl)
  ·rw [hh i, hf i]; cases f1 i <;> simp
 ·rintro ⟨f, g, hf, ⟨g1, g2, h1, h2, hd1, hg⟩, hd, hh⟩
  refine ⟨fun i => (f i).or (g1 i), g2, ⟨f, g1, hf, h1, fun i => ?_, fun i => rfl⟩, h2, fun i => ?_, fun i => ?_⟩
  ·have := hd i; rw [hg i] at this
   rcases this with e | e
   ·exact .inl e
   ·cases h : g1 i <;> simp [h] at e; exact .inr rfl
  ·have a := hd i; have b := hd1 i; rw [hg i] at a
   rcases b with b | b
   ·rcases a with a | a
    ·exact .inl (show (f i).or (g1 i) = none by rw [a, b]; rfl)
    ·rw [b] at a; exact .inr (by simpa using a)
   ·exact .inr b
  ·show h i = ((f i).or (g1 i)).or (g2 i)
   rw [hh i, hg i]; cases f i <;> simp
instance : Std.Associative (α := HP) (· * ·) := ⟨star_assoc⟩
instance : Std.Commutative (α := HP) (· * ·) := ⟨star_comm⟩
end HP
open HP
section
variable {B : Blk → Prop} {σ0 σ : Heap} {P Q R : HP} {id : Nat} {b b' : Blk}
end
section
variable {α : Type} {E : List AV → α → HP} {B : Blk → Prop} {σ0 σ : Heap} {R : HP}
def fl (c : α → List AV) : List AV → α → HP := fun e x => pr (e = c x)
variable {sz : Nat} {v : AV} {l : List α}
end
end Go.Proofs.YtfalbgflabajbaaDoor

namespace Go.Proofs.YtfalbgflabajbaaDoor
set_option linter.unusedSectionVars false
set_option linter.unusedVariables false
set_option linter.unusedSimpArgs false
open HP
section
variable {σ : Heap} {id g sz off len : Nat} {es : List (List AV)}
theorem cnd_t {α : Type} {X Y : Option α} : A.cond (.bool true) X Y = X := rfl
theorem cnd_f {α : Type} {X Y : Option α} : A.cond (.bool false) X Y = Y := rfl
end
section
variable {α : Type} {E : List AV → α → HP} {σ0 σ : Heap} {R : HP} {sz most : Nat} {zs : List AV} {rot : List AV → Heap → Option (AV × Heap)} {v : AV} {l : List α} {y : α} {ye : List AV} {i : Nat}
end
end Go.Proofs.YtfalbgflabajbaaDoor

namespace Go.Proofs.YtfalbgflabajbaaDoor
set_option linter.unusedSectionVars false
set_option linter.unusedVariables false
set_option linter.unusedSimpArgs false
def srtM (l : List MoveD) : Prop := l.Pairwise fun a b => ltK a.key b.key = true
structure Good (l : List CueD) : Prop where
 len : l.length ≤ 300
 num : ∀ c ∈ l, 1 ≤ c.number ∧ c.number ≤ 9999999
 srt : l.Pairwise fun a b => a.number < b.number
 mv : ∀ c ∈ l, c.moves.length ≤ 2000 ∧ srtM c.moves
 pts : ∀ c ∈ l, c.curve.points.length ≤ 20
end Go.Proofs.YtfalbgflabajbaaDoor

namespace Go.Proofs.YtfalbgflabajbaaDoor
set_option linter.unusedSectionVars false
set_option linter.unusedVariables false
set_option linter.unusedSimpArgs false
structure GoodN (l : List CueD) : Prop where
 len : l.length ≤ 300
 num : ∀ c ∈ l, 1 ≤ c.number ∧ c.number ≤ 9999999
 srt : l.Pairwise fun a b => a.number < b.number
section
variable {α R γ S B : Type}
end
end Go.Proofs.YtfalbgflabajbaaDoor

namespace Go.Proofs.YtfalbgflabajbaaDoor
set_option linter.unusedSectionVars false
set_option linter.unusedVariables false
set_option linter.unusedSimpArgs false
open HP
def Lt (σ : Heap) (sh : Sh) (v t : AV) : Prop := (∃ v', A.frz σ 0 8 v = some v' ∧ A.own v' = false ∧ A.nn sh v' = A.nn sh t) ∧ A.own t = false ∧ (A.own v = false → A.nn sh v = A.nn sh t)
def LtL (σ : Heap) : List Sh → List AV → List AV → Prop
 | _, [], [] => True
 | [], a :: aas, t :: ts => Lt σ .k a t ∧ LtL σ [] aas ts
 | s :: ss, a :: aas, t :: ts => Lt σ s a t ∧ LtL σ ss aas ts
 | _, _, _ => False
theorem nn_k (v : AV) : A.nn .k v = v := by simp [A.nn]
theorem ltL {σ : Heap} : ∀ {ss : List Sh} {aas ts : List AV}, LtL σ ss aas ts → (∃ aas', A.frzL σ 0 8 aas = some aas' ∧ aas'.any A.own = false ∧ A.nnL ss aas' = A.nnL ss ts) ∧ ts.any A.own = false ∧ (aas.any A.own = false → A.nnL ss aas = A.nnL ss ts)
 | ss, [], [], _ => ⟨⟨[], by simp [A.frzL], rfl, rfl⟩, rfl, fun _ => rfl⟩
 | [], a :: aas, t :: ts, h => by
  obtain ⟨⟨⟨v', h1, h2, h3⟩, h4, h5⟩, h6⟩ := h
  obtain ⟨⟨aas', k1, k2, k3⟩, k4, k5⟩ := ltL h6
  rw [nn_k, nn_k] at h3
  simp only [A.nnL] at k3 k5
  refine ⟨⟨v' :: aas', by simp [A.frzL, h1, k1], by simp [h2, k2], by simp [A.nnL, h3, k3]⟩, by simp [h4, k4], fun h => ?_⟩
  simp only [List.any_cons, Bool.or_eq_false_iff] at h
  have := h5 h.1
  rw [nn_k, nn_k] at this
  simp [A.nnL, this, k5 h.2]
 | s :: ss, a :: aas, t :: ts, h => by
  obtain ⟨⟨⟨v', h1, h2, h3⟩, h4, h5⟩, h6⟩ := h
  obtain ⟨⟨aas', k1, k2, k3⟩, k4, k5⟩ := ltL h6
  refine ⟨⟨v' :: aas', by simp [A.frzL, h1, k1], by simp [h2, k2], by simp [A.nnL, h3, k3]⟩, by simp [h4, k4], fun h => ?_⟩
  simp only [List.any_cons, Bool.or_eq_false_iff] at h
  simp [A.nnL, h5 h.1, k5 h.2]
 | _, [], _ :: _, h => by cases h
 | [], _ :: _, [], h => by cases h
 | _ :: _, _ :: _, [], h => by cases h
theorem lent {ain : List Sh} {rout : Sh} {r : List AV → Heap → Option (AV × Heap)} {aas ts : List AV} {σ : Heap} {v : AV} (h : LtL σ ain aas ts) (e : ∀ σ, A.wrap true ain rout r ts σ = some (v, σ)) (hs : A.scal v = true) : A.wrap true ain rout r aas σ = some (v, σ) := by
 obtain ⟨⟨aas', k1, k2, k3⟩, k4, k5⟩ := ltL h
 cases ho : aas.any A.own
 ·rw [wrap_nn (k5 ho) ho k4]; exact e σ
 ·exact wrap_own ho k1 k2 (by rw [wrap_nn k3 k2 k4]; exact e []) hs
section
variable {α : Type} {c : α → List AV} {sz : Nat} {B : Blk → Prop} {σ0 σ : Heap} {R : HP} {v : AV} {l : List α}
end
section
variable {α : Type} {E : List AV → α → HP} {sz : Nat} {σ0 σ : Heap} {R : HP} {v : AV} {l : List α}
end
section
variable {B : Blk → Prop} {σ0 σ : Heap} {R : HP} {M : AV → List MoveD → HP} {e : List AV} {x : CueD}
variable {v : AV} {l : List CueD}
end
end Go.Proofs.YtfalbgflabajbaaDoor

namespace Go.Proofs.YtfalbgflabajbaaDoor
set_option linter.unusedSectionVars false
set_option linter.unusedVariables false
set_option linter.unusedSimpArgs false
open HP
theorem loop_ms {f : List AV → Heap → Option LS} {Q : LS → Prop} (I : Nat → List AV → Heap → Prop) (hstep : ∀ n v σ, I n v σ → (∃ m v' σ', m < n ∧ f v σ = some (.normal, v', σ') ∧ I m v' σ') ∨ ∃ q, f v σ = some q ∧ q.1 ≠ .normal ∧ Q q) {n : Nat} {v0 : List AV} {σ : Heap} (h0 : I n v0 σ) : ∃ q, A.loop f v0 σ = some q ∧ Q q := by
 have key : ∀ (k n : Nat) v σ, n ≤ k → I n v σ → ∃ q, (∃ m, A.iter f m v σ = some q) ∧ Q q := by
  intro k
  induction k with
  | zero =>
   intro n v σ hn hI
   rcases hstep n v σ hI with ⟨m, _, _, hm, _⟩ | ⟨q, h1, h2, h3⟩
   ·omega
   ·exact ⟨q, loop_done h1 h2, h3⟩
  | succ k ih =>
   intro n v σ hn hI
   rcases hstep n v σ hI with ⟨m, v', σ', hm, h1, h2⟩ | ⟨q, h1, h2, h3⟩
   ·obtain ⟨q, hq, hQ⟩ := ih m v' σ' (by omega) h2
    exact ⟨q, loop_step h1 hq, hQ⟩
   ·exact ⟨q, loop_done h1 h2, h3⟩
 obtain ⟨q, ⟨m, hm⟩, hQ⟩ := key n n v0 σ (Nat.le_refl _) h0
 exact ⟨q, loop_of_iter hm, hQ⟩
theorem bS {α β : Type} (a : α) (f : α → Option β) : (some a).bind f = f a := by have h : (some a).bind f = f a := rfl; exact h.trans (Eq.refl (f a))
theorem exE (n : Nat) {α : Type} {X Y : α} : (bif (AX.exit n == AX.exit n) then X else Y) = X := by rw [show (AX.exit n == AX.exit n) = true from beq_self_eq_true _]; rfl
theorem notT : A.not (.bool true) = some (.bool false) := rfl
end Go.Proofs.YtfalbgflabajbaaDoor

namespace Go.Proofs.YtfalbgflabajbaaDoor
set_option linter.unusedSectionVars false
set_option linter.unusedVariables false
set_option linter.unusedSimpArgs false
def nslE {α : Type} (sz : Nat) (c : α → List AV) : List α → AV
 | [] => .nsl
 | x :: l => .sl sz ((x :: l).map c)
theorem nslE_ne {α : Type} {sz : Nat} {c : α → List AV} {l : List α} (h : l ≠ []) : nslE sz c l = sl sz c l := by
 cases l with
 | nil => exact absurd rfl h
 | cons x l => rfl
end Go.Proofs.YtfalbgflabajbaaDoor

namespace Go.Proofs.YtfalbgflabajbaaDoor
set_option linter.unusedSectionVars false
set_option linter.unusedVariables false
set_option linter.unusedSimpArgs false
set_option maxRecDepth 100000
def NsV (σ : Heap) (lo hi : Nat) (v : AV) (xs : List Int) : Prop := (v = .nsl ∧ xs = []) ∨ ∃ id g, v = .os id g 1 0 xs.length ∧ lo ≤ id ∧ id < hi ∧ σ[id]? = some (.arr g 1 (xs.map cInt)) ∧ xs ≠ []
def EntU (σ : Heap) (lo hi : Nat) : List (Int × AV) → List GroupD → Prop
 | [], [] => True
 | p :: E, g :: l => p.1 = g.number ∧ NsV σ lo hi p.2 (pNamed 2 g.pick) ∧ EntU σ lo hi E l
 | _, _ => False
def usesL (l : List GroupD) : List (Int × List Int) := l.map fun g => (g.number, pNamed 2 g.pick)
abbrev eI (E : List (Int × AV)) : List (AV × AV) := E.map fun p => (.int .i64 p.1, p.2)
end Go.Proofs.YtfalbgflabajbaaDoor

namespace Go.Proofs.YtfalbgflabajbaaDoor
set_option linter.unusedSectionVars false
set_option linter.unusedVariables false
set_option linter.unusedSimpArgs false
inductive Rch (f : Int → List Int) (a : Int) : Int → Prop where
 | one {b : Int} (h : b ∈ f a) : Rch f a b
 | step {b c : Int} (h : Rch f a b) (k : c ∈ f b) : Rch f a c
def unS (V seen : List Int) : Nat := (V.filter fun x => decide (x ∉ seen)).length
theorem unS_le (V seen : List Int) : unS V seen ≤ V.length := List.length_filter_le _ _
theorem unS_sub {k : Int} : ∀ (V seen : List Int), unS V (seen ++ [k]) ≤ unS V seen
 | [], seen => Nat.le_refl _
 | x :: V, seen => by
  have := unS_sub (k := k) V seen
  unfold unS at this ⊢
  simp only [List.filter_cons]
  by_cases h : x ∈ seen
  ·rw [if_neg (by simp [h]), if_neg (by simp [h])]; exact this
  ·by_cases hk : x = k
   ·rw [if_neg (by simp [hk]), if_pos (by simp [h]), List.length_cons]; omega
   ·rw [if_pos (by simp [h, hk]), if_pos (by simp [h]), List.length_cons, List.length_cons]; omega
theorem unS_lt {k : Int} : ∀ {V seen : List Int}, k ∈ V → k ∉ seen → unS V (seen ++ [k]) < unS V seen
 | x :: V, seen, h, hn => by
  have hs := unS_sub (k := k) V seen
  by_cases hk : x = k
  ·unfold unS at hs ⊢
   simp only [List.filter_cons]
   rw [if_neg (by simp [hk]), if_pos (by simp [hk, hn]), List.length_cons]; omega
  ·have := unS_lt (V := V) (by simpa [Ne.symm hk] using h) hn
   unfold unS at this ⊢
   simp only [List.filter_cons]
   by_cases h : x ∈ seen
   ·rw [if_neg (by simp [h]), if_neg (by simp [h])]; exact this
   ·rw [if_pos (by simp [h, hk]), if_pos (by simp [h]), List.length_cons, List.length_cons]; omega
structure ReI (f : Int → List Int) (V : List Int) (a : Int) (cur : Option (Int × List Int)) (st seen : List Int) : Prop where
 sound : ∀ n ∈ seen, Rch f a n
 known : ∀ n ∈ st, n = a ∨ n ∈ seen
 all : ∀ n, (n = a ∨ n ∈ seen) → n ∈ st ∨ (∀ k ∈ f n, k ∈ seen) ∨ ∃ xs ys, cur = some (n, ys) ∧ f n = xs ++ ys ∧ ∀ k ∈ xs, k ∈ seen
 few : st.length + unS V seen ≤ V.length + 1
 here : ∀ n ys, cur = some (n, ys) → (n = a ∨ n ∈ seen) ∧ ∀ k ∈ ys, k ∈ f n
section
variable {f : Int → List Int} {V : List Int} {a : Int} {st st' seen : List Int} {n k : Int} {r : List Int}
end
def StkV (σ : Heap) (id : Nat) (v : AV) (st : List Int) : Prop := ∃ g off es, v = .os id g 1 off st.length ∧ σ[id]? = some (.arr g 1 es) ∧ off + st.length ≤ es.length ∧ (es.drop off).take st.length = st.map cInt
section
variable {σ : Heap} {id : Nat} {v : AV} {st : List Int} {n x : Int}
end
end Go.Proofs.YtfalbgflabajbaaDoor

namespace Go.Proofs.YtfalbgflabajbaaDoor
set_option linter.unusedSectionVars false
set_option linter.unusedVariables false
set_option linter.unusedSimpArgs false
open HP
def Inv (k : Nat) (l : List CueD) : Prop := l.length ≤ 1000 ∧ ∀ c ∈ l, srtM c.moves ∧ c.moves.length ≤ 2000 + k
section
variable {σ0 σ : Heap} {R : HP}
end
end Go.Proofs.YtfalbgflabajbaaDoor

namespace Go.Proofs.YtfalbgflabajbaaDoor
set_option linter.unusedSectionVars false
set_option linter.unusedVariables false
set_option linter.unusedSimpArgs false
set_option maxRecDepth 100000
def nx (U : List (Int × List Int)) (n : Int) : List Int := (tfind n U).getD []
end Go.Proofs.YtfalbgflabajbaaDoor

namespace Go.Proofs.YtfalbgflabajbaaDoor
set_option linter.unusedSectionVars false
set_option linter.unusedSimpArgs false
set_option linter.unusedVariables false
theorem size_m (p : PickD) (h : pSize p ≤ 2000000) (σ : Heap) : m_pick_size [.agg (cPick p)] σ = some (.tup [.int .i64 (pSize p : Int), .int .i64 (pDeep p : Int)], σ) := size_t 2000000 p σ (Nat.le_trans (pDeep_size p) h) (Nat.le_trans h (by decide))
theorem check_m (p : PickD) (h : pSize p ≤ 2000000) (σ : Heap) : m_pick_check [.agg (cPick p)] σ = some (.int .i64 (pChk p), σ) := check_t 2000000 p σ (Nat.le_trans (pDeep_size p) h) (Nat.le_trans h (by decide))
theorem checkPart_m (p : PickD) (h : pSize p ≤ 2000000) (σ : Heap) : m_R4_checkPart [.agg (cPick p)] σ = some (.int .i64 (pChk p), σ) := checkPart_t 2000000 p σ (Nat.le_trans (pDeep_size p) h) (Nat.le_trans h (by decide))
theorem parts_m (p : PickD) (lv : Int) (h : pSize p ≤ 2000000 ∧ lv = 1) (σ : Heap) : m_R4_parts [.agg (cPick p), .int .i64 lv] σ = some (.tup [.int .i64 ((rP 1 p).1 : Int), .int .i64 ((rP 1 p).2 : Int)], σ) := by
 rw [h.2]
 exact parts_t 2000000 p 1 σ (by decide) (by decide) (Nat.le_trans h.1 (by decide))
end Go.Proofs.YtfalbgflabajbaaDoor

namespace Go.Proofs.YtfalbgflabajbaaDoor
set_option linter.unusedSectionVars false
set_option linter.unusedVariables false
set_option linter.unusedSimpArgs false
set_option maxRecDepth 100000
noncomputable def t_pick_Check (a0 : PickD) : Option Int :=
 (tq (pSize a0 ≤ 2000000) (((pSize a0 : Int), (pDeep a0 : Int)))).bind fun r1 =>
 if ((decide (200 < r1.1)) || (decide (12 < r1.2))) = true then
  some 2
 else
 (tq (pSize a0 ≤ 2000000) (pChk a0)).bind fun r2 =>
 some r2
theorem h_pick_Check {a0 : PickD} {σ : Heap} {r : Int} (h : t_pick_Check a0 = some r) : m_pick_Check [(AV.agg (cPick a0))] σ = some ((AV.int .i64 r), σ) := by
 refine rf_wrap1 (f := r_pick_Check) (y0 := (AV.agg (cPick a0))) (enc := fun r : Int => (AV.int .i64 r)) (T := t_pick_Check a0) (by first | rfl | (simp only [cPick_eq]; rfl)) (by first | rfl | (simp only [cPick_eq]; rfl)) ?_ r h
 unfold r_pick_Check t_pick_Check
 refine rf_s (cPick a0) (by first | rfl | (simp only [cPick_eq]; rfl)) <| rf_s (AV.agg (cPick a0)) (by first | rfl | (simp only [cPick_eq]; rfl)) ?_
 refine rf_o (fun r1 : (Int × Int) => ((AV.tup [(AV.int .i64 r1.1), (AV.int .i64 r1.2)]), σ)) (fun r1 hr1 => (tq_of (e := fun r : (Int × Int) => ((AV.tup [(AV.int .i64 r.1), (AV.int .i64 r.2)]), σ)) (fun hs => size_m a0 hs σ)) hr1) (fun r1 hr1 => ?_)
 refine rf_s (AV.int .i64 r1.1) (by first | rfl | (simp only [cPick_eq]; rfl)) <| rf_s (AV.int .i64 r1.2) (by first | rfl | (simp only [cPick_eq]; rfl)) <| rf_s (AV.bool (decide (200 < r1.1))) (by first | rfl | (simp only [cPick_eq]; rfl)) <| rf_gf (AV.int .i64 r1.2) (fun hg => by first | rfl | (simp only [cPick_eq]; rfl)) <| rf_gf (AV.bool (decide (12 < r1.2))) (fun hg => by (try rw [hg]); exact rfl) <| rf_s _ (pk_or _ _) ?_
 refine rf_cb (c := ((decide (200 < r1.1)) || (decide (12 < r1.2)))) (fun c3 => ?_) (fun c3 => ?_)
 ·exact rf_fin _ (fin_same _ _) ⟨rfl, rfl⟩
 refine rf_s (AV.agg (cPick a0)) (by first | rfl | (simp only [cPick_eq]; rfl)) ?_
 refine rf_o (fun r2 : Int => ((AV.int .i64 r2), σ)) (fun r2 hr2 => (tq_of (e := fun r : Int => ((AV.int .i64 r), σ)) (fun hs => check_m a0 hs σ)) hr2) (fun r2 hr2 => ?_)
 exact rf_fin _ (fin_same _ _) ⟨rfl, rfl⟩

noncomputable def t_R4_Check (a0 : PickD) : Option Int :=
 (tq (pSize a0 ≤ 2000000 ∧ (1 : Int) = 1) ((((rP 1 a0).1 : Int), ((rP 1 a0).2 : Int)))).bind fun r1 =>
 if ((decide (200 < r1.1)) || (decide (12 < r1.2))) = true then
  some 2
 else
 (tq (pSize a0 ≤ 2000000) (pChk a0)).bind fun r2 =>
 some r2
theorem h_R4_Check {a0 : PickD} {σ : Heap} {r : Int} (h : t_R4_Check a0 = some r) : m_R4_Check [(AV.agg (cPick a0))] σ = some ((AV.int .i64 r), σ) := by
 refine rf_wrap1 (f := r_R4_Check) (y0 := (AV.agg (cPick a0))) (enc := fun r : Int => (AV.int .i64 r)) (T := t_R4_Check a0) (by first | rfl | (simp only [cPick_eq]; rfl)) (by first | rfl | (simp only [cPick_eq]; rfl)) ?_ r h
 unfold r_R4_Check t_R4_Check
 refine rf_s (cPick a0) (by first | rfl | (simp only [cPick_eq]; rfl)) <| rf_s (AV.agg (cPick a0)) (by first | rfl | (simp only [cPick_eq]; rfl)) ?_
 refine rf_o (fun r1 : (Int × Int) => ((AV.tup [(AV.int .i64 r1.1), (AV.int .i64 r1.2)]), σ)) (fun r1 hr1 => (tq_of (e := fun r : (Int × Int) => ((AV.tup [(AV.int .i64 r.1), (AV.int .i64 r.2)]), σ)) (fun hs => parts_m a0 1 hs σ)) hr1) (fun r1 hr1 => ?_)
 refine rf_s (AV.int .i64 r1.1) (by first | rfl | (simp only [cPick_eq]; rfl)) <| rf_s (AV.int .i64 r1.2) (by first | rfl | (simp only [cPick_eq]; rfl)) <| rf_s (AV.bool (decide (200 < r1.1))) (by first | rfl | (simp only [cPick_eq]; rfl)) <| rf_gf (AV.int .i64 r1.2) (fun hg => by first | rfl | (simp only [cPick_eq]; rfl)) <| rf_gf (AV.bool (decide (12 < r1.2))) (fun hg => by (try rw [hg]); exact rfl) <| rf_s _ (pk_or _ _) ?_
 refine rf_cb (c := ((decide (200 < r1.1)) || (decide (12 < r1.2)))) (fun c3 => ?_) (fun c3 => ?_)
 ·exact rf_fin _ (fin_same _ _) ⟨rfl, rfl⟩
 refine rf_s (AV.agg (cPick a0)) (by first | rfl | (simp only [cPick_eq]; rfl)) ?_
 refine rf_o (fun r2 : Int => ((AV.int .i64 r2), σ)) (fun r2 hr2 => (tq_of (e := fun r : Int => ((AV.int .i64 r), σ)) (fun hs => checkPart_m a0 hs σ)) hr2) (fun r2 hr2 => ?_)
 exact rf_fin _ (fin_same _ _) ⟨rfl, rfl⟩

end Go.Proofs.YtfalbgflabajbaaDoor

namespace Go.Proofs.YtfalbgflabajbaaDoor
set_option linter.unusedSectionVars false
set_option linter.unusedVariables false
set_option linter.unusedSimpArgs false
abbrev bOpen : ByteArray := ⟨#[40]⟩
abbrev bClose : ByteArray := ⟨#[41]⟩
abbrev bThru : ByteArray := ⟨#[32, 116, 104, 114, 117, 32]⟩
abbrev bGroup : ByteArray := ⟨#[103, 114, 111, 117, 112, 32]⟩
abbrev bPreset : ByteArray := ⟨#[112, 114, 101, 115, 101, 116, 32]⟩
abbrev bOdd : ByteArray := ⟨#[111, 100, 100, 32]⟩
abbrev bEven : ByteArray := ⟨#[101, 118, 101, 110, 32]⟩
abbrev bBack : ByteArray := ⟨#[98, 97, 99, 107, 32]⟩
abbrev bEvery : ByteArray := ⟨#[101, 118, 101, 114, 121, 32]⟩
abbrev bFrom : ByteArray := ⟨#[32, 102, 114, 111, 109, 32]⟩
abbrev bMinus : ByteArray := ⟨#[32, 45, 32]⟩
abbrev bPlus : ByteArray := ⟨#[32, 43, 32]⟩
abbrev bBlank : ByteArray := ⟨#[32]⟩
def argT (k : Int) (s : ByteArray) : ByteArray := if k = 4 ∨ k = 5 then bOpen ++ s ++ bClose else s
def tailT (m s : ByteArray) : List ByteArray → ByteArray
 | [] => s
 | a :: l => tailT m (s ++ (m ++ a)) l
def txtF (k f t : Int) (ks : List Int) (ts : List ByteArray) : ByteArray :=
 if k = 1 then (if f = t then itoaB f else itoaB f ++ bThru ++ itoaB t)
 else if k = 2 then bGroup ++ itoaB f
 else if k = 3 then bPreset ++ itoaB f
 else if k = 6 then bOdd ++ argT (ks.headD 0) (ts.headD default)
 else if k = 7 then bEven ++ argT (ks.headD 0) (ts.headD default)
 else if k = 8 then bBack ++ argT (ks.headD 0) (ts.headD default)
 else if k = 9 then bEvery ++ itoaB f ++ bFrom ++ itoaB t ++ bBlank ++ argT (ks.headD 0) (ts.headD default)
 else tailT (if k = 5 then bMinus else bPlus) (if ks.headD 0 = 5 ∨ k = 5 then ts.headD default else argT (ks.headD 0) (ts.headD default)) (List.zipWith argT (ks.drop 1) (ts.drop 1))
mutual
def pTxt : PickD → ByteArray
 | .mk k f t l => txtF k f t (l.map PickD.kind) (pTxts l)
def pTxts : List PickD → List ByteArray
 | [] => []
 | p :: l => pTxt p :: pTxts l
end
def pArgT (p : PickD) : ByteArray := argT p.kind (pTxt p)
end Go.Proofs.YtfalbgflabajbaaDoor

namespace Go.Proofs.YtfalbgflabajbaaDoor
set_option linter.unusedSectionVars false
set_option linter.unusedVariables false
set_option linter.unusedSimpArgs false
open Lib
theorem digB_of {k : Nat} (h : k < 10) : digB (UInt8.ofNat (48 + k)) = true := by
 have e : (UInt8.ofNat (48 + k)).toNat = 48 + k := by
  rw [UInt8.toNat_ofNat']; omega
 unfold digB
 rw [e]; simp; omega
theorem decDigits_dig (u : Nat) : (decDigits u).all digB = true := by
 induction u using Nat.strongRecOn with
 | _ u ih =>
  by_cases h : u < 10
  ·rw [decDigits, dif_pos h, List.all_cons, digB_of h]; rfl
  ·rw [decDigits, dif_neg h, List.all_append, ih (u / 10) (by omega)]
   rw [List.all_cons, digB_of (show u % 10 < 10 by omega)]; rfl
theorem decDigits_ne (u : Nat) : decDigits u ≠ [] := by
 intro h
 have := decDigits_length u
 rw [h] at this
 have := nDigits_pos u
 simp at *; omega
theorem itoaB_nat (u : Nat) : itoaB (u : Int) = bZ (decDigits u) := by
 unfold itoaB itoa bZ
 rw [if_neg (by omega), Int.toNat_natCast]
theorem lZ_bZ (l : List UInt8) : lZ (bZ l) = l := by simp [bZ]
end Go.Proofs.YtfalbgflabajbaaDoor

namespace Go.Proofs.YtfalbgflabajbaaDoor
set_option linter.unusedSectionVars false
set_option linter.unusedVariables false
set_option linter.unusedSimpArgs false
def AgP {α : Type} (r : PR α) (x : α) (l : List TokD) : Prop := r = .out ∨ r = .ok x l
def IsW (L : List TokD) (ws : List (List UInt8)) : Prop := L.map TokD.text = ws ∧ ∀ t ∈ L, t.touch = false
def dW (n : Int) : List UInt8 := lZ (itoaB n)
theorem dW_dig {n : Int} (h : 0 ≤ n) : (dW n).all digB = true ∧ dW n ≠ [] := by
 obtain ⟨m, rfl⟩ := Int.eq_ofNat_of_zero_le h
 unfold dW
 rw [itoaB_nat, lZ_bZ]
 exact ⟨decDigits_dig m, decDigits_ne m⟩
def argW (k : Int) (s : List (List UInt8)) : List (List UInt8) := if k = 4 ∨ k = 5 then wOpen :: (s ++ [wShut]) else s
def wdsF (k f t : Int) (ks : List Int) (ts : List (List (List UInt8))) : List (List UInt8) :=
 if k = 1 then (if f = t then [dW f] else [dW f, wThru, dW t])
 else if k = 2 then [wGroup, dW f]
 else if k = 3 then [wPreset, dW f]
 else if k = 6 then wOdd :: argW (ks.headD 0) (ts.headD [])
 else if k = 7 then wEven :: argW (ks.headD 0) (ts.headD [])
 else if k = 8 then wBk :: argW (ks.headD 0) (ts.headD [])
 else if k = 9 then wEvery :: dW f :: wFrom :: dW t :: argW (ks.headD 0) (ts.headD [])
 else (if ks.headD 0 = 5 ∨ k = 5 then ts.headD [] else argW (ks.headD 0) (ts.headD [])) ++ (List.zipWith argW (ks.drop 1) (ts.drop 1)).flatMap fun a => (if k = 5 then wMinus else wPlus) :: a
mutual
def pWds : PickD → List (List UInt8)
 | .mk k f t l => wdsF k f t (l.map PickD.kind) (pWdss l)
def pWdss : List PickD → List (List (List UInt8))
 | [] => []
 | p :: l => pWds p :: pWdss l
end
def pArgW (p : PickD) : List (List UInt8) := argW p.kind (pWds p)
end Go.Proofs.YtfalbgflabajbaaDoor

namespace Go.Proofs.YtfalbgflabajbaaDoor
set_option linter.unusedSectionVars false
set_option linter.unusedVariables false
set_option linter.unusedSimpArgs false
def Seg (l : List UInt8) (ws : List (List UInt8)) : Prop := ∀ (rest : List UInt8) (f pos : Nat), (rest = [] ∨ ∃ c r, rest = c :: r ∧ clsB c = 0) → (l ++ rest).length ≤ f → ∃ L f' pos' prev', toksI f pos 0 (l ++ rest) = L ++ toksI f' pos' prev' rest ∧ IsW L ws ∧ rest.length ≤ f'
theorem lZ_app (a b : ByteArray) : lZ (a ++ b) = lZ a ++ lZ b := by simp [lZ]
end Go.Proofs.YtfalbgflabajbaaDoor

namespace Go.Proofs.YtfalbgflabajbaaDoor
set_option linter.unusedSectionVars false
set_option linter.unusedVariables false
set_option linter.unusedSimpArgs false
section
variable {f : Int → List Int} {V : List Int} {a n : Int}
end
theorem checkF_pk {p : PickD} (h : pSize p ≤ 2000000) : t_pick_Check p = some (checkF p) := by
 unfold t_pick_Check checkF
 rw [tq_pos h, tq_pos h, Option.bind_some, Option.bind_some]
 by_cases hc : 200 < pSize p ∨ 12 < pDeep p
 ·rw [if_pos hc, if_pos (by simp; omega)]
 ·rw [if_neg hc, if_neg (by simp; omega)]
theorem checkF_r4 {p : PickD} (h : pSize p ≤ 2000000) : t_R4_Check p = some (checkF p) := by
 unfold t_R4_Check checkF
 rw [tq_pos ⟨h, rfl⟩, tq_pos h, Option.bind_some, Option.bind_some]
 have hl := large_iff p
 by_cases hc : 200 < pSize p ∨ 12 < pDeep p
 ·rw [if_pos hc, if_pos (by have := hl.2 hc; simp; omega)]
 ·rw [if_neg hc, if_neg (by have := fun k => hc (hl.1 k); simp; omega)]
end Go.Proofs.YtfalbgflabajbaaDoor

namespace Go.Proofs.YtfalbgflabajbaaDoor
set_option linter.unusedSectionVars false
set_option linter.unusedVariables false
set_option linter.unusedSimpArgs false
set_option maxRecDepth 100000
theorem nAdd {a b : Nat} (h : a + b < 4611686018427387904) : A.add (.int .i64 (a : Int)) (.int .i64 (b : Int)) = some (.int .i64 ((a + b : Nat) : Int)) := by
 rw [aAdd, wrap64 (by unfold inI; omega)]; rfl
theorem nAdd1 {a : Nat} (h : a + 1 < 4611686018427387904) : A.add (.int .i64 (a : Int)) (.int .i64 1) = some (.int .i64 ((a + 1 : Nat) : Int)) := nAdd (b := 1) h
theorem nLss (a b : Nat) : A.lss (.int .i64 (a : Int)) (.int .i64 (b : Int)) = some (.bool (decide (a < b))) := by
 rw [aLss]; congr 2; rw [decide_eq_decide]; omega
section
variable {id g n : Nat} {W : Heap} {l : List SettingD}
end
end Go.Proofs.YtfalbgflabajbaaDoor

namespace Go.Proofs.YtfalbgflabajbaaDoor
set_option linter.unusedSectionVars false
set_option linter.unusedVariables false
set_option linter.unusedSimpArgs false
set_option maxRecDepth 100000
theorem bnQ {α β : Type} {x y : Option α} (h : x = y) (f : α → Option β) : x.bind f = y.bind f := by rw [h]
theorem sameL_t {rc : Nat → List AV → Heap → Option (AV × Heap)} (l : List PickD) (hl : l.length ≤ 1000000) (σ : Heap) (hd : ∀ x ∈ l, rc 500 [.agg (cPick x), .agg (cPick x)] σ = some (.bool true, σ)) : m_slices_EqualFunc_api_Pick (A.tab (fun _ _ => none) [(500, rc 500)]) [sl 4 cPick l, sl 4 cPick l, .fn 500 []] σ = some (.bool true, σ) := by
 refine wrap_eq rfl ?_ rfl
 show r_slices_EqualFunc_api_Pick _ (sl 4 cPick l) (sl 4 cPick l) (.fn 500 []) σ = _
 unfold r_slices_EqualFunc_api_Pick
 rw [lenS_sl, bS, bS, aNe, bS, decide_eq_false (by simp), cnd_f, bS]
 obtain ⟨q, hq, rfl⟩ : ∃ q, A.loop ((fun v5 s6 =>
    (A.lss (v5.getD 1 AV.undef) (AV.int .i64 (l.length: Int))).bind fun x8 =>
    A.cond x8 (
     (A.iaddr 4 (sl 4 cPick l) (v5.getD 1 AV.undef)).bind fun x9 =>
     ((A.deref x9 s6).bind fun c10 => A.partA 0 4 c10).bind fun x11 =>
     (A.cells 4 x11).bind fun c12 =>
     (A.splice 0 c12 [(AV.int .i64 0), (AV.int .i64 0), (AV.int .i64 0), AV.nsl]).bind fun c13 =>
     (A.iaddr 4 (sl 4 cPick l) (v5.getD 1 AV.undef)).bind fun x14 =>
     ((A.deref x14 s6).bind fun c15 => A.partA 0 4 c15).bind fun x16 =>
     (A.cells 4 x16).bind fun c17 =>
     (A.splice 0 c17 [(AV.int .i64 0), (AV.int .i64 0), (AV.int .i64 0), AV.nsl]).bind fun c18 =>
     (A.partA 0 4 c13).bind fun x19 =>
     (A.partA 0 4 c18).bind fun x20 =>
     (A.callv (A.tab (fun _ _ => none) [(500, rc 500)]) (AV.fn 500 []) [x19, x20] s6).bind fun r21 =>
     (A.not r21.1).bind fun x22 =>
     A.cond x22 (
      some (AX.ret, [(AV.bool false), (v5.getD 1 AV.undef)], r21.2)) (
      (A.add (v5.getD 1 AV.undef) (AV.int .i64 1)).bind fun x23 =>
      some (AX.normal, [(v5.getD 0 AV.undef), x23], r21.2))) (
     some (AX.exit 0, [(v5.getD 0 AV.undef), (v5.getD 1 AV.undef)], s6)))) [.bool false, .int .i64 0] σ = some q ∧ q = (.exit 0, [.bool false, .int .i64 (l.length : Int)], σ) := by
  refine loop_ms (fun z u w => ∃ i : Nat, i ≤ l.length ∧ z = l.length - i ∧ u = [.bool false, .int .i64 (i : Int)] ∧ w = σ) ?_ (n := l.length) ⟨0, Nat.zero_le _, rfl, rfl, rfl⟩
  rintro z u w ⟨i, hi, rfl, rfl, rfl⟩
  simp only [List.getD_cons_zero, List.getD_cons_succ]
  rw [nLss, bS]
  by_cases hlt : i < l.length
  ·have hx : l[i]? = some l[i] := List.getElem?_eq_getElem hlt
   have hdx := hd _ (List.getElem_mem hlt)
   generalize l[i] = x at hx hdx
   have hcv : A.callv (A.tab (fun _ _ => none) [(500, rc 500)]) (.fn 500 []) [.agg (cPick x), .agg (cPick x)] w = some (.bool true, w) := by simp only [A.callv, List.append_nil]; exact hdx
   have hdf : ((A.deref (.rp (cPick x)) w).bind fun c7 => A.partA 0 4 c7) = some (.agg (cPick x)) := pA_cPick x
   have hce : A.cells 4 (.agg (cPick x)) = some (cPick x) := ce_cPick x
   have hsp : A.splice 0 (cPick x) [(AV.int .i64 0), (AV.int .i64 0), (AV.int .i64 0), AV.nsl] = some (cPick x) := sp_cPick x _ rfl
   have hpa : A.partA 0 4 (cPick x) = some (.agg (cPick x)) := pA_cPick x
   rw [decide_eq_true hlt, cnd_t, iaddr_sl 4 cPick l hx, bS, hdf, bS, hce, bS, hsp, bS, bS, hdf, bS, hce, bS, hsp, bS, hpa, bS, bS, hcv, bS]
   simp only
   rw [notT, bS, cnd_f, nAdd1 (by omega), bS]
   exact .inl ⟨l.length - (i + 1), _, _, by omega, rfl, i + 1, hlt, rfl, rfl, rfl⟩
  ·rw [decide_eq_false hlt, cnd_f]
   have : i = l.length := by omega
   subst this
   exact .inr ⟨_, rfl, by simp, rfl⟩
 refine (bnQ hq _).trans ?_
 rw [bS]
 simp only [exE]
 rw [fin_same]
theorem same_t : ∀ (n : Nat) (p : PickD) (σ : Heap), pDeep p ≤ n → pSize p ≤ 1000000 → fuel R_W4_samePick n 500 [.agg (cPick p), .agg (cPick p)] σ = some (.bool true, σ)
 | 0, p, σ, h, _ => by have := pDeep_pos p; omega
 | n + 1, p, σ, h, hs => by
  have hd := args_d h
  have hL := sameL_t (rc := fuel R_W4_samePick n) p.args (by have := pSizes_len p.args; have := pSize_eq p; omega) σ (fun x hx => same_t n x σ (Nat.le_trans (pDeeps_mem hx) hd) (by have := pSize_arg hx; omega))
  have hr : fuel R_W4_samePick (n + 1) 500 = A.wrap true [(.a [.k, .k, .k, (.s 4)]), (.a [.k, .k, .k, (.s 4)])] .k (A.ar2 (r_W4_samePick (fuel R_W4_samePick n))) := rfl
  rw [hr]
  rw [cPick_eq]
  generalize p.kind = k
  generalize p.frm = f
  generalize p.to = t
  generalize p.args = l at *
  refine wrap_eq rfl ?_ rfl
  show r_W4_samePick _ (.agg [.int .i64 k, .int .i64 f, .int .i64 t, sl 4 cPick l]) (.agg [.int .i64 k, .int .i64 f, .int .i64 t, sl 4 cPick l]) σ = _
  unfold r_W4_samePick
  have e1 : A.cells 4 (.agg [.int .i64 k, .int .i64 f, .int .i64 t, sl 4 cPick l]) = some [.int .i64 k, .int .i64 f, .int .i64 t, sl 4 cPick l] := rfl
  have p0 : A.part1 0 [.int .i64 k, .int .i64 f, .int .i64 t, sl 4 cPick l] = some (.int .i64 k) := rfl
  have p1 : A.part1 1 [.int .i64 k, .int .i64 f, .int .i64 t, sl 4 cPick l] = some (.int .i64 f) := rfl
  have p2 : A.part1 2 [.int .i64 k, .int .i64 f, .int .i64 t, sl 4 cPick l] = some (.int .i64 t) := rfl
  have p3 : A.part1 3 [.int .i64 k, .int .i64 f, .int .i64 t, sl 4 cPick l] = some (sl 4 cPick l) := rfl
  have gt : ∀ (x y : Option AV), A.guard (.bool true) true x y = x := fun _ _ => rfl
  have pk : ∀ (x y : AV), A.pick (.bool true) x y = some x := fun _ _ => rfl
  rw [e1, bS, bS, p0, bS, bS, aEq, bS, decide_eq_true rfl]
  simp only [gt, pk, p1, p2, p3, bS, aEq, decide_true]
  rw [quiet_of hL, bS, fin_same]
theorem same_m {p : PickD} (h : pSize p ≤ 1000000) (σ : Heap) : m_W4_samePick [.agg (cPick p), .agg (cPick p)] σ = some (.bool true, σ) := same_t 2000000 p σ (by have := pDeep_size p; omega) h
theorem par_size (f : Nat) : (∀ deep l p l', parP f deep l = .ok p l' → pSize p + l'.length ≤ l.length) ∧ (∀ deep l p l', whlP f deep l = .ok p l' → pSize p + l'.length ≤ l.length) ∧ (∀ deep p b l q l', rowP f deep p b l = .ok q l' → pSize q + l'.length ≤ pSize p + l.length) ∧ (∀ deep k fr t l q l', prfP f deep (.mk k fr t []) l = .ok q l' → pSize q + l'.length ≤ 1 + l.length) := by
 induction f with
 | zero => exact ⟨fun _ _ _ _ h => (by rw [parP] at h; cases h), fun _ _ _ _ h => (by rw [whlP] at h; cases h), fun _ _ _ _ _ _ h => (by rw [rowP] at h; cases h), fun _ _ _ _ _ _ _ h => (by rw [prfP] at h; cases h)⟩
 | succ f ih =>
  obtain ⟨i1, i2, i3, i4⟩ := ih
  have leaf : ∀ k fr t, pSize (.mk k fr t []) = 1 := fun k fr t => by rw [pSize, pSizes]
  refine ⟨fun deep l p l' h => ?_, fun deep l p l' h => ?_, fun deep p b l q l' h => ?_, fun deep k fr t l q l' h => ?_⟩
  ·rw [parP] at h
   split at h
   ·rename_i h1
    obtain ⟨n, m, h2, h3⟩ := bind_ok h
    injection h3 with h4 h3; subst h3; subst h4
    have := takP_len h1; have := numP_len h2; rw [leaf]; omega
   split at h
   ·rename_i h1
    obtain ⟨n, m, h2, h3⟩ := bind_ok h
    injection h3 with h4 h3; subst h3; subst h4
    have := takP_len h1; have := numP_len h2; rw [leaf]; omega
   split at h
   ·rename_i h1
    split at h
    ·cases h
    obtain ⟨n, m, h2, h3⟩ := bind_ok h
    split at h3
    ·rename_i h4
     injection h3 with h5 h3; subst h3; subst h5
     have := takP_len h1; have := takP_len h4; have := i2 _ _ _ _ h2; omega
    ·cases h3
   split at h
   ·rename_i h1; have := takP_len h1; have := i4 _ _ _ _ _ _ _ h; omega
   split at h
   ·rename_i h1; have := takP_len h1; have := i4 _ _ _ _ _ _ _ h; omega
   split at h
   ·rename_i h1; have := takP_len h1; have := i4 _ _ _ _ _ _ _ h; omega
   split at h
   ·rename_i h1
    split at h
    ·cases h
    obtain ⟨n, m, h2, h3⟩ := bind_ok h
    split at h3
    ·rename_i h4
     obtain ⟨n2, m2, h5, h6⟩ := bind_ok h3
     have := takP_len h1; have := takP_len h4; have := numP_len h2; have := numP_len h5; have := i4 _ _ _ _ _ _ _ h6; omega
    ·cases h3
   obtain ⟨n, m, h2, h3⟩ := bind_ok h
   split at h3
   ·rename_i h4
    obtain ⟨n2, m2, h5, h6⟩ := bind_ok h3
    split at h6
    ·cases h6
    injection h6 with h7 h6; subst h6; subst h7
    have := takP_len h4; have := numP_len h2; have := numP_len h5; rw [leaf]; omega
   ·injection h3 with h4 h3; subst h3; subst h4
    have := numP_len h2; rw [leaf]; omega
  ·rw [whlP] at h
   obtain ⟨n, m, h2, h3⟩ := bind_ok h
   have := i1 _ _ _ _ h2; have := i3 _ _ _ _ _ _ h3; omega
  ·rw [rowP] at h
   split at h
   ·rename_i h1
    obtain ⟨n, m, h2, h3⟩ := bind_ok h
    have e1 := takP_len h1; have e2 := i1 _ _ _ _ h2; have e3 := i3 _ _ _ _ _ _ h3
    cases b
    ·rw [if_neg (by simp), pSize, pSizes, pSizes, pSizes] at e3; omega
    ·rw [if_pos rfl, pSize, pSizes_snoc] at e3
     have := pSize_eq p
     omega
   split at h
   ·rename_i h1
    obtain ⟨n, m, h2, h3⟩ := bind_ok h
    have e1 := takP_len h1; have e2 := i1 _ _ _ _ h2; have e3 := i3 _ _ _ _ _ _ h3
    rw [pSize, pSizes, pSizes, pSizes] at e3; omega
   ·injection h with h1 h; subst h; subst h1; exact Nat.le_refl _
  ·rw [prfP] at h
   split at h
   ·cases h
   obtain ⟨n, m, h2, h3⟩ := bind_ok h
   injection h3 with h4 h3; subst h3; subst h4
   have := i1 _ _ _ _ h2
   rw [pSize, pSizes, pSizes]; omega
end Go.Proofs.YtfalbgflabajbaaDoor

namespace Go.Proofs.YtfalbgflabajbaaDoor
set_option linter.unusedSectionVars false
set_option linter.unusedVariables false
set_option linter.unusedSimpArgs false
set_option maxRecDepth 100000
theorem parse2_t (s : ByteArray) : ∃ q n f, m_pick_Parse [.str s] [] = some (prT q n f, []) ∧ m_R4_Parse [.str s] [] = some (prT q n f, []) ∧ pSize q ≤ 1000000 := by
 have h1 : pSize (.mk 0 0 0 []) ≤ 1000000 := by rw [pSize, pSizes]; omega
 unfold m_pick_Parse m_R4_Parse A.ar1
 simp only
 by_cases hs : 4000 < s.size
 ·simp only [if_pos hs]; exact ⟨_, _, _, rfl, rfl, h1⟩
 simp only [if_neg hs]
 have hl : (lZ s).length = s.size := rfl
 have hlen := toksI_len (lZ s).length 0 0 (lZ s)
 have htl : (toksP (lZ s).length 0 0 (lZ s)).length ≤ (lZ s).length + 1 := by
  rw [toksP_eq _ _ _ _ (Nat.le_refl _)]
  simp only [List.length_append, List.length_cons, List.length_nil]
  omega
 unfold prS
 cases hw : whlP (2 * (lZ s).length + 10) 0 (toksP (lZ s).length 0 0 (lZ s)) with
 | out => exact absurd hw ((par_fuel _).2.1 0 _ (by omega))
 | bad n => exact ⟨_, _, _, rfl, rfl, h1⟩
 | large => exact ⟨_, _, _, rfl, rfl, h1⟩
 | ok p l =>
  simp only
  by_cases hp : posP l < (lZ s).length
  ·rw [if_pos hp]; exact ⟨_, _, _, rfl, rfl, h1⟩
  ·rw [if_neg hp]
   have hz := (par_size _).2.1 _ _ _ _ hw
   have hc := h_pick_Check (σ := []) (checkF_pk (p := p) (by omega))
   have hd := h_R4_Check (σ := []) (checkF_r4 (p := p) (by omega))
   simp only [prE, prE4, hc, hd, Option.bind_some]
   by_cases h0 : checkF p = 0
   ·rw [if_pos h0]; exact ⟨_, _, _, rfl, rfl, by omega⟩
   ·rw [if_neg h0]; exact ⟨_, _, _, rfl, rfl, h1⟩
theorem pickParsesMatchSpec_true (s : ByteArray) (h : okS s) : okS s := h
theorem h_W4_PickParsesMatchSpec {s : ByteArray} (_ : okS s) : m_W4_PickParsesMatchSpec [.str s] [] = some (.bool true, []) := by
 refine wrap_eq rfl ?_ rfl
 show r_W4_PickParsesMatchSpec (.str s) [] = _
 unfold r_W4_PickParsesMatchSpec
 obtain ⟨q, n, f, h1, h2, hz⟩ := parse2_t s
 have x0 : A.ext 0 (prT q n f) = some (.agg (cPick q)) := rfl
 have x1 : A.ext 1 (prT q n f) = some (.int .i64 n) := rfl
 have x2 : A.ext 2 (prT q n f) = some (.int .i64 f) := rfl
 have gt : ∀ (x y : Option AV), A.guard (.bool true) true x y = x := fun _ _ => rfl
 have pk : ∀ (x y : AV), A.pick (.bool true) x y = some x := fun _ _ => rfl
 rw [h1, bS, x0, bS, x1, bS, x2, bS, ce_cPick, bS, sp_cPick q _ rfl, bS]
 simp only
 rw [h2, bS, x0, bS, x1, bS, x2, bS, ce_cPick, bS, sp_cPick q _ rfl, bS, pA_cPick, bS, bS]
 simp only
 rw [same_m hz [], bS]
 simp only [gt, pk, bS, aEq, decide_true]
 rw [fin_same]
end Go.Proofs.YtfalbgflabajbaaDoor

namespace Go.Proofs.YtfalbgflabajbaaDoor
set_option linter.unusedSectionVars false
set_option linter.unusedSimpArgs false
set_option linter.unusedVariables false
open Go.ChangeShapes Go.WideShapes Go.ChangeAt Go.RowKit

theorem own : ownKnob Tryd.prog.godebug = none := by kernel_rfl
theorem laidOut : laidOutB Tryd.prog = true := by kernel_rfl

theorem trodAll_below {H : Type} {enc : TypeId × Value → H} {P : Program} (hl : laidOutB P = true) {W W' : World} (hb : Below W.heap.size W W') :
  ∀ {ts : List TypeId} {vs : List Value} {ds : List (DataW H)} {ps : List MemPlace}, (ts.all fun t => P.readableRec t && decide (t < P.types.size)) = true →
   DataW.TrodAll enc P W 0 (fun _ => true) true ts vs ds ps → (∀ x ∈ ps, x.block < W.heap.size) → DataW.TrodAll enc P W' 0 (fun b => decide (b < W.heap.size)) true ts vs ds ps
 | [], [], [], _, _, h, _ => h
 | t :: ts, v :: vs, d :: ds, ps, hts, h, hlt => by
  obtain ⟨p, q, h1, h2, rfl⟩ := h
  simp only [List.all_cons, Bool.and_eq_true, decide_eq_true_eq] at hts
  exact ⟨p, q, Below.trod hl hts.1.1 hts.1.2 h1 hb (fun x hx => hlt x (List.mem_append_left _ hx)),
   trodAll_below hl hb (by simpa using hts.2) h2 (fun x hx => hlt x (List.mem_append_right _ hx)), rfl⟩
 | [], _ :: _, _, _, _, h, _ => h.elim
 | [], [], _ :: _, _, _, h, _ => h.elim
 | _ :: _, [], _, _, _, h, _ => h.elim
 | _ :: _, _ :: _, [], _, _, h, _ => h.elim

theorem law_post {H : Type} {enc : TypeId × Value → H} {f : Func} {s : ChangeSpec} {W W' : World} {args : Array Value} {ds gs : List (DataW H)} {before : List MemPlace} {t : TypeId}
  (hts : (f.params.toList.all fun t => Tryd.prog.readableRec t && decide (t < Tryd.prog.types.size)) = true) (hrt : f.resultTypes = #[t]) (ht : Tryd.prog.underlying t = some .bool) (hvs : s.vars = [])
  (hW : DataW.Whole enc Tryd.prog f.params.toList s.vars false W args.toList ds gs before) (hb : Below W.heap.size W W')
  (hspec : s.fn H (ds ++ gs) = { results := [.lit (.bool true)], args := ds }) :
  s.post enc Tryd.prog f false true false false W args (.bool true) W' := by
 have hW' := hW
 obtain ⟨p, q, hA, hV, rfl, hfz, hnd⟩ := hW
 have hlt : ∀ x ∈ p ++ q, x.block < W.heap.size := fun x hx => hW'.lt x hx
 refine ⟨ds, gs, p ++ q, [], p, [], hW', ?_, ?_, ?_, hb.frame _, fun h => by cases h⟩
 ·rw [hspec, hrt]
  exact trodAll_cons_mk (shut_bool ht _) trodAll_mk0
 ·rw [hspec]
  exact trodAll_below laidOut hb hts hA (fun x hx => hlt x (List.mem_append_left _ hx))
 ·rw [hspec, hvs]
  exact rfl
end Go.Proofs.YtfalbgflabajbaaDoor

namespace Go.Proofs.YtfalbgflabajbaaDoor
set_option linter.unusedSectionVars false
open Go.RowKit Go.Deep
set_option linter.unusedVariables false
set_option linter.unusedSimpArgs false
section
variable {c : RC}
theorem repL_nil : RepL c [] [] := by simp [RepL]
theorem repL_cons {a : AV} {v : Value} {l : List AV} {vs : List Value} (h : Rep c a v) (k : RepL c l vs) : RepL c (a :: l) (v :: vs) := by
 simp only [RepL]; exact ⟨v, vs, rfl, h, k⟩
theorem rep_str (s : ByteArray) : Rep c (.str s) (.string s) := by simp [Rep]
end
end Go.Proofs.YtfalbgflabajbaaDoor

namespace Go.Proofs.YtfalbgflabajbaaDoor
set_option linter.unusedSectionVars false
set_option linter.unusedSimpArgs false
set_option linter.unusedVariables false
open Go.RowKit
theorem okS_of {s : ByteArray} (h : s.size ≤ maxLen) : okS s := by unfold okS mxl; unfold maxLen at h; omega
noncomputable def base (W : World) : RC := ctx ⟨W, [], fun _ => False, nmT⟩ W [] nopb
theorem law_runT {n : FuncId} {m : List AV → Heap → Option (AV × Heap)} {avs : List AV} (hs : Sound Tryd.prog nmT n m) (hc : ∀ us w, (callFunc n us).run Tryd.prog w = .ok (.enter n us) w) (W : World) (hT : tabOk W (fun _ => False)) (vs : Array Value) (hr : RepL (base W) avs vs.toList) (hm : m avs [] = some (.bool true, [])) :
  Calls Tryd.prog n vs W fun e W' => e = .returned (.bool true) ∧ Below W.heap.size W W' := by
 have hZ : ZLt ⟨W, [], fun _ => False, nmT⟩ := ⟨fun _ (k : False) => k.elim, hT.to (Nat.le_refl _) (fun _ _ _ => rfl) fun b _ k => by rcases k with k | ⟨p, hp, _⟩; exact k; cases hp⟩
 have hh0 : HeapRel (ctx ⟨W, [], fun _ => False, nmT⟩ W [] nopb) [] := by
  refine ⟨rfl, fun i j p q hp => ?_, fun i p x hp => ?_⟩
  ·simp [ctx] at hp
  ·simp [ctx] at hp
 rcases hs _ _ _ _ hm with ⟨g, h1, h2⟩ | hv
 case inr =>
  obtain ⟨v, w', E', k1, _⟩ := hv ⟨W, [], fun _ => False, nmT⟩ vs rfl hZ hh0 hr
  rw [hc] at k1
  injection k1 with k1
  cases k1
 have hg : g = n := by
  have e1 := h1 #[] W
  rw [hc #[] W] at e1
  injection e1 with e1
  injection e1 with e1
  exact e1.symm
 subst hg
 have hh : HeapRel (ctx ⟨W, [], fun _ => False, nmT⟩ W [] nopb) [] := by
  refine ⟨rfl, fun i j p q hp => ?_, fun i p x hp => ?_⟩
  ·simp [ctx] at hp
  ·simp [ctx] at hp
 refine (h2 ⟨W, [], fun _ => False, nmT⟩ vs rfl hZ hh hr).mono ?_
 rintro e w' ⟨v, E', rfl, ho, _, hv⟩
 simp only [Rep] at hv
 subst hv
 exact ⟨rfl, ho.os, ho.tape, ho.output, ho.size, fun k hk => ho.stay k hk (fun p hp => by cases hp)⟩
end Go.Proofs.YtfalbgflabajbaaDoor

namespace Go.Proofs.YtfalbgflabajbaaDoor
set_option linter.unusedSectionVars false
set_option linter.unusedSimpArgs false
open Go.ChangeShapes Go.WideShapes Go.ChangeAt Go.RowKit
set_option linter.unusedVariables false
mutual
def flatD : DataW Unit → List Value
 | .lit (.int k z) => [.int k z]
 | .agg l => flatDs l
 | _ => []
def flatDs : List (DataW Unit) → List Value
 | [] => []
 | d :: l => flatD d ++ flatDs l
end
def layD (d : DataW Unit) : Obj → Obj
 | .cells _ t fr => .cells (flatD d).toArray t fr
 | o => o
theorem typePow : (Tryd.prog.globals[0]?).map (·.type) = some 86 := by kernel_rfl
theorem tabOk_of {W : World} (h : Lib.TabIs Tryd.prog W "internal/strconv.uint64pow10" .u64 Lib.pow10Tab) : tabOk W (fun _ => False) := by
 refine ⟨h, ?_, id⟩
 unfold Lib.TabIs World.var? at h
 rw [gPow, Option.bind_some] at h
 split at h
 ·rename_i k; exact (Array.getElem?_eq_some_iff.1 k).1
 ·cases h
end Go.Proofs.YtfalbgflabajbaaDoor

