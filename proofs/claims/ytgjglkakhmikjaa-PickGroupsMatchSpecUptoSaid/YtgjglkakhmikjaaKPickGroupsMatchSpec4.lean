/- Parts of the proof of PickGroupsMatchSpec, in order. -/
import Derived.Orders
import Derived.Below
import Derived.WalkKit
import Derived.Laws.StructEq
import Derived.Laws.Append
import Derived.Laws.AppendOwn
import Derived.Test.YtgjglkakhmikjaaRows
import Derived.KernelRfl
import Derived.Lib.Bytealg
import Derived.Sort.Defs
import Derived.Lib.BitFns
import Derived.IntWalk
import Derived.Lib.Strings
import Derived.Sort.Statements
import Derived.WalkSpells
import Derived.ProofKit
import Derived.OpenShut
import Derived.Deep.QuietTactic
import Derived.BigQuiet
import Derived.Lib.Hide
import Derived.Deep.RegionHeld3
import Derived.Deep.Slices
import Derived.Test.YtgjglkakhmikjaaKPickGroupsMatchSpec3
namespace Go.Proofs.Ytgjglkakhmikjaa
set_option linter.unusedSectionVars false
set_option linter.unusedVariables false
set_option linter.unusedSimpArgs false
set_option maxRecDepth 100000
noncomputable def t_pick_size (q_pick_size : PickD → Option (Int × Int)) (a0 : PickD) : Option (Int × Int) :=
 forE a0.args (fun (i8 : Nat) e7 (s1 : (Int × Int)) => (show Option (Lr (Int × Int) (Int × Int) Unit) from
   (q_pick_size e7).bind fun r9 =>
   some (.go (IntKind.i64.wrap (s1.1 + r9.1), (if s1.2 < IntKind.i64.wrap (r9.2 + 1) then IntKind.i64.wrap (r9.2 + 1) else s1.2))))) (fun s1 => some (s1.1, s1.2)) (1, 1) (fun b2 =>
  some (b2.1, b2.2)) (fun b2 =>
  none)
theorem h_pick_size {rc : Nat → List AV → Heap → Option (AV × Heap)} (q_pick_size : PickD → Option (Int × Int)) (hq_pick_size : ∀ (x0 : PickD) (s : Heap) r, q_pick_size x0 = some r → rc 37 [(AV.agg (cPick x0))] s = some ((AV.tup [(AV.int .i64 r.1), (AV.int .i64 r.2)]), s)) {a0 : PickD} {σ : Heap} {r : (Int × Int)} (h : t_pick_size q_pick_size a0 = some r) : A.wrap true [(.a [.k, .k, .k, (.s 4)])] .k (A.ar1 (r_pick_size rc)) [(AV.agg (cPick a0))] σ = some ((AV.tup [(AV.int .i64 r.1), (AV.int .i64 r.2)]), σ) := by
 refine rf_wrap1 (f := r_pick_size rc) (y0 := (AV.agg (cPick a0))) (enc := fun r : (Int × Int) => (AV.tup [(AV.int .i64 r.1), (AV.int .i64 r.2)])) (T := t_pick_size q_pick_size a0) (by first | rfl | (simp only [cPick_eq]; rfl)) (by first | rfl | (simp only [cPick_eq]; rfl)) ?_ r h
 unfold r_pick_size t_pick_size
 refine rf_s (cPick a0) (by first | rfl | (simp only [cPick_eq]; rfl)) <| rf_s (sl 4 cPick a0.args) (by first | rfl | (simp only [cPick_eq]; rfl)) <| rf_s _ (lenS_sl _ _ _) ?_
 refine rf_for (B := (Int × Int)) (R := Unit) (fun (i8 : Nat) (s1 : (Int × Int)) v w3 => v = [(AV.int .i64 s1.1), (AV.int .i64 s1.2), (AV.int .i64 (i8 : Int))] ∧ σ = w3) (fun (b2 : (Int × Int)) (q : LS) => ∃ u11, q = ((AX.exit 0), ([(AV.int .i64 b2.1), (AV.int .i64 b2.2), u11] : List AV), σ)) (fun (b2 : Unit) (q : LS) => False) ?_ ?_ ⟨rfl, rfl⟩ ?_ ?_
 ·intro hle7 i8 e7 s1 v w3 he7 hI
  obtain ⟨rfl, rfl⟩ := hI
  refine rf_s _ (ix_lt he7) <| rf_ct <| rf_s _ (ix_for he7) <| rf_s (AV.agg (cPick e7)) (by first | rfl | (simp only [cPick_eq]; rfl)) <| rf_s (cPick e7) (by first | rfl | (simp only [cPick_eq]; rfl)) <| rf_s _ (sp_cPick _ _ rfl) <| rf_s (AV.agg (cPick e7)) (by first | rfl | (simp only [cPick_eq]; rfl)) ?_
  refine rf_o (fun r9 : (Int × Int) => ((AV.tup [(AV.int .i64 r9.1), (AV.int .i64 r9.2)]), σ)) (fun r9 hr9 => hq_pick_size _ _ _ hr9) (fun r9 hr9 => ?_)
  refine rf_s (AV.int .i64 r9.1) (by first | rfl | (simp only [cPick_eq]; rfl)) <| rf_s (AV.int .i64 r9.2) (by first | rfl | (simp only [cPick_eq]; rfl)) <| rf_s (AV.int .i64 (IntKind.i64.wrap (s1.1 + r9.1))) (by first | rfl | (simp only [cPick_eq]; rfl)) <| rf_s (AV.int .i64 (IntKind.i64.wrap (r9.2 + 1))) (by first | rfl | (simp only [cPick_eq]; rfl)) <| rf_s (AV.int .i64 (if s1.2 < IntKind.i64.wrap (r9.2 + 1) then IntKind.i64.wrap (r9.2 + 1) else s1.2)) (by first | rfl | (simp only [cPick_eq]; rfl)) <| rf_s _ (ix_inc he7 hle7) ?_
  exact rf_ret (rnd_go ⟨rfl, rfl⟩)
 ·intro hl s1 v w3 hI
  obtain ⟨rfl, rfl⟩ := hI
  refine rf_s _ (ix_end _) <| rf_cf ?_
  exact rf_ret ⟨by simp, ⟨_, rfl⟩⟩
 ·intro hl b2 q hq
  obtain ⟨u11, rfl⟩ := hq
  refine rf_bt (by first | rfl | (simp only [cPick_eq]; rfl)) ?_
  exact rf_fin _ (fin_same _ _) ⟨rfl, rfl⟩
 ·intro hl b2 q hq
  exact False.elim hq

noncomputable def t_pick_check (q_pick_check : PickD → Option Int) (a0 : PickD) : Option Int :=
 if a0.kind = 1 then
  (show Option Bool from
    if a0.kind = 4 then
     some (decide ((a0.args.length : Int) < 2))
    else
    some (decide (¬ ((a0.args.length : Int) = 0)))).bind fun j2 =>
  if ((j2 || ((!true) && (decide (¬ (a0.frm = 0))))) || ((!true) && (decide (¬ (a0.to = 0))))) = true then
   some 3
  else
  (show Option Int from
    if a0.kind = 2 then
     some 999
    else
    (show Option Int from
      if a0.kind = 3 then
       some 999
      else
      some 9999).bind fun j6 =>
    some j6).bind fun j10 =>
  if ((true && (!(withinB a0.frm 1 j10))) || (true && (!(withinB a0.to 1 j10)))) = true then
   some 1
  else
  forE a0.args (fun (i20 : Nat) e19 (s13 : Unit) => (show Option (Lr Unit Unit Int) from
    (q_pick_check e19).bind fun r21 =>
    if ¬ (r21 = 0) then
     some (.ret r21)
    else
    some (.go ()))) (fun s13 => some ()) () (fun b14 =>
   some 0) (fun b14 =>
   some b14)
 else
 (show Option Bool from
   if a0.kind = 2 then
    some (decide (a0.kind = 2))
   else
   some (decide (a0.kind = 3))).bind fun j26 =>
 if j26 = true then
  (show Option Bool from
    if a0.kind = 4 then
     some (decide ((a0.args.length : Int) < 2))
    else
    some (decide (¬ ((a0.args.length : Int) = 0)))).bind fun j30 =>
  if ((j30 || ((!true) && (decide (¬ (a0.frm = 0))))) || ((!false) && (decide (¬ (a0.to = 0))))) = true then
   some 3
  else
  (show Option Int from
    if a0.kind = 2 then
     some 999
    else
    (show Option Int from
      if a0.kind = 3 then
       some 999
      else
      some 9999).bind fun j34 =>
    some j34).bind fun j38 =>
  if ((true && (!(withinB a0.frm 1 j38))) || (false && (!(withinB a0.to 1 j38)))) = true then
   some 1
  else
  forE a0.args (fun (i48 : Nat) e47 (s41 : Unit) => (show Option (Lr Unit Unit Int) from
    (q_pick_check e47).bind fun r49 =>
    if ¬ (r49 = 0) then
     some (.ret r49)
    else
    some (.go ()))) (fun s41 => some ()) () (fun b42 =>
   some 0) (fun b42 =>
   some b42)
 else
 (show Option Bool from
   if a0.kind = 4 then
    some (decide (a0.kind = 4))
   else
   some (decide (a0.kind = 5))).bind fun j54 =>
 if j54 = true then
  (show Option Bool from
    if a0.kind = 4 then
     some (decide ((a0.args.length : Int) < 2))
    else
    some (decide (¬ ((a0.args.length : Int) = 2)))).bind fun j58 =>
  if ((j58 || ((!false) && (decide (¬ (a0.frm = 0))))) || ((!false) && (decide (¬ (a0.to = 0))))) = true then
   some 3
  else
  (show Option Int from
    if a0.kind = 2 then
     some 999
    else
    (show Option Int from
      if a0.kind = 3 then
       some 999
      else
      some 9999).bind fun j62 =>
    some j62).bind fun j66 =>
  if ((false && (!(withinB a0.frm 1 j66))) || (false && (!(withinB a0.to 1 j66)))) = true then
   some 1
  else
  forE a0.args (fun (i76 : Nat) e75 (s69 : Unit) => (show Option (Lr Unit Unit Int) from
    (q_pick_check e75).bind fun r77 =>
    if ¬ (r77 = 0) then
     some (.ret r77)
    else
    some (.go ()))) (fun s69 => some ()) () (fun b70 =>
   some 0) (fun b70 =>
   some b70)
 else
 (show Option Bool from
   if a0.kind = 6 then
    some (decide (a0.kind = 6))
   else
   (show Option Bool from
     if a0.kind = 7 then
      some (decide (a0.kind = 7))
     else
     some (decide (a0.kind = 8))).bind fun j82 =>
   some j82).bind fun j86 =>
 if j86 = true then
  (show Option Bool from
    if a0.kind = 4 then
     some (decide ((a0.args.length : Int) < 2))
    else
    some (decide (¬ ((a0.args.length : Int) = 1)))).bind fun j90 =>
  if ((j90 || ((!false) && (decide (¬ (a0.frm = 0))))) || ((!false) && (decide (¬ (a0.to = 0))))) = true then
   some 3
  else
  (show Option Int from
    if a0.kind = 2 then
     some 999
    else
    (show Option Int from
      if a0.kind = 3 then
       some 999
      else
      some 9999).bind fun j94 =>
    some j94).bind fun j98 =>
  if ((false && (!(withinB a0.frm 1 j98))) || (false && (!(withinB a0.to 1 j98)))) = true then
   some 1
  else
  forE a0.args (fun (i108 : Nat) e107 (s101 : Unit) => (show Option (Lr Unit Unit Int) from
    (q_pick_check e107).bind fun r109 =>
    if ¬ (r109 = 0) then
     some (.ret r109)
    else
    some (.go ()))) (fun s101 => some ()) () (fun b102 =>
   some 0) (fun b102 =>
   some b102)
 else
 if a0.kind = 9 then
  (show Option Bool from
    if a0.kind = 4 then
     some (decide ((a0.args.length : Int) < 2))
    else
    some (decide (¬ ((a0.args.length : Int) = 1)))).bind fun j114 =>
  if ((j114 || ((!true) && (decide (¬ (a0.frm = 0))))) || ((!true) && (decide (¬ (a0.to = 0))))) = true then
   some 3
  else
  (show Option Int from
    if a0.kind = 2 then
     some 999
    else
    (show Option Int from
      if a0.kind = 3 then
       some 999
      else
      some 9999).bind fun j118 =>
    some j118).bind fun j122 =>
  if ((true && (!(withinB a0.frm 1 j122))) || (true && (!(withinB a0.to 1 j122)))) = true then
   some 1
  else
  forE a0.args (fun (i132 : Nat) e131 (s125 : Unit) => (show Option (Lr Unit Unit Int) from
    (q_pick_check e131).bind fun r133 =>
    if ¬ (r133 = 0) then
     some (.ret r133)
    else
    some (.go ()))) (fun s125 => some ()) () (fun b126 =>
   some 0) (fun b126 =>
   some b126)
 else
 some 4
theorem h_pick_check {rc : Nat → List AV → Heap → Option (AV × Heap)} (q_pick_check : PickD → Option Int) (hq_pick_check : ∀ (x0 : PickD) (s : Heap) r, q_pick_check x0 = some r → rc 38 [(AV.agg (cPick x0))] s = some ((AV.int .i64 r), s)) {a0 : PickD} {σ : Heap} {r : Int} (h : t_pick_check q_pick_check a0 = some r) : A.wrap true [(.a [.k, .k, .k, (.s 4)])] .k (A.ar1 (r_pick_check rc)) [(AV.agg (cPick a0))] σ = some ((AV.int .i64 r), σ) := by
 refine rf_wrap1 (f := r_pick_check rc) (y0 := (AV.agg (cPick a0))) (enc := fun r : Int => (AV.int .i64 r)) (T := t_pick_check q_pick_check a0) (by first | rfl | (simp only [cPick_eq]; rfl)) (by first | rfl | (simp only [cPick_eq]; rfl)) ?_ r h
 unfold r_pick_check t_pick_check
 refine rf_s (cPick a0) (by first | rfl | (simp only [cPick_eq]; rfl)) <| rf_s (AV.int .i64 a0.kind) (by first | rfl | (simp only [cPick_eq]; rfl)) <| rf_s _ (aEq _ _ _) ?_
 refine rf_c (p := a0.kind = 1) (fun c141 => ?_) (fun c141 => ?_)
 ·refine rf_s (sl 4 cPick a0.args) (by first | rfl | (simp only [cPick_eq]; rfl)) <| rf_s _ (lenS_sl _ _ _) <| rf_s _ (aNe _ _ _) <| rf_s (AV.int .i64 a0.kind) (by first | rfl | (simp only [cPick_eq]; rfl)) <| rf_s _ (aEq _ _ _) ?_
  refine rf_b (ω := Bool) (fun j2 a => a = (([(AV.lbx (cPick a0)), (AV.bool j2)] : List AV), σ)) (
    by
     refine rf_c (p := a0.kind = 4) (fun c1 => ?_) (fun c1 => ?_)
     ·refine rf_s (sl 4 cPick a0.args) (by first | rfl | (simp only [cPick_eq]; rfl)) <| rf_s _ (lenS_sl _ _ _) <| rf_s (AV.bool (decide ((a0.args.length : Int) < 2))) (by first | rfl | (simp only [cPick_eq]; rfl)) ?_
      exact rf_ret rfl
     exact rf_ret rfl
    ) (fun j2 a ha => ?_)
  subst ha
  refine rf_gf (AV.bool true) (fun hg => by first | rfl | (simp only [cPick_eq]; rfl)) <| rf_gf (AV.bool (!true)) (fun hg => by (try rw [hg]); exact rfl) <| rf_gf (AV.bool (!true)) (fun hg => by (try rw [hg]); exact rfl) <| rf_s _ (by first | rfl | (simp only [cPick_eq]; rfl)) <| rf_ggt (AV.int .i64 a0.frm) (fun hg => by first | rfl | (simp only [cPick_eq]; rfl)) <| rf_ggt (AV.bool (decide (¬ (a0.frm = 0)))) (fun hg => by (try rw [hg]); exact (aNe _ _ _)) <| rf_gf (AV.bool ((!true) && (decide (¬ (a0.frm = 0))))) (fun hg => by (try rw [hg]); exact (pk_and _ _)) <| rf_s _ (pk_or _ _) <| rf_gf (AV.bool true) (fun hg => by first | rfl | (simp only [cPick_eq]; rfl)) <| rf_gf (AV.bool (!true)) (fun hg => by (try rw [hg]); exact rfl) <| rf_gf (AV.bool (!true)) (fun hg => by (try rw [hg]); exact rfl) <| rf_s _ (by first | rfl | (simp only [cPick_eq]; rfl)) <| rf_ggt (AV.int .i64 a0.to) (fun hg => by first | rfl | (simp only [cPick_eq]; rfl)) <| rf_ggt (AV.bool (decide (¬ (a0.to = 0)))) (fun hg => by (try rw [hg]); exact (aNe _ _ _)) <| rf_gf (AV.bool ((!true) && (decide (¬ (a0.to = 0))))) (fun hg => by (try rw [hg]); exact (pk_and _ _)) <| rf_s _ (pk_or _ _) ?_
  refine rf_cb (c := ((j2 || ((!true) && (decide (¬ (a0.frm = 0))))) || ((!true) && (decide (¬ (a0.to = 0)))))) (fun c24 => ?_) (fun c24 => ?_)
  ·exact rf_fin _ (fin_same _ _) ⟨rfl, rfl⟩
  refine rf_s _ (by first | rfl | (simp only [cPick_eq]; rfl)) <| rf_s (AV.int .i64 a0.kind) (by first | rfl | (simp only [cPick_eq]; rfl)) <| rf_s _ (aEq _ _ _) ?_
  refine rf_b (ω := Int) (fun j10 a => a = (([(AV.lbx (cPick a0)), (AV.int .i64 j10)] : List AV), σ)) (
    by
     refine rf_c (p := a0.kind = 2) (fun c9 => ?_) (fun c9 => ?_)
     ·exact rf_ret rfl
     refine rf_s _ (aEq _ _ _) ?_
     refine rf_b (ω := Int) (fun j6 a => a = (([(AV.lbx (cPick a0)), (AV.int .i64 j6)] : List AV), σ)) (
       by
        refine rf_c (p := a0.kind = 3) (fun c5 => ?_) (fun c5 => ?_)
        ·exact rf_ret rfl
        exact rf_ret rfl
       ) (fun j6 a ha => ?_)
     subst ha
     exact rf_ret rfl
    ) (fun j10 a ha => ?_)
  subst ha
  refine rf_s _ (by first | rfl | (simp only [cPick_eq]; rfl)) <| rf_gt (AV.int .i64 a0.frm) (fun hg => by first | rfl | (simp only [cPick_eq]; rfl)) <| rf_gt (AV.int .i64 j10) (fun hg => by first | rfl | (simp only [cPick_eq]; rfl)) <| rf_gt (AV.bool (withinB a0.frm 1 j10)) (fun hg => by (try rw [hg]); exact (quiet_of (Within_eq a0.frm 1 j10 σ))) <| rf_gt (AV.bool (!(withinB a0.frm 1 j10))) (fun hg => by (try rw [hg]); exact rfl) <| rf_s _ (pk_and _ _) <| rf_gf (AV.bool true) (fun hg => by first | rfl | (simp only [cPick_eq]; rfl)) <| rf_gf (AV.bool true) (fun hg => by (try rw [hg]); exact rfl) <| rf_s _ (by first | rfl | (simp only [cPick_eq]; rfl)) <| rf_ggt (AV.int .i64 a0.to) (fun hg => by first | rfl | (simp only [cPick_eq]; rfl)) <| rf_ggt (AV.int .i64 j10) (fun hg => by first | rfl | (simp only [cPick_eq]; rfl)) <| rf_ggt (AV.bool (withinB a0.to 1 j10)) (fun hg => by (try rw [hg]); exact (quiet_of (Within_eq a0.to 1 j10 σ))) <| rf_ggt (AV.bool (!(withinB a0.to 1 j10))) (fun hg => by (try rw [hg]); exact rfl) <| rf_gf (AV.bool (true && (!(withinB a0.to 1 j10)))) (fun hg => by (try rw [hg]); exact (pk_and _ _)) <| rf_s _ (pk_or _ _) ?_
  refine rf_cb (c := ((true && (!(withinB a0.frm 1 j10))) || (true && (!(withinB a0.to 1 j10))))) (fun c23 => ?_) (fun c23 => ?_)
  ·exact rf_fin _ (fin_same _ _) ⟨rfl, rfl⟩
  refine rf_s _ (by first | rfl | (simp only [cPick_eq]; rfl)) <| rf_s (sl 4 cPick a0.args) (by first | rfl | (simp only [cPick_eq]; rfl)) <| rf_s _ (lenS_sl _ _ _) ?_
  refine rf_for (B := Unit) (R := Int) (fun (i20 : Nat) (s13 : Unit) v w15 => v = [(AV.int .i64 0), (AV.int .i64 (i20 : Int))] ∧ σ = w15) (fun (b14 : Unit) (q : LS) => ∃ u2 u85, q = ((AX.exit 2), ([u2, u85] : List AV), σ)) (fun (b14 : Int) (q : LS) => ∃ u85, q = (AX.ret, ([(AV.int .i64 b14), u85] : List AV), σ)) ?_ ?_ ⟨rfl, rfl⟩ ?_ ?_
  ·intro hle19 i20 e19 s13 v w15 he19 hI
   obtain ⟨rfl, rfl⟩ := hI
   refine rf_s _ (ix_lt he19) <| rf_ct <| rf_s _ (ix_for he19) <| rf_s (AV.agg (cPick e19)) (by first | rfl | (simp only [cPick_eq]; rfl)) <| rf_s (cPick e19) (by first | rfl | (simp only [cPick_eq]; rfl)) <| rf_s _ (sp_cPick _ _ rfl) <| rf_s (AV.agg (cPick e19)) (by first | rfl | (simp only [cPick_eq]; rfl)) ?_
   refine rf_o (fun r21 : Int => ((AV.int .i64 r21), σ)) (fun r21 hr21 => hq_pick_check _ _ _ hr21) (fun r21 hr21 => ?_)
   refine rf_s _ (aNe _ _ _) ?_
   refine rf_c (p := ¬ (r21 = 0)) (fun c22 => ?_) (fun c22 => ?_)
   ·exact rf_ret (rnd_ret (by simp) ⟨_, rfl⟩)
   refine rf_s _ (ix_inc he19 hle19) ?_
   exact rf_ret (rnd_go ⟨rfl, rfl⟩)
  ·intro hl s13 v w15 hI
   obtain ⟨rfl, rfl⟩ := hI
   refine rf_s _ (ix_end _) <| rf_cf ?_
   exact rf_ret ⟨by simp, ⟨_, _, rfl⟩⟩
  ·intro hl b14 q hq
   obtain ⟨u2, u85, rfl⟩ := hq
   refine rf_bt (by first | rfl | (simp only [cPick_eq]; rfl)) ?_
   exact rf_fin _ (fin_same _ _) ⟨rfl, rfl⟩
  ·intro hl b14 q hq
   obtain ⟨u85, rfl⟩ := hq
   refine rf_bf (by first | rfl | (simp only [cPick_eq]; rfl)) <| rf_bt (by first | rfl | (simp only [cPick_eq]; rfl)) ?_
   exact rf_fin _ (fin_same _ _) ⟨rfl, rfl⟩
 refine rf_s _ (aEq _ _ _) ?_
 refine rf_b (ω := Bool) (fun j26 a => a = (([(AV.lbx (cPick a0)), (AV.bool j26)] : List AV), σ)) (
   by
    refine rf_c (p := a0.kind = 2) (fun c25 => ?_) (fun c25 => ?_)
    ·exact rf_ret rfl
    refine rf_s _ (aEq _ _ _) ?_
    exact rf_ret rfl
   ) (fun j26 a ha => ?_)
 subst ha
 refine rf_cb (c := j26) (fun c140 => ?_) (fun c140 => ?_)
 ·refine rf_s _ (by first | rfl | (simp only [cPick_eq]; rfl)) <| rf_s (sl 4 cPick a0.args) (by first | rfl | (simp only [cPick_eq]; rfl)) <| rf_s _ (lenS_sl _ _ _) <| rf_s _ (aNe _ _ _) <| rf_s _ (by first | rfl | (simp only [cPick_eq]; rfl)) <| rf_s (AV.int .i64 a0.kind) (by first | rfl | (simp only [cPick_eq]; rfl)) <| rf_s _ (aEq _ _ _) ?_
  refine rf_b (ω := Bool) (fun j30 a => a = (([(AV.lbx (cPick a0)), (AV.bool j30)] : List AV), σ)) (
    by
     refine rf_c (p := a0.kind = 4) (fun c29 => ?_) (fun c29 => ?_)
     ·refine rf_s _ (by first | rfl | (simp only [cPick_eq]; rfl)) <| rf_s (sl 4 cPick a0.args) (by first | rfl | (simp only [cPick_eq]; rfl)) <| rf_s _ (lenS_sl _ _ _) <| rf_s (AV.bool (decide ((a0.args.length : Int) < 2))) (by first | rfl | (simp only [cPick_eq]; rfl)) ?_
      exact rf_ret rfl
     exact rf_ret rfl
    ) (fun j30 a ha => ?_)
  subst ha
  refine rf_gf (AV.bool true) (fun hg => by first | rfl | (simp only [cPick_eq]; rfl)) <| rf_gf (AV.bool (!true)) (fun hg => by (try rw [hg]); exact rfl) <| rf_gf (AV.bool (!true)) (fun hg => by (try rw [hg]); exact rfl) <| rf_s _ (by first | rfl | (simp only [cPick_eq]; rfl)) <| rf_ggt (AV.int .i64 a0.frm) (fun hg => by first | rfl | (simp only [cPick_eq]; rfl)) <| rf_ggt (AV.bool (decide (¬ (a0.frm = 0)))) (fun hg => by (try rw [hg]); exact (aNe _ _ _)) <| rf_gf (AV.bool ((!true) && (decide (¬ (a0.frm = 0))))) (fun hg => by (try rw [hg]); exact (pk_and _ _)) <| rf_s _ (pk_or _ _) <| rf_gf (AV.bool false) (fun hg => by first | rfl | (simp only [cPick_eq]; rfl)) <| rf_gf (AV.bool (!false)) (fun hg => by (try rw [hg]); exact rfl) <| rf_gf (AV.bool (!false)) (fun hg => by (try rw [hg]); exact rfl) <| rf_s _ (by first | rfl | (simp only [cPick_eq]; rfl)) <| rf_ggt (AV.int .i64 a0.to) (fun hg => by first | rfl | (simp only [cPick_eq]; rfl)) <| rf_ggt (AV.bool (decide (¬ (a0.to = 0)))) (fun hg => by (try rw [hg]); exact (aNe _ _ _)) <| rf_gf (AV.bool ((!false) && (decide (¬ (a0.to = 0))))) (fun hg => by (try rw [hg]); exact (pk_and _ _)) <| rf_s _ (pk_or _ _) ?_
  refine rf_cb (c := ((j30 || ((!true) && (decide (¬ (a0.frm = 0))))) || ((!false) && (decide (¬ (a0.to = 0)))))) (fun c52 => ?_) (fun c52 => ?_)
  ·exact rf_fin _ (fin_same _ _) ⟨rfl, rfl⟩
  refine rf_s _ (by first | rfl | (simp only [cPick_eq]; rfl)) <| rf_s (AV.int .i64 a0.kind) (by first | rfl | (simp only [cPick_eq]; rfl)) <| rf_s _ (aEq _ _ _) ?_
  refine rf_b (ω := Int) (fun j38 a => a = (([(AV.lbx (cPick a0)), (AV.int .i64 j38)] : List AV), σ)) (
    by
     refine rf_c (p := a0.kind = 2) (fun c37 => ?_) (fun c37 => ?_)
     ·exact rf_ret rfl
     refine rf_s _ (aEq _ _ _) ?_
     refine rf_b (ω := Int) (fun j34 a => a = (([(AV.lbx (cPick a0)), (AV.int .i64 j34)] : List AV), σ)) (
       by
        refine rf_c (p := a0.kind = 3) (fun c33 => ?_) (fun c33 => ?_)
        ·exact rf_ret rfl
        exact rf_ret rfl
       ) (fun j34 a ha => ?_)
     subst ha
     exact rf_ret rfl
    ) (fun j38 a ha => ?_)
  subst ha
  refine rf_s _ (by first | rfl | (simp only [cPick_eq]; rfl)) <| rf_gt (AV.int .i64 a0.frm) (fun hg => by first | rfl | (simp only [cPick_eq]; rfl)) <| rf_gt (AV.int .i64 j38) (fun hg => by first | rfl | (simp only [cPick_eq]; rfl)) <| rf_gt (AV.bool (withinB a0.frm 1 j38)) (fun hg => by (try rw [hg]); exact (quiet_of (Within_eq a0.frm 1 j38 σ))) <| rf_gt (AV.bool (!(withinB a0.frm 1 j38))) (fun hg => by (try rw [hg]); exact rfl) <| rf_s _ (pk_and _ _) <| rf_gf (AV.bool false) (fun hg => by first | rfl | (simp only [cPick_eq]; rfl)) <| rf_gf (AV.bool false) (fun hg => by (try rw [hg]); exact rfl) <| rf_s _ (by first | rfl | (simp only [cPick_eq]; rfl)) <| rf_ggt (AV.int .i64 a0.to) (fun hg => by first | rfl | (simp only [cPick_eq]; rfl)) <| rf_ggt (AV.int .i64 j38) (fun hg => by first | rfl | (simp only [cPick_eq]; rfl)) <| rf_ggt (AV.bool (withinB a0.to 1 j38)) (fun hg => by (try rw [hg]); exact (quiet_of (Within_eq a0.to 1 j38 σ))) <| rf_ggt (AV.bool (!(withinB a0.to 1 j38))) (fun hg => by (try rw [hg]); exact rfl) <| rf_gf (AV.bool (false && (!(withinB a0.to 1 j38)))) (fun hg => by (try rw [hg]); exact (pk_and _ _)) <| rf_s _ (pk_or _ _) ?_
  refine rf_cb (c := ((true && (!(withinB a0.frm 1 j38))) || (false && (!(withinB a0.to 1 j38))))) (fun c51 => ?_) (fun c51 => ?_)
  ·exact rf_fin _ (fin_same _ _) ⟨rfl, rfl⟩
  refine rf_s _ (by first | rfl | (simp only [cPick_eq]; rfl)) <| rf_s (sl 4 cPick a0.args) (by first | rfl | (simp only [cPick_eq]; rfl)) <| rf_s _ (lenS_sl _ _ _) ?_
  refine rf_for (B := Unit) (R := Int) (fun (i48 : Nat) (s41 : Unit) v w43 => v = [(AV.int .i64 0), (AV.int .i64 (i48 : Int))] ∧ σ = w43) (fun (b42 : Unit) (q : LS) => ∃ u2 u85, q = ((AX.exit 2), ([u2, u85] : List AV), σ)) (fun (b42 : Int) (q : LS) => ∃ u85, q = (AX.ret, ([(AV.int .i64 b42), u85] : List AV), σ)) ?_ ?_ ⟨rfl, rfl⟩ ?_ ?_
  ·intro hle47 i48 e47 s41 v w43 he47 hI
   obtain ⟨rfl, rfl⟩ := hI
   refine rf_s _ (ix_lt he47) <| rf_ct <| rf_s _ (ix_for he47) <| rf_s (AV.agg (cPick e47)) (by first | rfl | (simp only [cPick_eq]; rfl)) <| rf_s (cPick e47) (by first | rfl | (simp only [cPick_eq]; rfl)) <| rf_s _ (sp_cPick _ _ rfl) <| rf_s (AV.agg (cPick e47)) (by first | rfl | (simp only [cPick_eq]; rfl)) ?_
   refine rf_o (fun r49 : Int => ((AV.int .i64 r49), σ)) (fun r49 hr49 => hq_pick_check _ _ _ hr49) (fun r49 hr49 => ?_)
   refine rf_s _ (aNe _ _ _) ?_
   refine rf_c (p := ¬ (r49 = 0)) (fun c50 => ?_) (fun c50 => ?_)
   ·exact rf_ret (rnd_ret (by simp) ⟨_, rfl⟩)
   refine rf_s _ (ix_inc he47 hle47) ?_
   exact rf_ret (rnd_go ⟨rfl, rfl⟩)
  ·intro hl s41 v w43 hI
   obtain ⟨rfl, rfl⟩ := hI
   refine rf_s _ (ix_end _) <| rf_cf ?_
   exact rf_ret ⟨by simp, ⟨_, _, rfl⟩⟩
  ·intro hl b42 q hq
   obtain ⟨u2, u85, rfl⟩ := hq
   refine rf_bt (by first | rfl | (simp only [cPick_eq]; rfl)) ?_
   exact rf_fin _ (fin_same _ _) ⟨rfl, rfl⟩
  ·intro hl b42 q hq
   obtain ⟨u85, rfl⟩ := hq
   refine rf_bf (by first | rfl | (simp only [cPick_eq]; rfl)) <| rf_bt (by first | rfl | (simp only [cPick_eq]; rfl)) ?_
   exact rf_fin _ (fin_same _ _) ⟨rfl, rfl⟩
 refine rf_s _ (aEq _ _ _) ?_
 refine rf_b (ω := Bool) (fun j54 a => a = (([(AV.lbx (cPick a0)), (AV.bool j54)] : List AV), σ)) (
   by
    refine rf_c (p := a0.kind = 4) (fun c53 => ?_) (fun c53 => ?_)
    ·exact rf_ret rfl
    refine rf_s _ (aEq _ _ _) ?_
    exact rf_ret rfl
   ) (fun j54 a ha => ?_)
 subst ha
 refine rf_cb (c := j54) (fun c139 => ?_) (fun c139 => ?_)
 ·refine rf_s _ (by first | rfl | (simp only [cPick_eq]; rfl)) <| rf_s (sl 4 cPick a0.args) (by first | rfl | (simp only [cPick_eq]; rfl)) <| rf_s _ (lenS_sl _ _ _) <| rf_s _ (aNe _ _ _) <| rf_s _ (by first | rfl | (simp only [cPick_eq]; rfl)) <| rf_s (AV.int .i64 a0.kind) (by first | rfl | (simp only [cPick_eq]; rfl)) <| rf_s _ (aEq _ _ _) ?_
  refine rf_b (ω := Bool) (fun j58 a => a = (([(AV.lbx (cPick a0)), (AV.bool j58)] : List AV), σ)) (
    by
     refine rf_c (p := a0.kind = 4) (fun c57 => ?_) (fun c57 => ?_)
     ·refine rf_s _ (by first | rfl | (simp only [cPick_eq]; rfl)) <| rf_s (sl 4 cPick a0.args) (by first | rfl | (simp only [cPick_eq]; rfl)) <| rf_s _ (lenS_sl _ _ _) <| rf_s (AV.bool (decide ((a0.args.length : Int) < 2))) (by first | rfl | (simp only [cPick_eq]; rfl)) ?_
      exact rf_ret rfl
     exact rf_ret rfl
    ) (fun j58 a ha => ?_)
  subst ha
  refine rf_gf (AV.bool false) (fun hg => by first | rfl | (simp only [cPick_eq]; rfl)) <| rf_gf (AV.bool (!false)) (fun hg => by (try rw [hg]); exact rfl) <| rf_gf (AV.bool (!false)) (fun hg => by (try rw [hg]); exact rfl) <| rf_s _ (by first | rfl | (simp only [cPick_eq]; rfl)) <| rf_ggt (AV.int .i64 a0.frm) (fun hg => by first | rfl | (simp only [cPick_eq]; rfl)) <| rf_ggt (AV.bool (decide (¬ (a0.frm = 0)))) (fun hg => by (try rw [hg]); exact (aNe _ _ _)) <| rf_gf (AV.bool ((!false) && (decide (¬ (a0.frm = 0))))) (fun hg => by (try rw [hg]); exact (pk_and _ _)) <| rf_s _ (pk_or _ _) <| rf_gf (AV.bool false) (fun hg => by first | rfl | (simp only [cPick_eq]; rfl)) <| rf_gf (AV.bool (!false)) (fun hg => by (try rw [hg]); exact rfl) <| rf_gf (AV.bool (!false)) (fun hg => by (try rw [hg]); exact rfl) <| rf_s _ (by first | rfl | (simp only [cPick_eq]; rfl)) <| rf_ggt (AV.int .i64 a0.to) (fun hg => by first | rfl | (simp only [cPick_eq]; rfl)) <| rf_ggt (AV.bool (decide (¬ (a0.to = 0)))) (fun hg => by (try rw [hg]); exact (aNe _ _ _)) <| rf_gf (AV.bool ((!false) && (decide (¬ (a0.to = 0))))) (fun hg => by (try rw [hg]); exact (pk_and _ _)) <| rf_s _ (pk_or _ _) ?_
  refine rf_cb (c := ((j58 || ((!false) && (decide (¬ (a0.frm = 0))))) || ((!false) && (decide (¬ (a0.to = 0)))))) (fun c80 => ?_) (fun c80 => ?_)
  ·exact rf_fin _ (fin_same _ _) ⟨rfl, rfl⟩
  refine rf_s _ (by first | rfl | (simp only [cPick_eq]; rfl)) <| rf_s (AV.int .i64 a0.kind) (by first | rfl | (simp only [cPick_eq]; rfl)) <| rf_s _ (aEq _ _ _) ?_
  refine rf_b (ω := Int) (fun j66 a => a = (([(AV.lbx (cPick a0)), (AV.int .i64 j66)] : List AV), σ)) (
    by
     refine rf_c (p := a0.kind = 2) (fun c65 => ?_) (fun c65 => ?_)
     ·exact rf_ret rfl
     refine rf_s _ (aEq _ _ _) ?_
     refine rf_b (ω := Int) (fun j62 a => a = (([(AV.lbx (cPick a0)), (AV.int .i64 j62)] : List AV), σ)) (
       by
        refine rf_c (p := a0.kind = 3) (fun c61 => ?_) (fun c61 => ?_)
        ·exact rf_ret rfl
        exact rf_ret rfl
       ) (fun j62 a ha => ?_)
     subst ha
     exact rf_ret rfl
    ) (fun j66 a ha => ?_)
  subst ha
  refine rf_s _ (by first | rfl | (simp only [cPick_eq]; rfl)) <| rf_gt (AV.int .i64 a0.frm) (fun hg => by first | rfl | (simp only [cPick_eq]; rfl)) <| rf_gt (AV.int .i64 j66) (fun hg => by first | rfl | (simp only [cPick_eq]; rfl)) <| rf_gt (AV.bool (withinB a0.frm 1 j66)) (fun hg => by (try rw [hg]); exact (quiet_of (Within_eq a0.frm 1 j66 σ))) <| rf_gt (AV.bool (!(withinB a0.frm 1 j66))) (fun hg => by (try rw [hg]); exact rfl) <| rf_s _ (pk_and _ _) <| rf_gf (AV.bool false) (fun hg => by first | rfl | (simp only [cPick_eq]; rfl)) <| rf_gf (AV.bool false) (fun hg => by (try rw [hg]); exact rfl) <| rf_s _ (by first | rfl | (simp only [cPick_eq]; rfl)) <| rf_ggt (AV.int .i64 a0.to) (fun hg => by first | rfl | (simp only [cPick_eq]; rfl)) <| rf_ggt (AV.int .i64 j66) (fun hg => by first | rfl | (simp only [cPick_eq]; rfl)) <| rf_ggt (AV.bool (withinB a0.to 1 j66)) (fun hg => by (try rw [hg]); exact (quiet_of (Within_eq a0.to 1 j66 σ))) <| rf_ggt (AV.bool (!(withinB a0.to 1 j66))) (fun hg => by (try rw [hg]); exact rfl) <| rf_gf (AV.bool (false && (!(withinB a0.to 1 j66)))) (fun hg => by (try rw [hg]); exact (pk_and _ _)) <| rf_s _ (pk_or _ _) ?_
  refine rf_cb (c := ((false && (!(withinB a0.frm 1 j66))) || (false && (!(withinB a0.to 1 j66))))) (fun c79 => ?_) (fun c79 => ?_)
  ·exact rf_fin _ (fin_same _ _) ⟨rfl, rfl⟩
  refine rf_s _ (by first | rfl | (simp only [cPick_eq]; rfl)) <| rf_s (sl 4 cPick a0.args) (by first | rfl | (simp only [cPick_eq]; rfl)) <| rf_s _ (lenS_sl _ _ _) ?_
  refine rf_for (B := Unit) (R := Int) (fun (i76 : Nat) (s69 : Unit) v w71 => v = [(AV.int .i64 0), (AV.int .i64 (i76 : Int))] ∧ σ = w71) (fun (b70 : Unit) (q : LS) => ∃ u2 u85, q = ((AX.exit 2), ([u2, u85] : List AV), σ)) (fun (b70 : Int) (q : LS) => ∃ u85, q = (AX.ret, ([(AV.int .i64 b70), u85] : List AV), σ)) ?_ ?_ ⟨rfl, rfl⟩ ?_ ?_
  ·intro hle75 i76 e75 s69 v w71 he75 hI
   obtain ⟨rfl, rfl⟩ := hI
   refine rf_s _ (ix_lt he75) <| rf_ct <| rf_s _ (ix_for he75) <| rf_s (AV.agg (cPick e75)) (by first | rfl | (simp only [cPick_eq]; rfl)) <| rf_s (cPick e75) (by first | rfl | (simp only [cPick_eq]; rfl)) <| rf_s _ (sp_cPick _ _ rfl) <| rf_s (AV.agg (cPick e75)) (by first | rfl | (simp only [cPick_eq]; rfl)) ?_
   refine rf_o (fun r77 : Int => ((AV.int .i64 r77), σ)) (fun r77 hr77 => hq_pick_check _ _ _ hr77) (fun r77 hr77 => ?_)
   refine rf_s _ (aNe _ _ _) ?_
   refine rf_c (p := ¬ (r77 = 0)) (fun c78 => ?_) (fun c78 => ?_)
   ·exact rf_ret (rnd_ret (by simp) ⟨_, rfl⟩)
   refine rf_s _ (ix_inc he75 hle75) ?_
   exact rf_ret (rnd_go ⟨rfl, rfl⟩)
  ·intro hl s69 v w71 hI
   obtain ⟨rfl, rfl⟩ := hI
   refine rf_s _ (ix_end _) <| rf_cf ?_
   exact rf_ret ⟨by simp, ⟨_, _, rfl⟩⟩
  ·intro hl b70 q hq
   obtain ⟨u2, u85, rfl⟩ := hq
   refine rf_bt (by first | rfl | (simp only [cPick_eq]; rfl)) ?_
   exact rf_fin _ (fin_same _ _) ⟨rfl, rfl⟩
  ·intro hl b70 q hq
   obtain ⟨u85, rfl⟩ := hq
   refine rf_bf (by first | rfl | (simp only [cPick_eq]; rfl)) <| rf_bt (by first | rfl | (simp only [cPick_eq]; rfl)) ?_
   exact rf_fin _ (fin_same _ _) ⟨rfl, rfl⟩
 refine rf_s _ (aEq _ _ _) ?_
 refine rf_b (ω := Bool) (fun j86 a => a = (([(AV.lbx (cPick a0)), (AV.bool j86)] : List AV), σ)) (
   by
    refine rf_c (p := a0.kind = 6) (fun c85 => ?_) (fun c85 => ?_)
    ·exact rf_ret rfl
    refine rf_s _ (aEq _ _ _) ?_
    refine rf_b (ω := Bool) (fun j82 a => a = (([(AV.lbx (cPick a0)), (AV.bool j82)] : List AV), σ)) (
      by
       refine rf_c (p := a0.kind = 7) (fun c81 => ?_) (fun c81 => ?_)
       ·exact rf_ret rfl
       refine rf_s _ (aEq _ _ _) ?_
       exact rf_ret rfl
      ) (fun j82 a ha => ?_)
    subst ha
    exact rf_ret rfl
   ) (fun j86 a ha => ?_)
 subst ha
 refine rf_cb (c := j86) (fun c138 => ?_) (fun c138 => ?_)
 ·refine rf_s _ (by first | rfl | (simp only [cPick_eq]; rfl)) <| rf_s (sl 4 cPick a0.args) (by first | rfl | (simp only [cPick_eq]; rfl)) <| rf_s _ (lenS_sl _ _ _) <| rf_s _ (aNe _ _ _) <| rf_s _ (by first | rfl | (simp only [cPick_eq]; rfl)) <| rf_s (AV.int .i64 a0.kind) (by first | rfl | (simp only [cPick_eq]; rfl)) <| rf_s _ (aEq _ _ _) ?_
  refine rf_b (ω := Bool) (fun j90 a => a = (([(AV.lbx (cPick a0)), (AV.bool j90)] : List AV), σ)) (
    by
     refine rf_c (p := a0.kind = 4) (fun c89 => ?_) (fun c89 => ?_)
     ·refine rf_s _ (by first | rfl | (simp only [cPick_eq]; rfl)) <| rf_s (sl 4 cPick a0.args) (by first | rfl | (simp only [cPick_eq]; rfl)) <| rf_s _ (lenS_sl _ _ _) <| rf_s (AV.bool (decide ((a0.args.length : Int) < 2))) (by first | rfl | (simp only [cPick_eq]; rfl)) ?_
      exact rf_ret rfl
     exact rf_ret rfl
    ) (fun j90 a ha => ?_)
  subst ha
  refine rf_gf (AV.bool false) (fun hg => by first | rfl | (simp only [cPick_eq]; rfl)) <| rf_gf (AV.bool (!false)) (fun hg => by (try rw [hg]); exact rfl) <| rf_gf (AV.bool (!false)) (fun hg => by (try rw [hg]); exact rfl) <| rf_s _ (by first | rfl | (simp only [cPick_eq]; rfl)) <| rf_ggt (AV.int .i64 a0.frm) (fun hg => by first | rfl | (simp only [cPick_eq]; rfl)) <| rf_ggt (AV.bool (decide (¬ (a0.frm = 0)))) (fun hg => by (try rw [hg]); exact (aNe _ _ _)) <| rf_gf (AV.bool ((!false) && (decide (¬ (a0.frm = 0))))) (fun hg => by (try rw [hg]); exact (pk_and _ _)) <| rf_s _ (pk_or _ _) <| rf_gf (AV.bool false) (fun hg => by first | rfl | (simp only [cPick_eq]; rfl)) <| rf_gf (AV.bool (!false)) (fun hg => by (try rw [hg]); exact rfl) <| rf_gf (AV.bool (!false)) (fun hg => by (try rw [hg]); exact rfl) <| rf_s _ (by first | rfl | (simp only [cPick_eq]; rfl)) <| rf_ggt (AV.int .i64 a0.to) (fun hg => by first | rfl | (simp only [cPick_eq]; rfl)) <| rf_ggt (AV.bool (decide (¬ (a0.to = 0)))) (fun hg => by (try rw [hg]); exact (aNe _ _ _)) <| rf_gf (AV.bool ((!false) && (decide (¬ (a0.to = 0))))) (fun hg => by (try rw [hg]); exact (pk_and _ _)) <| rf_s _ (pk_or _ _) ?_
  refine rf_cb (c := ((j90 || ((!false) && (decide (¬ (a0.frm = 0))))) || ((!false) && (decide (¬ (a0.to = 0)))))) (fun c112 => ?_) (fun c112 => ?_)
  ·exact rf_fin _ (fin_same _ _) ⟨rfl, rfl⟩
  refine rf_s _ (by first | rfl | (simp only [cPick_eq]; rfl)) <| rf_s (AV.int .i64 a0.kind) (by first | rfl | (simp only [cPick_eq]; rfl)) <| rf_s _ (aEq _ _ _) ?_
  refine rf_b (ω := Int) (fun j98 a => a = (([(AV.lbx (cPick a0)), (AV.int .i64 j98)] : List AV), σ)) (
    by
     refine rf_c (p := a0.kind = 2) (fun c97 => ?_) (fun c97 => ?_)
     ·exact rf_ret rfl
     refine rf_s _ (aEq _ _ _) ?_
     refine rf_b (ω := Int) (fun j94 a => a = (([(AV.lbx (cPick a0)), (AV.int .i64 j94)] : List AV), σ)) (
       by
        refine rf_c (p := a0.kind = 3) (fun c93 => ?_) (fun c93 => ?_)
        ·exact rf_ret rfl
        exact rf_ret rfl
       ) (fun j94 a ha => ?_)
     subst ha
     exact rf_ret rfl
    ) (fun j98 a ha => ?_)
  subst ha
  refine rf_s _ (by first | rfl | (simp only [cPick_eq]; rfl)) <| rf_gt (AV.int .i64 a0.frm) (fun hg => by first | rfl | (simp only [cPick_eq]; rfl)) <| rf_gt (AV.int .i64 j98) (fun hg => by first | rfl | (simp only [cPick_eq]; rfl)) <| rf_gt (AV.bool (withinB a0.frm 1 j98)) (fun hg => by (try rw [hg]); exact (quiet_of (Within_eq a0.frm 1 j98 σ))) <| rf_gt (AV.bool (!(withinB a0.frm 1 j98))) (fun hg => by (try rw [hg]); exact rfl) <| rf_s _ (pk_and _ _) <| rf_gf (AV.bool false) (fun hg => by first | rfl | (simp only [cPick_eq]; rfl)) <| rf_gf (AV.bool false) (fun hg => by (try rw [hg]); exact rfl) <| rf_s _ (by first | rfl | (simp only [cPick_eq]; rfl)) <| rf_ggt (AV.int .i64 a0.to) (fun hg => by first | rfl | (simp only [cPick_eq]; rfl)) <| rf_ggt (AV.int .i64 j98) (fun hg => by first | rfl | (simp only [cPick_eq]; rfl)) <| rf_ggt (AV.bool (withinB a0.to 1 j98)) (fun hg => by (try rw [hg]); exact (quiet_of (Within_eq a0.to 1 j98 σ))) <| rf_ggt (AV.bool (!(withinB a0.to 1 j98))) (fun hg => by (try rw [hg]); exact rfl) <| rf_gf (AV.bool (false && (!(withinB a0.to 1 j98)))) (fun hg => by (try rw [hg]); exact (pk_and _ _)) <| rf_s _ (pk_or _ _) ?_
  refine rf_cb (c := ((false && (!(withinB a0.frm 1 j98))) || (false && (!(withinB a0.to 1 j98))))) (fun c111 => ?_) (fun c111 => ?_)
  ·exact rf_fin _ (fin_same _ _) ⟨rfl, rfl⟩
  refine rf_s _ (by first | rfl | (simp only [cPick_eq]; rfl)) <| rf_s (sl 4 cPick a0.args) (by first | rfl | (simp only [cPick_eq]; rfl)) <| rf_s _ (lenS_sl _ _ _) ?_
  refine rf_for (B := Unit) (R := Int) (fun (i108 : Nat) (s101 : Unit) v w103 => v = [(AV.int .i64 0), (AV.int .i64 (i108 : Int))] ∧ σ = w103) (fun (b102 : Unit) (q : LS) => ∃ u2 u85, q = ((AX.exit 2), ([u2, u85] : List AV), σ)) (fun (b102 : Int) (q : LS) => ∃ u85, q = (AX.ret, ([(AV.int .i64 b102), u85] : List AV), σ)) ?_ ?_ ⟨rfl, rfl⟩ ?_ ?_
  ·intro hle107 i108 e107 s101 v w103 he107 hI
   obtain ⟨rfl, rfl⟩ := hI
   refine rf_s _ (ix_lt he107) <| rf_ct <| rf_s _ (ix_for he107) <| rf_s (AV.agg (cPick e107)) (by first | rfl | (simp only [cPick_eq]; rfl)) <| rf_s (cPick e107) (by first | rfl | (simp only [cPick_eq]; rfl)) <| rf_s _ (sp_cPick _ _ rfl) <| rf_s (AV.agg (cPick e107)) (by first | rfl | (simp only [cPick_eq]; rfl)) ?_
   refine rf_o (fun r109 : Int => ((AV.int .i64 r109), σ)) (fun r109 hr109 => hq_pick_check _ _ _ hr109) (fun r109 hr109 => ?_)
   refine rf_s _ (aNe _ _ _) ?_
   refine rf_c (p := ¬ (r109 = 0)) (fun c110 => ?_) (fun c110 => ?_)
   ·exact rf_ret (rnd_ret (by simp) ⟨_, rfl⟩)
   refine rf_s _ (ix_inc he107 hle107) ?_
   exact rf_ret (rnd_go ⟨rfl, rfl⟩)
  ·intro hl s101 v w103 hI
   obtain ⟨rfl, rfl⟩ := hI
   refine rf_s _ (ix_end _) <| rf_cf ?_
   exact rf_ret ⟨by simp, ⟨_, _, rfl⟩⟩
  ·intro hl b102 q hq
   obtain ⟨u2, u85, rfl⟩ := hq
   refine rf_bt (by first | rfl | (simp only [cPick_eq]; rfl)) ?_
   exact rf_fin _ (fin_same _ _) ⟨rfl, rfl⟩
  ·intro hl b102 q hq
   obtain ⟨u85, rfl⟩ := hq
   refine rf_bf (by first | rfl | (simp only [cPick_eq]; rfl)) <| rf_bt (by first | rfl | (simp only [cPick_eq]; rfl)) ?_
   exact rf_fin _ (fin_same _ _) ⟨rfl, rfl⟩
 refine rf_s _ (aEq _ _ _) ?_
 refine rf_c (p := a0.kind = 9) (fun c137 => ?_) (fun c137 => ?_)
 ·refine rf_s _ (by first | rfl | (simp only [cPick_eq]; rfl)) <| rf_s (sl 4 cPick a0.args) (by first | rfl | (simp only [cPick_eq]; rfl)) <| rf_s _ (lenS_sl _ _ _) <| rf_s _ (aNe _ _ _) <| rf_s _ (by first | rfl | (simp only [cPick_eq]; rfl)) <| rf_s (AV.int .i64 a0.kind) (by first | rfl | (simp only [cPick_eq]; rfl)) <| rf_s _ (aEq _ _ _) ?_
  refine rf_b (ω := Bool) (fun j114 a => a = (([(AV.lbx (cPick a0)), (AV.bool j114)] : List AV), σ)) (
    by
     refine rf_c (p := a0.kind = 4) (fun c113 => ?_) (fun c113 => ?_)
     ·refine rf_s _ (by first | rfl | (simp only [cPick_eq]; rfl)) <| rf_s (sl 4 cPick a0.args) (by first | rfl | (simp only [cPick_eq]; rfl)) <| rf_s _ (lenS_sl _ _ _) <| rf_s (AV.bool (decide ((a0.args.length : Int) < 2))) (by first | rfl | (simp only [cPick_eq]; rfl)) ?_
      exact rf_ret rfl
     exact rf_ret rfl
    ) (fun j114 a ha => ?_)
  subst ha
  refine rf_gf (AV.bool true) (fun hg => by first | rfl | (simp only [cPick_eq]; rfl)) <| rf_gf (AV.bool (!true)) (fun hg => by (try rw [hg]); exact rfl) <| rf_gf (AV.bool (!true)) (fun hg => by (try rw [hg]); exact rfl) <| rf_s _ (by first | rfl | (simp only [cPick_eq]; rfl)) <| rf_ggt (AV.int .i64 a0.frm) (fun hg => by first | rfl | (simp only [cPick_eq]; rfl)) <| rf_ggt (AV.bool (decide (¬ (a0.frm = 0)))) (fun hg => by (try rw [hg]); exact (aNe _ _ _)) <| rf_gf (AV.bool ((!true) && (decide (¬ (a0.frm = 0))))) (fun hg => by (try rw [hg]); exact (pk_and _ _)) <| rf_s _ (pk_or _ _) <| rf_gf (AV.bool true) (fun hg => by first | rfl | (simp only [cPick_eq]; rfl)) <| rf_gf (AV.bool (!true)) (fun hg => by (try rw [hg]); exact rfl) <| rf_gf (AV.bool (!true)) (fun hg => by (try rw [hg]); exact rfl) <| rf_s _ (by first | rfl | (simp only [cPick_eq]; rfl)) <| rf_ggt (AV.int .i64 a0.to) (fun hg => by first | rfl | (simp only [cPick_eq]; rfl)) <| rf_ggt (AV.bool (decide (¬ (a0.to = 0)))) (fun hg => by (try rw [hg]); exact (aNe _ _ _)) <| rf_gf (AV.bool ((!true) && (decide (¬ (a0.to = 0))))) (fun hg => by (try rw [hg]); exact (pk_and _ _)) <| rf_s _ (pk_or _ _) ?_
  refine rf_cb (c := ((j114 || ((!true) && (decide (¬ (a0.frm = 0))))) || ((!true) && (decide (¬ (a0.to = 0)))))) (fun c136 => ?_) (fun c136 => ?_)
  ·exact rf_fin _ (fin_same _ _) ⟨rfl, rfl⟩
  refine rf_s _ (by first | rfl | (simp only [cPick_eq]; rfl)) <| rf_s (AV.int .i64 a0.kind) (by first | rfl | (simp only [cPick_eq]; rfl)) <| rf_s _ (aEq _ _ _) ?_
  refine rf_b (ω := Int) (fun j122 a => a = (([(AV.lbx (cPick a0)), (AV.int .i64 j122)] : List AV), σ)) (
    by
     refine rf_c (p := a0.kind = 2) (fun c121 => ?_) (fun c121 => ?_)
     ·exact rf_ret rfl
     refine rf_s _ (aEq _ _ _) ?_
     refine rf_b (ω := Int) (fun j118 a => a = (([(AV.lbx (cPick a0)), (AV.int .i64 j118)] : List AV), σ)) (
       by
        refine rf_c (p := a0.kind = 3) (fun c117 => ?_) (fun c117 => ?_)
        ·exact rf_ret rfl
        exact rf_ret rfl
       ) (fun j118 a ha => ?_)
     subst ha
     exact rf_ret rfl
    ) (fun j122 a ha => ?_)
  subst ha
  refine rf_s _ (by first | rfl | (simp only [cPick_eq]; rfl)) <| rf_gt (AV.int .i64 a0.frm) (fun hg => by first | rfl | (simp only [cPick_eq]; rfl)) <| rf_gt (AV.int .i64 j122) (fun hg => by first | rfl | (simp only [cPick_eq]; rfl)) <| rf_gt (AV.bool (withinB a0.frm 1 j122)) (fun hg => by (try rw [hg]); exact (quiet_of (Within_eq a0.frm 1 j122 σ))) <| rf_gt (AV.bool (!(withinB a0.frm 1 j122))) (fun hg => by (try rw [hg]); exact rfl) <| rf_s _ (pk_and _ _) <| rf_gf (AV.bool true) (fun hg => by first | rfl | (simp only [cPick_eq]; rfl)) <| rf_gf (AV.bool true) (fun hg => by (try rw [hg]); exact rfl) <| rf_s _ (by first | rfl | (simp only [cPick_eq]; rfl)) <| rf_ggt (AV.int .i64 a0.to) (fun hg => by first | rfl | (simp only [cPick_eq]; rfl)) <| rf_ggt (AV.int .i64 j122) (fun hg => by first | rfl | (simp only [cPick_eq]; rfl)) <| rf_ggt (AV.bool (withinB a0.to 1 j122)) (fun hg => by (try rw [hg]); exact (quiet_of (Within_eq a0.to 1 j122 σ))) <| rf_ggt (AV.bool (!(withinB a0.to 1 j122))) (fun hg => by (try rw [hg]); exact rfl) <| rf_gf (AV.bool (true && (!(withinB a0.to 1 j122)))) (fun hg => by (try rw [hg]); exact (pk_and _ _)) <| rf_s _ (pk_or _ _) ?_
  refine rf_cb (c := ((true && (!(withinB a0.frm 1 j122))) || (true && (!(withinB a0.to 1 j122))))) (fun c135 => ?_) (fun c135 => ?_)
  ·exact rf_fin _ (fin_same _ _) ⟨rfl, rfl⟩
  refine rf_s _ (by first | rfl | (simp only [cPick_eq]; rfl)) <| rf_s (sl 4 cPick a0.args) (by first | rfl | (simp only [cPick_eq]; rfl)) <| rf_s _ (lenS_sl _ _ _) ?_
  refine rf_for (B := Unit) (R := Int) (fun (i132 : Nat) (s125 : Unit) v w127 => v = [(AV.int .i64 0), (AV.int .i64 (i132 : Int))] ∧ σ = w127) (fun (b126 : Unit) (q : LS) => ∃ u2 u85, q = ((AX.exit 2), ([u2, u85] : List AV), σ)) (fun (b126 : Int) (q : LS) => ∃ u85, q = (AX.ret, ([(AV.int .i64 b126), u85] : List AV), σ)) ?_ ?_ ⟨rfl, rfl⟩ ?_ ?_
  ·intro hle131 i132 e131 s125 v w127 he131 hI
   obtain ⟨rfl, rfl⟩ := hI
   refine rf_s _ (ix_lt he131) <| rf_ct <| rf_s _ (ix_for he131) <| rf_s (AV.agg (cPick e131)) (by first | rfl | (simp only [cPick_eq]; rfl)) <| rf_s (cPick e131) (by first | rfl | (simp only [cPick_eq]; rfl)) <| rf_s _ (sp_cPick _ _ rfl) <| rf_s (AV.agg (cPick e131)) (by first | rfl | (simp only [cPick_eq]; rfl)) ?_
   refine rf_o (fun r133 : Int => ((AV.int .i64 r133), σ)) (fun r133 hr133 => hq_pick_check _ _ _ hr133) (fun r133 hr133 => ?_)
   refine rf_s _ (aNe _ _ _) ?_
   refine rf_c (p := ¬ (r133 = 0)) (fun c134 => ?_) (fun c134 => ?_)
   ·exact rf_ret (rnd_ret (by simp) ⟨_, rfl⟩)
   refine rf_s _ (ix_inc he131 hle131) ?_
   exact rf_ret (rnd_go ⟨rfl, rfl⟩)
  ·intro hl s125 v w127 hI
   obtain ⟨rfl, rfl⟩ := hI
   refine rf_s _ (ix_end _) <| rf_cf ?_
   exact rf_ret ⟨by simp, ⟨_, _, rfl⟩⟩
  ·intro hl b126 q hq
   obtain ⟨u2, u85, rfl⟩ := hq
   refine rf_bt (by first | rfl | (simp only [cPick_eq]; rfl)) ?_
   exact rf_fin _ (fin_same _ _) ⟨rfl, rfl⟩
  ·intro hl b126 q hq
   obtain ⟨u85, rfl⟩ := hq
   refine rf_bf (by first | rfl | (simp only [cPick_eq]; rfl)) <| rf_bt (by first | rfl | (simp only [cPick_eq]; rfl)) ?_
   exact rf_fin _ (fin_same _ _) ⟨rfl, rfl⟩
 exact rf_fin _ (fin_same _ _) ⟨rfl, rfl⟩

noncomputable def t_R4_parts (q_R4_parts : PickD → Int → Option (Int × Int)) (a0 : PickD) (a1 : Int) : Option (Int × Int) :=
 if 12 < a1 then
  some (1, a1)
 else
 forE a0.args (fun (i8 : Nat) e7 (s1 : (Int × Int)) => (show Option (Lr (Int × Int) (Int × Int) Unit) from
   (q_R4_parts e7 (IntKind.i64.wrap (a1 + 1))).bind fun r9 =>
   some (.go ((if 201 < IntKind.i64.wrap (s1.1 + r9.1) then 201 else IntKind.i64.wrap (s1.1 + r9.1)), (if s1.2 < r9.2 then r9.2 else s1.2))))) (fun s1 => some (s1.1, s1.2)) (1, a1) (fun b2 =>
  some (b2.1, b2.2)) (fun b2 =>
  none)
theorem h_R4_parts {rc : Nat → List AV → Heap → Option (AV × Heap)} (q_R4_parts : PickD → Int → Option (Int × Int)) (hq_R4_parts : ∀ (x0 : PickD) (x1 : Int) (s : Heap) r, q_R4_parts x0 x1 = some r → rc 46 [(AV.agg (cPick x0)), (AV.int .i64 x1)] s = some ((AV.tup [(AV.int .i64 r.1), (AV.int .i64 r.2)]), s)) {a0 : PickD} {a1 : Int} {σ : Heap} {r : (Int × Int)} (h : t_R4_parts q_R4_parts a0 a1 = some r) : A.wrap true [(.a [.k, .k, .k, (.s 4)])] .k (A.ar2 (r_R4_parts rc)) [(AV.agg (cPick a0)), (AV.int .i64 a1)] σ = some ((AV.tup [(AV.int .i64 r.1), (AV.int .i64 r.2)]), σ) := by
 refine rf_wrap2 (f := r_R4_parts rc) (y0 := (AV.agg (cPick a0))) (y1 := (AV.int .i64 a1)) (enc := fun r : (Int × Int) => (AV.tup [(AV.int .i64 r.1), (AV.int .i64 r.2)])) (T := t_R4_parts q_R4_parts a0 a1) (by first | rfl | (simp only [cPick_eq]; rfl)) (by first | rfl | (simp only [cPick_eq]; rfl)) ?_ r h
 unfold r_R4_parts t_R4_parts
 refine rf_s (cPick a0) (by first | rfl | (simp only [cPick_eq]; rfl)) <| rf_s (AV.bool (decide (12 < a1))) (by first | rfl | (simp only [cPick_eq]; rfl)) ?_
 refine rf_c (p := 12 < a1) (fun c10 => ?_) (fun c10 => ?_)
 ·exact rf_fin _ (fin_same _ _) ⟨rfl, rfl⟩
 refine rf_s (sl 4 cPick a0.args) (by first | rfl | (simp only [cPick_eq]; rfl)) <| rf_s _ (lenS_sl _ _ _) ?_
 refine rf_for (B := (Int × Int)) (R := Unit) (fun (i8 : Nat) (s1 : (Int × Int)) v w3 => v = [(AV.int .i64 s1.1), (AV.int .i64 s1.2), (AV.int .i64 (i8 : Int))] ∧ σ = w3) (fun (b2 : (Int × Int)) (q : LS) => ∃ u20, q = ((AX.exit 0), ([(AV.int .i64 b2.1), (AV.int .i64 b2.2), u20] : List AV), σ)) (fun (b2 : Unit) (q : LS) => False) ?_ ?_ ⟨rfl, rfl⟩ ?_ ?_
 ·intro hle7 i8 e7 s1 v w3 he7 hI
  obtain ⟨rfl, rfl⟩ := hI
  refine rf_s _ (ix_lt he7) <| rf_ct <| rf_s _ (ix_for he7) <| rf_s (AV.agg (cPick e7)) (by first | rfl | (simp only [cPick_eq]; rfl)) <| rf_s (cPick e7) (by first | rfl | (simp only [cPick_eq]; rfl)) <| rf_s _ (sp_cPick _ _ rfl) <| rf_s (AV.agg (cPick e7)) (by first | rfl | (simp only [cPick_eq]; rfl)) <| rf_s (AV.int .i64 (IntKind.i64.wrap (a1 + 1))) (by first | rfl | (simp only [cPick_eq]; rfl)) ?_
  refine rf_o (fun r9 : (Int × Int) => ((AV.tup [(AV.int .i64 r9.1), (AV.int .i64 r9.2)]), σ)) (fun r9 hr9 => hq_R4_parts _ _ _ _ hr9) (fun r9 hr9 => ?_)
  refine rf_s (AV.int .i64 r9.1) (by first | rfl | (simp only [cPick_eq]; rfl)) <| rf_s (AV.int .i64 r9.2) (by first | rfl | (simp only [cPick_eq]; rfl)) <| rf_s (AV.int .i64 (IntKind.i64.wrap (s1.1 + r9.1))) (by first | rfl | (simp only [cPick_eq]; rfl)) <| rf_s (AV.int .i64 (if 201 < IntKind.i64.wrap (s1.1 + r9.1) then 201 else IntKind.i64.wrap (s1.1 + r9.1))) (by first | rfl | (simp only [cPick_eq]; rfl)) <| rf_s (AV.int .i64 (if s1.2 < r9.2 then r9.2 else s1.2)) (by first | rfl | (simp only [cPick_eq]; rfl)) <| rf_s _ (ix_inc he7 hle7) ?_
  exact rf_ret (rnd_go ⟨rfl, rfl⟩)
 ·intro hl s1 v w3 hI
  obtain ⟨rfl, rfl⟩ := hI
  refine rf_s _ (ix_end _) <| rf_cf ?_
  exact rf_ret ⟨by simp, ⟨_, rfl⟩⟩
 ·intro hl b2 q hq
  obtain ⟨u20, rfl⟩ := hq
  refine rf_bt (by first | rfl | (simp only [cPick_eq]; rfl)) ?_
  exact rf_fin _ (fin_same _ _) ⟨rfl, rfl⟩
 ·intro hl b2 q hq
  exact False.elim hq

noncomputable def t_R4_used (a0 : Int) : Option (Bool × Bool × Int) :=
 if a0 = 1 then
  some (true, true, 0)
 else
 (show Option Bool from
   if a0 = 2 then
    some (decide (a0 = 2))
   else
   some (decide (a0 = 3))).bind fun j2 =>
 if j2 = true then
  some (true, false, 0)
 else
 if a0 = 4 then
  some (false, false, (-1))
 else
 if a0 = 5 then
  some (false, false, 2)
 else
 if a0 = 9 then
  some (true, true, 1)
 else
 some (false, false, 1)
theorem h_R4_used {a0 : Int} {σ : Heap} {r : (Bool × Bool × Int)} (h : t_R4_used a0 = some r) : m_R4_used [(AV.int .i64 a0)] σ = some ((AV.tup [(AV.bool r.1), (AV.bool r.2.1), (AV.int .i64 r.2.2)]), σ) := by
 refine rf_wrap1 (f := r_R4_used) (y0 := (AV.int .i64 a0)) (enc := fun r : (Bool × Bool × Int) => (AV.tup [(AV.bool r.1), (AV.bool r.2.1), (AV.int .i64 r.2.2)])) (T := t_R4_used a0) rfl rfl ?_ r h
 unfold r_R4_used t_R4_used
 refine rf_s _ (aEq _ _ _) ?_
 refine rf_c (p := a0 = 1) (fun c9 => ?_) (fun c9 => ?_)
 ·exact rf_fin _ (fin_same _ _) ⟨rfl, rfl⟩
 refine rf_s _ (aEq _ _ _) ?_
 refine rf_b (ω := Bool) (fun j2 a => a = (([(AV.bool j2)] : List AV), σ)) (
   by
    refine rf_c (p := a0 = 2) (fun c1 => ?_) (fun c1 => ?_)
    ·exact rf_ret rfl
    refine rf_s _ (aEq _ _ _) ?_
    exact rf_ret rfl
   ) (fun j2 a ha => ?_)
 subst ha
 refine rf_cb (c := j2) (fun c8 => ?_) (fun c8 => ?_)
 ·exact rf_fin _ (fin_same _ _) ⟨rfl, rfl⟩
 refine rf_s _ (aEq _ _ _) ?_
 refine rf_c (p := a0 = 4) (fun c7 => ?_) (fun c7 => ?_)
 ·exact rf_fin _ (fin_same _ _) ⟨rfl, rfl⟩
 refine rf_s _ (aEq _ _ _) ?_
 refine rf_c (p := a0 = 5) (fun c6 => ?_) (fun c6 => ?_)
 ·exact rf_fin _ (fin_same _ _) ⟨rfl, rfl⟩
 refine rf_s _ (aEq _ _ _) ?_
 refine rf_c (p := a0 = 9) (fun c5 => ?_) (fun c5 => ?_)
 ·exact rf_fin _ (fin_same _ _) ⟨rfl, rfl⟩
 exact rf_fin _ (fin_same _ _) ⟨rfl, rfl⟩

noncomputable def t_R4_checkPart (q_R4_checkPart : PickD → Option Int) (a0 : PickD) : Option Int :=
 if (!(withinB a0.kind 1 9)) = true then
  some 4
 else
 (t_R4_used a0.kind).bind fun r1 =>
 if (((((!r1.1) && (decide (¬ (a0.frm = 0)))) || ((!r1.2.1) && (decide (¬ (a0.to = 0))))) || ((decide (0 ≤ r1.2.2)) && (decide (¬ ((a0.args.length : Int) = r1.2.2))))) || ((decide (r1.2.2 < 0)) && (decide ((a0.args.length : Int) < 2)))) = true then
  some 3
 else
 (show Option Int from
   if a0.kind = 2 then
    some 999
   else
   (show Option Int from
     if a0.kind = 3 then
      some 999
     else
     some 9999).bind fun j3 =>
   some j3).bind fun j7 =>
 if ((r1.1 && (!(withinB a0.frm 1 j7))) || (r1.2.1 && (!(withinB a0.to 1 9999)))) = true then
  some 1
 else
 forE a0.args (fun (i17 : Nat) e16 (s10 : Unit) => (show Option (Lr Unit Unit Int) from
   (q_R4_checkPart e16).bind fun r18 =>
   if ¬ (r18 = 0) then
    some (.ret r18)
   else
   some (.go ()))) (fun s10 => some ()) () (fun b11 =>
  some 0) (fun b11 =>
  some b11)
theorem h_R4_checkPart {rc : Nat → List AV → Heap → Option (AV × Heap)} (q_R4_checkPart : PickD → Option Int) (hq_R4_checkPart : ∀ (x0 : PickD) (s : Heap) r, q_R4_checkPart x0 = some r → rc 48 [(AV.agg (cPick x0))] s = some ((AV.int .i64 r), s)) {a0 : PickD} {σ : Heap} {r : Int} (h : t_R4_checkPart q_R4_checkPart a0 = some r) : A.wrap true [(.a [.k, .k, .k, (.s 4)])] .k (A.ar1 (r_R4_checkPart rc)) [(AV.agg (cPick a0))] σ = some ((AV.int .i64 r), σ) := by
 refine rf_wrap1 (f := r_R4_checkPart rc) (y0 := (AV.agg (cPick a0))) (enc := fun r : Int => (AV.int .i64 r)) (T := t_R4_checkPart q_R4_checkPart a0) (by first | rfl | (simp only [cPick_eq]; rfl)) (by first | rfl | (simp only [cPick_eq]; rfl)) ?_ r h
 unfold r_R4_checkPart t_R4_checkPart
 refine rf_s (cPick a0) (by first | rfl | (simp only [cPick_eq]; rfl)) <| rf_s (AV.int .i64 a0.kind) (by first | rfl | (simp only [cPick_eq]; rfl)) <| rf_s _ (Within1_eq a0.kind 1 9 σ) <| rf_s (AV.bool (!(withinB a0.kind 1 9))) (by first | rfl | (simp only [cPick_eq]; rfl)) ?_
 refine rf_cb (c := (!(withinB a0.kind 1 9))) (fun c22 => ?_) (fun c22 => ?_)
 ·exact rf_fin _ (fin_same _ _) ⟨rfl, rfl⟩
 refine rf_s (AV.int .i64 a0.kind) (by first | rfl | (simp only [cPick_eq]; rfl)) ?_
 refine rf_o (fun r1 : (Bool × Bool × Int) => ((AV.tup [(AV.bool r1.1), (AV.bool r1.2.1), (AV.int .i64 r1.2.2)]), σ)) (fun r1 hr1 => h_R4_used hr1) (fun r1 hr1 => ?_)
 refine rf_s (AV.bool r1.1) (by first | rfl | (simp only [cPick_eq]; rfl)) <| rf_s (AV.bool r1.2.1) (by first | rfl | (simp only [cPick_eq]; rfl)) <| rf_s (AV.int .i64 r1.2.2) (by first | rfl | (simp only [cPick_eq]; rfl)) <| rf_s (AV.bool (!r1.1)) (by first | rfl | (simp only [cPick_eq]; rfl)) <| rf_gt (AV.int .i64 a0.frm) (fun hg => by first | rfl | (simp only [cPick_eq]; rfl)) <| rf_gt (AV.bool (decide (¬ (a0.frm = 0)))) (fun hg => by (try rw [hg]); exact (aNe _ _ _)) <| rf_s _ (pk_and _ _) <| rf_gf (AV.bool r1.2.1) (fun hg => by first | rfl | (simp only [cPick_eq]; rfl)) <| rf_gf (AV.bool (!r1.2.1)) (fun hg => by (try rw [hg]); exact rfl) <| rf_gf (AV.bool (!r1.2.1)) (fun hg => by (try rw [hg]); exact rfl) <| rf_ggt (AV.int .i64 a0.to) (fun hg => by first | rfl | (simp only [cPick_eq]; rfl)) <| rf_ggt (AV.bool (decide (¬ (a0.to = 0)))) (fun hg => by (try rw [hg]); exact (aNe _ _ _)) <| rf_gf (AV.bool ((!r1.2.1) && (decide (¬ (a0.to = 0))))) (fun hg => by (try rw [hg]); exact (pk_and _ _)) <| rf_s _ (pk_or _ _) <| rf_gf (AV.int .i64 r1.2.2) (fun hg => by first | rfl | (simp only [cPick_eq]; rfl)) <| rf_gf (AV.bool (decide (0 ≤ r1.2.2))) (fun hg => by (try rw [hg]); exact rfl) <| rf_gf (AV.bool (decide (0 ≤ r1.2.2))) (fun hg => by (try rw [hg]); exact rfl) <| rf_ggt (sl 4 cPick a0.args) (fun hg => by first | rfl | (simp only [cPick_eq]; rfl)) <| rf_ggt (AV.int .i64 (a0.args.length : Int)) (fun hg => by (try rw [hg]); exact (lenS_sl _ _ _)) <| rf_ggt (AV.int .i64 r1.2.2) (fun hg => by first | rfl | (simp only [cPick_eq]; rfl)) <| rf_ggt (AV.bool (decide (¬ ((a0.args.length : Int) = r1.2.2)))) (fun hg => by (try rw [hg]); exact (aNe _ _ _)) <| rf_gf (AV.bool ((decide (0 ≤ r1.2.2)) && (decide (¬ ((a0.args.length : Int) = r1.2.2))))) (fun hg => by (try rw [hg]); exact (pk_and _ _)) <| rf_s _ (pk_or _ _) <| rf_gf (AV.int .i64 r1.2.2) (fun hg => by first | rfl | (simp only [cPick_eq]; rfl)) <| rf_gf (AV.bool (decide (r1.2.2 < 0))) (fun hg => by (try rw [hg]); exact rfl) <| rf_gf (AV.bool (decide (r1.2.2 < 0))) (fun hg => by (try rw [hg]); exact rfl) <| rf_ggt (sl 4 cPick a0.args) (fun hg => by first | rfl | (simp only [cPick_eq]; rfl)) <| rf_ggt (AV.int .i64 (a0.args.length : Int)) (fun hg => by (try rw [hg]); exact (lenS_sl _ _ _)) <| rf_ggt (AV.bool (decide ((a0.args.length : Int) < 2))) (fun hg => by (try rw [hg]); exact rfl) <| rf_gf (AV.bool ((decide (r1.2.2 < 0)) && (decide ((a0.args.length : Int) < 2)))) (fun hg => by (try rw [hg]); exact (pk_and _ _)) <| rf_s _ (pk_or _ _) ?_
 refine rf_cb (c := (((((!r1.1) && (decide (¬ (a0.frm = 0)))) || ((!r1.2.1) && (decide (¬ (a0.to = 0))))) || ((decide (0 ≤ r1.2.2)) && (decide (¬ ((a0.args.length : Int) = r1.2.2))))) || ((decide (r1.2.2 < 0)) && (decide ((a0.args.length : Int) < 2))))) (fun c21 => ?_) (fun c21 => ?_)
 ·exact rf_fin _ (fin_same _ _) ⟨rfl, rfl⟩
 refine rf_s (AV.int .i64 a0.kind) (by first | rfl | (simp only [cPick_eq]; rfl)) <| rf_s _ (aEq _ _ _) ?_
 refine rf_b (ω := Int) (fun j7 a => a = (([(AV.lbx (cPick a0)), (AV.int .i64 j7)] : List AV), σ)) (
   by
    refine rf_c (p := a0.kind = 2) (fun c6 => ?_) (fun c6 => ?_)
    ·exact rf_ret rfl
    refine rf_s _ (aEq _ _ _) ?_
    refine rf_b (ω := Int) (fun j3 a => a = (([(AV.lbx (cPick a0)), (AV.int .i64 j3)] : List AV), σ)) (
      by
       refine rf_c (p := a0.kind = 3) (fun c2 => ?_) (fun c2 => ?_)
       ·exact rf_ret rfl
       exact rf_ret rfl
      ) (fun j3 a ha => ?_)
    subst ha
    exact rf_ret rfl
   ) (fun j7 a ha => ?_)
 subst ha
 refine rf_s _ (by first | rfl | (simp only [cPick_eq]; rfl)) <| rf_gt (AV.int .i64 a0.frm) (fun hg => by first | rfl | (simp only [cPick_eq]; rfl)) <| rf_gt (AV.int .i64 j7) (fun hg => by first | rfl | (simp only [cPick_eq]; rfl)) <| rf_gt (AV.bool (withinB a0.frm 1 j7)) (fun hg => by (try rw [hg]); exact (quiet_of (Within1_eq a0.frm 1 j7 σ))) <| rf_gt (AV.bool (!(withinB a0.frm 1 j7))) (fun hg => by (try rw [hg]); exact rfl) <| rf_s _ (pk_and _ _) <| rf_gf (AV.bool r1.2.1) (fun hg => by first | rfl | (simp only [cPick_eq]; rfl)) <| rf_gf (AV.bool r1.2.1) (fun hg => by (try rw [hg]); exact rfl) <| rf_s _ (by first | rfl | (simp only [cPick_eq]; rfl)) <| rf_ggt (AV.int .i64 a0.to) (fun hg => by first | rfl | (simp only [cPick_eq]; rfl)) <| rf_ggt (AV.bool (withinB a0.to 1 9999)) (fun hg => by (try rw [hg]); exact (quiet_of (Within1_eq a0.to 1 9999 σ))) <| rf_ggt (AV.bool (!(withinB a0.to 1 9999))) (fun hg => by (try rw [hg]); exact rfl) <| rf_gf (AV.bool (r1.2.1 && (!(withinB a0.to 1 9999)))) (fun hg => by (try rw [hg]); exact (pk_and _ _)) <| rf_s _ (pk_or _ _) ?_
 refine rf_cb (c := ((r1.1 && (!(withinB a0.frm 1 j7))) || (r1.2.1 && (!(withinB a0.to 1 9999))))) (fun c20 => ?_) (fun c20 => ?_)
 ·exact rf_fin _ (fin_same _ _) ⟨rfl, rfl⟩
 refine rf_s _ (by first | rfl | (simp only [cPick_eq]; rfl)) <| rf_s (sl 4 cPick a0.args) (by first | rfl | (simp only [cPick_eq]; rfl)) <| rf_s _ (lenS_sl _ _ _) ?_
 refine rf_for (B := Unit) (R := Int) (fun (i17 : Nat) (s10 : Unit) v w12 => v = [(AV.int .i64 0), (AV.int .i64 (i17 : Int))] ∧ σ = w12) (fun (b11 : Unit) (q : LS) => ∃ u2 u84, q = ((AX.exit 1), ([u2, u84] : List AV), σ)) (fun (b11 : Int) (q : LS) => ∃ u84, q = (AX.ret, ([(AV.int .i64 b11), u84] : List AV), σ)) ?_ ?_ ⟨rfl, rfl⟩ ?_ ?_
 ·intro hle16 i17 e16 s10 v w12 he16 hI
  obtain ⟨rfl, rfl⟩ := hI
  refine rf_s _ (ix_lt he16) <| rf_ct <| rf_s _ (ix_for he16) <| rf_s (AV.agg (cPick e16)) (by first | rfl | (simp only [cPick_eq]; rfl)) <| rf_s (cPick e16) (by first | rfl | (simp only [cPick_eq]; rfl)) <| rf_s _ (sp_cPick _ _ rfl) <| rf_s (AV.agg (cPick e16)) (by first | rfl | (simp only [cPick_eq]; rfl)) ?_
  refine rf_o (fun r18 : Int => ((AV.int .i64 r18), σ)) (fun r18 hr18 => hq_R4_checkPart _ _ _ hr18) (fun r18 hr18 => ?_)
  refine rf_s _ (aNe _ _ _) ?_
  refine rf_c (p := ¬ (r18 = 0)) (fun c19 => ?_) (fun c19 => ?_)
  ·exact rf_ret (rnd_ret (by simp) ⟨_, rfl⟩)
  refine rf_s _ (ix_inc he16 hle16) ?_
  exact rf_ret (rnd_go ⟨rfl, rfl⟩)
 ·intro hl s10 v w12 hI
  obtain ⟨rfl, rfl⟩ := hI
  refine rf_s _ (ix_end _) <| rf_cf ?_
  exact rf_ret ⟨by simp, ⟨_, _, rfl⟩⟩
 ·intro hl b11 q hq
  obtain ⟨u2, u84, rfl⟩ := hq
  refine rf_bt (by first | rfl | (simp only [cPick_eq]; rfl)) ?_
  exact rf_fin _ (fin_same _ _) ⟨rfl, rfl⟩
 ·intro hl b11 q hq
  obtain ⟨u84, rfl⟩ := hq
  refine rf_bf (by first | rfl | (simp only [cPick_eq]; rfl)) <| rf_bt (by first | rfl | (simp only [cPick_eq]; rfl)) ?_
  exact rf_fin _ (fin_same _ _) ⟨rfl, rfl⟩

noncomputable def t_R4_Named (q_R4_Named : PickD → Int → Option (List Int)) (a0 : PickD) (a1 : Int) : Option (List Int) :=
 (show Option (List Int) from
   if a0.kind = a1 then
    if ([] : List Int).length + ([a0.frm] : (List Int)).length ≤ 17592186044416 then
    some (([] : List Int) ++ ([a0.frm] : (List Int)))
    else none
   else
   some ([] : List Int)).bind fun j8 =>
 forE a0.args (fun (i18 : Nat) e17 (s11 : (List Int)) => (show Option (Lr (List Int) (List Int) Unit) from
   (q_R4_Named e17 a1).bind fun r19 =>
   if s11.length + r19.length ≤ 17592186044416 then
   some (.go (s11 ++ r19))
   else none)) (fun s11 => some s11) j8 (fun b12 =>
  some b12) (fun b12 =>
  none)
theorem h_R4_Named {rc : Nat → List AV → Heap → Option (AV × Heap)} (q_R4_Named : PickD → Int → Option (List Int)) (hq_R4_Named : ∀ (x0 : PickD) (x1 : Int) (s : Heap) r, q_R4_Named x0 x1 = some r → rc 50 [(AV.agg (cPick x0)), (AV.int .i64 x1)] s = some ((sl 1 cInt r), s)) {a0 : PickD} {a1 : Int} {σ : Heap} {r : (List Int)} (h : t_R4_Named q_R4_Named a0 a1 = some r) : A.wrap true [(.a [.k, .k, .k, (.s 4)])] (.s 1) (A.ar2 (r_R4_Named rc)) [(AV.agg (cPick a0)), (AV.int .i64 a1)] σ = some ((sl 1 cInt r), σ) := by
 refine rf_wrap2 (f := r_R4_Named rc) (y0 := (AV.agg (cPick a0))) (y1 := (AV.int .i64 a1)) (enc := fun r : (List Int) => (sl 1 cInt r)) (T := t_R4_Named q_R4_Named a0 a1) (by first | rfl | (simp only [cPick_eq]; rfl)) (by first | rfl | (simp only [cPick_eq]; rfl)) ?_ r h
 unfold r_R4_Named t_R4_Named
 refine rf_s (cPick a0) (by first | rfl | (simp only [cPick_eq]; rfl)) <| rf_s (AV.int .i64 a0.kind) (by first | rfl | (simp only [cPick_eq]; rfl)) <| rf_s _ (aEq _ _ _) ?_
 have hp1 : Hp σ σ [] := hp_nil σ
 have hp2 : Hp σ σ [(AV.nsl, (Ct.s 1 (List.map cInt ([] : List Int))))] := hp_nsl hp1 1
 refine rf_b (ω := (List Int)) (fun j8 a => ∃ hh0 w9, a = (([(AV.lbx (cPick a0)), hh0] : List AV), w9) ∧ Hp σ w9 [(hh0, (Ct.s 1 (List.map cInt j8)))]) (
   by
    refine rf_c (p := a0.kind = a1) (fun c7 => ?_) (fun c7 => ?_)
    ·refine rf_s (AV.int .i64 a0.frm) (by first | rfl | (simp only [cPick_eq]; rfl)) <| rf_s (sl 1 cInt ([a0.frm] : (List Int))) (by first | rfl | (simp only [cPick_eq]; rfl)) ?_
     refine rf_tq (fun hm => ?_)
     obtain ⟨h6, w3, e5, hp4⟩ := hp_appT (c := cInt) (ys := ([a0.frm] : (List Int))) (most := 17592186044416) hp2 0 rfl hm
     change Hp σ w3 [(h6, (Ct.s 1 (List.map cInt (([] : List Int) ++ ([a0.frm] : (List Int))))))] at hp4
     refine rf_s _ e5 ?_
     exact rf_ret ⟨_, _, rfl, hp4⟩
    exact rf_ret ⟨_, _, rfl, hp2⟩
   ) (fun j8 a ha => ?_)
 obtain ⟨hh0, w9, rfl, hp10⟩ := ha
 refine rf_s _ (by first | rfl | (simp only [cPick_eq]; rfl)) <| rf_s (sl 4 cPick a0.args) (by first | rfl | (simp only [cPick_eq]; rfl)) <| rf_s _ (lenS_sl _ _ _) ?_
 refine rf_for (B := (List Int)) (R := Unit) (fun (i18 : Nat) (s11 : (List Int)) v w13 => ∃ hh0, v = [hh0, (AV.int .i64 (i18 : Int))] ∧ Hp σ w13 [(hh0, (Ct.s 1 (List.map cInt s11)))]) (fun (b12 : (List Int)) (q : LS) => ∃ u20 hh0 w14, q = ((AX.exit 0), ([hh0, u20] : List AV), w14) ∧ Hp σ w14 [(hh0, (Ct.s 1 (List.map cInt b12)))]) (fun (b12 : Unit) (q : LS) => False) ?_ ?_ ⟨_, rfl, hp10⟩ ?_ ?_
 ·intro hle17 i18 e17 s11 v w13 he17 hI
  obtain ⟨hh0, rfl, hp15⟩ := hI
  refine rf_s _ (ix_lt he17) <| rf_ct <| rf_s _ (ix_for he17) <| rf_s (AV.agg (cPick e17)) (by first | rfl | (simp only [cPick_eq]; rfl)) <| rf_s (cPick e17) (by first | rfl | (simp only [cPick_eq]; rfl)) <| rf_s _ (sp_cPick _ _ rfl) <| rf_s (AV.agg (cPick e17)) (by first | rfl | (simp only [cPick_eq]; rfl)) ?_
  refine rf_o (fun r19 : (List Int) => ((sl 1 cInt r19), w13)) (fun r19 hr19 => hq_R4_Named _ _ _ _ hr19) (fun r19 hr19 => ?_)
  refine rf_tq (fun hm => ?_)
  obtain ⟨h23, w20, e22, hp21⟩ := hp_appT (c := cInt) (ys := r19) (most := 17592186044416) hp15 0 rfl hm
  change Hp σ w20 [(h23, (Ct.s 1 (List.map cInt (s11 ++ r19))))] at hp21
  refine rf_s _ e22 <| rf_s _ (ix_inc he17 hle17) ?_
  exact rf_ret (rnd_go ⟨_, rfl, hp21⟩)
 ·intro hl s11 v w13 hI
  obtain ⟨hh0, rfl, hp15⟩ := hI
  refine rf_s _ (ix_end _) <| rf_cf ?_
  exact rf_ret ⟨by simp, ⟨_, _, _, rfl, hp15⟩⟩
 ·intro hl b12 q hq
  obtain ⟨u20, hh0, w14, rfl, hp16⟩ := hq
  refine rf_bt (by first | rfl | (simp only [cPick_eq]; rfl)) ?_
  obtain ⟨ra0, fa0, fb0⟩ := fzv_own (c := cInt) (l := b12) hp16 (k := 0) rfl fz_cInt
  exact rf_fin _ (hp_fin hp16 fa0) ⟨(nn_own' fb0), rfl⟩
 ·intro hl b12 q hq
  exact False.elim hq

noncomputable def t_R4_GroupOf (a0 : (List GroupD)) (a1 : Int) : Option (GroupD × Bool) :=
 forE a0 (fun (i8 : Nat) e7 (s1 : Unit) => (show Option (Lr Unit Unit (GroupD × Bool)) from
   if e7.number = a1 then
    some (.ret (e7, true))
   else
   some (.go ()))) (fun s1 => some ()) () (fun b2 =>
  some ((⟨0, (⟨0, 0, 0, []⟩ : PickD)⟩ : GroupD), false)) (fun b2 =>
  some (b2.1, b2.2))
theorem h_R4_GroupOf {a0 : (List GroupD)} { a1 : Int} {σ : Heap} {r : (GroupD × Bool)} (h : t_R4_GroupOf a0 a1 = some r) : m_R4_GroupOf [(sl 5 cGroup a0), (AV.int .i64 a1)] σ = some ((AV.tup [(AV.agg (cGroup r.1)), (AV.bool r.2)]), σ) := by
 refine rf_wrap2 (f := r_R4_GroupOf) (y0 := (sl 5 cGroup a0)) (y1 := (AV.int .i64 a1)) (enc := fun r : (GroupD × Bool) => (AV.tup [(AV.agg (cGroup r.1)), (AV.bool r.2)])) (T := t_R4_GroupOf a0 a1) (by first | rfl | (simp only [cPick_eq]; rfl)) (by first | rfl | (simp only [cPick_eq]; rfl)) ?_ r h
 unfold r_R4_GroupOf t_R4_GroupOf
 refine rf_s _ (lenS_sl _ _ _) ?_
 refine rf_for (B := Unit) (R := (GroupD × Bool)) (fun (i8 : Nat) (s1 : Unit) v w3 => v = [(AV.lbx [(AV.int .i64 0), (AV.int .i64 0), (AV.int .i64 0), (AV.int .i64 0), AV.nsl]), (AV.bool false), (AV.int .i64 (i8 : Int))] ∧ σ = w3) (fun (b2 : Unit) (q : LS) => ∃ u5 u10, q = ((AX.exit 0), ([(AV.lbx [(AV.int .i64 0), (AV.int .i64 0), (AV.int .i64 0), (AV.int .i64 0), AV.nsl]), u5, u10] : List AV), σ)) (fun (b2 : (GroupD × Bool)) (q : LS) => ∃ u10, q = (AX.ret, ([(AV.lbx (cGroup b2.1)), (AV.bool b2.2), u10] : List AV), σ)) ?_ ?_ ⟨rfl, rfl⟩ ?_ ?_
 ·intro hle7 i8 e7 s1 v w3 he7 hI
  obtain ⟨rfl, rfl⟩ := hI
  refine rf_s _ (ix_lt he7) <| rf_ct <| rf_s _ (ix_for he7) <| rf_s (AV.agg (cGroup e7)) (by first | rfl | (simp only [cPick_eq]; rfl)) <| rf_s (cGroup e7) (by first | rfl | (simp only [cPick_eq]; rfl)) <| rf_s _ (sp_cGroup _ _ rfl) <| rf_s (AV.int .i64 e7.number) (by first | rfl | (simp only [cPick_eq]; rfl)) <| rf_s _ (aEq _ _ _) ?_
  refine rf_c (p := e7.number = a1) (fun c9 => ?_) (fun c9 => ?_)
  ·refine rf_s (AV.agg (cGroup e7)) (by first | rfl | (simp only [cPick_eq]; rfl)) <| rf_s _ (by first | rfl | (simp only [cPick_eq]; rfl)) <| rf_s (cGroup e7) (by first | rfl | (simp only [cPick_eq]; rfl)) <| rf_s _ (sp_cGroup _ _ rfl) ?_
   exact rf_ret (rnd_ret (by simp) ⟨_, rfl⟩)
  refine rf_s _ (ix_inc he7 hle7) ?_
  exact rf_ret (rnd_go ⟨rfl, rfl⟩)
 ·intro hl s1 v w3 hI
  obtain ⟨rfl, rfl⟩ := hI
  refine rf_s _ (ix_end _) <| rf_cf ?_
  exact rf_ret ⟨by simp, ⟨_, _, rfl⟩⟩
 ·intro hl b2 q hq
  obtain ⟨u5, u10, rfl⟩ := hq
  refine rf_bt (by first | rfl | (simp only [cPick_eq]; rfl)) <| rf_s _ (by first | rfl | (simp only [cPick_eq]; rfl)) <| rf_s [(AV.int .i64 0), (AV.int .i64 0), (AV.int .i64 0), (AV.int .i64 0), AV.nsl] (by first | rfl | (simp only [cPick_eq]; rfl)) <| rf_s [(AV.int .i64 0), (AV.int .i64 0), (AV.int .i64 0), (AV.int .i64 0), AV.nsl] (by first | rfl | (simp only [cPick_eq]; rfl)) <| rf_s (AV.agg [(AV.int .i64 0), (AV.int .i64 0), (AV.int .i64 0), (AV.int .i64 0), AV.nsl]) (by first | rfl | (simp only [cPick_eq]; rfl)) ?_
  exact rf_fin _ (fin_same _ _) ⟨rfl, rfl⟩
 ·intro hl b2 q hq
  obtain ⟨u10, rfl⟩ := hq
  refine rf_bf (by first | rfl | (simp only [cPick_eq]; rfl)) <| rf_bt (by first | rfl | (simp only [cPick_eq]; rfl)) <| rf_s (AV.agg (cGroup b2.1)) (by first | rfl | (simp only [cPick_eq]; rfl)) ?_
  exact rf_fin _ (fin_same _ _) ⟨rfl, rfl⟩
end Go.Proofs.Ytgjglkakhmikjaa

namespace Go.Proofs.Ytgjglkakhmikjaa
set_option linter.unusedSectionVars false
set_option linter.unusedVariables false
set_option linter.unusedSimpArgs false
theorem pSizes_snoc : ∀ (l : List PickD) (p : PickD), pSizes (l ++ [p]) = pSizes l + pSize p
 | [], p => by rw [List.nil_append, pSizes, pSizes, pSizes]; omega
 | q :: l, p => by rw [List.cons_append, pSizes, pSizes, pSizes_snoc l p]; omega
theorem pDeeps_snoc : ∀ (l : List PickD) (p : PickD), pDeeps (l ++ [p]) = max (pDeeps l) (pDeep p)
 | [], p => by rw [List.nil_append, pDeeps, pDeeps, pDeeps]; omega
 | q :: l, p => by rw [List.cons_append, pDeeps, pDeeps, pDeeps_snoc l p]; omega
theorem pSizes_take (l : List PickD) (k : Nat) : pSizes (l.take k) ≤ pSizes l := by
 have h : pSizes (l.take k ++ l.drop k) = pSizes (l.take k) + pSizes (l.drop k) := by
  rw [pSizes_sum, pSizes_sum, pSizes_sum, List.map_append, List.sum_append]
 rw [List.take_append_drop] at h
 omega
theorem pDeeps_size : ∀ l : List PickD, pDeeps l ≤ pSizes l
 | [] => by rw [pDeeps, pSizes]; omega
 | .mk k f t a :: l => by
  rw [pDeeps, pSizes, pDeep, pSize]
  have := pDeeps_size a
  have := pDeeps_size l
  omega
def partF (k f t : Int) (n : Nat) : Int :=
 if ¬ (1 ≤ k ∧ k ≤ 9) then 4
 else if (k ≤ 3 ∧ n ≠ 0) ∨ (k = 4 ∧ n < 2) ∨ (k = 5 ∧ n ≠ 2) ∨ (6 ≤ k ∧ n ≠ 1) ∨ (4 ≤ k ∧ k ≤ 8 ∧ f ≠ 0) ∨ (2 ≤ k ∧ k ≤ 8 ∧ t ≠ 0) then 3
 else if ((k = 1 ∨ k = 9) ∧ ¬ (1 ≤ f ∧ f ≤ 9999)) ∨ ((k = 2 ∨ k = 3) ∧ ¬ (1 ≤ f ∧ f ≤ 999)) ∨ ((k = 1 ∨ k = 9) ∧ ¬ (1 ≤ t ∧ t ≤ 9999)) then 1
 else 0
mutual
def pChk : PickD → Int
 | .mk k f t l => if partF k f t l.length = 0 then pChks l else partF k f t l.length
def pChks : List PickD → Int
 | [] => 0
 | p :: l => if pChk p = 0 then pChks l else pChk p
end
def checkF (p : PickD) : Int := if 200 < pSize p ∨ 12 < pDeep p then 2 else pChk p
mutual
def pNames : PickD → List (Int × Int)
 | .mk k f t l => (if k = 2 ∨ k = 3 then [(k, f)] else []) ++ pNamess l
def pNamess : List PickD → List (Int × Int)
 | [] => []
 | p :: l => pNames p ++ pNamess l
end
mutual
def rP (lv : Nat) : PickD → Nat × Nat
 | .mk _ _ _ l => if 12 < lv then (1, lv) else rPs lv l (1, lv)
def rPs (lv : Nat) : List PickD → Nat × Nat → Nat × Nat
 | [], c => c
 | p :: l, c => rPs lv l (min (c.1 + (rP (lv + 1) p).1) 201, max c.2 (rP (lv + 1) p).2)
end
mutual
theorem rP_bd (lv : Nat) (h : lv ≤ 13) : ∀ p : PickD, (rP lv p).1 ≤ 201 ∧ (rP lv p).2 ≤ 13
 | .mk _ _ _ l => by
  rw [rP]
  by_cases h12 : 12 < lv
  ·rw [if_pos h12]; exact ⟨by show 1 ≤ 201; omega, h⟩
  ·rw [if_neg h12]
   exact rPs_bd lv (by omega) l (1, lv) (by show 1 ≤ 201; omega) h
theorem rPs_bd (lv : Nat) (h : lv ≤ 12) : ∀ (l : List PickD) (c : Nat × Nat), c.1 ≤ 201 → c.2 ≤ 13 → (rPs lv l c).1 ≤ 201 ∧ (rPs lv l c).2 ≤ 13
 | [], c, h1, h2 => by rw [rPs]; exact ⟨h1, h2⟩
 | p :: l, c, h1, h2 => by
  rw [rPs]
  have := rP_bd (lv + 1) (by omega) p
  exact rPs_bd lv h l _ (by show min _ 201 ≤ 201; omega) (by show max _ _ ≤ 13; omega)
end
mutual
theorem rP_in (lv : Nat) : ∀ p : PickD, lv + pDeep p ≤ 13 → rP lv p = (min (pSize p) 201, lv + pDeep p - 1)
 | .mk k f t l, h => by
  rw [pDeep] at h
  rw [rP, if_neg (by omega), rPs_in lv l (1, lv) (by omega) (by show 1 ≤ 201; omega) (Nat.le_refl lv), pSize, pDeep]
  show (min (1 + pSizes l) 201, max lv (lv + pDeeps l)) = _
  rw [show max lv (lv + pDeeps l) = lv + (1 + pDeeps l) - 1 by omega]
theorem rPs_in (lv : Nat) : ∀ (l : List PickD) (c : Nat × Nat), lv + pDeeps l ≤ 12 → c.1 ≤ 201 → lv ≤ c.2 → rPs lv l c = (min (c.1 + pSizes l) 201, max c.2 (lv + pDeeps l))
 | [], (c1, c2), h, h1, h2 => by
  rw [rPs, pSizes, pDeeps]
  have h1 : c1 ≤ 201 := h1
  have h2 : lv ≤ c2 := h2
  show (c1, c2) = (min (c1 + 0) 201, max c2 (lv + 0))
  rw [show min (c1 + 0) 201 = c1 by omega, show max c2 (lv + 0) = c2 by omega]
 | p :: l, (c1, c2), h, h1, h2 => by
  rw [pDeeps] at h
  have h1 : c1 ≤ 201 := h1
  have h2 : lv ≤ c2 := h2
  rw [rPs, rP_in (lv + 1) p (by omega), rPs_in lv l _ (by omega) (by show min _ 201 ≤ 201; omega) (by show lv ≤ max c2 _; omega), pSizes, pDeeps]
  show (min (min (c1 + min (pSize p) 201) 201 + pSizes l) 201, max (max c2 (lv + 1 + pDeep p - 1)) (lv + pDeeps l)) = (min (c1 + (pSize p + pSizes l)) 201, max c2 (lv + max (pDeep p) (pDeeps l)))
  rw [show min (min (c1 + min (pSize p) 201) 201 + pSizes l) 201 = min (c1 + (pSize p + pSizes l)) 201 by omega, show max (max c2 (lv + 1 + pDeep p - 1)) (lv + pDeeps l) = max c2 (lv + max (pDeep p) (pDeeps l)) by omega]
end
mutual
theorem rP_out (lv : Nat) : ∀ p : PickD, lv ≤ 13 → 13 < lv + pDeep p → 12 < (rP lv p).2
 | .mk k f t l, h0, h => by
  rw [pDeep] at h
  rw [rP]
  by_cases h12 : 12 < lv
  ·rw [if_pos h12]; exact h12
  ·rw [if_neg h12]
   exact rPs_out lv l (1, lv) (by omega) (by omega)
theorem rPs_ge (lv : Nat) : ∀ (l : List PickD) (c : Nat × Nat), c.2 ≤ (rPs lv l c).2
 | [], c => by rw [rPs]; omega
 | p :: l, c => by
  rw [rPs]
  have := rPs_ge lv l (min (c.1 + (rP (lv + 1) p).1) 201, max c.2 (rP (lv + 1) p).2)
  have h2 : max c.2 (rP (lv + 1) p).2 ≤ (rPs lv l (min (c.1 + (rP (lv + 1) p).1) 201, max c.2 (rP (lv + 1) p).2)).2 := this
  omega
theorem rPs_out (lv : Nat) : ∀ (l : List PickD) (c : Nat × Nat), lv ≤ 12 → 12 < lv + pDeeps l → 12 < (rPs lv l c).2
 | [], c, h0, h => by rw [pDeeps] at h; omega
 | p :: l, c, h0, h => by
  rw [pDeeps] at h
  rw [rPs]
  by_cases hp : 12 < lv + pDeep p
  ·have h1 := rP_out (lv + 1) p (by omega) (by omega)
   have h2 := rPs_ge lv l (min (c.1 + (rP (lv + 1) p).1) 201, max c.2 (rP (lv + 1) p).2)
   have h3 : max c.2 (rP (lv + 1) p).2 ≤ (rPs lv l (min (c.1 + (rP (lv + 1) p).1) 201, max c.2 (rP (lv + 1) p).2)).2 := h2
   omega
  ·exact rPs_out lv l _ h0 (by omega)
end
theorem large_iff (p : PickD) : (200 < (rP 1 p).1 ∨ 12 < (rP 1 p).2) ↔ (200 < pSize p ∨ 12 < pDeep p) := by
 by_cases h : 1 + pDeep p ≤ 13
 ·rw [rP_in 1 p h]
  show (200 < min (pSize p) 201 ∨ 12 < 1 + pDeep p - 1) ↔ _
  omega
 ·have := rP_out 1 p (by omega) (by omega)
  omega
end Go.Proofs.Ytgjglkakhmikjaa

namespace Go.Proofs.Ytgjglkakhmikjaa
set_option linter.unusedSectionVars false
set_option linter.unusedVariables false
set_option linter.unusedSimpArgs false
def chkE {α : Type} (f : Nat → α → Int) : List α → Nat → Int
 | [], _ => 0
 | x :: l, i => if f i x = 0 then chkE f l (i + 1) else f i x
section
variable {α β γ S B R : Type}
theorem chkE_zero {f : Nat → α → Int} : ∀ (l : List α) (i : Nat), chkE f l i = 0 ↔ ∀ j x, l[j]? = some x → f (i + j) x = 0
 | [], i => by simp [chkE]
 | y :: l, i => by
  rw [chkE]
  by_cases h : f i y = 0
  ·rw [if_pos h, chkE_zero l (i + 1)]
   constructor
   ·intro k j x hx
    cases j with
    | zero => simp at hx; subst hx; exact h
    | succ j => have := k j x (by simpa using hx); rwa [show i + 1 + j = i + (j + 1) by omega] at this
   ·intro k j x hx
    have := k (j + 1) x (by simpa using hx)
    rwa [show i + (j + 1) = i + 1 + j by omega] at this
  ·rw [if_neg h]
   exact ⟨fun e => absurd e h, fun k => absurd (k 0 y rfl) h⟩
theorem forE_le {l : List α} {body : Nat → α → S → Option (Lr S B R)} {fin : S → Option B} {s : S} {K1 : B → Option γ} {K2 : R → Option γ} (hl : l.length ≤ mxl) : forE l body fin s K1 K2 = (forL body fin l 0 s).bind fun q => q.elim K1 K2 := if_pos hl
theorem forE_chk {f : Nat → α → Int} {l : List α} {body : Nat → α → Unit → Option (Lr Unit Unit Int)} {fin : Unit → Option Unit} {s : Unit} {K1 : Unit → Option γ} {K2 : Int → Option γ} (hl : l.length ≤ mxl) (hb : ∀ i x, l[i]? = some x → body i x () = some (if f i x = 0 then .go () else .ret (f i x))) (hf : fin () = some () := by rfl) : forE l body fin s K1 K2 = if chkE f l 0 = 0 then K1 () else K2 (chkE f l 0) := by
 rw [forE_le hl]
 have key : ∀ (rest pre : List α), l = pre ++ rest → forL body fin rest pre.length () = some (if chkE f rest pre.length = 0 then .inl () else .inr (chkE f rest pre.length)) := by
  intro rest
  induction rest with
  | nil => intro pre _; simp [forL, hf, chkE]
  | cons x rest ih =>
   intro pre hp
   rw [forL, hb pre.length x (by rw [hp]; simp), Option.bind_some, chkE]
   by_cases h : f pre.length x = 0
   ·simp only [h, if_true]
    have := ih (pre ++ [x]) (by simpa using hp)
    simpa using this
   ·simp only [h, if_false]
 have k := key l [] rfl
 rw [List.length_nil] at k
 rw [show s = () from rfl, k, Option.bind_some]
 split <;> rfl
theorem elim_ret (k : Int) : (if k = 0 then some (.go ()) else some (.ret k) : Option (Lr Unit Unit Int)) = some (if k = 0 then .go () else .ret k) := by split <;> rfl
theorem forE_find {p : α → Bool} {l : List α} {body : Nat → α → Unit → Option (Lr Unit Unit R)} {r : α → R} {fin : Unit → Option Unit} {s : Unit} {K1 : Unit → Option γ} {K2 : R → Option γ} (hl : l.length ≤ mxl) (hb : ∀ i x, l[i]? = some x → body i x () = some (if p x = true then .ret (r x) else .go ())) (hf : fin () = some () := by rfl) : forE l body fin s K1 K2 = match l.find? p with | some x => K2 (r x) | none => K1 () := by
 rw [forE_le hl]
 have key : ∀ (rest pre : List α), l = pre ++ rest → forL body fin rest pre.length () = some (match rest.find? p with | some x => .inr (r x) | none => .inl ()) := by
  intro rest
  induction rest with
  | nil => intro pre _; simp [forL, hf]
  | cons x rest ih =>
   intro pre hp
   rw [forL, hb pre.length x (by rw [hp]; simp), Option.bind_some, List.find?_cons]
   cases h : p x
   ·simp only [Bool.false_eq_true, if_false]
    have := ih (pre ++ [x]) (by simpa using hp)
    simpa using this
   ·simp only [if_true]
 have k := key l [] rfl
 rw [List.length_nil] at k
 rw [show s = () from rfl, k, Option.bind_some]
 cases l.find? p <;> rfl
def pv [Inhabited α] (l : List α) (i : Nat) : α := if 0 < i then l.getD (i - 1) default else default
theorem tIx_get {l : List α} {i : Int} {x : α} (h0 : 0 ≤ i) (h : l[i.toNat]? = some x) : tIx l i = some x := by rw [tIx, if_pos h0, h]
theorem prev_at [Inhabited α] {l : List α} {i : Nat} {x : α} (h : l[i]? = some x) (hl : l.length ≤ mxl) : (if decide (0 < (i : Int)) = true then tIx l (IntKind.i64.wrap ((i : Int) - 1)) else some default) = some (pv l i) := by
 have hi := (List.getElem?_eq_some_iff.1 h).1
 unfold pv
 by_cases h0 : 0 < i
 ·rw [if_pos (by simpa using h0), if_pos h0, wrap64 (by unfold inI; unfold mxl at hl; omega)]
  refine tIx_get (by omega) ?_
  have : ((i : Int) - 1).toNat = i - 1 := by omega
  rw [this, List.getD, List.getElem?_eq_getElem (by omega)]
  rfl
 ·rw [if_neg (by simpa using h0), if_neg h0]
end
def ltK (a b : KeyD) : Bool := decide (a.unit < b.unit) || (decide (a.unit = b.unit) && Op.bytesLess a.param.toList b.param.toList)
end Go.Proofs.Ytgjglkakhmikjaa

namespace Go.Proofs.Ytgjglkakhmikjaa
set_option linter.unusedSectionVars false
set_option linter.unusedVariables false
set_option linter.unusedSimpArgs false
section
variable {α S B R γ : Type}
theorem forE_st {l : List α} {body : Nat → α → S → Option (Lr S B R)} {fin : S → Option B} {s : S} {K1 : B → Option γ} {K2 : R → Option γ} (st : Nat → S) (hl : l.length ≤ mxl) (h0 : s = st 0) (hb : ∀ i x, l[i]? = some x → body i x (st i) = some (.go (st (i + 1)))) : forE l body fin s K1 K2 = (fin (st l.length)).bind K1 := by
 rw [forE_le hl]
 have key : ∀ (rest pre : List α), l = pre ++ rest → forL body fin rest pre.length (st pre.length) = (fin (st l.length)).map .inl := by
  intro rest
  induction rest with
  | nil => intro pre hp; rw [List.append_nil] at hp; subst hp; rfl
  | cons x rest ih =>
   intro pre hp
   have hx : l[pre.length]? = some x := by rw [hp]; simp
   rw [forL, hb pre.length x hx, Option.bind_some]
   have := ih (pre ++ [x]) (by simpa using hp)
   simpa using this
 have k := key l [] rfl
 rw [List.length_nil] at k
 rw [h0, k]
 cases fin (st l.length) <;> rfl
end
theorem pSizes_len : ∀ l : List PickD, l.length ≤ pSizes l
 | [] => Nat.zero_le _
 | p :: l => by rw [pSizes, pSize_eq, List.length_cons]; have := pSizes_len l; omega
theorem pDeeps_mem {p : PickD} : ∀ {l : List PickD}, p ∈ l → pDeep p ≤ pDeeps l
 | q :: l, h => by
  rw [pDeeps]
  rcases List.mem_cons.1 h with rfl | h
  ·omega
  ·have := pDeeps_mem h; omega
theorem pDeep_size (p : PickD) : pDeep p ≤ pSize p := by
 rw [pDeep_eq, pSize_eq]; have := pDeeps_size p.args; omega
theorem pDeep_pos (p : PickD) : 1 ≤ pDeep p := by rw [pDeep_eq]; omega
abbrev pMx : Nat := 4611686018427387904
theorem args_mx {p : PickD} (h : pSize p ≤ pMx) : p.args.length ≤ mxl := by
 have := pSizes_len p.args; rw [pSize_eq] at h; unfold pMx at h; unfold mxl; omega
theorem size_t : ∀ (n : Nat) (p : PickD) (σ : Heap), pDeep p ≤ n → pSize p ≤ pMx → fuel R_pick_size n 37 [.agg (cPick p)] σ = some (.tup [.int .i64 (pSize p : Int), .int .i64 (pDeep p : Int)], σ)
 | 0, p, σ, h, _ => by have := pDeep_pos p; omega
 | n + 1, p, σ, h, hs => by
  let q : PickD → Option (Int × Int) := fun p => if pDeep p ≤ n ∧ pSize p ≤ pMx then some ((pSize p : Int), (pDeep p : Int)) else none
  have hd : pDeeps p.args ≤ n := by rw [pDeep_eq] at h; omega
  have hz : 1 + pSizes p.args ≤ pMx := by rw [pSize_eq] at hs; exact hs
  have e : t_pick_size q p = some ((pSize p : Int), (pDeep p : Int)) := by
   unfold t_pick_size
   rw [forE_st (fun i => (((1 + pSizes (p.args.take i) : Nat) : Int), ((1 + pDeeps (p.args.take i) : Nat) : Int))) (args_mx hs) (by simp [pSizes, pDeeps])]
   ·simp only [List.take_length, Option.bind_some, pSize_eq p, pDeep_eq p]
   ·intro i x hx
    have hm := List.mem_of_getElem? hx
    have hxd := pDeeps_mem hm
    have hxs := pSizes_mem hm
    have hi := (List.getElem?_eq_some_iff.1 hx).1
    have ht : p.args.take (i + 1) = p.args.take i ++ [x] := by rw [List.take_add_one, hx]; rfl
    have hle := pSizes_take p.args (i + 1)
    rw [ht, pSizes_snoc] at hle
    have hdl := pDeeps_size (p.args.take i)
    have hds := pDeep_size x
    have hq : q x = some ((pSize x : Int), (pDeep x : Int)) := if_pos ⟨by omega, by omega⟩
    unfold pMx at *
    simp only [hq, Option.bind_some, ht, pSizes_snoc, pDeeps_snoc]
    rw [wrap64 (by unfold inI; omega), wrap64 (by unfold inI; omega)]
    congr 3
    ·omega
    ·split <;> omega
  have hr : fuel R_pick_size (n + 1) 37 = A.wrap true [(.a [.k, .k, .k, (.s 4)])] .k (A.ar1 (r_pick_size (fuel R_pick_size n))) := rfl
  rw [hr]
  exact h_pick_size (rc := fuel R_pick_size n) q (fun x s r hx => by
   by_cases hp : pDeep x ≤ n ∧ pSize x ≤ pMx
   ·have : q x = _ := if_pos hp
    rw [this] at hx; injection hx with hx; subst hx
    exact size_t n x s hp.1 hp.2
   ·have : q x = none := if_neg hp
    rw [this] at hx; cases hx) e
theorem pChks_chkE : ∀ (l : List PickD) (i : Nat), chkE (fun _ x => pChk x) l i = pChks l
 | [], i => by rw [chkE, pChks]
 | p :: l, i => by rw [chkE, pChks, pChks_chkE l (i + 1)]
theorem chk_loop {q : PickD → Option Int} {l : List PickD} (hl : l.length ≤ mxl) (hq : ∀ x ∈ l, q x = some (pChk x)) :
  forE l (fun (i : Nat) e (s : Unit) => (show Option (Lr Unit Unit Int) from (q e).bind fun r => if ¬ (r = 0) then some (.ret r) else some (.go ()))) (fun s => some ()) () (fun b => some 0) (fun b => some b) = some (pChks l) := by
 rw [forE_chk (f := fun _ x => pChk x) hl (fun i x hx => by
  simp only [hq x (List.mem_of_getElem? hx), Option.bind_some]
  by_cases h : pChk x = 0 <;> simp [h]) rfl, pChks_chkE]
 split
 ·rename_i h; rw [h]
 ·rfl
def pkA (k f t : Int) (n : Nat) : Prop := (k ≤ 3 ∧ n ≠ 0) ∨ (k = 4 ∧ n < 2) ∨ (k = 5 ∧ n ≠ 2) ∨ (6 ≤ k ∧ n ≠ 1) ∨ (4 ≤ k ∧ k ≤ 8 ∧ f ≠ 0) ∨ (2 ≤ k ∧ k ≤ 8 ∧ t ≠ 0)
def pkB (k f t : Int) : Prop := ((k = 1 ∨ k = 9) ∧ ¬ (1 ≤ f ∧ f ≤ 9999)) ∨ ((k = 2 ∨ k = 3) ∧ ¬ (1 ≤ f ∧ f ≤ 999)) ∨ ((k = 1 ∨ k = 9) ∧ ¬ (1 ≤ t ∧ t ≤ 9999))
theorem pk_in {k f t : Int} {n : Nat} {L : Int} {A B : Prop} [Decidable A] [Decidable B] {X : Option Int} (hk : 1 ≤ k ∧ k ≤ 9) (hA : A ↔ pkA k f t n) (hB : B ↔ pkB k f t) (hX : X = if A then some 3 else if B then some 1 else some L) : X = some (if partF k f t n = 0 then L else partF k f t n) := by
 rw [hX]; unfold pkA at hA; unfold pkB at hB
 by_cases a : A
 ·have e : partF k f t n = 3 := by unfold partF; rw [if_neg (fun h => h hk), if_pos (hA.1 a)]
  rw [if_pos a, e]; rfl
 ·by_cases b : B
  ·have e : partF k f t n = 1 := by unfold partF; rw [if_neg (fun h => h hk), if_neg (fun h => a (hA.2 h)), if_pos (hB.1 b)]
   rw [if_neg a, if_pos b, e]; rfl
  ·have e : partF k f t n = 0 := by unfold partF; rw [if_neg (fun h => h hk), if_neg (fun h => a (hA.2 h)), if_neg (fun h => b (hB.2 h))]
   rw [if_neg a, if_neg b, e]; rfl
theorem pChk_eq (p : PickD) : pChk p = if partF p.kind p.frm p.to p.args.length = 0 then pChks p.args else partF p.kind p.frm p.to p.args.length := by cases p; rw [pChk]; rfl
theorem partF_out {k f t : Int} {n : Nat} (hk : ¬ (1 ≤ k ∧ k ≤ 9)) : partF k f t n = 4 := by unfold partF; rw [if_pos hk]
theorem check_k {q : PickD → Option Int} (p : PickD) (hl : p.args.length ≤ mxl) (hq : ∀ x ∈ p.args, q x = some (pChk x)) : t_pick_check q p = some (pChk p) := by
 have hL := chk_loop hl hq
 unfold t_pick_check
 rw [pChk_eq]
 simp only [hL]
 generalize pChks p.args = L
 clear hL hq
 generalize p.args.length = n at *
 generalize p.kind = k
 generalize p.frm = f
 generalize p.to = t
 by_cases hk : 1 ≤ k ∧ k ≤ 9
 ·have hk' : k = 1 ∨ k = 2 ∨ k = 3 ∨ k = 4 ∨ k = 5 ∨ k = 6 ∨ k = 7 ∨ k = 8 ∨ k = 9 := by omega
  rcases hk' with rfl | rfl | rfl | rfl | rfl | rfl | rfl | rfl | rfl <;>
   (simp only [withinB, reduceIte, Option.bind_some, Int.reduceEq, decide_true, decide_false, Bool.false_eq_true, Bool.not_true, Bool.not_false, Bool.true_and, Bool.false_and, Bool.or_false, Bool.false_or, Bool.or_eq_true, decide_eq_true_eq, Bool.not_eq_true', decide_eq_false_iff_not]; (first | refine pk_in (by decide) ?_ ?_ rfl | refine pk_in (B := False) (by decide) ?_ ?_ rfl) <;> (simp [pkA, pkB]; try omega))
 ·rw [partF_out hk]
  have n1 : ¬ k = 1 := by omega
  have n2 : ¬ k = 2 := by omega
  have n3 : ¬ k = 3 := by omega
  have n4 : ¬ k = 4 := by omega
  have n5 : ¬ k = 5 := by omega
  have n6 : ¬ k = 6 := by omega
  have n7 : ¬ k = 7 := by omega
  have n8 : ¬ k = 8 := by omega
  have n9 : ¬ k = 9 := by omega
  simp [n1, n2, n3, n4, n5, n6, n7, n8, n9]
theorem check4_k {q : PickD → Option Int} (p : PickD) (hl : p.args.length ≤ mxl) (hq : ∀ x ∈ p.args, q x = some (pChk x)) : t_R4_checkPart q p = some (pChk p) := by
 have hL := chk_loop hl hq
 unfold t_R4_checkPart t_R4_used
 rw [pChk_eq]
 simp only [hL]
 generalize pChks p.args = L
 clear hL hq
 generalize p.args.length = n at *
 generalize p.kind = k
 generalize p.frm = f
 generalize p.to = t
 by_cases hk : 1 ≤ k ∧ k ≤ 9
 ·have hk' : k = 1 ∨ k = 2 ∨ k = 3 ∨ k = 4 ∨ k = 5 ∨ k = 6 ∨ k = 7 ∨ k = 8 ∨ k = 9 := by omega
  rcases hk' with rfl | rfl | rfl | rfl | rfl | rfl | rfl | rfl | rfl <;>
   (simp only [withinB, reduceIte, Option.bind_some, Int.reduceEq, Int.reduceLE, Int.reduceLT, Int.reduceNeg, and_self, decide_true, decide_false, Bool.false_eq_true, Bool.not_true, Bool.not_false, Bool.true_and, Bool.false_and, Bool.or_false, Bool.false_or, Bool.or_eq_true, decide_eq_true_eq, Bool.not_eq_true', decide_eq_false_iff_not]; (first | refine pk_in (by decide) ?_ ?_ rfl | refine pk_in (B := False) (by decide) ?_ ?_ rfl) <;> (simp [pkA, pkB]; try omega))
 ·rw [partF_out hk]
  have : withinB k 1 9 = false := decide_eq_false hk
  simp [this]
theorem args_d {p : PickD} {n : Nat} (h : pDeep p ≤ n + 1) : pDeeps p.args ≤ n := by rw [pDeep_eq] at h; omega
theorem check_t : ∀ (n : Nat) (p : PickD) (σ : Heap), pDeep p ≤ n → pSize p ≤ pMx → fuel R_pick_check n 38 [.agg (cPick p)] σ = some (.int .i64 (pChk p), σ)
 | 0, p, σ, h, _ => by have := pDeep_pos p; omega
 | n + 1, p, σ, h, hs => by
  let q : PickD → Option Int := fun p => if pDeep p ≤ n ∧ pSize p ≤ pMx then some (pChk p) else none
  have hd := args_d h
  have e : t_pick_check q p = some (pChk p) := check_k p (args_mx hs) fun x hx => if_pos ⟨Nat.le_trans (pDeeps_mem hx) hd, by have := pSize_arg hx; omega⟩
  have hr : fuel R_pick_check (n + 1) 38 = A.wrap true [(.a [.k, .k, .k, (.s 4)])] .k (A.ar1 (r_pick_check (fuel R_pick_check n))) := rfl
  rw [hr]
  exact h_pick_check (rc := fuel R_pick_check n) q (fun x s r hx => by
   by_cases hp : pDeep x ≤ n ∧ pSize x ≤ pMx
   ·have : q x = _ := if_pos hp
    rw [this] at hx; injection hx with hx; subst hx
    exact check_t n x s hp.1 hp.2
   ·have : q x = none := if_neg hp
    rw [this] at hx; cases hx) e
theorem checkPart_t : ∀ (n : Nat) (p : PickD) (σ : Heap), pDeep p ≤ n → pSize p ≤ pMx → fuel R_R4_checkPart n 48 [.agg (cPick p)] σ = some (.int .i64 (pChk p), σ)
 | 0, p, σ, h, _ => by have := pDeep_pos p; omega
 | n + 1, p, σ, h, hs => by
  let q : PickD → Option Int := fun p => if pDeep p ≤ n ∧ pSize p ≤ pMx then some (pChk p) else none
  have hd := args_d h
  have e : t_R4_checkPart q p = some (pChk p) := check4_k p (args_mx hs) fun x hx => if_pos ⟨Nat.le_trans (pDeeps_mem hx) hd, by have := pSize_arg hx; omega⟩
  have hr : fuel R_R4_checkPart (n + 1) 48 = A.wrap true [(.a [.k, .k, .k, (.s 4)])] .k (A.ar1 (r_R4_checkPart (fuel R_R4_checkPart n))) := rfl
  rw [hr]
  exact h_R4_checkPart (rc := fuel R_R4_checkPart n) q (fun x s r hx => by
   by_cases hp : pDeep x ≤ n ∧ pSize x ≤ pMx
   ·have : q x = _ := if_pos hp
    rw [this] at hx; injection hx with hx; subst hx
    exact checkPart_t n x s hp.1 hp.2
   ·have : q x = none := if_neg hp
    rw [this] at hx; cases hx) e
theorem rPs_snoc (lv : Nat) : ∀ (l : List PickD) (x : PickD) (c : Nat × Nat), rPs lv (l ++ [x]) c = (min ((rPs lv l c).1 + (rP (lv + 1) x).1) 201, max (rPs lv l c).2 (rP (lv + 1) x).2)
 | [], x, c => by rw [List.nil_append, rPs, rPs, rPs]
 | p :: l, x, c => by rw [List.cons_append, rPs, rPs, rPs_snoc lv l x]
theorem rP_eq (lv : Nat) (p : PickD) : rP lv p = if 12 < lv then (1, lv) else rPs lv p.args (1, lv) := by cases p; rw [rP]; rfl
theorem parts_t : ∀ (n : Nat) (p : PickD) (lv : Nat) (σ : Heap), lv ≤ 13 → 14 ≤ n + lv → pSize p ≤ pMx → fuel R_R4_parts n 46 [.agg (cPick p), .int .i64 (lv : Int)] σ = some (.tup [.int .i64 ((rP lv p).1 : Int), .int .i64 ((rP lv p).2 : Int)], σ)
 | 0, p, lv, σ, h, h2, _ => by omega
 | n + 1, p, lv, σ, h, h2, hs => by
  let q : PickD → Int → Option (Int × Int) := fun p i => if 0 ≤ i ∧ i ≤ 13 ∧ 14 ≤ n + i.toNat ∧ pSize p ≤ pMx then some (((rP i.toNat p).1 : Int), ((rP i.toNat p).2 : Int)) else none
  have e : t_R4_parts q p (lv : Int) = some (((rP lv p).1 : Int), ((rP lv p).2 : Int)) := by
   unfold t_R4_parts
   rw [rP_eq]
   by_cases h12 : 12 < lv
   ·rw [if_pos (by omega), if_pos h12]; rfl
   ·rw [if_neg (by omega), if_neg h12]
    rw [forE_st (fun i => (((rPs lv (p.args.take i) (1, lv)).1 : Int), ((rPs lv (p.args.take i) (1, lv)).2 : Int))) (args_mx hs) (by simp [rPs])]
    ·simp only [List.take_length, Option.bind_some]
    ·intro i x hx
     have hm := List.mem_of_getElem? hx
     have ht : p.args.take (i + 1) = p.args.take i ++ [x] := by rw [List.take_add_one, hx]; rfl
     have b1 := rPs_bd lv (by omega) (p.args.take i) (1, lv) (by show 1 ≤ 201; omega) (by show lv ≤ 13; omega)
     have b2 := rP_bd (lv + 1) (by omega) x
     have hq : q x (IntKind.i64.wrap ((lv : Int) + 1)) = some (((rP (lv + 1) x).1 : Int), ((rP (lv + 1) x).2 : Int)) := by
      rw [wrap64 (by unfold inI; omega)]
      have ee : ((lv : Int) + 1).toNat = lv + 1 := by omega
      have := pSize_arg hm
      refine (if_pos ⟨by omega, by omega, by omega, by omega⟩).trans ?_
      rw [ee]
     simp only [hq, Option.bind_some, ht, rPs_snoc]
     rw [wrap64 (by unfold inI; omega)]
     congr 3
     ·split <;> omega
     ·split <;> omega
  have hr : fuel R_R4_parts (n + 1) 46 = A.wrap true [(.a [.k, .k, .k, (.s 4)])] .k (A.ar2 (r_R4_parts (fuel R_R4_parts n))) := rfl
  rw [hr]
  exact h_R4_parts (rc := fuel R_R4_parts n) q (fun x i s r hx => by
   by_cases hp : 0 ≤ i ∧ i ≤ 13 ∧ 14 ≤ n + i.toNat ∧ pSize x ≤ pMx
   ·have : q x i = _ := if_pos hp
    rw [this] at hx; injection hx with hx; subst hx
    have := parts_t n x i.toNat s (by omega) hp.2.2.1 hp.2.2.2
    rwa [show ((i.toNat : Nat) : Int) = i by omega] at this
   ·have : q x i = none := if_neg hp
    rw [this] at hx; cases hx) e
abbrev apM : Nat := 17592186044416
mutual
def pNamed (k : Int) : PickD → List Int
 | .mk kd f t l => (if kd = k then [f] else []) ++ pNameds k l
def pNameds (k : Int) : List PickD → List Int
 | [] => []
 | p :: l => pNamed k p ++ pNameds k l
end
theorem pNamed_eq (k : Int) (p : PickD) : pNamed k p = (if p.kind = k then [p.frm] else []) ++ pNameds k p.args := by cases p; rw [pNamed]; rfl
theorem pNameds_snoc (k : Int) : ∀ (l : List PickD) (x : PickD), pNameds k (l ++ [x]) = pNameds k l ++ pNamed k x
 | [], x => by simp [pNameds]
 | p :: l, x => by rw [List.cons_append, pNameds, pNameds, pNameds_snoc k l x, List.append_assoc]
mutual
theorem pNamed_len (k : Int) : ∀ p : PickD, (pNamed k p).length ≤ pSize p
 | .mk kd f t l => by
  rw [pNamed, pSize, List.length_append]
  have := pNameds_len k l
  split <;> simp <;> omega
theorem pNameds_len (k : Int) : ∀ l : List PickD, (pNameds k l).length ≤ pSizes l
 | [] => by simp [pNameds, pSizes]
 | p :: l => by
  rw [pNameds, pSizes, List.length_append]
  have := pNamed_len k p; have := pNameds_len k l; omega
end
theorem Named_t : ∀ (n : Nat) (p : PickD) (k : Int) (σ : Heap), pDeep p ≤ n → pSize p ≤ apM → fuel R_R4_Named n 50 [.agg (cPick p), .int .i64 k] σ = some (sl 1 cInt (pNamed k p), σ)
 | 0, p, k, σ, h, _ => by have := pDeep_pos p; omega
 | n + 1, p, k, σ, h, hs => by
  let q : PickD → Int → Option (List Int) := fun p k => if pDeep p ≤ n ∧ pSize p ≤ apM then some (pNamed k p) else none
  have hd := args_d h
  have e : t_R4_Named q p k = some (pNamed k p) := by
   unfold t_R4_Named
   have hlen : p.args.length ≤ mxl := args_mx (by unfold pMx; unfold apM at hs; omega)
   have hz : 1 + pSizes p.args ≤ apM := by rw [pSize_eq] at hs; exact hs
   have e0 : (show Option (List Int) from if p.kind = k then if ([] : List Int).length + ([p.frm] : (List Int)).length ≤ 17592186044416 then some (([] : List Int) ++ ([p.frm] : (List Int))) else none else some ([] : List Int)) = some (if p.kind = k then [p.frm] else []) := by
    by_cases hk : p.kind = k <;> simp [hk]
   rw [e0, Option.bind_some, forE_st (fun i => (if p.kind = k then [p.frm] else []) ++ pNameds k (p.args.take i)) hlen (by simp [pNameds])]
   ·simp only [List.take_length, Option.bind_some, pNamed_eq k p]
   ·intro i x hx
    have hm := List.mem_of_getElem? hx
    have ht : p.args.take (i + 1) = p.args.take i ++ [x] := by rw [List.take_add_one, hx]; rfl
    have hle := pSizes_take p.args (i + 1)
    rw [ht, pSizes_snoc] at hle
    have l1 := pNameds_len k (p.args.take i)
    have l2 := pNamed_len k x
    have := pDeeps_mem hm
    have hq : q x k = some (pNamed k x) := if_pos ⟨by omega, by omega⟩
    simp only [hq, Option.bind_some, ht, pNameds_snoc, List.append_assoc]
    rw [if_pos]
    simp only [List.length_append]
    unfold apM at hz
    split <;> simp <;> omega
  have hr : fuel R_R4_Named (n + 1) 50 = A.wrap true [(.a [.k, .k, .k, (.s 4)])] (.s 1) (A.ar2 (r_R4_Named (fuel R_R4_Named n))) := rfl
  rw [hr]
  exact h_R4_Named (rc := fuel R_R4_Named n) q (fun x i s r hx => by
   by_cases hp : pDeep x ≤ n ∧ pSize x ≤ apM
   ·have : q x i = _ := if_pos hp
    rw [this] at hx; injection hx with hx; subst hx
    exact Named_t n x i s hp.1 hp.2
   ·have : q x i = none := if_neg hp
    rw [this] at hx; cases hx) e
end Go.Proofs.Ytgjglkakhmikjaa

namespace Go.Proofs.Ytgjglkakhmikjaa
set_option linter.unusedSectionVars false
set_option linter.unusedVariables false
set_option linter.unusedSimpArgs false
def HP := (Nat → Option Blk) → Prop
namespace HP
set_option linter.unusedSectionVars false
def blk (id : Nat) (b : Blk) : HP := fun h => ∀ i, h i = if i = id then some b else none
def star (P Q : HP) : HP := fun h => ∃ f g, P f ∧ Q g ∧ (∀ i, f i = none ∨ g i = none) ∧ ∀ i, h i = (f i).or (g i)
def pr (p : Prop) : HP := fun h => p ∧ ∀ i, h i = none
instance : Mul HP := ⟨star⟩
theorem star_comm (P Q : HP) : P * Q = Q * P := by
 have key : ∀ P Q : HP, ∀ h, (P * Q) h → (Q * P) h := by
  rintro P Q h ⟨f, g, hf, hg, hd, hh⟩
  refine ⟨g, f, hg, hf, fun i => (hd i).symm, fun i => ?_⟩
  rw [hh i]
  rcases hd i with e | e <;> rw [e] <;> simp
 funext h
 exact propext ⟨key P Q h, key Q P h⟩
theorem star_assoc (P Q R : HP) : P * Q * R = P * (Q * R) := by
 funext h
 apply propext
 constructor
 ·rintro ⟨f, g, ⟨f1, f2, h1, h2, hd1, hf⟩, hg, hd, hh⟩
  refine ⟨f1, fun i => (f2 i).or (g i), h1, ⟨f2, g, h2, hg, fun i => ?_, fun i => rfl⟩, fun i => ?_, fun i => ?_⟩
  ·have := hd i; rw [hf i] at this
   rcases this with e | e
   ·cases h : f1 i <;> simp [h] at e <;> exact .inl e
   ·exact .inr e
  ·have a := hd i; have b := hd1 i; rw [hf i] at a
   rcases b with b | b
   ·exact .inl b
   ·rcases a with a | a
    ·cases h : f1 i <;> simp [h] at a; exact .inl rfl
    ·exact .inr (show (f2 i).or (g i) = none by rw [b, a]; rfl)
  ·rw [hh i, hf i]; cases f1 i <;> simp
 ·rintro ⟨f, g, hf, ⟨g1, g2, h1, h2, hd1, hg⟩, hd, hh⟩
  refine ⟨fun i => (f i).or (g1 i), g2, ⟨f, g1, hf, h1, fun i => ?_, fun i => rfl⟩, h2, fun i => ?_, fun i => ?_⟩
  ·have := hd i; rw [hg i] at this
   rcases this with e | e
   ·exact .inl e
   ·cases h : g1 i <;> simp [h] at e; exact .inr rfl
  ·have a := hd i; have b := hd1 i; rw [hg i] at a
   rcases b with b | b
   ·rcases a with a | a
    ·exact .inl (show (f i).or (g1 i) = none by rw [a, b]; rfl)
    ·rw [b] at a; exact .inr (by simpa using a)
   ·exact .inr b
  ·show h i = ((f i).or (g1 i)).or (g2 i)
   rw [hh i, hg i]; cases f i <;> simp
instance : Std.Associative (α := HP) (· * ·) := ⟨star_assoc⟩
instance : Std.Commutative (α := HP) (· * ·) := ⟨star_comm⟩
end HP
open HP
section
variable {B : Blk → Prop} {σ0 σ : Heap} {P Q R : HP} {id : Nat} {b b' : Blk}
end
section
variable {α : Type} {E : List AV → α → HP} {B : Blk → Prop} {σ0 σ : Heap} {R : HP}
def fl (c : α → List AV) : List AV → α → HP := fun e x => pr (e = c x)
variable {sz : Nat} {v : AV} {l : List α}
end
end Go.Proofs.Ytgjglkakhmikjaa

namespace Go.Proofs.Ytgjglkakhmikjaa
set_option linter.unusedSectionVars false
set_option linter.unusedVariables false
set_option linter.unusedSimpArgs false
theorem idxI_any {α : Type} (p : α → Bool) (l : List α) : decide (0 ≤ idxI p l) = l.any p := by
 rcases idxI_cases p l with ⟨h1, h2, _⟩ | ⟨k, x, h1, h2, h3, _⟩
 ·rw [h1, Bool.eq_iff_iff]
  simp only [decide_eq_true_eq, List.any_eq_true]
  exact ⟨fun h => by omega, fun ⟨x, hx, hp⟩ => by rw [h2 x hx] at hp; cases hp⟩
 ·rw [h3, Bool.eq_iff_iff]
  simp only [decide_eq_true_eq, List.any_eq_true]
  exact ⟨fun _ => ⟨x, List.mem_of_getElem? h1, h2⟩, fun _ => by omega⟩
theorem m_slices_Index_int_eq (l : List Int) (hl : l.length ≤ mxl) (k : Int) (σ : Heap) : m_slices_Index_int [sl 1 cInt l, .int .i64 k] σ = some (.int .i64 (idxI (fun x => decide (k = x)) l), σ) := by
 refine wrap_eq rfl ?_ rfl
 show r_slices_Index_int (sl 1 cInt l) (.int .i64 k) σ = _
 unfold r_slices_Index_int
 simp only [MSb, reduceCtorEq]
 refine (loop_pre (S := Unit) (R := Int) l (fun pre x _ => if (fun x => decide (k = x)) x = true then .out (pre.length : Int) else .go ())
  (fun pre _ => [.int .i64 0, .int .i64 (pre.length : Int)]) (fun _ _ => σ) (fun _ => (.exit 0, [.int .i64 0, .int .i64 (l.length : Int)], σ)) (fun pre _ r => (.ret, [.int .i64 (pre.length : Int), .int .i64 (pre.length : Int)], σ))
  (fun _ _ => True) () (fun _ => some (AV.int .i64 (-1), σ)) (fun r => some (AV.int .i64 r, σ)) ?_ ?_ trivial (fun _ _ _ _ _ _ _ _ => trivial) ?_ ?_).trans ?_
 ·intro pre x rest u hl' _
  have hx := pre_get hl'
  have hlt := pre_lt hl'
  have hi1 : IntKind.i64.wrap ((pre.length : Int) + 1) = (pre.length : Int) + 1 := wrap64 (by unfold inI; unfold mxl at hl; omega)
  have hlt' : (pre.length : Int) < (l.length : Int) := by omega
  have hia := iaddr_sl 1 cInt l hx
  simp only [MSb, reduceCtorEq, hlt', hia, hi1]
  by_cases hk : k = x <;> simp [MSb, reduceCtorEq, hk]
 ·intro u _; simp only [MSb, reduceCtorEq, Int.lt_irrefl]
 ·intro u _; simp only [MSb, reduceCtorEq]
 ·intro pre x rest s q hl' _ hb
  have : q = (pre.length : Int) := by
   by_cases hk : k = x
   ·simp [hk] at hb; exact hb.symm
   ·simp [hk] at hb
  simp only [MSb, reduceCtorEq, this]
 ·rw [idxI_run (fun x => decide (k = x)) _ _ l [] (by simp)]
  simp only [List.nil_append]
  split
  ·rename_i h; rw [h]
  ·rfl
theorem m_slices_Contains_int_eq (l : List Int) (hl : l.length ≤ mxl) (k : Int) (σ : Heap) : m_slices_Contains_int [sl 1 cInt l, .int .i64 k] σ = some (.bool (l.any fun x => decide (k = x)), σ) := by
 refine wrap_eq rfl ?_ rfl
 show r_slices_Contains_int (sl 1 cInt l) (.int .i64 k) σ = _
 unfold r_slices_Contains_int
 simp only [MSb, reduceCtorEq, m_slices_Index_int_eq l hl k σ]
 refine congrArg some (congrArg (fun b => (AV.bool b, σ)) ?_)
 exact idxI_any _ l
end Go.Proofs.Ytgjglkakhmikjaa

namespace Go.Proofs.Ytgjglkakhmikjaa
set_option linter.unusedSectionVars false
set_option linter.unusedSimpArgs false
set_option linter.unusedVariables false
abbrev SmK := { k : KeyD // 0 ≤ k.unit ∧ k.unit ≤ 1000000 }
instance : Inhabited SmK := ⟨⟨⟨0, ⟨#[]⟩⟩, by decide⟩⟩
end Go.Proofs.Ytgjglkakhmikjaa

namespace Go.Proofs.Ytgjglkakhmikjaa
set_option linter.unusedSectionVars false
set_option linter.unusedVariables false
set_option linter.unusedSimpArgs false
def srtM (l : List MoveD) : Prop := l.Pairwise fun a b => ltK a.key b.key = true
structure Good (l : List CueD) : Prop where
 len : l.length ≤ 300
 num : ∀ c ∈ l, 1 ≤ c.number ∧ c.number ≤ 9999999
 srt : l.Pairwise fun a b => a.number < b.number
 mv : ∀ c ∈ l, c.moves.length ≤ 2000 ∧ srtM c.moves
 pts : ∀ c ∈ l, c.curve.points.length ≤ 20
end Go.Proofs.Ytgjglkakhmikjaa

namespace Go.Proofs.Ytgjglkakhmikjaa
set_option linter.unusedSectionVars false
set_option linter.unusedVariables false
set_option linter.unusedSimpArgs false
structure GoodN (l : List CueD) : Prop where
 len : l.length ≤ 300
 num : ∀ c ∈ l, 1 ≤ c.number ∧ c.number ≤ 9999999
 srt : l.Pairwise fun a b => a.number < b.number
section
variable {α R γ S B : Type}
end
end Go.Proofs.Ytgjglkakhmikjaa

namespace Go.Proofs.Ytgjglkakhmikjaa
set_option linter.unusedSectionVars false
set_option linter.unusedVariables false
set_option linter.unusedSimpArgs false
open HP
def Lt (σ : Heap) (sh : Sh) (v t : AV) : Prop := (∃ v', A.frz σ 0 8 v = some v' ∧ A.own v' = false ∧ A.nn sh v' = A.nn sh t) ∧ A.own t = false ∧ (A.own v = false → A.nn sh v = A.nn sh t)
def LtL (σ : Heap) : List Sh → List AV → List AV → Prop
 | _, [], [] => True
 | [], a :: aas, t :: ts => Lt σ .k a t ∧ LtL σ [] aas ts
 | s :: ss, a :: aas, t :: ts => Lt σ s a t ∧ LtL σ ss aas ts
 | _, _, _ => False
theorem nn_k (v : AV) : A.nn .k v = v := by simp [A.nn]
theorem ltL {σ : Heap} : ∀ {ss : List Sh} {aas ts : List AV}, LtL σ ss aas ts → (∃ aas', A.frzL σ 0 8 aas = some aas' ∧ aas'.any A.own = false ∧ A.nnL ss aas' = A.nnL ss ts) ∧ ts.any A.own = false ∧ (aas.any A.own = false → A.nnL ss aas = A.nnL ss ts)
 | ss, [], [], _ => ⟨⟨[], by simp [A.frzL], rfl, rfl⟩, rfl, fun _ => rfl⟩
 | [], a :: aas, t :: ts, h => by
  obtain ⟨⟨⟨v', h1, h2, h3⟩, h4, h5⟩, h6⟩ := h
  obtain ⟨⟨aas', k1, k2, k3⟩, k4, k5⟩ := ltL h6
  rw [nn_k, nn_k] at h3
  simp only [A.nnL] at k3 k5
  refine ⟨⟨v' :: aas', by simp [A.frzL, h1, k1], by simp [h2, k2], by simp [A.nnL, h3, k3]⟩, by simp [h4, k4], fun h => ?_⟩
  simp only [List.any_cons, Bool.or_eq_false_iff] at h
  have := h5 h.1
  rw [nn_k, nn_k] at this
  simp [A.nnL, this, k5 h.2]
 | s :: ss, a :: aas, t :: ts, h => by
  obtain ⟨⟨⟨v', h1, h2, h3⟩, h4, h5⟩, h6⟩ := h
  obtain ⟨⟨aas', k1, k2, k3⟩, k4, k5⟩ := ltL h6
  refine ⟨⟨v' :: aas', by simp [A.frzL, h1, k1], by simp [h2, k2], by simp [A.nnL, h3, k3]⟩, by simp [h4, k4], fun h => ?_⟩
  simp only [List.any_cons, Bool.or_eq_false_iff] at h
  simp [A.nnL, h5 h.1, k5 h.2]
 | _, [], _ :: _, h => by cases h
 | [], _ :: _, [], h => by cases h
 | _ :: _, _ :: _, [], h => by cases h
theorem lent {ain : List Sh} {rout : Sh} {r : List AV → Heap → Option (AV × Heap)} {aas ts : List AV} {σ : Heap} {v : AV} (h : LtL σ ain aas ts) (e : ∀ σ, A.wrap true ain rout r ts σ = some (v, σ)) (hs : A.scal v = true) : A.wrap true ain rout r aas σ = some (v, σ) := by
 obtain ⟨⟨aas', k1, k2, k3⟩, k4, k5⟩ := ltL h
 cases ho : aas.any A.own
 ·rw [wrap_nn (k5 ho) ho k4]; exact e σ
 ·exact wrap_own ho k1 k2 (by rw [wrap_nn k3 k2 k4]; exact e []) hs
section
variable {α : Type} {c : α → List AV} {sz : Nat} {B : Blk → Prop} {σ0 σ : Heap} {R : HP} {v : AV} {l : List α}
end
section
variable {α : Type} {E : List AV → α → HP} {sz : Nat} {σ0 σ : Heap} {R : HP} {v : AV} {l : List α}
end
section
variable {B : Blk → Prop} {σ0 σ : Heap} {R : HP} {M : AV → List MoveD → HP} {e : List AV} {x : CueD}
variable {v : AV} {l : List CueD}
end
end Go.Proofs.Ytgjglkakhmikjaa

namespace Go.Proofs.Ytgjglkakhmikjaa
set_option linter.unusedSectionVars false
set_option linter.unusedVariables false
set_option linter.unusedSimpArgs false
open HP
theorem loop_hs {α : Type} {f : List AV → Heap → Option LS} {Q : LS → Prop} (l : List α) (I : Nat → List AV → Heap → Prop) {v0 : List AV} {σ : Heap}
  (hstep : ∀ i x v σ, l[i]? = some x → I i v σ → ∃ v' σ', f v σ = some (.normal, v', σ') ∧ I (i + 1) v' σ')
  (hend : ∀ v σ, I l.length v σ → ∃ q, f v σ = some q ∧ q.1 ≠ .normal ∧ Q q) (h0 : I 0 v0 σ) : ∃ q, A.loop f v0 σ = some q ∧ Q q := by
 have key : ∀ (k i : Nat) v σ, l.length - i ≤ k → i ≤ l.length → I i v σ → ∃ q, (∃ n, A.iter f n v σ = some q) ∧ Q q := by
  intro k
  induction k with
  | zero =>
   intro i v σ hk hle hI
   have : i = l.length := by omega
   subst this
   obtain ⟨q, h1, h2, h3⟩ := hend v σ hI
   exact ⟨q, loop_done h1 h2, h3⟩
  | succ k ih =>
   intro i v σ hk hle hI
   by_cases hi : i < l.length
   ·obtain ⟨v', σ', h1, h2⟩ := hstep i _ v σ (List.getElem?_eq_getElem hi) hI
    obtain ⟨q, hq, hQ⟩ := ih (i + 1) v' σ' (by omega) (by omega) h2
    exact ⟨q, loop_step h1 hq, hQ⟩
   ·have : i = l.length := by omega
    subst this
    obtain ⟨q, h1, h2, h3⟩ := hend v σ hI
    exact ⟨q, loop_done h1 h2, h3⟩
 obtain ⟨q, ⟨n, hn⟩, hQ⟩ := key _ 0 v0 σ (Nat.le_refl _) (Nat.zero_le _) h0
 exact ⟨q, loop_of_iter hn, hQ⟩
section
variable {α : Type} {c : α → List AV} {sz : Nat} {B : Blk → Prop} {σ0 σ : Heap} {R : HP} {v : AV} {l : List α}
end
section
variable {σ0 σ : Heap} {R : HP}
end
end Go.Proofs.Ytgjglkakhmikjaa

namespace Go.Proofs.Ytgjglkakhmikjaa
set_option linter.unusedSectionVars false
set_option linter.unusedVariables false
set_option linter.unusedSimpArgs false
open HP
theorem loop_ms {f : List AV → Heap → Option LS} {Q : LS → Prop} (I : Nat → List AV → Heap → Prop) (hstep : ∀ n v σ, I n v σ → (∃ m v' σ', m < n ∧ f v σ = some (.normal, v', σ') ∧ I m v' σ') ∨ ∃ q, f v σ = some q ∧ q.1 ≠ .normal ∧ Q q) {n : Nat} {v0 : List AV} {σ : Heap} (h0 : I n v0 σ) : ∃ q, A.loop f v0 σ = some q ∧ Q q := by
 have key : ∀ (k n : Nat) v σ, n ≤ k → I n v σ → ∃ q, (∃ m, A.iter f m v σ = some q) ∧ Q q := by
  intro k
  induction k with
  | zero =>
   intro n v σ hn hI
   rcases hstep n v σ hI with ⟨m, _, _, hm, _⟩ | ⟨q, h1, h2, h3⟩
   ·omega
   ·exact ⟨q, loop_done h1 h2, h3⟩
  | succ k ih =>
   intro n v σ hn hI
   rcases hstep n v σ hI with ⟨m, v', σ', hm, h1, h2⟩ | ⟨q, h1, h2, h3⟩
   ·obtain ⟨q, hq, hQ⟩ := ih m v' σ' (by omega) h2
    exact ⟨q, loop_step h1 hq, hQ⟩
   ·exact ⟨q, loop_done h1 h2, h3⟩
 obtain ⟨q, ⟨m, hm⟩, hQ⟩ := key n n v0 σ (Nat.le_refl _) h0
 exact ⟨q, loop_of_iter hm, hQ⟩
theorem gF (X d : Option AV) : A.guard (.bool false) false X d = X := by have h : A.guard (.bool false) false X d = X := rfl; exact h.trans (Eq.refl X)
theorem gFx (X d : Option AV) : A.guard (.bool true) false X d = d := by have h : A.guard (.bool true) false X d = d := rfl; exact h.trans (Eq.refl d)
theorem bS {α β : Type} (a : α) (f : α → Option β) : (some a).bind f = f a := by have h : (some a).bind f = f a := rfl; exact h.trans (Eq.refl (f a))
theorem dRp (cs : List AV) (σ : Heap) : A.deref (.rp cs) σ = some cs := by have h : A.deref (.rp cs) σ = some cs := rfl; exact h.trans (Eq.refl _)
theorem exE (n : Nat) {α : Type} {X Y : α} : (bif (AX.exit n == AX.exit n) then X else Y) = X := by rw [show (AX.exit n == AX.exit n) = true from beq_self_eq_true _]; rfl
theorem pkF (x y : AV) : A.pick (.bool false) x y = some y := rfl
theorem pkT (x y : AV) : A.pick (.bool true) x y = some x := rfl
theorem notT : A.not (.bool true) = some (.bool false) := rfl
theorem notF : A.not (.bool false) = some (.bool true) := rfl
end Go.Proofs.Ytgjglkakhmikjaa

namespace Go.Proofs.Ytgjglkakhmikjaa
set_option linter.unusedSectionVars false
set_option linter.unusedVariables false
set_option linter.unusedSimpArgs false
def nslE {α : Type} (sz : Nat) (c : α → List AV) : List α → AV
 | [] => .nsl
 | x :: l => .sl sz ((x :: l).map c)
theorem nslE_ne {α : Type} {sz : Nat} {c : α → List AV} {l : List α} (h : l ≠ []) : nslE sz c l = sl sz c l := by
 cases l with
 | nil => exact absurd rfl h
 | cons x l => rfl
theorem lenS_ns {α : Type} (sz : Nat) (c : α → List AV) (l : List α) : A.lenS (nslE sz c l) = some (.int .i64 (l.length : Int)) := by
 cases l with
 | nil => rfl
 | cons x l => exact lenS_sl sz c (x :: l)
theorem ix_forN {α : Type} {sz : Nat} {c : α → List AV} {l : List α} {i : Nat} {x : α} (h : l[i]? = some x) : A.iaddr sz (nslE sz c l) (.int .i64 (i : Int)) = some (.rp (c x)) := by
 cases l with
 | nil => simp at h
 | cons y l => exact ix_for h
end Go.Proofs.Ytgjglkakhmikjaa

namespace Go.Proofs.Ytgjglkakhmikjaa
set_option linter.unusedSectionVars false
set_option linter.unusedVariables false
set_option linter.unusedSimpArgs false
set_option maxRecDepth 100000
theorem pNamess_snoc : ∀ (l : List PickD) (x : PickD), pNamess (l ++ [x]) = pNamess l ++ pNames x
 | [], x => by simp [pNamess]
 | p :: l, x => by rw [List.cons_append, pNamess, pNamess, pNamess_snoc l x, List.append_assoc]
theorem pNames_eq (p : PickD) : pNames p = (if p.kind = 2 ∨ p.kind = 3 then [(p.kind, p.frm)] else []) ++ pNamess p.args := by cases p; rw [pNames]; rfl
section
variable {S : Type} {dyn : Nat → List AV → Heap → Option (AV × Heap)} {c : AV} (I : S → Heap → Prop) (step : S → Int × Int → S)
theorem sz_fold {sz : S → Nat} (hz : ∀ s x, sz (step s x) ≤ sz s + 1) : ∀ (l : List (Int × Int)) (s : S), sz (l.foldl step s) ≤ sz s + l.length
 | [], s => by simp
 | x :: l, s => by rw [List.foldl_cons, List.length_cons]; have := sz_fold hz l (step s x); have := hz s x; omega
theorem pNamess_take (l : List PickD) (i : Nat) : (pNamess (l.take i)).length ≤ (pNamess l).length := by
 have : ∀ (a b : List PickD), pNamess (a ++ b) = pNamess a ++ pNamess b := by
  intro a b
  induction a with
  | nil => simp [pNamess]
  | cons x a ih => rw [List.cons_append, pNamess, pNamess, ih, List.append_assoc]
 have h := this (l.take i) (l.drop i)
 rw [List.take_append_drop] at h
 rw [h, List.length_append]; omega
theorem names_t {sz : S → Nat} (N : Nat) (hz : ∀ s x, sz (step s x) ≤ sz s + 1) (hstep : ∀ s kd nm σ, sz s < N → I s σ → ∃ v σ', A.callv dyn c [.int .i64 kd, .int .i64 nm] σ = some (v, σ') ∧ I (step s (kd, nm)) σ') : ∀ (n : Nat) (p : PickD) (σ : Heap) (s : S), pDeep p ≤ n → pSize p ≤ pMx → sz s + (pNames p).length ≤ N → I s σ →
  ∃ σ', fuel (R_pick_names dyn) n 41 [.agg (cPick p), c] σ = some (.tup [], σ') ∧ I ((pNames p).foldl step s) σ'
 | 0, p, σ, s, h, _, _, _ => by have := pDeep_pos p; omega
 | n + 1, p, σ, s, h, hs, hN, hI => by
  rw [pNames_eq, List.length_append] at hN
  have hd := args_d h
  have hr : fuel (R_pick_names dyn) (n + 1) 41 [.agg (cPick p), c] σ = (A.wrap false [] .k (A.ar2 (r_pick_names (fuel (R_pick_names dyn) n) dyn))) [.agg (cPick p), c] σ := rfl
  have hw : ∀ σ', r_pick_names (fuel (R_pick_names dyn) n) dyn (.agg (cPick p)) c σ = some (.tup [], σ') → (A.wrap false [] .k (A.ar2 (r_pick_names (fuel (R_pick_names dyn) n) dyn))) [.agg (cPick p), c] σ = some (.tup [], σ') := by
   intro σ' e
   unfold A.wrap
   rw [Bool.false_and, cond_false]
   show (r_pick_names (fuel (R_pick_names dyn) n) dyn (.agg (cPick p)) c σ).map _ = _
   rw [e]; rfl
  have hp0 : ∃ σ1, (A.cond (.bool (decide (p.kind = 2 ∨ p.kind = 3))) ((A.part1 0 (cPick p)).bind fun x8 => (A.part1 1 (cPick p)).bind fun x9 => (A.callv dyn c [x8, x9] σ).bind fun r10 => some ([(AV.lbx (cPick p))], r10.2)) (some ([(AV.lbx (cPick p))], σ))) = some ([(AV.lbx (cPick p))], σ1) ∧ I ((if p.kind = 2 ∨ p.kind = 3 then [(p.kind, p.frm)] else []).foldl step s) σ1 := by
   by_cases hk : p.kind = 2 ∨ p.kind = 3
   ·obtain ⟨v, σ1, e1, h1⟩ := hstep s p.kind p.frm σ (by rw [if_pos hk, List.length_singleton] at hN; omega) hI
    refine ⟨σ1, ?_, by rw [if_pos hk]; exact h1⟩
    rw [decide_eq_true hk]
    rw [show A.part1 0 (cPick p) = some (.int .i64 p.kind) by rw [cPick_eq]; rfl, show A.part1 1 (cPick p) = some (.int .i64 p.frm) by rw [cPick_eq]; rfl]
    simp only [A.cond, cond_true, Option.bind_some, e1]
   ·refine ⟨σ, ?_, by rw [if_neg hk]; exact hI⟩
    rw [decide_eq_false hk]; rfl
  obtain ⟨σ1, e1, h1⟩ := hp0
  have hloop : ∃ q, A.loop ((fun v15 s16 =>
   (A.lss (v15.getD 0 AV.undef) (.int .i64 (p.args.length : Int))).bind fun x18 =>
   A.cond x18 (
    (A.iaddr 4 (sl 4 cPick p.args) (v15.getD 0 AV.undef)).bind fun x19 =>
    ((A.deref x19 s16).bind fun c20 => A.partA 0 4 c20).bind fun x21 =>
    (A.cells 4 x21).bind fun c22 =>
    (A.splice 0 c22 [(AV.int .i64 0), (AV.int .i64 0), (AV.int .i64 0), AV.nsl]).bind fun c23 =>
    (A.partA 0 4 c23).bind fun x24 =>
    ((fuel (R_pick_names dyn) n) 41 [x24, c] s16).bind fun r25 =>
    (A.add (v15.getD 0 AV.undef) (AV.int .i64 1)).bind fun x26 =>
    some (AX.normal, [x26], r25.2)) (
    some (AX.exit 0, [(v15.getD 0 AV.undef)], s16)))) [.int .i64 0] σ1 = some q ∧ (∃ u, q.1 = .exit 0 ∧ q.2.1 = [u] ∧ I ((pNames p).foldl step s) q.2.2) := by
   refine loop_hs p.args (fun i v σ => v = [.int .i64 (i : Int)] ∧ I ((pNamess (p.args.take i)).foldl step ((if p.kind = 2 ∨ p.kind = 3 then [(p.kind, p.frm)] else []).foldl step s)) σ) ?_ ?_ ⟨rfl, by simpa [pNamess] using h1⟩
   ·rintro i x v σ2 hx ⟨rfl, hI2⟩
    have hm := List.mem_of_getElem? hx
    have hxd := Nat.le_trans (pDeeps_mem hm) hd
    obtain ⟨σ3, e3, h3⟩ := names_t N hz hstep n x σ2 _ hxd (by have := pSize_arg hm; omega) (by
     have ht : p.args.take (i + 1) = p.args.take i ++ [x] := by rw [List.take_add_one, hx]; rfl
     have h1 := pNamess_take p.args (i + 1)
     rw [ht, pNamess_snoc, List.length_append] at h1
     have h2 := sz_fold step hz (pNamess (p.args.take i)) ((if p.kind = 2 ∨ p.kind = 3 then [(p.kind, p.frm)] else []).foldl step s)
     have h3 := sz_fold step hz (if p.kind = 2 ∨ p.kind = 3 then [(p.kind, p.frm)] else []) s
     omega) hI2
    refine ⟨_, σ3, ?_, rfl, by
     have ht : p.args.take (i + 1) = p.args.take i ++ [x] := by rw [List.take_add_one, hx]; rfl
     rw [ht, pNamess_snoc, List.foldl_append]; exact h3⟩
    have a1 : A.lss (.int .i64 (i : Int)) (.int .i64 (p.args.length : Int)) = some (.bool true) := ix_lt hx
    have a2 : A.add (.int .i64 (i : Int)) (.int .i64 1) = some (.int .i64 ((i + 1 : Nat) : Int)) := ix_inc hx (args_mx hs)
    have a3 : A.iaddr 4 (sl 4 cPick p.args) (.int .i64 (i : Int)) = some (.rp (cPick x)) := ix_for hx
    simp only [List.getD_cons_zero, a1, a2, a3, bS, A.cond, cond_true, dRp, pA_cPick, ce_cPick, sp_cPick _ _ (rfl : ([(AV.int .i64 0), (AV.int .i64 0), (AV.int .i64 0), AV.nsl] : List AV).length = 4), e3]
   ·rintro v σ2 ⟨rfl, hI2⟩
    refine ⟨(.exit 0, [.int .i64 (p.args.length : Int)], σ2), ?_, by simp, _, rfl, rfl, ?_⟩
    ·simp only [List.getD_cons_zero, ix_end, bS, A.cond, cond_false]
    ·rw [List.take_length] at hI2
     rw [pNames_eq, List.foldl_append]; exact hI2
  obtain ⟨⟨qa, qv, σ4⟩, e4, u, rfl, rfl, h4⟩ := hloop
  refine ⟨σ4, hr.trans (hw _ ?_), h4⟩
  unfold r_pick_names
  have g0 : A.part1 0 (cPick p) = some (.int .i64 p.kind) := by rw [cPick_eq]; rfl
  have k1 : A.part1 3 (cPick p) = some (sl 4 cPick p.args) := by rw [cPick_eq]; rfl
  by_cases hk : p.kind = 2
  ·have hk' : decide (p.kind = 2 ∨ p.kind = 3) = true := decide_eq_true (.inl hk)
   rw [hk'] at e1
   simp only [g0, bS] at e1
   simp only [ce_cPick, bS, g0, aEq, decide_eq_true hk, gFx, pkT, e1, List.getD_cons_zero, aLb, k1, lenS_sl, e4, exE]
  ·have hk' : decide (p.kind = 2 ∨ p.kind = 3) = decide (p.kind = 3) := by simp [hk]
   rw [hk'] at e1
   simp only [g0, bS] at e1
   simp only [ce_cPick, bS, g0, aEq, decide_eq_false hk, gF, pkF, e1, List.getD_cons_zero, aLb, k1, lenS_sl, e4, exE]
end
end Go.Proofs.Ytgjglkakhmikjaa

namespace Go.Proofs.Ytgjglkakhmikjaa
set_option linter.unusedSectionVars false
set_option linter.unusedVariables false
set_option linter.unusedSimpArgs false
set_option maxRecDepth 100000
def NsV (σ : Heap) (lo hi : Nat) (v : AV) (xs : List Int) : Prop := (v = .nsl ∧ xs = []) ∨ ∃ id g, v = .os id g 1 0 xs.length ∧ lo ≤ id ∧ id < hi ∧ σ[id]? = some (.arr g 1 (xs.map cInt)) ∧ xs ≠ []
theorem NsV.mono {σ σ' : Heap} {lo hi lo' hi' : Nat} {v : AV} {xs : List Int} (h : NsV σ lo hi v xs) (h1 : lo' ≤ lo) (h2 : hi ≤ hi') (hk : ∀ i, lo ≤ i → i < hi → σ'[i]? = σ[i]?) : NsV σ' lo' hi' v xs := by
 rcases h with h | ⟨id, g, e, a, b, c, d⟩
 ·exact .inl h
 ·exact .inr ⟨id, g, e, by omega, by omega, by rw [hk id a b]; exact c, d⟩
theorem NsV.frz {σ : Heap} {lo hi n : Nat} {v : AV} {xs : List Int} (h : NsV σ lo hi v xs) (hn : n ≤ lo) (d : Nat) : A.frz σ n (d + 1) v = some (nslE 1 cInt xs) := by
 rcases h with ⟨rfl, rfl⟩ | ⟨id, g, rfl, a, b, c, e⟩
 ·exact fz_nsl σ n (d + 1)
 ·rw [nslE_ne e]
  simp only [A.frz, Nat.not_lt.2 (Nat.le_trans hn a), if_false, c]
  rw [if_pos (by simp), frzLL_eq, List.drop_zero, List.take_of_length_le (by simp), fzLL fz_cInt]
  rfl
theorem app_ns {σ : Heap} {lo hi : Nat} {v : AV} {xs : List Int} {x : Int} (h : NsV σ lo hi v xs) (hlo : lo ≤ hi) (hhi : hi ≤ σ.length) (hm : xs.length + 1 ≤ apM) : ∃ v' σ', A.append 1 (140737488355328 / 8) v (.sl 1 [[.int .i64 x]]) σ = some (v', σ') ∧ NsV σ' lo (σ'.length) v' (xs ++ [x]) ∧ σ.length ≤ σ'.length ∧ (∀ i, i < lo → i < σ.length → σ'[i]? = σ[i]?) := by
 rcases h with ⟨rfl, rfl⟩ | ⟨id, g, rfl, a, b, c, e⟩
 ·refine ⟨.os σ.length 1 1 0 1, σ ++ [.arr 1 1 [[.int .i64 x]]], rfl, .inr ⟨σ.length, 1, rfl, by omega, by simp, by simp [cInt], by simp⟩, by simp, fun i h1 h2 => by rw [List.getElem?_append_left h2]⟩
 ·refine ⟨.os id (g + 1) 1 0 (xs.length + 1), σ.set id (.arr (g + 1) 1 (xs.map cInt ++ [[.int .i64 x]])), ?_, .inr ⟨id, g + 1, by simp, a, by simp; omega, ?_, by simp⟩, by simp, fun i h1 h2 => ?_⟩
  ·unfold apM at hm
   have e1 : A.elems 1 (.sl 1 [[.int .i64 x]]) σ = some [[.int .i64 x]] := rfl
   simp only [A.append, e1, Option.bind_some, A.appendL, c]
   rw [if_pos (by simp; omega), if_neg (by simp), if_neg (by simp), List.drop_zero, List.take_of_length_le (by simp)]
   simp
  ·rw [List.getElem?_set_self (by omega)]; simp [cInt]
  ·rw [List.getElem?_set_ne (by omega)]
def EntU (σ : Heap) (lo hi : Nat) : List (Int × AV) → List GroupD → Prop
 | [], [] => True
 | p :: E, g :: l => p.1 = g.number ∧ NsV σ lo hi p.2 (pNamed 2 g.pick) ∧ EntU σ lo hi E l
 | _, _ => False
theorem EntU.mono {σ σ' : Heap} {lo hi hi' : Nat} (h2 : hi ≤ hi') (hk : ∀ i, lo ≤ i → i < hi → σ'[i]? = σ[i]?) : ∀ {E : List (Int × AV)} {l : List GroupD}, EntU σ lo hi E l → EntU σ' lo hi' E l
 | [], [], _ => trivial
 | p :: E, g :: l, h => ⟨h.1, h.2.1.mono (Nat.le_refl _) h2 hk, h.2.2.mono h2 hk⟩
 | [], _ :: _, h => h.elim
 | _ :: _, [], h => h.elim
theorem EntU.snoc {σ : Heap} {lo hi : Nat} {p : Int × AV} {g : GroupD} (h1 : p.1 = g.number) (h2 : NsV σ lo hi p.2 (pNamed 2 g.pick)) : ∀ {E : List (Int × AV)} {l : List GroupD}, EntU σ lo hi E l → EntU σ lo hi (E ++ [p]) (l ++ [g])
 | [], [], _ => ⟨h1, h2, trivial⟩
 | q :: E, x :: l, h => ⟨h.1, h.2.1, h.2.2.snoc h1 h2⟩
 | [], _ :: _, h => h.elim
 | _ :: _, [], h => h.elim
theorem EntU.keys {σ : Heap} {lo hi : Nat} : ∀ {E : List (Int × AV)} {l : List GroupD}, EntU σ lo hi E l → E.map (·.1) = l.map GroupD.number
 | [], [], _ => rfl
 | p :: E, g :: l, h => by rw [List.map_cons, List.map_cons, h.1, h.2.2.keys]
 | [], _ :: _, h => h.elim
 | _ :: _, [], h => h.elim
def usesL (l : List GroupD) : List (Int × List Int) := l.map fun g => (g.number, pNamed 2 g.pick)
abbrev eI (E : List (Int × AV)) : List (AV × AV) := E.map fun p => (.int .i64 p.1, p.2)
theorem findI (k : Int) (E : List (Int × AV)) : A.find .i (.int .i64 k) (eI E) = some (tfind k E) :=
 (find_t (eK := fun x : Int => AV.int .i64 x) (eV := id) (eqk_int _) k E).trans (by simp)
theorem updI (k : Int) (v : AV) (E : List (Int × AV)) : A.upd .i (.int .i64 k) v (eI E) = some (eI (tupd k v E)) := upd_t (eK := fun x : Int => AV.int .i64 x) (eV := id) (eqk_int _) k v E
theorem EntU.frz {σ : Heap} {lo hi n : Nat} (hn : n ≤ lo) (d : Nat) : ∀ {E : List (Int × AV)} {l : List GroupD}, EntU σ lo hi E l → A.frzM' σ n (d + 1) (eI E) = some ((usesL l).map fun p => (.int .i64 p.1, nslE 1 cInt p.2))
 | [], [], _ => by simp [A.frzM', usesL]
 | p :: E, g :: l, h => by
  have h1 := h.2.1.frz hn d
  have h2 := h.2.2.frz hn d
  have h3 : A.frz σ n (d + 1) (.int .i64 p.1) = some (.int .i64 p.1) := fz_int _ _ σ n (d + 1)
  simp only [eI, List.map_cons, A.frzM', h3, h1, Option.bind_some, usesL] at h2 ⊢
  rw [h2, h.1]; rfl
 | [], _ :: _, h => h.elim
 | _ :: _, [], h => h.elim
theorem tfind_snoc {ν : Type} {k : Int} {v : ν} : ∀ {E : List (Int × ν)}, k ∉ E.map (·.1) → tfind k (E ++ [(k, v)]) = some v
 | [], _ => by simp [tfind]
 | p :: E, h => by
  simp only [List.map_cons, List.mem_cons, not_or] at h
  rw [List.cons_append, tfind, if_neg h.1, tfind_snoc h.2]
theorem tupd_snoc {ν : Type} {k : Int} {v v' : ν} : ∀ {E : List (Int × ν)}, k ∉ E.map (·.1) → tupd k v' (E ++ [(k, v)]) = E ++ [(k, v')]
 | [], _ => by simp [tupd]
 | p :: E, h => by
  simp only [List.map_cons, List.mem_cons, not_or] at h
  rw [List.cons_append, tupd, if_neg h.1, tupd_snoc h.2]; rfl
theorem tupd_new {ν : Type} {k : Int} {v : ν} : ∀ {E : List (Int × ν)}, k ∉ E.map (·.1) → tupd k v E = E ++ [(k, v)]
 | [], _ => by simp [tupd]
 | p :: E, h => by
  simp only [List.map_cons, List.mem_cons, not_or] at h
  rw [tupd, if_neg h.1, tupd_new h.2]; rfl
structure UI (σ0 : Heap) (E : List (Int × AV)) (done : List GroupD) (g : GroupD) (b : Nat) (xs : List Int) (σ : Heap) : Prop where
 pre : σ.take σ0.length = σ0
 len : b < σ.length
 lo : σ0.length + 2 ≤ b
 map : ∃ v, σ[σ0.length]? = some (.map (eI (E ++ [(g.number, v)]))) ∧ NsV σ (b + 1) σ.length v xs
 ent : EntU σ (σ0.length + 2) b E done
 box : σ[σ0.length + 1]? = some (.box [.om σ0.length])
 grp : σ[b]? = some (.box (cGroup g))
 new : g.number ∉ E.map (·.1)
def uStep (xs : List Int) (p : Int × Int) : List Int := if p.1 = 2 then xs ++ [p.2] else xs
theorem uStep_fold : ∀ (l : List (Int × Int)) (xs : List Int), l.foldl uStep xs = xs ++ (l.filter fun p => decide (p.1 = 2)).map (·.2)
 | [], xs => by simp
 | p :: l, xs => by
  rw [List.foldl_cons, uStep_fold l]
  by_cases h : p.1 = 2 <;> simp [uStep, h]
mutual
theorem pNames_two : ∀ p : PickD, ((pNames p).filter fun x => decide (x.1 = 2)).map (·.2) = pNamed 2 p
 | .mk k f t l => by
  rw [pNames, pNamed, List.filter_append, List.map_append, pNamess_two l]
  congr 1
  by_cases h : k = 2
  ·simp [h]
  ·by_cases h3 : k = 3 <;> simp [h, h3]
theorem pNamess_two : ∀ l : List PickD, ((pNamess l).filter fun x => decide (x.1 = 2)).map (·.2) = pNameds 2 l
 | [] => by simp [pNamess, pNameds]
 | p :: l => by rw [pNamess, pNameds, List.filter_append, List.map_append, pNames_two p, pNamess_two l]
end
theorem take_get {σ σ0 : Heap} (h : σ.take σ0.length = σ0) : ∀ i, i < σ0.length → σ[i]? = σ0[i]? := fun i hi => by
 have := congrArg (fun l => l[i]?) h
 simp only [List.getElem?_take, hi, if_true] at this
 exact this
theorem take_same {σ σ' σ0 : Heap} (h : σ.take σ0.length = σ0) (hk : ∀ i, i < σ0.length → σ'[i]? = σ[i]?) : σ'.take σ0.length = σ0 := by
 apply List.ext_getElem?
 intro i
 by_cases hi : i < σ0.length
 ·rw [List.getElem?_take, if_pos hi, hk i hi, take_get h i hi]
 ·rw [List.getElem?_take, if_neg hi, List.getElem?_eq_none (by omega)]
theorem fn1_t {σ0 : Heap} {E : List (Int × AV)} {done : List GroupD} {g : GroupD} {b : Nat} {xs : List Int} (kd nm : Int) {σ : Heap} (hm : xs.length + 1 ≤ apM) (H : UI σ0 E done g b xs σ) : ∃ v σ', A.callv (A.tab (fun _ _ => none) [(40, m_pick_uses_fn1)]) (.fn 40 [.op (σ0.length + 1) 0, .op b 0]) [.int .i64 kd, .int .i64 nm] σ = some (v, σ') ∧ UI σ0 E done g b (uStep xs (kd, nm)) σ' := by
 have hw : ∀ σ', r_pick_uses_fn1 (.int .i64 kd) (.int .i64 nm) (.op (σ0.length + 1) 0) (.op b 0) σ = some (.tup [], σ') → A.callv (A.tab (fun _ _ => none) [(40, m_pick_uses_fn1)]) (.fn 40 [.op (σ0.length + 1) 0, .op b 0]) [.int .i64 kd, .int .i64 nm] σ = some (.tup [], σ') := by
  intro σ' e
  show A.wrap false [] .k (A.ar4 b_pick_uses_fn1) [.int .i64 kd, .int .i64 nm, .op (σ0.length + 1) 0, .op b 0] σ = _
  unfold A.wrap
  rw [Bool.false_and, cond_false]
  show (r_pick_uses_fn1 (.int .i64 kd) (.int .i64 nm) (.op (σ0.length + 1) 0) (.op b 0) σ).map _ = _
  rw [e]; rfl
 by_cases hk : kd = 2
 ·obtain ⟨v, hmap, hv⟩ := H.map
  have hlen := H.len; have hlo := H.lo
  obtain ⟨v', σ1, e1, h1, h2, h3⟩ := app_ns (x := nm) hv (by omega) (Nat.le_refl _) hm
  have g1 : ∀ i, i ≤ b → σ1[i]? = σ[i]? := fun i hi => h3 i (by omega) (by omega)
  have d1 : A.deref (.op (σ0.length + 1) 0) σ = some [.om σ0.length] := by simp [A.deref, H.box]
  have d2 : A.deref (.op b 0) σ = some (cGroup g) := by simp [A.deref, H.grp]
  have f2 : A.faddr 0 (.op b 0) = some (.op b 0) := rfl
  have l1 : A.look .i (.om σ0.length) (.int .i64 g.number) .nsl σ = some v := by
   have : A.find .i (.int .i64 g.number) (eI (E ++ [(g.number, v)])) = some (some v) := by
    rw [findI, tfind_snoc H.new]
   simp only [A.look, A.keyOk, cond_true, A.entries, hmap, Option.bind_some, this, Option.map_some, Option.getD_some]
  have u1 : A.mupd .i (.om σ0.length) (.int .i64 g.number) v' σ1 = some (σ1.set σ0.length (.map (eI (E ++ [(g.number, v')])))) := by
   have : A.upd .i (.int .i64 g.number) v' (eI (E ++ [(g.number, v)])) = some (eI (E ++ [(g.number, v')])) := by
    rw [updI, tupd_snoc H.new]
   simp only [A.mupd, A.keyOk, cond_true, g1 σ0.length (by omega), hmap, this, Option.map_some]
  refine ⟨.tup [], σ1.set σ0.length (.map (eI (E ++ [(g.number, v')]))), hw _ ?_, ?_⟩
  ·unfold r_pick_uses_fn1
   have c1 : (((A.cell (.int .i64 nm)).bind fun v => some [v]).bind fun c14 => (A.splice 0 c14 [(AV.int .i64 0)]).bind fun c15 => some c15).bind (fun cs => some (AV.sl 1 (chunks 1 1 cs))) = some (.sl 1 [[.int .i64 nm]]) := rfl
   have p1 : A.part1 0 (cGroup g) = some (.int .i64 g.number) := rfl
   have p2 : A.part1 0 [AV.om σ0.length] = some (.om σ0.length) := rfl
   simp only [aEq, bS, decide_eq_true hk, A.cond, cond_true, d1, d2, f2, p1, p2, l1, c1, e1, u1]
  ·have hs : ∀ i, i ≠ σ0.length → (σ1.set σ0.length (.map (eI (E ++ [(g.number, v')]))))[i]? = σ1[i]? := fun i hi => by rw [List.getElem?_set_ne (by omega)]
   refine ⟨take_same H.pre fun i hi => by rw [hs i (by omega), g1 i (by omega)], by simp; omega, H.lo, ⟨v', ?_, ?_⟩, ?_, ?_, ?_, H.new⟩
   ·rw [List.getElem?_set_self (by omega)]
   ·rw [uStep, if_pos hk]
    exact h1.mono (Nat.le_refl _) (by simp) fun i a _ => hs i (by omega)
   ·exact H.ent.mono (Nat.le_refl _) fun i a c => by rw [hs i (by omega), g1 i (by omega)]
   ·rw [hs _ (by omega), g1 _ (by omega)]; exact H.box
   ·rw [hs _ (by omega), g1 _ (by omega)]; exact H.grp
 ·refine ⟨.tup [], σ, hw _ ?_, by rw [uStep, if_neg hk]; exact H⟩
  unfold r_pick_uses_fn1
  simp only [aEq, bS, decide_eq_false hk, A.cond, cond_false]
mutual
theorem pNames_len : ∀ p : PickD, (pNames p).length ≤ pSize p
 | .mk k f t l => by
  rw [pNames, pSize, List.length_append]
  have := pNamess_len l
  split <;> simp <;> omega
theorem pNamess_len : ∀ l : List PickD, (pNamess l).length ≤ pSizes l
 | [] => by simp [pNamess, pSizes]
 | p :: l => by
  rw [pNamess, pSizes, List.length_append]
  have := pNames_len p; have := pNamess_len l; omega
end
theorem uses_t (l : List GroupD) (hn : (l.map GroupD.number).Nodup) (hs : ∀ g ∈ l, pSize g.pick ≤ 2000000) (hl : l.length ≤ mxl) (σ0 : Heap) : m_pick_uses [sl 5 cGroup l] σ0 = some (fmE (fun x => AV.int .i64 x) (nslE 1 cInt) (usesL l), σ0) := by
 refine wrap_eq rfl ?_ rfl
 show r_pick_uses (sl 5 cGroup l) σ0 = _
 have hloop : ∃ q, A.loop ((fun v4 s5 =>
   (A.lss (v4.getD 0 AV.undef) (.int .i64 (l.length : Int))).bind fun x7 =>
   A.cond x7 (
    (A.iaddr 5 (sl 5 cGroup l) (v4.getD 0 AV.undef)).bind fun x8 =>
    ((A.deref x8 s5).bind fun c9 => A.partA 0 5 c9).bind fun x10 =>
    (A.cells 5 x10).bind fun c11 =>
    (A.storeAt (AV.op s5.length 0) c11 (s5 ++ [Blk.box [(AV.int .i64 0), (AV.int .i64 0), (AV.int .i64 0), (AV.int .i64 0), AV.nsl]])).bind fun c12 =>
    ((A.deref (AV.op (σ0.length + 1) 0) c12).bind fun c13 => A.part1 0 c13).bind fun x14 =>
    (A.faddr 0 (AV.op s5.length 0)).bind fun x15 =>
    ((A.deref x15 c12).bind fun c16 => A.part1 0 c16).bind fun x17 =>
    (A.mupd .i x14 x17 AV.nsl c12).bind fun h18 =>
    (A.faddr 1 (AV.op s5.length 0)).bind fun x19 =>
    ((A.deref x19 h18).bind fun c20 => A.partA 0 4 c20).bind fun x21 =>
    (m_pick_names (A.tab (fun _ _ => none) [(40, m_pick_uses_fn1)]) [x21, (AV.fn 40 [(AV.op (σ0.length + 1) 0), (AV.op s5.length 0)])] h18).bind fun r22 =>
    (A.add (v4.getD 0 AV.undef) (AV.int .i64 1)).bind fun x23 =>
    some (AX.normal, [x23], r22.2)) (
    some (AX.exit 0, [(v4.getD 0 AV.undef)], s5)))) [.int .i64 0] (σ0 ++ [.map [], .box [.om σ0.length]]) = some q ∧ (q.1 = .exit 0 ∧ ∃ E, q.2.2.take σ0.length = σ0 ∧ σ0.length < q.2.2.length ∧ q.2.2[σ0.length]? = some (.map (eI E)) ∧ q.2.2[σ0.length + 1]? = some (.box [.om σ0.length]) ∧ EntU q.2.2 (σ0.length + 2) q.2.2.length E l) := by
  refine loop_hs l (fun i v σ => v = [.int .i64 (i : Int)] ∧ ∃ E, σ.take σ0.length = σ0 ∧ σ0.length + 2 ≤ σ.length ∧ σ[σ0.length]? = some (.map (eI E)) ∧ σ[σ0.length + 1]? = some (.box [.om σ0.length]) ∧ EntU σ (σ0.length + 2) σ.length E (l.take i)) ?_ ?_ ⟨rfl, [], by simp, by simp, by simp, by simp, trivial⟩
  ·rintro i x v σ hx ⟨rfl, E, h1, h2, h3, h4, h5⟩
   have hm := List.mem_of_getElem? hx
   have ht : l.take (i + 1) = l.take i ++ [x] := by rw [List.take_add_one, hx]; rfl
   have hnew : x.number ∉ E.map (·.1) := by
    rw [h5.keys]
    intro hmem
    have hi := (List.getElem?_eq_some_iff.1 hx).1
    have e1 : l.map GroupD.number = (l.take i).map GroupD.number ++ (l.drop i).map GroupD.number := by rw [← List.map_append, List.take_append_drop]
    rw [e1] at hn
    have h7 : x.number ∈ (l.drop i).map GroupD.number := List.mem_map.2 ⟨x, by rw [List.drop_eq_getElem_cons hi, (List.getElem?_eq_some_iff.1 hx).2]; simp, rfl⟩
    exact (List.nodup_append.1 hn).2.2 _ hmem _ h7 rfl
   let σ1 : Heap := σ ++ [.box (cGroup x)]
   let σ2 : Heap := σ1.set σ0.length (.map (eI (E ++ [(x.number, .nsl)])))
   have hs2 : ∀ j, j ≠ σ0.length → σ2[j]? = σ1[j]? := fun j hj => List.getElem?_set_ne (by omega)
   have hs1 : ∀ j, j < σ.length → σ1[j]? = σ[j]? := fun j hj => List.getElem?_append_left hj
   have hl1 : σ1.length = σ.length + 1 := by simp [σ1]
   have hl2 : σ2.length = σ.length + 1 := by simp [σ2, hl1]
   have I0 : UI σ0 E (l.take i) x σ.length [] σ2 := by
    refine ⟨take_same h1 fun j hj => by rw [hs2 j (by omega), hs1 j (by omega)], by omega, by omega, ⟨.nsl, ?_, .inl ⟨rfl, rfl⟩⟩, ?_, ?_, ?_, hnew⟩
    ·exact List.getElem?_set_self (by omega)
    ·exact h5.mono (Nat.le_refl _) fun j a b => by rw [hs2 j (by omega), hs1 j b]
    ·rw [hs2 _ (by omega), hs1 _ (by omega)]; exact h4
    ·rw [hs2 _ (by omega)]; simp [σ1]
   have hbd : (pNames x.pick).length ≤ 2000000 := Nat.le_trans (pNames_len x.pick) (hs x hm)
   obtain ⟨σ3, e3, s3⟩ := names_t (dyn := A.tab (fun _ _ => none) [(40, m_pick_uses_fn1)]) (c := .fn 40 [.op (σ0.length + 1) 0, .op σ.length 0]) (UI σ0 E (l.take i) x σ.length) uStep (sz := List.length) 2000000 (fun s x => by unfold uStep; split <;> simp) (fun s kd nm σ' hs hI => fn1_t kd nm (by unfold apM; omega) hI) 2000000 x.pick σ2 [] (Nat.le_trans (pDeep_size _) (hs x hm)) (Nat.le_trans (hs x hm) (by decide)) (by simpa using hbd) I0
   rw [uStep_fold, pNames_two, List.nil_append] at s3
   obtain ⟨v3, m3, n3⟩ := s3.map
   refine ⟨_, σ3, ?_, rfl, E ++ [(x.number, v3)], s3.pre, by have := s3.len; omega, m3, s3.box, by
    rw [ht]
    exact EntU.snoc rfl (n3.mono (by omega) (Nat.le_refl _) fun _ _ _ => rfl) (s3.ent.mono (Nat.le_of_lt s3.len) fun _ _ _ => rfl)⟩
   have a1 : A.lss (.int .i64 (i : Int)) (.int .i64 (l.length : Int)) = some (.bool true) := ix_lt hx
   have a2 : A.add (.int .i64 (i : Int)) (.int .i64 1) = some (.int .i64 ((i + 1 : Nat) : Int)) := ix_inc hx hl
   have a3 : A.iaddr 5 (sl 5 cGroup l) (.int .i64 (i : Int)) = some (.rp (cGroup x)) := ix_for hx
   have p1 : A.partA 0 5 (cGroup x) = some (.agg (cGroup x)) := rfl
   have p2 : A.cells 5 (.agg (cGroup x)) = some (cGroup x) := rfl
   have p3 : A.partA 0 4 ((cGroup x).drop 1) = some (.agg (cPick x.pick)) := by rw [cGroup_pick]; exact pA_cPick _
   have s1 : A.storeAt (.op σ.length 0) (cGroup x) (σ ++ [.box [(AV.int .i64 0), (AV.int .i64 0), (AV.int .i64 0), (AV.int .i64 0), AV.nsl]]) = some σ1 := by
    simp [A.storeAt, A.splice, cGroup_len, σ1]
   have d1 : A.deref (.op (σ0.length + 1) 0) σ1 = some [.om σ0.length] := by
    have : σ1[σ0.length + 1]? = some (.box [.om σ0.length]) := by rw [hs1 _ (by omega)]; exact h4
    simp [A.deref, this]
   have d2 : A.deref (.op σ.length 0) σ1 = some (cGroup x) := by simp [A.deref, σ1]
   have d3 : A.deref (.op σ.length 1) σ2 = some ((cGroup x).drop 1) := by
    have : σ2[σ.length]? = some (.box (cGroup x)) := by rw [hs2 _ (by omega)]; simp [σ1]
    simp [A.deref, this]
   have u1 : A.mupd .i (.om σ0.length) (.int .i64 x.number) .nsl σ1 = some σ2 := by
    have : σ1[σ0.length]? = some (.map (eI E)) := by rw [hs1 _ (by omega)]; exact h3
    simp only [A.mupd, A.keyOk, cond_true, this, updI, tupd_new hnew, Option.map_some]
    rfl
   have f1 : A.faddr 0 (.op σ.length 0) = some (.op σ.length 0) := rfl
   have f2 : A.faddr 1 (.op σ.length 0) = some (.op σ.length 1) := rfl
   have q1 : A.part1 0 [AV.om σ0.length] = some (.om σ0.length) := rfl
   have q2 : A.part1 0 (cGroup x) = some (.int .i64 x.number) := rfl
   have hm0 : m_pick_names (A.tab (fun _ _ => none) [(40, m_pick_uses_fn1)]) = fuel (R_pick_names (A.tab (fun _ _ => none) [(40, m_pick_uses_fn1)])) 2000000 41 := rfl
   rw [← hm0] at e3
   simp only [List.getD_cons_zero, a1, a2, a3, bS, A.cond, cond_true, dRp, p1, p2, s1, d1, d2, q1, q2, f1, u1, f2, d3, p3, e3]
  ·rintro v σ ⟨rfl, E, h1, h2, h3, h4, h5⟩
   rw [List.take_length] at h5
   refine ⟨(.exit 0, [.int .i64 (l.length : Int)], σ), ?_, by simp, rfl, E, h1, Nat.lt_of_lt_of_le (by omega) h2, h3, h4, h5⟩
   simp only [List.getD_cons_zero, ix_end, bS, A.cond, cond_false]
 obtain ⟨⟨qa, qv, σ4⟩, e4, rfl, E, h1, h2, h3, h4, h5⟩ := hloop
 have c1 : ((A.cell (AV.om σ0.length)).bind fun v => some [v]) = some [.om σ0.length] := rfl
 have s1 : A.storeAt (AV.op (σ0 ++ [Blk.map []]).length 0) [.om σ0.length] ((σ0 ++ [Blk.map []]) ++ [Blk.box [AV.nm]]) = some (σ0 ++ [.map [], .box [.om σ0.length]]) := by
  simp [A.storeAt, A.splice]
 have d1 : A.deref (.op (σ0.length + 1) 0) σ4 = some [.om σ0.length] := by simp [A.deref, h4]
 have q1 : A.part1 0 [AV.om σ0.length] = some (.om σ0.length) := rfl
 have hz : A.fin σ0 (.om σ0.length) σ4 = some (fmE (fun x => AV.int .i64 x) (nslE 1 cInt) (usesL l), σ0) := by
  unfold A.fin
  rw [if_neg (fun e => by rw [e] at h2; simp at h2), if_pos h1]
  simp only [A.frz, Nat.lt_irrefl, if_false, h3]
  rw [h5.frz (by omega) 6]
  rfl
 unfold r_pick_uses
 rw [show (σ0 ++ [Blk.map []]).length = σ0.length + 1 by simp] at *
 simp only [c1, bS, s1, lenS_sl, e4, exE, d1, q1, hz]
 rfl
end Go.Proofs.Ytgjglkakhmikjaa

namespace Go.Proofs.Ytgjglkakhmikjaa
set_option linter.unusedSectionVars false
set_option linter.unusedVariables false
set_option linter.unusedSimpArgs false
inductive Rch (f : Int → List Int) (a : Int) : Int → Prop where
 | one {b : Int} (h : b ∈ f a) : Rch f a b
 | step {b c : Int} (h : Rch f a b) (k : c ∈ f b) : Rch f a c
def unS (V seen : List Int) : Nat := (V.filter fun x => decide (x ∉ seen)).length
theorem unS_le (V seen : List Int) : unS V seen ≤ V.length := List.length_filter_le _ _
theorem unS_sub {k : Int} : ∀ (V seen : List Int), unS V (seen ++ [k]) ≤ unS V seen
 | [], seen => Nat.le_refl _
 | x :: V, seen => by
  have := unS_sub (k := k) V seen
  unfold unS at this ⊢
  simp only [List.filter_cons]
  by_cases h : x ∈ seen
  ·rw [if_neg (by simp [h]), if_neg (by simp [h])]; exact this
  ·by_cases hk : x = k
   ·rw [if_neg (by simp [hk]), if_pos (by simp [h]), List.length_cons]; omega
   ·rw [if_pos (by simp [h, hk]), if_pos (by simp [h]), List.length_cons, List.length_cons]; omega
theorem unS_lt {k : Int} : ∀ {V seen : List Int}, k ∈ V → k ∉ seen → unS V (seen ++ [k]) < unS V seen
 | x :: V, seen, h, hn => by
  have hs := unS_sub (k := k) V seen
  by_cases hk : x = k
  ·unfold unS at hs ⊢
   simp only [List.filter_cons]
   rw [if_neg (by simp [hk]), if_pos (by simp [hk, hn]), List.length_cons]; omega
  ·have := unS_lt (V := V) (by simpa [Ne.symm hk] using h) hn
   unfold unS at this ⊢
   simp only [List.filter_cons]
   by_cases h : x ∈ seen
   ·rw [if_neg (by simp [h]), if_neg (by simp [h])]; exact this
   ·rw [if_pos (by simp [h, hk]), if_pos (by simp [h]), List.length_cons, List.length_cons]; omega
structure ReI (f : Int → List Int) (V : List Int) (a : Int) (cur : Option (Int × List Int)) (st seen : List Int) : Prop where
 sound : ∀ n ∈ seen, Rch f a n
 known : ∀ n ∈ st, n = a ∨ n ∈ seen
 all : ∀ n, (n = a ∨ n ∈ seen) → n ∈ st ∨ (∀ k ∈ f n, k ∈ seen) ∨ ∃ xs ys, cur = some (n, ys) ∧ f n = xs ++ ys ∧ ∀ k ∈ xs, k ∈ seen
 few : st.length + unS V seen ≤ V.length + 1
 here : ∀ n ys, cur = some (n, ys) → (n = a ∨ n ∈ seen) ∧ ∀ k ∈ ys, k ∈ f n
section
variable {f : Int → List Int} {V : List Int} {a : Int} {st st' seen : List Int} {n k : Int} {r : List Int}
theorem ReI.start : ReI f V a none [a] [] :=
 ⟨fun _ h => by simp at h, fun n h => by simpa using h, fun n h => .inl (by simpa using h), by have := unS_le V []; simp; omega, fun _ _ h => by cases h⟩
theorem ReI.pop (H : ReI f V a none st seen) (hm : ∀ x, x ∈ st ↔ x = n ∨ x ∈ st') (hl : st.length = st'.length + 1) : ReI f V a (some (n, f n)) st' seen := by
 refine ⟨H.sound, fun x h => H.known x ((hm x).2 (.inr h)), fun x h => ?_, by have := H.few; omega, fun x ys e => ?_⟩
 ·rcases H.all x h with h1 | h1 | ⟨xs, ys, e, _⟩
  ·rcases (hm x).1 h1 with rfl | h2
   ·exact .inr (.inr ⟨[], f x, rfl, rfl, by simp⟩)
   ·exact .inl h2
  ·exact .inr (.inl h1)
  ·cases e
 ·injection e with e; injection e with e1 e2; subst e1; subst e2
  exact ⟨H.known _ ((hm _).2 (.inl rfl)), fun k h => h⟩
theorem ReI.skip (H : ReI f V a (some (n, k :: r)) st seen) (hk : k ∈ seen) : ReI f V a (some (n, r)) st seen := by
 refine ⟨H.sound, H.known, fun x h => ?_, H.few, fun x ys e => ?_⟩
 ·rcases H.all x h with h1 | h1 | ⟨xs, ys, e, h2, h3⟩
  ·exact .inl h1
  ·exact .inr (.inl h1)
  ·injection e with e; injection e with e1 e2; subst e1; subst e2
   exact .inr (.inr ⟨xs ++ [k], r, rfl, by rw [h2]; simp, fun y hy => by rcases List.mem_append.1 hy with h | h; exact h3 y h; rw [List.mem_singleton.1 h]; exact hk⟩)
 ·injection e with e; injection e with e1 e2; subst e1; subst e2
  obtain ⟨h1, h2⟩ := H.here n (k :: r) rfl
  exact ⟨h1, fun y hy => h2 y (by simp [hy])⟩
theorem ReI.push (H : ReI f V a (some (n, k :: r)) st seen) (hk : k ∉ seen) (hV : k ∈ V) : ReI f V a (some (n, r)) (st ++ [k]) (seen ++ [k]) := by
 obtain ⟨h1, h2⟩ := H.here n (k :: r) rfl
 have hf : k ∈ f n := h2 k (by simp)
 have hkr : Rch f a k := by
  rcases h1 with rfl | h1
  ·exact .one hf
  ·exact .step (H.sound n h1) hf
 refine ⟨fun x h => ?_, fun x h => ?_, fun x h => ?_, ?_, fun x ys e => ?_⟩
 ·rcases List.mem_append.1 h with h | h
  ·exact H.sound x h
  ·rw [List.mem_singleton.1 h]; exact hkr
 ·rcases List.mem_append.1 h with h | h
  ·rcases H.known x h with h | h
   ·exact .inl h
   ·exact .inr (by simp [h])
  ·rw [List.mem_singleton.1 h]; exact .inr (by simp)
 ·by_cases hx : x = k
  ·exact .inl (by simp [hx])
  ·have : x = a ∨ x ∈ seen := by
    rcases h with h | h
    ·exact .inl h
    ·rcases List.mem_append.1 h with h | h
     ·exact .inr h
     ·exact absurd (List.mem_singleton.1 h) hx
   rcases H.all x this with h1 | h1 | ⟨xs, ys, e, h4, h3⟩
   ·exact .inl (by simp [h1])
   ·exact .inr (.inl fun y hy => by simp [h1 y hy])
   ·injection e with e; injection e with e1 e2; subst e1; subst e2
    exact .inr (.inr ⟨xs ++ [k], r, rfl, by rw [h4]; simp, fun y hy => by rcases List.mem_append.1 hy with h | h; simp [h3 y h]; rw [List.mem_singleton.1 h]; simp⟩)
 ·have := unS_lt hV hk
  have := H.few
  simp; omega
 ·injection e with e; injection e with e1 e2; subst e1; subst e2
  exact ⟨by rcases h1 with h | h; exact .inl h; exact .inr (by simp [h]), fun y hy => h2 y (by simp [hy])⟩
theorem ReI.done (H : ReI f V a (some (n, [])) st seen) : ReI f V a none st seen := by
 refine ⟨H.sound, H.known, fun x h => ?_, H.few, fun x ys e => by cases e⟩
 rcases H.all x h with h1 | h1 | ⟨xs, ys, e, h4, h3⟩
 ·exact .inl h1
 ·exact .inr (.inl h1)
 ·injection e with e; injection e with e1 e2; subst e1; subst e2
  exact .inr (.inl fun k hk => h3 k (by rw [h4] at hk; simpa using hk))
theorem ReI.fin (H : ReI f V a none [] seen) (x : Int) : x ∈ seen ↔ Rch f a x := by
 refine ⟨H.sound x, fun h => ?_⟩
 have cl : ∀ y, (y = a ∨ y ∈ seen) → ∀ k ∈ f y, k ∈ seen := fun y hy => by
  rcases H.all y hy with h1 | h1 | ⟨_, _, e, _⟩
  ·simp at h1
  ·exact h1
  ·cases e
 induction h with
 | one h => exact cl a (.inl rfl) _ h
 | step h k ih => exact cl _ (.inr ih) _ k
end
def StkV (σ : Heap) (id : Nat) (v : AV) (st : List Int) : Prop := ∃ g off es, v = .os id g 1 off st.length ∧ σ[id]? = some (.arr g 1 es) ∧ off + st.length ≤ es.length ∧ (es.drop off).take st.length = st.map cInt
section
variable {σ : Heap} {id : Nat} {v : AV} {st : List Int} {n x : Int}
theorem StkV.len (H : StkV σ id v st) : A.lenS v = some (.int .i64 (st.length : Int)) := by
 obtain ⟨g, off, es, rfl, _⟩ := H; rfl
theorem StkV.at (H : StkV σ id v st) {i : Nat} (h : st[i]? = some x) : ∃ p, A.iaddr 1 v (.int .i64 (i : Int)) = some p ∧ A.deref p σ = some (cInt x) := by
 obtain ⟨g, off, es, rfl, h1, h2, h3⟩ := H
 have hi := (List.getElem?_eq_some_iff.1 h).1
 have hi' : ((i : Int) < (st.length : Int)) := by omega
 refine ⟨.oe id g (off + i) 0, by simp [A.iaddr, A.idx, hi'], ?_⟩
 have e := congrArg (fun l => l[i]?) h3
 simp only [List.getElem?_take, hi, if_true, List.getElem?_drop, List.getElem?_map, h, Option.map_some] at e
 simp [A.deref, h1, e]
theorem StkV.app (H : StkV σ id v st) (hm : st.length + 1 ≤ apM) : ∃ v' σ', A.append 1 (140737488355328 / 8) v (.sl 1 [[.int .i64 x]]) σ = some (v', σ') ∧ StkV σ' id v' (st ++ [x]) ∧ σ'.length = σ.length ∧ ∀ j, j ≠ id → σ'[j]? = σ[j]? := by
 obtain ⟨g, off, es, rfl, h1, h2, h3⟩ := H
 have hid := (List.getElem?_eq_some_iff.1 h1).1
 have e1 : A.elems 1 (.sl 1 [[.int .i64 x]]) σ = some [[.int .i64 x]] := rfl
 unfold apM at hm
 by_cases hin : off + st.length + 1 ≤ es.length
 ·refine ⟨.os id g 1 off (st.length + 1), σ.set id (.arr g 1 (es.take (off + st.length) ++ [[.int .i64 x]] ++ es.drop (off + st.length + 1))), ?_, ⟨g, off, _, by simp, List.getElem?_set_self hid, by simp; omega, ?_⟩, by simp, fun j hj => List.getElem?_set_ne (by omega)⟩
  ·simp only [A.append, e1, Option.bind_some, A.appendL, h1]
   rw [if_pos (by simp; omega), if_neg (by simp), if_pos (by simpa using hin)]
   rfl
  ·have hl : (es.take (off + st.length)).length = off + st.length := by simp; omega
   rw [List.append_assoc, List.drop_append_of_le_length (by omega), List.drop_take, show off + st.length - off = st.length by omega, h3, List.length_append, List.length_singleton]
   rw [List.take_append, List.take_of_length_le (by simp)]
   simp [cInt]
 ·refine ⟨.os id (g + 1) 1 0 (st.length + 1), σ.set id (.arr (g + 1) 1 (st.map cInt ++ [[.int .i64 x]])), ?_, ⟨g + 1, 0, _, by simp, List.getElem?_set_self hid, by simp, ?_⟩, by simp, fun j hj => List.getElem?_set_ne (by omega)⟩
  ·simp only [A.append, e1, Option.bind_some, A.appendL, h1]
   rw [if_pos (by simp; omega), if_neg (by simp), if_neg (by simpa using hin), h3]
   rfl
  ·rw [List.drop_zero, List.take_of_length_le (by simp)]; simp [cInt]
theorem StkV.other {σ' : Heap} (H : StkV σ id v st) (h : σ'[id]? = σ[id]?) : StkV σ' id v st := by
 obtain ⟨g, off, es, e, h1, h2⟩ := H
 exact ⟨g, off, es, e, h.trans h1, h2⟩
theorem StkV.front (H : StkV σ id v (st ++ [n])) : ∃ v', A.sliceS 1 v none (some (.int .i64 (st.length : Int))) σ = some v' ∧ StkV σ id v' st := by
 obtain ⟨g, off, es, rfl, h1, h2, h3⟩ := H
 rw [List.length_append, List.length_singleton] at h2 h3
 refine ⟨.os id g 1 off st.length, ?_, ⟨g, off, es, rfl, h1, by omega, ?_⟩⟩
 ·simp only [A.sliceS, if_true, A.room, h1, List.length_append, List.length_singleton]
  rw [if_pos ⟨trivial, trivial, h2⟩]
  have b1 : A.bound (es.length - off) (st.length + 1) (some (.int .i64 (st.length : Int))) = some st.length := by
   simp only [A.bound]; rw [if_pos (by omega)]; simp
  have b2 : A.bound st.length 0 none = some 0 := rfl
  rw [b1, Option.bind_some, b2]; rfl
 ·have e := congrArg (List.take st.length) h3
  rw [List.take_take, Nat.min_eq_left (by omega), List.map_append, List.take_append_of_le_length (by simp), List.take_of_length_le (l := st.map cInt) (by simp)] at e
  exact e
theorem StkV.back (H : StkV σ id v (n :: st)) : ∃ v', A.sliceS 1 v (some (.int .i64 1)) none σ = some v' ∧ StkV σ id v' st := by
 obtain ⟨g, off, es, rfl, h1, h2, h3⟩ := H
 rw [List.length_cons] at h2 h3
 refine ⟨.os id g 1 (off + 1) st.length, ?_, ⟨g, off + 1, es, rfl, h1, by omega, ?_⟩⟩
 ·simp only [A.sliceS, if_true, A.room, h1, List.length_cons]
  rw [if_pos ⟨trivial, trivial, h2⟩]
  have b1 : A.bound (es.length - off) (st.length + 1) none = some (st.length + 1) := rfl
  have b2 : A.bound (st.length + 1) 0 (some (.int .i64 1)) = some 1 := by
   simp only [A.bound]; rw [if_pos (by omega)]; rfl
  rw [b1, Option.bind_some, b2]; rfl
 ·have e := congrArg (List.drop 1) h3
  rw [List.drop_take, List.drop_drop] at e
  simpa using e
end
end Go.Proofs.Ytgjglkakhmikjaa

namespace Go.Proofs.Ytgjglkakhmikjaa
set_option linter.unusedSectionVars false
set_option linter.unusedVariables false
set_option linter.unusedSimpArgs false
open HP
def Inv (k : Nat) (l : List CueD) : Prop := l.length ≤ 1000 ∧ ∀ c ∈ l, srtM c.moves ∧ c.moves.length ≤ 2000 + k
section
variable {σ0 σ : Heap} {R : HP}
end
end Go.Proofs.Ytgjglkakhmikjaa

namespace Go.Proofs.Ytgjglkakhmikjaa
set_option linter.unusedSectionVars false
set_option linter.unusedVariables false
set_option linter.unusedSimpArgs false
set_option maxRecDepth 100000
open HP
theorem wrap_k2 {r : AV → AV → Heap → Option (AV × Heap)} {x y v : AV} {σ : Heap} (h : [x, y].any A.own = false) (e : r x y σ = some (v, σ)) : A.wrap true [] .k (A.ar2 r) [x, y] σ = some (v, σ) := by
 refine wrap_eq h ?_ (nn_k _)
 rw [show A.nnL [] [x, y] = [x, y] by simp [A.nnL]]
 exact e
end Go.Proofs.Ytgjglkakhmikjaa

namespace Go.Proofs.Ytgjglkakhmikjaa
set_option linter.unusedSectionVars false
set_option linter.unusedVariables false
set_option linter.unusedSimpArgs false
set_option maxRecDepth 100000
def rIn : List Int → List Int → List Int → List Int × List Int
 | [], st, seen => (st, seen)
 | k :: r, st, seen => if k ∈ seen then rIn r st seen else rIn r (st ++ [k]) (seen ++ [k])
def rGo (f : Int → List Int) : Nat → List Int → List Int → List Int
 | 0, _, seen => seen
 | m + 1, st, seen => match st.getLast? with
  | none => seen
  | some n => rGo f m (rIn (f n) st.dropLast seen).1 (rIn (f n) st.dropLast seen).2
theorem rGo_nil (f : Int → List Int) (m : Nat) (seen : List Int) : rGo f m [] seen = seen := by cases m <;> rfl
theorem rGo_snoc (f : Int → List Int) (m : Nat) (st : List Int) (n : Int) (seen : List Int) : rGo f (m + 1) (st ++ [n]) seen = rGo f m (rIn (f n) st seen).1 (rIn (f n) st seen).2 := by
 rw [rGo, List.getLast?_concat, List.dropLast_concat]
def nx (U : List (Int × List Int)) (n : Int) : List Int := (tfind n U).getD []
def uVals (U : List (Int × List Int)) : List Int := U.flatMap (·.2)
theorem nx_mem {U : List (Int × List Int)} {n k : Int} (h : k ∈ nx U n) : k ∈ uVals U := by
 unfold nx at h; unfold uVals
 induction U with
 | nil => simp [tfind] at h
 | cons p U ih =>
  rw [tfind] at h
  rw [List.flatMap_cons, List.mem_append]
  by_cases hp : n = p.1
  ·rw [if_pos hp] at h; exact .inl h
  ·rw [if_neg hp] at h; exact .inr (ih h)
theorem nx_len (U : List (Int × List Int)) (n : Int) : (nx U n).length ≤ (uVals U).length := by
 unfold nx uVals
 induction U with
 | nil => simp [tfind]
 | cons p U ih =>
  rw [tfind, List.flatMap_cons, List.length_append]
  by_cases hp : n = p.1
  ·rw [if_pos hp]; simp
  ·rw [if_neg hp]; omega
def reachL (U : List (Int × List Int)) (a : Int) : List Int := rGo (nx U) (2 * (uVals U).length + 1) [a] []
abbrev mSt (V st seen : List Int) : Nat := 2 * unS V seen + st.length
abbrev eS (S : List Int) : List (AV × AV) := S.map fun x => (.int .i64 x, .bool true)
theorem eS_eq (S : List Int) : eS S = (S.map fun x => (x, true)).map fun p => (AV.int .i64 p.1, AV.bool p.2) := by rw [List.map_map]; rfl
theorem tfind_setP (k : Int) (S : List Int) : (tfind k (S.map fun x => (x, true))).getD false = decide (k ∈ S) := by
 induction S with
 | nil => rfl
 | cons x S ih =>
  rw [List.map_cons, tfind]
  by_cases h : k = x
  ·simp [h]
  ·simp [h, ih]
theorem tupd_setP {k : Int} {S : List Int} (h : k ∉ S) : tupd k true (S.map fun x => (x, true)) = (S ++ [k]).map fun x => (x, true) := by
 induction S with
 | nil => rfl
 | cons x S ih =>
  simp only [List.mem_cons, not_or] at h
  rw [List.map_cons, tupd, if_neg h.1, ih h.2]; rfl
theorem looked {σ : Heap} {id : Nat} {S : List Int} (h : σ[id]? = some (.map (eS S))) (k : Int) : A.look .i (.om id) (.int .i64 k) (.bool false) σ = some (.bool (decide (k ∈ S))) := by
 simp only [A.look, A.keyOk, cond_true, A.entries, h, Option.bind_some]
 rw [eS_eq, find_t (eK := fun x : Int => AV.int .i64 x) (eV := fun x : Bool => AV.bool x) (eqk_int _)]
 rw [Option.map_some, ← tfind_setP]
 cases tfind k (S.map fun x => (x, true)) <;> rfl
theorem updated {σ : Heap} {id : Nat} {S : List Int} (h : σ[id]? = some (.map (eS S))) {k : Int} (hk : k ∉ S) : A.mupd .i (.om id) (.int .i64 k) (.bool true) σ = some (σ.set id (.map (eS (S ++ [k])))) := by
 simp only [A.mupd, A.keyOk, cond_true, h]
 rw [eS_eq, show AV.bool true = (fun x : Bool => AV.bool x) true from rfl, upd_t (eK := fun x : Int => AV.int .i64 x) (eV := fun x : Bool => AV.bool x) (eqk_int _), tupd_setP hk, eS_eq]
 rfl
structure RM (σ0 : Heap) (v : AV) (st seen : List Int) (σ : Heap) : Prop where
 len : σ.length = σ0.length + 2
 pre : σ.take σ0.length = σ0
 map : σ[σ0.length]? = some (.map (eS seen))
 stk : StkV σ (σ0.length + 1) v st
theorem reach_t (U : List (Int × List Int)) (hU : (uVals U).length + 1 ≤ apM) (a : Int) (σ0 : Heap) : m_pick_reach [fmE (fun x => AV.int .i64 x) (nslE 1 cInt) U, .int .i64 a] σ0 = some (fmE (fun x => AV.int .i64 x) (fun x => AV.bool x) ((reachL U a).map fun x => (x, true)), σ0) := by
 obtain ⟨fm, hfm⟩ : ∃ fm, fm = fmE (fun x => AV.int .i64 x) (nslE 1 cInt) U := ⟨_, rfl⟩
 have hlook : ∀ n σ, A.look .i fm (.int .i64 n) .nsl σ = some (nslE 1 cInt (nx U n)) := fun n σ => by
  rw [hfm]
  exact fm_lookT (ek := .i) (eK := fun x => AV.int .i64 x) (eV := nslE 1 cInt) (eqk_int _) n ([] : List Int) rfl
 have hfo : [fm, .int .i64 a].any A.own = false := by rw [hfm]; rfl
 rw [← hfm]
 have hV : (uVals U).length ≤ mxl := by unfold apM at hU; unfold mxl; omega
 unfold apM at hU
 have inner : ∀ (n : Int) (v0 : AV) (st0 seen0 : List Int) (σ1 : Heap) (M0 : Nat), ReI (nx U) (uVals U) a (some (n, nx U n)) st0 seen0 → RM σ0 v0 st0 seen0 σ1 → mSt (uVals U) st0 seen0 ≤ M0 →
   ∃ q, A.loop ((fun v21 s22 =>
      (A.lss (v21.getD 1 AV.undef) (.int .i64 ((nx U n).length : Int))).bind fun x24 =>
      A.cond x24 (
       (A.iaddr 1 (nslE 1 cInt (nx U n)) (v21.getD 1 AV.undef)).bind fun x25 =>
       ((A.deref x25 s22).bind fun c26 => A.part1 0 c26).bind fun x27 =>
       (A.look .i (AV.om σ0.length) x27 (AV.bool false) s22).bind fun x28 =>
       (A.not x28).bind fun x29 =>
       (A.cond x29 (
        (A.mupd .i (AV.om σ0.length) x27 (AV.bool true) s22).bind fun h31 =>
        ((((A.cell x27).bind fun v => some [v]).bind fun c32 => (A.splice 0 c32 [(AV.int .i64 0)]).bind fun c33 => some c33).bind fun cs => some (AV.sl 1 (chunks 1 1 cs))).bind fun x34 =>
        (A.append 1 (140737488355328 / 8) (v21.getD 0 AV.undef) x34 h31).bind fun r35 =>
        some ([r35.1], r35.2)) (
        some ([(v21.getD 0 AV.undef)], s22))).bind fun r30 =>
       (A.add (v21.getD 1 AV.undef) (AV.int .i64 1)).bind fun x36 =>
       some (AX.normal, [(r30.1.getD 0 AV.undef), x36], r30.2)) (
       some (AX.exit 2, [(v21.getD 0 AV.undef), (v21.getD 1 AV.undef)], s22)))) [v0, .int .i64 0] σ1 = some q ∧ (q.1 = .exit 2 ∧ ∃ v u, q.2.1 = [v, u] ∧ ReI (nx U) (uVals U) a none (rIn (nx U n) st0 seen0).1 (rIn (nx U n) st0 seen0).2 ∧ RM σ0 v (rIn (nx U n) st0 seen0).1 (rIn (nx U n) st0 seen0).2 q.2.2 ∧ mSt (uVals U) (rIn (nx U n) st0 seen0).1 (rIn (nx U n) st0 seen0).2 ≤ M0) := by
  intro n v0 st0 seen0 σ1 M0 H0 R0 hM0
  obtain ⟨T, hT⟩ : ∃ T, T = rIn (nx U n) st0 seen0 := ⟨_, rfl⟩
  rw [← hT]
  have hxl : (nx U n).length ≤ mxl := Nat.le_trans (nx_len U n) hV
  refine loop_hs (nx U n) (fun i v σ => ∃ w st seen, v = [w, .int .i64 (i : Int)] ∧ ReI (nx U) (uVals U) a (some (n, (nx U n).drop i)) st seen ∧ RM σ0 w st seen σ ∧ mSt (uVals U) st seen ≤ M0 ∧ rIn ((nx U n).drop i) st seen = T) ?_ ?_ ⟨v0, st0, seen0, rfl, by simpa using H0, R0, hM0, by simp [hT]⟩
  ·rintro i x v σ hx ⟨w, st, seen, rfl, H, R, hM, hE⟩
   have hi := (List.getElem?_eq_some_iff.1 hx).1
   have hdr : (nx U n).drop i = x :: (nx U n).drop (i + 1) := by rw [List.drop_eq_getElem_cons hi, (List.getElem?_eq_some_iff.1 hx).2]
   rw [hdr] at H hE
   rw [rIn] at hE
   have a1 : A.lss (.int .i64 (i : Int)) (.int .i64 ((nx U n).length : Int)) = some (.bool true) := ix_lt hx
   have a2 : A.add (.int .i64 (i : Int)) (.int .i64 1) = some (.int .i64 ((i + 1 : Nat) : Int)) := ix_inc hx hxl
   have a3 : A.iaddr 1 (nslE 1 cInt (nx U n)) (.int .i64 (i : Int)) = some (.rp (cInt x)) := ix_forN hx
   have a4 := looked R.map x
   by_cases hk : x ∈ seen
   ·rw [if_pos hk] at hE
    refine ⟨_, σ, ?_, w, st, seen, rfl, H.skip hk, R, hM, hE⟩
    simp only [List.getD_cons_zero, List.getD_cons_succ, a1, a2, a3, bS, cT, dRp, p1_cInt, a4, decide_eq_true hk, notT, cF]
   ·rw [if_neg hk] at hE
    have hxV : x ∈ uVals U := nx_mem ((H.here n _ rfl).2 x (by simp))
    have H2 := H.push hk hxV
    have u1 := updated R.map hk
    let σ2 : Heap := σ.set σ0.length (.map (eS (seen ++ [x])))
    have g2 : ∀ j, j ≠ σ0.length → σ2[j]? = σ[j]? := fun j hj => List.getElem?_set_ne (by omega)
    have hlt := unS_lt hxV hk
    obtain ⟨w', σ3, e3, s3, l3, k3⟩ := (R.stk.other (σ' := σ2) (g2 _ (by omega))).app (x := x) (by have := H.few; unfold apM; omega)
    have c1 : (((A.cell (.int .i64 x)).bind fun v => some [v]).bind fun c32 => (A.splice 0 c32 [(AV.int .i64 0)]).bind fun c33 => some c33).bind (fun cs => some (AV.sl 1 (chunks 1 1 cs))) = some (.sl 1 [[.int .i64 x]]) := rfl
    have e3' : A.append 1 (140737488355328 / 8) w (.sl 1 [[.int .i64 x]]) (σ.set σ0.length (.map (eS (seen ++ [x])))) = some (w', σ3) := e3
    have hl2 : σ2.length = σ0.length + 2 := by simp [σ2, R.len]
    refine ⟨_, σ3, ?_, w', st ++ [x], seen ++ [x], rfl, H2, ⟨by omega, take_same R.pre fun j hj => by rw [k3 j (by omega), g2 j (by omega)], by rw [k3 _ (by omega)]; exact List.getElem?_set_self (by have := R.len; omega), s3⟩, by unfold mSt at hM ⊢; rw [List.length_append, List.length_singleton]; omega, hE⟩
    simp only [List.getD_cons_zero, List.getD_cons_succ, a1, a2, a3, bS, cT, dRp, p1_cInt, a4, decide_eq_false hk, notF, u1, c1, e3']
  ·rintro v σ ⟨w, st, seen, rfl, H, R, hM, hE⟩
   rw [List.drop_length] at H hE
   rw [rIn] at hE
   subst hE
   refine ⟨(.exit 2, [w, .int .i64 ((nx U n).length : Int)], σ), ?_, by simp, rfl, w, _, rfl, H.done, R, hM⟩
   simp only [List.getD_cons_zero, List.getD_cons_succ, ix_end, bS, cF]
 have outer : ∃ q, A.loop ((fun v6 s7 =>
   (A.lenS (v6.getD 0 AV.undef)).bind fun x9 =>
   (A.gtr x9 (AV.int .i64 0)).bind fun x10 =>
   A.cond x10 (
    (A.lenS (v6.getD 0 AV.undef)).bind fun x11 =>
    (A.sub x11 (AV.int .i64 1)).bind fun x12 =>
    (A.iaddr 1 (v6.getD 0 AV.undef) x12).bind fun x13 =>
    ((A.deref x13 s7).bind fun c14 => A.part1 0 c14).bind fun x15 =>
    (A.lenS (v6.getD 0 AV.undef)).bind fun x16 =>
    (A.sub x16 (AV.int .i64 1)).bind fun x17 =>
    (A.sliceS 1 (v6.getD 0 AV.undef) none (some x17) s7).bind fun x18 =>
    (A.look .i fm x15 AV.nsl s7).bind fun x19 =>
    (A.lenS x19).bind fun x20 =>
    (A.loop (fun v21 s22 =>
      (A.lss (v21.getD 1 AV.undef) x20).bind fun x24 =>
      A.cond x24 (
       (A.iaddr 1 x19 (v21.getD 1 AV.undef)).bind fun x25 =>
       ((A.deref x25 s22).bind fun c26 => A.part1 0 c26).bind fun x27 =>
       (A.look .i (AV.om σ0.length) x27 (AV.bool false) s22).bind fun x28 =>
       (A.not x28).bind fun x29 =>
       (A.cond x29 (
        (A.mupd .i (AV.om σ0.length) x27 (AV.bool true) s22).bind fun h31 =>
        ((((A.cell x27).bind fun v => some [v]).bind fun c32 => (A.splice 0 c32 [(AV.int .i64 0)]).bind fun c33 => some c33).bind fun cs => some (AV.sl 1 (chunks 1 1 cs))).bind fun x34 =>
        (A.append 1 (140737488355328 / 8) (v21.getD 0 AV.undef) x34 h31).bind fun r35 =>
        some ([r35.1], r35.2)) (
        some ([(v21.getD 0 AV.undef)], s22))).bind fun r30 =>
       (A.add (v21.getD 1 AV.undef) (AV.int .i64 1)).bind fun x36 =>
       some (AX.normal, [(r30.1.getD 0 AV.undef), x36], r30.2)) (
       some (AX.exit 2, [(v21.getD 0 AV.undef), (v21.getD 1 AV.undef)], s22))) [x18, (AV.int .i64 0)] s7).bind fun r37 =>
    bif r37.1 == AX.exit 2 then (
     some (AX.normal, [(r37.2.1.getD 0 AV.undef)], r37.2.2)) else
    none) (
    some (AX.exit 0, [(v6.getD 0 AV.undef)], s7)))) [.os (σ0.length + 1) 1 1 0 1] (σ0 ++ [.map [], .arr 1 1 [[.int .i64 a]]]) = some q ∧ (q.1 = .exit 0 ∧ q.2.2.length = σ0.length + 2 ∧ q.2.2.take σ0.length = σ0 ∧ q.2.2[σ0.length]? = some (.map (eS (reachL U a)))) := by
  refine loop_ms (fun N v σ => ∃ w st seen, v = [w] ∧ ReI (nx U) (uVals U) a none st seen ∧ RM σ0 w st seen σ ∧ mSt (uVals U) st seen ≤ N ∧ rGo (nx U) N st seen = reachL U a) ?_ (n := 2 * (uVals U).length + 1) ⟨_, [a], [], rfl, .start, ⟨by simp, by simp, by simp [eS], ⟨1, 0, [[.int .i64 a]], rfl, by simp, by simp, by simp [cInt]⟩⟩, by have := unS_le (uVals U) []; unfold mSt; simp; omega, rfl⟩
  rintro N v σ ⟨w, st, seen, rfl, H, R, hM, hE⟩
  have hlen := R.stk.len
  rcases List.eq_nil_or_concat st with rfl | ⟨st', n, rfl⟩
  ·right
   rw [rGo_nil] at hE
   subst hE
   refine ⟨(.exit 0, [w], σ), ?_, by simp, rfl, R.len, R.pre, R.map⟩
   have g0 : A.gtr (.int .i64 (([] : List Int).length : Int)) (.int .i64 0) = some (.bool false) := rfl
   simp only [List.getD_cons_zero, hlen, bS, g0, cF]
  ·left
   rw [List.concat_eq_append] at *
   have hst : st'.length + 1 ≤ (uVals U).length + 1 := by have := H.few; simp at this; omega
   obtain ⟨w', e1, s1⟩ := R.stk.front
   have hx : (st' ++ [n])[st'.length]? = some n := by simp
   obtain ⟨p, e2, e3⟩ := R.stk.at hx
   have H1 : ReI (nx U) (uVals U) a (some (n, nx U n)) st' seen := H.pop (fun x => by simp [or_comm]) (by simp)
   have hM1 : mSt (uVals U) st' seen ≤ N - 1 := by unfold mSt at hM ⊢; simp at hM; omega
   have hN : N = N - 1 + 1 := by unfold mSt at hM; simp at hM; omega
   obtain ⟨⟨q1, q2, σ3⟩, e4, rfl, w3, u, rfl, H3, R3, M3⟩ := inner n w' st' seen σ (N - 1) H1 ⟨R.len, R.pre, R.map, s1⟩ hM1
   rw [hN, rGo_snoc] at hE
   refine ⟨N - 1, [w3], σ3, by omega, ?_, w3, _, _, rfl, H3, R3, M3, hE⟩
   have g0 : A.gtr (.int .i64 ((st' ++ [n]).length : Int)) (.int .i64 0) = some (.bool true) := by
    simp only [A.gtr, if_true]; rw [decide_eq_true (by simp)]
   have g1 : A.sub (.int .i64 ((st' ++ [n]).length : Int)) (.int .i64 1) = some (.int .i64 (st'.length : Int)) := by
    simp only [A.sub, if_true]; rw [wrap64 (by unfold inI; simp; omega)]; simp
   simp only [List.getD_cons_zero, hlen, bS, g0, g1, cT, e2, e3, p1_cInt, e1, hlook, lenS_ns, e4, exE]
 obtain ⟨⟨qa, qv, σ4⟩, e4, rfl, h1, h2, h3⟩ := outer
 refine wrap_k2 hfo ?_
 unfold r_pick_reach
 have c1 : (((A.cell (.int .i64 a)).bind fun v => some [v]).bind fun c32 => (A.splice 0 c32 [(AV.int .i64 0)]).bind fun c33 => some c33).bind (fun cs => some (AV.sl 1 (chunks 1 1 cs))) = some (.sl 1 [[.int .i64 a]]) := rfl
 have l1 : ∀ (k : Nat → List (List AV) → Option (AV × Heap)), A.litK (.sl 1 [[.int .i64 a]]) k = k 1 [[.int .i64 a]] := fun k => rfl
 have hz : A.fin σ0 (.om σ0.length) σ4 = some (fmE (fun x => AV.int .i64 x) (fun x => AV.bool x) ((reachL U a).map fun x => (x, true)), σ0) := by
  unfold A.fin
  have h1' : List.length σ4 = σ0.length + 2 := h1
  rw [if_neg (fun e => by rw [e] at h1'; omega), if_pos h2]
  have h3' : σ4[σ0.length]? = some (.map (eS (reachL U a))) := h3
  simp only [A.frz, Nat.lt_irrefl, if_false, h3']
  rw [frzM_fz 7 (fun p hp => by obtain ⟨x, _, rfl⟩ := List.mem_map.1 hp; exact ⟨fz_int _ _, fz_bool _⟩), eS_eq]
  rfl
 have e0 : (σ0 ++ [Blk.map []]).length = σ0.length + 1 := by simp
 have e5 : (σ0 ++ [Blk.map []]) ++ [Blk.arr 1 1 [[.int .i64 a]]] = σ0 ++ [.map [], .arr 1 1 [[.int .i64 a]]] := by simp
 simp only [c1, bS, l1, List.length_singleton, e0, e5, e4, exE, hz]
end Go.Proofs.Ytgjglkakhmikjaa

namespace Go.Proofs.Ytgjglkakhmikjaa
set_option linter.unusedSectionVars false
set_option linter.unusedVariables false
set_option linter.unusedSimpArgs false
set_option maxRecDepth 100000
def rGoQ (f : Int → List Int) : Nat → List Int → List Int → List Int
 | 0, _, seen => seen
 | _ + 1, [], seen => seen
 | m + 1, n :: st, seen => rGoQ f m (rIn (f n) st seen).1 (rIn (f n) st seen).2
theorem rGoQ_nil (f : Int → List Int) (m : Nat) (seen : List Int) : rGoQ f m [] seen = seen := by cases m <;> rfl
def zeroG : GroupD := ⟨0, .mk 0 0 0 []⟩
def grpO (l : List GroupD) (n : Int) : Option GroupD := l.find? fun g => decide (g.number = n)
theorem GroupOf_t (l : List GroupD) (hl : l.length ≤ mxl) (n : Int) : t_R4_GroupOf l n = some ((grpO l n).getD zeroG, (grpO l n).isSome) := by
 unfold t_R4_GroupOf
 rw [forE_find (p := fun g => decide (g.number = n)) (r := fun g => (g, true)) hl (fun i x _ => by
  by_cases h : x.number = n <;> simp [h]) rfl]
 unfold grpO
 cases l.find? fun g => decide (g.number = n) <;> rfl
def nxR (l : List GroupD) (n : Int) : List Int := pNamed 2 ((grpO l n).getD zeroG).pick
def gVals (l : List GroupD) : List Int := l.flatMap fun g => pNamed 2 g.pick
theorem nxR_eq (l : List GroupD) (n : Int) : nxR l n = nx (usesL l) n := by
 unfold nxR nx usesL grpO
 induction l with
 | nil => rfl
 | cons g l ih =>
  rw [List.map_cons, tfind, List.find?_cons]
  by_cases h : g.number = n
  ·rw [if_pos h.symm, decide_eq_true h]; rfl
  ·rw [if_neg (Ne.symm h), decide_eq_false h]; exact ih
theorem gVals_eq (l : List GroupD) : gVals l = uVals (usesL l) := by
 unfold gVals uVals usesL
 rw [List.flatMap_map]
def reachedL (l : List GroupD) (a : Int) : List Int := rGoQ (nxR l) (2 * (gVals l).length + 1) [a] []
theorem contains_ns {σ : Heap} {lo hi : Nat} {v : AV} {xs : List Int} (h : NsV σ lo hi v xs) (hl : xs.length ≤ mxl) (k : Int) : m_slices_Contains_int [v, .int .i64 k] σ = some (.bool (decide (k ∈ xs)), σ) := by
 have e0 : (xs.any fun x => decide (k = x)) = decide (k ∈ xs) := by
  rw [Bool.eq_iff_iff]; simp
 rcases h with ⟨rfl, rfl⟩ | ⟨id, g, rfl, a, b, c, e⟩
 ·have h0 := m_slices_Contains_int_eq [] hl k σ
  rw [e0] at h0
  exact (wrap_nn rfl rfl rfl : m_slices_Contains_int [.nsl, .int .i64 k] σ = m_slices_Contains_int [sl 1 cInt ([] : List Int), .int .i64 k] σ).trans h0
 ·refine wrap_own (args' := [sl 1 cInt xs, .int .i64 k]) rfl ?_ rfl (by rw [← e0]; exact m_slices_Contains_int_eq xs hl k []) rfl
  have h1 : NsV σ 0 hi (.os id g 1 0 xs.length) xs := .inr ⟨id, g, rfl, by omega, b, c, e⟩
  have h2 := h1.frz (Nat.le_refl 0) 7
  rw [nslE_ne e] at h2
  have h3 : A.frz σ 0 8 (.int .i64 k) = some (.int .i64 k) := fz_int _ _ σ 0 8
  simp only [A.frzL, h2, h3, Option.bind_some]
  rfl
theorem wr2 {s : List Sh} {ro : Sh} {r : AV → AV → Heap → Option (AV × Heap)} {x y v v' : AV} {σ : Heap} (h : [x, y].any A.own = false) (e1 : A.nnL s [x, y] = [x, y]) (e2 : A.nn ro v = v') (e : r x y σ = some (v, σ)) : A.wrap true s ro (A.ar2 r) [x, y] σ = some (v', σ) := by
 refine wrap_eq h ?_ e2
 rw [e1]; exact e
structure RQ (σ0 : Heap) (vo vt : AV) (st seen : List Int) (σ : Heap) : Prop where
 len : σ0.length < σ.length
 pre : σ.take σ0.length = σ0
 stk : StkV σ σ0.length vt st
 out : NsV σ (σ0.length + 1) σ.length vo seen
theorem reached_t (l : List GroupD) (hn : l.length ≤ mxl) (hs : ∀ g ∈ l, pSize g.pick ≤ 2000000) (hU : (gVals l).length + 1 ≤ apM) (a : Int) (σ0 : Heap) : m_R4_reached [sl 5 cGroup l, .int .i64 a] σ0 = some (sl 1 cInt (reachedL l a), σ0) := by
 have hVm : ∀ n k, k ∈ nxR l n → k ∈ gVals l := fun n k h => by rw [nxR_eq] at h; rw [gVals_eq]; exact nx_mem h
 have hVl : ∀ n, (nxR l n).length ≤ (gVals l).length := fun n => by rw [nxR_eq, gVals_eq]; exact nx_len _ _
 have hV : (gVals l).length ≤ mxl := by unfold apM at hU; unfold mxl; omega
 unfold apM at hU
 have hz : ∀ n, pSize ((grpO l n).getD zeroG).pick ≤ 2000000 := fun n => by
  cases h : grpO l n with
  | none => decide
  | some g => exact hs g (List.mem_of_find?_eq_some h)
 have inner : ∀ (n : Int) (vo vt : AV) (st0 seen0 : List Int) (σ1 : Heap) (M0 : Nat), ReI (nxR l) (gVals l) a (some (n, nxR l n)) st0 seen0 → RQ σ0 vo vt st0 seen0 σ1 → mSt (gVals l) st0 seen0 ≤ M0 → seen0.length + unS (gVals l) seen0 ≤ (gVals l).length →
   ∃ q, A.loop ((fun v23 s24 =>
      (A.lss (v23.getD 2 AV.undef) (.int .i64 ((nxR l n).length : Int))).bind fun x26 =>
      A.cond x26 (
       (A.iaddr 1 (sl 1 cInt (nxR l n)) (v23.getD 2 AV.undef)).bind fun x27 =>
       ((A.deref x27 s24).bind fun c28 => A.part1 0 c28).bind fun x29 =>
       (m_slices_Contains_int [(v23.getD 0 AV.undef), x29] s24).bind fun r30 =>
       (A.not r30.1).bind fun x31 =>
       (A.cond x31 (
        ((((A.cell x29).bind fun v => some [v]).bind fun c33 => (A.splice 0 c33 [(AV.int .i64 0)]).bind fun c34 => some c34).bind fun cs => some (AV.sl 1 (chunks 1 1 cs))).bind fun x35 =>
        (A.append 1 (140737488355328 / 8) (v23.getD 0 AV.undef) x35 r30.2).bind fun r36 =>
        ((((A.cell x29).bind fun v => some [v]).bind fun c37 => (A.splice 0 c37 [(AV.int .i64 0)]).bind fun c38 => some c38).bind fun cs => some (AV.sl 1 (chunks 1 1 cs))).bind fun x39 =>
        (A.append 1 (140737488355328 / 8) (v23.getD 1 AV.undef) x39 r36.2).bind fun r40 =>
        some ([r36.1, r40.1], r40.2)) (
        some ([(v23.getD 0 AV.undef), (v23.getD 1 AV.undef)], r30.2))).bind fun r32 =>
       (A.add (v23.getD 2 AV.undef) (AV.int .i64 1)).bind fun x41 =>
       some (AX.normal, [(r32.1.getD 0 AV.undef), (r32.1.getD 1 AV.undef), x41], r32.2)) (
       some (AX.exit 2, [(v23.getD 0 AV.undef), (v23.getD 1 AV.undef), (v23.getD 2 AV.undef)], s24)))) [vo, vt, .int .i64 0] σ1 = some q ∧ (q.1 = .exit 2 ∧ ∃ vo' vt' u, q.2.1 = [vo', vt', u] ∧ ReI (nxR l) (gVals l) a none (rIn (nxR l n) st0 seen0).1 (rIn (nxR l n) st0 seen0).2 ∧ RQ σ0 vo' vt' (rIn (nxR l n) st0 seen0).1 (rIn (nxR l n) st0 seen0).2 q.2.2 ∧ mSt (gVals l) (rIn (nxR l n) st0 seen0).1 (rIn (nxR l n) st0 seen0).2 ≤ M0 ∧ (rIn (nxR l n) st0 seen0).2.length + unS (gVals l) (rIn (nxR l n) st0 seen0).2 ≤ (gVals l).length) := by
  intro n vo0 vt0 st0 seen0 σ1 M0 H0 R0 hM0 hK0
  obtain ⟨T, hT⟩ : ∃ T, T = rIn (nxR l n) st0 seen0 := ⟨_, rfl⟩
  rw [← hT]
  have hxl : (nxR l n).length ≤ mxl := Nat.le_trans (hVl n) hV
  refine loop_hs (nxR l n) (fun i v σ => ∃ vo vt st seen, v = [vo, vt, .int .i64 (i : Int)] ∧ ReI (nxR l) (gVals l) a (some (n, (nxR l n).drop i)) st seen ∧ RQ σ0 vo vt st seen σ ∧ mSt (gVals l) st seen ≤ M0 ∧ seen.length + unS (gVals l) seen ≤ (gVals l).length ∧ rIn ((nxR l n).drop i) st seen = T) ?_ ?_ ⟨vo0, vt0, st0, seen0, rfl, by simpa using H0, R0, hM0, hK0, by simp [hT]⟩
  ·rintro i x v σ hx ⟨vo, vt, st, seen, rfl, H, R, hM, hK, hE⟩
   have hi := (List.getElem?_eq_some_iff.1 hx).1
   have hdr : (nxR l n).drop i = x :: (nxR l n).drop (i + 1) := by rw [List.drop_eq_getElem_cons hi, (List.getElem?_eq_some_iff.1 hx).2]
   rw [hdr] at H hE
   rw [rIn] at hE
   have a1 : A.lss (.int .i64 (i : Int)) (.int .i64 ((nxR l n).length : Int)) = some (.bool true) := ix_lt hx
   have a2 : A.add (.int .i64 (i : Int)) (.int .i64 1) = some (.int .i64 ((i + 1 : Nat) : Int)) := ix_inc hx hxl
   have a3 : A.iaddr 1 (sl 1 cInt (nxR l n)) (.int .i64 (i : Int)) = some (.rp (cInt x)) := ix_for hx
   have a4 := contains_ns R.out (by unfold mxl at *; omega) x
   by_cases hk : x ∈ seen
   ·rw [if_pos hk] at hE
    refine ⟨_, σ, ?_, vo, vt, st, seen, rfl, H.skip hk, R, hM, hK, hE⟩
    simp only [List.getD_cons_zero, List.getD_cons_succ, a1, a2, a3, bS, cT, dRp, p1_cInt, a4, decide_eq_true hk, notT, cF]
   ·rw [if_neg hk] at hE
    have hxV : x ∈ gVals l := hVm n x ((H.here n _ rfl).2 x (by simp))
    have H2 := H.push hk hxV
    have hlt := unS_lt hxV hk
    have hfew := H.few
    obtain ⟨vo', σ2, e2, o2, l2, k2⟩ := app_ns (x := x) R.out (by have := R.len; omega) (Nat.le_refl _) (by unfold apM; omega)
    have hlen := R.len
    obtain ⟨vt', σ3, e3, s3, l3, k3⟩ := (R.stk.other (σ' := σ2) (k2 _ (by omega) (by omega))).app (x := x) (by unfold apM; omega)
    have c1 : (((A.cell (.int .i64 x)).bind fun v => some [v]).bind fun c32 => (A.splice 0 c32 [(AV.int .i64 0)]).bind fun c33 => some c33).bind (fun cs => some (AV.sl 1 (chunks 1 1 cs))) = some (.sl 1 [[.int .i64 x]]) := rfl
    refine ⟨_, σ3, ?_, vo', vt', st ++ [x], seen ++ [x], rfl, H2, ⟨by omega, take_same R.pre fun j hj => by rw [k3 j (by omega), k2 j (by omega) (by omega)], s3, o2.mono (Nat.le_refl _) (by omega) fun j p q => k3 j (by omega)⟩, by unfold mSt at hM ⊢; rw [List.length_append, List.length_singleton]; omega, by rw [List.length_append, List.length_singleton]; omega, hE⟩
    simp only [List.getD_cons_zero, List.getD_cons_succ, a1, a2, a3, bS, cT, dRp, p1_cInt, a4, decide_eq_false hk, notF, c1, e2, e3]
  ·rintro v σ ⟨vo, vt, st, seen, rfl, H, R, hM, hK, hE⟩
   rw [List.drop_length] at H hE
   rw [rIn] at hE
   subst hE
   refine ⟨(.exit 2, [vo, vt, .int .i64 ((nxR l n).length : Int)], σ), ?_, by simp, rfl, vo, vt, _, rfl, H.done, R, hM, hK⟩
   simp only [List.getD_cons_zero, List.getD_cons_succ, ix_end, bS, cF]
 have outer : ∃ q, A.loop ((fun v6 s7 =>
   (A.lenS (v6.getD 1 AV.undef)).bind fun x9 =>
   (A.gtr x9 (AV.int .i64 0)).bind fun x10 =>
   A.cond x10 (
    (A.iaddr 1 (v6.getD 1 AV.undef) (AV.int .i64 0)).bind fun x11 =>
    ((A.deref x11 s7).bind fun c12 => A.part1 0 c12).bind fun x13 =>
    (m_R4_GroupOf [(sl 5 cGroup l), x13] s7).bind fun r14 =>
    (A.ext 0 r14.1).bind fun x15 =>
    (A.ext 1 r14.1).bind fun x16 =>
    (A.cells 5 x15).bind fun c17 =>
    (A.splice 0 c17 [(AV.int .i64 0), (AV.int .i64 0), (AV.int .i64 0), (AV.int .i64 0), AV.nsl]).bind fun c18 =>
    (A.sliceS 1 (v6.getD 1 AV.undef) (some (AV.int .i64 1)) none r14.2).bind fun x19 =>
    (A.partA 1 4 c18).bind fun x20 =>
    (m_R4_Named [x20, (AV.int .i64 2)] r14.2).bind fun r21 =>
    (A.lenS r21.1).bind fun x22 =>
    (A.loop (fun v23 s24 =>
      (A.lss (v23.getD 2 AV.undef) x22).bind fun x26 =>
      A.cond x26 (
       (A.iaddr 1 r21.1 (v23.getD 2 AV.undef)).bind fun x27 =>
       ((A.deref x27 s24).bind fun c28 => A.part1 0 c28).bind fun x29 =>
       (m_slices_Contains_int [(v23.getD 0 AV.undef), x29] s24).bind fun r30 =>
       (A.not r30.1).bind fun x31 =>
       (A.cond x31 (
        ((((A.cell x29).bind fun v => some [v]).bind fun c33 => (A.splice 0 c33 [(AV.int .i64 0)]).bind fun c34 => some c34).bind fun cs => some (AV.sl 1 (chunks 1 1 cs))).bind fun x35 =>
        (A.append 1 (140737488355328 / 8) (v23.getD 0 AV.undef) x35 r30.2).bind fun r36 =>
        ((((A.cell x29).bind fun v => some [v]).bind fun c37 => (A.splice 0 c37 [(AV.int .i64 0)]).bind fun c38 => some c38).bind fun cs => some (AV.sl 1 (chunks 1 1 cs))).bind fun x39 =>
        (A.append 1 (140737488355328 / 8) (v23.getD 1 AV.undef) x39 r36.2).bind fun r40 =>
        some ([r36.1, r40.1], r40.2)) (
        some ([(v23.getD 0 AV.undef), (v23.getD 1 AV.undef)], r30.2))).bind fun r32 =>
       (A.add (v23.getD 2 AV.undef) (AV.int .i64 1)).bind fun x41 =>
       some (AX.normal, [(r32.1.getD 0 AV.undef), (r32.1.getD 1 AV.undef), x41], r32.2)) (
       some (AX.exit 2, [(v23.getD 0 AV.undef), (v23.getD 1 AV.undef), (v23.getD 2 AV.undef)], s24))) [(v6.getD 0 AV.undef), x19, (AV.int .i64 0)] r21.2).bind fun r42 =>
    bif r42.1 == AX.exit 2 then (
     some (AX.normal, [(r42.2.1.getD 0 AV.undef), (r42.2.1.getD 1 AV.undef)], r42.2.2)) else
    none) (
    some (AX.exit 0, [(v6.getD 0 AV.undef), (v6.getD 1 AV.undef)], s7)))) [.nsl, .os σ0.length 1 1 0 1] (σ0 ++ [.arr 1 1 [[.int .i64 a]]]) = some q ∧ (q.1 = .exit 0 ∧ ∃ vo vt, q.2.1 = [vo, vt] ∧ RQ σ0 vo vt [] (reachedL l a) q.2.2) := by
  refine loop_ms (fun N v σ => ∃ vo vt st seen, v = [vo, vt] ∧ ReI (nxR l) (gVals l) a none st seen ∧ RQ σ0 vo vt st seen σ ∧ mSt (gVals l) st seen ≤ N ∧ seen.length + unS (gVals l) seen ≤ (gVals l).length ∧ rGoQ (nxR l) N st seen = reachedL l a) ?_ (n := 2 * (gVals l).length + 1) ⟨_, _, [a], [], rfl, .start, ⟨by simp, by simp, ⟨1, 0, [[.int .i64 a]], rfl, by simp, by simp, by simp [cInt]⟩, .inl ⟨rfl, rfl⟩⟩, by have := unS_le (gVals l) []; unfold mSt; simp; omega, by have := unS_le (gVals l) []; simp; omega, rfl⟩
  rintro N v σ ⟨vo, vt, st, seen, rfl, H, R, hM, hK, hE⟩
  have hlen := R.stk.len
  cases st with
  | nil =>
   right
   rw [rGoQ_nil] at hE
   subst hE
   refine ⟨(.exit 0, [vo, vt], σ), ?_, by simp, rfl, vo, vt, rfl, R⟩
   have g0 : A.gtr (.int .i64 (([] : List Int).length : Int)) (.int .i64 0) = some (.bool false) := rfl
   simp only [List.getD_cons_zero, List.getD_cons_succ, hlen, bS, g0, cF]
  | cons n st' =>
   left
   obtain ⟨w', e1, s1⟩ := R.stk.back
   obtain ⟨p, e2, e3⟩ := R.stk.at (i := 0) (x := n) rfl
   have H1 : ReI (nxR l) (gVals l) a (some (n, nxR l n)) st' seen := H.pop (fun x => by simp) (by simp)
   have hM1 : mSt (gVals l) st' seen ≤ N - 1 := by unfold mSt at hM ⊢; simp at hM; omega
   have hN : N = N - 1 + 1 := by unfold mSt at hM; simp at hM; omega
   obtain ⟨⟨q1, q2, σ3⟩, e4, rfl, vo3, vt3, u, rfl, H3, R3, M3, K3⟩ := inner n vo w' st' seen σ (N - 1) H1 ⟨R.len, R.pre, s1, R.out⟩ hM1 hK
   rw [hN, rGoQ] at hE
   refine ⟨N - 1, [vo3, vt3], σ3, by omega, ?_, vo3, vt3, _, _, rfl, H3, R3, M3, K3, hE⟩
   have g0 : A.gtr (.int .i64 ((n :: st').length : Int)) (.int .i64 0) = some (.bool true) := by
    simp only [A.gtr, if_true]; rw [decide_eq_true (by simp)]
   have g1 := h_R4_GroupOf (σ := σ) (GroupOf_t l hn n)
   have g2 : m_R4_Named [.agg (cPick ((grpO l n).getD zeroG).pick), .int .i64 2] σ = some (sl 1 cInt (nxR l n), σ) := Named_t 2000000 ((grpO l n).getD zeroG).pick 2 σ (Nat.le_trans (pDeep_size _) (hz n)) (Nat.le_trans (hz n) (by decide))
   have g3 : A.partA 1 4 (cGroup ((grpO l n).getD zeroG)) = some (.agg (cPick ((grpO l n).getD zeroG).pick)) := by rw [cGroup_pick, cPick_eq]; rfl
   have g4 : ∀ g, A.cells 5 (.agg (cGroup g)) = some (cGroup g) := fun g => rfl
   have g5 : ∀ g, A.splice 0 (cGroup g) [(AV.int .i64 0), (AV.int .i64 0), (AV.int .i64 0), (AV.int .i64 0), AV.nsl] = some (cGroup g) := fun g => sp_cGroup g _ rfl
   have g6 : ∀ x y, A.ext 0 (.tup [x, y]) = some x := fun _ _ => rfl
   have g7 : ∀ x y, A.ext 1 (.tup [x, y]) = some y := fun _ _ => rfl
   have e2' : A.iaddr 1 vt (.int .i64 0) = some p := e2
   simp only [List.getD_cons_zero, List.getD_cons_succ, hlen, bS, g0, cT, e2', e3, p1_cInt, g1, g6, g7, g4, g5, e1, g3, g2, lenS_sl, e4, exE]
 obtain ⟨⟨qa, qv, σ4⟩, e4, rfl, vo, vt, rfl, R⟩ := outer
 refine wr2 rfl rfl ?_ ?_ (v := nslE 1 cInt (reachedL l a))
 ·cases reachedL l a <;> rfl
 unfold r_R4_reached
 have c1 : (((A.cell (.int .i64 a)).bind fun v => some [v]).bind fun c32 => (A.splice 0 c32 [(AV.int .i64 0)]).bind fun c33 => some c33).bind (fun cs => some (AV.sl 1 (chunks 1 1 cs))) = some (.sl 1 [[.int .i64 a]]) := rfl
 have l1 : ∀ (k : Nat → List (List AV) → Option (AV × Heap)), A.litK (.sl 1 [[.int .i64 a]]) k = k 1 [[.int .i64 a]] := fun k => rfl
 have hz : A.fin σ0 vo σ4 = some (nslE 1 cInt (reachedL l a), σ0) := by
  have h1 : σ0.length < σ4.length := R.len
  unfold A.fin
  rw [if_neg (fun e => by rw [e] at h1; omega), if_pos R.pre, R.out.frz (by omega) 7]
  rfl
 simp only [c1, bS, l1, List.length_singleton, e4, exE, List.getD_cons_zero, hz]
end Go.Proofs.Ytgjglkakhmikjaa

namespace Go.Proofs.Ytgjglkakhmikjaa
set_option linter.unusedSectionVars false
set_option linter.unusedSimpArgs false
set_option linter.unusedVariables false
theorem size_m (p : PickD) (h : pSize p ≤ 2000000) (σ : Heap) : m_pick_size [.agg (cPick p)] σ = some (.tup [.int .i64 (pSize p : Int), .int .i64 (pDeep p : Int)], σ) := size_t 2000000 p σ (Nat.le_trans (pDeep_size p) h) (Nat.le_trans h (by decide))
theorem check_m (p : PickD) (h : pSize p ≤ 2000000) (σ : Heap) : m_pick_check [.agg (cPick p)] σ = some (.int .i64 (pChk p), σ) := check_t 2000000 p σ (Nat.le_trans (pDeep_size p) h) (Nat.le_trans h (by decide))
theorem checkPart_m (p : PickD) (h : pSize p ≤ 2000000) (σ : Heap) : m_R4_checkPart [.agg (cPick p)] σ = some (.int .i64 (pChk p), σ) := checkPart_t 2000000 p σ (Nat.le_trans (pDeep_size p) h) (Nat.le_trans h (by decide))
theorem parts_m (p : PickD) (lv : Int) (h : pSize p ≤ 2000000 ∧ lv = 1) (σ : Heap) : m_R4_parts [.agg (cPick p), .int .i64 lv] σ = some (.tup [.int .i64 ((rP 1 p).1 : Int), .int .i64 ((rP 1 p).2 : Int)], σ) := by
 rw [h.2]
 exact parts_t 2000000 p 1 σ (by decide) (by decide) (Nat.le_trans h.1 (by decide))
theorem Named_m (p : PickD) (k : Int) (h : pSize p ≤ 2000000) (σ : Heap) : m_R4_Named [.agg (cPick p), .int .i64 k] σ = some (sl 1 cInt (pNamed k p), σ) := Named_t 2000000 p k σ (Nat.le_trans (pDeep_size p) h) (Nat.le_trans h (by decide))
end Go.Proofs.Ytgjglkakhmikjaa

namespace Go.Proofs.Ytgjglkakhmikjaa
set_option linter.unusedSectionVars false
set_option linter.unusedVariables false
set_option linter.unusedSimpArgs false
set_option maxRecDepth 100000
noncomputable def t_pick_Check (a0 : PickD) : Option Int :=
 (tq (pSize a0 ≤ 2000000) (((pSize a0 : Int), (pDeep a0 : Int)))).bind fun r1 =>
 if ((decide (200 < r1.1)) || (decide (12 < r1.2))) = true then
  some 2
 else
 (tq (pSize a0 ≤ 2000000) (pChk a0)).bind fun r2 =>
 some r2
theorem h_pick_Check {a0 : PickD} {σ : Heap} {r : Int} (h : t_pick_Check a0 = some r) : m_pick_Check [(AV.agg (cPick a0))] σ = some ((AV.int .i64 r), σ) := by
 refine rf_wrap1 (f := r_pick_Check) (y0 := (AV.agg (cPick a0))) (enc := fun r : Int => (AV.int .i64 r)) (T := t_pick_Check a0) (by first | rfl | (simp only [cPick_eq]; rfl)) (by first | rfl | (simp only [cPick_eq]; rfl)) ?_ r h
 unfold r_pick_Check t_pick_Check
 refine rf_s (cPick a0) (by first | rfl | (simp only [cPick_eq]; rfl)) <| rf_s (AV.agg (cPick a0)) (by first | rfl | (simp only [cPick_eq]; rfl)) ?_
 refine rf_o (fun r1 : (Int × Int) => ((AV.tup [(AV.int .i64 r1.1), (AV.int .i64 r1.2)]), σ)) (fun r1 hr1 => (tq_of (e := fun r : (Int × Int) => ((AV.tup [(AV.int .i64 r.1), (AV.int .i64 r.2)]), σ)) (fun hs => size_m a0 hs σ)) hr1) (fun r1 hr1 => ?_)
 refine rf_s (AV.int .i64 r1.1) (by first | rfl | (simp only [cPick_eq]; rfl)) <| rf_s (AV.int .i64 r1.2) (by first | rfl | (simp only [cPick_eq]; rfl)) <| rf_s (AV.bool (decide (200 < r1.1))) (by first | rfl | (simp only [cPick_eq]; rfl)) <| rf_gf (AV.int .i64 r1.2) (fun hg => by first | rfl | (simp only [cPick_eq]; rfl)) <| rf_gf (AV.bool (decide (12 < r1.2))) (fun hg => by (try rw [hg]); exact rfl) <| rf_s _ (pk_or _ _) ?_
 refine rf_cb (c := ((decide (200 < r1.1)) || (decide (12 < r1.2)))) (fun c3 => ?_) (fun c3 => ?_)
 ·exact rf_fin _ (fin_same _ _) ⟨rfl, rfl⟩
 refine rf_s (AV.agg (cPick a0)) (by first | rfl | (simp only [cPick_eq]; rfl)) ?_
 refine rf_o (fun r2 : Int => ((AV.int .i64 r2), σ)) (fun r2 hr2 => (tq_of (e := fun r : Int => ((AV.int .i64 r), σ)) (fun hs => check_m a0 hs σ)) hr2) (fun r2 hr2 => ?_)
 exact rf_fin _ (fin_same _ _) ⟨rfl, rfl⟩

noncomputable def t_pick_CheckGroups (a0 : (List GroupD)) : Option Int :=
 if 200 < (a0.length : Int) then
  some 2
 else
 forE a0 (fun (i8 : Nat) e7 (s1 : Unit) => (show Option (Lr Unit Unit Int) from
   if (!(withinB e7.number 1 999)) = true then
    some (.ret 1)
   else
   (if decide (0 < (i8 : Int)) = true then tIx a0 (IntKind.i64.wrap ((i8 : Int) - 1)) else some default).bind fun x9 =>
   if ((decide (0 < (i8 : Int))) && (decide (e7.number ≤ x9.number))) = true then
    some (.ret 7)
   else
   (t_pick_Check e7.pick).bind fun r10 =>
   if ¬ (r10 = 0) then
    some (.ret r10)
   else
   some (.go ()))) (fun s1 => some ()) () (fun b2 =>
  (tq ((a0.map GroupD.number).Nodup ∧ (∀ g ∈ a0, pSize g.pick ≤ 2000000) ∧ a0.length ≤ mxl) (usesL a0)).bind fun r14 =>
  forE a0 (fun (i22 : Nat) e21 (s15 : Unit) => (show Option (Lr Unit Unit Int) from
    forE ((tfind e21.number r14).getD ([] : (List Int))) (fun (i30 : Nat) e29 (s23 : Unit) => (show Option (Lr Unit Unit Int) from
      if (!((tfind e29 r14).isSome)) = true then
       some (.ret 8)
      else
      some (.go ()))) (fun s23 => some ()) () (fun b24 =>
     some (.go ())) (fun b24 =>
     some (.ret b24)))) (fun s15 => some ()) () (fun b16 =>
   forE a0 (fun (i39 : Nat) e38 (s32 : Unit) => (show Option (Lr Unit Unit Int) from
     (tq ((uVals r14).length + 1 ≤ apM) ((reachL r14 e38.number).map fun x => (x, true))).bind fun r40 =>
     if ((tfind e38.number r40).getD false) = true then
      some (.ret 11)
     else
     some (.go ()))) (fun s32 => some ()) () (fun b33 =>
    some 0) (fun b33 =>
    some b33)) (fun b16 =>
   some b16)) (fun b2 =>
  some b2)
theorem h_pick_CheckGroups {a0 : (List GroupD)} {σ : Heap} {r : Int} (h : t_pick_CheckGroups a0 = some r) : m_pick_CheckGroups [(sl 5 cGroup a0)] σ = some ((AV.int .i64 r), σ) := by
 refine rf_wrap1 (f := r_pick_CheckGroups) (y0 := (sl 5 cGroup a0)) (enc := fun r : Int => (AV.int .i64 r)) (T := t_pick_CheckGroups a0) (by first | rfl | (simp only [cPick_eq]; rfl)) (by first | rfl | (simp only [cPick_eq]; rfl)) ?_ r h
 unfold r_pick_CheckGroups t_pick_CheckGroups
 refine rf_s _ (lenS_sl _ _ _) <| rf_s (AV.bool (decide (200 < (a0.length : Int)))) (by first | rfl | (simp only [cPick_eq]; rfl)) ?_
 refine rf_c (p := 200 < (a0.length : Int)) (fun c42 => ?_) (fun c42 => ?_)
 ·exact rf_fin _ (fin_same _ _) ⟨rfl, rfl⟩
 refine rf_s _ (lenS_sl _ _ _) ?_
 refine rf_for (B := Unit) (R := Int) (fun (i8 : Nat) (s1 : Unit) v w3 => v = [(AV.int .i64 0), (AV.int .i64 (i8 : Int))] ∧ σ = w3) (fun (b2 : Unit) (q : LS) => ∃ u2 u20, q = ((AX.exit 0), ([u2, u20] : List AV), σ)) (fun (b2 : Int) (q : LS) => ∃ u20, q = (AX.ret, ([(AV.int .i64 b2), u20] : List AV), σ)) ?_ ?_ ⟨rfl, rfl⟩ ?_ ?_
 ·intro hle7 i8 e7 s1 v w3 he7 hI
  obtain ⟨rfl, rfl⟩ := hI
  refine rf_s _ (ix_lt he7) <| rf_ct <| rf_s _ (ix_for he7) <| rf_s (AV.agg (cGroup e7)) (by first | rfl | (simp only [cPick_eq]; rfl)) <| rf_s (cGroup e7) (by first | rfl | (simp only [cPick_eq]; rfl)) <| rf_s _ (sp_cGroup _ _ rfl) <| rf_s (AV.int .i64 e7.number) (by first | rfl | (simp only [cPick_eq]; rfl)) <| rf_s _ (Within_eq e7.number 1 999 σ) <| rf_s (AV.bool (!(withinB e7.number 1 999))) (by first | rfl | (simp only [cPick_eq]; rfl)) ?_
  refine rf_cb (c := (!(withinB e7.number 1 999))) (fun c13 => ?_) (fun c13 => ?_)
  ·exact rf_ret (rnd_ret (by simp) ⟨_, rfl⟩)
  refine rf_s (AV.bool (decide (0 < (i8 : Int)))) (by first | rfl | (simp only [cPick_eq]; rfl)) <| rf_gt (AV.int .i64 e7.number) (fun hg => by first | rfl | (simp only [cPick_eq]; rfl)) <| rf_gt (sl 5 cGroup a0) (fun hg => by first | rfl | (simp only [cPick_eq]; rfl)) <| rf_gt (AV.int .i64 (i8 : Int)) (fun hg => by first | rfl | (simp only [cPick_eq]; rfl)) <| rf_gt (AV.int .i64 (IntKind.i64.wrap ((i8 : Int) - 1))) (fun hg => by (try rw [hg]); exact rfl) ?_
  refine rf_gto (ω := GroupD) (fun x9 => (AV.rp (cGroup x9))) (fun hg x9 hx9 => by (try rw [hg]); exact ix_at hx9) (fun x9 hx9 => ?_)
  refine rf_gt (AV.rp (cGroup x9)) (fun hg => by (try rw [hg]); exact rfl) <| rf_gt (AV.int .i64 x9.number) (fun hg => by (try rw [hg]); exact rfl) <| rf_gt (AV.bool (decide (e7.number ≤ x9.number))) (fun hg => by (try rw [hg]); exact rfl) <| rf_s _ (pk_and _ _) ?_
  refine rf_cb (c := ((decide (0 < (i8 : Int))) && (decide (e7.number ≤ x9.number)))) (fun c12 => ?_) (fun c12 => ?_)
  ·exact rf_ret (rnd_ret (by simp) ⟨_, rfl⟩)
  refine rf_s (AV.agg (cPick e7.pick)) (by first | rfl | (simp only [cPick_eq]; rfl)) ?_
  refine rf_o (fun r10 : Int => ((AV.int .i64 r10), σ)) (fun r10 hr10 => h_pick_Check hr10) (fun r10 hr10 => ?_)
  refine rf_s _ (aNe _ _ _) ?_
  refine rf_c (p := ¬ (r10 = 0)) (fun c11 => ?_) (fun c11 => ?_)
  ·exact rf_ret (rnd_ret (by simp) ⟨_, rfl⟩)
  refine rf_s _ (ix_inc he7 hle7) ?_
  exact rf_ret (rnd_go ⟨rfl, rfl⟩)
 ·intro hl s1 v w3 hI
  obtain ⟨rfl, rfl⟩ := hI
  refine rf_s _ (ix_end _) <| rf_cf ?_
  exact rf_ret ⟨by simp, ⟨_, _, rfl⟩⟩
 ·intro hl b2 q hq
  obtain ⟨u2, u20, rfl⟩ := hq
  refine rf_bt (by first | rfl | (simp only [cPick_eq]; rfl)) ?_
  refine rf_o (fun r14 : (List (Int × (List Int))) => ((fmE (fun x => (AV.int .i64 x)) (fun x => (nslE 1 cInt x)) r14), σ)) (fun r14 hr14 => (tq_of (e := fun r : (List (Int × (List Int))) => ((fmE (fun x => (AV.int .i64 x)) (fun x => (nslE 1 cInt x)) r), σ)) (fun hs => uses_t a0 hs.1 hs.2.1 hs.2.2 σ)) hr14) (fun r14 hr14 => ?_)
  refine rf_s _ (lenS_sl _ _ _) ?_
  refine rf_for (B := Unit) (R := Int) (fun (i22 : Nat) (s15 : Unit) v w17 => ∃ u2, v = [u2, (AV.int .i64 (i22 : Int))] ∧ σ = w17) (fun (b16 : Unit) (q : LS) => ∃ u2 u53, q = ((AX.exit 2), ([u2, u53] : List AV), σ)) (fun (b16 : Int) (q : LS) => ∃ u53, q = (AX.ret, ([(AV.int .i64 b16), u53] : List AV), σ)) ?_ ?_ ⟨_, rfl, rfl⟩ ?_ ?_
  ·intro hle21 i22 e21 s15 v w17 he21 hI
   obtain ⟨u2, rfl, rfl⟩ := hI
   refine rf_s _ (ix_lt he21) <| rf_ct <| rf_s _ (ix_for he21) <| rf_s (AV.agg (cGroup e21)) (by first | rfl | (simp only [cPick_eq]; rfl)) <| rf_s (cGroup e21) (by first | rfl | (simp only [cPick_eq]; rfl)) <| rf_s _ (sp_cGroup _ _ rfl) <| rf_s (AV.int .i64 e21.number) (by first | rfl | (simp only [cPick_eq]; rfl)) <| rf_s _ (fm_lookT (ek := .i) (eK := (fun x => (AV.int .i64 x))) (eV := (fun x => (nslE 1 cInt x))) (eqk_int _) e21.number ([] : (List Int)) rfl) <| rf_s _ (lenS_ns _ _ _) ?_
   refine rf_for (B := Unit) (R := Int) (fun (i30 : Nat) (s23 : Unit) v w25 => ∃ u2, v = [u2, (AV.int .i64 (i30 : Int))] ∧ σ = w25) (fun (b24 : Unit) (q : LS) => ∃ u2 u62, q = ((AX.exit 4), ([u2, u62] : List AV), σ)) (fun (b24 : Int) (q : LS) => ∃ u62, q = (AX.ret, ([(AV.int .i64 b24), u62] : List AV), σ)) ?_ ?_ ⟨_, rfl, rfl⟩ ?_ ?_
   ·intro hle29 i30 e29 s23 v w25 he29 hI
    obtain ⟨u2, rfl, rfl⟩ := hI
    refine rf_s _ (ix_lt he29) <| rf_ct <| rf_s _ (ix_forN he29) <| rf_s (AV.int .i64 e29) (by first | rfl | (simp only [cPick_eq]; rfl)) <| rf_s _ (fm_lookOkT (ek := .i) (eK := (fun x => (AV.int .i64 x))) (eV := (fun x => (nslE 1 cInt x))) (eqk_int _) e29 ([] : (List Int)) rfl) <| rf_s (nslE 1 cInt ((tfind e29 r14).getD ([] : (List Int)))) (by first | rfl | (simp only [cPick_eq]; rfl)) <| rf_s (AV.bool (tfind e29 r14).isSome) (by first | rfl | (simp only [cPick_eq]; rfl)) <| rf_s (AV.bool (!((tfind e29 r14).isSome))) (by first | rfl | (simp only [cPick_eq]; rfl)) ?_
    refine rf_cb (c := (!((tfind e29 r14).isSome))) (fun c31 => ?_) (fun c31 => ?_)
    ·exact rf_ret (rnd_ret (by simp) ⟨_, rfl⟩)
    refine rf_s _ (ix_inc he29 hle29) ?_
    exact rf_ret (rnd_go ⟨_, rfl, rfl⟩)
   ·intro hl s23 v w25 hI
    obtain ⟨u2, rfl, rfl⟩ := hI
    refine rf_s _ (ix_end _) <| rf_cf ?_
    exact rf_ret ⟨by simp, ⟨_, _, rfl⟩⟩
   ·intro hl b24 q hq
    obtain ⟨u2, u62, rfl⟩ := hq
    refine rf_bt (by first | rfl | (simp only [cPick_eq]; rfl)) <| rf_s _ (ix_inc he21 hle21) ?_
    exact rf_ret (rnd_go ⟨_, rfl, rfl⟩)
   ·intro hl b24 q hq
    obtain ⟨u62, rfl⟩ := hq
    refine rf_bf (by first | rfl | (simp only [cPick_eq]; rfl)) <| rf_bt (by first | rfl | (simp only [cPick_eq]; rfl)) ?_
    exact rf_ret (rnd_ret (by simp) ⟨_, rfl⟩)
  ·intro hl s15 v w17 hI
   obtain ⟨u2, rfl, rfl⟩ := hI
   refine rf_s _ (ix_end _) <| rf_cf ?_
   exact rf_ret ⟨by simp, ⟨_, _, rfl⟩⟩
  ·intro hl b16 q hq
   obtain ⟨u2, u53, rfl⟩ := hq
   refine rf_bt (by first | rfl | (simp only [cPick_eq]; rfl)) <| rf_s _ (lenS_sl _ _ _) ?_
   refine rf_for (B := Unit) (R := Int) (fun (i39 : Nat) (s32 : Unit) v w34 => ∃ u2, v = [u2, (AV.int .i64 (i39 : Int))] ∧ σ = w34) (fun (b33 : Unit) (q : LS) => ∃ u2 u78, q = ((AX.exit 6), ([u2, u78] : List AV), σ)) (fun (b33 : Int) (q : LS) => ∃ u78, q = (AX.ret, ([(AV.int .i64 b33), u78] : List AV), σ)) ?_ ?_ ⟨_, rfl, rfl⟩ ?_ ?_
   ·intro hle38 i39 e38 s32 v w34 he38 hI
    obtain ⟨u2, rfl, rfl⟩ := hI
    refine rf_s _ (ix_lt he38) <| rf_ct <| rf_s _ (ix_for he38) <| rf_s (AV.agg (cGroup e38)) (by first | rfl | (simp only [cPick_eq]; rfl)) <| rf_s (cGroup e38) (by first | rfl | (simp only [cPick_eq]; rfl)) <| rf_s _ (sp_cGroup _ _ rfl) <| rf_s (AV.int .i64 e38.number) (by first | rfl | (simp only [cPick_eq]; rfl)) ?_
    refine rf_o (fun r40 : (List (Int × Bool)) => (fmE (fun x => (AV.int .i64 x)) (fun x => (AV.bool x)) r40)) (fun r40 hr40 => (quiet_of ((tq_of (e := fun r : (List (Int × Bool)) => ((fmE (fun x => (AV.int .i64 x)) (fun x => (AV.bool x)) r), σ)) (fun hs => reach_t r14 hs e38.number σ)) hr40))) (fun r40 hr40 => ?_)
    refine rf_s (AV.int .i64 e38.number) (by first | rfl | (simp only [cPick_eq]; rfl)) <| rf_s _ (fm_lookT (ek := .i) (eK := (fun x => (AV.int .i64 x))) (eV := (fun x => (AV.bool x))) (eqk_int _) e38.number false rfl) ?_
    refine rf_cb (c := ((tfind e38.number r40).getD false)) (fun c41 => ?_) (fun c41 => ?_)
    ·exact rf_ret (rnd_ret (by simp) ⟨_, rfl⟩)
    refine rf_s _ (ix_inc he38 hle38) ?_
    exact rf_ret (rnd_go ⟨_, rfl, rfl⟩)
   ·intro hl s32 v w34 hI
    obtain ⟨u2, rfl, rfl⟩ := hI
    refine rf_s _ (ix_end _) <| rf_cf ?_
    exact rf_ret ⟨by simp, ⟨_, _, rfl⟩⟩
   ·intro hl b33 q hq
    obtain ⟨u2, u78, rfl⟩ := hq
    refine rf_bt (by first | rfl | (simp only [cPick_eq]; rfl)) ?_
    exact rf_fin _ (fin_same _ _) ⟨rfl, rfl⟩
   ·intro hl b33 q hq
    obtain ⟨u78, rfl⟩ := hq
    refine rf_bf (by first | rfl | (simp only [cPick_eq]; rfl)) <| rf_bt (by first | rfl | (simp only [cPick_eq]; rfl)) ?_
    exact rf_fin _ (fin_same _ _) ⟨rfl, rfl⟩
  ·intro hl b16 q hq
   obtain ⟨u53, rfl⟩ := hq
   refine rf_bf (by first | rfl | (simp only [cPick_eq]; rfl)) <| rf_bt (by first | rfl | (simp only [cPick_eq]; rfl)) ?_
   exact rf_fin _ (fin_same _ _) ⟨rfl, rfl⟩
 ·intro hl b2 q hq
  obtain ⟨u20, rfl⟩ := hq
  refine rf_bf (by first | rfl | (simp only [cPick_eq]; rfl)) <| rf_bt (by first | rfl | (simp only [cPick_eq]; rfl)) ?_
  exact rf_fin _ (fin_same _ _) ⟨rfl, rfl⟩

noncomputable def t_pick_Uses (a0 : (List GroupD)) (a1 : Int) : Option ((List Int) × Int) :=
 (t_pick_CheckGroups a0).bind fun r1 =>
 if ¬ (r1 = 0) then
  some ([], r1)
 else
 (tq ((a0.map GroupD.number).Nodup ∧ (∀ g ∈ a0, pSize g.pick ≤ 2000000) ∧ a0.length ≤ mxl) (usesL a0)).bind fun r2 =>
 if (!((tfind a1 r2).isSome)) = true then
  some ([], 8)
 else
 forE a0 (fun (i12 : Nat) e11 (s5 : (List Int)) => (show Option (Lr (List Int) (List Int) Unit) from
   (tq ((uVals r2).length + 1 ≤ apM) ((reachL r2 e11.number).map fun x => (x, true))).bind fun r13 =>
   (show Option (List Int) from
     if ((tfind a1 r13).getD false) = true then
      if s5.length + ([e11.number] : (List Int)).length ≤ 17592186044416 then
      some (s5 ++ ([e11.number] : (List Int)))
      else none
     else
     some s5).bind fun j19 =>
   some (.go j19))) (fun s5 => some s5) ([] : List Int) (fun b6 =>
  some (b6, 0)) (fun b6 =>
  none)
theorem h_pick_Uses {a0 : (List GroupD)} { a1 : Int} {σ : Heap} {r : ((List Int) × Int)} (h : t_pick_Uses a0 a1 = some r) : m_pick_Uses [(sl 5 cGroup a0), (AV.int .i64 a1)] σ = some ((AV.tup [(sl 1 cInt r.1), (AV.int .i64 r.2)]), σ) := by
 refine rf_wrap2 (f := r_pick_Uses) (y0 := (sl 5 cGroup a0)) (y1 := (AV.int .i64 a1)) (enc := fun r : ((List Int) × Int) => (AV.tup [(sl 1 cInt r.1), (AV.int .i64 r.2)])) (T := t_pick_Uses a0 a1) (by first | rfl | (simp only [cPick_eq]; rfl)) (by first | rfl | (simp only [cPick_eq]; rfl)) ?_ r h
 unfold r_pick_Uses t_pick_Uses
 refine rf_o (fun r1 : Int => ((AV.int .i64 r1), σ)) (fun r1 hr1 => h_pick_CheckGroups hr1) (fun r1 hr1 => ?_)
 refine rf_s _ (aNe _ _ _) ?_
 refine rf_c (p := ¬ (r1 = 0)) (fun c23 => ?_) (fun c23 => ?_)
 ·exact rf_fin _ (fin_same _ _) ⟨(nn_t (nn_t1 (by first | rfl | exact nn_eNil _ _) (nn_t1 rfl nn_t0))), rfl⟩
 refine rf_o (fun r2 : (List (Int × (List Int))) => ((fmE (fun x => (AV.int .i64 x)) (fun x => (nslE 1 cInt x)) r2), σ)) (fun r2 hr2 => (tq_of (e := fun r : (List (Int × (List Int))) => ((fmE (fun x => (AV.int .i64 x)) (fun x => (nslE 1 cInt x)) r), σ)) (fun hs => uses_t a0 hs.1 hs.2.1 hs.2.2 σ)) hr2) (fun r2 hr2 => ?_)
 refine rf_s _ (fm_lookOkT (ek := .i) (eK := (fun x => (AV.int .i64 x))) (eV := (fun x => (nslE 1 cInt x))) (eqk_int _) a1 ([] : (List Int)) rfl) <| rf_s (nslE 1 cInt ((tfind a1 r2).getD ([] : (List Int)))) (by first | rfl | (simp only [cPick_eq]; rfl)) <| rf_s (AV.bool (tfind a1 r2).isSome) (by first | rfl | (simp only [cPick_eq]; rfl)) <| rf_s (AV.bool (!((tfind a1 r2).isSome))) (by first | rfl | (simp only [cPick_eq]; rfl)) ?_
 refine rf_cb (c := (!((tfind a1 r2).isSome))) (fun c22 => ?_) (fun c22 => ?_)
 ·exact rf_fin _ (fin_same _ _) ⟨(nn_t (nn_t1 (by first | rfl | exact nn_eNil _ _) (nn_t1 rfl nn_t0))), rfl⟩
 refine rf_s _ (lenS_sl _ _ _) ?_
 have hp3 : Hp σ σ [] := hp_nil σ
 have hp4 : Hp σ σ [(AV.nsl, (Ct.s 1 (List.map cInt ([] : List Int))))] := hp_nsl hp3 1
 refine rf_for (B := (List Int)) (R := Unit) (fun (i12 : Nat) (s5 : (List Int)) v w7 => ∃ hh0, v = [hh0, (AV.int .i64 (i12 : Int))] ∧ Hp σ w7 [(hh0, (Ct.s 1 (List.map cInt s5)))]) (fun (b6 : (List Int)) (q : LS) => ∃ u30 hh0 w8, q = ((AX.exit 0), ([hh0, u30] : List AV), w8) ∧ Hp σ w8 [(hh0, (Ct.s 1 (List.map cInt b6)))]) (fun (b6 : Unit) (q : LS) => False) ?_ ?_ ⟨_, rfl, hp4⟩ ?_ ?_
 ·intro hle11 i12 e11 s5 v w7 he11 hI
  obtain ⟨hh0, rfl, hp9⟩ := hI
  refine rf_s _ (ix_lt he11) <| rf_ct <| rf_s _ (ix_for he11) <| rf_s (AV.agg (cGroup e11)) (by first | rfl | (simp only [cPick_eq]; rfl)) <| rf_s (cGroup e11) (by first | rfl | (simp only [cPick_eq]; rfl)) <| rf_s _ (sp_cGroup _ _ rfl) <| rf_s (AV.int .i64 e11.number) (by first | rfl | (simp only [cPick_eq]; rfl)) ?_
  refine rf_o (fun r13 : (List (Int × Bool)) => ((fmE (fun x => (AV.int .i64 x)) (fun x => (AV.bool x)) r13), w7)) (fun r13 hr13 => (tq_of (e := fun r : (List (Int × Bool)) => ((fmE (fun x => (AV.int .i64 x)) (fun x => (AV.bool x)) r), w7)) (fun hs => reach_t r2 hs e11.number w7)) hr13) (fun r13 hr13 => ?_)
  refine rf_s _ (fm_lookT (ek := .i) (eK := (fun x => (AV.int .i64 x))) (eV := (fun x => (AV.bool x))) (eqk_int _) a1 false rfl) ?_
  refine rf_b (ω := (List Int)) (fun j19 a => ∃ hh0 w20, a = (([hh0] : List AV), w20) ∧ Hp σ w20 [(hh0, (Ct.s 1 (List.map cInt j19)))]) (
    by
     refine rf_cb (c := ((tfind a1 r13).getD false)) (fun c18 => ?_) (fun c18 => ?_)
     ·refine rf_s (AV.int .i64 e11.number) (by first | rfl | (simp only [cPick_eq]; rfl)) <| rf_s (sl 1 cInt ([e11.number] : (List Int))) (by first | rfl | (simp only [cPick_eq]; rfl)) ?_
      refine rf_tq (fun hm => ?_)
      obtain ⟨h17, w14, e16, hp15⟩ := hp_appT (c := cInt) (ys := ([e11.number] : (List Int))) (most := 17592186044416) hp9 0 rfl hm
      change Hp σ w14 [(h17, (Ct.s 1 (List.map cInt (s5 ++ ([e11.number] : (List Int))))))] at hp15
      refine rf_s _ e16 ?_
      exact rf_ret ⟨_, _, rfl, hp15⟩
     exact rf_ret ⟨_, _, rfl, hp9⟩
    ) (fun j19 a ha => ?_)
  obtain ⟨hh0, w20, rfl, hp21⟩ := ha
  refine rf_s _ (ix_inc he11 hle11) ?_
  exact rf_ret (rnd_go ⟨_, rfl, hp21⟩)
 ·intro hl s5 v w7 hI
  obtain ⟨hh0, rfl, hp9⟩ := hI
  refine rf_s _ (ix_end _) <| rf_cf ?_
  exact rf_ret ⟨by simp, ⟨_, _, _, rfl, hp9⟩⟩
 ·intro hl b6 q hq
  obtain ⟨u30, hh0, w8, rfl, hp10⟩ := hq
  refine rf_bt (by first | rfl | (simp only [cPick_eq]; rfl)) ?_
  obtain ⟨ra0, fa0, fb0⟩ := fzv_own (c := cInt) (l := b6) hp10 (k := 0) rfl fz_cInt
  exact rf_fin _ (hp_fin hp10 (fzv_tup (fzvL_cons fa0 (fzvL_cons (fzv_fz (fz_int _ _)) fzvL_nil)))) ⟨(nn_t (nn_t1 (nn_own' fb0) (nn_t1 rfl nn_t0))), rfl⟩
 ·intro hl b6 q hq
  exact False.elim hq

noncomputable def t_R4_Check (a0 : PickD) : Option Int :=
 (tq (pSize a0 ≤ 2000000 ∧ (1 : Int) = 1) ((((rP 1 a0).1 : Int), ((rP 1 a0).2 : Int)))).bind fun r1 =>
 if ((decide (200 < r1.1)) || (decide (12 < r1.2))) = true then
  some 2
 else
 (tq (pSize a0 ≤ 2000000) (pChk a0)).bind fun r2 =>
 some r2
theorem h_R4_Check {a0 : PickD} {σ : Heap} {r : Int} (h : t_R4_Check a0 = some r) : m_R4_Check [(AV.agg (cPick a0))] σ = some ((AV.int .i64 r), σ) := by
 refine rf_wrap1 (f := r_R4_Check) (y0 := (AV.agg (cPick a0))) (enc := fun r : Int => (AV.int .i64 r)) (T := t_R4_Check a0) (by first | rfl | (simp only [cPick_eq]; rfl)) (by first | rfl | (simp only [cPick_eq]; rfl)) ?_ r h
 unfold r_R4_Check t_R4_Check
 refine rf_s (cPick a0) (by first | rfl | (simp only [cPick_eq]; rfl)) <| rf_s (AV.agg (cPick a0)) (by first | rfl | (simp only [cPick_eq]; rfl)) ?_
 refine rf_o (fun r1 : (Int × Int) => ((AV.tup [(AV.int .i64 r1.1), (AV.int .i64 r1.2)]), σ)) (fun r1 hr1 => (tq_of (e := fun r : (Int × Int) => ((AV.tup [(AV.int .i64 r.1), (AV.int .i64 r.2)]), σ)) (fun hs => parts_m a0 1 hs σ)) hr1) (fun r1 hr1 => ?_)
 refine rf_s (AV.int .i64 r1.1) (by first | rfl | (simp only [cPick_eq]; rfl)) <| rf_s (AV.int .i64 r1.2) (by first | rfl | (simp only [cPick_eq]; rfl)) <| rf_s (AV.bool (decide (200 < r1.1))) (by first | rfl | (simp only [cPick_eq]; rfl)) <| rf_gf (AV.int .i64 r1.2) (fun hg => by first | rfl | (simp only [cPick_eq]; rfl)) <| rf_gf (AV.bool (decide (12 < r1.2))) (fun hg => by (try rw [hg]); exact rfl) <| rf_s _ (pk_or _ _) ?_
 refine rf_cb (c := ((decide (200 < r1.1)) || (decide (12 < r1.2)))) (fun c3 => ?_) (fun c3 => ?_)
 ·exact rf_fin _ (fin_same _ _) ⟨rfl, rfl⟩
 refine rf_s (AV.agg (cPick a0)) (by first | rfl | (simp only [cPick_eq]; rfl)) ?_
 refine rf_o (fun r2 : Int => ((AV.int .i64 r2), σ)) (fun r2 hr2 => (tq_of (e := fun r : Int => ((AV.int .i64 r), σ)) (fun hs => checkPart_m a0 hs σ)) hr2) (fun r2 hr2 => ?_)
 exact rf_fin _ (fin_same _ _) ⟨rfl, rfl⟩

noncomputable def t_R4_CheckGroups (a0 : (List GroupD)) : Option Int :=
 if 200 < (a0.length : Int) then
  some 2
 else
 forE a0 (fun (i8 : Nat) e7 (s1 : Unit) => (show Option (Lr Unit Unit Int) from
   if (!(withinB e7.number 1 999)) = true then
    some (.ret 1)
   else
   (if decide (0 < (i8 : Int)) = true then tIx a0 (IntKind.i64.wrap ((i8 : Int) - 1)) else some default).bind fun x9 =>
   if ((decide (0 < (i8 : Int))) && (decide (e7.number ≤ x9.number))) = true then
    some (.ret 7)
   else
   (t_R4_Check e7.pick).bind fun r10 =>
   if ¬ (r10 = 0) then
    some (.ret r10)
   else
   some (.go ()))) (fun s1 => some ()) () (fun b2 =>
  forE a0 (fun (i21 : Nat) e20 (s14 : Unit) => (show Option (Lr Unit Unit Int) from
    (tq (pSize e20.pick ≤ 2000000) (pNamed 2 e20.pick)).bind fun r22 =>
    forE r22 (fun (i30 : Nat) e29 (s23 : Unit) => (show Option (Lr Unit Unit Int) from
      (t_R4_GroupOf a0 e29).bind fun r31 =>
      if (!r31.2) = true then
       some (.ret 8)
      else
      some (.go ()))) (fun s23 => some ()) () (fun b24 =>
     some (.go ())) (fun b24 =>
     some (.ret b24)))) (fun s14 => some ()) () (fun b15 =>
   forE a0 (fun (i40 : Nat) e39 (s33 : Unit) => (show Option (Lr Unit Unit Int) from
     (tq (a0.length ≤ mxl ∧ (∀ g ∈ a0, pSize g.pick ≤ 2000000) ∧ (gVals a0).length + 1 ≤ apM) (reachedL a0 e39.number)).bind fun r41 =>
     (tq (r41.length ≤ mxl) (r41.any fun x => decide (e39.number = x))).bind fun r42 =>
     if r42 = true then
      some (.ret 11)
     else
     some (.go ()))) (fun s33 => some ()) () (fun b34 =>
    some 0) (fun b34 =>
    some b34)) (fun b15 =>
   some b15)) (fun b2 =>
  some b2)
theorem h_R4_CheckGroups {a0 : (List GroupD)} {σ : Heap} {r : Int} (h : t_R4_CheckGroups a0 = some r) : m_R4_CheckGroups [(sl 5 cGroup a0)] σ = some ((AV.int .i64 r), σ) := by
 refine rf_wrap1 (f := r_R4_CheckGroups) (y0 := (sl 5 cGroup a0)) (enc := fun r : Int => (AV.int .i64 r)) (T := t_R4_CheckGroups a0) (by first | rfl | (simp only [cPick_eq]; rfl)) (by first | rfl | (simp only [cPick_eq]; rfl)) ?_ r h
 unfold r_R4_CheckGroups t_R4_CheckGroups
 refine rf_s _ (lenS_sl _ _ _) <| rf_s (AV.bool (decide (200 < (a0.length : Int)))) (by first | rfl | (simp only [cPick_eq]; rfl)) ?_
 refine rf_c (p := 200 < (a0.length : Int)) (fun c44 => ?_) (fun c44 => ?_)
 ·exact rf_fin _ (fin_same _ _) ⟨rfl, rfl⟩
 refine rf_s _ (lenS_sl _ _ _) ?_
 refine rf_for (B := Unit) (R := Int) (fun (i8 : Nat) (s1 : Unit) v w3 => v = [(AV.int .i64 0), (AV.int .i64 (i8 : Int))] ∧ σ = w3) (fun (b2 : Unit) (q : LS) => ∃ u2 u19, q = ((AX.exit 0), ([u2, u19] : List AV), σ)) (fun (b2 : Int) (q : LS) => ∃ u19, q = (AX.ret, ([(AV.int .i64 b2), u19] : List AV), σ)) ?_ ?_ ⟨rfl, rfl⟩ ?_ ?_
 ·intro hle7 i8 e7 s1 v w3 he7 hI
  obtain ⟨rfl, rfl⟩ := hI
  refine rf_s _ (ix_lt he7) <| rf_ct <| rf_s _ (ix_for he7) <| rf_s (AV.agg (cGroup e7)) (by first | rfl | (simp only [cPick_eq]; rfl)) <| rf_s (cGroup e7) (by first | rfl | (simp only [cPick_eq]; rfl)) <| rf_s _ (sp_cGroup _ _ rfl) <| rf_s (AV.int .i64 e7.number) (by first | rfl | (simp only [cPick_eq]; rfl)) <| rf_s _ (Within1_eq e7.number 1 999 σ) <| rf_s (AV.bool (!(withinB e7.number 1 999))) (by first | rfl | (simp only [cPick_eq]; rfl)) ?_
  refine rf_cb (c := (!(withinB e7.number 1 999))) (fun c13 => ?_) (fun c13 => ?_)
  ·exact rf_ret (rnd_ret (by simp) ⟨_, rfl⟩)
  refine rf_s (AV.bool (decide (0 < (i8 : Int)))) (by first | rfl | (simp only [cPick_eq]; rfl)) <| rf_gt (AV.int .i64 e7.number) (fun hg => by first | rfl | (simp only [cPick_eq]; rfl)) <| rf_gt (sl 5 cGroup a0) (fun hg => by first | rfl | (simp only [cPick_eq]; rfl)) <| rf_gt (AV.int .i64 (i8 : Int)) (fun hg => by first | rfl | (simp only [cPick_eq]; rfl)) <| rf_gt (AV.int .i64 (IntKind.i64.wrap ((i8 : Int) - 1))) (fun hg => by (try rw [hg]); exact rfl) ?_
  refine rf_gto (ω := GroupD) (fun x9 => (AV.rp (cGroup x9))) (fun hg x9 hx9 => by (try rw [hg]); exact ix_at hx9) (fun x9 hx9 => ?_)
  refine rf_gt (AV.rp (cGroup x9)) (fun hg => by (try rw [hg]); exact rfl) <| rf_gt (AV.int .i64 x9.number) (fun hg => by (try rw [hg]); exact rfl) <| rf_gt (AV.bool (decide (e7.number ≤ x9.number))) (fun hg => by (try rw [hg]); exact rfl) <| rf_s _ (pk_and _ _) ?_
  refine rf_cb (c := ((decide (0 < (i8 : Int))) && (decide (e7.number ≤ x9.number)))) (fun c12 => ?_) (fun c12 => ?_)
  ·exact rf_ret (rnd_ret (by simp) ⟨_, rfl⟩)
  refine rf_s (AV.agg (cPick e7.pick)) (by first | rfl | (simp only [cPick_eq]; rfl)) ?_
  refine rf_o (fun r10 : Int => ((AV.int .i64 r10), σ)) (fun r10 hr10 => h_R4_Check hr10) (fun r10 hr10 => ?_)
  refine rf_s _ (aNe _ _ _) ?_
  refine rf_c (p := ¬ (r10 = 0)) (fun c11 => ?_) (fun c11 => ?_)
  ·exact rf_ret (rnd_ret (by simp) ⟨_, rfl⟩)
  refine rf_s _ (ix_inc he7 hle7) ?_
  exact rf_ret (rnd_go ⟨rfl, rfl⟩)
 ·intro hl s1 v w3 hI
  obtain ⟨rfl, rfl⟩ := hI
  refine rf_s _ (ix_end _) <| rf_cf ?_
  exact rf_ret ⟨by simp, ⟨_, _, rfl⟩⟩
 ·intro hl b2 q hq
  obtain ⟨u2, u19, rfl⟩ := hq
  refine rf_bt (by first | rfl | (simp only [cPick_eq]; rfl)) <| rf_s _ (lenS_sl _ _ _) ?_
  refine rf_for (B := Unit) (R := Int) (fun (i21 : Nat) (s14 : Unit) v w16 => ∃ u2, v = [u2, (AV.int .i64 (i21 : Int))] ∧ σ = w16) (fun (b15 : Unit) (q : LS) => ∃ u2 u52, q = ((AX.exit 3), ([u2, u52] : List AV), σ)) (fun (b15 : Int) (q : LS) => ∃ u52, q = (AX.ret, ([(AV.int .i64 b15), u52] : List AV), σ)) ?_ ?_ ⟨_, rfl, rfl⟩ ?_ ?_
  ·intro hle20 i21 e20 s14 v w16 he20 hI
   obtain ⟨u2, rfl, rfl⟩ := hI
   refine rf_s _ (ix_lt he20) <| rf_ct <| rf_s _ (ix_for he20) <| rf_s (AV.agg (cGroup e20)) (by first | rfl | (simp only [cPick_eq]; rfl)) <| rf_s (cGroup e20) (by first | rfl | (simp only [cPick_eq]; rfl)) <| rf_s _ (sp_cGroup _ _ rfl) <| rf_s (AV.agg (cPick e20.pick)) (by first | rfl | (simp only [cPick_eq]; rfl)) ?_
   refine rf_o (fun r22 : (List Int) => ((sl 1 cInt r22), σ)) (fun r22 hr22 => (tq_of (e := fun r : (List Int) => ((sl 1 cInt r), σ)) (fun hs => Named_m e20.pick 2 hs σ)) hr22) (fun r22 hr22 => ?_)
   refine rf_s _ (lenS_sl _ _ _) ?_
   refine rf_for (B := Unit) (R := Int) (fun (i30 : Nat) (s23 : Unit) v w25 => ∃ u2, v = [u2, (AV.int .i64 (i30 : Int))] ∧ σ = w25) (fun (b24 : Unit) (q : LS) => ∃ u2 u60, q = ((AX.exit 5), ([u2, u60] : List AV), σ)) (fun (b24 : Int) (q : LS) => ∃ u60, q = (AX.ret, ([(AV.int .i64 b24), u60] : List AV), σ)) ?_ ?_ ⟨_, rfl, rfl⟩ ?_ ?_
   ·intro hle29 i30 e29 s23 v w25 he29 hI
    obtain ⟨u2, rfl, rfl⟩ := hI
    refine rf_s _ (ix_lt he29) <| rf_ct <| rf_s _ (ix_for he29) <| rf_s (AV.int .i64 e29) (by first | rfl | (simp only [cPick_eq]; rfl)) ?_
    refine rf_o (fun r31 : (GroupD × Bool) => ((AV.tup [(AV.agg (cGroup r31.1)), (AV.bool r31.2)]), σ)) (fun r31 hr31 => h_R4_GroupOf hr31) (fun r31 hr31 => ?_)
    refine rf_s (AV.agg (cGroup r31.1)) (by first | rfl | (simp only [cPick_eq]; rfl)) <| rf_s (AV.bool r31.2) (by first | rfl | (simp only [cPick_eq]; rfl)) <| rf_s (cGroup r31.1) (by first | rfl | (simp only [cPick_eq]; rfl)) <| rf_s _ (sp_cGroup _ _ rfl) <| rf_s (AV.bool (!r31.2)) (by first | rfl | (simp only [cPick_eq]; rfl)) ?_
    refine rf_cb (c := (!r31.2)) (fun c32 => ?_) (fun c32 => ?_)
    ·exact rf_ret (rnd_ret (by simp) ⟨_, rfl⟩)
    refine rf_s _ (ix_inc he29 hle29) ?_
    exact rf_ret (rnd_go ⟨_, rfl, rfl⟩)
   ·intro hl s23 v w25 hI
    obtain ⟨u2, rfl, rfl⟩ := hI
    refine rf_s _ (ix_end _) <| rf_cf ?_
    exact rf_ret ⟨by simp, ⟨_, _, rfl⟩⟩
   ·intro hl b24 q hq
    obtain ⟨u2, u60, rfl⟩ := hq
    refine rf_bt (by first | rfl | (simp only [cPick_eq]; rfl)) <| rf_s _ (ix_inc he20 hle20) ?_
    exact rf_ret (rnd_go ⟨_, rfl, rfl⟩)
   ·intro hl b24 q hq
    obtain ⟨u60, rfl⟩ := hq
    refine rf_bf (by first | rfl | (simp only [cPick_eq]; rfl)) <| rf_bt (by first | rfl | (simp only [cPick_eq]; rfl)) ?_
    exact rf_ret (rnd_ret (by simp) ⟨_, rfl⟩)
  ·intro hl s14 v w16 hI
   obtain ⟨u2, rfl, rfl⟩ := hI
   refine rf_s _ (ix_end _) <| rf_cf ?_
   exact rf_ret ⟨by simp, ⟨_, _, rfl⟩⟩
  ·intro hl b15 q hq
   obtain ⟨u2, u52, rfl⟩ := hq
   refine rf_bt (by first | rfl | (simp only [cPick_eq]; rfl)) <| rf_s _ (lenS_sl _ _ _) ?_
   refine rf_for (B := Unit) (R := Int) (fun (i40 : Nat) (s33 : Unit) v w35 => ∃ u2, v = [u2, (AV.int .i64 (i40 : Int))] ∧ σ = w35) (fun (b34 : Unit) (q : LS) => ∃ u2 u76, q = ((AX.exit 7), ([u2, u76] : List AV), σ)) (fun (b34 : Int) (q : LS) => ∃ u76, q = (AX.ret, ([(AV.int .i64 b34), u76] : List AV), σ)) ?_ ?_ ⟨_, rfl, rfl⟩ ?_ ?_
   ·intro hle39 i40 e39 s33 v w35 he39 hI
    obtain ⟨u2, rfl, rfl⟩ := hI
    refine rf_s _ (ix_lt he39) <| rf_ct <| rf_s _ (ix_for he39) <| rf_s (AV.agg (cGroup e39)) (by first | rfl | (simp only [cPick_eq]; rfl)) <| rf_s (cGroup e39) (by first | rfl | (simp only [cPick_eq]; rfl)) <| rf_s _ (sp_cGroup _ _ rfl) <| rf_s (AV.int .i64 e39.number) (by first | rfl | (simp only [cPick_eq]; rfl)) ?_
    refine rf_o (fun r41 : (List Int) => (sl 1 cInt r41)) (fun r41 hr41 => (quiet_of ((tq_of (e := fun r : (List Int) => ((sl 1 cInt r), σ)) (fun hs => reached_t a0 hs.1 hs.2.1 hs.2.2 e39.number σ)) hr41))) (fun r41 hr41 => ?_)
    refine rf_s (AV.int .i64 e39.number) (by first | rfl | (simp only [cPick_eq]; rfl)) ?_
    refine rf_o (fun r42 : Bool => (AV.bool r42)) (fun r42 hr42 => (quiet_of ((tq_of (e := fun r : Bool => ((AV.bool r), σ)) (fun hs => m_slices_Contains_int_eq r41 hs e39.number σ)) hr42))) (fun r42 hr42 => ?_)
    refine rf_cb (c := r42) (fun c43 => ?_) (fun c43 => ?_)
    ·exact rf_ret (rnd_ret (by simp) ⟨_, rfl⟩)
    refine rf_s _ (ix_inc he39 hle39) ?_
    exact rf_ret (rnd_go ⟨_, rfl, rfl⟩)
   ·intro hl s33 v w35 hI
    obtain ⟨u2, rfl, rfl⟩ := hI
    refine rf_s _ (ix_end _) <| rf_cf ?_
    exact rf_ret ⟨by simp, ⟨_, _, rfl⟩⟩
   ·intro hl b34 q hq
    obtain ⟨u2, u76, rfl⟩ := hq
    refine rf_bt (by first | rfl | (simp only [cPick_eq]; rfl)) ?_
    exact rf_fin _ (fin_same _ _) ⟨rfl, rfl⟩
   ·intro hl b34 q hq
    obtain ⟨u76, rfl⟩ := hq
    refine rf_bf (by first | rfl | (simp only [cPick_eq]; rfl)) <| rf_bt (by first | rfl | (simp only [cPick_eq]; rfl)) ?_
    exact rf_fin _ (fin_same _ _) ⟨rfl, rfl⟩
  ·intro hl b15 q hq
   obtain ⟨u52, rfl⟩ := hq
   refine rf_bf (by first | rfl | (simp only [cPick_eq]; rfl)) <| rf_bt (by first | rfl | (simp only [cPick_eq]; rfl)) ?_
   exact rf_fin _ (fin_same _ _) ⟨rfl, rfl⟩
 ·intro hl b2 q hq
  obtain ⟨u19, rfl⟩ := hq
  refine rf_bf (by first | rfl | (simp only [cPick_eq]; rfl)) <| rf_bt (by first | rfl | (simp only [cPick_eq]; rfl)) ?_
  exact rf_fin _ (fin_same _ _) ⟨rfl, rfl⟩

noncomputable def t_R4_Uses (a0 : (List GroupD)) (a1 : Int) : Option ((List Int) × Int) :=
 (t_R4_CheckGroups a0).bind fun r1 =>
 if ¬ (r1 = 0) then
  some ([], r1)
 else
 (t_R4_GroupOf a0 a1).bind fun r2 =>
 if (!r2.2) = true then
  some ([], 8)
 else
 forE a0 (fun (i12 : Nat) e11 (s5 : (List Int)) => (show Option (Lr (List Int) (List Int) Unit) from
   (tq (a0.length ≤ mxl ∧ (∀ g ∈ a0, pSize g.pick ≤ 2000000) ∧ (gVals a0).length + 1 ≤ apM) (reachedL a0 e11.number)).bind fun r13 =>
   (tq (r13.length ≤ mxl) (r13.any fun x => decide (a1 = x))).bind fun r14 =>
   (show Option (List Int) from
     if r14 = true then
      if s5.length + ([e11.number] : (List Int)).length ≤ 17592186044416 then
      some (s5 ++ ([e11.number] : (List Int)))
      else none
     else
     some s5).bind fun j20 =>
   some (.go j20))) (fun s5 => some s5) ([] : List Int) (fun b6 =>
  some (b6, 0)) (fun b6 =>
  none)
theorem h_R4_Uses {a0 : (List GroupD)} { a1 : Int} {σ : Heap} {r : ((List Int) × Int)} (h : t_R4_Uses a0 a1 = some r) : m_R4_Uses [(sl 5 cGroup a0), (AV.int .i64 a1)] σ = some ((AV.tup [(sl 1 cInt r.1), (AV.int .i64 r.2)]), σ) := by
 refine rf_wrap2 (f := r_R4_Uses) (y0 := (sl 5 cGroup a0)) (y1 := (AV.int .i64 a1)) (enc := fun r : ((List Int) × Int) => (AV.tup [(sl 1 cInt r.1), (AV.int .i64 r.2)])) (T := t_R4_Uses a0 a1) (by first | rfl | (simp only [cPick_eq]; rfl)) (by first | rfl | (simp only [cPick_eq]; rfl)) ?_ r h
 unfold r_R4_Uses t_R4_Uses
 refine rf_o (fun r1 : Int => ((AV.int .i64 r1), σ)) (fun r1 hr1 => h_R4_CheckGroups hr1) (fun r1 hr1 => ?_)
 refine rf_s _ (aNe _ _ _) ?_
 refine rf_c (p := ¬ (r1 = 0)) (fun c24 => ?_) (fun c24 => ?_)
 ·exact rf_fin _ (fin_same _ _) ⟨(nn_t (nn_t1 (by first | rfl | exact nn_eNil _ _) (nn_t1 rfl nn_t0))), rfl⟩
 refine rf_o (fun r2 : (GroupD × Bool) => ((AV.tup [(AV.agg (cGroup r2.1)), (AV.bool r2.2)]), σ)) (fun r2 hr2 => h_R4_GroupOf hr2) (fun r2 hr2 => ?_)
 refine rf_s (AV.agg (cGroup r2.1)) (by first | rfl | (simp only [cPick_eq]; rfl)) <| rf_s (AV.bool r2.2) (by first | rfl | (simp only [cPick_eq]; rfl)) <| rf_s (cGroup r2.1) (by first | rfl | (simp only [cPick_eq]; rfl)) <| rf_s _ (sp_cGroup _ _ rfl) <| rf_s (AV.bool (!r2.2)) (by first | rfl | (simp only [cPick_eq]; rfl)) ?_
 refine rf_cb (c := (!r2.2)) (fun c23 => ?_) (fun c23 => ?_)
 ·exact rf_fin _ (fin_same _ _) ⟨(nn_t (nn_t1 (by first | rfl | exact nn_eNil _ _) (nn_t1 rfl nn_t0))), rfl⟩
 refine rf_s _ (lenS_sl _ _ _) ?_
 have hp3 : Hp σ σ [] := hp_nil σ
 have hp4 : Hp σ σ [(AV.nsl, (Ct.s 1 (List.map cInt ([] : List Int))))] := hp_nsl hp3 1
 refine rf_for (B := (List Int)) (R := Unit) (fun (i12 : Nat) (s5 : (List Int)) v w7 => ∃ hh0, v = [hh0, (AV.int .i64 (i12 : Int))] ∧ Hp σ w7 [(hh0, (Ct.s 1 (List.map cInt s5)))]) (fun (b6 : (List Int)) (q : LS) => ∃ u27 hh0 w8, q = ((AX.exit 0), ([hh0, u27] : List AV), w8) ∧ Hp σ w8 [(hh0, (Ct.s 1 (List.map cInt b6)))]) (fun (b6 : Unit) (q : LS) => False) ?_ ?_ ⟨_, rfl, hp4⟩ ?_ ?_
 ·intro hle11 i12 e11 s5 v w7 he11 hI
  obtain ⟨hh0, rfl, hp9⟩ := hI
  refine rf_s _ (ix_lt he11) <| rf_ct <| rf_s _ (ix_for he11) <| rf_s (AV.agg (cGroup e11)) (by first | rfl | (simp only [cPick_eq]; rfl)) <| rf_s (cGroup e11) (by first | rfl | (simp only [cPick_eq]; rfl)) <| rf_s _ (sp_cGroup _ _ rfl) <| rf_s (AV.int .i64 e11.number) (by first | rfl | (simp only [cPick_eq]; rfl)) ?_
  refine rf_o (fun r13 : (List Int) => ((sl 1 cInt r13), w7)) (fun r13 hr13 => (tq_of (e := fun r : (List Int) => ((sl 1 cInt r), w7)) (fun hs => reached_t a0 hs.1 hs.2.1 hs.2.2 e11.number w7)) hr13) (fun r13 hr13 => ?_)
  refine rf_o (fun r14 : Bool => ((AV.bool r14), w7)) (fun r14 hr14 => (tq_of (e := fun r : Bool => ((AV.bool r), w7)) (fun hs => m_slices_Contains_int_eq r13 hs a1 w7)) hr14) (fun r14 hr14 => ?_)
  refine rf_b (ω := (List Int)) (fun j20 a => ∃ hh0 w21, a = (([hh0] : List AV), w21) ∧ Hp σ w21 [(hh0, (Ct.s 1 (List.map cInt j20)))]) (
    by
     refine rf_cb (c := r14) (fun c19 => ?_) (fun c19 => ?_)
     ·refine rf_s (AV.int .i64 e11.number) (by first | rfl | (simp only [cPick_eq]; rfl)) <| rf_s (sl 1 cInt ([e11.number] : (List Int))) (by first | rfl | (simp only [cPick_eq]; rfl)) ?_
      refine rf_tq (fun hm => ?_)
      obtain ⟨h18, w15, e17, hp16⟩ := hp_appT (c := cInt) (ys := ([e11.number] : (List Int))) (most := 17592186044416) hp9 0 rfl hm
      change Hp σ w15 [(h18, (Ct.s 1 (List.map cInt (s5 ++ ([e11.number] : (List Int))))))] at hp16
      refine rf_s _ e17 ?_
      exact rf_ret ⟨_, _, rfl, hp16⟩
     exact rf_ret ⟨_, _, rfl, hp9⟩
    ) (fun j20 a ha => ?_)
  obtain ⟨hh0, w21, rfl, hp22⟩ := ha
  refine rf_s _ (ix_inc he11 hle11) ?_
  exact rf_ret (rnd_go ⟨_, rfl, hp22⟩)
 ·intro hl s5 v w7 hI
  obtain ⟨hh0, rfl, hp9⟩ := hI
  refine rf_s _ (ix_end _) <| rf_cf ?_
  exact rf_ret ⟨by simp, ⟨_, _, _, rfl, hp9⟩⟩
 ·intro hl b6 q hq
  obtain ⟨u27, hh0, w8, rfl, hp10⟩ := hq
  refine rf_bt (by first | rfl | (simp only [cPick_eq]; rfl)) ?_
  obtain ⟨ra0, fa0, fb0⟩ := fzv_own (c := cInt) (l := b6) hp10 (k := 0) rfl fz_cInt
  exact rf_fin _ (hp_fin hp10 (fzv_tup (fzvL_cons fa0 (fzvL_cons (fzv_fz (fz_int _ _)) fzvL_nil)))) ⟨(nn_t (nn_t1 (nn_own' fb0) (nn_t1 rfl nn_t0))), rfl⟩
 ·intro hl b6 q hq
  exact False.elim hq

noncomputable def t_slices_Equal_int (a0 : (List Int)) (a1 : (List Int)) : Option Bool :=
 if ¬ ((a0.length : Int) = (a1.length : Int)) then
  some false
 else
 forE a0 (fun (i8 : Nat) e7 (s1 : Unit) => (show Option (Lr Unit Unit Unit) from
   (tIx a1 (i8 : Int)).bind fun x9 =>
   if ¬ (e7 = x9) then
    some (.ret ())
   else
   some (.go ()))) (fun s1 => some ()) () (fun b2 =>
  some true) (fun b2 =>
  some false)
theorem h_slices_Equal_int {a0 : (List Int)} { a1 : (List Int)} {σ : Heap} {r : Bool} (h : t_slices_Equal_int a0 a1 = some r) : m_slices_Equal_int [(sl 1 cInt a0), (sl 1 cInt a1)] σ = some ((AV.bool r), σ) := by
 refine rf_wrap2 (f := r_slices_Equal_int) (y0 := (sl 1 cInt a0)) (y1 := (sl 1 cInt a1)) (enc := fun r : Bool => (AV.bool r)) (T := t_slices_Equal_int a0 a1) rfl rfl ?_ r h
 unfold r_slices_Equal_int t_slices_Equal_int
 refine rf_s _ (lenS_sl _ _ _) <| rf_s _ (lenS_sl _ _ _) <| rf_s _ (aNe _ _ _) ?_
 refine rf_c (p := ¬ ((a0.length : Int) = (a1.length : Int))) (fun c11 => ?_) (fun c11 => ?_)
 ·exact rf_fin _ (fin_same _ _) ⟨rfl, rfl⟩
 refine rf_s _ (lenS_sl _ _ _) ?_
 refine rf_for (B := Unit) (R := Unit) (fun (i8 : Nat) (s1 : Unit) v w3 => v = [(AV.bool false), (AV.int .i64 (i8 : Int))] ∧ σ = w3) (fun (b2 : Unit) (q : LS) => ∃ u4 u13, q = ((AX.exit 0), ([u4, u13] : List AV), σ)) (fun (b2 : Unit) (q : LS) => ∃ u13, q = (AX.ret, ([(AV.bool false), u13] : List AV), σ)) ?_ ?_ ⟨rfl, rfl⟩ ?_ ?_
 ·intro hle7 i8 e7 s1 v w3 he7 hI
  obtain ⟨rfl, rfl⟩ := hI
  refine rf_s _ (ix_lt he7) <| rf_ct <| rf_s _ (ix_for he7) <| rf_s _ rfl ?_
  refine rf_o (fun x9 : Int => (AV.rp [(AV.int .i64 x9)])) (fun x9 hx9 => ix_at hx9) (fun x9 hx9 => ?_)
  refine rf_s _ rfl <| rf_s _ (aNe _ _ _) ?_
  refine rf_c (p := ¬ (e7 = x9)) (fun c10 => ?_) (fun c10 => ?_)
  ·exact rf_ret (rnd_ret (by simp) ⟨_, rfl⟩)
  refine rf_s _ (ix_inc he7 hle7) ?_
  exact rf_ret (rnd_go ⟨rfl, rfl⟩)
 ·intro hl s1 v w3 hI
  obtain ⟨rfl, rfl⟩ := hI
  refine rf_s _ (ix_end _) <| rf_cf ?_
  exact rf_ret ⟨by simp, ⟨_, _, rfl⟩⟩
 ·intro hl b2 q hq
  obtain ⟨u4, u13, rfl⟩ := hq
  refine rf_bt rfl ?_
  exact rf_fin _ (fin_same _ _) ⟨rfl, rfl⟩
 ·intro hl b2 q hq
  obtain ⟨u13, rfl⟩ := hq
  refine rf_bf rfl <| rf_bt rfl ?_
  exact rf_fin _ (fin_same _ _) ⟨rfl, rfl⟩

noncomputable def t_W4_PickGroupsMatchSpec (a0 : (List GroupD)) (a1 : Int) : Option Bool :=
 (t_pick_Uses a0 a1).bind fun r1 =>
 (t_R4_Uses a0 a1).bind fun r2 =>
 (t_pick_CheckGroups a0).bind fun r3 =>
 (t_R4_CheckGroups a0).bind fun r4 =>
 (if decide (r3 = r4) = true then t_slices_Equal_int r1.1 r2.1 else some default).bind fun r5 =>
 some (((decide (r3 = r4)) && r5) && (decide (r1.2 = r2.2)))
theorem h_W4_PickGroupsMatchSpec {a0 : (List GroupD)} { a1 : Int} {σ : Heap} {r : Bool} (h : t_W4_PickGroupsMatchSpec a0 a1 = some r) : m_W4_PickGroupsMatchSpec [(sl 5 cGroup a0), (AV.int .i64 a1)] σ = some ((AV.bool r), σ) := by
 refine rf_wrap2 (f := r_W4_PickGroupsMatchSpec) (y0 := (sl 5 cGroup a0)) (y1 := (AV.int .i64 a1)) (enc := fun r : Bool => (AV.bool r)) (T := t_W4_PickGroupsMatchSpec a0 a1) (by first | rfl | (simp only [cPick_eq]; rfl)) (by first | rfl | (simp only [cPick_eq]; rfl)) ?_ r h
 unfold r_W4_PickGroupsMatchSpec t_W4_PickGroupsMatchSpec
 refine rf_o (fun r1 : ((List Int) × Int) => ((AV.tup [(sl 1 cInt r1.1), (AV.int .i64 r1.2)]), σ)) (fun r1 hr1 => h_pick_Uses hr1) (fun r1 hr1 => ?_)
 refine rf_s (sl 1 cInt r1.1) (by first | rfl | (simp only [cPick_eq]; rfl)) <| rf_s (AV.int .i64 r1.2) (by first | rfl | (simp only [cPick_eq]; rfl)) ?_
 refine rf_o (fun r2 : ((List Int) × Int) => ((AV.tup [(sl 1 cInt r2.1), (AV.int .i64 r2.2)]), σ)) (fun r2 hr2 => h_R4_Uses hr2) (fun r2 hr2 => ?_)
 refine rf_s (sl 1 cInt r2.1) (by first | rfl | (simp only [cPick_eq]; rfl)) <| rf_s (AV.int .i64 r2.2) (by first | rfl | (simp only [cPick_eq]; rfl)) ?_
 refine rf_o (fun r3 : Int => ((AV.int .i64 r3), σ)) (fun r3 hr3 => h_pick_CheckGroups hr3) (fun r3 hr3 => ?_)
 refine rf_o (fun r4 : Int => ((AV.int .i64 r4), σ)) (fun r4 hr4 => h_R4_CheckGroups hr4) (fun r4 hr4 => ?_)
 refine rf_s _ (aEq _ _ _) <| rf_gt (sl 1 cInt r1.1) (fun hg => by first | rfl | (simp only [cPick_eq]; rfl)) <| rf_gt (sl 1 cInt r2.1) (fun hg => by first | rfl | (simp only [cPick_eq]; rfl)) ?_
 refine rf_gto (ω := Bool) (fun r5 => (AV.bool r5)) (fun hg r5 hr5 => by (try rw [hg]); exact (quiet_of (h_slices_Equal_int hr5))) (fun r5 hr5 => ?_)
 refine rf_s _ (pk_and _ _) <| rf_gt (AV.int .i64 r1.2) (fun hg => by first | rfl | (simp only [cPick_eq]; rfl)) <| rf_gt (AV.int .i64 r2.2) (fun hg => by first | rfl | (simp only [cPick_eq]; rfl)) <| rf_gt (AV.bool (decide (r1.2 = r2.2))) (fun hg => by (try rw [hg]); exact (aEq _ _ _)) <| rf_s _ (pk_and _ _) ?_
 exact rf_fin _ (fin_same _ _) ⟨rfl, rfl⟩
end Go.Proofs.Ytgjglkakhmikjaa

namespace Go.Proofs.Ytgjglkakhmikjaa
set_option linter.unusedSectionVars false
set_option linter.unusedVariables false
set_option linter.unusedSimpArgs false
section
variable {f : Int → List Int} {V : List Int} {a n : Int}
theorem rIn_I (hV : ∀ n k, k ∈ f n → k ∈ V) : ∀ (r st seen : List Int), ReI f V a (some (n, r)) st seen → seen.length + unS V seen ≤ V.length →
  ReI f V a none (rIn r st seen).1 (rIn r st seen).2 ∧ mSt V (rIn r st seen).1 (rIn r st seen).2 ≤ mSt V st seen ∧ (rIn r st seen).2.length + unS V (rIn r st seen).2 ≤ V.length
 | [], st, seen, H, hK => ⟨H.done, Nat.le_refl _, hK⟩
 | k :: r, st, seen, H, hK => by
  rw [rIn]
  by_cases hk : k ∈ seen
  ·rw [if_pos hk]; exact rIn_I hV r st seen (H.skip hk) hK
  ·rw [if_neg hk]
   have hkV : k ∈ V := hV n k ((H.here n _ rfl).2 k (by simp))
   have hlt := unS_lt hkV hk
   obtain ⟨h1, h2, h3⟩ := rIn_I hV r (st ++ [k]) (seen ++ [k]) (H.push hk hkV) (by rw [List.length_append, List.length_singleton]; omega)
   refine ⟨h1, Nat.le_trans h2 ?_, h3⟩
   unfold mSt; rw [List.length_append, List.length_singleton]; omega
theorem rGo_I (hV : ∀ n k, k ∈ f n → k ∈ V) : ∀ (m : Nat) (st seen : List Int), ReI f V a none st seen → mSt V st seen ≤ m → seen.length + unS V seen ≤ V.length → ReI f V a none [] (rGo f m st seen) ∧ (rGo f m st seen).length ≤ V.length
 | 0, st, seen, H, hM, hK => by
  have : st = [] := List.eq_nil_of_length_eq_zero (by unfold mSt at hM; omega)
  subst this
  exact ⟨H, by show seen.length ≤ _; omega⟩
 | m + 1, st, seen, H, hM, hK => by
  rcases List.eq_nil_or_concat st with rfl | ⟨st', n, rfl⟩
  ·rw [rGo_nil]; exact ⟨H, by omega⟩
  ·rw [List.concat_eq_append] at *
   rw [rGo_snoc]
   obtain ⟨h1, h2, h3⟩ := rIn_I hV (f n) st' seen (H.pop (fun x => by simp [or_comm]) (by simp)) hK
   exact rGo_I hV m _ _ h1 (by unfold mSt at hM h2 ⊢; simp at hM; omega) h3
theorem rGoQ_I (hV : ∀ n k, k ∈ f n → k ∈ V) : ∀ (m : Nat) (st seen : List Int), ReI f V a none st seen → mSt V st seen ≤ m → seen.length + unS V seen ≤ V.length → ReI f V a none [] (rGoQ f m st seen) ∧ (rGoQ f m st seen).length ≤ V.length
 | 0, st, seen, H, hM, hK => by
  have : st = [] := List.eq_nil_of_length_eq_zero (by unfold mSt at hM; omega)
  subst this
  exact ⟨H, by show seen.length ≤ _; omega⟩
 | m + 1, [], seen, H, hM, hK => by rw [rGoQ_nil]; exact ⟨H, by omega⟩
 | m + 1, n :: st', seen, H, hM, hK => by
  rw [rGoQ]
  obtain ⟨h1, h2, h3⟩ := rIn_I hV (f n) st' seen (H.pop (fun x => by simp) (by simp)) hK
  exact rGoQ_I hV m _ _ h1 (by unfold mSt at hM h2 ⊢; simp at hM; omega) h3
end
theorem reachL_mem (U : List (Int × List Int)) (a x : Int) : x ∈ reachL U a ↔ Rch (nx U) a x :=
 (rGo_I (V := uVals U) (fun _ _ h => nx_mem h) _ [a] [] .start (by have := unS_le (uVals U) []; unfold mSt; simp; omega) (by have := unS_le (uVals U) []; simp; omega)).1.fin x
theorem reachedL_I (l : List GroupD) (a : Int) : ReI (nxR l) (gVals l) a none [] (reachedL l a) ∧ (reachedL l a).length ≤ (gVals l).length :=
 rGoQ_I (fun n k h => by rw [nxR_eq] at h; rw [gVals_eq]; exact nx_mem h) _ [a] [] .start (by have := unS_le (gVals l) []; unfold mSt; simp; omega) (by have := unS_le (gVals l) []; simp; omega)
theorem reached_mem (l : List GroupD) (a x : Int) : x ∈ reachedL l a ↔ x ∈ reachL (usesL l) a := by
 rw [(reachedL_I l a).1.fin x, reachL_mem, show nxR l = nx (usesL l) from funext (nxR_eq l)]
theorem uses_some (l : List GroupD) (n : Int) : (tfind n (usesL l)).isSome = (grpO l n).isSome := by
 unfold usesL grpO
 induction l with
 | nil => rfl
 | cons g l ih =>
  rw [List.map_cons, tfind, List.find?_cons]
  by_cases h : g.number = n
  ·rw [if_pos h.symm, decide_eq_true h]; rfl
  ·rw [if_neg (Ne.symm h), decide_eq_false h]; exact ih
theorem uses_get {l : List GroupD} (hn : (l.map GroupD.number).Nodup) {g : GroupD} (hg : g ∈ l) : (tfind g.number (usesL l)).getD [] = pNamed 2 g.pick := by
 unfold usesL
 induction l with
 | nil => cases hg
 | cons x l ih =>
  rw [List.map_cons, List.nodup_cons] at hn
  rw [List.map_cons, tfind]
  rcases List.mem_cons.1 hg with rfl | hg
  ·rw [if_pos rfl]; rfl
  ·rw [if_neg (fun e => hn.1 (List.mem_map.2 ⟨g, hg, e⟩))]
   exact ih hn.2 hg
theorem adj_lt {l : List Int} (h : ∀ j (hj : j + 1 < l.length), l[j] < l[j + 1]) : l.Pairwise (· < ·) := by
 rw [List.pairwise_iff_getElem]
 intro i j hi hj hij
 obtain ⟨d, rfl⟩ : ∃ d, j = i + 1 + d := ⟨j - i - 1, by omega⟩
 clear hij
 induction d with
 | zero => exact h i hj
 | succ d ih => exact Int.lt_trans (ih (by omega)) (h (i + 1 + d) hj)
def chkG (l : List GroupD) (i : Nat) (g : GroupD) : Int := if ¬ (withinB g.number 1 999 = true) then 1 else if 0 < i ∧ g.number ≤ (pv l i).number then 7 else checkF g.pick
def okG (l : List GroupD) : Prop := l.length ≤ mxl ∧ (∀ g ∈ l, pSize g.pick ≤ 2000000) ∧ (gVals l).length + 1 ≤ apM
theorem okG_of {l : List GroupD} (h1 : l.length ≤ mxl) (h2 : (l.map fun g => pSize g.pick).sum ≤ 1048576) : okG l := by
 have hm : ∀ (l : List GroupD) g, g ∈ l → pSize g.pick ≤ (l.map fun g => pSize g.pick).sum := by
  intro l
  induction l with
  | nil => intro g hg; cases hg
  | cons x l ih =>
   intro g hg
   rw [List.map_cons, List.sum_cons]
   rcases List.mem_cons.1 hg with rfl | hg
   ·omega
   ·have := ih g hg; omega
 have hv : ∀ l : List GroupD, (gVals l).length ≤ (l.map fun g => pSize g.pick).sum := by
  intro l
  unfold gVals
  induction l with
  | nil => simp
  | cons x l ih =>
   rw [List.flatMap_cons, List.length_append, List.map_cons, List.sum_cons]
   have := pNamed_len 2 x.pick
   omega
 refine ⟨h1, fun g hg => Nat.le_trans (hm l g hg) (by omega), ?_⟩
 have := hv l
 unfold apM; omega
theorem checkF_pk {p : PickD} (h : pSize p ≤ 2000000) : t_pick_Check p = some (checkF p) := by
 unfold t_pick_Check checkF
 rw [tq_pos h, tq_pos h, Option.bind_some, Option.bind_some]
 by_cases hc : 200 < pSize p ∨ 12 < pDeep p
 ·rw [if_pos hc, if_pos (by simp; omega)]
 ·rw [if_neg hc, if_neg (by simp; omega)]
theorem checkF_r4 {p : PickD} (h : pSize p ≤ 2000000) : t_R4_Check p = some (checkF p) := by
 unfold t_R4_Check checkF
 rw [tq_pos ⟨h, rfl⟩, tq_pos h, Option.bind_some, Option.bind_some]
 have hl := large_iff p
 by_cases hc : 200 < pSize p ∨ 12 < pDeep p
 ·rw [if_pos hc, if_pos (by have := hl.2 hc; simp; omega)]
 ·rw [if_neg hc, if_neg (by have := fun k => hc (hl.1 k); simp; omega)]
theorem nodup_of {l : List GroupD} (h : chkE (chkG l) l 0 = 0) : (l.map GroupD.number).Nodup := by
 have h0 := (chkE_zero l 0).1 h
 have : (l.map GroupD.number).Pairwise (· < ·) := by
  refine adj_lt fun j hj => ?_
  rw [List.length_map] at hj
  have hx : l[j + 1]? = some l[j + 1] := List.getElem?_eq_getElem hj
  have h1 := h0 (j + 1) _ hx
  unfold chkG at h1
  rw [Nat.zero_add] at h1
  have hp : pv l (j + 1) = l[j] := by unfold pv; simp [List.getD, List.getElem?_eq_getElem (by omega : j < l.length)]
  rw [hp] at h1
  split at h1
  ·cases h1
  ·split at h1
   ·cases h1
   ·rename_i q
    simp only [List.getElem_map]
    by_cases hq : l[j].number < l[j + 1].number
    ·exact hq
    ·exact absurd ⟨by omega, by omega⟩ q
 exact this.imp fun h => Int.ne_of_lt h
noncomputable def grpF (l : List GroupD) : Int :=
 if 200 < l.length then 2 else if chkE (chkG l) l 0 ≠ 0 then chkE (chkG l) l 0
 else if chkE (fun _ g => chkE (fun _ n => if (grpO l n).isSome then 0 else 8) (pNamed 2 g.pick) 0) l 0 ≠ 0 then chkE (fun _ g => chkE (fun _ n => if (grpO l n).isSome then 0 else 8) (pNamed 2 g.pick) 0) l 0
 else chkE (fun _ g => if g.number ∈ reachL (usesL l) g.number then 11 else 0) l 0
theorem chk1 {q : PickD → Option Int} {l : List GroupD} {i : Nat} {x : GroupD} (hl : l.length ≤ mxl) (hx : l[i]? = some x) (hq : q x.pick = some (checkF x.pick)) : (if (!(withinB x.number 1 999)) = true then some (.ret 1) else (if decide (0 < (i : Int)) = true then tIx l (IntKind.i64.wrap ((i : Int) - 1)) else some default).bind fun x9 =>
   if ((decide (0 < (i : Int))) && (decide (x.number ≤ x9.number))) = true then some (.ret 7) else (q x.pick).bind fun r10 => if ¬ (r10 = 0) then some (.ret r10) else some (.go ()) : Option (Lr Unit Unit Int)) = some (if chkG l i x = 0 then .go () else .ret (chkG l i x)) := by
 rw [prev_at hx hl, Option.bind_some, hq, Option.bind_some]
 unfold chkG
 cases hw : withinB x.number 1 999
 ·simp
 ·by_cases hp : 0 < i ∧ x.number ≤ (pv l i).number
  ·simp [hp]
  ·have : ¬ ((decide (0 < (i : Int))) && (decide (x.number ≤ (pv l i).number))) = true := by
    simp only [Bool.and_eq_true, decide_eq_true_eq]; omega
   rw [if_neg this]
   simp only [Bool.not_true, Bool.false_eq_true, if_false, not_true_eq_false, if_neg hp]
   by_cases hc : checkF x.pick = 0 <;> simp [hc]
theorem okG_vals {l : List GroupD} (h : okG l) : (uVals (usesL l)).length + 1 ≤ apM := by rw [← gVals_eq]; exact h.2.2
theorem named_mx {l : List GroupD} (h : okG l) {g : GroupD} (hg : g ∈ l) : (pNamed 2 g.pick).length ≤ mxl := by
 have := pNamed_len 2 g.pick; have := h.2.1 g hg; unfold mxl; omega
theorem any_mem (n : Int) (S : List Int) : (S.any fun x => decide (n = x)) = decide (n ∈ S) := by rw [Bool.eq_iff_iff]; simp
theorem chkGroups_pk {l : List GroupD} (h : okG l) : t_pick_CheckGroups l = some (grpF l) := by
 unfold t_pick_CheckGroups grpF
 by_cases h2 : 200 < l.length
 ·rw [if_pos (by omega), if_pos h2]
 ·rw [if_neg (by omega), if_neg h2]
  rw [forE_chk (f := chkG l) h.1 (fun i x hx => chk1 h.1 hx (checkF_pk (h.2.1 x (List.mem_of_getElem? hx)))) rfl]
  by_cases h1 : chkE (chkG l) l 0 = 0
  ·rw [if_pos h1, if_neg (fun k => k h1)]
   have hn := nodup_of h1
   rw [tq_pos ⟨hn, h.2.1, h.1⟩, Option.bind_some]
   rw [forE_chk (f := fun _ g => chkE (fun _ n => if (grpO l n).isSome then 0 else 8) (pNamed 2 g.pick) 0) h.1 (fun i x hx => by
    have hm := List.mem_of_getElem? hx
    simp only [uses_get hn hm]
    rw [forE_chk (f := fun _ n => if (grpO l n).isSome then 0 else 8) (named_mx h hm) (fun j n _ => by
     rw [uses_some]; cases (grpO l n).isSome <;> rfl) rfl]
    exact elim_ret _) rfl]
   by_cases h3 : chkE (fun _ g => chkE (fun _ n => if (grpO l n).isSome then 0 else 8) (pNamed 2 g.pick) 0) l 0 = 0
   ·rw [if_pos h3, if_neg (fun k => k h3)]
    rw [forE_chk (f := fun _ g => if g.number ∈ reachL (usesL l) g.number then 11 else 0) h.1 (fun i x hx => by
     rw [tq_pos (okG_vals h), Option.bind_some, tfind_setP]
     by_cases hr : x.number ∈ reachL (usesL l) x.number <;> simp [hr]) rfl]
    split
    ·rename_i q; rw [q]
    ·rfl
   ·rw [if_neg h3, if_pos h3]
  ·rw [if_neg h1, if_pos h1]
theorem chkGroups_r4 {l : List GroupD} (h : okG l) : t_R4_CheckGroups l = some (grpF l) := by
 unfold t_R4_CheckGroups grpF
 by_cases h2 : 200 < l.length
 ·rw [if_pos (by omega), if_pos h2]
 ·rw [if_neg (by omega), if_neg h2]
  rw [forE_chk (f := chkG l) h.1 (fun i x hx => chk1 h.1 hx (checkF_r4 (h.2.1 x (List.mem_of_getElem? hx)))) rfl]
  by_cases h1 : chkE (chkG l) l 0 = 0
  ·rw [if_pos h1, if_neg (fun k => k h1)]
   rw [forE_chk (f := fun _ g => chkE (fun _ n => if (grpO l n).isSome then 0 else 8) (pNamed 2 g.pick) 0) h.1 (fun i x hx => by
    have hm := List.mem_of_getElem? hx
    simp only [tq_pos (h.2.1 x hm), Option.bind_some]
    rw [forE_chk (f := fun _ n => if (grpO l n).isSome then 0 else 8) (named_mx h hm) (fun j n _ => by
     rw [GroupOf_t l h.1 n, Option.bind_some]; cases (grpO l n).isSome <;> rfl) rfl]
    exact elim_ret _) rfl]
   by_cases h3 : chkE (fun _ g => chkE (fun _ n => if (grpO l n).isSome then 0 else 8) (pNamed 2 g.pick) 0) l 0 = 0
   ·rw [if_pos h3, if_neg (fun k => k h3)]
    rw [forE_chk (f := fun _ g => if g.number ∈ reachL (usesL l) g.number then 11 else 0) h.1 (fun i x hx => by
     have hL := (reachedL_I l x.number).2
     have hb := h.2.2
     rw [tq_pos ⟨h.1, h.2.1, h.2.2⟩, Option.bind_some, tq_pos (by unfold apM at hb; unfold mxl; omega), Option.bind_some, any_mem]
     have e := reached_mem l x.number x.number
     by_cases hr : x.number ∈ reachL (usesL l) x.number
     ·simp [hr, e.2 hr]
     ·have hr' : ¬ x.number ∈ reachedL l x.number := fun k => hr (e.1 k)
      simp [hr, hr']) rfl]
    split
    ·rename_i q; rw [q]
    ·rfl
   ·rw [if_neg h3, if_pos h3]
  ·rw [if_neg h1, if_pos h1]
noncomputable def useL (l : List GroupD) (n : Int) : List Int := (l.filter fun g => decide (n ∈ reachL (usesL l) g.number)).map GroupD.number
noncomputable def gUsesF (l : List GroupD) (n : Int) : List Int × Int := if grpF l ≠ 0 then ([], grpF l) else if (grpO l n).isSome = false then ([], 8) else (useL l n, 0)
theorem use_take (p : GroupD → Bool) (l : List GroupD) (i : Nat) {x : GroupD} (hx : l[i]? = some x) : ((l.take (i + 1)).filter p).map GroupD.number = if p x = true then ((l.take i).filter p).map GroupD.number ++ [x.number] else ((l.take i).filter p).map GroupD.number := by
 have ht : l.take (i + 1) = l.take i ++ [x] := by rw [List.take_add_one, hx]; rfl
 rw [ht, List.filter_append, List.map_append]
 cases h : p x <;> simp [h]
theorem grpF_len {l : List GroupD} (h : grpF l = 0) : l.length ≤ 200 := by
 unfold grpF at h
 split at h
 ·cases h
 ·omega
theorem grpF_nodup {l : List GroupD} (h : grpF l = 0) : (l.map GroupD.number).Nodup := by
 unfold grpF at h
 split at h
 ·cases h
 ·split at h
  ·rename_i q; exact absurd h q
  ·rename_i q; exact nodup_of (by simpa using q)
theorem uses_pk {l : List GroupD} (h : okG l) (n : Int) : t_pick_Uses l n = some (gUsesF l n) := by
 unfold t_pick_Uses gUsesF
 rw [chkGroups_pk h, Option.bind_some]
 by_cases h1 : grpF l = 0
 ·rw [if_neg (fun k => k h1), if_neg (fun k => k h1), tq_pos ⟨grpF_nodup h1, h.2.1, h.1⟩, Option.bind_some, uses_some]
  have hlen := grpF_len h1
  cases h2 : (grpO l n).isSome
  ·rfl
  ·rw [if_neg (by simp), if_neg (by simp)]
   rw [forE_st (fun i => ((l.take i).filter fun g => decide (n ∈ reachL (usesL l) g.number)).map GroupD.number) h.1 (by simp)]
   ·simp only [List.take_length, Option.bind_some]; rfl
   ·intro i x hx
    have hle : (((l.take i).filter fun g => decide (n ∈ reachL (usesL l) g.number)).map GroupD.number).length ≤ 200 := by
     rw [List.length_map]
     have := List.length_filter_le (fun g : GroupD => decide (n ∈ reachL (usesL l) g.number)) (l.take i)
     rw [List.length_take] at this
     omega
    rw [tq_pos (okG_vals h), Option.bind_some, tfind_setP, use_take _ l i hx]
    by_cases hr : n ∈ reachL (usesL l) x.number
    ·rw [decide_eq_true hr, if_pos rfl, if_pos (by simp only [List.length_singleton]; omega)]; rfl
    ·rw [decide_eq_false hr]; rfl
 ·rw [if_pos h1, if_pos h1]
theorem uses_r4 {l : List GroupD} (h : okG l) (n : Int) : t_R4_Uses l n = some (gUsesF l n) := by
 unfold t_R4_Uses gUsesF
 rw [chkGroups_r4 h, Option.bind_some]
 by_cases h1 : grpF l = 0
 ·rw [if_neg (fun k => k h1), if_neg (fun k => k h1), GroupOf_t l h.1 n, Option.bind_some]
  have hlen := grpF_len h1
  cases h2 : (grpO l n).isSome
  ·rfl
  ·rw [if_neg (by simp), if_neg (by simp)]
   rw [forE_st (fun i => ((l.take i).filter fun g => decide (n ∈ reachL (usesL l) g.number)).map GroupD.number) h.1 (by simp)]
   ·simp only [List.take_length, Option.bind_some]; rfl
   ·intro i x hx
    have hle : (((l.take i).filter fun g => decide (n ∈ reachL (usesL l) g.number)).map GroupD.number).length ≤ 200 := by
     rw [List.length_map]
     have := List.length_filter_le (fun g : GroupD => decide (n ∈ reachL (usesL l) g.number)) (l.take i)
     rw [List.length_take] at this
     omega
    have hL := (reachedL_I l x.number).2
    have hb := h.2.2
    have e := reached_mem l x.number n
    rw [tq_pos ⟨h.1, h.2.1, h.2.2⟩, Option.bind_some, tq_pos (by unfold apM at hb; unfold mxl; omega), Option.bind_some, any_mem, use_take _ l i hx]
    by_cases hr : n ∈ reachL (usesL l) x.number
    ·rw [decide_eq_true (e.2 hr), decide_eq_true hr, if_pos rfl, if_pos (by simp only [List.length_singleton]; omega)]; rfl
    ·rw [decide_eq_false hr, decide_eq_false (fun k => hr (e.1 k))]; rfl
 ·rw [if_pos h1, if_pos h1]
theorem eqI_self (l : List Int) (hl : l.length ≤ mxl) : t_slices_Equal_int l l = some true := by
 unfold t_slices_Equal_int
 rw [if_neg (fun k => k rfl), forE_st (fun _ => ()) hl rfl]
 ·rfl
 ·intro i x hx
  rw [tIx_get (by omega) (by simpa using hx), Option.bind_some, if_neg (fun k => k rfl)]
theorem pickGroupsMatchSpec_true (l : List GroupD) (n : Int) (h : okG l) (_ : inI n) : t_W4_PickGroupsMatchSpec l n = some true := by
 have hlen : (gUsesF l n).1.length ≤ mxl := by
  unfold gUsesF
  split
  ·exact Nat.zero_le _
  ·split
   ·exact Nat.zero_le _
   ·rename_i h1 _
    have h1 := grpF_len (by simpa using h1)
    show (useL l n).length ≤ mxl
    unfold useL
    rw [List.length_map]
    have := List.length_filter_le (fun g : GroupD => decide (n ∈ reachL (usesL l) g.number)) l
    unfold mxl; omega
 unfold t_W4_PickGroupsMatchSpec
 simp only [uses_pk h, uses_r4 h, chkGroups_pk h, chkGroups_r4 h, Option.bind_some, decide_true, if_true, eqI_self _ hlen, Bool.and_self]
end Go.Proofs.Ytgjglkakhmikjaa

namespace Go.Proofs.Ytgjglkakhmikjaa
set_option linter.unusedSectionVars false
open Go.RowKit
set_option linter.unusedVariables false
set_option linter.unusedSimpArgs false

def Gr (w w' : World) : Prop := Below w.heap.size w w'
theorem Gr.cell {a b : World} (h : Gr a b) {p : Addr} {v : Value} (hc : a.cell? p = some v) : b.cell? p = some v := by
 by_cases hp : p.block < a.heap.size
 ·rw [Below.cell h hp]; exact hc
 ·have : a.heap[p.block]? = none := Array.getElem?_eq_none (by omega)
  simp [World.cell?, this] at hc
abbrev Box1 (w : World) (b : Nat) (v0 : Value) : Prop := (w.cell? ⟨b, 0, none⟩ = some v0) ∧ (w.frozen? ⟨b, 0, none⟩ = false) ∧ b < w.heap.size
abbrev Box2 (w : World) (b : Nat) (v0 v1 : Value) : Prop := (w.cell? ⟨b, 0, none⟩ = some v0 ∧ w.cell? ⟨b, 1, none⟩ = some v1) ∧ (w.frozen? ⟨b, 0, none⟩ = false ∧ w.frozen? ⟨b, 1, none⟩ = false) ∧ b < w.heap.size
abbrev Box3 (w : World) (b : Nat) (v0 v1 v2 : Value) : Prop := (w.cell? ⟨b, 0, none⟩ = some v0 ∧ w.cell? ⟨b, 1, none⟩ = some v1 ∧ w.cell? ⟨b, 2, none⟩ = some v2) ∧ (w.frozen? ⟨b, 0, none⟩ = false ∧ w.frozen? ⟨b, 1, none⟩ = false ∧ w.frozen? ⟨b, 2, none⟩ = false) ∧ b < w.heap.size
abbrev Box4 (w : World) (b : Nat) (v0 v1 v2 v3 : Value) : Prop := (w.cell? ⟨b, 0, none⟩ = some v0 ∧ w.cell? ⟨b, 1, none⟩ = some v1 ∧ w.cell? ⟨b, 2, none⟩ = some v2 ∧ w.cell? ⟨b, 3, none⟩ = some v3) ∧ (w.frozen? ⟨b, 0, none⟩ = false ∧ w.frozen? ⟨b, 1, none⟩ = false ∧ w.frozen? ⟨b, 2, none⟩ = false ∧ w.frozen? ⟨b, 3, none⟩ = false) ∧ b < w.heap.size
abbrev Box5 (w : World) (b : Nat) (v0 v1 v2 v3 v4 : Value) : Prop := (w.cell? ⟨b, 0, none⟩ = some v0 ∧ w.cell? ⟨b, 1, none⟩ = some v1 ∧ w.cell? ⟨b, 2, none⟩ = some v2 ∧ w.cell? ⟨b, 3, none⟩ = some v3 ∧ w.cell? ⟨b, 4, none⟩ = some v4) ∧ (w.frozen? ⟨b, 0, none⟩ = false ∧ w.frozen? ⟨b, 1, none⟩ = false ∧ w.frozen? ⟨b, 2, none⟩ = false ∧ w.frozen? ⟨b, 3, none⟩ = false ∧ w.frozen? ⟨b, 4, none⟩ = false) ∧ b < w.heap.size
abbrev Box6 (w : World) (b : Nat) (v0 v1 v2 v3 v4 v5 : Value) : Prop := (w.cell? ⟨b, 0, none⟩ = some v0 ∧ w.cell? ⟨b, 1, none⟩ = some v1 ∧ w.cell? ⟨b, 2, none⟩ = some v2 ∧ w.cell? ⟨b, 3, none⟩ = some v3 ∧ w.cell? ⟨b, 4, none⟩ = some v4 ∧ w.cell? ⟨b, 5, none⟩ = some v5) ∧ (w.frozen? ⟨b, 0, none⟩ = false ∧ w.frozen? ⟨b, 1, none⟩ = false ∧ w.frozen? ⟨b, 2, none⟩ = false ∧ w.frozen? ⟨b, 3, none⟩ = false ∧ w.frozen? ⟨b, 4, none⟩ = false ∧ w.frozen? ⟨b, 5, none⟩ = false) ∧ b < w.heap.size
abbrev Box7 (w : World) (b : Nat) (v0 v1 v2 v3 v4 v5 v6 : Value) : Prop := (w.cell? ⟨b, 0, none⟩ = some v0 ∧ w.cell? ⟨b, 1, none⟩ = some v1 ∧ w.cell? ⟨b, 2, none⟩ = some v2 ∧ w.cell? ⟨b, 3, none⟩ = some v3 ∧ w.cell? ⟨b, 4, none⟩ = some v4 ∧ w.cell? ⟨b, 5, none⟩ = some v5 ∧ w.cell? ⟨b, 6, none⟩ = some v6) ∧ (w.frozen? ⟨b, 0, none⟩ = false ∧ w.frozen? ⟨b, 1, none⟩ = false ∧ w.frozen? ⟨b, 2, none⟩ = false ∧ w.frozen? ⟨b, 3, none⟩ = false ∧ w.frozen? ⟨b, 4, none⟩ = false ∧ w.frozen? ⟨b, 5, none⟩ = false ∧ w.frozen? ⟨b, 6, none⟩ = false) ∧ b < w.heap.size
abbrev Box8 (w : World) (b : Nat) (v0 v1 v2 v3 v4 v5 v6 v7 : Value) : Prop := (w.cell? ⟨b, 0, none⟩ = some v0 ∧ w.cell? ⟨b, 1, none⟩ = some v1 ∧ w.cell? ⟨b, 2, none⟩ = some v2 ∧ w.cell? ⟨b, 3, none⟩ = some v3 ∧ w.cell? ⟨b, 4, none⟩ = some v4 ∧ w.cell? ⟨b, 5, none⟩ = some v5 ∧ w.cell? ⟨b, 6, none⟩ = some v6 ∧ w.cell? ⟨b, 7, none⟩ = some v7) ∧ (w.frozen? ⟨b, 0, none⟩ = false ∧ w.frozen? ⟨b, 1, none⟩ = false ∧ w.frozen? ⟨b, 2, none⟩ = false ∧ w.frozen? ⟨b, 3, none⟩ = false ∧ w.frozen? ⟨b, 4, none⟩ = false ∧ w.frozen? ⟨b, 5, none⟩ = false ∧ w.frozen? ⟨b, 6, none⟩ = false ∧ w.frozen? ⟨b, 7, none⟩ = false) ∧ b < w.heap.size
abbrev Box9 (w : World) (b : Nat) (v0 v1 v2 v3 v4 v5 v6 v7 v8 : Value) : Prop := (w.cell? ⟨b, 0, none⟩ = some v0 ∧ w.cell? ⟨b, 1, none⟩ = some v1 ∧ w.cell? ⟨b, 2, none⟩ = some v2 ∧ w.cell? ⟨b, 3, none⟩ = some v3 ∧ w.cell? ⟨b, 4, none⟩ = some v4 ∧ w.cell? ⟨b, 5, none⟩ = some v5 ∧ w.cell? ⟨b, 6, none⟩ = some v6 ∧ w.cell? ⟨b, 7, none⟩ = some v7 ∧ w.cell? ⟨b, 8, none⟩ = some v8) ∧ (w.frozen? ⟨b, 0, none⟩ = false ∧ w.frozen? ⟨b, 1, none⟩ = false ∧ w.frozen? ⟨b, 2, none⟩ = false ∧ w.frozen? ⟨b, 3, none⟩ = false ∧ w.frozen? ⟨b, 4, none⟩ = false ∧ w.frozen? ⟨b, 5, none⟩ = false ∧ w.frozen? ⟨b, 6, none⟩ = false ∧ w.frozen? ⟨b, 7, none⟩ = false ∧ w.frozen? ⟨b, 8, none⟩ = false) ∧ b < w.heap.size
abbrev Box10 (w : World) (b : Nat) (v0 v1 v2 v3 v4 v5 v6 v7 v8 v9 : Value) : Prop := (w.cell? ⟨b, 0, none⟩ = some v0 ∧ w.cell? ⟨b, 1, none⟩ = some v1 ∧ w.cell? ⟨b, 2, none⟩ = some v2 ∧ w.cell? ⟨b, 3, none⟩ = some v3 ∧ w.cell? ⟨b, 4, none⟩ = some v4 ∧ w.cell? ⟨b, 5, none⟩ = some v5 ∧ w.cell? ⟨b, 6, none⟩ = some v6 ∧ w.cell? ⟨b, 7, none⟩ = some v7 ∧ w.cell? ⟨b, 8, none⟩ = some v8 ∧ w.cell? ⟨b, 9, none⟩ = some v9) ∧ (w.frozen? ⟨b, 0, none⟩ = false ∧ w.frozen? ⟨b, 1, none⟩ = false ∧ w.frozen? ⟨b, 2, none⟩ = false ∧ w.frozen? ⟨b, 3, none⟩ = false ∧ w.frozen? ⟨b, 4, none⟩ = false ∧ w.frozen? ⟨b, 5, none⟩ = false ∧ w.frozen? ⟨b, 6, none⟩ = false ∧ w.frozen? ⟨b, 7, none⟩ = false ∧ w.frozen? ⟨b, 8, none⟩ = false ∧ w.frozen? ⟨b, 9, none⟩ = false) ∧ b < w.heap.size
abbrev Box11 (w : World) (b : Nat) (v0 v1 v2 v3 v4 v5 v6 v7 v8 v9 v10 : Value) : Prop := (w.cell? ⟨b, 0, none⟩ = some v0 ∧ w.cell? ⟨b, 1, none⟩ = some v1 ∧ w.cell? ⟨b, 2, none⟩ = some v2 ∧ w.cell? ⟨b, 3, none⟩ = some v3 ∧ w.cell? ⟨b, 4, none⟩ = some v4 ∧ w.cell? ⟨b, 5, none⟩ = some v5 ∧ w.cell? ⟨b, 6, none⟩ = some v6 ∧ w.cell? ⟨b, 7, none⟩ = some v7 ∧ w.cell? ⟨b, 8, none⟩ = some v8 ∧ w.cell? ⟨b, 9, none⟩ = some v9 ∧ w.cell? ⟨b, 10, none⟩ = some v10) ∧ (w.frozen? ⟨b, 0, none⟩ = false ∧ w.frozen? ⟨b, 1, none⟩ = false ∧ w.frozen? ⟨b, 2, none⟩ = false ∧ w.frozen? ⟨b, 3, none⟩ = false ∧ w.frozen? ⟨b, 4, none⟩ = false ∧ w.frozen? ⟨b, 5, none⟩ = false ∧ w.frozen? ⟨b, 6, none⟩ = false ∧ w.frozen? ⟨b, 7, none⟩ = false ∧ w.frozen? ⟨b, 8, none⟩ = false ∧ w.frozen? ⟨b, 9, none⟩ = false ∧ w.frozen? ⟨b, 10, none⟩ = false) ∧ b < w.heap.size
abbrev Box12 (w : World) (b : Nat) (v0 v1 v2 v3 v4 v5 v6 v7 v8 v9 v10 v11 : Value) : Prop := (w.cell? ⟨b, 0, none⟩ = some v0 ∧ w.cell? ⟨b, 1, none⟩ = some v1 ∧ w.cell? ⟨b, 2, none⟩ = some v2 ∧ w.cell? ⟨b, 3, none⟩ = some v3 ∧ w.cell? ⟨b, 4, none⟩ = some v4 ∧ w.cell? ⟨b, 5, none⟩ = some v5 ∧ w.cell? ⟨b, 6, none⟩ = some v6 ∧ w.cell? ⟨b, 7, none⟩ = some v7 ∧ w.cell? ⟨b, 8, none⟩ = some v8 ∧ w.cell? ⟨b, 9, none⟩ = some v9 ∧ w.cell? ⟨b, 10, none⟩ = some v10 ∧ w.cell? ⟨b, 11, none⟩ = some v11) ∧ (w.frozen? ⟨b, 0, none⟩ = false ∧ w.frozen? ⟨b, 1, none⟩ = false ∧ w.frozen? ⟨b, 2, none⟩ = false ∧ w.frozen? ⟨b, 3, none⟩ = false ∧ w.frozen? ⟨b, 4, none⟩ = false ∧ w.frozen? ⟨b, 5, none⟩ = false ∧ w.frozen? ⟨b, 6, none⟩ = false ∧ w.frozen? ⟨b, 7, none⟩ = false ∧ w.frozen? ⟨b, 8, none⟩ = false ∧ w.frozen? ⟨b, 9, none⟩ = false ∧ w.frozen? ⟨b, 10, none⟩ = false ∧ w.frozen? ⟨b, 11, none⟩ = false) ∧ b < w.heap.size
abbrev Box13 (w : World) (b : Nat) (v0 v1 v2 v3 v4 v5 v6 v7 v8 v9 v10 v11 v12 : Value) : Prop := (w.cell? ⟨b, 0, none⟩ = some v0 ∧ w.cell? ⟨b, 1, none⟩ = some v1 ∧ w.cell? ⟨b, 2, none⟩ = some v2 ∧ w.cell? ⟨b, 3, none⟩ = some v3 ∧ w.cell? ⟨b, 4, none⟩ = some v4 ∧ w.cell? ⟨b, 5, none⟩ = some v5 ∧ w.cell? ⟨b, 6, none⟩ = some v6 ∧ w.cell? ⟨b, 7, none⟩ = some v7 ∧ w.cell? ⟨b, 8, none⟩ = some v8 ∧ w.cell? ⟨b, 9, none⟩ = some v9 ∧ w.cell? ⟨b, 10, none⟩ = some v10 ∧ w.cell? ⟨b, 11, none⟩ = some v11 ∧ w.cell? ⟨b, 12, none⟩ = some v12) ∧ (w.frozen? ⟨b, 0, none⟩ = false ∧ w.frozen? ⟨b, 1, none⟩ = false ∧ w.frozen? ⟨b, 2, none⟩ = false ∧ w.frozen? ⟨b, 3, none⟩ = false ∧ w.frozen? ⟨b, 4, none⟩ = false ∧ w.frozen? ⟨b, 5, none⟩ = false ∧ w.frozen? ⟨b, 6, none⟩ = false ∧ w.frozen? ⟨b, 7, none⟩ = false ∧ w.frozen? ⟨b, 8, none⟩ = false ∧ w.frozen? ⟨b, 9, none⟩ = false ∧ w.frozen? ⟨b, 10, none⟩ = false ∧ w.frozen? ⟨b, 11, none⟩ = false ∧ w.frozen? ⟨b, 12, none⟩ = false) ∧ b < w.heap.size
abbrev Box14 (w : World) (b : Nat) (v0 v1 v2 v3 v4 v5 v6 v7 v8 v9 v10 v11 v12 v13 : Value) : Prop := (w.cell? ⟨b, 0, none⟩ = some v0 ∧ w.cell? ⟨b, 1, none⟩ = some v1 ∧ w.cell? ⟨b, 2, none⟩ = some v2 ∧ w.cell? ⟨b, 3, none⟩ = some v3 ∧ w.cell? ⟨b, 4, none⟩ = some v4 ∧ w.cell? ⟨b, 5, none⟩ = some v5 ∧ w.cell? ⟨b, 6, none⟩ = some v6 ∧ w.cell? ⟨b, 7, none⟩ = some v7 ∧ w.cell? ⟨b, 8, none⟩ = some v8 ∧ w.cell? ⟨b, 9, none⟩ = some v9 ∧ w.cell? ⟨b, 10, none⟩ = some v10 ∧ w.cell? ⟨b, 11, none⟩ = some v11 ∧ w.cell? ⟨b, 12, none⟩ = some v12 ∧ w.cell? ⟨b, 13, none⟩ = some v13) ∧ (w.frozen? ⟨b, 0, none⟩ = false ∧ w.frozen? ⟨b, 1, none⟩ = false ∧ w.frozen? ⟨b, 2, none⟩ = false ∧ w.frozen? ⟨b, 3, none⟩ = false ∧ w.frozen? ⟨b, 4, none⟩ = false ∧ w.frozen? ⟨b, 5, none⟩ = false ∧ w.frozen? ⟨b, 6, none⟩ = false ∧ w.frozen? ⟨b, 7, none⟩ = false ∧ w.frozen? ⟨b, 8, none⟩ = false ∧ w.frozen? ⟨b, 9, none⟩ = false ∧ w.frozen? ⟨b, 10, none⟩ = false ∧ w.frozen? ⟨b, 11, none⟩ = false ∧ w.frozen? ⟨b, 12, none⟩ = false ∧ w.frozen? ⟨b, 13, none⟩ = false) ∧ b < w.heap.size
end Go.Proofs.Ytgjglkakhmikjaa

namespace Go.Proofs.Ytgjglkakhmikjaa
set_option linter.unusedSectionVars false
open Go.RowKit Go.Deep
set_option linter.unusedVariables false
set_option linter.unusedSimpArgs false

structure Cod (α : Type) where
 size : Nat
 is : World → List Value → α → Prop
 len : ∀ {w cs a}, is w cs a → cs.length = size
 mono : ∀ {w w' cs a}, is w cs a → Gr w w' → is w' cs a
 bulk : α → Nat

def intC : Cod Int where
 size := 1
 is := fun _ cs n => cs = [.int .i64 n] ∧ -9223372036854775808 ≤ n ∧ n ≤ 9223372036854775807
 len := fun h => by rw [h.1]; rfl
 mono := fun h _ => h
 bulk := fun _ => 1
def Cod.pair {α β : Type} (c : Cod α) (d : Cod β) : Cod (α × β) where
 size := c.size + d.size
 is := fun w cs x => c.is w (cs.take c.size) x.1 ∧ d.is w (cs.drop c.size) x.2
 len := fun {w cs a} h => by
  have h1 := c.len h.1
  have h2 := d.len h.2
  simp at h1 h2
  omega
 mono := fun h g => ⟨c.mono h.1 g, d.mono h.2 g⟩
 bulk := fun x => c.bulk x.1 + d.bulk x.2
def sliceC {α : Type} (c : Cod α) : Cod (List α) where
 size := 1
 is := fun w cs l => (cs = [.slice none 0 0] ∧ l = []) ∨ ∃ (b off : Nat) (sp : Option Nat) (cap : Nat), cs = [.slice (some ⟨b, off, sp⟩) l.length cap] ∧ l.length ≤ cap ∧ l.length ≤ maxLen ∧
  ∀ i (h : i < l.length), sp = none ∧ ∃ cs', (∀ j, j < c.size → w.cell? ⟨b, off + (i * c.size + j), none⟩ = cs'[j]?) ∧ c.is w cs' l[i]
 len := fun h => by
  rcases h with ⟨rfl, _⟩ | ⟨b, off, sp, cap, rfl, _⟩ <;> rfl
 mono := fun {w w' cs l} h g => by
  rcases h with h | ⟨b, off, sp, cap, h1, h2, h3, h4⟩
  ·exact .inl h
  ·refine .inr ⟨b, off, sp, cap, h1, h2, h3, fun i hi => ?_⟩
   obtain ⟨e, cs', h5, h6⟩ := h4 i hi
   refine ⟨e, cs', fun j hj => ?_, c.mono h6 g⟩
   have h7 := h5 j hj
   have hl := c.len h6
   rw [List.getElem?_eq_getElem (by omega)] at h7 ⊢
   exact g.cell h7
 bulk := fun l => (l.map c.bulk).sum + 1

def ReadsF {α : Type} (F : Nat → Prop) (P : Program) (c : Cod α) (t : TypeId) : Prop :=
 ∀ ⦃H : Type⦄ ⦃enc : TypeId × Value → H⦄ ⦃w : World⦄ ⦃base : Nat⦄ ⦃spare : Nat → Bool⦄ ⦃held : Bool⦄ ⦃fuel : Nat⦄ ⦃cs : List Value⦄ ⦃x : DataW H × List MemPlace⦄, F fuel →
  DataW.trod enc P w base spare held fuel t cs = some x → ∃ a, c.is w cs a ∧ c.bulk a ≤ Rows.uptoBulk x.1
theorem bulkAll_sum {H : Type} (l : List (DataW H)) : Rows.uptoBulkAll l = (l.map Rows.uptoBulk).sum := by
 induction l with
 | nil => rfl
 | cons x r ih => simp only [Rows.uptoBulkAll, List.map_cons, List.sum_cons, ih]
theorem sum_le_range {α : Type} (f : α → Nat) (D : Nat → Nat) : ∀ (l : List α) (o : Nat), (∀ i (h : i < l.length), f l[i] ≤ D (o + i)) → (l.map f).sum ≤ ((List.range' o l.length).map D).sum
 | [], _, _ => by simp
 | x :: r, o, h => by
  simp only [List.length_cons, List.range'_succ, List.map_cons, List.sum_cons]
  have h0 := h 0 (by simp)
  have := sum_le_range f D r (o + 1) (fun i hi => by have := h (i + 1) (by simp; omega); simp only [List.getElem_cons_succ] at this; rw [show o + 1 + i = o + (i + 1) by omega]; exact this)
  simp at h0
  omega

theorem wf_i64 {n : Int} (h : (Lit.int .i64 n).wf = true) : -9223372036854775808 ≤ n ∧ n ≤ 9223372036854775807 := by
 simpa [Lit.wf, IntKind.min, IntKind.max, IntKind.signed, IntKind.bits] using h
theorem bulk_pos {H : Type} (d : DataW H) : 1 ≤ Rows.uptoBulk d := by
 cases d with
 | lit l => cases l <;> simp [Rows.uptoBulk]
 | _ => simp [Rows.uptoBulk]
theorem reads_int {F : Nat → Prop} {P : Program} {t : TypeId} (ht : P.underlying t = some (.int .i64)) : ReadsF F P intC t := by
 intro H enc w base spare held fuel cs x _ h
 obtain ⟨n, rfl, _, hw⟩ := DataW.trod_int ht h
 exact ⟨n, ⟨rfl, wf_i64 hw⟩, bulk_pos _⟩
theorem reads_slice {F : Nat → Prop} {P : Program} {α : Type} {c : Cod α} {t e : TypeId} (ht : P.underlying t = some (.slice e)) (hz : P.cellsOf e = c.size) (hp : 0 < c.size) (hr : ReadsF (fun m => F (m + 1)) P c e) : ReadsF F P (sliceC c) t := by
 intro H enc w base spare held fuel cs x hF h
 rcases DataW.trod_slice ht h with ⟨rfl, rfl⟩ | ⟨a, len, cap, elems, rest, n, hfu, rfl, hxe, hb, hl, hm, hlen, hel, h8, h9⟩
 ·exact ⟨[], .inl ⟨rfl, rfl⟩, by simp [sliceC, Rows.uptoBulk]⟩
 ·obtain ⟨D, hD⟩ : ∃ D : Nat → DataW H, D = fun i => (elems.getD i (.nil, [])).1 := ⟨_, rfl⟩
  have key : ∀ i, i < len → ∃ (y : α) (cs' : List Value), (∀ j, j < c.size → w.cell? (a.add (i * c.size + j)) = cs'[j]?) ∧ c.is w cs' y ∧ c.bulk y ≤ Rows.uptoBulk (D i) := by
   intro i hi
   have hk := hel i hi
   rw [List.getElem?_eq_getElem (by omega)] at hk
   obtain ⟨cs', h1, h2⟩ := Option.bind_eq_some_iff.1 hk
   obtain ⟨y, hy, hyb⟩ := hr (by subst hfu; exact hF) h2
   have hyb : c.bulk y ≤ Rows.uptoBulk (D i) := by
    rw [hD]
    simpa [List.getD, List.getElem?_eq_getElem (show i < elems.length by omega)] using hyb
   obtain ⟨_, h3, h4⟩ := World.cells?_some h1
   refine ⟨y, cs', fun j hj => ?_, hy, hyb⟩
   have := h4 j (by rw [hz]; exact hj)
   rw [hz] at this
   rw [← this, add_add]
  obtain ⟨ys, hys⟩ : ∃ ys : List α, ys.length = len ∧ ∀ i (h : i < ys.length), c.bulk ys[i] ≤ Rows.uptoBulk (D i) ∧ ∃ cs', (∀ j, j < c.size → w.cell? (a.add (i * c.size + j)) = cs'[j]?) ∧ c.is w cs' ys[i] := by
   clear hel hlen h hl hxe h8 h9
   induction len with
   | zero => exact ⟨[], rfl, fun i h => by simp at h⟩
   | succ k ih =>
    obtain ⟨ys, h1, h2⟩ := ih (fun i hi => key i (by omega))
    obtain ⟨y, cs', h3, h4, h4b⟩ := key k (by omega)
    refine ⟨ys ++ [y], by simp [h1], fun i hi => ?_⟩
    by_cases hk : i < ys.length
    ·rw [List.getElem_append_left hk]; exact h2 i hk
    ·have : i = k := by simp at hi; omega
     subst this
     rw [List.getElem_append_right (by omega)]
     simp only [h1, Nat.sub_self, List.getElem_cons_zero]
     exact ⟨h4b, cs', h3, h4⟩
  obtain ⟨h1, h2⟩ := hys
  obtain ⟨b, off, sp⟩ := a
  refine ⟨ys, .inr ⟨b, off, sp, cap, by rw [h1], by omega, Nat.le_trans (show ys.length ≤ cap by omega) hm, fun i hi => ?_⟩, ?_⟩
  ·have hs : sp = none := by
    cases sp with
    | none => rfl
    | some q =>
     exfalso
     obtain ⟨_, cs', h3, h4⟩ := h2 0 (by omega)
     have h5 := h3 0 hp
     have hl := c.len h4
     rw [List.getElem?_eq_getElem (by omega)] at h5
     simp only [Nat.zero_mul, Nat.zero_add, World.cell?, Addr.add] at h5
     split at h5 <;> simp at h5
   obtain ⟨_, cs', h3, h4⟩ := h2 i hi
   subst hs
   refine ⟨rfl, cs', fun j hj => ?_, h4⟩
   have h6 := h3 j hj
   rw [← h6]
   congr 1
   simp only [Addr.add]
   split
   ·rename_i h7; simp only [h7, Nat.add_zero]
   ·rfl
  ·subst hxe
   simp only [sliceC, Rows.uptoBulk, bulkAll_sum, List.map_map]
   have := sum_le_range c.bulk (fun i => Rows.uptoBulk (D i)) ys 0 (fun i hi => by simpa using (h2 i hi).1)
   rw [h1, ← List.range_eq_range'] at this
   have e : List.map (Rows.uptoBulk ∘ fun x => x.1) elems = List.map (fun i => Rows.uptoBulk (D i)) (List.range len) := by
    rw [← hlen, hD]
    apply List.ext_getElem (by simp)
    intro i h3 h4
    simp at h3
    simp [List.getD, List.getElem?_eq_getElem h3]
   rw [e]
   omega
theorem take_drop_all {α : Type} (l : List α) (o n : Nat) (h : l.length = o + n) : (l.drop o).take n = l.drop o := List.take_of_length_le (by simp; omega)

theorem list_of_len2 {α : Type} (l : List α) (h : l.length = 2) : ∃ x0 x1, l = [x0, x1] := by
 match l, h with
 | [x0, x1], _ => exact ⟨x0, x1, rfl⟩
theorem reads_struct2 {F : Nat → Prop} {P : Program} {α0 α1 : Type} {t : TypeId} {f0 f1 : Field} {c0 : Cod α0} {c1 : Cod α1} (ht : P.underlying t = some (.struct #[f0, f1])) (hz : P.cellsOf t = c0.size + c1.size) (o0 : f0.offset = 0) (o1 : f1.offset = c0.size) (z0 : P.cellsOf f0.type = c0.size) (z1 : P.cellsOf f1.type = c1.size) (r0 : ReadsF (fun m => F (m + 1)) P c0 f0.type) (r1 : ReadsF (fun m => F (m + 1)) P c1 f1.type) : ReadsF F P (c0.pair c1) t := by
 intro H enc w base spare held fuel cs x hF h
 obtain ⟨xs, m, hfu, hxx, hlen, hxl, hf⟩ := DataW.trod_struct ht h
 rw [hz] at hlen
 have hxl : xs.length = 2 := hxl
 have h0 := hf 0 f0 rfl
 rw [o0, z0, List.getElem?_eq_getElem (show 0 < xs.length by omega)] at h0
 obtain ⟨a0, k0, b0⟩ := r0 (by subst hfu; exact hF) h0
 have h1 := hf 1 f1 rfl
 rw [o1, z1, List.getElem?_eq_getElem (show 1 < xs.length by omega)] at h1
 obtain ⟨a1, k1, b1⟩ := r1 (by subst hfu; exact hF) h1
 rw [take_drop_all cs (c0.size) c1.size (by omega)] at k1
 refine ⟨(a0, a1), ?_, ?_⟩
 ·exact ⟨by simpa using k0, (by simpa [List.drop_drop, Nat.add_assoc] using k1)⟩
 ·subst hxx
  simp only [Rows.uptoBulk, bulkAll_sum, Cod.pair]
  have hs : (List.map Rows.uptoBulk (xs.map (·.1))).sum = Rows.uptoBulk xs[0].1 + (Rows.uptoBulk xs[1].1) := by
   obtain ⟨x0, x1, rfl⟩ := list_of_len2 xs hxl
   simp
  rw [hs]
  exact Nat.le_succ_of_le (Nat.add_le_add b0 b1)
theorem list_of_len4 {α : Type} (l : List α) (h : l.length = 4) : ∃ x0 x1 x2 x3, l = [x0, x1, x2, x3] := by
 match l, h with
 | [x0, x1, x2, x3], _ => exact ⟨x0, x1, x2, x3, rfl⟩
theorem reads_struct4 {F : Nat → Prop} {P : Program} {α0 α1 α2 α3 : Type} {t : TypeId} {f0 f1 f2 f3 : Field} {c0 : Cod α0} {c1 : Cod α1} {c2 : Cod α2} {c3 : Cod α3} (ht : P.underlying t = some (.struct #[f0, f1, f2, f3])) (hz : P.cellsOf t = c0.size + c1.size + c2.size + c3.size) (o0 : f0.offset = 0) (o1 : f1.offset = c0.size) (o2 : f2.offset = c0.size + c1.size) (o3 : f3.offset = c0.size + c1.size + c2.size) (z0 : P.cellsOf f0.type = c0.size) (z1 : P.cellsOf f1.type = c1.size) (z2 : P.cellsOf f2.type = c2.size) (z3 : P.cellsOf f3.type = c3.size) (r0 : ReadsF (fun m => F (m + 1)) P c0 f0.type) (r1 : ReadsF (fun m => F (m + 1)) P c1 f1.type) (r2 : ReadsF (fun m => F (m + 1)) P c2 f2.type) (r3 : ReadsF (fun m => F (m + 1)) P c3 f3.type) : ReadsF F P (c0.pair (c1.pair (c2.pair c3))) t := by
 intro H enc w base spare held fuel cs x hF h
 obtain ⟨xs, m, hfu, hxx, hlen, hxl, hf⟩ := DataW.trod_struct ht h
 rw [hz] at hlen
 have hxl : xs.length = 4 := hxl
 have h0 := hf 0 f0 rfl
 rw [o0, z0, List.getElem?_eq_getElem (show 0 < xs.length by omega)] at h0
 obtain ⟨a0, k0, b0⟩ := r0 (by subst hfu; exact hF) h0
 have h1 := hf 1 f1 rfl
 rw [o1, z1, List.getElem?_eq_getElem (show 1 < xs.length by omega)] at h1
 obtain ⟨a1, k1, b1⟩ := r1 (by subst hfu; exact hF) h1
 have h2 := hf 2 f2 rfl
 rw [o2, z2, List.getElem?_eq_getElem (show 2 < xs.length by omega)] at h2
 obtain ⟨a2, k2, b2⟩ := r2 (by subst hfu; exact hF) h2
 have h3 := hf 3 f3 rfl
 rw [o3, z3, List.getElem?_eq_getElem (show 3 < xs.length by omega)] at h3
 obtain ⟨a3, k3, b3⟩ := r3 (by subst hfu; exact hF) h3
 rw [take_drop_all cs (c0.size + c1.size + c2.size) c3.size (by omega)] at k3
 refine ⟨(a0, (a1, (a2, a3))), ?_, ?_⟩
 ·exact ⟨by simpa using k0, ⟨by simpa [List.drop_drop, Nat.add_assoc] using k1, ⟨by simpa [List.drop_drop, Nat.add_assoc] using k2, (by simpa [List.drop_drop, Nat.add_assoc] using k3)⟩⟩⟩
 ·subst hxx
  simp only [Rows.uptoBulk, bulkAll_sum, Cod.pair]
  have hs : (List.map Rows.uptoBulk (xs.map (·.1))).sum = Rows.uptoBulk xs[0].1 + (Rows.uptoBulk xs[1].1 + (Rows.uptoBulk xs[2].1 + (Rows.uptoBulk xs[3].1))) := by
   obtain ⟨x0, x1, x2, x3, rfl⟩ := list_of_len4 xs hxl
   simp
  rw [hs]
  exact Nat.le_succ_of_le (Nat.add_le_add b0 (Nat.add_le_add b1 (Nat.add_le_add b2 b3)))
end Go.Proofs.Ytgjglkakhmikjaa

namespace Go.Proofs.Ytgjglkakhmikjaa
set_option linter.unusedSectionVars false
open Go.RowKit Go.Deep
set_option linter.unusedVariables false
set_option linter.unusedSimpArgs false

theorem ReadsF.imp {F : Nat → Prop} {P : Program} {α β : Type} {c : Cod α} {d : Cod β} {t : TypeId} (h : ReadsF F P c t) (k : ∀ w cs a, c.is w cs a → ∃ b, d.is w cs b ∧ d.bulk b ≤ c.bulk a) : ReadsF F P d t := by
 intro H enc w base spare held fuel cs x hF h1
 obtain ⟨a, ha, hb⟩ := h hF h1
 obtain ⟨b, h2, h3⟩ := k _ _ _ ha
 exact ⟨b, h2, Nat.le_trans h3 hb⟩
theorem cells_split {α : Type} {cs a b : List α} {n : Nat} (h1 : cs.take n = a) (h2 : cs.drop n = b) : cs = a ++ b := by rw [← h1, ← h2, List.take_append_drop]
end Go.Proofs.Ytgjglkakhmikjaa

namespace Go.Proofs.Ytgjglkakhmikjaa
set_option linter.unusedSectionVars false
open Go.RowKit Go.Deep
set_option linter.unusedVariables false
set_option linter.unusedSimpArgs false
def pickC : Nat → Cod PickD
 | 0 => { size := 4, is := fun _ _ _ => False, len := fun h => h.elim, mono := fun h _ => h.elim, bulk := fun _ => 0 }
 | n + 1 => { size := 4, is := fun w cs x => ∃ v : Value, cs = [.int .i64 x.kind, .int .i64 x.from_, .int .i64 x.to_, v] ∧ inI x.kind ∧ inI x.from_ ∧ inI x.to_ ∧ (sliceC (pickC n)).is w [v] x.args, len := fun h => (by obtain ⟨v, rfl, _⟩ := h; rfl), mono := fun {w w' cs x} h g => (by obtain ⟨v, e, h0, h1, h2, h3⟩ := h; exact ⟨v, e, h0, h1, h2, (sliceC (pickC n)).mono h3 g⟩), bulk := fun x => intC.bulk x.kind + (intC.bulk x.from_ + (intC.bulk x.to_ + (sliceC (pickC n)).bulk x.args)) }
theorem pickC_size (n : Nat) : (pickC n).size = 4 := by cases n <;> rfl
theorem reads_pick : ∀ n : Nat, ReadsF (fun m => m ≤ n) Try.prog (pickC n) 37
 | 0 => by
  intro H enc w base spare held fuel cs x hF h
  obtain rfl : fuel = 0 := Nat.le_zero.1 hF
  simp [DataW.trod] at h
 | n + 1 => by
  intro H enc w base spare held fuel cs x hF h
  have hs : ReadsF (fun m => m ≤ n) Try.prog (sliceC (pickC n)) 35 := by
   have hr := reads_pick n
   exact reads_slice Try.underlying35 (c := pickC n) (by rw [pickC_size]; kernel_rfl) (by rw [pickC_size]; decide) (fun H enc w base spare held fuel cs x hF h => hr (show fuel ≤ n by have : fuel + 1 ≤ n := hF; omega) h)
  obtain ⟨a, h1, hb⟩ := (reads_struct4 (F := fun m => m ≤ n + 1) Try.underlying37 (c0 := intC) (c1 := intC) (c2 := intC) (c3 := sliceC (pickC n)) (by kernel_rfl) rfl rfl rfl rfl (by kernel_rfl) (by kernel_rfl) (by kernel_rfl) (by kernel_rfl)
   (reads_int Try.underlying3) (reads_int Try.underlying3) (reads_int Try.underlying3) (fun H enc w base spare held fuel cs x hF h => hs (show fuel ≤ n by have : fuel + 1 ≤ n + 1 := hF; omega) h)) hF h
  obtain ⟨a0, a1, a2, a3⟩ := a
  obtain ⟨h0, h1, h2, h3⟩ := h1
  obtain ⟨e0, b0⟩ := h0
  obtain ⟨e1, b1⟩ := h1
  obtain ⟨e2, b2⟩ := h2
  obtain ⟨s3, e3⟩ := List.length_eq_one_iff.1 ((sliceC (pickC n)).len h3); rw [e3] at h3
  have e102 := cells_split e2 e3
  have e101 := cells_split e1 e102
  have e100 := cells_split e0 e101
  exact ⟨.mk a0 a1 a2 a3, ⟨s3, by rw [e100]; rfl, b0, b1, b2, h3⟩, hb⟩
theorem pick_bulk : ∀ (n : Nat) {w : World} {cs : List Value} {p : PickD}, (pickC n).is w cs p → pSize p ≤ (pickC n).bulk p
 | 0, _, _, _, h => h.elim
 | n + 1, w, cs, p, h => by
  obtain ⟨v, _, _, _, _, h3⟩ := h
  have hl : ∀ q ∈ p.args, pSize q ≤ (pickC n).bulk q := by
   rcases h3 with ⟨_, e⟩ | ⟨b, off, sp, cap, _, _, _, h4⟩
   ·rw [e]; intro q hq; cases hq
   ·intro q hq
    obtain ⟨i, hi, rfl⟩ := List.getElem_of_mem hq
    obtain ⟨_, cs', _, h5⟩ := h4 i hi
    exact pick_bulk n h5
  have hsum : pSizes p.args ≤ (p.args.map (pickC n).bulk).sum := by
   rw [pSizes_sum]
   generalize p.args = l at hl
   induction l with
   | nil => simp
   | cons q l ih =>
    simp only [List.map_cons, List.sum_cons]
    have h1 := hl q (by simp)
    have h2 := ih (fun x hx => hl x (by simp [hx]))
    omega
  rw [pSize_eq]
  show _ ≤ intC.bulk p.kind + (intC.bulk p.from_ + (intC.bulk p.to_ + (sliceC (pickC n)).bulk p.args))
  simp only [intC, sliceC]
  omega
def groupC (n : Nat) : Cod GroupD where
 size := 5
 is := fun w cs g => ∃ ps : List Value, cs = .int .i64 g.number :: ps ∧ inI g.number ∧ (pickC n).is w ps g.pick
 len := fun h => by obtain ⟨ps, rfl, _, h2⟩ := h; have := (pickC n).len h2; rw [pickC_size] at this; simp [this]
 mono := fun {w w' cs x} h g => by obtain ⟨ps, e, h0, h1⟩ := h; exact ⟨ps, e, h0, (pickC n).mono h1 g⟩
 bulk := fun g => intC.bulk g.number + (pickC n).bulk g.pick
theorem reads_group (n : Nat) : ReadsF (fun m => m ≤ n) Try.prog (groupC n) 44 := by
 have h := reads_struct2 (F := fun m => m ≤ n) Try.underlying44 (c0 := intC) (c1 := pickC n) (by rw [pickC_size]; kernel_rfl) rfl rfl (by kernel_rfl) (by rw [pickC_size]; kernel_rfl)
  (reads_int Try.underlying3) (fun H enc w base spare held fuel cs x hF h => reads_pick n (show fuel ≤ n by have : fuel + 1 ≤ n := hF; omega) h)
 refine h.imp fun w cs a h => ?_
 obtain ⟨a0, a1⟩ := a
 obtain ⟨h0, h1⟩ := h
 obtain ⟨e0, b0⟩ := h0
 refine ⟨⟨a0, a1⟩, ⟨cs.drop 1, ?_, b0, h1⟩, Nat.le_refl _⟩
 exact (List.take_append_drop 1 cs).symm.trans (congrArg (· ++ cs.drop 1) e0)
theorem reads_groups (n : Nat) : ReadsF (fun m => m ≤ n) Try.prog (sliceC (groupC n)) 22 :=
 reads_slice Try.underlying22 (c := groupC n) (by kernel_rfl) (show 0 < 5 by decide) (fun H enc w base spare held fuel cs x hF h => reads_group n (show fuel ≤ n by have : fuel + 1 ≤ n := hF; omega) h)
theorem slice_mem {α : Type} {c : Cod α} {w : World} {cs : List Value} {l : List α} (h : (sliceC c).is w cs l) {x : α} (hx : x ∈ l) : ∃ cs', c.is w cs' x := by
 rcases h with ⟨_, e⟩ | ⟨b, off, sp, cap, _, _, _, h4⟩
 ·rw [e] at hx; cases hx
 ·obtain ⟨i, hi, rfl⟩ := List.getElem_of_mem hx
  obtain ⟨_, cs', _, h5⟩ := h4 i hi
  exact ⟨cs', h5⟩
theorem sum_map_le {α : Type} {f g : α → Nat} : ∀ {l : List α}, (∀ x ∈ l, f x ≤ g x) → (l.map f).sum ≤ (l.map g).sum
 | [], _ => Nat.le_refl _
 | x :: l, h => by
  rw [List.map_cons, List.map_cons, List.sum_cons, List.sum_cons]
  have := h x (by simp); have := sum_map_le (f := f) (g := g) (l := l) fun y hy => h y (by simp [hy])
  omega
theorem groups_bulk {n : Nat} {w : World} {cs : List Value} {l : List GroupD} (h : (sliceC (groupC n)).is w cs l) : (l.map fun g => pSize g.pick).sum ≤ (sliceC (groupC n)).bulk l := by
 show _ ≤ (l.map (groupC n).bulk).sum + 1
 have := sum_map_le (f := fun g : GroupD => pSize g.pick) (g := (groupC n).bulk) (l := l) fun g hg => by
  obtain ⟨cs', ps, _, _, h2⟩ := slice_mem h hg
  have := pick_bulk n h2
  show _ ≤ intC.bulk g.number + (pickC n).bulk g.pick
  omega
 omega
end Go.Proofs.Ytgjglkakhmikjaa

