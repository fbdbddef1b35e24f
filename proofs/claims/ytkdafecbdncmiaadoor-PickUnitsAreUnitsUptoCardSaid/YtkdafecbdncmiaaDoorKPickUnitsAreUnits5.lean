/- Parts of the proof of PickUnitsAreUnits, in order. -/
import Derived.Orders
import Derived.Below
import Derived.WalkKit
import Derived.Test.YtkdafecbdncmiaaDoorRows
import Derived.Lib.LaidTab
import Derived.Lib.ItoaNum
import Derived.KernelRfl
import Derived.Laws.StructEq
import Derived.Laws.Append
import Derived.Laws.AppendOwn
import Derived.Lib.Bytealg
import Derived.Sort.Defs
import Derived.Lib.BitFns
import Derived.Lib.Strings
import Derived.Test.YtkdafecbdncmiaaDoorShelf
import Derived.IntWalk
import Derived.Sort.Statements
import Derived.Test.YtkdafecbdncmiaaDoorKPickUnitsAreUnits4
namespace Go.Proofs.YtkdafecbdncmiaaDoor
set_option linter.unusedSectionVars false
set_option linter.unusedVariables false
set_option linter.unusedSimpArgs false
set_option maxRecDepth 100000
noncomputable def t_pick_size (q_pick_size : PickD → Option (Int × Int)) (a0 : PickD) : Option (Int × Int) :=
 forE a0.args (fun (i8 : Nat) e7 (s1 : (Int × Int)) => (show Option (Lr (Int × Int) (Int × Int) Unit) from
   (q_pick_size e7).bind fun r9 =>
   some (.go (IntKind.i64.wrap (s1.1 + r9.1), (if s1.2 < IntKind.i64.wrap (r9.2 + 1) then IntKind.i64.wrap (r9.2 + 1) else s1.2))))) (fun s1 => some (s1.1, s1.2)) (1, 1) (fun b2 =>
  some (b2.1, b2.2)) (fun b2 =>
  none)
theorem h_pick_size {rc : Nat → List AV → Heap → Option (AV × Heap)} (q_pick_size : PickD → Option (Int × Int)) (hq_pick_size : ∀ (x0 : PickD) (s : Heap) r, q_pick_size x0 = some r → rc 37 [(AV.agg (cPick x0))] s = some ((AV.tup [(AV.int .i64 r.1), (AV.int .i64 r.2)]), s)) {a0 : PickD} {σ : Heap} {r : (Int × Int)} (h : t_pick_size q_pick_size a0 = some r) : A.wrap true [(.a [.k, .k, .k, (.s 4)])] .k (A.ar1 (r_pick_size rc)) [(AV.agg (cPick a0))] σ = some ((AV.tup [(AV.int .i64 r.1), (AV.int .i64 r.2)]), σ) := by
 refine rf_wrap1 (f := r_pick_size rc) (y0 := (AV.agg (cPick a0))) (enc := fun r : (Int × Int) => (AV.tup [(AV.int .i64 r.1), (AV.int .i64 r.2)])) (T := t_pick_size q_pick_size a0) (by first | rfl | (simp only [cPick_eq]; rfl)) (by first | rfl | (simp only [cPick_eq]; rfl)) ?_ r h
 unfold r_pick_size t_pick_size
 refine rf_s (cPick a0) (by first | rfl | (simp only [cPick_eq]; rfl)) <| rf_s (sl 4 cPick a0.args) (by first | rfl | (simp only [cPick_eq]; rfl)) <| rf_s _ (lenS_sl _ _ _) ?_
 refine rf_for (B := (Int × Int)) (R := Unit) (fun (i8 : Nat) (s1 : (Int × Int)) v w3 => v = [(AV.int .i64 s1.1), (AV.int .i64 s1.2), (AV.int .i64 (i8 : Int))] ∧ σ = w3) (fun (b2 : (Int × Int)) (q : LS) => ∃ u11, q = ((AX.exit 0), ([(AV.int .i64 b2.1), (AV.int .i64 b2.2), u11] : List AV), σ)) (fun (b2 : Unit) (q : LS) => False) ?_ ?_ ⟨rfl, rfl⟩ ?_ ?_
 ·intro hle7 i8 e7 s1 v w3 he7 hI
  obtain ⟨rfl, rfl⟩ := hI
  refine rf_s _ (ix_lt he7) <| rf_ct <| rf_s _ (ix_for he7) <| rf_s (AV.agg (cPick e7)) (by first | rfl | (simp only [cPick_eq]; rfl)) <| rf_s (cPick e7) (by first | rfl | (simp only [cPick_eq]; rfl)) <| rf_s _ (sp_cPick _ _ rfl) <| rf_s (AV.agg (cPick e7)) (by first | rfl | (simp only [cPick_eq]; rfl)) ?_
  refine rf_o (fun r9 : (Int × Int) => ((AV.tup [(AV.int .i64 r9.1), (AV.int .i64 r9.2)]), σ)) (fun r9 hr9 => hq_pick_size _ _ _ hr9) (fun r9 hr9 => ?_)
  refine rf_s (AV.int .i64 r9.1) (by first | rfl | (simp only [cPick_eq]; rfl)) <| rf_s (AV.int .i64 r9.2) (by first | rfl | (simp only [cPick_eq]; rfl)) <| rf_s (AV.int .i64 (IntKind.i64.wrap (s1.1 + r9.1))) (by first | rfl | (simp only [cPick_eq]; rfl)) <| rf_s (AV.int .i64 (IntKind.i64.wrap (r9.2 + 1))) (by first | rfl | (simp only [cPick_eq]; rfl)) <| rf_s (AV.int .i64 (if s1.2 < IntKind.i64.wrap (r9.2 + 1) then IntKind.i64.wrap (r9.2 + 1) else s1.2)) (by first | rfl | (simp only [cPick_eq]; rfl)) <| rf_s _ (ix_inc he7 hle7) ?_
  exact rf_ret (rnd_go ⟨rfl, rfl⟩)
 ·intro hl s1 v w3 hI
  obtain ⟨rfl, rfl⟩ := hI
  refine rf_s _ (ix_end _) <| rf_cf ?_
  exact rf_ret ⟨by simp, ⟨_, rfl⟩⟩
 ·intro hl b2 q hq
  obtain ⟨u11, rfl⟩ := hq
  refine rf_bt (by first | rfl | (simp only [cPick_eq]; rfl)) ?_
  exact rf_fin _ (fin_same _ _) ⟨rfl, rfl⟩
 ·intro hl b2 q hq
  exact False.elim hq

noncomputable def t_pick_check (q_pick_check : PickD → Option Int) (a0 : PickD) : Option Int :=
 if a0.kind = 1 then
  (show Option Bool from
    if a0.kind = 4 then
     some (decide ((a0.args.length : Int) < 2))
    else
    some (decide (¬ ((a0.args.length : Int) = 0)))).bind fun j2 =>
  if ((j2 || ((!true) && (decide (¬ (a0.frm = 0))))) || ((!true) && (decide (¬ (a0.to = 0))))) = true then
   some 3
  else
  (show Option Int from
    if a0.kind = 2 then
     some 999
    else
    (show Option Int from
      if a0.kind = 3 then
       some 999
      else
      some 9999).bind fun j6 =>
    some j6).bind fun j10 =>
  if ((true && (!(withinB a0.frm 1 j10))) || (true && (!(withinB a0.to 1 j10)))) = true then
   some 1
  else
  forE a0.args (fun (i20 : Nat) e19 (s13 : Unit) => (show Option (Lr Unit Unit Int) from
    (q_pick_check e19).bind fun r21 =>
    if ¬ (r21 = 0) then
     some (.ret r21)
    else
    some (.go ()))) (fun s13 => some ()) () (fun b14 =>
   some 0) (fun b14 =>
   some b14)
 else
 (show Option Bool from
   if a0.kind = 2 then
    some (decide (a0.kind = 2))
   else
   some (decide (a0.kind = 3))).bind fun j26 =>
 if j26 = true then
  (show Option Bool from
    if a0.kind = 4 then
     some (decide ((a0.args.length : Int) < 2))
    else
    some (decide (¬ ((a0.args.length : Int) = 0)))).bind fun j30 =>
  if ((j30 || ((!true) && (decide (¬ (a0.frm = 0))))) || ((!false) && (decide (¬ (a0.to = 0))))) = true then
   some 3
  else
  (show Option Int from
    if a0.kind = 2 then
     some 999
    else
    (show Option Int from
      if a0.kind = 3 then
       some 999
      else
      some 9999).bind fun j34 =>
    some j34).bind fun j38 =>
  if ((true && (!(withinB a0.frm 1 j38))) || (false && (!(withinB a0.to 1 j38)))) = true then
   some 1
  else
  forE a0.args (fun (i48 : Nat) e47 (s41 : Unit) => (show Option (Lr Unit Unit Int) from
    (q_pick_check e47).bind fun r49 =>
    if ¬ (r49 = 0) then
     some (.ret r49)
    else
    some (.go ()))) (fun s41 => some ()) () (fun b42 =>
   some 0) (fun b42 =>
   some b42)
 else
 (show Option Bool from
   if a0.kind = 4 then
    some (decide (a0.kind = 4))
   else
   some (decide (a0.kind = 5))).bind fun j54 =>
 if j54 = true then
  (show Option Bool from
    if a0.kind = 4 then
     some (decide ((a0.args.length : Int) < 2))
    else
    some (decide (¬ ((a0.args.length : Int) = 2)))).bind fun j58 =>
  if ((j58 || ((!false) && (decide (¬ (a0.frm = 0))))) || ((!false) && (decide (¬ (a0.to = 0))))) = true then
   some 3
  else
  (show Option Int from
    if a0.kind = 2 then
     some 999
    else
    (show Option Int from
      if a0.kind = 3 then
       some 999
      else
      some 9999).bind fun j62 =>
    some j62).bind fun j66 =>
  if ((false && (!(withinB a0.frm 1 j66))) || (false && (!(withinB a0.to 1 j66)))) = true then
   some 1
  else
  forE a0.args (fun (i76 : Nat) e75 (s69 : Unit) => (show Option (Lr Unit Unit Int) from
    (q_pick_check e75).bind fun r77 =>
    if ¬ (r77 = 0) then
     some (.ret r77)
    else
    some (.go ()))) (fun s69 => some ()) () (fun b70 =>
   some 0) (fun b70 =>
   some b70)
 else
 (show Option Bool from
   if a0.kind = 6 then
    some (decide (a0.kind = 6))
   else
   (show Option Bool from
     if a0.kind = 7 then
      some (decide (a0.kind = 7))
     else
     some (decide (a0.kind = 8))).bind fun j82 =>
   some j82).bind fun j86 =>
 if j86 = true then
  (show Option Bool from
    if a0.kind = 4 then
     some (decide ((a0.args.length : Int) < 2))
    else
    some (decide (¬ ((a0.args.length : Int) = 1)))).bind fun j90 =>
  if ((j90 || ((!false) && (decide (¬ (a0.frm = 0))))) || ((!false) && (decide (¬ (a0.to = 0))))) = true then
   some 3
  else
  (show Option Int from
    if a0.kind = 2 then
     some 999
    else
    (show Option Int from
      if a0.kind = 3 then
       some 999
      else
      some 9999).bind fun j94 =>
    some j94).bind fun j98 =>
  if ((false && (!(withinB a0.frm 1 j98))) || (false && (!(withinB a0.to 1 j98)))) = true then
   some 1
  else
  forE a0.args (fun (i108 : Nat) e107 (s101 : Unit) => (show Option (Lr Unit Unit Int) from
    (q_pick_check e107).bind fun r109 =>
    if ¬ (r109 = 0) then
     some (.ret r109)
    else
    some (.go ()))) (fun s101 => some ()) () (fun b102 =>
   some 0) (fun b102 =>
   some b102)
 else
 if a0.kind = 9 then
  (show Option Bool from
    if a0.kind = 4 then
     some (decide ((a0.args.length : Int) < 2))
    else
    some (decide (¬ ((a0.args.length : Int) = 1)))).bind fun j114 =>
  if ((j114 || ((!true) && (decide (¬ (a0.frm = 0))))) || ((!true) && (decide (¬ (a0.to = 0))))) = true then
   some 3
  else
  (show Option Int from
    if a0.kind = 2 then
     some 999
    else
    (show Option Int from
      if a0.kind = 3 then
       some 999
      else
      some 9999).bind fun j118 =>
    some j118).bind fun j122 =>
  if ((true && (!(withinB a0.frm 1 j122))) || (true && (!(withinB a0.to 1 j122)))) = true then
   some 1
  else
  forE a0.args (fun (i132 : Nat) e131 (s125 : Unit) => (show Option (Lr Unit Unit Int) from
    (q_pick_check e131).bind fun r133 =>
    if ¬ (r133 = 0) then
     some (.ret r133)
    else
    some (.go ()))) (fun s125 => some ()) () (fun b126 =>
   some 0) (fun b126 =>
   some b126)
 else
 some 4
theorem h_pick_check {rc : Nat → List AV → Heap → Option (AV × Heap)} (q_pick_check : PickD → Option Int) (hq_pick_check : ∀ (x0 : PickD) (s : Heap) r, q_pick_check x0 = some r → rc 38 [(AV.agg (cPick x0))] s = some ((AV.int .i64 r), s)) {a0 : PickD} {σ : Heap} {r : Int} (h : t_pick_check q_pick_check a0 = some r) : A.wrap true [(.a [.k, .k, .k, (.s 4)])] .k (A.ar1 (r_pick_check rc)) [(AV.agg (cPick a0))] σ = some ((AV.int .i64 r), σ) := by
 refine rf_wrap1 (f := r_pick_check rc) (y0 := (AV.agg (cPick a0))) (enc := fun r : Int => (AV.int .i64 r)) (T := t_pick_check q_pick_check a0) (by first | rfl | (simp only [cPick_eq]; rfl)) (by first | rfl | (simp only [cPick_eq]; rfl)) ?_ r h
 unfold r_pick_check t_pick_check
 refine rf_s (cPick a0) (by first | rfl | (simp only [cPick_eq]; rfl)) <| rf_s (AV.int .i64 a0.kind) (by first | rfl | (simp only [cPick_eq]; rfl)) <| rf_s _ (aEq _ _ _) ?_
 refine rf_c (p := a0.kind = 1) (fun c141 => ?_) (fun c141 => ?_)
 ·refine rf_s (sl 4 cPick a0.args) (by first | rfl | (simp only [cPick_eq]; rfl)) <| rf_s _ (lenS_sl _ _ _) <| rf_s _ (aNe _ _ _) <| rf_s (AV.int .i64 a0.kind) (by first | rfl | (simp only [cPick_eq]; rfl)) <| rf_s _ (aEq _ _ _) ?_
  refine rf_b (ω := Bool) (fun j2 a => a = (([(AV.lbx (cPick a0)), (AV.bool j2)] : List AV), σ)) (
    by
     refine rf_c (p := a0.kind = 4) (fun c1 => ?_) (fun c1 => ?_)
     ·refine rf_s (sl 4 cPick a0.args) (by first | rfl | (simp only [cPick_eq]; rfl)) <| rf_s _ (lenS_sl _ _ _) <| rf_s (AV.bool (decide ((a0.args.length : Int) < 2))) (by first | rfl | (simp only [cPick_eq]; rfl)) ?_
      exact rf_ret rfl
     exact rf_ret rfl
    ) (fun j2 a ha => ?_)
  subst ha
  refine rf_gf (AV.bool true) (fun hg => by first | rfl | (simp only [cPick_eq]; rfl)) <| rf_gf (AV.bool (!true)) (fun hg => by (try rw [hg]); exact rfl) <| rf_gf (AV.bool (!true)) (fun hg => by (try rw [hg]); exact rfl) <| rf_s _ (by first | rfl | (simp only [cPick_eq]; rfl)) <| rf_ggt (AV.int .i64 a0.frm) (fun hg => by first | rfl | (simp only [cPick_eq]; rfl)) <| rf_ggt (AV.bool (decide (¬ (a0.frm = 0)))) (fun hg => by (try rw [hg]); exact (aNe _ _ _)) <| rf_gf (AV.bool ((!true) && (decide (¬ (a0.frm = 0))))) (fun hg => by (try rw [hg]); exact (pk_and _ _)) <| rf_s _ (pk_or _ _) <| rf_gf (AV.bool true) (fun hg => by first | rfl | (simp only [cPick_eq]; rfl)) <| rf_gf (AV.bool (!true)) (fun hg => by (try rw [hg]); exact rfl) <| rf_gf (AV.bool (!true)) (fun hg => by (try rw [hg]); exact rfl) <| rf_s _ (by first | rfl | (simp only [cPick_eq]; rfl)) <| rf_ggt (AV.int .i64 a0.to) (fun hg => by first | rfl | (simp only [cPick_eq]; rfl)) <| rf_ggt (AV.bool (decide (¬ (a0.to = 0)))) (fun hg => by (try rw [hg]); exact (aNe _ _ _)) <| rf_gf (AV.bool ((!true) && (decide (¬ (a0.to = 0))))) (fun hg => by (try rw [hg]); exact (pk_and _ _)) <| rf_s _ (pk_or _ _) ?_
  refine rf_cb (c := ((j2 || ((!true) && (decide (¬ (a0.frm = 0))))) || ((!true) && (decide (¬ (a0.to = 0)))))) (fun c24 => ?_) (fun c24 => ?_)
  ·exact rf_fin _ (fin_same _ _) ⟨rfl, rfl⟩
  refine rf_s _ (by first | rfl | (simp only [cPick_eq]; rfl)) <| rf_s (AV.int .i64 a0.kind) (by first | rfl | (simp only [cPick_eq]; rfl)) <| rf_s _ (aEq _ _ _) ?_
  refine rf_b (ω := Int) (fun j10 a => a = (([(AV.lbx (cPick a0)), (AV.int .i64 j10)] : List AV), σ)) (
    by
     refine rf_c (p := a0.kind = 2) (fun c9 => ?_) (fun c9 => ?_)
     ·exact rf_ret rfl
     refine rf_s _ (aEq _ _ _) ?_
     refine rf_b (ω := Int) (fun j6 a => a = (([(AV.lbx (cPick a0)), (AV.int .i64 j6)] : List AV), σ)) (
       by
        refine rf_c (p := a0.kind = 3) (fun c5 => ?_) (fun c5 => ?_)
        ·exact rf_ret rfl
        exact rf_ret rfl
       ) (fun j6 a ha => ?_)
     subst ha
     exact rf_ret rfl
    ) (fun j10 a ha => ?_)
  subst ha
  refine rf_s _ (by first | rfl | (simp only [cPick_eq]; rfl)) <| rf_gt (AV.int .i64 a0.frm) (fun hg => by first | rfl | (simp only [cPick_eq]; rfl)) <| rf_gt (AV.int .i64 j10) (fun hg => by first | rfl | (simp only [cPick_eq]; rfl)) <| rf_gt (AV.bool (withinB a0.frm 1 j10)) (fun hg => by (try rw [hg]); exact (quiet_of (Within_eq a0.frm 1 j10 σ))) <| rf_gt (AV.bool (!(withinB a0.frm 1 j10))) (fun hg => by (try rw [hg]); exact rfl) <| rf_s _ (pk_and _ _) <| rf_gf (AV.bool true) (fun hg => by first | rfl | (simp only [cPick_eq]; rfl)) <| rf_gf (AV.bool true) (fun hg => by (try rw [hg]); exact rfl) <| rf_s _ (by first | rfl | (simp only [cPick_eq]; rfl)) <| rf_ggt (AV.int .i64 a0.to) (fun hg => by first | rfl | (simp only [cPick_eq]; rfl)) <| rf_ggt (AV.int .i64 j10) (fun hg => by first | rfl | (simp only [cPick_eq]; rfl)) <| rf_ggt (AV.bool (withinB a0.to 1 j10)) (fun hg => by (try rw [hg]); exact (quiet_of (Within_eq a0.to 1 j10 σ))) <| rf_ggt (AV.bool (!(withinB a0.to 1 j10))) (fun hg => by (try rw [hg]); exact rfl) <| rf_gf (AV.bool (true && (!(withinB a0.to 1 j10)))) (fun hg => by (try rw [hg]); exact (pk_and _ _)) <| rf_s _ (pk_or _ _) ?_
  refine rf_cb (c := ((true && (!(withinB a0.frm 1 j10))) || (true && (!(withinB a0.to 1 j10))))) (fun c23 => ?_) (fun c23 => ?_)
  ·exact rf_fin _ (fin_same _ _) ⟨rfl, rfl⟩
  refine rf_s _ (by first | rfl | (simp only [cPick_eq]; rfl)) <| rf_s (sl 4 cPick a0.args) (by first | rfl | (simp only [cPick_eq]; rfl)) <| rf_s _ (lenS_sl _ _ _) ?_
  refine rf_for (B := Unit) (R := Int) (fun (i20 : Nat) (s13 : Unit) v w15 => v = [(AV.int .i64 0), (AV.int .i64 (i20 : Int))] ∧ σ = w15) (fun (b14 : Unit) (q : LS) => ∃ u2 u85, q = ((AX.exit 2), ([u2, u85] : List AV), σ)) (fun (b14 : Int) (q : LS) => ∃ u85, q = (AX.ret, ([(AV.int .i64 b14), u85] : List AV), σ)) ?_ ?_ ⟨rfl, rfl⟩ ?_ ?_
  ·intro hle19 i20 e19 s13 v w15 he19 hI
   obtain ⟨rfl, rfl⟩ := hI
   refine rf_s _ (ix_lt he19) <| rf_ct <| rf_s _ (ix_for he19) <| rf_s (AV.agg (cPick e19)) (by first | rfl | (simp only [cPick_eq]; rfl)) <| rf_s (cPick e19) (by first | rfl | (simp only [cPick_eq]; rfl)) <| rf_s _ (sp_cPick _ _ rfl) <| rf_s (AV.agg (cPick e19)) (by first | rfl | (simp only [cPick_eq]; rfl)) ?_
   refine rf_o (fun r21 : Int => ((AV.int .i64 r21), σ)) (fun r21 hr21 => hq_pick_check _ _ _ hr21) (fun r21 hr21 => ?_)
   refine rf_s _ (aNe _ _ _) ?_
   refine rf_c (p := ¬ (r21 = 0)) (fun c22 => ?_) (fun c22 => ?_)
   ·exact rf_ret (rnd_ret (by simp) ⟨_, rfl⟩)
   refine rf_s _ (ix_inc he19 hle19) ?_
   exact rf_ret (rnd_go ⟨rfl, rfl⟩)
  ·intro hl s13 v w15 hI
   obtain ⟨rfl, rfl⟩ := hI
   refine rf_s _ (ix_end _) <| rf_cf ?_
   exact rf_ret ⟨by simp, ⟨_, _, rfl⟩⟩
  ·intro hl b14 q hq
   obtain ⟨u2, u85, rfl⟩ := hq
   refine rf_bt (by first | rfl | (simp only [cPick_eq]; rfl)) ?_
   exact rf_fin _ (fin_same _ _) ⟨rfl, rfl⟩
  ·intro hl b14 q hq
   obtain ⟨u85, rfl⟩ := hq
   refine rf_bf (by first | rfl | (simp only [cPick_eq]; rfl)) <| rf_bt (by first | rfl | (simp only [cPick_eq]; rfl)) ?_
   exact rf_fin _ (fin_same _ _) ⟨rfl, rfl⟩
 refine rf_s _ (aEq _ _ _) ?_
 refine rf_b (ω := Bool) (fun j26 a => a = (([(AV.lbx (cPick a0)), (AV.bool j26)] : List AV), σ)) (
   by
    refine rf_c (p := a0.kind = 2) (fun c25 => ?_) (fun c25 => ?_)
    ·exact rf_ret rfl
    refine rf_s _ (aEq _ _ _) ?_
    exact rf_ret rfl
   ) (fun j26 a ha => ?_)
 subst ha
 refine rf_cb (c := j26) (fun c140 => ?_) (fun c140 => ?_)
 ·refine rf_s _ (by first | rfl | (simp only [cPick_eq]; rfl)) <| rf_s (sl 4 cPick a0.args) (by first | rfl | (simp only [cPick_eq]; rfl)) <| rf_s _ (lenS_sl _ _ _) <| rf_s _ (aNe _ _ _) <| rf_s _ (by first | rfl | (simp only [cPick_eq]; rfl)) <| rf_s (AV.int .i64 a0.kind) (by first | rfl | (simp only [cPick_eq]; rfl)) <| rf_s _ (aEq _ _ _) ?_
  refine rf_b (ω := Bool) (fun j30 a => a = (([(AV.lbx (cPick a0)), (AV.bool j30)] : List AV), σ)) (
    by
     refine rf_c (p := a0.kind = 4) (fun c29 => ?_) (fun c29 => ?_)
     ·refine rf_s _ (by first | rfl | (simp only [cPick_eq]; rfl)) <| rf_s (sl 4 cPick a0.args) (by first | rfl | (simp only [cPick_eq]; rfl)) <| rf_s _ (lenS_sl _ _ _) <| rf_s (AV.bool (decide ((a0.args.length : Int) < 2))) (by first | rfl | (simp only [cPick_eq]; rfl)) ?_
      exact rf_ret rfl
     exact rf_ret rfl
    ) (fun j30 a ha => ?_)
  subst ha
  refine rf_gf (AV.bool true) (fun hg => by first | rfl | (simp only [cPick_eq]; rfl)) <| rf_gf (AV.bool (!true)) (fun hg => by (try rw [hg]); exact rfl) <| rf_gf (AV.bool (!true)) (fun hg => by (try rw [hg]); exact rfl) <| rf_s _ (by first | rfl | (simp only [cPick_eq]; rfl)) <| rf_ggt (AV.int .i64 a0.frm) (fun hg => by first | rfl | (simp only [cPick_eq]; rfl)) <| rf_ggt (AV.bool (decide (¬ (a0.frm = 0)))) (fun hg => by (try rw [hg]); exact (aNe _ _ _)) <| rf_gf (AV.bool ((!true) && (decide (¬ (a0.frm = 0))))) (fun hg => by (try rw [hg]); exact (pk_and _ _)) <| rf_s _ (pk_or _ _) <| rf_gf (AV.bool false) (fun hg => by first | rfl | (simp only [cPick_eq]; rfl)) <| rf_gf (AV.bool (!false)) (fun hg => by (try rw [hg]); exact rfl) <| rf_gf (AV.bool (!false)) (fun hg => by (try rw [hg]); exact rfl) <| rf_s _ (by first | rfl | (simp only [cPick_eq]; rfl)) <| rf_ggt (AV.int .i64 a0.to) (fun hg => by first | rfl | (simp only [cPick_eq]; rfl)) <| rf_ggt (AV.bool (decide (¬ (a0.to = 0)))) (fun hg => by (try rw [hg]); exact (aNe _ _ _)) <| rf_gf (AV.bool ((!false) && (decide (¬ (a0.to = 0))))) (fun hg => by (try rw [hg]); exact (pk_and _ _)) <| rf_s _ (pk_or _ _) ?_
  refine rf_cb (c := ((j30 || ((!true) && (decide (¬ (a0.frm = 0))))) || ((!false) && (decide (¬ (a0.to = 0)))))) (fun c52 => ?_) (fun c52 => ?_)
  ·exact rf_fin _ (fin_same _ _) ⟨rfl, rfl⟩
  refine rf_s _ (by first | rfl | (simp only [cPick_eq]; rfl)) <| rf_s (AV.int .i64 a0.kind) (by first | rfl | (simp only [cPick_eq]; rfl)) <| rf_s _ (aEq _ _ _) ?_
  refine rf_b (ω := Int) (fun j38 a => a = (([(AV.lbx (cPick a0)), (AV.int .i64 j38)] : List AV), σ)) (
    by
     refine rf_c (p := a0.kind = 2) (fun c37 => ?_) (fun c37 => ?_)
     ·exact rf_ret rfl
     refine rf_s _ (aEq _ _ _) ?_
     refine rf_b (ω := Int) (fun j34 a => a = (([(AV.lbx (cPick a0)), (AV.int .i64 j34)] : List AV), σ)) (
       by
        refine rf_c (p := a0.kind = 3) (fun c33 => ?_) (fun c33 => ?_)
        ·exact rf_ret rfl
        exact rf_ret rfl
       ) (fun j34 a ha => ?_)
     subst ha
     exact rf_ret rfl
    ) (fun j38 a ha => ?_)
  subst ha
  refine rf_s _ (by first | rfl | (simp only [cPick_eq]; rfl)) <| rf_gt (AV.int .i64 a0.frm) (fun hg => by first | rfl | (simp only [cPick_eq]; rfl)) <| rf_gt (AV.int .i64 j38) (fun hg => by first | rfl | (simp only [cPick_eq]; rfl)) <| rf_gt (AV.bool (withinB a0.frm 1 j38)) (fun hg => by (try rw [hg]); exact (quiet_of (Within_eq a0.frm 1 j38 σ))) <| rf_gt (AV.bool (!(withinB a0.frm 1 j38))) (fun hg => by (try rw [hg]); exact rfl) <| rf_s _ (pk_and _ _) <| rf_gf (AV.bool false) (fun hg => by first | rfl | (simp only [cPick_eq]; rfl)) <| rf_gf (AV.bool false) (fun hg => by (try rw [hg]); exact rfl) <| rf_s _ (by first | rfl | (simp only [cPick_eq]; rfl)) <| rf_ggt (AV.int .i64 a0.to) (fun hg => by first | rfl | (simp only [cPick_eq]; rfl)) <| rf_ggt (AV.int .i64 j38) (fun hg => by first | rfl | (simp only [cPick_eq]; rfl)) <| rf_ggt (AV.bool (withinB a0.to 1 j38)) (fun hg => by (try rw [hg]); exact (quiet_of (Within_eq a0.to 1 j38 σ))) <| rf_ggt (AV.bool (!(withinB a0.to 1 j38))) (fun hg => by (try rw [hg]); exact rfl) <| rf_gf (AV.bool (false && (!(withinB a0.to 1 j38)))) (fun hg => by (try rw [hg]); exact (pk_and _ _)) <| rf_s _ (pk_or _ _) ?_
  refine rf_cb (c := ((true && (!(withinB a0.frm 1 j38))) || (false && (!(withinB a0.to 1 j38))))) (fun c51 => ?_) (fun c51 => ?_)
  ·exact rf_fin _ (fin_same _ _) ⟨rfl, rfl⟩
  refine rf_s _ (by first | rfl | (simp only [cPick_eq]; rfl)) <| rf_s (sl 4 cPick a0.args) (by first | rfl | (simp only [cPick_eq]; rfl)) <| rf_s _ (lenS_sl _ _ _) ?_
  refine rf_for (B := Unit) (R := Int) (fun (i48 : Nat) (s41 : Unit) v w43 => v = [(AV.int .i64 0), (AV.int .i64 (i48 : Int))] ∧ σ = w43) (fun (b42 : Unit) (q : LS) => ∃ u2 u85, q = ((AX.exit 2), ([u2, u85] : List AV), σ)) (fun (b42 : Int) (q : LS) => ∃ u85, q = (AX.ret, ([(AV.int .i64 b42), u85] : List AV), σ)) ?_ ?_ ⟨rfl, rfl⟩ ?_ ?_
  ·intro hle47 i48 e47 s41 v w43 he47 hI
   obtain ⟨rfl, rfl⟩ := hI
   refine rf_s _ (ix_lt he47) <| rf_ct <| rf_s _ (ix_for he47) <| rf_s (AV.agg (cPick e47)) (by first | rfl | (simp only [cPick_eq]; rfl)) <| rf_s (cPick e47) (by first | rfl | (simp only [cPick_eq]; rfl)) <| rf_s _ (sp_cPick _ _ rfl) <| rf_s (AV.agg (cPick e47)) (by first | rfl | (simp only [cPick_eq]; rfl)) ?_
   refine rf_o (fun r49 : Int => ((AV.int .i64 r49), σ)) (fun r49 hr49 => hq_pick_check _ _ _ hr49) (fun r49 hr49 => ?_)
   refine rf_s _ (aNe _ _ _) ?_
   refine rf_c (p := ¬ (r49 = 0)) (fun c50 => ?_) (fun c50 => ?_)
   ·exact rf_ret (rnd_ret (by simp) ⟨_, rfl⟩)
   refine rf_s _ (ix_inc he47 hle47) ?_
   exact rf_ret (rnd_go ⟨rfl, rfl⟩)
  ·intro hl s41 v w43 hI
   obtain ⟨rfl, rfl⟩ := hI
   refine rf_s _ (ix_end _) <| rf_cf ?_
   exact rf_ret ⟨by simp, ⟨_, _, rfl⟩⟩
  ·intro hl b42 q hq
   obtain ⟨u2, u85, rfl⟩ := hq
   refine rf_bt (by first | rfl | (simp only [cPick_eq]; rfl)) ?_
   exact rf_fin _ (fin_same _ _) ⟨rfl, rfl⟩
  ·intro hl b42 q hq
   obtain ⟨u85, rfl⟩ := hq
   refine rf_bf (by first | rfl | (simp only [cPick_eq]; rfl)) <| rf_bt (by first | rfl | (simp only [cPick_eq]; rfl)) ?_
   exact rf_fin _ (fin_same _ _) ⟨rfl, rfl⟩
 refine rf_s _ (aEq _ _ _) ?_
 refine rf_b (ω := Bool) (fun j54 a => a = (([(AV.lbx (cPick a0)), (AV.bool j54)] : List AV), σ)) (
   by
    refine rf_c (p := a0.kind = 4) (fun c53 => ?_) (fun c53 => ?_)
    ·exact rf_ret rfl
    refine rf_s _ (aEq _ _ _) ?_
    exact rf_ret rfl
   ) (fun j54 a ha => ?_)
 subst ha
 refine rf_cb (c := j54) (fun c139 => ?_) (fun c139 => ?_)
 ·refine rf_s _ (by first | rfl | (simp only [cPick_eq]; rfl)) <| rf_s (sl 4 cPick a0.args) (by first | rfl | (simp only [cPick_eq]; rfl)) <| rf_s _ (lenS_sl _ _ _) <| rf_s _ (aNe _ _ _) <| rf_s _ (by first | rfl | (simp only [cPick_eq]; rfl)) <| rf_s (AV.int .i64 a0.kind) (by first | rfl | (simp only [cPick_eq]; rfl)) <| rf_s _ (aEq _ _ _) ?_
  refine rf_b (ω := Bool) (fun j58 a => a = (([(AV.lbx (cPick a0)), (AV.bool j58)] : List AV), σ)) (
    by
     refine rf_c (p := a0.kind = 4) (fun c57 => ?_) (fun c57 => ?_)
     ·refine rf_s _ (by first | rfl | (simp only [cPick_eq]; rfl)) <| rf_s (sl 4 cPick a0.args) (by first | rfl | (simp only [cPick_eq]; rfl)) <| rf_s _ (lenS_sl _ _ _) <| rf_s (AV.bool (decide ((a0.args.length : Int) < 2))) (by first | rfl | (simp only [cPick_eq]; rfl)) ?_
      exact rf_ret rfl
     exact rf_ret rfl
    ) (fun j58 a ha => ?_)
  subst ha
  refine rf_gf (AV.bool false) (fun hg => by first | rfl | (simp only [cPick_eq]; rfl)) <| rf_gf (AV.bool (!false)) (fun hg => by (try rw [hg]); exact rfl) <| rf_gf (AV.bool (!false)) (fun hg => by (try rw [hg]); exact rfl) <| rf_s _ (by first | rfl | (simp only [cPick_eq]; rfl)) <| rf_ggt (AV.int .i64 a0.frm) (fun hg => by first | rfl | (simp only [cPick_eq]; rfl)) <| rf_ggt (AV.bool (decide (¬ (a0.frm = 0)))) (fun hg => by (try rw [hg]); exact (aNe _ _ _)) <| rf_gf (AV.bool ((!false) && (decide (¬ (a0.frm = 0))))) (fun hg => by (try rw [hg]); exact (pk_and _ _)) <| rf_s _ (pk_or _ _) <| rf_gf (AV.bool false) (fun hg => by first | rfl | (simp only [cPick_eq]; rfl)) <| rf_gf (AV.bool (!false)) (fun hg => by (try rw [hg]); exact rfl) <| rf_gf (AV.bool (!false)) (fun hg => by (try rw [hg]); exact rfl) <| rf_s _ (by first | rfl | (simp only [cPick_eq]; rfl)) <| rf_ggt (AV.int .i64 a0.to) (fun hg => by first | rfl | (simp only [cPick_eq]; rfl)) <| rf_ggt (AV.bool (decide (¬ (a0.to = 0)))) (fun hg => by (try rw [hg]); exact (aNe _ _ _)) <| rf_gf (AV.bool ((!false) && (decide (¬ (a0.to = 0))))) (fun hg => by (try rw [hg]); exact (pk_and _ _)) <| rf_s _ (pk_or _ _) ?_
  refine rf_cb (c := ((j58 || ((!false) && (decide (¬ (a0.frm = 0))))) || ((!false) && (decide (¬ (a0.to = 0)))))) (fun c80 => ?_) (fun c80 => ?_)
  ·exact rf_fin _ (fin_same _ _) ⟨rfl, rfl⟩
  refine rf_s _ (by first | rfl | (simp only [cPick_eq]; rfl)) <| rf_s (AV.int .i64 a0.kind) (by first | rfl | (simp only [cPick_eq]; rfl)) <| rf_s _ (aEq _ _ _) ?_
  refine rf_b (ω := Int) (fun j66 a => a = (([(AV.lbx (cPick a0)), (AV.int .i64 j66)] : List AV), σ)) (
    by
     refine rf_c (p := a0.kind = 2) (fun c65 => ?_) (fun c65 => ?_)
     ·exact rf_ret rfl
     refine rf_s _ (aEq _ _ _) ?_
     refine rf_b (ω := Int) (fun j62 a => a = (([(AV.lbx (cPick a0)), (AV.int .i64 j62)] : List AV), σ)) (
       by
        refine rf_c (p := a0.kind = 3) (fun c61 => ?_) (fun c61 => ?_)
        ·exact rf_ret rfl
        exact rf_ret rfl
       ) (fun j62 a ha => ?_)
     subst ha
     exact rf_ret rfl
    ) (fun j66 a ha => ?_)
  subst ha
  refine rf_s _ (by first | rfl | (simp only [cPick_eq]; rfl)) <| rf_gt (AV.int .i64 a0.frm) (fun hg => by first | rfl | (simp only [cPick_eq]; rfl)) <| rf_gt (AV.int .i64 j66) (fun hg => by first | rfl | (simp only [cPick_eq]; rfl)) <| rf_gt (AV.bool (withinB a0.frm 1 j66)) (fun hg => by (try rw [hg]); exact (quiet_of (Within_eq a0.frm 1 j66 σ))) <| rf_gt (AV.bool (!(withinB a0.frm 1 j66))) (fun hg => by (try rw [hg]); exact rfl) <| rf_s _ (pk_and _ _) <| rf_gf (AV.bool false) (fun hg => by first | rfl | (simp only [cPick_eq]; rfl)) <| rf_gf (AV.bool false) (fun hg => by (try rw [hg]); exact rfl) <| rf_s _ (by first | rfl | (simp only [cPick_eq]; rfl)) <| rf_ggt (AV.int .i64 a0.to) (fun hg => by first | rfl | (simp only [cPick_eq]; rfl)) <| rf_ggt (AV.int .i64 j66) (fun hg => by first | rfl | (simp only [cPick_eq]; rfl)) <| rf_ggt (AV.bool (withinB a0.to 1 j66)) (fun hg => by (try rw [hg]); exact (quiet_of (Within_eq a0.to 1 j66 σ))) <| rf_ggt (AV.bool (!(withinB a0.to 1 j66))) (fun hg => by (try rw [hg]); exact rfl) <| rf_gf (AV.bool (false && (!(withinB a0.to 1 j66)))) (fun hg => by (try rw [hg]); exact (pk_and _ _)) <| rf_s _ (pk_or _ _) ?_
  refine rf_cb (c := ((false && (!(withinB a0.frm 1 j66))) || (false && (!(withinB a0.to 1 j66))))) (fun c79 => ?_) (fun c79 => ?_)
  ·exact rf_fin _ (fin_same _ _) ⟨rfl, rfl⟩
  refine rf_s _ (by first | rfl | (simp only [cPick_eq]; rfl)) <| rf_s (sl 4 cPick a0.args) (by first | rfl | (simp only [cPick_eq]; rfl)) <| rf_s _ (lenS_sl _ _ _) ?_
  refine rf_for (B := Unit) (R := Int) (fun (i76 : Nat) (s69 : Unit) v w71 => v = [(AV.int .i64 0), (AV.int .i64 (i76 : Int))] ∧ σ = w71) (fun (b70 : Unit) (q : LS) => ∃ u2 u85, q = ((AX.exit 2), ([u2, u85] : List AV), σ)) (fun (b70 : Int) (q : LS) => ∃ u85, q = (AX.ret, ([(AV.int .i64 b70), u85] : List AV), σ)) ?_ ?_ ⟨rfl, rfl⟩ ?_ ?_
  ·intro hle75 i76 e75 s69 v w71 he75 hI
   obtain ⟨rfl, rfl⟩ := hI
   refine rf_s _ (ix_lt he75) <| rf_ct <| rf_s _ (ix_for he75) <| rf_s (AV.agg (cPick e75)) (by first | rfl | (simp only [cPick_eq]; rfl)) <| rf_s (cPick e75) (by first | rfl | (simp only [cPick_eq]; rfl)) <| rf_s _ (sp_cPick _ _ rfl) <| rf_s (AV.agg (cPick e75)) (by first | rfl | (simp only [cPick_eq]; rfl)) ?_
   refine rf_o (fun r77 : Int => ((AV.int .i64 r77), σ)) (fun r77 hr77 => hq_pick_check _ _ _ hr77) (fun r77 hr77 => ?_)
   refine rf_s _ (aNe _ _ _) ?_
   refine rf_c (p := ¬ (r77 = 0)) (fun c78 => ?_) (fun c78 => ?_)
   ·exact rf_ret (rnd_ret (by simp) ⟨_, rfl⟩)
   refine rf_s _ (ix_inc he75 hle75) ?_
   exact rf_ret (rnd_go ⟨rfl, rfl⟩)
  ·intro hl s69 v w71 hI
   obtain ⟨rfl, rfl⟩ := hI
   refine rf_s _ (ix_end _) <| rf_cf ?_
   exact rf_ret ⟨by simp, ⟨_, _, rfl⟩⟩
  ·intro hl b70 q hq
   obtain ⟨u2, u85, rfl⟩ := hq
   refine rf_bt (by first | rfl | (simp only [cPick_eq]; rfl)) ?_
   exact rf_fin _ (fin_same _ _) ⟨rfl, rfl⟩
  ·intro hl b70 q hq
   obtain ⟨u85, rfl⟩ := hq
   refine rf_bf (by first | rfl | (simp only [cPick_eq]; rfl)) <| rf_bt (by first | rfl | (simp only [cPick_eq]; rfl)) ?_
   exact rf_fin _ (fin_same _ _) ⟨rfl, rfl⟩
 refine rf_s _ (aEq _ _ _) ?_
 refine rf_b (ω := Bool) (fun j86 a => a = (([(AV.lbx (cPick a0)), (AV.bool j86)] : List AV), σ)) (
   by
    refine rf_c (p := a0.kind = 6) (fun c85 => ?_) (fun c85 => ?_)
    ·exact rf_ret rfl
    refine rf_s _ (aEq _ _ _) ?_
    refine rf_b (ω := Bool) (fun j82 a => a = (([(AV.lbx (cPick a0)), (AV.bool j82)] : List AV), σ)) (
      by
       refine rf_c (p := a0.kind = 7) (fun c81 => ?_) (fun c81 => ?_)
       ·exact rf_ret rfl
       refine rf_s _ (aEq _ _ _) ?_
       exact rf_ret rfl
      ) (fun j82 a ha => ?_)
    subst ha
    exact rf_ret rfl
   ) (fun j86 a ha => ?_)
 subst ha
 refine rf_cb (c := j86) (fun c138 => ?_) (fun c138 => ?_)
 ·refine rf_s _ (by first | rfl | (simp only [cPick_eq]; rfl)) <| rf_s (sl 4 cPick a0.args) (by first | rfl | (simp only [cPick_eq]; rfl)) <| rf_s _ (lenS_sl _ _ _) <| rf_s _ (aNe _ _ _) <| rf_s _ (by first | rfl | (simp only [cPick_eq]; rfl)) <| rf_s (AV.int .i64 a0.kind) (by first | rfl | (simp only [cPick_eq]; rfl)) <| rf_s _ (aEq _ _ _) ?_
  refine rf_b (ω := Bool) (fun j90 a => a = (([(AV.lbx (cPick a0)), (AV.bool j90)] : List AV), σ)) (
    by
     refine rf_c (p := a0.kind = 4) (fun c89 => ?_) (fun c89 => ?_)
     ·refine rf_s _ (by first | rfl | (simp only [cPick_eq]; rfl)) <| rf_s (sl 4 cPick a0.args) (by first | rfl | (simp only [cPick_eq]; rfl)) <| rf_s _ (lenS_sl _ _ _) <| rf_s (AV.bool (decide ((a0.args.length : Int) < 2))) (by first | rfl | (simp only [cPick_eq]; rfl)) ?_
      exact rf_ret rfl
     exact rf_ret rfl
    ) (fun j90 a ha => ?_)
  subst ha
  refine rf_gf (AV.bool false) (fun hg => by first | rfl | (simp only [cPick_eq]; rfl)) <| rf_gf (AV.bool (!false)) (fun hg => by (try rw [hg]); exact rfl) <| rf_gf (AV.bool (!false)) (fun hg => by (try rw [hg]); exact rfl) <| rf_s _ (by first | rfl | (simp only [cPick_eq]; rfl)) <| rf_ggt (AV.int .i64 a0.frm) (fun hg => by first | rfl | (simp only [cPick_eq]; rfl)) <| rf_ggt (AV.bool (decide (¬ (a0.frm = 0)))) (fun hg => by (try rw [hg]); exact (aNe _ _ _)) <| rf_gf (AV.bool ((!false) && (decide (¬ (a0.frm = 0))))) (fun hg => by (try rw [hg]); exact (pk_and _ _)) <| rf_s _ (pk_or _ _) <| rf_gf (AV.bool false) (fun hg => by first | rfl | (simp only [cPick_eq]; rfl)) <| rf_gf (AV.bool (!false)) (fun hg => by (try rw [hg]); exact rfl) <| rf_gf (AV.bool (!false)) (fun hg => by (try rw [hg]); exact rfl) <| rf_s _ (by first | rfl | (simp only [cPick_eq]; rfl)) <| rf_ggt (AV.int .i64 a0.to) (fun hg => by first | rfl | (simp only [cPick_eq]; rfl)) <| rf_ggt (AV.bool (decide (¬ (a0.to = 0)))) (fun hg => by (try rw [hg]); exact (aNe _ _ _)) <| rf_gf (AV.bool ((!false) && (decide (¬ (a0.to = 0))))) (fun hg => by (try rw [hg]); exact (pk_and _ _)) <| rf_s _ (pk_or _ _) ?_
  refine rf_cb (c := ((j90 || ((!false) && (decide (¬ (a0.frm = 0))))) || ((!false) && (decide (¬ (a0.to = 0)))))) (fun c112 => ?_) (fun c112 => ?_)
  ·exact rf_fin _ (fin_same _ _) ⟨rfl, rfl⟩
  refine rf_s _ (by first | rfl | (simp only [cPick_eq]; rfl)) <| rf_s (AV.int .i64 a0.kind) (by first | rfl | (simp only [cPick_eq]; rfl)) <| rf_s _ (aEq _ _ _) ?_
  refine rf_b (ω := Int) (fun j98 a => a = (([(AV.lbx (cPick a0)), (AV.int .i64 j98)] : List AV), σ)) (
    by
     refine rf_c (p := a0.kind = 2) (fun c97 => ?_) (fun c97 => ?_)
     ·exact rf_ret rfl
     refine rf_s _ (aEq _ _ _) ?_
     refine rf_b (ω := Int) (fun j94 a => a = (([(AV.lbx (cPick a0)), (AV.int .i64 j94)] : List AV), σ)) (
       by
        refine rf_c (p := a0.kind = 3) (fun c93 => ?_) (fun c93 => ?_)
        ·exact rf_ret rfl
        exact rf_ret rfl
       ) (fun j94 a ha => ?_)
     subst ha
     exact rf_ret rfl
    ) (fun j98 a ha => ?_)
  subst ha
  refine rf_s _ (by first | rfl | (simp only [cPick_eq]; rfl)) <| rf_gt (AV.int .i64 a0.frm) (fun hg => by first | rfl | (simp only [cPick_eq]; rfl)) <| rf_gt (AV.int .i64 j98) (fun hg => by first | rfl | (simp only [cPick_eq]; rfl)) <| rf_gt (AV.bool (withinB a0.frm 1 j98)) (fun hg => by (try rw [hg]); exact (quiet_of (Within_eq a0.frm 1 j98 σ))) <| rf_gt (AV.bool (!(withinB a0.frm 1 j98))) (fun hg => by (try rw [hg]); exact rfl) <| rf_s _ (pk_and _ _) <| rf_gf (AV.bool false) (fun hg => by first | rfl | (simp only [cPick_eq]; rfl)) <| rf_gf (AV.bool false) (fun hg => by (try rw [hg]); exact rfl) <| rf_s _ (by first | rfl | (simp only [cPick_eq]; rfl)) <| rf_ggt (AV.int .i64 a0.to) (fun hg => by first | rfl | (simp only [cPick_eq]; rfl)) <| rf_ggt (AV.int .i64 j98) (fun hg => by first | rfl | (simp only [cPick_eq]; rfl)) <| rf_ggt (AV.bool (withinB a0.to 1 j98)) (fun hg => by (try rw [hg]); exact (quiet_of (Within_eq a0.to 1 j98 σ))) <| rf_ggt (AV.bool (!(withinB a0.to 1 j98))) (fun hg => by (try rw [hg]); exact rfl) <| rf_gf (AV.bool (false && (!(withinB a0.to 1 j98)))) (fun hg => by (try rw [hg]); exact (pk_and _ _)) <| rf_s _ (pk_or _ _) ?_
  refine rf_cb (c := ((false && (!(withinB a0.frm 1 j98))) || (false && (!(withinB a0.to 1 j98))))) (fun c111 => ?_) (fun c111 => ?_)
  ·exact rf_fin _ (fin_same _ _) ⟨rfl, rfl⟩
  refine rf_s _ (by first | rfl | (simp only [cPick_eq]; rfl)) <| rf_s (sl 4 cPick a0.args) (by first | rfl | (simp only [cPick_eq]; rfl)) <| rf_s _ (lenS_sl _ _ _) ?_
  refine rf_for (B := Unit) (R := Int) (fun (i108 : Nat) (s101 : Unit) v w103 => v = [(AV.int .i64 0), (AV.int .i64 (i108 : Int))] ∧ σ = w103) (fun (b102 : Unit) (q : LS) => ∃ u2 u85, q = ((AX.exit 2), ([u2, u85] : List AV), σ)) (fun (b102 : Int) (q : LS) => ∃ u85, q = (AX.ret, ([(AV.int .i64 b102), u85] : List AV), σ)) ?_ ?_ ⟨rfl, rfl⟩ ?_ ?_
  ·intro hle107 i108 e107 s101 v w103 he107 hI
   obtain ⟨rfl, rfl⟩ := hI
   refine rf_s _ (ix_lt he107) <| rf_ct <| rf_s _ (ix_for he107) <| rf_s (AV.agg (cPick e107)) (by first | rfl | (simp only [cPick_eq]; rfl)) <| rf_s (cPick e107) (by first | rfl | (simp only [cPick_eq]; rfl)) <| rf_s _ (sp_cPick _ _ rfl) <| rf_s (AV.agg (cPick e107)) (by first | rfl | (simp only [cPick_eq]; rfl)) ?_
   refine rf_o (fun r109 : Int => ((AV.int .i64 r109), σ)) (fun r109 hr109 => hq_pick_check _ _ _ hr109) (fun r109 hr109 => ?_)
   refine rf_s _ (aNe _ _ _) ?_
   refine rf_c (p := ¬ (r109 = 0)) (fun c110 => ?_) (fun c110 => ?_)
   ·exact rf_ret (rnd_ret (by simp) ⟨_, rfl⟩)
   refine rf_s _ (ix_inc he107 hle107) ?_
   exact rf_ret (rnd_go ⟨rfl, rfl⟩)
  ·intro hl s101 v w103 hI
   obtain ⟨rfl, rfl⟩ := hI
   refine rf_s _ (ix_end _) <| rf_cf ?_
   exact rf_ret ⟨by simp, ⟨_, _, rfl⟩⟩
  ·intro hl b102 q hq
   obtain ⟨u2, u85, rfl⟩ := hq
   refine rf_bt (by first | rfl | (simp only [cPick_eq]; rfl)) ?_
   exact rf_fin _ (fin_same _ _) ⟨rfl, rfl⟩
  ·intro hl b102 q hq
   obtain ⟨u85, rfl⟩ := hq
   refine rf_bf (by first | rfl | (simp only [cPick_eq]; rfl)) <| rf_bt (by first | rfl | (simp only [cPick_eq]; rfl)) ?_
   exact rf_fin _ (fin_same _ _) ⟨rfl, rfl⟩
 refine rf_s _ (aEq _ _ _) ?_
 refine rf_c (p := a0.kind = 9) (fun c137 => ?_) (fun c137 => ?_)
 ·refine rf_s _ (by first | rfl | (simp only [cPick_eq]; rfl)) <| rf_s (sl 4 cPick a0.args) (by first | rfl | (simp only [cPick_eq]; rfl)) <| rf_s _ (lenS_sl _ _ _) <| rf_s _ (aNe _ _ _) <| rf_s _ (by first | rfl | (simp only [cPick_eq]; rfl)) <| rf_s (AV.int .i64 a0.kind) (by first | rfl | (simp only [cPick_eq]; rfl)) <| rf_s _ (aEq _ _ _) ?_
  refine rf_b (ω := Bool) (fun j114 a => a = (([(AV.lbx (cPick a0)), (AV.bool j114)] : List AV), σ)) (
    by
     refine rf_c (p := a0.kind = 4) (fun c113 => ?_) (fun c113 => ?_)
     ·refine rf_s _ (by first | rfl | (simp only [cPick_eq]; rfl)) <| rf_s (sl 4 cPick a0.args) (by first | rfl | (simp only [cPick_eq]; rfl)) <| rf_s _ (lenS_sl _ _ _) <| rf_s (AV.bool (decide ((a0.args.length : Int) < 2))) (by first | rfl | (simp only [cPick_eq]; rfl)) ?_
      exact rf_ret rfl
     exact rf_ret rfl
    ) (fun j114 a ha => ?_)
  subst ha
  refine rf_gf (AV.bool true) (fun hg => by first | rfl | (simp only [cPick_eq]; rfl)) <| rf_gf (AV.bool (!true)) (fun hg => by (try rw [hg]); exact rfl) <| rf_gf (AV.bool (!true)) (fun hg => by (try rw [hg]); exact rfl) <| rf_s _ (by first | rfl | (simp only [cPick_eq]; rfl)) <| rf_ggt (AV.int .i64 a0.frm) (fun hg => by first | rfl | (simp only [cPick_eq]; rfl)) <| rf_ggt (AV.bool (decide (¬ (a0.frm = 0)))) (fun hg => by (try rw [hg]); exact (aNe _ _ _)) <| rf_gf (AV.bool ((!true) && (decide (¬ (a0.frm = 0))))) (fun hg => by (try rw [hg]); exact (pk_and _ _)) <| rf_s _ (pk_or _ _) <| rf_gf (AV.bool true) (fun hg => by first | rfl | (simp only [cPick_eq]; rfl)) <| rf_gf (AV.bool (!true)) (fun hg => by (try rw [hg]); exact rfl) <| rf_gf (AV.bool (!true)) (fun hg => by (try rw [hg]); exact rfl) <| rf_s _ (by first | rfl | (simp only [cPick_eq]; rfl)) <| rf_ggt (AV.int .i64 a0.to) (fun hg => by first | rfl | (simp only [cPick_eq]; rfl)) <| rf_ggt (AV.bool (decide (¬ (a0.to = 0)))) (fun hg => by (try rw [hg]); exact (aNe _ _ _)) <| rf_gf (AV.bool ((!true) && (decide (¬ (a0.to = 0))))) (fun hg => by (try rw [hg]); exact (pk_and _ _)) <| rf_s _ (pk_or _ _) ?_
  refine rf_cb (c := ((j114 || ((!true) && (decide (¬ (a0.frm = 0))))) || ((!true) && (decide (¬ (a0.to = 0)))))) (fun c136 => ?_) (fun c136 => ?_)
  ·exact rf_fin _ (fin_same _ _) ⟨rfl, rfl⟩
  refine rf_s _ (by first | rfl | (simp only [cPick_eq]; rfl)) <| rf_s (AV.int .i64 a0.kind) (by first | rfl | (simp only [cPick_eq]; rfl)) <| rf_s _ (aEq _ _ _) ?_
  refine rf_b (ω := Int) (fun j122 a => a = (([(AV.lbx (cPick a0)), (AV.int .i64 j122)] : List AV), σ)) (
    by
     refine rf_c (p := a0.kind = 2) (fun c121 => ?_) (fun c121 => ?_)
     ·exact rf_ret rfl
     refine rf_s _ (aEq _ _ _) ?_
     refine rf_b (ω := Int) (fun j118 a => a = (([(AV.lbx (cPick a0)), (AV.int .i64 j118)] : List AV), σ)) (
       by
        refine rf_c (p := a0.kind = 3) (fun c117 => ?_) (fun c117 => ?_)
        ·exact rf_ret rfl
        exact rf_ret rfl
       ) (fun j118 a ha => ?_)
     subst ha
     exact rf_ret rfl
    ) (fun j122 a ha => ?_)
  subst ha
  refine rf_s _ (by first | rfl | (simp only [cPick_eq]; rfl)) <| rf_gt (AV.int .i64 a0.frm) (fun hg => by first | rfl | (simp only [cPick_eq]; rfl)) <| rf_gt (AV.int .i64 j122) (fun hg => by first | rfl | (simp only [cPick_eq]; rfl)) <| rf_gt (AV.bool (withinB a0.frm 1 j122)) (fun hg => by (try rw [hg]); exact (quiet_of (Within_eq a0.frm 1 j122 σ))) <| rf_gt (AV.bool (!(withinB a0.frm 1 j122))) (fun hg => by (try rw [hg]); exact rfl) <| rf_s _ (pk_and _ _) <| rf_gf (AV.bool true) (fun hg => by first | rfl | (simp only [cPick_eq]; rfl)) <| rf_gf (AV.bool true) (fun hg => by (try rw [hg]); exact rfl) <| rf_s _ (by first | rfl | (simp only [cPick_eq]; rfl)) <| rf_ggt (AV.int .i64 a0.to) (fun hg => by first | rfl | (simp only [cPick_eq]; rfl)) <| rf_ggt (AV.int .i64 j122) (fun hg => by first | rfl | (simp only [cPick_eq]; rfl)) <| rf_ggt (AV.bool (withinB a0.to 1 j122)) (fun hg => by (try rw [hg]); exact (quiet_of (Within_eq a0.to 1 j122 σ))) <| rf_ggt (AV.bool (!(withinB a0.to 1 j122))) (fun hg => by (try rw [hg]); exact rfl) <| rf_gf (AV.bool (true && (!(withinB a0.to 1 j122)))) (fun hg => by (try rw [hg]); exact (pk_and _ _)) <| rf_s _ (pk_or _ _) ?_
  refine rf_cb (c := ((true && (!(withinB a0.frm 1 j122))) || (true && (!(withinB a0.to 1 j122))))) (fun c135 => ?_) (fun c135 => ?_)
  ·exact rf_fin _ (fin_same _ _) ⟨rfl, rfl⟩
  refine rf_s _ (by first | rfl | (simp only [cPick_eq]; rfl)) <| rf_s (sl 4 cPick a0.args) (by first | rfl | (simp only [cPick_eq]; rfl)) <| rf_s _ (lenS_sl _ _ _) ?_
  refine rf_for (B := Unit) (R := Int) (fun (i132 : Nat) (s125 : Unit) v w127 => v = [(AV.int .i64 0), (AV.int .i64 (i132 : Int))] ∧ σ = w127) (fun (b126 : Unit) (q : LS) => ∃ u2 u85, q = ((AX.exit 2), ([u2, u85] : List AV), σ)) (fun (b126 : Int) (q : LS) => ∃ u85, q = (AX.ret, ([(AV.int .i64 b126), u85] : List AV), σ)) ?_ ?_ ⟨rfl, rfl⟩ ?_ ?_
  ·intro hle131 i132 e131 s125 v w127 he131 hI
   obtain ⟨rfl, rfl⟩ := hI
   refine rf_s _ (ix_lt he131) <| rf_ct <| rf_s _ (ix_for he131) <| rf_s (AV.agg (cPick e131)) (by first | rfl | (simp only [cPick_eq]; rfl)) <| rf_s (cPick e131) (by first | rfl | (simp only [cPick_eq]; rfl)) <| rf_s _ (sp_cPick _ _ rfl) <| rf_s (AV.agg (cPick e131)) (by first | rfl | (simp only [cPick_eq]; rfl)) ?_
   refine rf_o (fun r133 : Int => ((AV.int .i64 r133), σ)) (fun r133 hr133 => hq_pick_check _ _ _ hr133) (fun r133 hr133 => ?_)
   refine rf_s _ (aNe _ _ _) ?_
   refine rf_c (p := ¬ (r133 = 0)) (fun c134 => ?_) (fun c134 => ?_)
   ·exact rf_ret (rnd_ret (by simp) ⟨_, rfl⟩)
   refine rf_s _ (ix_inc he131 hle131) ?_
   exact rf_ret (rnd_go ⟨rfl, rfl⟩)
  ·intro hl s125 v w127 hI
   obtain ⟨rfl, rfl⟩ := hI
   refine rf_s _ (ix_end _) <| rf_cf ?_
   exact rf_ret ⟨by simp, ⟨_, _, rfl⟩⟩
  ·intro hl b126 q hq
   obtain ⟨u2, u85, rfl⟩ := hq
   refine rf_bt (by first | rfl | (simp only [cPick_eq]; rfl)) ?_
   exact rf_fin _ (fin_same _ _) ⟨rfl, rfl⟩
  ·intro hl b126 q hq
   obtain ⟨u85, rfl⟩ := hq
   refine rf_bf (by first | rfl | (simp only [cPick_eq]; rfl)) <| rf_bt (by first | rfl | (simp only [cPick_eq]; rfl)) ?_
   exact rf_fin _ (fin_same _ _) ⟨rfl, rfl⟩
 exact rf_fin _ (fin_same _ _) ⟨rfl, rfl⟩

end Go.Proofs.YtkdafecbdncmiaaDoor

namespace Go.Proofs.YtkdafecbdncmiaaDoor
set_option linter.unusedSectionVars false
set_option linter.unusedVariables false
set_option linter.unusedSimpArgs false
theorem pSizes_snoc : ∀ (l : List PickD) (p : PickD), pSizes (l ++ [p]) = pSizes l + pSize p
 | [], p => by rw [List.nil_append, pSizes, pSizes, pSizes]; omega
 | q :: l, p => by rw [List.cons_append, pSizes, pSizes, pSizes_snoc l p]; omega
theorem pDeeps_snoc : ∀ (l : List PickD) (p : PickD), pDeeps (l ++ [p]) = max (pDeeps l) (pDeep p)
 | [], p => by rw [List.nil_append, pDeeps, pDeeps, pDeeps]; omega
 | q :: l, p => by rw [List.cons_append, pDeeps, pDeeps, pDeeps_snoc l p]; omega
theorem pSizes_take (l : List PickD) (k : Nat) : pSizes (l.take k) ≤ pSizes l := by
 have h : pSizes (l.take k ++ l.drop k) = pSizes (l.take k) + pSizes (l.drop k) := by
  rw [pSizes_sum, pSizes_sum, pSizes_sum, List.map_append, List.sum_append]
 rw [List.take_append_drop] at h
 omega
theorem pDeeps_size : ∀ l : List PickD, pDeeps l ≤ pSizes l
 | [] => by rw [pDeeps, pSizes]; omega
 | .mk k f t a :: l => by
  rw [pDeeps, pSizes, pDeep, pSize]
  have := pDeeps_size a
  have := pDeeps_size l
  omega
def partF (k f t : Int) (n : Nat) : Int :=
 if ¬ (1 ≤ k ∧ k ≤ 9) then 4
 else if (k ≤ 3 ∧ n ≠ 0) ∨ (k = 4 ∧ n < 2) ∨ (k = 5 ∧ n ≠ 2) ∨ (6 ≤ k ∧ n ≠ 1) ∨ (4 ≤ k ∧ k ≤ 8 ∧ f ≠ 0) ∨ (2 ≤ k ∧ k ≤ 8 ∧ t ≠ 0) then 3
 else if ((k = 1 ∨ k = 9) ∧ ¬ (1 ≤ f ∧ f ≤ 9999)) ∨ ((k = 2 ∨ k = 3) ∧ ¬ (1 ≤ f ∧ f ≤ 999)) ∨ ((k = 1 ∨ k = 9) ∧ ¬ (1 ≤ t ∧ t ≤ 9999)) then 1
 else 0
mutual
def pChk : PickD → Int
 | .mk k f t l => if partF k f t l.length = 0 then pChks l else partF k f t l.length
def pChks : List PickD → Int
 | [] => 0
 | p :: l => if pChk p = 0 then pChks l else pChk p
end
def checkF (p : PickD) : Int := if 200 < pSize p ∨ 12 < pDeep p then 2 else pChk p
mutual
def pNames : PickD → List (Int × Int)
 | .mk k f t l => (if k = 2 ∨ k = 3 then [(k, f)] else []) ++ pNamess l
def pNamess : List PickD → List (Int × Int)
 | [] => []
 | p :: l => pNames p ++ pNamess l
end
end Go.Proofs.YtkdafecbdncmiaaDoor

namespace Go.Proofs.YtkdafecbdncmiaaDoor
set_option linter.unusedSectionVars false
set_option linter.unusedVariables false
set_option linter.unusedSimpArgs false
section
variable {α S B R γ : Type}
theorem forE_st {l : List α} {body : Nat → α → S → Option (Lr S B R)} {fin : S → Option B} {s : S} {K1 : B → Option γ} {K2 : R → Option γ} (st : Nat → S) (hl : l.length ≤ mxl) (h0 : s = st 0) (hb : ∀ i x, l[i]? = some x → body i x (st i) = some (.go (st (i + 1)))) : forE l body fin s K1 K2 = (fin (st l.length)).bind K1 := by
 rw [forE_le hl]
 have key : ∀ (rest pre : List α), l = pre ++ rest → forL body fin rest pre.length (st pre.length) = (fin (st l.length)).map .inl := by
  intro rest
  induction rest with
  | nil => intro pre hp; rw [List.append_nil] at hp; subst hp; rfl
  | cons x rest ih =>
   intro pre hp
   have hx : l[pre.length]? = some x := by rw [hp]; simp
   rw [forL, hb pre.length x hx, Option.bind_some]
   have := ih (pre ++ [x]) (by simpa using hp)
   simpa using this
 have k := key l [] rfl
 rw [List.length_nil] at k
 rw [h0, k]
 cases fin (st l.length) <;> rfl
end
theorem pSizes_len : ∀ l : List PickD, l.length ≤ pSizes l
 | [] => Nat.zero_le _
 | p :: l => by rw [pSizes, pSize_eq, List.length_cons]; have := pSizes_len l; omega
theorem pDeeps_mem {p : PickD} : ∀ {l : List PickD}, p ∈ l → pDeep p ≤ pDeeps l
 | q :: l, h => by
  rw [pDeeps]
  rcases List.mem_cons.1 h with rfl | h
  ·omega
  ·have := pDeeps_mem h; omega
theorem pDeep_size (p : PickD) : pDeep p ≤ pSize p := by
 rw [pDeep_eq, pSize_eq]; have := pDeeps_size p.args; omega
theorem pDeep_pos (p : PickD) : 1 ≤ pDeep p := by rw [pDeep_eq]; omega
abbrev pMx : Nat := 4611686018427387904
theorem args_mx {p : PickD} (h : pSize p ≤ pMx) : p.args.length ≤ mxl := by
 have := pSizes_len p.args; rw [pSize_eq] at h; unfold pMx at h; unfold mxl; omega
theorem size_t : ∀ (n : Nat) (p : PickD) (σ : Heap), pDeep p ≤ n → pSize p ≤ pMx → fuel R_pick_size n 37 [.agg (cPick p)] σ = some (.tup [.int .i64 (pSize p : Int), .int .i64 (pDeep p : Int)], σ)
 | 0, p, σ, h, _ => by have := pDeep_pos p; omega
 | n + 1, p, σ, h, hs => by
  let q : PickD → Option (Int × Int) := fun p => if pDeep p ≤ n ∧ pSize p ≤ pMx then some ((pSize p : Int), (pDeep p : Int)) else none
  have hd : pDeeps p.args ≤ n := by rw [pDeep_eq] at h; omega
  have hz : 1 + pSizes p.args ≤ pMx := by rw [pSize_eq] at hs; exact hs
  have e : t_pick_size q p = some ((pSize p : Int), (pDeep p : Int)) := by
   unfold t_pick_size
   rw [forE_st (fun i => (((1 + pSizes (p.args.take i) : Nat) : Int), ((1 + pDeeps (p.args.take i) : Nat) : Int))) (args_mx hs) (by simp [pSizes, pDeeps])]
   ·simp only [List.take_length, Option.bind_some, pSize_eq p, pDeep_eq p]
   ·intro i x hx
    have hm := List.mem_of_getElem? hx
    have hxd := pDeeps_mem hm
    have hxs := pSizes_mem hm
    have hi := (List.getElem?_eq_some_iff.1 hx).1
    have ht : p.args.take (i + 1) = p.args.take i ++ [x] := by rw [List.take_add_one, hx]; rfl
    have hle := pSizes_take p.args (i + 1)
    rw [ht, pSizes_snoc] at hle
    have hdl := pDeeps_size (p.args.take i)
    have hds := pDeep_size x
    have hq : q x = some ((pSize x : Int), (pDeep x : Int)) := if_pos ⟨by omega, by omega⟩
    unfold pMx at *
    simp only [hq, Option.bind_some, ht, pSizes_snoc, pDeeps_snoc]
    rw [wrap64 (by unfold inI; omega), wrap64 (by unfold inI; omega)]
    congr 3
    ·omega
    ·split <;> omega
  have hr : fuel R_pick_size (n + 1) 37 = A.wrap true [(.a [.k, .k, .k, (.s 4)])] .k (A.ar1 (r_pick_size (fuel R_pick_size n))) := rfl
  rw [hr]
  exact h_pick_size (rc := fuel R_pick_size n) q (fun x s r hx => by
   by_cases hp : pDeep x ≤ n ∧ pSize x ≤ pMx
   ·have : q x = _ := if_pos hp
    rw [this] at hx; injection hx with hx; subst hx
    exact size_t n x s hp.1 hp.2
   ·have : q x = none := if_neg hp
    rw [this] at hx; cases hx) e
theorem pChks_chkE : ∀ (l : List PickD) (i : Nat), chkE (fun _ x => pChk x) l i = pChks l
 | [], i => by rw [chkE, pChks]
 | p :: l, i => by rw [chkE, pChks, pChks_chkE l (i + 1)]
theorem chk_loop {q : PickD → Option Int} {l : List PickD} (hl : l.length ≤ mxl) (hq : ∀ x ∈ l, q x = some (pChk x)) :
  forE l (fun (i : Nat) e (s : Unit) => (show Option (Lr Unit Unit Int) from (q e).bind fun r => if ¬ (r = 0) then some (.ret r) else some (.go ()))) (fun s => some ()) () (fun b => some 0) (fun b => some b) = some (pChks l) := by
 rw [forE_chk (f := fun _ x => pChk x) hl (fun i x hx => by
  simp only [hq x (List.mem_of_getElem? hx), Option.bind_some]
  by_cases h : pChk x = 0 <;> simp [h]) rfl, pChks_chkE]
 split
 ·rename_i h; rw [h]
 ·rfl
def pkA (k f t : Int) (n : Nat) : Prop := (k ≤ 3 ∧ n ≠ 0) ∨ (k = 4 ∧ n < 2) ∨ (k = 5 ∧ n ≠ 2) ∨ (6 ≤ k ∧ n ≠ 1) ∨ (4 ≤ k ∧ k ≤ 8 ∧ f ≠ 0) ∨ (2 ≤ k ∧ k ≤ 8 ∧ t ≠ 0)
def pkB (k f t : Int) : Prop := ((k = 1 ∨ k = 9) ∧ ¬ (1 ≤ f ∧ f ≤ 9999)) ∨ ((k = 2 ∨ k = 3) ∧ ¬ (1 ≤ f ∧ f ≤ 999)) ∨ ((k = 1 ∨ k = 9) ∧ ¬ (1 ≤ t ∧ t ≤ 9999))
theorem pk_in {k f t : Int} {n : Nat} {L : Int} {A B : Prop} [Decidable A] [Decidable B] {X : Option Int} (hk : 1 ≤ k ∧ k ≤ 9) (hA : A ↔ pkA k f t n) (hB : B ↔ pkB k f t) (hX : X = if A then some 3 else if B then some 1 else some L) : X = some (if partF k f t n = 0 then L else partF k f t n) := by
 rw [hX]; unfold pkA at hA; unfold pkB at hB
 by_cases a : A
 ·have e : partF k f t n = 3 := by unfold partF; rw [if_neg (fun h => h hk), if_pos (hA.1 a)]
  rw [if_pos a, e]; rfl
 ·by_cases b : B
  ·have e : partF k f t n = 1 := by unfold partF; rw [if_neg (fun h => h hk), if_neg (fun h => a (hA.2 h)), if_pos (hB.1 b)]
   rw [if_neg a, if_pos b, e]; rfl
  ·have e : partF k f t n = 0 := by unfold partF; rw [if_neg (fun h => h hk), if_neg (fun h => a (hA.2 h)), if_neg (fun h => b (hB.2 h))]
   rw [if_neg a, if_neg b, e]; rfl
theorem pChk_eq (p : PickD) : pChk p = if partF p.kind p.frm p.to p.args.length = 0 then pChks p.args else partF p.kind p.frm p.to p.args.length := by cases p; rw [pChk]; rfl
theorem partF_out {k f t : Int} {n : Nat} (hk : ¬ (1 ≤ k ∧ k ≤ 9)) : partF k f t n = 4 := by unfold partF; rw [if_pos hk]
theorem check_k {q : PickD → Option Int} (p : PickD) (hl : p.args.length ≤ mxl) (hq : ∀ x ∈ p.args, q x = some (pChk x)) : t_pick_check q p = some (pChk p) := by
 have hL := chk_loop hl hq
 unfold t_pick_check
 rw [pChk_eq]
 simp only [hL]
 generalize pChks p.args = L
 clear hL hq
 generalize p.args.length = n at *
 generalize p.kind = k
 generalize p.frm = f
 generalize p.to = t
 by_cases hk : 1 ≤ k ∧ k ≤ 9
 ·have hk' : k = 1 ∨ k = 2 ∨ k = 3 ∨ k = 4 ∨ k = 5 ∨ k = 6 ∨ k = 7 ∨ k = 8 ∨ k = 9 := by omega
  rcases hk' with rfl | rfl | rfl | rfl | rfl | rfl | rfl | rfl | rfl <;>
   (simp only [withinB, reduceIte, Option.bind_some, Int.reduceEq, decide_true, decide_false, Bool.false_eq_true, Bool.not_true, Bool.not_false, Bool.true_and, Bool.false_and, Bool.or_false, Bool.false_or, Bool.or_eq_true, decide_eq_true_eq, Bool.not_eq_true', decide_eq_false_iff_not]; (first | refine pk_in (by decide) ?_ ?_ rfl | refine pk_in (B := False) (by decide) ?_ ?_ rfl) <;> (simp [pkA, pkB]; try omega))
 ·rw [partF_out hk]
  have n1 : ¬ k = 1 := by omega
  have n2 : ¬ k = 2 := by omega
  have n3 : ¬ k = 3 := by omega
  have n4 : ¬ k = 4 := by omega
  have n5 : ¬ k = 5 := by omega
  have n6 : ¬ k = 6 := by omega
  have n7 : ¬ k = 7 := by omega
  have n8 : ¬ k = 8 := by omega
  have n9 : ¬ k = 9 := by omega
  simp [n1, n2, n3, n4, n5, n6, n7, n8, n9]
theorem args_d {p : PickD} {n : Nat} (h : pDeep p ≤ n + 1) : pDeeps p.args ≤ n := by rw [pDeep_eq] at h; omega
theorem check_t : ∀ (n : Nat) (p : PickD) (σ : Heap), pDeep p ≤ n → pSize p ≤ pMx → fuel R_pick_check n 38 [.agg (cPick p)] σ = some (.int .i64 (pChk p), σ)
 | 0, p, σ, h, _ => by have := pDeep_pos p; omega
 | n + 1, p, σ, h, hs => by
  let q : PickD → Option Int := fun p => if pDeep p ≤ n ∧ pSize p ≤ pMx then some (pChk p) else none
  have hd := args_d h
  have e : t_pick_check q p = some (pChk p) := check_k p (args_mx hs) fun x hx => if_pos ⟨Nat.le_trans (pDeeps_mem hx) hd, by have := pSize_arg hx; omega⟩
  have hr : fuel R_pick_check (n + 1) 38 = A.wrap true [(.a [.k, .k, .k, (.s 4)])] .k (A.ar1 (r_pick_check (fuel R_pick_check n))) := rfl
  rw [hr]
  exact h_pick_check (rc := fuel R_pick_check n) q (fun x s r hx => by
   by_cases hp : pDeep x ≤ n ∧ pSize x ≤ pMx
   ·have : q x = _ := if_pos hp
    rw [this] at hx; injection hx with hx; subst hx
    exact check_t n x s hp.1 hp.2
   ·have : q x = none := if_neg hp
    rw [this] at hx; cases hx) e
abbrev apM : Nat := 17592186044416
mutual
def pNamed (k : Int) : PickD → List Int
 | .mk kd f t l => (if kd = k then [f] else []) ++ pNameds k l
def pNameds (k : Int) : List PickD → List Int
 | [] => []
 | p :: l => pNamed k p ++ pNameds k l
end
theorem pNamed_eq (k : Int) (p : PickD) : pNamed k p = (if p.kind = k then [p.frm] else []) ++ pNameds k p.args := by cases p; rw [pNamed]; rfl
mutual
theorem pNamed_len (k : Int) : ∀ p : PickD, (pNamed k p).length ≤ pSize p
 | .mk kd f t l => by
  rw [pNamed, pSize, List.length_append]
  have := pNameds_len k l
  split <;> simp <;> omega
theorem pNameds_len (k : Int) : ∀ l : List PickD, (pNameds k l).length ≤ pSizes l
 | [] => by simp [pNameds, pSizes]
 | p :: l => by
  rw [pNameds, pSizes, List.length_append]
  have := pNamed_len k p; have := pNameds_len k l; omega
end
end Go.Proofs.YtkdafecbdncmiaaDoor

namespace Go.Proofs.YtkdafecbdncmiaaDoor
set_option linter.unusedSectionVars false
set_option linter.unusedVariables false
set_option linter.unusedSimpArgs false
set_option maxRecDepth 100000
open HP
abbrev Iv (v : AV) (l : List Int) : HP := Sl (fl cInt) 1 v l
section
variable {σ0 σ : Heap} {R : HP} {v : AV} {l : List Int}
theorem iv_app {B : Blk → Prop} {x : Int} (hB : ∀ g g' seg, (seg = [] ∨ B (.arr g 1 seg)) → B (.arr g' 1 (seg ++ [cInt x]))) (hl : l.length + 1 ≤ apM) (H : Hs B σ0 σ (Iv v l * R)) : ∃ v' σ', A.append 1 (140737488355328 / 8) v (.sl 1 [[.int .i64 x]]) σ = some (v', σ') ∧ Hs B σ0 σ' (Iv v' (l ++ [x]) * R) :=
 sl_app (ys := [cInt x]) (xs := [x]) (hs_eq (show els (fl cInt) [cInt x] [x] * (Iv v l * R) = Iv v l * (els (fl cInt) [cInt x] [x] * R) by ac_rfl) (els_fl.2 ⟨rfl, H⟩)) (by unfold apM at hl; simpa using hl) hB
theorem setIv {m x : Int} {i : Nat} (hx : l[i]? = some x) (H : Hs anyB σ0 σ (Iv v l * R)) :
  ∃ p σ', A.iaddr 1 v (.int .i64 (i : Int)) = some p ∧ A.storeAt p (cInt m) σ = some σ' ∧ Hs anyB σ0 σ' (Iv v (l.set i m) * R) := by
 obtain ⟨p, F, e, h1, hC, K, back⟩ := sl_cell H hx
 have he : e = cInt x := (hs_pr.1 (hs_drop K)).1
 subst he
 have K2 := hs_drop (hs_eq (show _ = pr (cInt x = cInt x) * (F (cInt x) * R) by rw [show fl cInt (cInt x) x = pr (cInt x = cInt x) from rfl]; ac_rfl) K)
 obtain ⟨σ', h2, K3⟩ := hC.st K2 (new := cInt m) (e' := cInt m) rfl
 refine ⟨p, σ', h1, h2, back (e := cInt m) (hs_eq (show pr (cInt m = cInt m) * (F (cInt m) * R) = _ by rw [show fl cInt (cInt m) m = pr (cInt m = cInt m) from rfl]; ac_rfl) (hs_pr.2 ⟨rfl, K3⟩))⟩
theorem cell_iv (H : Hs anyB σ0 σ (Iv v l * R)) : A.cell v = some v := cell_sl H
theorem df_I {dyn : Nat → List AV → Heap → Option (AV × Heap)} {fnv : AV} {p : Int → Bool} {v : AV} {l : List Int} (hl : l.length < 1000000) (hg : ∀ id g n, A.gen [AV.os id g 1 0 n, fnv] = g + n)
  (hix : m_slices_IndexFunc_int dyn [v, fnv] σ = some (.int .i64 (idxI p l), σ)) (hcall : ∀ m ∈ l, ∀ s, Hs anyB σ0 s R → A.callv dyn fnv [.int .i64 m] s = some (.bool (p m), s)) (H : Hs anyB σ0 σ (Sl (fl cInt) 1 v l * R)) :
  ∃ v' σ', r_slices_DeleteFunc_int dyn v fnv σ = some (v', σ') ∧ Hs anyB σ0 σ' (Sl (fl cInt) 1 v' (l.filter fun m => !p m) * R) := by
 unfold r_slices_DeleteFunc_int
 rw [hix, Option.bind_some]
 rcases idxI_cases p l with ⟨h1, h2, _⟩ | ⟨k, x, h1, h2, h3, _, h5⟩
 ·simp only [h1]
  rw [aEq, Option.bind_some, decide_eq_true rfl, cnd_t]
  have hf : (l.filter fun m => !p m) = l := List.filter_eq_self.2 fun m hm => by rw [h2 m hm]; rfl
  rw [hf]
  rcases slf_cases H with ⟨rfl, hv, H'⟩ | ⟨id, g, rfl, K⟩
  ·rcases hv with rfl | rfl
   ·exact ⟨_, _, rfl, slz H' (.inl rfl)⟩
   ·exact ⟨_, _, rfl, slz H' (.inr rfl)⟩
  ·obtain ⟨_, q2⟩ := hs_get K
   obtain ⟨v', s, e1, K2⟩ := renew_own (fnv := fnv) (k := l.length) ((List.getElem?_eq_some_iff.1 q2).1) (Nat.le_refl _) (Nat.le_refl _) (hg _ _ _) K
   rw [List.take_length] at K2
   exact ⟨v', s, e1, K2⟩
 ·have hkl := (List.getElem?_eq_some_iff.1 h1).1
  simp only [h3]
  rw [aEq, Option.bind_some, decide_eq_false (by omega), cnd_f, tadd1 (by omega), Option.bind_some]
  have hlv : A.lenS v = some (.int .i64 (l.length : Int)) := sl_len H
  have hk0 : (l.take (k + 1)).filter (fun m => !p m) = l.take k := by
   rw [List.take_add_one, h1, Option.toList_some, List.filter_append, List.filter_eq_self.2 (fun m hm => ?_)]
   ·simp [h2]
   ·obtain ⟨j, hj⟩ := List.mem_iff_getElem?.1 hm
    rw [List.getElem?_take] at hj
    split at hj
    ·rename_i q; rw [h5 j m q hj]; rfl
    ·cases hj
  suffices hb : ∃ b : AV × Heap, _ = some b ∧ Hs anyB σ0 b.2 (Sl (fl cInt) 1 b.1 (l.filter fun m => !p m) * R) by
   obtain ⟨⟨v', s'⟩, hb1, hb2⟩ := hb
   exact ⟨v', s', hb1, hb2⟩
  refine loop_k (Q := fun q => ∃ (w : Nat) (cur : List Int) (y : AV), q.1 = .exit 0 ∧ q.2.1 = [.int .i64 (w : Int), y] ∧ w ≤ l.length ∧ cur.length = l.length ∧ cur.take w = l.filter (fun m => !p m) ∧ Hs anyB σ0 q.2.2 (Sl (fl cInt) 1 v cur * R)) (loop_hs (l.drop (k + 1)) (fun i vs s => ∃ (w : Nat) (cur : List Int), vs = [.int .i64 (w : Int), .int .i64 ((k + 1 + i : Nat) : Int)] ∧ w ≤ k + i ∧ cur.length = l.length ∧ cur.take w = (l.take (k + 1 + i)).filter (fun m => !p m) ∧ cur.drop (k + 1 + i) = l.drop (k + 1 + i) ∧ Hs anyB σ0 s (Sl (fl cInt) 1 v cur * R)) ?_ ?_ ⟨k, l, rfl, by omega, rfl, hk0.symm, rfl, H⟩) ?_
  ·rintro i m vs s hx ⟨w, cur, rfl, q1, q2, q3, q4, K⟩
   have hi := (List.getElem?_eq_some_iff.1 hx).1
   rw [List.length_drop] at hi
   rw [List.getElem?_drop] at hx
   have hc : cur[k + 1 + i]? = some m := by
    have := congrArg (fun z : List Int => z[0]?) q4
    simp only [List.getElem?_drop, Nat.add_zero] at this
    rw [this, hx]
   have htk : (l.take (k + 1 + (i + 1))).filter (fun m => !p m) = if p m = true then (l.take (k + 1 + i)).filter (fun m => !p m) else (l.take (k + 1 + i)).filter (fun m => !p m) ++ [m] := by
    rw [← Nat.add_assoc, List.take_add_one, hx, Option.toList_some, List.filter_append]
    simp only [List.filter_cons, List.filter_nil]
    cases p m <;> simp
   have hdr : ∀ (z : List Int), z.drop (k + 1 + i) = l.drop (k + 1 + i) → z.drop (k + 1 + (i + 1)) = l.drop (k + 1 + (i + 1)) := fun z hz => by
    have := congrArg (List.drop 1) hz
    rw [List.drop_drop, List.drop_drop] at this
    rw [← Nat.add_assoc]; exact this
   obtain ⟨pm, f1, f2⟩ := slf_at K hc
   simp only [List.getD_cons_zero, List.getD_cons_succ]
   rw [hlv, Option.bind_some, tlss, Option.bind_some, decide_eq_true (by omega), cnd_t, f1, Option.bind_some, f2, Option.bind_some, p1_cInt, Option.bind_some, hcall m (List.mem_of_getElem? hx) s (hs_drop K), Option.bind_some, show A.not (.bool (p m)) = some (.bool (!p m)) from rfl, Option.bind_some]
   rw [htk]
   cases hp : p m
   ·obtain ⟨y, hy⟩ : ∃ y, cur[w]? = some y := ⟨_, List.getElem?_eq_getElem (by omega)⟩
    obtain ⟨pp, s', e1, e2, K2⟩ := setIv (m := m) hy K
    rw [show (!false) = true from rfl, cnd_t, e1, Option.bind_some, show ((A.cell (.int .i64 m)).bind fun v => some [v]) = some (cInt m) from rfl, Option.bind_some, e2, Option.bind_some, tadd1 (by omega), Option.bind_some, Option.bind_some]
    simp only [List.getD_cons_zero]
    rw [tadd1 (by omega), Option.bind_some]
    refine ⟨_, _, rfl, w + 1, cur.set w m, by rw [Nat.add_assoc], by omega, by rw [List.length_set]; exact q2, ?_, hdr _ (by rw [List.drop_set, if_pos (by omega)]; exact q4), K2⟩
    rw [if_neg (by decide), ← q3, List.take_add_one, List.getElem?_set_self (by omega), List.take_set_of_le (Nat.le_refl w)]
    rfl
   ·rw [show (!true) = false from rfl, cnd_f, Option.bind_some]
    simp only [List.getD_cons_zero]
    rw [tadd1 (by omega), Option.bind_some]
    exact ⟨_, _, rfl, w, cur, by rw [Nat.add_assoc], by omega, q2, by rw [if_pos trivial]; exact q3, hdr cur q4, K⟩
  ·rintro vs s ⟨w, cur, rfl, q1, q2, q3, q4, K⟩
   have hdl : k + 1 + (l.drop (k + 1)).length = l.length := by rw [List.length_drop]; omega
   have q1' : w ≤ l.length := by omega
   rw [hdl] at q3 q4 ⊢
   rw [List.take_length] at q3
   simp only [List.getD_cons_zero, List.getD_cons_succ]
   rw [hlv, Option.bind_some, tlss, Option.bind_some, decide_eq_false (by omega), cnd_f]
   exact ⟨_, rfl, by simp, w, cur, _, rfl, rfl, q1', q2, q3, K⟩
  ·rintro ⟨e, vs, s⟩ ⟨w, cur, y, h1', h2', q1, q2, q3, K⟩
   simp only at h1' h2' K
   subst h1'; subst h2'
   simp only [exb, List.getD_cons_zero]
   rcases slf_cases K with ⟨hn, _, _⟩ | ⟨id, g, rfl, K9⟩
   ·subst hn; simp at q2; omega
   rcases slf_cases H with ⟨hn, _, _⟩ | ⟨id0, g0, hv0, K0⟩
   ·subst hn; simp at hkl
   have hid : id < σ.length := by
    obtain ⟨_, r2⟩ := hs_get K0
    have := (List.getElem?_eq_some_iff.1 r2).1
    injection hv0 with j1 j2 j3 j4 j5
    omega
   obtain ⟨_, r2⟩ := hs_get K9
   have hcl : (cur.map cInt).length = cur.length := by simp
   rw [slo (room_arr r2 (by omega)) bnd_n (bnd_s (k := w) (by omega)), Option.bind_some]
   obtain ⟨cur2, hc2⟩ : ∃ c2, c2 = cur.take w ++ List.replicate (cur.length - w) (0 : Int) := ⟨_, rfl⟩
   have hl2 : cur2.length = cur.length := by rw [hc2]; simp; omega
   have ht2 : cur2.take w = cur.take w := by rw [hc2, List.take_append_of_le_length (by simp; omega), List.take_take, Nat.min_self]
   have clr : ∃ s2, A.clearS 1 [(AV.int .i64 0)] (.os id g 1 (0 + w) (cur.length - w)) s = some s2 ∧ Hs anyB σ0 s2 (blk id (.arr g 1 (cur2.map cInt)) * R) := by
    by_cases hw : cur.length - w = 0
    ·have e : cur2 = cur := by rw [hc2, hw, List.replicate_zero, List.append_nil, List.take_of_length_le (by omega)]
     refine ⟨s, ?_, by rw [e]; exact K9⟩
     simp only [A.clearS, r2]
     rw [if_pos (by simp; omega), if_pos hw]
    ·refine ⟨s.set id (.arr g 1 (cur2.map cInt)), ?_, hs_set K9 trivial⟩
     simp only [A.clearS, r2]
     rw [if_pos (by simp; omega), if_neg hw]
     have e : (cur.map cInt).take (0 + w) ++ List.replicate (cur.length - w) [(AV.int .i64 0)] ++ (cur.map cInt).drop (0 + w + (cur.length - w)) = cur2.map cInt := by
      rw [Nat.zero_add, show w + (cur.length - w) = cur.length by omega, List.drop_of_length_le (by simp), List.append_nil, hc2, List.map_append, List.map_take, List.map_replicate]
      rfl
     rw [e]
   obtain ⟨s2, e1, K3⟩ := clr
   obtain ⟨_, r3⟩ := hs_get K3
   rw [e1, Option.bind_some, slo (room_arr r3 (by simp; omega)) (bnd_s (k := w) (by simp; omega)) bnd_n, Option.bind_some]
   obtain ⟨v', s', e2, K4⟩ := renew_own (fnv := fnv) (k := w) hid (by omega) (by omega) (hg _ _ _) K3
   rw [hl2] at e2
   refine ⟨(v', s'), e2, ?_⟩
   rw [ht2, q3] at K4
   exact K4
end
end Go.Proofs.YtkdafecbdncmiaaDoor

namespace Go.Proofs.YtkdafecbdncmiaaDoor
set_option linter.unusedSectionVars false
set_option linter.unusedVariables false
set_option linter.unusedSimpArgs false
set_option maxRecDepth 100000
open HP
section
variable {σ0 σ : Heap} {R : HP} {v : AV} {l : List Int}
def Swp (l cur : List Int) (i : Nat) : Prop := cur.length = l.length ∧ ∀ k, k < l.length → cur[k]? = if k < i ∨ l.length ≤ k + i then l[l.length - 1 - k]? else l[k]?
theorem Swp.fin {l cur : List Int} (h : Swp l cur (l.length / 2)) : cur = l.reverse := by
 apply List.ext_getElem?
 intro k
 by_cases hk : k < l.length
 ·rw [h.2 k hk, List.getElem?_reverse hk]
  split
  ·rfl
  ·congr 1; omega
 ·rw [List.getElem?_eq_none (by have := h.1; omega), List.getElem?_eq_none (by simp; omega)]
theorem Swp.step {l cur : List Int} {i : Nat} {a b : Int} (h : Swp l cur i) (hi : 2 * i + 1 < l.length) (ha : cur[i]? = some a) (hb : cur[l.length - 1 - i]? = some b) : Swp l ((cur.set i b).set (l.length - 1 - i) a) (i + 1) := by
 have ha' : l[i]? = some a := by rw [← ha, h.2 i (by omega), if_neg (by omega)]
 have hb' : l[l.length - 1 - i]? = some b := by rw [← hb, h.2 _ (by omega), if_neg (by omega)]
 refine ⟨by simp [h.1], fun k hk => ?_⟩
 by_cases h1 : k = l.length - 1 - i
 ·rw [h1, List.getElem?_set_self (by simp [h.1]; omega), if_pos (by omega), show l.length - 1 - (l.length - 1 - i) = i by omega, ha']
 ·rw [List.getElem?_set_ne (by omega)]
  by_cases h2 : k = i
  ·rw [h2, List.getElem?_set_self (by rw [h.1]; omega), if_pos (by omega), hb']
  ·rw [List.getElem?_set_ne (by omega), h.2 k hk]
   by_cases h3 : k < i ∨ l.length ≤ k + i
   ·rw [if_pos h3, if_pos (by omega)]
   ·rw [if_neg h3, if_neg (by omega)]
theorem rev_s (hl : l.length ≤ 1000000000000) (H : Hs anyB σ0 σ (Iv v l * R)) : ∃ σ', m_slices_Reverse_int [v] σ = some (.tup [], σ') ∧ Hs anyB σ0 σ' (Iv v l.reverse * R) := by
 have hlv : A.lenS v = some (.int .i64 (l.length : Int)) := sl_len H
 have hloop : ∃ q, A.loop ((fun v3 s4 =>
   (A.lss (v3.getD 0 AV.undef) (v3.getD 1 AV.undef)).bind fun x6 =>
   A.cond x6 (
    (A.iaddr 1 v (v3.getD 1 AV.undef)).bind fun x7 =>
    ((A.deref x7 s4).bind fun c8 => A.part1 0 c8).bind fun x9 =>
    (A.iaddr 1 v (v3.getD 0 AV.undef)).bind fun x10 =>
    ((A.deref x10 s4).bind fun c11 => A.part1 0 c11).bind fun x12 =>
    (A.iaddr 1 v (v3.getD 0 AV.undef)).bind fun x13 =>
    ((A.cell x9).bind fun v => some [v]).bind fun c14 =>
    (A.storeAt x13 c14 s4).bind fun c15 =>
    (A.iaddr 1 v (v3.getD 1 AV.undef)).bind fun x16 =>
    ((A.cell x12).bind fun v => some [v]).bind fun c17 =>
    (A.storeAt x16 c17 c15).bind fun c18 =>
    (A.add (v3.getD 0 AV.undef) (AV.int .i64 1)).bind fun x19 =>
    (A.sub (v3.getD 1 AV.undef) (AV.int .i64 1)).bind fun x20 =>
    some (AX.normal, [x19, x20], c18)) (
    some (AX.exit 0, [(v3.getD 0 AV.undef), (v3.getD 1 AV.undef)], s4)))) [.int .i64 0, .int .i64 ((l.length : Int) - 1)] σ = some q ∧ (q.1 = .exit 0 ∧ Hs anyB σ0 q.2.2 (Iv v l.reverse * R)) := by
  refine loop_hs (List.range (l.length / 2)) (fun i w s => w = [.int .i64 (i : Int), .int .i64 ((l.length : Int) - 1 - (i : Int))] ∧ ∃ cur, Swp l cur i ∧ Hs anyB σ0 s (Iv v cur * R)) ?_ ?_ ⟨by simp, l, ⟨rfl, fun k hk => by rw [if_neg (by omega)]⟩, H⟩
  ·rintro i x w s hx ⟨rfl, cur, hc, K⟩
   have hi := (List.getElem?_eq_some_iff.1 hx).1
   rw [List.length_range] at hi
   have hcl := hc.1
   have hij : ((l.length : Int) - 1 - (i : Int)) = ((l.length - 1 - i : Nat) : Int) := by omega
   rw [hij]
   obtain ⟨a, ha⟩ : ∃ a, cur[i]? = some a := ⟨_, List.getElem?_eq_getElem (by omega)⟩
   obtain ⟨b, hb⟩ : ∃ b, cur[l.length - 1 - i]? = some b := ⟨_, List.getElem?_eq_getElem (by omega)⟩
   obtain ⟨p1, f1, f2⟩ := slf_at K hb
   obtain ⟨p2, g1, g2⟩ := slf_at K ha
   obtain ⟨p3, s1, h1, h2, K1⟩ := setIv (m := b) ha K
   obtain rfl : p2 = p3 := Option.some.inj (g1.symm.trans h1)
   have hb1 : (cur.set i b)[l.length - 1 - i]? = some b := by rw [List.getElem?_set_ne (by omega)]; exact hb
   obtain ⟨p4, s2, h3, h4, K2⟩ := setIv (m := a) hb1 K1
   obtain rfl : p1 = p4 := Option.some.inj (f1.symm.trans h3)
   have a1 : A.lss (.int .i64 (i : Int)) (.int .i64 ((l.length - 1 - i : Nat) : Int)) = some (.bool true) := by rw [aLss, decide_eq_true (by omega)]
   have a2 : A.add (.int .i64 (i : Int)) (.int .i64 1) = some (.int .i64 ((i + 1 : Nat) : Int)) := add_n1 (by omega)
   have a3 : A.sub (.int .i64 ((l.length - 1 - i : Nat) : Int)) (.int .i64 1) = some (.int .i64 ((l.length : Int) - 1 - ((i + 1 : Nat) : Int))) := by
    rw [aSub, wrap64 (by unfold inI; omega)]; congr 2; omega
   have c1 : ∀ n : Int, ((A.cell (.int .i64 n)).bind fun v => some [v]) = some (cInt n) := fun _ => rfl
   refine ⟨_, s2, ?_, rfl, _, hc.step (by omega) ha hb, K2⟩
   simp only [List.getD_cons_zero, List.getD_cons_succ, a1, bS, cT, f1, f2, g1, g2, p1_cInt, c1, h2, h4, a2, a3]
  ·rintro w s ⟨rfl, cur, hc, K⟩
   rw [List.length_range] at hc ⊢
   have a1 : A.lss (.int .i64 ((l.length / 2 : Nat) : Int)) (.int .i64 ((l.length : Int) - 1 - ((l.length / 2 : Nat) : Int))) = some (.bool false) := by rw [aLss, decide_eq_false (by omega)]
   rw [hc.fin] at K
   refine ⟨(.exit 0, [.int .i64 ((l.length / 2 : Nat) : Int), .int .i64 ((l.length : Int) - 1 - ((l.length / 2 : Nat) : Int))], s), ?_, by simp, rfl, K⟩
   simp only [List.getD_cons_zero, List.getD_cons_succ, a1, bS, cF]
 obtain ⟨⟨qa, qv, s4⟩, e4, rfl, K⟩ := hloop
 refine ⟨s4, ?_, K⟩
 have a0 : A.sub (.int .i64 (l.length : Int)) (.int .i64 1) = some (.int .i64 ((l.length : Int) - 1)) := by rw [aSub, wrap64 (by unfold inI; omega)]
 have e : r_slices_Reverse_int v σ = some (.tup [], s4) := by
  unfold r_slices_Reverse_int
  simp only [hlv, bS, a0, e4, exE]
 show A.wrap false [] .k (A.ar1 r_slices_Reverse_int) [v] σ = _
 unfold A.wrap
 rw [Bool.false_and, cond_false]
 show (r_slices_Reverse_int v σ).map _ = _
 rw [e]; rfl
theorem cloI (hl : l.length ≤ apM) (H : Hs anyB σ0 σ R) : ∃ v σ', m_slices_Clone_int [sl 1 cInt l] σ = some (v, σ') ∧ A.cell v = some v ∧ Hs anyB σ0 σ' (Iv v l * R) :=
 clo_gen (r := fun _ _ => none) (most := 140737488355328 / 8) rfl (fun _ _ => rfl) (by unfold apM at hl; omega) (fun _ _ _ _ => trivial) H
theorem clo_ks (hl : l.length ≤ apM) (h0 : l ≠ []) : KS (A.wrap true [(.s 1)] .k (A.ar1 r_slices_Clone_int)) [sl 1 cInt l] cInt 1 l := by
 intro σ0 σ R H
 obtain ⟨x, xs, rfl⟩ := List.exists_cons_of_ne_nil h0
 obtain ⟨v, σ', e, _, K⟩ := clo_gen (r := fun _ _ => none) (B := frB) (c := cInt) (sz := 1) (l := x :: xs) (most := 140737488355328 / 8) (m := m_slices_Clone_int) rfl (fun _ _ => rfl) (by unfold apM at hl; omega) (frB_app (fun _ => rfl) _) H
 exact ⟨v, σ', e, K⟩
theorem cloI_own (hl : l.length ≤ apM) (H : Hs anyB σ0 σ (Iv v l * R)) : ∃ v' σ', m_slices_Clone_int [v] σ = some (v', σ') ∧ Hs anyB σ0 σ' (Iv v' l * (Iv v l * R)) := by
 rcases slf_cases H with ⟨rfl, hv, K⟩ | ⟨id, g, rfl, K⟩
 ·refine ⟨.ez, σ, ?_, slz H (.inr rfl)⟩
  rcases hv with rfl | rfl <;> rfl
 ·by_cases h0 : l = []
  ·subst h0
   exact ⟨.ez, σ, rfl, slz H (.inr rfl)⟩
  ·obtain ⟨v', σ', e1, K1⟩ := lentK (B := anyB) (fun _ _ => trivial) (ain := [.s 1]) (r := A.ar1 r_slices_Clone_int) (as0 := [.os id g 1 0 l.length]) (ts := [sl 1 cInt l]) ⟨lt_slf fz_cInt H, trivial⟩ (clo_ks hl h0) H
   refine ⟨v', σ', ?_, K1⟩
   obtain ⟨n, hn⟩ : ∃ n, l.length = n + 1 := by
    cases h : l with
    | nil => exact absurd h h0
    | cons b l => exact ⟨l.length, rfl⟩
   rw [hn] at e1 ⊢
   exact e1
def RowE : List AV → List Int → HP := fun e x => ex fun h => pr (e = [h]) * Iv h x
theorem rowE {B : Blk → Prop} {e : List AV} {x : List Int} (H : Hs B σ0 σ (RowE e x * R)) : ∃ h, e = [h] ∧ Hs B σ0 σ (Iv h x * R) := by
 obtain ⟨h, H⟩ := hs_ex.1 (show Hs B σ0 σ (ex (fun h => pr (e = [h]) * Iv h x) * R) from H)
 rw [star_assoc, hs_pr] at H
 exact ⟨h, H.1, H.2⟩
theorem rowE_of {B : Blk → Prop} {h : AV} {x : List Int} (H : Hs B σ0 σ (Iv h x * R)) : Hs B σ0 σ (RowE [h] x * R) := by
 refine (hs_ex (P := fun h' => pr ([h] = [h']) * Iv h' x)).2 ⟨h, ?_⟩
 rw [star_assoc, hs_pr]
 exact ⟨rfl, H⟩
theorem iv_row {B : Blk → Prop} {h : AV} {x : List Int} (H : Hs B σ0 σ (Iv h x * R)) {n : Nat} (hn : n ≤ σ0.length) (d : Nat) : ∃ h', A.frz σ n (d + 1) h = some h' ∧ RowA (h', x.map cInt) := by
 rcases slf_cases H with ⟨rfl, hv, K⟩ | ⟨id, g, rfl, K⟩
 ·rcases hv with rfl | rfl
  ·exact ⟨.nsl, by simp [A.frz], rfl, fun _ => rfl, rfl⟩
  ·exact ⟨.ez, by simp [A.frz], rfl, fun _ => rfl, rfl⟩
 ·obtain ⟨h1, h2⟩ := hs_get K
  exact ⟨sl 1 cInt x, frz_os fz_cInt h2 (by omega) d, by simp [sl, A.lenS], fun _ => by simp [sl, A.elems], rfl⟩
theorem rows_fz {B : Blk → Prop} : ∀ {seg : List (List AV)} {ls : List (List Int)} {R : HP}, Hs B σ0 σ (els RowE seg ls * R) → ∀ {n : Nat}, n ≤ σ0.length → ∀ (d : Nat), ∃ L : List RowP, A.frzLL σ n (d + 1) seg = some (L.map cRowI) ∧ (∀ p ∈ L, RowA p) ∧ flI L = ls.flatten.map cInt ∧ L.length = ls.length
 | [], [], R, H, n, hn, d => ⟨[], by simp [A.frzLL], (by simp), rfl, rfl⟩
 | [], _ :: _, R, H, n, hn, d => (hs_pr.1 H).1.elim
 | _ :: _, [], R, H, n, hn, d => (hs_pr.1 H).1.elim
 | e :: seg, x :: l, R, H, n, hn, d => by
  rw [els, star_assoc] at H
  obtain ⟨h, rfl, K⟩ := rowE H
  obtain ⟨h', h1, h3⟩ := iv_row K hn d
  obtain ⟨L, k1, k2, k3, k4⟩ := rows_fz (hs_drop H) hn d
  refine ⟨(h', x.map cInt) :: L, by simp [A.frzLL, A.frzL, h1, k1, cRowI], fun p hp => ?_, ?_, by simp [k4]⟩
  ·rcases List.mem_cons.1 hp with rfl | hp
   ·exact h3
   ·exact k2 p hp
  ·rw [flI, List.map_cons, List.flatten_cons, List.flatten_cons, List.map_append, ← k3]
theorem con_s {va : AV} {ls : List (List Int)} (hl : ls.length ≤ mxl) (hf : ls.flatten.length ≤ 4398046511104) (H : Hs anyB σ0 σ (Sl RowE 1 va ls * R)) : ∃ v σ', m_slices_Concat_int [va] σ = some (v, σ') ∧ Hs anyB σ0 σ' (Iv v ls.flatten * (Sl RowE 1 va ls * R)) := by
 rcases sl_cases H with ⟨rfl, hv, K⟩ | ⟨id, g, seg, rfl, hsl, K⟩
 ·obtain ⟨v, σ', e, K1⟩ := con_ks (L := []) (l := []) (by simp) (Nat.zero_le _) (Nat.zero_le _) rfl σ σ emp (hs_nil σ)
  obtain ⟨v', σ'', e', K2⟩ := ks_at (B := anyB) (fun _ _ => trivial) (con_ks (L := []) (l := []) (by simp) (Nat.zero_le _) (Nat.zero_le _) rfl) H
  refine ⟨v', σ'', ?_, K2⟩
  have h0 : ([va] : List AV).any A.own = false := by rcases hv with rfl | rfl <;> rfl
  exact (wrap_nn (args' := [sl 1 cRowI []]) (by rcases hv with rfl | rfl <;> rfl) h0 rfl).trans e'
 ·obtain ⟨L, k1, k2, k3, k4⟩ := rows_fz (hs_eq (show _ = els RowE seg ls * (blk id (.arr g 1 seg) * R) by ac_rfl) K) (Nat.zero_le _) 6
  obtain ⟨_, h2⟩ := hs_get K
  have hfz : A.frz σ 0 8 (.os id g 1 0 ls.length) = some (sl 1 cRowI L) := by
   simp only [A.frz, if_neg (show ¬ id < 0 by omega), h2]
   rw [if_pos (by simp; omega), List.drop_zero, List.take_of_length_le (by omega), frzLL_eq, k1]
   rfl
  exact lentK (B := anyB) (fun _ _ => trivial) (ain := [.s 1]) (r := A.ar1 r_slices_Concat_int) (as0 := [.os id g 1 0 ls.length]) (ts := [sl 1 cRowI L]) ⟨⟨⟨_, hfz, rfl, rfl⟩, rfl, fun ho => by cases ho⟩, trivial⟩ (con_ks k2 (by omega) hf k3) H
end
end Go.Proofs.YtkdafecbdncmiaaDoor

namespace Go.Proofs.YtkdafecbdncmiaaDoor
set_option linter.unusedSectionVars false
set_option linter.unusedVariables false
set_option linter.unusedSimpArgs false
set_option maxRecDepth 100000
theorem pNamess_snoc : ∀ (l : List PickD) (x : PickD), pNamess (l ++ [x]) = pNamess l ++ pNames x
 | [], x => by simp [pNamess]
 | p :: l, x => by rw [List.cons_append, pNamess, pNamess, pNamess_snoc l x, List.append_assoc]
theorem pNames_eq (p : PickD) : pNames p = (if p.kind = 2 ∨ p.kind = 3 then [(p.kind, p.frm)] else []) ++ pNamess p.args := by cases p; rw [pNames]; rfl
section
variable {S : Type} {dyn : Nat → List AV → Heap → Option (AV × Heap)} {c : AV} (I : S → Heap → Prop) (step : S → Int × Int → S)
theorem sz_fold {sz : S → Nat} (hz : ∀ s x, sz (step s x) ≤ sz s + 1) : ∀ (l : List (Int × Int)) (s : S), sz (l.foldl step s) ≤ sz s + l.length
 | [], s => by simp
 | x :: l, s => by rw [List.foldl_cons, List.length_cons]; have := sz_fold hz l (step s x); have := hz s x; omega
theorem pNamess_take (l : List PickD) (i : Nat) : (pNamess (l.take i)).length ≤ (pNamess l).length := by
 have : ∀ (a b : List PickD), pNamess (a ++ b) = pNamess a ++ pNamess b := by
  intro a b
  induction a with
  | nil => simp [pNamess]
  | cons x a ih => rw [List.cons_append, pNamess, pNamess, ih, List.append_assoc]
 have h := this (l.take i) (l.drop i)
 rw [List.take_append_drop] at h
 rw [h, List.length_append]; omega
theorem names_t {sz : S → Nat} (N : Nat) (hz : ∀ s x, sz (step s x) ≤ sz s + 1) (hstep : ∀ s kd nm σ, sz s < N → I s σ → ∃ v σ', A.callv dyn c [.int .i64 kd, .int .i64 nm] σ = some (v, σ') ∧ I (step s (kd, nm)) σ') : ∀ (n : Nat) (p : PickD) (σ : Heap) (s : S), pDeep p ≤ n → pSize p ≤ pMx → sz s + (pNames p).length ≤ N → I s σ →
  ∃ σ', fuel (R_pick_names dyn) n 41 [.agg (cPick p), c] σ = some (.tup [], σ') ∧ I ((pNames p).foldl step s) σ'
 | 0, p, σ, s, h, _, _, _ => by have := pDeep_pos p; omega
 | n + 1, p, σ, s, h, hs, hN, hI => by
  rw [pNames_eq, List.length_append] at hN
  have hd := args_d h
  have hr : fuel (R_pick_names dyn) (n + 1) 41 [.agg (cPick p), c] σ = (A.wrap false [] .k (A.ar2 (r_pick_names (fuel (R_pick_names dyn) n) dyn))) [.agg (cPick p), c] σ := rfl
  have hw : ∀ σ', r_pick_names (fuel (R_pick_names dyn) n) dyn (.agg (cPick p)) c σ = some (.tup [], σ') → (A.wrap false [] .k (A.ar2 (r_pick_names (fuel (R_pick_names dyn) n) dyn))) [.agg (cPick p), c] σ = some (.tup [], σ') := by
   intro σ' e
   unfold A.wrap
   rw [Bool.false_and, cond_false]
   show (r_pick_names (fuel (R_pick_names dyn) n) dyn (.agg (cPick p)) c σ).map _ = _
   rw [e]; rfl
  have hp0 : ∃ σ1, (A.cond (.bool (decide (p.kind = 2 ∨ p.kind = 3))) ((A.part1 0 (cPick p)).bind fun x8 => (A.part1 1 (cPick p)).bind fun x9 => (A.callv dyn c [x8, x9] σ).bind fun r10 => some ([(AV.lbx (cPick p))], r10.2)) (some ([(AV.lbx (cPick p))], σ))) = some ([(AV.lbx (cPick p))], σ1) ∧ I ((if p.kind = 2 ∨ p.kind = 3 then [(p.kind, p.frm)] else []).foldl step s) σ1 := by
   by_cases hk : p.kind = 2 ∨ p.kind = 3
   ·obtain ⟨v, σ1, e1, h1⟩ := hstep s p.kind p.frm σ (by rw [if_pos hk, List.length_singleton] at hN; omega) hI
    refine ⟨σ1, ?_, by rw [if_pos hk]; exact h1⟩
    rw [decide_eq_true hk]
    rw [show A.part1 0 (cPick p) = some (.int .i64 p.kind) by rw [cPick_eq]; rfl, show A.part1 1 (cPick p) = some (.int .i64 p.frm) by rw [cPick_eq]; rfl]
    simp only [A.cond, cond_true, Option.bind_some, e1]
   ·refine ⟨σ, ?_, by rw [if_neg hk]; exact hI⟩
    rw [decide_eq_false hk]; rfl
  obtain ⟨σ1, e1, h1⟩ := hp0
  have hloop : ∃ q, A.loop ((fun v15 s16 =>
   (A.lss (v15.getD 0 AV.undef) (.int .i64 (p.args.length : Int))).bind fun x18 =>
   A.cond x18 (
    (A.iaddr 4 (sl 4 cPick p.args) (v15.getD 0 AV.undef)).bind fun x19 =>
    ((A.deref x19 s16).bind fun c20 => A.partA 0 4 c20).bind fun x21 =>
    (A.cells 4 x21).bind fun c22 =>
    (A.splice 0 c22 [(AV.int .i64 0), (AV.int .i64 0), (AV.int .i64 0), AV.nsl]).bind fun c23 =>
    (A.partA 0 4 c23).bind fun x24 =>
    ((fuel (R_pick_names dyn) n) 41 [x24, c] s16).bind fun r25 =>
    (A.add (v15.getD 0 AV.undef) (AV.int .i64 1)).bind fun x26 =>
    some (AX.normal, [x26], r25.2)) (
    some (AX.exit 0, [(v15.getD 0 AV.undef)], s16)))) [.int .i64 0] σ1 = some q ∧ (∃ u, q.1 = .exit 0 ∧ q.2.1 = [u] ∧ I ((pNames p).foldl step s) q.2.2) := by
   refine loop_hs p.args (fun i v σ => v = [.int .i64 (i : Int)] ∧ I ((pNamess (p.args.take i)).foldl step ((if p.kind = 2 ∨ p.kind = 3 then [(p.kind, p.frm)] else []).foldl step s)) σ) ?_ ?_ ⟨rfl, by simpa [pNamess] using h1⟩
   ·rintro i x v σ2 hx ⟨rfl, hI2⟩
    have hm := List.mem_of_getElem? hx
    have hxd := Nat.le_trans (pDeeps_mem hm) hd
    obtain ⟨σ3, e3, h3⟩ := names_t N hz hstep n x σ2 _ hxd (by have := pSize_arg hm; omega) (by
     have ht : p.args.take (i + 1) = p.args.take i ++ [x] := by rw [List.take_add_one, hx]; rfl
     have h1 := pNamess_take p.args (i + 1)
     rw [ht, pNamess_snoc, List.length_append] at h1
     have h2 := sz_fold step hz (pNamess (p.args.take i)) ((if p.kind = 2 ∨ p.kind = 3 then [(p.kind, p.frm)] else []).foldl step s)
     have h3 := sz_fold step hz (if p.kind = 2 ∨ p.kind = 3 then [(p.kind, p.frm)] else []) s
     omega) hI2
    refine ⟨_, σ3, ?_, rfl, by
     have ht : p.args.take (i + 1) = p.args.take i ++ [x] := by rw [List.take_add_one, hx]; rfl
     rw [ht, pNamess_snoc, List.foldl_append]; exact h3⟩
    have a1 : A.lss (.int .i64 (i : Int)) (.int .i64 (p.args.length : Int)) = some (.bool true) := ix_lt hx
    have a2 : A.add (.int .i64 (i : Int)) (.int .i64 1) = some (.int .i64 ((i + 1 : Nat) : Int)) := ix_inc hx (args_mx hs)
    have a3 : A.iaddr 4 (sl 4 cPick p.args) (.int .i64 (i : Int)) = some (.rp (cPick x)) := ix_for hx
    simp only [List.getD_cons_zero, a1, a2, a3, bS, A.cond, cond_true, dRp, pA_cPick, ce_cPick, sp_cPick _ _ (rfl : ([(AV.int .i64 0), (AV.int .i64 0), (AV.int .i64 0), AV.nsl] : List AV).length = 4), e3]
   ·rintro v σ2 ⟨rfl, hI2⟩
    refine ⟨(.exit 0, [.int .i64 (p.args.length : Int)], σ2), ?_, by simp, _, rfl, rfl, ?_⟩
    ·simp only [List.getD_cons_zero, ix_end, bS, A.cond, cond_false]
    ·rw [List.take_length] at hI2
     rw [pNames_eq, List.foldl_append]; exact hI2
  obtain ⟨⟨qa, qv, σ4⟩, e4, u, rfl, rfl, h4⟩ := hloop
  refine ⟨σ4, hr.trans (hw _ ?_), h4⟩
  unfold r_pick_names
  have g0 : A.part1 0 (cPick p) = some (.int .i64 p.kind) := by rw [cPick_eq]; rfl
  have k1 : A.part1 3 (cPick p) = some (sl 4 cPick p.args) := by rw [cPick_eq]; rfl
  by_cases hk : p.kind = 2
  ·have hk' : decide (p.kind = 2 ∨ p.kind = 3) = true := decide_eq_true (.inl hk)
   rw [hk'] at e1
   simp only [g0, bS] at e1
   simp only [ce_cPick, bS, g0, aEq, decide_eq_true hk, gFx, pkT, e1, List.getD_cons_zero, aLb, k1, lenS_sl, e4, exE]
  ·have hk' : decide (p.kind = 2 ∨ p.kind = 3) = decide (p.kind = 3) := by simp [hk]
   rw [hk'] at e1
   simp only [g0, bS] at e1
   simp only [ce_cPick, bS, g0, aEq, decide_eq_false hk, gF, pkF, e1, List.getD_cons_zero, aLb, k1, lenS_sl, e4, exE]
end
end Go.Proofs.YtkdafecbdncmiaaDoor

namespace Go.Proofs.YtkdafecbdncmiaaDoor
set_option linter.unusedSectionVars false
set_option linter.unusedVariables false
set_option linter.unusedSimpArgs false
set_option maxRecDepth 100000
def NsV (σ : Heap) (lo hi : Nat) (v : AV) (xs : List Int) : Prop := (v = .nsl ∧ xs = []) ∨ ∃ id g, v = .os id g 1 0 xs.length ∧ lo ≤ id ∧ id < hi ∧ σ[id]? = some (.arr g 1 (xs.map cInt)) ∧ xs ≠ []
theorem NsV.mono {σ σ' : Heap} {lo hi lo' hi' : Nat} {v : AV} {xs : List Int} (h : NsV σ lo hi v xs) (h1 : lo' ≤ lo) (h2 : hi ≤ hi') (hk : ∀ i, lo ≤ i → i < hi → σ'[i]? = σ[i]?) : NsV σ' lo' hi' v xs := by
 rcases h with h | ⟨id, g, e, a, b, c, d⟩
 ·exact .inl h
 ·exact .inr ⟨id, g, e, by omega, by omega, by rw [hk id a b]; exact c, d⟩
theorem NsV.frz {σ : Heap} {lo hi n : Nat} {v : AV} {xs : List Int} (h : NsV σ lo hi v xs) (hn : n ≤ lo) (d : Nat) : A.frz σ n (d + 1) v = some (nslE 1 cInt xs) := by
 rcases h with ⟨rfl, rfl⟩ | ⟨id, g, rfl, a, b, c, e⟩
 ·exact fz_nsl σ n (d + 1)
 ·rw [nslE_ne e]
  simp only [A.frz, Nat.not_lt.2 (Nat.le_trans hn a), if_false, c]
  rw [if_pos (by simp), frzLL_eq, List.drop_zero, List.take_of_length_le (by simp), fzLL fz_cInt]
  rfl
theorem app_ns {σ : Heap} {lo hi : Nat} {v : AV} {xs : List Int} {x : Int} (h : NsV σ lo hi v xs) (hlo : lo ≤ hi) (hhi : hi ≤ σ.length) (hm : xs.length + 1 ≤ apM) : ∃ v' σ', A.append 1 (140737488355328 / 8) v (.sl 1 [[.int .i64 x]]) σ = some (v', σ') ∧ NsV σ' lo (σ'.length) v' (xs ++ [x]) ∧ σ.length ≤ σ'.length ∧ (∀ i, i < lo → i < σ.length → σ'[i]? = σ[i]?) := by
 rcases h with ⟨rfl, rfl⟩ | ⟨id, g, rfl, a, b, c, e⟩
 ·refine ⟨.os σ.length 1 1 0 1, σ ++ [.arr 1 1 [[.int .i64 x]]], rfl, .inr ⟨σ.length, 1, rfl, by omega, by simp, by simp [cInt], by simp⟩, by simp, fun i h1 h2 => by rw [List.getElem?_append_left h2]⟩
 ·refine ⟨.os id (g + 1) 1 0 (xs.length + 1), σ.set id (.arr (g + 1) 1 (xs.map cInt ++ [[.int .i64 x]])), ?_, .inr ⟨id, g + 1, by simp, a, by simp; omega, ?_, by simp⟩, by simp, fun i h1 h2 => ?_⟩
  ·unfold apM at hm
   have e1 : A.elems 1 (.sl 1 [[.int .i64 x]]) σ = some [[.int .i64 x]] := rfl
   simp only [A.append, e1, Option.bind_some, A.appendL, c]
   rw [if_pos (by simp; omega), if_neg (by simp), if_neg (by simp), List.drop_zero, List.take_of_length_le (by simp)]
   simp
  ·rw [List.getElem?_set_self (by omega)]; simp [cInt]
  ·rw [List.getElem?_set_ne (by omega)]
def EntU (σ : Heap) (lo hi : Nat) : List (Int × AV) → List GroupD → Prop
 | [], [] => True
 | p :: E, g :: l => p.1 = g.number ∧ NsV σ lo hi p.2 (pNamed 2 g.pick) ∧ EntU σ lo hi E l
 | _, _ => False
theorem EntU.mono {σ σ' : Heap} {lo hi hi' : Nat} (h2 : hi ≤ hi') (hk : ∀ i, lo ≤ i → i < hi → σ'[i]? = σ[i]?) : ∀ {E : List (Int × AV)} {l : List GroupD}, EntU σ lo hi E l → EntU σ' lo hi' E l
 | [], [], _ => trivial
 | p :: E, g :: l, h => ⟨h.1, h.2.1.mono (Nat.le_refl _) h2 hk, h.2.2.mono h2 hk⟩
 | [], _ :: _, h => h.elim
 | _ :: _, [], h => h.elim
theorem EntU.snoc {σ : Heap} {lo hi : Nat} {p : Int × AV} {g : GroupD} (h1 : p.1 = g.number) (h2 : NsV σ lo hi p.2 (pNamed 2 g.pick)) : ∀ {E : List (Int × AV)} {l : List GroupD}, EntU σ lo hi E l → EntU σ lo hi (E ++ [p]) (l ++ [g])
 | [], [], _ => ⟨h1, h2, trivial⟩
 | q :: E, x :: l, h => ⟨h.1, h.2.1, h.2.2.snoc h1 h2⟩
 | [], _ :: _, h => h.elim
 | _ :: _, [], h => h.elim
theorem EntU.keys {σ : Heap} {lo hi : Nat} : ∀ {E : List (Int × AV)} {l : List GroupD}, EntU σ lo hi E l → E.map (·.1) = l.map GroupD.number
 | [], [], _ => rfl
 | p :: E, g :: l, h => by rw [List.map_cons, List.map_cons, h.1, h.2.2.keys]
 | [], _ :: _, h => h.elim
 | _ :: _, [], h => h.elim
def usesL (l : List GroupD) : List (Int × List Int) := l.map fun g => (g.number, pNamed 2 g.pick)
abbrev eI (E : List (Int × AV)) : List (AV × AV) := E.map fun p => (.int .i64 p.1, p.2)
theorem findI (k : Int) (E : List (Int × AV)) : A.find .i (.int .i64 k) (eI E) = some (tfind k E) :=
 (find_t (eK := fun x : Int => AV.int .i64 x) (eV := id) (eqk_int _) k E).trans (by simp)
theorem updI (k : Int) (v : AV) (E : List (Int × AV)) : A.upd .i (.int .i64 k) v (eI E) = some (eI (tupd k v E)) := upd_t (eK := fun x : Int => AV.int .i64 x) (eV := id) (eqk_int _) k v E
theorem EntU.frz {σ : Heap} {lo hi n : Nat} (hn : n ≤ lo) (d : Nat) : ∀ {E : List (Int × AV)} {l : List GroupD}, EntU σ lo hi E l → A.frzM' σ n (d + 1) (eI E) = some ((usesL l).map fun p => (.int .i64 p.1, nslE 1 cInt p.2))
 | [], [], _ => by simp [A.frzM', usesL]
 | p :: E, g :: l, h => by
  have h1 := h.2.1.frz hn d
  have h2 := h.2.2.frz hn d
  have h3 : A.frz σ n (d + 1) (.int .i64 p.1) = some (.int .i64 p.1) := fz_int _ _ σ n (d + 1)
  simp only [eI, List.map_cons, A.frzM', h3, h1, Option.bind_some, usesL] at h2 ⊢
  rw [h2, h.1]; rfl
 | [], _ :: _, h => h.elim
 | _ :: _, [], h => h.elim
theorem tfind_snoc {ν : Type} {k : Int} {v : ν} : ∀ {E : List (Int × ν)}, k ∉ E.map (·.1) → tfind k (E ++ [(k, v)]) = some v
 | [], _ => by simp [tfind]
 | p :: E, h => by
  simp only [List.map_cons, List.mem_cons, not_or] at h
  rw [List.cons_append, tfind, if_neg h.1, tfind_snoc h.2]
theorem tupd_snoc {ν : Type} {k : Int} {v v' : ν} : ∀ {E : List (Int × ν)}, k ∉ E.map (·.1) → tupd k v' (E ++ [(k, v)]) = E ++ [(k, v')]
 | [], _ => by simp [tupd]
 | p :: E, h => by
  simp only [List.map_cons, List.mem_cons, not_or] at h
  rw [List.cons_append, tupd, if_neg h.1, tupd_snoc h.2]; rfl
theorem tupd_new {ν : Type} {k : Int} {v : ν} : ∀ {E : List (Int × ν)}, k ∉ E.map (·.1) → tupd k v E = E ++ [(k, v)]
 | [], _ => by simp [tupd]
 | p :: E, h => by
  simp only [List.map_cons, List.mem_cons, not_or] at h
  rw [tupd, if_neg h.1, tupd_new h.2]; rfl
structure UI (σ0 : Heap) (E : List (Int × AV)) (done : List GroupD) (g : GroupD) (b : Nat) (xs : List Int) (σ : Heap) : Prop where
 pre : σ.take σ0.length = σ0
 len : b < σ.length
 lo : σ0.length + 2 ≤ b
 map : ∃ v, σ[σ0.length]? = some (.map (eI (E ++ [(g.number, v)]))) ∧ NsV σ (b + 1) σ.length v xs
 ent : EntU σ (σ0.length + 2) b E done
 box : σ[σ0.length + 1]? = some (.box [.om σ0.length])
 grp : σ[b]? = some (.box (cGroup g))
 new : g.number ∉ E.map (·.1)
def uStep (xs : List Int) (p : Int × Int) : List Int := if p.1 = 2 then xs ++ [p.2] else xs
theorem uStep_fold : ∀ (l : List (Int × Int)) (xs : List Int), l.foldl uStep xs = xs ++ (l.filter fun p => decide (p.1 = 2)).map (·.2)
 | [], xs => by simp
 | p :: l, xs => by
  rw [List.foldl_cons, uStep_fold l]
  by_cases h : p.1 = 2 <;> simp [uStep, h]
mutual
theorem pNames_two : ∀ p : PickD, ((pNames p).filter fun x => decide (x.1 = 2)).map (·.2) = pNamed 2 p
 | .mk k f t l => by
  rw [pNames, pNamed, List.filter_append, List.map_append, pNamess_two l]
  congr 1
  by_cases h : k = 2
  ·simp [h]
  ·by_cases h3 : k = 3 <;> simp [h, h3]
theorem pNamess_two : ∀ l : List PickD, ((pNamess l).filter fun x => decide (x.1 = 2)).map (·.2) = pNameds 2 l
 | [] => by simp [pNamess, pNameds]
 | p :: l => by rw [pNamess, pNameds, List.filter_append, List.map_append, pNames_two p, pNamess_two l]
end
theorem take_get {σ σ0 : Heap} (h : σ.take σ0.length = σ0) : ∀ i, i < σ0.length → σ[i]? = σ0[i]? := fun i hi => by
 have := congrArg (fun l => l[i]?) h
 simp only [List.getElem?_take, hi, if_true] at this
 exact this
theorem take_same {σ σ' σ0 : Heap} (h : σ.take σ0.length = σ0) (hk : ∀ i, i < σ0.length → σ'[i]? = σ[i]?) : σ'.take σ0.length = σ0 := by
 apply List.ext_getElem?
 intro i
 by_cases hi : i < σ0.length
 ·rw [List.getElem?_take, if_pos hi, hk i hi, take_get h i hi]
 ·rw [List.getElem?_take, if_neg hi, List.getElem?_eq_none (by omega)]
theorem fn1_t {σ0 : Heap} {E : List (Int × AV)} {done : List GroupD} {g : GroupD} {b : Nat} {xs : List Int} (kd nm : Int) {σ : Heap} (hm : xs.length + 1 ≤ apM) (H : UI σ0 E done g b xs σ) : ∃ v σ', A.callv (A.tab (fun _ _ => none) [(40, m_pick_uses_fn1)]) (.fn 40 [.op (σ0.length + 1) 0, .op b 0]) [.int .i64 kd, .int .i64 nm] σ = some (v, σ') ∧ UI σ0 E done g b (uStep xs (kd, nm)) σ' := by
 have hw : ∀ σ', r_pick_uses_fn1 (.int .i64 kd) (.int .i64 nm) (.op (σ0.length + 1) 0) (.op b 0) σ = some (.tup [], σ') → A.callv (A.tab (fun _ _ => none) [(40, m_pick_uses_fn1)]) (.fn 40 [.op (σ0.length + 1) 0, .op b 0]) [.int .i64 kd, .int .i64 nm] σ = some (.tup [], σ') := by
  intro σ' e
  show A.wrap false [] .k (A.ar4 b_pick_uses_fn1) [.int .i64 kd, .int .i64 nm, .op (σ0.length + 1) 0, .op b 0] σ = _
  unfold A.wrap
  rw [Bool.false_and, cond_false]
  show (r_pick_uses_fn1 (.int .i64 kd) (.int .i64 nm) (.op (σ0.length + 1) 0) (.op b 0) σ).map _ = _
  rw [e]; rfl
 by_cases hk : kd = 2
 ·obtain ⟨v, hmap, hv⟩ := H.map
  have hlen := H.len; have hlo := H.lo
  obtain ⟨v', σ1, e1, h1, h2, h3⟩ := app_ns (x := nm) hv (by omega) (Nat.le_refl _) hm
  have g1 : ∀ i, i ≤ b → σ1[i]? = σ[i]? := fun i hi => h3 i (by omega) (by omega)
  have d1 : A.deref (.op (σ0.length + 1) 0) σ = some [.om σ0.length] := by simp [A.deref, H.box]
  have d2 : A.deref (.op b 0) σ = some (cGroup g) := by simp [A.deref, H.grp]
  have f2 : A.faddr 0 (.op b 0) = some (.op b 0) := rfl
  have l1 : A.look .i (.om σ0.length) (.int .i64 g.number) .nsl σ = some v := by
   have : A.find .i (.int .i64 g.number) (eI (E ++ [(g.number, v)])) = some (some v) := by
    rw [findI, tfind_snoc H.new]
   simp only [A.look, A.keyOk, cond_true, A.entries, hmap, Option.bind_some, this, Option.map_some, Option.getD_some]
  have u1 : A.mupd .i (.om σ0.length) (.int .i64 g.number) v' σ1 = some (σ1.set σ0.length (.map (eI (E ++ [(g.number, v')])))) := by
   have : A.upd .i (.int .i64 g.number) v' (eI (E ++ [(g.number, v)])) = some (eI (E ++ [(g.number, v')])) := by
    rw [updI, tupd_snoc H.new]
   simp only [A.mupd, A.keyOk, cond_true, g1 σ0.length (by omega), hmap, this, Option.map_some]
  refine ⟨.tup [], σ1.set σ0.length (.map (eI (E ++ [(g.number, v')]))), hw _ ?_, ?_⟩
  ·unfold r_pick_uses_fn1
   have c1 : (((A.cell (.int .i64 nm)).bind fun v => some [v]).bind fun c14 => (A.splice 0 c14 [(AV.int .i64 0)]).bind fun c15 => some c15).bind (fun cs => some (AV.sl 1 (chunks 1 1 cs))) = some (.sl 1 [[.int .i64 nm]]) := rfl
   have p1 : A.part1 0 (cGroup g) = some (.int .i64 g.number) := rfl
   have p2 : A.part1 0 [AV.om σ0.length] = some (.om σ0.length) := rfl
   simp only [aEq, bS, decide_eq_true hk, A.cond, cond_true, d1, d2, f2, p1, p2, l1, c1, e1, u1]
  ·have hs : ∀ i, i ≠ σ0.length → (σ1.set σ0.length (.map (eI (E ++ [(g.number, v')]))))[i]? = σ1[i]? := fun i hi => by rw [List.getElem?_set_ne (by omega)]
   refine ⟨take_same H.pre fun i hi => by rw [hs i (by omega), g1 i (by omega)], by simp; omega, H.lo, ⟨v', ?_, ?_⟩, ?_, ?_, ?_, H.new⟩
   ·rw [List.getElem?_set_self (by omega)]
   ·rw [uStep, if_pos hk]
    exact h1.mono (Nat.le_refl _) (by simp) fun i a _ => hs i (by omega)
   ·exact H.ent.mono (Nat.le_refl _) fun i a c => by rw [hs i (by omega), g1 i (by omega)]
   ·rw [hs _ (by omega), g1 _ (by omega)]; exact H.box
   ·rw [hs _ (by omega), g1 _ (by omega)]; exact H.grp
 ·refine ⟨.tup [], σ, hw _ ?_, by rw [uStep, if_neg hk]; exact H⟩
  unfold r_pick_uses_fn1
  simp only [aEq, bS, decide_eq_false hk, A.cond, cond_false]
mutual
theorem pNames_len : ∀ p : PickD, (pNames p).length ≤ pSize p
 | .mk k f t l => by
  rw [pNames, pSize, List.length_append]
  have := pNamess_len l
  split <;> simp <;> omega
theorem pNamess_len : ∀ l : List PickD, (pNamess l).length ≤ pSizes l
 | [] => by simp [pNamess, pSizes]
 | p :: l => by
  rw [pNamess, pSizes, List.length_append]
  have := pNames_len p; have := pNamess_len l; omega
end
theorem uses_t (l : List GroupD) (hn : (l.map GroupD.number).Nodup) (hs : ∀ g ∈ l, pSize g.pick ≤ 2000000) (hl : l.length ≤ mxl) (σ0 : Heap) : m_pick_uses [sl 5 cGroup l] σ0 = some (fmE (fun x => AV.int .i64 x) (nslE 1 cInt) (usesL l), σ0) := by
 refine wrap_eq rfl ?_ rfl
 show r_pick_uses (sl 5 cGroup l) σ0 = _
 have hloop : ∃ q, A.loop ((fun v4 s5 =>
   (A.lss (v4.getD 0 AV.undef) (.int .i64 (l.length : Int))).bind fun x7 =>
   A.cond x7 (
    (A.iaddr 5 (sl 5 cGroup l) (v4.getD 0 AV.undef)).bind fun x8 =>
    ((A.deref x8 s5).bind fun c9 => A.partA 0 5 c9).bind fun x10 =>
    (A.cells 5 x10).bind fun c11 =>
    (A.storeAt (AV.op s5.length 0) c11 (s5 ++ [Blk.box [(AV.int .i64 0), (AV.int .i64 0), (AV.int .i64 0), (AV.int .i64 0), AV.nsl]])).bind fun c12 =>
    ((A.deref (AV.op (σ0.length + 1) 0) c12).bind fun c13 => A.part1 0 c13).bind fun x14 =>
    (A.faddr 0 (AV.op s5.length 0)).bind fun x15 =>
    ((A.deref x15 c12).bind fun c16 => A.part1 0 c16).bind fun x17 =>
    (A.mupd .i x14 x17 AV.nsl c12).bind fun h18 =>
    (A.faddr 1 (AV.op s5.length 0)).bind fun x19 =>
    ((A.deref x19 h18).bind fun c20 => A.partA 0 4 c20).bind fun x21 =>
    (m_pick_names (A.tab (fun _ _ => none) [(40, m_pick_uses_fn1)]) [x21, (AV.fn 40 [(AV.op (σ0.length + 1) 0), (AV.op s5.length 0)])] h18).bind fun r22 =>
    (A.add (v4.getD 0 AV.undef) (AV.int .i64 1)).bind fun x23 =>
    some (AX.normal, [x23], r22.2)) (
    some (AX.exit 0, [(v4.getD 0 AV.undef)], s5)))) [.int .i64 0] (σ0 ++ [.map [], .box [.om σ0.length]]) = some q ∧ (q.1 = .exit 0 ∧ ∃ E, q.2.2.take σ0.length = σ0 ∧ σ0.length < q.2.2.length ∧ q.2.2[σ0.length]? = some (.map (eI E)) ∧ q.2.2[σ0.length + 1]? = some (.box [.om σ0.length]) ∧ EntU q.2.2 (σ0.length + 2) q.2.2.length E l) := by
  refine loop_hs l (fun i v σ => v = [.int .i64 (i : Int)] ∧ ∃ E, σ.take σ0.length = σ0 ∧ σ0.length + 2 ≤ σ.length ∧ σ[σ0.length]? = some (.map (eI E)) ∧ σ[σ0.length + 1]? = some (.box [.om σ0.length]) ∧ EntU σ (σ0.length + 2) σ.length E (l.take i)) ?_ ?_ ⟨rfl, [], by simp, by simp, by simp, by simp, trivial⟩
  ·rintro i x v σ hx ⟨rfl, E, h1, h2, h3, h4, h5⟩
   have hm := List.mem_of_getElem? hx
   have ht : l.take (i + 1) = l.take i ++ [x] := by rw [List.take_add_one, hx]; rfl
   have hnew : x.number ∉ E.map (·.1) := by
    rw [h5.keys]
    intro hmem
    have hi := (List.getElem?_eq_some_iff.1 hx).1
    have e1 : l.map GroupD.number = (l.take i).map GroupD.number ++ (l.drop i).map GroupD.number := by rw [← List.map_append, List.take_append_drop]
    rw [e1] at hn
    have h7 : x.number ∈ (l.drop i).map GroupD.number := List.mem_map.2 ⟨x, by rw [List.drop_eq_getElem_cons hi, (List.getElem?_eq_some_iff.1 hx).2]; simp, rfl⟩
    exact (List.nodup_append.1 hn).2.2 _ hmem _ h7 rfl
   let σ1 : Heap := σ ++ [.box (cGroup x)]
   let σ2 : Heap := σ1.set σ0.length (.map (eI (E ++ [(x.number, .nsl)])))
   have hs2 : ∀ j, j ≠ σ0.length → σ2[j]? = σ1[j]? := fun j hj => List.getElem?_set_ne (by omega)
   have hs1 : ∀ j, j < σ.length → σ1[j]? = σ[j]? := fun j hj => List.getElem?_append_left hj
   have hl1 : σ1.length = σ.length + 1 := by simp [σ1]
   have hl2 : σ2.length = σ.length + 1 := by simp [σ2, hl1]
   have I0 : UI σ0 E (l.take i) x σ.length [] σ2 := by
    refine ⟨take_same h1 fun j hj => by rw [hs2 j (by omega), hs1 j (by omega)], by omega, by omega, ⟨.nsl, ?_, .inl ⟨rfl, rfl⟩⟩, ?_, ?_, ?_, hnew⟩
    ·exact List.getElem?_set_self (by omega)
    ·exact h5.mono (Nat.le_refl _) fun j a b => by rw [hs2 j (by omega), hs1 j b]
    ·rw [hs2 _ (by omega), hs1 _ (by omega)]; exact h4
    ·rw [hs2 _ (by omega)]; simp [σ1]
   have hbd : (pNames x.pick).length ≤ 2000000 := Nat.le_trans (pNames_len x.pick) (hs x hm)
   obtain ⟨σ3, e3, s3⟩ := names_t (dyn := A.tab (fun _ _ => none) [(40, m_pick_uses_fn1)]) (c := .fn 40 [.op (σ0.length + 1) 0, .op σ.length 0]) (UI σ0 E (l.take i) x σ.length) uStep (sz := List.length) 2000000 (fun s x => by unfold uStep; split <;> simp) (fun s kd nm σ' hs hI => fn1_t kd nm (by unfold apM; omega) hI) 2000000 x.pick σ2 [] (Nat.le_trans (pDeep_size _) (hs x hm)) (Nat.le_trans (hs x hm) (by decide)) (by simpa using hbd) I0
   rw [uStep_fold, pNames_two, List.nil_append] at s3
   obtain ⟨v3, m3, n3⟩ := s3.map
   refine ⟨_, σ3, ?_, rfl, E ++ [(x.number, v3)], s3.pre, by have := s3.len; omega, m3, s3.box, by
    rw [ht]
    exact EntU.snoc rfl (n3.mono (by omega) (Nat.le_refl _) fun _ _ _ => rfl) (s3.ent.mono (Nat.le_of_lt s3.len) fun _ _ _ => rfl)⟩
   have a1 : A.lss (.int .i64 (i : Int)) (.int .i64 (l.length : Int)) = some (.bool true) := ix_lt hx
   have a2 : A.add (.int .i64 (i : Int)) (.int .i64 1) = some (.int .i64 ((i + 1 : Nat) : Int)) := ix_inc hx hl
   have a3 : A.iaddr 5 (sl 5 cGroup l) (.int .i64 (i : Int)) = some (.rp (cGroup x)) := ix_for hx
   have p1 : A.partA 0 5 (cGroup x) = some (.agg (cGroup x)) := rfl
   have p2 : A.cells 5 (.agg (cGroup x)) = some (cGroup x) := rfl
   have p3 : A.partA 0 4 ((cGroup x).drop 1) = some (.agg (cPick x.pick)) := by rw [cGroup_pick]; exact pA_cPick _
   have s1 : A.storeAt (.op σ.length 0) (cGroup x) (σ ++ [.box [(AV.int .i64 0), (AV.int .i64 0), (AV.int .i64 0), (AV.int .i64 0), AV.nsl]]) = some σ1 := by
    simp [A.storeAt, A.splice, cGroup_len, σ1]
   have d1 : A.deref (.op (σ0.length + 1) 0) σ1 = some [.om σ0.length] := by
    have : σ1[σ0.length + 1]? = some (.box [.om σ0.length]) := by rw [hs1 _ (by omega)]; exact h4
    simp [A.deref, this]
   have d2 : A.deref (.op σ.length 0) σ1 = some (cGroup x) := by simp [A.deref, σ1]
   have d3 : A.deref (.op σ.length 1) σ2 = some ((cGroup x).drop 1) := by
    have : σ2[σ.length]? = some (.box (cGroup x)) := by rw [hs2 _ (by omega)]; simp [σ1]
    simp [A.deref, this]
   have u1 : A.mupd .i (.om σ0.length) (.int .i64 x.number) .nsl σ1 = some σ2 := by
    have : σ1[σ0.length]? = some (.map (eI E)) := by rw [hs1 _ (by omega)]; exact h3
    simp only [A.mupd, A.keyOk, cond_true, this, updI, tupd_new hnew, Option.map_some]
    rfl
   have f1 : A.faddr 0 (.op σ.length 0) = some (.op σ.length 0) := rfl
   have f2 : A.faddr 1 (.op σ.length 0) = some (.op σ.length 1) := rfl
   have q1 : A.part1 0 [AV.om σ0.length] = some (.om σ0.length) := rfl
   have q2 : A.part1 0 (cGroup x) = some (.int .i64 x.number) := rfl
   have hm0 : m_pick_names (A.tab (fun _ _ => none) [(40, m_pick_uses_fn1)]) = fuel (R_pick_names (A.tab (fun _ _ => none) [(40, m_pick_uses_fn1)])) 2000000 41 := rfl
   rw [← hm0] at e3
   simp only [List.getD_cons_zero, a1, a2, a3, bS, A.cond, cond_true, dRp, p1, p2, s1, d1, d2, q1, q2, f1, u1, f2, d3, p3, e3]
  ·rintro v σ ⟨rfl, E, h1, h2, h3, h4, h5⟩
   rw [List.take_length] at h5
   refine ⟨(.exit 0, [.int .i64 (l.length : Int)], σ), ?_, by simp, rfl, E, h1, Nat.lt_of_lt_of_le (by omega) h2, h3, h4, h5⟩
   simp only [List.getD_cons_zero, ix_end, bS, A.cond, cond_false]
 obtain ⟨⟨qa, qv, σ4⟩, e4, rfl, E, h1, h2, h3, h4, h5⟩ := hloop
 have c1 : ((A.cell (AV.om σ0.length)).bind fun v => some [v]) = some [.om σ0.length] := rfl
 have s1 : A.storeAt (AV.op (σ0 ++ [Blk.map []]).length 0) [.om σ0.length] ((σ0 ++ [Blk.map []]) ++ [Blk.box [AV.nm]]) = some (σ0 ++ [.map [], .box [.om σ0.length]]) := by
  simp [A.storeAt, A.splice]
 have d1 : A.deref (.op (σ0.length + 1) 0) σ4 = some [.om σ0.length] := by simp [A.deref, h4]
 have q1 : A.part1 0 [AV.om σ0.length] = some (.om σ0.length) := rfl
 have hz : A.fin σ0 (.om σ0.length) σ4 = some (fmE (fun x => AV.int .i64 x) (nslE 1 cInt) (usesL l), σ0) := by
  unfold A.fin
  rw [if_neg (fun e => by rw [e] at h2; simp at h2), if_pos h1]
  simp only [A.frz, Nat.lt_irrefl, if_false, h3]
  rw [h5.frz (by omega) 6]
  rfl
 unfold r_pick_uses
 rw [show (σ0 ++ [Blk.map []]).length = σ0.length + 1 by simp] at *
 simp only [c1, bS, s1, lenS_sl, e4, exE, d1, q1, hz]
 rfl
end Go.Proofs.YtkdafecbdncmiaaDoor

namespace Go.Proofs.YtkdafecbdncmiaaDoor
set_option linter.unusedSectionVars false
set_option linter.unusedVariables false
set_option linter.unusedSimpArgs false
inductive Rch (f : Int → List Int) (a : Int) : Int → Prop where
 | one {b : Int} (h : b ∈ f a) : Rch f a b
 | step {b c : Int} (h : Rch f a b) (k : c ∈ f b) : Rch f a c
def unS (V seen : List Int) : Nat := (V.filter fun x => decide (x ∉ seen)).length
theorem unS_le (V seen : List Int) : unS V seen ≤ V.length := List.length_filter_le _ _
theorem unS_sub {k : Int} : ∀ (V seen : List Int), unS V (seen ++ [k]) ≤ unS V seen
 | [], seen => Nat.le_refl _
 | x :: V, seen => by
  have := unS_sub (k := k) V seen
  unfold unS at this ⊢
  simp only [List.filter_cons]
  by_cases h : x ∈ seen
  ·rw [if_neg (by simp [h]), if_neg (by simp [h])]; exact this
  ·by_cases hk : x = k
   ·rw [if_neg (by simp [hk]), if_pos (by simp [h]), List.length_cons]; omega
   ·rw [if_pos (by simp [h, hk]), if_pos (by simp [h]), List.length_cons, List.length_cons]; omega
theorem unS_lt {k : Int} : ∀ {V seen : List Int}, k ∈ V → k ∉ seen → unS V (seen ++ [k]) < unS V seen
 | x :: V, seen, h, hn => by
  have hs := unS_sub (k := k) V seen
  by_cases hk : x = k
  ·unfold unS at hs ⊢
   simp only [List.filter_cons]
   rw [if_neg (by simp [hk]), if_pos (by simp [hk, hn]), List.length_cons]; omega
  ·have := unS_lt (V := V) (by simpa [Ne.symm hk] using h) hn
   unfold unS at this ⊢
   simp only [List.filter_cons]
   by_cases h : x ∈ seen
   ·rw [if_neg (by simp [h]), if_neg (by simp [h])]; exact this
   ·rw [if_pos (by simp [h, hk]), if_pos (by simp [h]), List.length_cons, List.length_cons]; omega
structure ReI (f : Int → List Int) (V : List Int) (a : Int) (cur : Option (Int × List Int)) (st seen : List Int) : Prop where
 sound : ∀ n ∈ seen, Rch f a n
 known : ∀ n ∈ st, n = a ∨ n ∈ seen
 all : ∀ n, (n = a ∨ n ∈ seen) → n ∈ st ∨ (∀ k ∈ f n, k ∈ seen) ∨ ∃ xs ys, cur = some (n, ys) ∧ f n = xs ++ ys ∧ ∀ k ∈ xs, k ∈ seen
 few : st.length + unS V seen ≤ V.length + 1
 here : ∀ n ys, cur = some (n, ys) → (n = a ∨ n ∈ seen) ∧ ∀ k ∈ ys, k ∈ f n
section
variable {f : Int → List Int} {V : List Int} {a : Int} {st st' seen : List Int} {n k : Int} {r : List Int}
theorem ReI.start : ReI f V a none [a] [] :=
 ⟨fun _ h => by simp at h, fun n h => by simpa using h, fun n h => .inl (by simpa using h), by have := unS_le V []; simp; omega, fun _ _ h => by cases h⟩
theorem ReI.pop (H : ReI f V a none st seen) (hm : ∀ x, x ∈ st ↔ x = n ∨ x ∈ st') (hl : st.length = st'.length + 1) : ReI f V a (some (n, f n)) st' seen := by
 refine ⟨H.sound, fun x h => H.known x ((hm x).2 (.inr h)), fun x h => ?_, by have := H.few; omega, fun x ys e => ?_⟩
 ·rcases H.all x h with h1 | h1 | ⟨xs, ys, e, _⟩
  ·rcases (hm x).1 h1 with rfl | h2
   ·exact .inr (.inr ⟨[], f x, rfl, rfl, by simp⟩)
   ·exact .inl h2
  ·exact .inr (.inl h1)
  ·cases e
 ·injection e with e; injection e with e1 e2; subst e1; subst e2
  exact ⟨H.known _ ((hm _).2 (.inl rfl)), fun k h => h⟩
theorem ReI.skip (H : ReI f V a (some (n, k :: r)) st seen) (hk : k ∈ seen) : ReI f V a (some (n, r)) st seen := by
 refine ⟨H.sound, H.known, fun x h => ?_, H.few, fun x ys e => ?_⟩
 ·rcases H.all x h with h1 | h1 | ⟨xs, ys, e, h2, h3⟩
  ·exact .inl h1
  ·exact .inr (.inl h1)
  ·injection e with e; injection e with e1 e2; subst e1; subst e2
   exact .inr (.inr ⟨xs ++ [k], r, rfl, by rw [h2]; simp, fun y hy => by rcases List.mem_append.1 hy with h | h; exact h3 y h; rw [List.mem_singleton.1 h]; exact hk⟩)
 ·injection e with e; injection e with e1 e2; subst e1; subst e2
  obtain ⟨h1, h2⟩ := H.here n (k :: r) rfl
  exact ⟨h1, fun y hy => h2 y (by simp [hy])⟩
theorem ReI.push (H : ReI f V a (some (n, k :: r)) st seen) (hk : k ∉ seen) (hV : k ∈ V) : ReI f V a (some (n, r)) (st ++ [k]) (seen ++ [k]) := by
 obtain ⟨h1, h2⟩ := H.here n (k :: r) rfl
 have hf : k ∈ f n := h2 k (by simp)
 have hkr : Rch f a k := by
  rcases h1 with rfl | h1
  ·exact .one hf
  ·exact .step (H.sound n h1) hf
 refine ⟨fun x h => ?_, fun x h => ?_, fun x h => ?_, ?_, fun x ys e => ?_⟩
 ·rcases List.mem_append.1 h with h | h
  ·exact H.sound x h
  ·rw [List.mem_singleton.1 h]; exact hkr
 ·rcases List.mem_append.1 h with h | h
  ·rcases H.known x h with h | h
   ·exact .inl h
   ·exact .inr (by simp [h])
  ·rw [List.mem_singleton.1 h]; exact .inr (by simp)
 ·by_cases hx : x = k
  ·exact .inl (by simp [hx])
  ·have : x = a ∨ x ∈ seen := by
    rcases h with h | h
    ·exact .inl h
    ·rcases List.mem_append.1 h with h | h
     ·exact .inr h
     ·exact absurd (List.mem_singleton.1 h) hx
   rcases H.all x this with h1 | h1 | ⟨xs, ys, e, h4, h3⟩
   ·exact .inl (by simp [h1])
   ·exact .inr (.inl fun y hy => by simp [h1 y hy])
   ·injection e with e; injection e with e1 e2; subst e1; subst e2
    exact .inr (.inr ⟨xs ++ [k], r, rfl, by rw [h4]; simp, fun y hy => by rcases List.mem_append.1 hy with h | h; simp [h3 y h]; rw [List.mem_singleton.1 h]; simp⟩)
 ·have := unS_lt hV hk
  have := H.few
  simp; omega
 ·injection e with e; injection e with e1 e2; subst e1; subst e2
  exact ⟨by rcases h1 with h | h; exact .inl h; exact .inr (by simp [h]), fun y hy => h2 y (by simp [hy])⟩
theorem ReI.done (H : ReI f V a (some (n, [])) st seen) : ReI f V a none st seen := by
 refine ⟨H.sound, H.known, fun x h => ?_, H.few, fun x ys e => by cases e⟩
 rcases H.all x h with h1 | h1 | ⟨xs, ys, e, h4, h3⟩
 ·exact .inl h1
 ·exact .inr (.inl h1)
 ·injection e with e; injection e with e1 e2; subst e1; subst e2
  exact .inr (.inl fun k hk => h3 k (by rw [h4] at hk; simpa using hk))
theorem ReI.fin (H : ReI f V a none [] seen) (x : Int) : x ∈ seen ↔ Rch f a x := by
 refine ⟨H.sound x, fun h => ?_⟩
 have cl : ∀ y, (y = a ∨ y ∈ seen) → ∀ k ∈ f y, k ∈ seen := fun y hy => by
  rcases H.all y hy with h1 | h1 | ⟨_, _, e, _⟩
  ·simp at h1
  ·exact h1
  ·cases e
 induction h with
 | one h => exact cl a (.inl rfl) _ h
 | step h k ih => exact cl _ (.inr ih) _ k
end
def StkV (σ : Heap) (id : Nat) (v : AV) (st : List Int) : Prop := ∃ g off es, v = .os id g 1 off st.length ∧ σ[id]? = some (.arr g 1 es) ∧ off + st.length ≤ es.length ∧ (es.drop off).take st.length = st.map cInt
section
variable {σ : Heap} {id : Nat} {v : AV} {st : List Int} {n x : Int}
theorem StkV.len (H : StkV σ id v st) : A.lenS v = some (.int .i64 (st.length : Int)) := by
 obtain ⟨g, off, es, rfl, _⟩ := H; rfl
theorem StkV.at (H : StkV σ id v st) {i : Nat} (h : st[i]? = some x) : ∃ p, A.iaddr 1 v (.int .i64 (i : Int)) = some p ∧ A.deref p σ = some (cInt x) := by
 obtain ⟨g, off, es, rfl, h1, h2, h3⟩ := H
 have hi := (List.getElem?_eq_some_iff.1 h).1
 have hi' : ((i : Int) < (st.length : Int)) := by omega
 refine ⟨.oe id g (off + i) 0, by simp [A.iaddr, A.idx, hi'], ?_⟩
 have e := congrArg (fun l => l[i]?) h3
 simp only [List.getElem?_take, hi, if_true, List.getElem?_drop, List.getElem?_map, h, Option.map_some] at e
 simp [A.deref, h1, e]
theorem StkV.app (H : StkV σ id v st) (hm : st.length + 1 ≤ apM) : ∃ v' σ', A.append 1 (140737488355328 / 8) v (.sl 1 [[.int .i64 x]]) σ = some (v', σ') ∧ StkV σ' id v' (st ++ [x]) ∧ σ'.length = σ.length ∧ ∀ j, j ≠ id → σ'[j]? = σ[j]? := by
 obtain ⟨g, off, es, rfl, h1, h2, h3⟩ := H
 have hid := (List.getElem?_eq_some_iff.1 h1).1
 have e1 : A.elems 1 (.sl 1 [[.int .i64 x]]) σ = some [[.int .i64 x]] := rfl
 unfold apM at hm
 by_cases hin : off + st.length + 1 ≤ es.length
 ·refine ⟨.os id g 1 off (st.length + 1), σ.set id (.arr g 1 (es.take (off + st.length) ++ [[.int .i64 x]] ++ es.drop (off + st.length + 1))), ?_, ⟨g, off, _, by simp, List.getElem?_set_self hid, by simp; omega, ?_⟩, by simp, fun j hj => List.getElem?_set_ne (by omega)⟩
  ·simp only [A.append, e1, Option.bind_some, A.appendL, h1]
   rw [if_pos (by simp; omega), if_neg (by simp), if_pos (by simpa using hin)]
   rfl
  ·have hl : (es.take (off + st.length)).length = off + st.length := by simp; omega
   rw [List.append_assoc, List.drop_append_of_le_length (by omega), List.drop_take, show off + st.length - off = st.length by omega, h3, List.length_append, List.length_singleton]
   rw [List.take_append, List.take_of_length_le (by simp)]
   simp [cInt]
 ·refine ⟨.os id (g + 1) 1 0 (st.length + 1), σ.set id (.arr (g + 1) 1 (st.map cInt ++ [[.int .i64 x]])), ?_, ⟨g + 1, 0, _, by simp, List.getElem?_set_self hid, by simp, ?_⟩, by simp, fun j hj => List.getElem?_set_ne (by omega)⟩
  ·simp only [A.append, e1, Option.bind_some, A.appendL, h1]
   rw [if_pos (by simp; omega), if_neg (by simp), if_neg (by simpa using hin), h3]
   rfl
  ·rw [List.drop_zero, List.take_of_length_le (by simp)]; simp [cInt]
theorem StkV.other {σ' : Heap} (H : StkV σ id v st) (h : σ'[id]? = σ[id]?) : StkV σ' id v st := by
 obtain ⟨g, off, es, e, h1, h2⟩ := H
 exact ⟨g, off, es, e, h.trans h1, h2⟩
theorem StkV.front (H : StkV σ id v (st ++ [n])) : ∃ v', A.sliceS 1 v none (some (.int .i64 (st.length : Int))) σ = some v' ∧ StkV σ id v' st := by
 obtain ⟨g, off, es, rfl, h1, h2, h3⟩ := H
 rw [List.length_append, List.length_singleton] at h2 h3
 refine ⟨.os id g 1 off st.length, ?_, ⟨g, off, es, rfl, h1, by omega, ?_⟩⟩
 ·simp only [A.sliceS, if_true, A.room, h1, List.length_append, List.length_singleton]
  rw [if_pos ⟨trivial, trivial, h2⟩]
  have b1 : A.bound (es.length - off) (st.length + 1) (some (.int .i64 (st.length : Int))) = some st.length := by
   simp only [A.bound]; rw [if_pos (by omega)]; simp
  have b2 : A.bound st.length 0 none = some 0 := rfl
  rw [b1, Option.bind_some, b2]; rfl
 ·have e := congrArg (List.take st.length) h3
  rw [List.take_take, Nat.min_eq_left (by omega), List.map_append, List.take_append_of_le_length (by simp), List.take_of_length_le (l := st.map cInt) (by simp)] at e
  exact e
end
end Go.Proofs.YtkdafecbdncmiaaDoor

namespace Go.Proofs.YtkdafecbdncmiaaDoor
set_option linter.unusedSectionVars false
set_option linter.unusedVariables false
set_option linter.unusedSimpArgs false
set_option maxRecDepth 100000
open HP
theorem wrap_k2 {r : AV → AV → Heap → Option (AV × Heap)} {x y v : AV} {σ : Heap} (h : [x, y].any A.own = false) (e : r x y σ = some (v, σ)) : A.wrap true [] .k (A.ar2 r) [x, y] σ = some (v, σ) := by
 refine wrap_eq h ?_ (nn_k _)
 rw [show A.nnL [] [x, y] = [x, y] by simp [A.nnL]]
 exact e
end Go.Proofs.YtkdafecbdncmiaaDoor

namespace Go.Proofs.YtkdafecbdncmiaaDoor
set_option linter.unusedSectionVars false
set_option linter.unusedVariables false
set_option linter.unusedSimpArgs false
set_option maxRecDepth 100000
def rIn : List Int → List Int → List Int → List Int × List Int
 | [], st, seen => (st, seen)
 | k :: r, st, seen => if k ∈ seen then rIn r st seen else rIn r (st ++ [k]) (seen ++ [k])
def rGo (f : Int → List Int) : Nat → List Int → List Int → List Int
 | 0, _, seen => seen
 | m + 1, st, seen => match st.getLast? with
  | none => seen
  | some n => rGo f m (rIn (f n) st.dropLast seen).1 (rIn (f n) st.dropLast seen).2
theorem rGo_nil (f : Int → List Int) (m : Nat) (seen : List Int) : rGo f m [] seen = seen := by cases m <;> rfl
theorem rGo_snoc (f : Int → List Int) (m : Nat) (st : List Int) (n : Int) (seen : List Int) : rGo f (m + 1) (st ++ [n]) seen = rGo f m (rIn (f n) st seen).1 (rIn (f n) st seen).2 := by
 rw [rGo, List.getLast?_concat, List.dropLast_concat]
def nx (U : List (Int × List Int)) (n : Int) : List Int := (tfind n U).getD []
def uVals (U : List (Int × List Int)) : List Int := U.flatMap (·.2)
theorem nx_mem {U : List (Int × List Int)} {n k : Int} (h : k ∈ nx U n) : k ∈ uVals U := by
 unfold nx at h; unfold uVals
 induction U with
 | nil => simp [tfind] at h
 | cons p U ih =>
  rw [tfind] at h
  rw [List.flatMap_cons, List.mem_append]
  by_cases hp : n = p.1
  ·rw [if_pos hp] at h; exact .inl h
  ·rw [if_neg hp] at h; exact .inr (ih h)
theorem nx_len (U : List (Int × List Int)) (n : Int) : (nx U n).length ≤ (uVals U).length := by
 unfold nx uVals
 induction U with
 | nil => simp [tfind]
 | cons p U ih =>
  rw [tfind, List.flatMap_cons, List.length_append]
  by_cases hp : n = p.1
  ·rw [if_pos hp]; simp
  ·rw [if_neg hp]; omega
def reachL (U : List (Int × List Int)) (a : Int) : List Int := rGo (nx U) (2 * (uVals U).length + 1) [a] []
abbrev mSt (V st seen : List Int) : Nat := 2 * unS V seen + st.length
abbrev eS (S : List Int) : List (AV × AV) := S.map fun x => (.int .i64 x, .bool true)
theorem eS_eq (S : List Int) : eS S = (S.map fun x => (x, true)).map fun p => (AV.int .i64 p.1, AV.bool p.2) := by rw [List.map_map]; rfl
theorem tfind_setP (k : Int) (S : List Int) : (tfind k (S.map fun x => (x, true))).getD false = decide (k ∈ S) := by
 induction S with
 | nil => rfl
 | cons x S ih =>
  rw [List.map_cons, tfind]
  by_cases h : k = x
  ·simp [h]
  ·simp [h, ih]
theorem tupd_setP {k : Int} {S : List Int} (h : k ∉ S) : tupd k true (S.map fun x => (x, true)) = (S ++ [k]).map fun x => (x, true) := by
 induction S with
 | nil => rfl
 | cons x S ih =>
  simp only [List.mem_cons, not_or] at h
  rw [List.map_cons, tupd, if_neg h.1, ih h.2]; rfl
theorem looked {σ : Heap} {id : Nat} {S : List Int} (h : σ[id]? = some (.map (eS S))) (k : Int) : A.look .i (.om id) (.int .i64 k) (.bool false) σ = some (.bool (decide (k ∈ S))) := by
 simp only [A.look, A.keyOk, cond_true, A.entries, h, Option.bind_some]
 rw [eS_eq, find_t (eK := fun x : Int => AV.int .i64 x) (eV := fun x : Bool => AV.bool x) (eqk_int _)]
 rw [Option.map_some, ← tfind_setP]
 cases tfind k (S.map fun x => (x, true)) <;> rfl
theorem updated {σ : Heap} {id : Nat} {S : List Int} (h : σ[id]? = some (.map (eS S))) {k : Int} (hk : k ∉ S) : A.mupd .i (.om id) (.int .i64 k) (.bool true) σ = some (σ.set id (.map (eS (S ++ [k])))) := by
 simp only [A.mupd, A.keyOk, cond_true, h]
 rw [eS_eq, show AV.bool true = (fun x : Bool => AV.bool x) true from rfl, upd_t (eK := fun x : Int => AV.int .i64 x) (eV := fun x : Bool => AV.bool x) (eqk_int _), tupd_setP hk, eS_eq]
 rfl
structure RM (σ0 : Heap) (v : AV) (st seen : List Int) (σ : Heap) : Prop where
 len : σ.length = σ0.length + 2
 pre : σ.take σ0.length = σ0
 map : σ[σ0.length]? = some (.map (eS seen))
 stk : StkV σ (σ0.length + 1) v st
theorem reach_t (U : List (Int × List Int)) (hU : (uVals U).length + 1 ≤ apM) (a : Int) (σ0 : Heap) : m_pick_reach [fmE (fun x => AV.int .i64 x) (nslE 1 cInt) U, .int .i64 a] σ0 = some (fmE (fun x => AV.int .i64 x) (fun x => AV.bool x) ((reachL U a).map fun x => (x, true)), σ0) := by
 obtain ⟨fm, hfm⟩ : ∃ fm, fm = fmE (fun x => AV.int .i64 x) (nslE 1 cInt) U := ⟨_, rfl⟩
 have hlook : ∀ n σ, A.look .i fm (.int .i64 n) .nsl σ = some (nslE 1 cInt (nx U n)) := fun n σ => by
  rw [hfm]
  exact fm_lookT (ek := .i) (eK := fun x => AV.int .i64 x) (eV := nslE 1 cInt) (eqk_int _) n ([] : List Int) rfl
 have hfo : [fm, .int .i64 a].any A.own = false := by rw [hfm]; rfl
 rw [← hfm]
 have hV : (uVals U).length ≤ mxl := by unfold apM at hU; unfold mxl; omega
 unfold apM at hU
 have inner : ∀ (n : Int) (v0 : AV) (st0 seen0 : List Int) (σ1 : Heap) (M0 : Nat), ReI (nx U) (uVals U) a (some (n, nx U n)) st0 seen0 → RM σ0 v0 st0 seen0 σ1 → mSt (uVals U) st0 seen0 ≤ M0 →
   ∃ q, A.loop ((fun v21 s22 =>
      (A.lss (v21.getD 1 AV.undef) (.int .i64 ((nx U n).length : Int))).bind fun x24 =>
      A.cond x24 (
       (A.iaddr 1 (nslE 1 cInt (nx U n)) (v21.getD 1 AV.undef)).bind fun x25 =>
       ((A.deref x25 s22).bind fun c26 => A.part1 0 c26).bind fun x27 =>
       (A.look .i (AV.om σ0.length) x27 (AV.bool false) s22).bind fun x28 =>
       (A.not x28).bind fun x29 =>
       (A.cond x29 (
        (A.mupd .i (AV.om σ0.length) x27 (AV.bool true) s22).bind fun h31 =>
        ((((A.cell x27).bind fun v => some [v]).bind fun c32 => (A.splice 0 c32 [(AV.int .i64 0)]).bind fun c33 => some c33).bind fun cs => some (AV.sl 1 (chunks 1 1 cs))).bind fun x34 =>
        (A.append 1 (140737488355328 / 8) (v21.getD 0 AV.undef) x34 h31).bind fun r35 =>
        some ([r35.1], r35.2)) (
        some ([(v21.getD 0 AV.undef)], s22))).bind fun r30 =>
       (A.add (v21.getD 1 AV.undef) (AV.int .i64 1)).bind fun x36 =>
       some (AX.normal, [(r30.1.getD 0 AV.undef), x36], r30.2)) (
       some (AX.exit 2, [(v21.getD 0 AV.undef), (v21.getD 1 AV.undef)], s22)))) [v0, .int .i64 0] σ1 = some q ∧ (q.1 = .exit 2 ∧ ∃ v u, q.2.1 = [v, u] ∧ ReI (nx U) (uVals U) a none (rIn (nx U n) st0 seen0).1 (rIn (nx U n) st0 seen0).2 ∧ RM σ0 v (rIn (nx U n) st0 seen0).1 (rIn (nx U n) st0 seen0).2 q.2.2 ∧ mSt (uVals U) (rIn (nx U n) st0 seen0).1 (rIn (nx U n) st0 seen0).2 ≤ M0) := by
  intro n v0 st0 seen0 σ1 M0 H0 R0 hM0
  obtain ⟨T, hT⟩ : ∃ T, T = rIn (nx U n) st0 seen0 := ⟨_, rfl⟩
  rw [← hT]
  have hxl : (nx U n).length ≤ mxl := Nat.le_trans (nx_len U n) hV
  refine loop_hs (nx U n) (fun i v σ => ∃ w st seen, v = [w, .int .i64 (i : Int)] ∧ ReI (nx U) (uVals U) a (some (n, (nx U n).drop i)) st seen ∧ RM σ0 w st seen σ ∧ mSt (uVals U) st seen ≤ M0 ∧ rIn ((nx U n).drop i) st seen = T) ?_ ?_ ⟨v0, st0, seen0, rfl, by simpa using H0, R0, hM0, by simp [hT]⟩
  ·rintro i x v σ hx ⟨w, st, seen, rfl, H, R, hM, hE⟩
   have hi := (List.getElem?_eq_some_iff.1 hx).1
   have hdr : (nx U n).drop i = x :: (nx U n).drop (i + 1) := by rw [List.drop_eq_getElem_cons hi, (List.getElem?_eq_some_iff.1 hx).2]
   rw [hdr] at H hE
   rw [rIn] at hE
   have a1 : A.lss (.int .i64 (i : Int)) (.int .i64 ((nx U n).length : Int)) = some (.bool true) := ix_lt hx
   have a2 : A.add (.int .i64 (i : Int)) (.int .i64 1) = some (.int .i64 ((i + 1 : Nat) : Int)) := ix_inc hx hxl
   have a3 : A.iaddr 1 (nslE 1 cInt (nx U n)) (.int .i64 (i : Int)) = some (.rp (cInt x)) := ix_forN hx
   have a4 := looked R.map x
   by_cases hk : x ∈ seen
   ·rw [if_pos hk] at hE
    refine ⟨_, σ, ?_, w, st, seen, rfl, H.skip hk, R, hM, hE⟩
    simp only [List.getD_cons_zero, List.getD_cons_succ, a1, a2, a3, bS, cT, dRp, p1_cInt, a4, decide_eq_true hk, notT, cF]
   ·rw [if_neg hk] at hE
    have hxV : x ∈ uVals U := nx_mem ((H.here n _ rfl).2 x (by simp))
    have H2 := H.push hk hxV
    have u1 := updated R.map hk
    let σ2 : Heap := σ.set σ0.length (.map (eS (seen ++ [x])))
    have g2 : ∀ j, j ≠ σ0.length → σ2[j]? = σ[j]? := fun j hj => List.getElem?_set_ne (by omega)
    have hlt := unS_lt hxV hk
    obtain ⟨w', σ3, e3, s3, l3, k3⟩ := (R.stk.other (σ' := σ2) (g2 _ (by omega))).app (x := x) (by have := H.few; unfold apM; omega)
    have c1 : (((A.cell (.int .i64 x)).bind fun v => some [v]).bind fun c32 => (A.splice 0 c32 [(AV.int .i64 0)]).bind fun c33 => some c33).bind (fun cs => some (AV.sl 1 (chunks 1 1 cs))) = some (.sl 1 [[.int .i64 x]]) := rfl
    have e3' : A.append 1 (140737488355328 / 8) w (.sl 1 [[.int .i64 x]]) (σ.set σ0.length (.map (eS (seen ++ [x])))) = some (w', σ3) := e3
    have hl2 : σ2.length = σ0.length + 2 := by simp [σ2, R.len]
    refine ⟨_, σ3, ?_, w', st ++ [x], seen ++ [x], rfl, H2, ⟨by omega, take_same R.pre fun j hj => by rw [k3 j (by omega), g2 j (by omega)], by rw [k3 _ (by omega)]; exact List.getElem?_set_self (by have := R.len; omega), s3⟩, by unfold mSt at hM ⊢; rw [List.length_append, List.length_singleton]; omega, hE⟩
    simp only [List.getD_cons_zero, List.getD_cons_succ, a1, a2, a3, bS, cT, dRp, p1_cInt, a4, decide_eq_false hk, notF, u1, c1, e3']
  ·rintro v σ ⟨w, st, seen, rfl, H, R, hM, hE⟩
   rw [List.drop_length] at H hE
   rw [rIn] at hE
   subst hE
   refine ⟨(.exit 2, [w, .int .i64 ((nx U n).length : Int)], σ), ?_, by simp, rfl, w, _, rfl, H.done, R, hM⟩
   simp only [List.getD_cons_zero, List.getD_cons_succ, ix_end, bS, cF]
 have outer : ∃ q, A.loop ((fun v6 s7 =>
   (A.lenS (v6.getD 0 AV.undef)).bind fun x9 =>
   (A.gtr x9 (AV.int .i64 0)).bind fun x10 =>
   A.cond x10 (
    (A.lenS (v6.getD 0 AV.undef)).bind fun x11 =>
    (A.sub x11 (AV.int .i64 1)).bind fun x12 =>
    (A.iaddr 1 (v6.getD 0 AV.undef) x12).bind fun x13 =>
    ((A.deref x13 s7).bind fun c14 => A.part1 0 c14).bind fun x15 =>
    (A.lenS (v6.getD 0 AV.undef)).bind fun x16 =>
    (A.sub x16 (AV.int .i64 1)).bind fun x17 =>
    (A.sliceS 1 (v6.getD 0 AV.undef) none (some x17) s7).bind fun x18 =>
    (A.look .i fm x15 AV.nsl s7).bind fun x19 =>
    (A.lenS x19).bind fun x20 =>
    (A.loop (fun v21 s22 =>
      (A.lss (v21.getD 1 AV.undef) x20).bind fun x24 =>
      A.cond x24 (
       (A.iaddr 1 x19 (v21.getD 1 AV.undef)).bind fun x25 =>
       ((A.deref x25 s22).bind fun c26 => A.part1 0 c26).bind fun x27 =>
       (A.look .i (AV.om σ0.length) x27 (AV.bool false) s22).bind fun x28 =>
       (A.not x28).bind fun x29 =>
       (A.cond x29 (
        (A.mupd .i (AV.om σ0.length) x27 (AV.bool true) s22).bind fun h31 =>
        ((((A.cell x27).bind fun v => some [v]).bind fun c32 => (A.splice 0 c32 [(AV.int .i64 0)]).bind fun c33 => some c33).bind fun cs => some (AV.sl 1 (chunks 1 1 cs))).bind fun x34 =>
        (A.append 1 (140737488355328 / 8) (v21.getD 0 AV.undef) x34 h31).bind fun r35 =>
        some ([r35.1], r35.2)) (
        some ([(v21.getD 0 AV.undef)], s22))).bind fun r30 =>
       (A.add (v21.getD 1 AV.undef) (AV.int .i64 1)).bind fun x36 =>
       some (AX.normal, [(r30.1.getD 0 AV.undef), x36], r30.2)) (
       some (AX.exit 2, [(v21.getD 0 AV.undef), (v21.getD 1 AV.undef)], s22))) [x18, (AV.int .i64 0)] s7).bind fun r37 =>
    bif r37.1 == AX.exit 2 then (
     some (AX.normal, [(r37.2.1.getD 0 AV.undef)], r37.2.2)) else
    none) (
    some (AX.exit 0, [(v6.getD 0 AV.undef)], s7)))) [.os (σ0.length + 1) 1 1 0 1] (σ0 ++ [.map [], .arr 1 1 [[.int .i64 a]]]) = some q ∧ (q.1 = .exit 0 ∧ q.2.2.length = σ0.length + 2 ∧ q.2.2.take σ0.length = σ0 ∧ q.2.2[σ0.length]? = some (.map (eS (reachL U a)))) := by
  refine loop_ms (fun N v σ => ∃ w st seen, v = [w] ∧ ReI (nx U) (uVals U) a none st seen ∧ RM σ0 w st seen σ ∧ mSt (uVals U) st seen ≤ N ∧ rGo (nx U) N st seen = reachL U a) ?_ (n := 2 * (uVals U).length + 1) ⟨_, [a], [], rfl, .start, ⟨by simp, by simp, by simp [eS], ⟨1, 0, [[.int .i64 a]], rfl, by simp, by simp, by simp [cInt]⟩⟩, by have := unS_le (uVals U) []; unfold mSt; simp; omega, rfl⟩
  rintro N v σ ⟨w, st, seen, rfl, H, R, hM, hE⟩
  have hlen := R.stk.len
  rcases List.eq_nil_or_concat st with rfl | ⟨st', n, rfl⟩
  ·right
   rw [rGo_nil] at hE
   subst hE
   refine ⟨(.exit 0, [w], σ), ?_, by simp, rfl, R.len, R.pre, R.map⟩
   have g0 : A.gtr (.int .i64 (([] : List Int).length : Int)) (.int .i64 0) = some (.bool false) := rfl
   simp only [List.getD_cons_zero, hlen, bS, g0, cF]
  ·left
   rw [List.concat_eq_append] at *
   have hst : st'.length + 1 ≤ (uVals U).length + 1 := by have := H.few; simp at this; omega
   obtain ⟨w', e1, s1⟩ := R.stk.front
   have hx : (st' ++ [n])[st'.length]? = some n := by simp
   obtain ⟨p, e2, e3⟩ := R.stk.at hx
   have H1 : ReI (nx U) (uVals U) a (some (n, nx U n)) st' seen := H.pop (fun x => by simp [or_comm]) (by simp)
   have hM1 : mSt (uVals U) st' seen ≤ N - 1 := by unfold mSt at hM ⊢; simp at hM; omega
   have hN : N = N - 1 + 1 := by unfold mSt at hM; simp at hM; omega
   obtain ⟨⟨q1, q2, σ3⟩, e4, rfl, w3, u, rfl, H3, R3, M3⟩ := inner n w' st' seen σ (N - 1) H1 ⟨R.len, R.pre, R.map, s1⟩ hM1
   rw [hN, rGo_snoc] at hE
   refine ⟨N - 1, [w3], σ3, by omega, ?_, w3, _, _, rfl, H3, R3, M3, hE⟩
   have g0 : A.gtr (.int .i64 ((st' ++ [n]).length : Int)) (.int .i64 0) = some (.bool true) := by
    simp only [A.gtr, if_true]; rw [decide_eq_true (by simp)]
   have g1 : A.sub (.int .i64 ((st' ++ [n]).length : Int)) (.int .i64 1) = some (.int .i64 (st'.length : Int)) := by
    simp only [A.sub, if_true]; rw [wrap64 (by unfold inI; simp; omega)]; simp
   simp only [List.getD_cons_zero, hlen, bS, g0, g1, cT, e2, e3, p1_cInt, e1, hlook, lenS_ns, e4, exE]
 obtain ⟨⟨qa, qv, σ4⟩, e4, rfl, h1, h2, h3⟩ := outer
 refine wrap_k2 hfo ?_
 unfold r_pick_reach
 have c1 : (((A.cell (.int .i64 a)).bind fun v => some [v]).bind fun c32 => (A.splice 0 c32 [(AV.int .i64 0)]).bind fun c33 => some c33).bind (fun cs => some (AV.sl 1 (chunks 1 1 cs))) = some (.sl 1 [[.int .i64 a]]) := rfl
 have l1 : ∀ (k : Nat → List (List AV) → Option (AV × Heap)), A.litK (.sl 1 [[.int .i64 a]]) k = k 1 [[.int .i64 a]] := fun k => rfl
 have hz : A.fin σ0 (.om σ0.length) σ4 = some (fmE (fun x => AV.int .i64 x) (fun x => AV.bool x) ((reachL U a).map fun x => (x, true)), σ0) := by
  unfold A.fin
  have h1' : List.length σ4 = σ0.length + 2 := h1
  rw [if_neg (fun e => by rw [e] at h1'; omega), if_pos h2]
  have h3' : σ4[σ0.length]? = some (.map (eS (reachL U a))) := h3
  simp only [A.frz, Nat.lt_irrefl, if_false, h3']
  rw [frzM_fz 7 (fun p hp => by obtain ⟨x, _, rfl⟩ := List.mem_map.1 hp; exact ⟨fz_int _ _, fz_bool _⟩), eS_eq]
  rfl
 have e0 : (σ0 ++ [Blk.map []]).length = σ0.length + 1 := by simp
 have e5 : (σ0 ++ [Blk.map []]) ++ [Blk.arr 1 1 [[.int .i64 a]]] = σ0 ++ [.map [], .arr 1 1 [[.int .i64 a]]] := by simp
 simp only [c1, bS, l1, List.length_singleton, e0, e5, e4, exE, hz]
end Go.Proofs.YtkdafecbdncmiaaDoor

namespace Go.Proofs.YtkdafecbdncmiaaDoor
set_option linter.unusedSectionVars false
set_option linter.unusedVariables false
set_option linter.unusedSimpArgs false
set_option maxRecDepth 100000
open HP
def onceF (l : List Int) : List Int := l.foldl (fun o n => if n ∈ o then o else o ++ [n]) []
theorem onceF_snoc (l : List Int) (x : Int) : onceF (l ++ [x]) = if x ∈ onceF l then onceF l else onceF l ++ [x] := by unfold onceF; rw [List.foldl_append]; rfl
theorem onceF_len (l : List Int) : (onceF l).length ≤ l.length := by
 have h : ∀ (l o : List Int), (l.foldl (fun o n => if n ∈ o then o else o ++ [n]) o).length ≤ o.length + l.length := by
  intro l
  induction l with
  | nil => intro o; simp
  | cons x l ih =>
   intro o
   rw [List.foldl_cons, List.length_cons]
   by_cases h : x ∈ o
   ·rw [if_pos h]; have := ih o; omega
   ·rw [if_neg h]; have := ih (o ++ [x]); rw [List.length_append, List.length_singleton] at this; omega
 have := h l []
 simpa [onceF] using this
theorem onceF_at {l : List Int} {i : Nat} {x : Int} (h : l[i]? = some x) : onceF (l.take (i + 1)) = if x ∈ onceF (l.take i) then onceF (l.take i) else onceF (l.take i) ++ [x] := by
 rw [List.take_add_one, h, Option.toList_some, onceF_snoc]
theorem onceF_tk (l : List Int) (i : Nat) : (onceF (l.take i)).length ≤ l.length := Nat.le_trans (onceF_len _) (List.length_take_le' _ _)
def evF (s : Nat) : Nat → List Int → List Int
 | _, [] => []
 | 0, x :: l => x :: evF s (s - 1) l
 | k + 1, _ :: l => evF s k l
theorem evF_drop (s : Nat) : ∀ (k : Nat) (l : List Int), evF s k l = evF s 0 (l.drop k)
 | 0, l => by simp
 | k + 1, [] => by simp [evF]
 | k + 1, x :: l => by rw [evF, evF_drop s k l]; simp
theorem evF_len (s : Nat) : ∀ (k : Nat) (l : List Int), (evF s k l).length ≤ l.length
 | _, [] => by simp [evF]
 | 0, x :: l => by rw [evF, List.length_cons, List.length_cons]; have := evF_len s (s - 1) l; omega
 | k + 1, x :: l => by rw [evF, List.length_cons]; have := evF_len s k l; omega
theorem frB_map (S : List Int) : frB (.map (eS S)) := by
 show ((eS S).all fun p => A.scal2 p.1 && A.scal2 p.2) = true
 rw [List.all_map, List.all_eq_true]; intro x _; rfl
theorem frB_one (x : Int) : ∀ g g' seg, (seg = [] ∨ frB (.arr g 1 seg)) → frB (.arr g' 1 (seg ++ [cInt x])) := frB_app (fun _ => rfl) [x]
section
variable {σ0 σ : Heap} {R : HP} {v : AV} {l : List Int}
theorem oneI (x : Int) : (((A.cell (.int .i64 x)).bind fun v => some [v]).bind fun c32 => (A.splice 0 c32 [(AV.int .i64 0)]).bind fun c33 => some c33).bind (fun cs => some (AV.sl 1 (chunks 1 1 cs))) = some (.sl 1 [[.int .i64 x]]) := rfl
theorem once_ks (hm : l.length + 1 ≤ apM) : KS (A.wrap true [(.s 1)] .k (A.ar1 r_pick_once)) [sl 1 cInt l] cInt 1 (onceF l) := by
 intro σ0 σ R H
 have hl : l.length ≤ mxl := by unfold apM at hm; unfold mxl; omega
 suffices h : ∃ b : AV × Heap, r_pick_once (sl 1 cInt l) σ = some b ∧ Hs frB σ0 b.2 (Iv b.1 (onceF l) * R) by
  obtain ⟨⟨v, s⟩, h1, h2⟩ := h
  exact ⟨v, s, wrap_eq rfl h1 (nn_k _), h2⟩
 unfold r_pick_once
 rw [lenS_sl, bS]
 refine loop_k (Q := fun q => ∃ w u, q.1 = .exit 0 ∧ q.2.1 = [w, u] ∧ Hs frB σ0 q.2.2 (Iv w (onceF l) * R)) (loop_hs l (fun i vs s => ∃ w, vs = [w, .int .i64 (i : Int)] ∧ Hs frB σ0 s (blk σ.length (.map (eS (onceF (l.take i)))) * (Iv w (onceF (l.take i)) * R))) ?_ ?_ ⟨.nsl, rfl, hs_new (slz H (.inl rfl)) (frB_map [])⟩) ?_
 ·rintro i x vs s hx ⟨w, rfl, K⟩
  have a1 : A.lss (.int .i64 (i : Int)) (.int .i64 (l.length : Int)) = some (.bool true) := ix_lt hx
  have a2 : A.add (.int .i64 (i : Int)) (.int .i64 1) = some (.int .i64 ((i + 1 : Nat) : Int)) := ix_inc hx hl
  have a3 : A.iaddr 1 (sl 1 cInt l) (.int .i64 (i : Int)) = some (.rp (cInt x)) := ix_for hx
  have a4 := looked (hs_get K).2 x
  rw [onceF_at hx]
  by_cases hk : x ∈ onceF (l.take i)
  ·rw [if_pos hk]
   refine ⟨_, s, ?_, w, rfl, K⟩
   simp only [List.getD_cons_zero, List.getD_cons_succ, a1, a2, a3, bS, cT, dRp, p1_cInt, a4, decide_eq_true hk, notT, cF]
  ·rw [if_neg hk]
   have u1 := updated (hs_get K).2 hk
   have K1 := hs_set K (frB_map (onceF (l.take i) ++ [x]))
   obtain ⟨w', s', e1, K2⟩ := iv_app (x := x) (frB_one x) (by have := onceF_tk l i; omega) (hs_eq (show _ = Iv w (onceF (l.take i)) * (blk σ.length (.map (eS (onceF (l.take i) ++ [x]))) * R) by ac_rfl) K1)
   refine ⟨_, s', ?_, w', rfl, hs_eq (by ac_rfl) K2⟩
   simp only [List.getD_cons_zero, List.getD_cons_succ, a1, a2, a3, bS, cT, dRp, p1_cInt, a4, decide_eq_false hk, notF, u1, oneI, e1]
 ·rintro vs s ⟨w, rfl, K⟩
  rw [List.take_length] at K
  refine ⟨(.exit 0, [w, .int .i64 (l.length : Int)], s), ?_, by simp, w, _, rfl, rfl, hs_drop K⟩
  simp only [List.getD_cons_zero, List.getD_cons_succ, ix_end, bS, cF]
 ·rintro ⟨q1, q2, q3⟩ ⟨w, u, rfl, rfl, K⟩
  exact ⟨(w, q3), by simp only [exE, List.getD_cons_zero], K⟩
theorem flt_at {p : Int → Bool} {l : List Int} {i : Nat} {x : Int} (h : l[i]? = some x) : (l.take (i + 1)).filter p = if p x = true then (l.take i).filter p ++ [x] else (l.take i).filter p := by
 rw [List.take_add_one, h, Option.toList_some, List.filter_append]
 cases hp : p x <;> simp [hp]
theorem flt_tk {p : Int → Bool} (l : List Int) (i : Nat) : ((l.take i).filter p).length ≤ l.length := Nat.le_trans (List.length_filter_le _ _) (List.length_take_le' _ _)
def everyF (l : List Int) (s f : Int) : List Int := evF s.toNat (f - 1).toNat l
theorem everyF_len (l : List Int) (s f : Int) : (everyF l s f).length ≤ l.length := evF_len _ _ _
theorem every_ks {st f : Int} (hs : 1 ≤ st) (hs2 : st ≤ 1000000) (hf : 1 ≤ f) (hf2 : f ≤ 1000000) (hm : l.length + 1 ≤ apM) : KS (A.wrap true [(.s 1)] .k (A.ar3 r_pick_every)) [sl 1 cInt l, .int .i64 st, .int .i64 f] cInt 1 (everyF l st f) := by
 intro σ0 σ R H
 have hl : l.length ≤ mxl := by unfold apM at hm; unfold mxl; omega
 have hl' := hm
 unfold apM at hl'
 suffices h : ∃ b : AV × Heap, r_pick_every (sl 1 cInt l) (.int .i64 st) (.int .i64 f) σ = some b ∧ Hs frB σ0 b.2 (Iv b.1 (everyF l st f) * R) by
  obtain ⟨⟨v, s⟩, h1, h2⟩ := h
  exact ⟨v, s, wrap_eq rfl h1 (nn_k _), h2⟩
 obtain ⟨k, hk⟩ : ∃ k, k = (f - 1).toNat := ⟨_, rfl⟩
 obtain ⟨s0, hs0⟩ : ∃ s0, s0 = st.toNat := ⟨_, rfl⟩
 unfold everyF
 rw [← hk, ← hs0]
 unfold r_pick_every
 rw [show A.sub (.int .i64 f) (.int .i64 1) = some (.int .i64 (k : Int)) by rw [aSub, wrap64 (by unfold inI; omega)]; congr 2; omega, bS]
 refine loop_k (Q := fun q => ∃ w u, q.1 = .exit 0 ∧ q.2.1 = [w, u] ∧ Hs frB σ0 q.2.2 (Iv w (evF s0 k l) * R)) (loop_ms (fun N vs s => ∃ (w : AV) (i : Nat) (o : List Int), vs = [w, .int .i64 (i : Int)] ∧ l.length - i ≤ N ∧ i ≤ l.length + 2000000 ∧ o ++ evF s0 0 (l.drop i) = evF s0 k l ∧ Hs frB σ0 s (Iv w o * R)) ?_ (n := l.length) ⟨.nsl, k, [], rfl, by omega, by omega, (evF_drop s0 k l).symm, slz H (.inl rfl)⟩) ?_
 ·rintro N vs s ⟨w, i, o, rfl, hN, hi, ho, K⟩
  by_cases hil : i < l.length
  ·left
   obtain ⟨x, hx⟩ : ∃ x, l[i]? = some x := ⟨_, List.getElem?_eq_getElem hil⟩
   have hd : l.drop i = x :: l.drop (i + 1) := by rw [List.drop_eq_getElem_cons hil, (List.getElem?_eq_some_iff.1 hx).2]
   have hol : o.length + 1 ≤ apM := by
    have h1 := congrArg List.length ho
    have h2 := evF_len s0 k l
    rw [List.length_append] at h1
    omega
   rw [hd, evF, evF_drop, List.drop_drop] at ho
   have a1 : A.lss (.int .i64 (i : Int)) (.int .i64 (l.length : Int)) = some (.bool true) := ix_lt hx
   have a2 : A.add (.int .i64 (i : Int)) (.int .i64 st) = some (.int .i64 ((i + s0 : Nat) : Int)) := by rw [aAdd, wrap64 (by unfold inI; omega)]; congr 2; omega
   have a3 : A.iaddr 1 (sl 1 cInt l) (.int .i64 (i : Int)) = some (.rp (cInt x)) := ix_for hx
   obtain ⟨w', s', e1, K2⟩ := iv_app (x := x) (frB_one x) hol K
   refine ⟨N - 1, _, s', by omega, ?_, w', i + s0, o ++ [x], rfl, by omega, by omega, ?_, K2⟩
   ·simp only [List.getD_cons_zero, List.getD_cons_succ, lenS_sl, a1, a2, a3, bS, cT, dRp, p1_cInt, oneI, e1]
   ·rw [List.append_assoc, List.singleton_append]
    rw [show i + 1 + (s0 - 1) = i + s0 by omega] at ho
    exact ho
  ·right
   rw [List.drop_of_length_le (by omega)] at ho
   rw [show evF s0 0 [] = [] by rw [evF], List.append_nil] at ho
   subst ho
   refine ⟨(.exit 0, [w, .int .i64 (i : Int)], s), ?_, by simp, w, _, rfl, rfl, K⟩
   simp only [List.getD_cons_zero, List.getD_cons_succ, lenS_sl, bS, aLss, decide_eq_false (show ¬ ((i : Int) < (l.length : Int)) by omega), cF]
 ·rintro ⟨q1, q2, q3⟩ ⟨w, u, rfl, rfl, K⟩
  exact ⟨(w, q3), by simp only [exE, List.getD_cons_zero], K⟩
end
end Go.Proofs.YtkdafecbdncmiaaDoor

namespace Go.Proofs.YtkdafecbdncmiaaDoor
set_option linter.unusedSectionVars false
set_option linter.unusedVariables false
set_option linter.unusedSimpArgs false
set_option maxRecDepth 100000
open HP
def btwF (U : List Int) (f t : Int) : List Int := if t < f then (U.filter fun n => withinB n (min f t) (max f t)).reverse else U.filter fun n => withinB n (min f t) (max f t)
def pcomb (U : List Int) (gr pr : Int → List Int) (k f t : Int) (ras : List (List Int)) : List Int :=
 if k = 1 then btwF U f t else if k = 2 then gr f else if k = 3 then pr f else if k = 4 then onceF ras.flatten
 else if k = 5 then (ras.getD 0 []).filter fun x => !decide (x ∈ ras.getD 1 [])
 else if k = 6 then everyF (ras.getD 0 []) 2 1 else if k = 7 then everyF (ras.getD 0 []) 2 2
 else if k = 8 then (ras.getD 0 []).reverse else everyF (ras.getD 0 []) f t
section
variable (U : List Int) (gs : List (Int × PickD)) (ps : List (Int × List Int))
def uF : Nat → PickD → List Int
 | 0, _ => []
 | n + 1, p => pcomb U (fun f => match tfind f gs with | some g => uF n g | none => []) (fun f => (tfind f ps).getD []) p.kind p.frm p.to (p.args.map (uF n))
def Rk : Nat → PickD → Prop
 | 0, _ => False
 | n + 1, p => partF p.kind p.frm p.to p.args.length = 0 ∧ p.args.length ≤ 200 ∧ (∀ a ∈ p.args, Rk n a) ∧ (p.kind = 2 → ∃ g, tfind p.frm gs = some g ∧ Rk n g) ∧ (p.kind = 3 → ∃ l, tfind p.frm ps = some l)
theorem Rk_up : ∀ {n : Nat} {p : PickD}, Rk gs ps n p → ∀ {m : Nat}, n ≤ m → Rk gs ps m p
 | 0, p, h, m, _ => h.elim
 | n + 1, p, h, 0, hm => by omega
 | n + 1, p, h, m + 1, hm => by
  rw [Rk] at h ⊢
  refine ⟨h.1, h.2.1, fun a ha => Rk_up (h.2.2.1 a ha) (by omega), fun hk => ?_, h.2.2.2.2⟩
  obtain ⟨g, h1, h2⟩ := h.2.2.2.1 hk
  exact ⟨g, h1, Rk_up h2 (by omega)⟩
theorem uF_up : ∀ {n : Nat} {p : PickD}, Rk gs ps n p → ∀ {m : Nat}, n ≤ m → uF U gs ps m p = uF U gs ps n p
 | 0, p, h, m, _ => h.elim
 | n + 1, p, h, 0, hm => by omega
 | n + 1, p, h, m + 1, hm => by
  rw [Rk] at h
  rw [uF, uF]
  have h1 : p.args.map (uF U gs ps m) = p.args.map (uF U gs ps n) := List.map_congr_left fun a ha => uF_up (h.2.2.1 a ha) (by omega)
  rw [h1]
  by_cases hk : p.kind = 2
  ·obtain ⟨g, h2, h3⟩ := h.2.2.2.1 hk
   unfold pcomb
   rw [if_neg (show ¬ p.kind = 1 by omega), if_neg (show ¬ p.kind = 1 by omega), if_pos hk, if_pos hk]
   simp only [h2]
   exact uF_up h3 (by omega)
  ·unfold pcomb
   by_cases h1 : p.kind = 1
   ·rw [if_pos h1, if_pos h1]
   ·rw [if_neg h1, if_neg h1, if_neg hk, if_neg hk]
end
section
variable {σ0 σ : Heap} {R : HP} {va : AV} {ls : List (List Int)}
theorem rowAt (H : Hs anyB σ0 σ (Sl RowE 1 va ls * R)) {i : Nat} {x : List Int} (hx : ls[i]? = some x) : ∃ p h Q, A.iaddr 1 va (.int .i64 (i : Int)) = some p ∧ Hs anyB σ0 σ (Iv h x * (Q * R)) ∧ (∀ σ' R', Hs anyB σ0 σ' (Q * R') → A.deref p σ' = some [h]) ∧ ∀ σ' R', Hs anyB σ0 σ' (Iv h x * (Q * R')) → Hs anyB σ0 σ' (Sl RowE 1 va ls * R') := by
 obtain ⟨p, F, e, h1, hC, K, back⟩ := sl_cell H hx
 obtain ⟨h, rfl, K1⟩ := rowE (hs_eq (show F e * (RowE e x * R) = RowE e x * (F e * R) by ac_rfl) K)
 refine ⟨p, h, F [h], h1, K1, fun σ' R' K2 => hC.ld K2, fun σ' R' K2 => ?_⟩
 have K3 := back (e := [h]) (y := x) (hs_eq (show RowE [h] x * (F [h] * R') = F [h] * (RowE [h] x * R') by ac_rfl) (rowE_of K2))
 rw [show ls.set i x = ls from by
  obtain ⟨hi, h2⟩ := List.getElem?_eq_some_iff.1 hx
  rw [← h2]; exact List.set_getElem_self hi] at K3
 exact K3
abbrev eB (m : List (Int × Bool)) : List (AV × AV) := m.map fun p => (AV.int .i64 p.1, AV.bool p.2)
theorem updB {id : Nat} {m : List (Int × Bool)} (h : σ[id]? = some (.map (eB m))) (k : Int) (b : Bool) : A.mupd .i (.om id) (.int .i64 k) (.bool b) σ = some (σ.set id (.map (eB (tupd k b m)))) := by
 simp only [A.mupd, A.keyOk, cond_true, h]
 rw [show AV.bool b = (fun x : Bool => AV.bool x) b from rfl, upd_t (eK := fun x : Int => AV.int .i64 x) (eV := fun x : Bool => AV.bool x) (eqk_int _)]
 rfl
theorem fm_lookB (m : List (Int × Bool)) (k : Int) : A.look .i (fmE (fun x => AV.int .i64 x) (fun x => AV.bool x) m) (.int .i64 k) (.bool false) [] = some (.bool ((tfind k m).getD false)) := fm_lookT (ek := .i) (eK := fun x => AV.int .i64 x) (eV := fun x => AV.bool x) (eqk_int _) k false rfl
theorem less_call {b id : Nat} {m : List (Int × Bool)} (hb : σ[b]? = some (.box [.om id])) (hm : σ[id]? = some (.map (eB m))) (k : Int) : m_pick_finder_find_fn1 [.int .i64 k, .op b 0] σ = some (.bool ((tfind k m).getD false), σ) := by
 have hf : A.frz σ 0 8 (.op b 0) = some (.rp [fmE (fun x => AV.int .i64 x) (fun x => AV.bool x) m]) := by
  simp only [A.frz, Nat.not_lt_zero, if_false, hb, List.drop_zero, A.frzL', hm]
  rw [frzM_fz 6 (fun p hp => by obtain ⟨x, _, rfl⟩ := List.mem_map.1 hp; exact ⟨fz_int _ _, fz_bool _⟩)]
  rfl
 refine wrap_own (args' := [.int .i64 k, .rp [fmE (fun x => AV.int .i64 x) (fun x => AV.bool x) m]]) rfl ?_ rfl ?_ rfl
 ·have h3 : A.frz σ 0 8 (.int .i64 k) = some (.int .i64 k) := fz_int _ _ σ 0 8
  simp only [A.frzL, hf, h3, Option.bind_some]
  rfl
 ·refine wrap_eq rfl ?_ rfl
  show r_pick_finder_find_fn1 (.int .i64 k) (.rp [fmE (fun x => AV.int .i64 x) (fun x => AV.bool x) m]) [] = _
  unfold r_pick_finder_find_fn1
  rw [dRp, bS, show A.part1 0 [fmE (fun x => AV.int .i64 x) (fun x => AV.bool x) m] = some (fmE (fun x => AV.int .i64 x) (fun x => AV.bool x) m) from rfl, bS]
  rw [fm_lookB, bS]
  rfl
end
end Go.Proofs.YtkdafecbdncmiaaDoor

namespace Go.Proofs.YtkdafecbdncmiaaDoor
set_option linter.unusedSectionVars false
set_option linter.unusedVariables false
set_option linter.unusedSimpArgs false
set_option maxRecDepth 100000
open HP
abbrev eP (gs : List (Int × PickD)) : List (AV × AV) := gs.map fun p => (AV.int .i64 p.1, AV.agg (cPick p.2))
abbrev eL (ps : List (Int × List Int)) : List (AV × AV) := ps.map fun p => (AV.int .i64 p.1, sl 1 cInt p.2)
abbrev eKn (kn : List (Int × (AV × List Int))) : List (AV × AV) := kn.map fun p => (AV.int .i64 p.1, p.2.1)
def knR : List (Int × (AV × List Int)) → HP
 | [] => emp
 | e :: r => Iv e.2.1 e.2.2 * knR r
structure FdC where
 b : Nat
 g : Nat
 p : Nat
 k : Nat
 vu : AV
 U : List Int
 gs : List (Int × PickD)
 ps : List (Int × List Int)
def FdP (C : FdC) (kn : List (Int × (AV × List Int))) : HP := blk C.b (.box [C.vu, .om C.g, .om C.p, .om C.k]) * (Iv C.vu C.U * (blk C.g (.map (eP C.gs)) * (blk C.p (.map (eL C.ps)) * (blk C.k (.map (eKn kn)) * knR kn))))
def KnOk (C : FdC) (kn : List (Int × (AV × List Int))) : Prop := ∀ e ∈ kn, ∃ g m, tfind e.1 C.gs = some g ∧ Rk C.gs C.ps m g ∧ e.2.2 = uF C.U C.gs C.ps m g
theorem tfind_mem {ν : Type} {k : Int} {x : ν} : ∀ {l : List (Int × ν)}, tfind k l = some x → (k, x) ∈ l
 | [], h => by simp [tfind] at h
 | (a, y) :: l, h => by
  rw [tfind] at h
  by_cases hk : k = a
  ·rw [if_pos hk] at h; injection h with h; subst h; subst hk; exact List.mem_cons_self
  ·rw [if_neg hk] at h; exact List.mem_cons_of_mem _ (tfind_mem h)
theorem tupd_mem {ν : Type} {k : Int} {x : ν} {e : Int × ν} : ∀ {l : List (Int × ν)}, e ∈ tupd k x l → e = (k, x) ∨ e ∈ l
 | [], h => by simp [tupd] at h; exact .inl h
 | (a, y) :: l, h => by
  rw [tupd] at h
  by_cases hk : k = a
  ·rw [if_pos hk] at h
   rcases List.mem_cons.1 h with rfl | h
   ·subst hk; exact .inl rfl
   ·exact .inr (List.mem_cons_of_mem _ h)
  ·rw [if_neg hk] at h
   rcases List.mem_cons.1 h with rfl | h
   ·exact .inr List.mem_cons_self
   ·rcases tupd_mem h with h | h
    ·exact .inl h
    ·exact .inr (List.mem_cons_of_mem _ h)
theorem KnOk.put {C : FdC} {kn : List (Int × (AV × List Int))} (h : KnOk C kn) {k : Int} {v : AV} {g : PickD} {m : Nat} (h1 : tfind k C.gs = some g) (h2 : Rk C.gs C.ps m g) : KnOk C (tupd k (v, uF C.U C.gs C.ps m g) kn) := by
 intro e he
 rcases tupd_mem he with rfl | he
 ·exact ⟨g, m, h1, h2, rfl⟩
 ·exact h e he
theorem knR_get {k : Int} {x : AV × List Int} : ∀ {kn : List (Int × (AV × List Int))}, tfind k kn = some x → ∃ Q, knR kn = Iv x.1 x.2 * Q
 | [], h => by simp [tfind] at h
 | (a, y) :: l, h => by
  rw [tfind] at h
  by_cases hk : k = a
  ·rw [if_pos hk] at h; injection h with h; subst h; exact ⟨_, rfl⟩
  ·rw [if_neg hk] at h
   obtain ⟨Q, hQ⟩ := knR_get h
   exact ⟨Iv y.1 y.2 * Q, by rw [knR, hQ]; ac_rfl⟩
section
variable {σ0 σ : Heap} {R : HP}
theorem knR_put {k : Int} {v : AV} {l : List Int} : ∀ {kn : List (Int × (AV × List Int))} {R : HP}, Hs anyB σ0 σ (Iv v l * (knR kn * R)) → Hs anyB σ0 σ (knR (tupd k (v, l) kn) * R)
 | [], R, H => hs_eq (show Iv v l * (knR [] * R) = Iv v l * knR [] * R from (star_assoc _ _ _).symm) H
 | (a, y) :: r, R, H => by
  rw [tupd]
  by_cases hk : k = a
  ·rw [if_pos hk, knR]
   exact hs_drop (hs_eq (show Iv v l * (knR ((a, y) :: r) * R) = Iv y.1 y.2 * (Iv v l * knR r * R) by rw [knR]; ac_rfl) H)
  ·rw [if_neg hk, knR]
   have := knR_put (k := k) (v := v) (l := l) (kn := r) (R := Iv y.1 y.2 * R) (hs_eq (by rw [knR]; ac_rfl) H)
   exact hs_eq (by ac_rfl) this
variable {C : FdC} {kn : List (Int × (AV × List Int))}
theorem fd_box (H : Hs anyB σ0 σ (FdP C kn * R)) : σ[C.b]? = some (.box [C.vu, .om C.g, .om C.p, .om C.k]) := (hs_get (hs_eq (by rw [FdP, star_assoc]) H)).2
theorem fd_units (H : Hs anyB σ0 σ (FdP C kn * R)) : Hs anyB σ0 σ (Iv C.vu C.U * (blk C.b (.box [C.vu, .om C.g, .om C.p, .om C.k]) * (blk C.g (.map (eP C.gs)) * (blk C.p (.map (eL C.ps)) * (blk C.k (.map (eKn kn)) * (knR kn * R)))))) := hs_eq (by rw [FdP]; ac_rfl) H
theorem fd_gs (H : Hs anyB σ0 σ (FdP C kn * R)) : σ[C.g]? = some (.map (eP C.gs)) := (hs_get (hs_eq (show _ = blk C.g (.map (eP C.gs)) * (Iv C.vu C.U * (blk C.b (.box [C.vu, .om C.g, .om C.p, .om C.k]) * (blk C.p (.map (eL C.ps)) * (blk C.k (.map (eKn kn)) * (knR kn * R))))) by ac_rfl) (fd_units H))).2
theorem fd_ps (H : Hs anyB σ0 σ (FdP C kn * R)) : σ[C.p]? = some (.map (eL C.ps)) := (hs_get (hs_eq (show _ = blk C.p (.map (eL C.ps)) * (Iv C.vu C.U * (blk C.b (.box [C.vu, .om C.g, .om C.p, .om C.k]) * (blk C.g (.map (eP C.gs)) * (blk C.k (.map (eKn kn)) * (knR kn * R))))) by ac_rfl) (fd_units H))).2
theorem fd_known (H : Hs anyB σ0 σ (FdP C kn * R)) : Hs anyB σ0 σ (blk C.k (.map (eKn kn)) * (knR kn * (Iv C.vu C.U * (blk C.b (.box [C.vu, .om C.g, .om C.p, .om C.k]) * (blk C.g (.map (eP C.gs)) * (blk C.p (.map (eL C.ps)) * R)))))) := hs_eq (by ac_rfl) (fd_units H)
theorem fd_of (H : Hs anyB σ0 σ (blk C.k (.map (eKn kn)) * (knR kn * (Iv C.vu C.U * (blk C.b (.box [C.vu, .om C.g, .om C.p, .om C.k]) * (blk C.g (.map (eP C.gs)) * (blk C.p (.map (eL C.ps)) * R))))))) : Hs anyB σ0 σ (FdP C kn * R) := hs_eq (by rw [FdP]; ac_rfl) H
theorem fd_0 (H : Hs anyB σ0 σ (FdP C kn * R)) : ((A.deref (.op C.b 0) σ).bind fun c => A.part1 0 c) = some C.vu := by
 simp only [A.deref, fd_box H, Option.bind_some, List.drop_zero, A.part1, List.getElem?_cons_zero]
 exact cell_iv (fd_units H)
theorem fd_1 (H : Hs anyB σ0 σ (FdP C kn * R)) : ((A.deref (.op C.b 1) σ).bind fun c => A.part1 0 c) = some (.om C.g) := by simp only [A.deref, fd_box H, Option.bind_some]; rfl
theorem fd_2 (H : Hs anyB σ0 σ (FdP C kn * R)) : ((A.deref (.op C.b 2) σ).bind fun c => A.part1 0 c) = some (.om C.p) := by simp only [A.deref, fd_box H, Option.bind_some]; rfl
theorem fd_3 (H : Hs anyB σ0 σ (FdP C kn * R)) : ((A.deref (.op C.b 3) σ).bind fun c => A.part1 0 c) = some (.om C.k) := by simp only [A.deref, fd_box H, Option.bind_some]; rfl
theorem fd_lg (H : Hs anyB σ0 σ (FdP C kn * R)) {f : Int} {g : PickD} (h : tfind f C.gs = some g) (z : AV) : A.look .i (.om C.g) (.int .i64 f) z σ = some (.agg (cPick g)) := by
 simp only [A.look, A.keyOk, cond_true, A.entries, fd_gs H, Option.bind_some]
 rw [find_t (eK := fun x : Int => AV.int .i64 x) (eV := fun x : PickD => AV.agg (cPick x)) (eqk_int _), h]
 rfl
theorem fd_lp (H : Hs anyB σ0 σ (FdP C kn * R)) {f : Int} {l : List Int} (h : tfind f C.ps = some l) (z : AV) : A.look .i (.om C.p) (.int .i64 f) z σ = some (sl 1 cInt l) := by
 simp only [A.look, A.keyOk, cond_true, A.entries, fd_ps H, Option.bind_some]
 rw [find_t (eK := fun x : Int => AV.int .i64 x) (eV := fun x : List Int => sl 1 cInt x) (eqk_int _), h]
 rfl
theorem fd_lk (H : Hs anyB σ0 σ (FdP C kn * R)) (f : Int) : A.lookOk .i (.om C.k) (.int .i64 f) .nsl σ = some (.tup [((tfind f kn).map (·.1)).getD .nsl, .bool (tfind f kn).isSome]) := by
 simp only [A.lookOk, A.keyOk, cond_true, A.entries, (hs_get (fd_known H)).2, Option.bind_some]
 rw [find_t (eK := fun x : Int => AV.int .i64 x) (eV := fun x : AV × List Int => x.1) (eqk_int _)]
 cases tfind f kn <;> rfl
theorem fd_up (H : Hs anyB σ0 σ (FdP C kn * R)) (f : Int) (v : AV) (l : List Int) : A.mupd .i (.om C.k) (.int .i64 f) v σ = some (σ.set C.k (.map (eKn (tupd f (v, l) kn)))) := by
 simp only [A.mupd, A.keyOk, cond_true, (hs_get (fd_known H)).2]
 rw [show v = (fun x : AV × List Int => x.1) (v, l) from rfl, upd_t (eK := fun x : Int => AV.int .i64 x) (eV := fun x : AV × List Int => x.1) (eqk_int _)]
 rfl
theorem once_s {v : AV} {l : List Int} (hm : l.length + 1 ≤ apM) (H : Hs anyB σ0 σ (Iv v l * R)) : ∃ v' σ', m_pick_once [v] σ = some (v', σ') ∧ Hs anyB σ0 σ' (Iv v' (onceF l) * (Iv v l * R)) :=
 lentK (B := anyB) (fun _ _ => trivial) (ain := [.s 1]) (r := A.ar1 r_pick_once) (as0 := [v]) (ts := [sl 1 cInt l]) ⟨lt_slf fz_cInt H, trivial⟩ (once_ks hm) H
theorem every_s {v : AV} {l : List Int} {st f : Int} (hs : 1 ≤ st) (hs2 : st ≤ 1000000) (hf : 1 ≤ f) (hf2 : f ≤ 1000000) (hm : l.length + 1 ≤ apM) (H : Hs anyB σ0 σ (Iv v l * R)) : ∃ v' σ', m_pick_every [v, .int .i64 st, .int .i64 f] σ = some (v', σ') ∧ Hs anyB σ0 σ' (Iv v' (everyF l st f) * (Iv v l * R)) :=
 lentK (B := anyB) (fun _ _ => trivial) (ain := [.s 1]) (r := A.ar3 r_pick_every) (as0 := [v, .int .i64 st, .int .i64 f]) (ts := [sl 1 cInt l, .int .i64 st, .int .i64 f]) ⟨lt_slf fz_cInt H, lt_int st, lt_int f, trivial⟩ (every_ks hs hs2 hf hf2 hm) H
theorem less_s {v0 : AV} {l0 : List Int} {b id : Nat} {m : List (Int × Bool)} (hl : l0.length < 1000000) (H : Hs anyB σ0 σ (Iv v0 l0 * (blk b (.box [.om id]) * (blk id (.map (eB m)) * R)))) :
  ∃ v' σ', m_slices_DeleteFunc_int (A.tab (fun _ _ => none) [(77, m_pick_finder_find_fn1)]) [v0, .fn 77 [.op b 0]] σ = some (v', σ') ∧ Hs anyB σ0 σ' (Iv v' (l0.filter fun x => !((tfind x m).getD false)) * (blk b (.box [.om id]) * (blk id (.map (eB m)) * R))) := by
 have hcall : ∀ x ∈ l0, ∀ s, Hs anyB σ0 s (blk b (.box [.om id]) * (blk id (.map (eB m)) * R)) → A.callv (A.tab (fun _ _ => none) [(77, m_pick_finder_find_fn1)]) (.fn 77 [.op b 0]) [.int .i64 x] s = some (.bool ((tfind x m).getD false), s) := fun x _ s K => less_call (hs_get K).2 (hs_get (hs_eq (show _ = blk id (.map (eB m)) * (blk b (.box [.om id]) * R) by ac_rfl) K)).2 x
 obtain ⟨_, hb⟩ := hs_get (hs_drop H)
 obtain ⟨_, hm⟩ := hs_get (hs_eq (show _ = blk id (.map (eB m)) * (blk b (.box [.om id]) * R) by ac_rfl) (hs_drop H))
 have hf : A.frz σ 0 8 (.fn 77 [.op b 0]) = some (.fn 77 [.rp [fmE (fun x => AV.int .i64 x) (fun x => AV.bool x) m]]) := by
  simp only [A.frz, A.frzL, Nat.not_lt_zero, if_false, hb, List.drop_zero, A.frzL', hm]
  rw [frzM_fz 6 (fun p hp => by obtain ⟨x, _, rfl⟩ := List.mem_map.1 hp; exact ⟨fz_int _ _, fz_bool _⟩)]
  rfl
 have hix : m_slices_IndexFunc_int (A.tab (fun _ _ => none) [(77, m_pick_finder_find_fn1)]) [v0, .fn 77 [.op b 0]] σ = some (.int .i64 (idxI (fun x => (tfind x m).getD false) l0), σ) := by
  have nil1 : l0 = [] → m_slices_IndexFunc_int (A.tab (fun _ _ => none) [(77, m_pick_finder_find_fn1)]) [sl 1 cInt ([] : List Int), .fn 77 [.op b 0]] σ = some (.int .i64 (idxI (fun x => (tfind x m).getD false) l0), σ) := fun e => by
   rw [e]
   exact m_slices_IndexFunc_int_eq _ [] (by unfold mxl; simp) _ _ _ σ (fun x hx => by cases hx)
  rcases slf_cases H with ⟨h0, rfl | rfl, _⟩ | ⟨id0, g0, rfl, K0⟩
  ·exact (wrap_nn rfl rfl rfl : m_slices_IndexFunc_int (A.tab (fun _ _ => none) [(77, m_pick_finder_find_fn1)]) [.nsl, .fn 77 [.op b 0]] σ = m_slices_IndexFunc_int (A.tab (fun _ _ => none) [(77, m_pick_finder_find_fn1)]) [sl 1 cInt ([] : List Int), .fn 77 [.op b 0]] σ).trans (nil1 h0)
  ·exact (wrap_nn rfl rfl rfl : m_slices_IndexFunc_int (A.tab (fun _ _ => none) [(77, m_pick_finder_find_fn1)]) [.ez, .fn 77 [.op b 0]] σ = m_slices_IndexFunc_int (A.tab (fun _ _ => none) [(77, m_pick_finder_find_fn1)]) [sl 1 cInt ([] : List Int), .fn 77 [.op b 0]] σ).trans (nil1 h0)
  have h2 : A.frz σ 0 8 (.os id0 g0 1 0 l0.length) = some (sl 1 cInt l0) := frz_os fz_cInt (hs_get K0).2 (Nat.not_lt_zero _) 7
  refine wrap_own (args' := [sl 1 cInt l0, .fn 77 [.rp [fmE (fun x => AV.int .i64 x) (fun x => AV.bool x) m]]]) rfl (by simp only [A.frzL, h2, hf, Option.bind_some]; rfl) rfl (m_slices_IndexFunc_int_eq _ l0 (by unfold mxl; omega) _ _ _ [] fun x hx => ?_) rfl
  show m_pick_finder_find_fn1 [.int .i64 x, .rp [fmE (fun x => AV.int .i64 x) (fun x => AV.bool x) m]] [] = _
  refine wrap_eq rfl ?_ rfl
  show r_pick_finder_find_fn1 (.int .i64 x) (.rp [fmE (fun x => AV.int .i64 x) (fun x => AV.bool x) m]) [] = _
  unfold r_pick_finder_find_fn1
  rw [dRp, bS, show A.part1 0 [fmE (fun x => AV.int .i64 x) (fun x => AV.bool x) m] = some (fmE (fun x => AV.int .i64 x) (fun x => AV.bool x) m) from rfl, bS]
  rw [fm_lookB, bS]
  rfl
 obtain ⟨v', σ', e1, K⟩ := df_I (fnv := .fn 77 [.op b 0]) (p := fun x => (tfind x m).getD false) hl (fun id g n => by simp [A.gen]) hix hcall H
 refine ⟨v', σ', ?_, K⟩
 unfold m_slices_DeleteFunc_int A.wrap
 rw [Bool.false_and, cond_false, show ∀ l, A.nnL [] l = l from fun l => by simp [A.nnL]]
 show (r_slices_DeleteFunc_int _ v0 (.fn 77 [.op b 0]) σ).map _ = _
 rw [e1]
 simp [nn_k]
end
end Go.Proofs.YtkdafecbdncmiaaDoor

namespace Go.Proofs.YtkdafecbdncmiaaDoor
set_option linter.unusedSectionVars false
set_option linter.unusedVariables false
set_option linter.unusedSimpArgs false
set_option maxRecDepth 100000
open HP
theorem minI (a b : Int) : A.min (.int .i64 a) (.int .i64 b) = some (.int .i64 (min a b)) := by
 show some (AV.int .i64 (if b < a then b else a)) = _
 congr 2; omega
theorem maxI (a b : Int) : A.max (.int .i64 a) (.int .i64 b) = some (.int .i64 (max a b)) := by
 show some (AV.int .i64 (if b > a then b else a)) = _
 congr 2; omega
theorem k_t {k j : Int} (h : k = j) : A.eql .i (.int .i64 k) (.int .i64 j) = some (.bool true) := by rw [aEq, decide_eq_true h]
theorem k_f {k j : Int} (h : k ≠ j) : A.eql .i (.int .i64 k) (.int .i64 j) = some (.bool false) := by rw [aEq, decide_eq_false h]
def lessM (l : List Int) : List (Int × Bool) := l.foldl (fun m x => tupd x true m) []
theorem lessM_snoc (l : List Int) (x : Int) : lessM (l ++ [x]) = tupd x true (lessM l) := by unfold lessM; rw [List.foldl_append]; rfl
theorem lessM_find (k : Int) (l : List Int) : (tfind k (lessM l)).getD false = decide (k ∈ l) := by
 have h : ∀ (l : List Int) (m : List (Int × Bool)), (tfind k (l.foldl (fun m x => tupd x true m) m)).getD false = (decide (k ∈ l) || (tfind k m).getD false) := by
  intro l
  induction l with
  | nil => intro m; simp
  | cons x l ih =>
   intro m
   rw [List.foldl_cons, ih, tfind_tupd]
   by_cases hk : k = x
   ·simp [hk]
   ·simp [hk]
 rw [lessM, h l []]
 simp [tfind]
theorem part_ok {k f t : Int} {n : Nat} (h : partF k f t n = 0) : 1 ≤ k ∧ k ≤ 9 ∧ (k = 5 → n = 2) ∧ (6 ≤ k → n = 1) ∧ (k = 9 → 1 ≤ f ∧ f ≤ 9999 ∧ 1 ≤ t ∧ t ≤ 9999) := by
 unfold partF at h
 split at h
 ·cases h
 ·split at h
  ·cases h
  ·split at h
   ·cases h
   ·omega
theorem flat_len {B : Nat} : ∀ {ls : List (List Int)}, (∀ l ∈ ls, l.length ≤ B) → ls.flatten.length ≤ ls.length * B
 | [], _ => by simp
 | l :: ls, h => by
  rw [List.flatten_cons, List.length_append, List.length_cons, Nat.add_mul]
  have h1 := h l List.mem_cons_self
  have h2 := flat_len (B := B) (ls := ls) fun x hx => h x (List.mem_cons_of_mem _ hx)
  omega
section
variable {σ0 σ : Heap} {R : HP} {C : FdC}
theorem fd_put {kn : List (Int × (AV × List Int))} {f : Int} {v : AV} {l : List Int} (H : Hs anyB σ0 σ (Iv v l * (FdP C kn * R))) : Hs anyB σ0 (σ.set C.k (.map (eKn (tupd f (v, l) kn)))) (FdP C (tupd f (v, l) kn) * R) := by
 have K := hs_set (b' := .map (eKn (tupd f (v, l) kn))) (fd_known (hs_eq (show _ = FdP C kn * (Iv v l * R) by ac_rfl) H)) trivial
 have K2 := knR_put (k := f) (v := v) (l := l) (kn := kn) (hs_eq (show _ = Iv v l * (knR kn * (blk C.k (.map (eKn (tupd f (v, l) kn))) * (Iv C.vu C.U * (blk C.b (.box [C.vu, .om C.g, .om C.p, .om C.k]) * (blk C.g (.map (eP C.gs)) * (blk C.p (.map (eL C.ps)) * R)))))) by ac_rfl) K)
 exact fd_of (hs_eq (by ac_rfl) K2)
theorem clone_known {kn : List (Int × (AV × List Int))} {f : Int} {v : AV} {l : List Int} (hl : l.length < 1000000) (hq : tfind f kn = some (v, l)) (H : Hs anyB σ0 σ (FdP C kn * R)) : ∃ v' σ', m_slices_Clone_int [v] σ = some (v', σ') ∧ Hs anyB σ0 σ' (Iv v' l * (FdP C kn * R)) := by
 obtain ⟨Q, hQ⟩ := knR_get hq
 have hQ : knR kn = Iv v l * Q := hQ
 have K := fd_known H
 rw [hQ] at K
 obtain ⟨v', s', e, K2⟩ := cloI_own (by unfold apM; omega) (hs_eq (show _ = Iv v l * (blk C.k (.map (eKn kn)) * (Q * (Iv C.vu C.U * (blk C.b (.box [C.vu, .om C.g, .om C.p, .om C.k]) * (blk C.g (.map (eP C.gs)) * (blk C.p (.map (eL C.ps)) * R)))))) by ac_rfl) K)
 exact ⟨v', s', e, hs_eq (by rw [FdP, hQ]; ac_rfl) K2⟩
theorem app_row {v h : AV} {ls : List (List Int)} {x : List Int} (hl : ls.length + 1 ≤ 5864062014805) (H : Hs anyB σ0 σ (Iv h x * (Sl RowE 1 v ls * R))) : ∃ v' σ', A.append 1 (140737488355328 / 24) v (.sl 1 [[h]]) σ = some (v', σ') ∧ Hs anyB σ0 σ' (Sl RowE 1 v' (ls ++ [x]) * R) :=
 sl_app (ys := [[h]]) (xs := [x]) (hs_eq (show RowE [h] x * (Sl RowE 1 v ls * R) = Sl RowE 1 v ls * (els RowE [[h]] [x] * R) by rw [els_one]; ac_rfl) (rowE_of H)) (by simpa using hl) (fun _ _ _ _ => trivial)
theorem rowI {h : AV} (hc : A.cell h = some h) : (((A.cell h).bind fun v => some [v]).bind fun c15 => (A.splice 0 c15 [AV.nsl]).bind fun c16 => some c16).bind (fun cs => some (AV.sl 1 (chunks 1 1 cs))) = some (.sl 1 [[h]]) := by rw [hc]; rfl
theorem findU (hU : C.U.length ≤ 1000000) (hlen : ∀ n p, Rk C.gs C.ps n p → (uF C.U C.gs C.ps n p).length < 1000000) : ∀ (n N : Nat) (p : PickD) (kn : List (Int × (AV × List Int))) (σ0 σ : Heap) (R : HP), n ≤ N → Rk C.gs C.ps n p → KnOk C kn → Hs anyB σ0 σ (FdP C kn * R) →
  ∃ v σ' kn', fuel R_pick_finder_find N 79 [.op C.b 0, .agg (cPick p)] σ = some (v, σ') ∧ KnOk C kn' ∧ Hs anyB σ0 σ' (Iv v (uF C.U C.gs C.ps n p) * (FdP C kn' * R))
 | 0, N, p, kn, σ0, σ, R, hn, hr, hk, H => hr.elim
 | n + 1, 0, p, kn, σ0, σ, R, hn, hr, hk, H => by omega
 | n + 1, N + 1, p, kn, σ0, σ, R, hn, hr0, hkn, H => by
  have hL := hlen _ _ hr0
  have hr := hr0
  rw [Rk] at hr
  obtain ⟨hpt, ha, hargs, hgr, hpr⟩ := hr
  have hal : ∀ l ∈ p.args.map (uF C.U C.gs C.ps n), l.length < 1000000 := fun l hl => by
   obtain ⟨a, h1, rfl⟩ := List.mem_map.1 hl
   exact hlen _ _ (hargs a h1)
  suffices h : ∃ b : AV × Heap, r_pick_finder_find (fuel R_pick_finder_find N) (.op C.b 0) (.agg (cPick p)) σ = some b ∧ ∃ kn', KnOk C kn' ∧ Hs anyB σ0 b.2 (Iv b.1 (uF C.U C.gs C.ps (n + 1) p) * (FdP C kn' * R)) by
   obtain ⟨⟨v, σ'⟩, h1, kn', h2, h3⟩ := h
   refine ⟨v, σ', kn', ?_, h2, h3⟩
   show A.wrap false [] .k (A.ar2 (r_pick_finder_find (fuel R_pick_finder_find N))) [.op C.b 0, .agg (cPick p)] σ = _
   unfold A.wrap
   rw [Bool.false_and, cond_false]
   show (r_pick_finder_find (fuel R_pick_finder_find N) (.op C.b 0) (.agg (cPick p)) σ).map _ = _
   rw [h1, Option.map_some, nn_k]
  have g0 : A.part1 0 (cPick p) = some (.int .i64 p.kind) := by rw [cPick_eq]; rfl
  have g1 : A.part1 1 (cPick p) = some (.int .i64 p.frm) := by rw [cPick_eq]; rfl
  have g2 : A.part1 2 (cPick p) = some (.int .i64 p.to) := by rw [cPick_eq]; rfl
  have g3 : A.part1 3 (cPick p) = some (sl 4 cPick p.args) := by rw [cPick_eq]; rfl
  have nc : A.nilck (.op C.b 0) = some (.op C.b 0) := rfl
  have fa0 : A.faddr 0 (.op C.b 0) = some (.op C.b 0) := rfl
  have fa1 : A.faddr 1 (.op C.b 0) = some (.op C.b 1) := rfl
  have fa2 : A.faddr 2 (.op C.b 0) = some (.op C.b 2) := rfl
  have fa3 : A.faddr 3 (.op C.b 0) = some (.op C.b 3) := rfl
  obtain ⟨rec, hrec⟩ : ∃ rec, rec = fuel R_pick_finder_find N := ⟨_, rfl⟩
  have hfind : ∀ (q : PickD) (kn : List (Int × (AV × List Int))) (σ : Heap) (R : HP), Rk C.gs C.ps n q → KnOk C kn → Hs anyB σ0 σ (FdP C kn * R) → ∃ v σ' kn', rec 79 [.op C.b 0, .agg (cPick q)] σ = some (v, σ') ∧ KnOk C kn' ∧ Hs anyB σ0 σ' (Iv v (uF C.U C.gs C.ps n q) * (FdP C kn' * R)) := fun q kn σ R h1 h2 h3 => by
   rw [hrec]
   exact findU hU hlen n N q kn σ0 σ R (by omega) h1 h2 h3
  rw [← hrec]
  have hml : p.args.length ≤ mxl := by unfold mxl; omega
  unfold r_pick_finder_find
  rw [ce_cPick, bS, g3, bS, lenS_sl, bS]
  refine loop_k (Q := fun q => ∃ va u kn1, q.1 = .exit 0 ∧ q.2.1 = [.lbx (cPick p), va, u] ∧ KnOk C kn1 ∧ Hs anyB σ0 q.2.2 (Sl RowE 1 va (p.args.map (uF C.U C.gs C.ps n)) * (FdP C kn1 * R))) (loop_hs p.args (fun i vs s => ∃ va kn1, vs = [.lbx (cPick p), va, .int .i64 (i : Int)] ∧ KnOk C kn1 ∧ Hs anyB σ0 s (Sl RowE 1 va ((p.args.take i).map (uF C.U C.gs C.ps n)) * (FdP C kn1 * R))) ?_ ?_ ⟨.nsl, kn, rfl, hkn, slz H (.inl rfl)⟩) ?_
  ·rintro i x vs s hx ⟨va, kn1, rfl, hk1, K⟩
   have a1 : A.lss (.int .i64 (i : Int)) (.int .i64 (p.args.length : Int)) = some (.bool true) := ix_lt hx
   have a2 : A.add (.int .i64 (i : Int)) (.int .i64 1) = some (.int .i64 ((i + 1 : Nat) : Int)) := ix_inc hx hml
   have a3 : A.iaddr 4 (sl 4 cPick p.args) (.int .i64 (i : Int)) = some (.rp (cPick x)) := ix_for hx
   obtain ⟨v, s1, kn2, e1, hk2, K1⟩ := hfind x kn1 s (Sl RowE 1 va ((p.args.take i).map (uF C.U C.gs C.ps n)) * R) (hargs x (List.mem_of_getElem? hx)) hk1 (hs_eq (by ac_rfl) K)
   obtain ⟨va', s2, e2, K2⟩ := app_row (by have := List.length_take_le' i p.args; simp; omega) (hs_eq (show _ = Iv v (uF C.U C.gs C.ps n x) * (Sl RowE 1 va ((p.args.take i).map (uF C.U C.gs C.ps n)) * (FdP C kn2 * R)) by ac_rfl) K1)
   refine ⟨_, s2, ?_, va', kn2, rfl, hk2, ?_⟩
   ·simp only [List.getD_cons_zero, List.getD_cons_succ, a1, a2, a3, bS, cT, dRp, pA_cPick, ce_cPick, sp_cPick _ _ (rfl : ([(AV.int .i64 0), (AV.int .i64 0), (AV.int .i64 0), AV.nsl] : List AV).length = 4), e1, rowI (cell_iv K1), e2]
   ·rw [List.take_add_one, hx, Option.toList_some, List.map_append]; exact K2
  ·rintro vs s ⟨va, kn1, rfl, hk1, K⟩
   rw [List.take_length] at K
   refine ⟨(.exit 0, [.lbx (cPick p), va, .int .i64 (p.args.length : Int)], s), ?_, by simp, va, _, kn1, rfl, rfl, hk1, K⟩
   simp only [List.getD_cons_zero, List.getD_cons_succ, ix_end, bS, cF]
  rintro ⟨q1, q2, s⟩ ⟨va, u, kn1, rfl, rfl, hk1, K⟩
  simp only at K
  clear H hkn
  have K0 := hs_drop K
  have d0 := fd_0 K0
  have d1 := fd_1 K0
  have d2 := fd_2 K0
  have d3 := fd_3 K0
  rw [exE]
  simp only [List.getD_cons_zero, List.getD_cons_succ, aLb, bS, g0, g1, g2, nc, fa0, fa1, fa2, fa3, d0, d1, d2, d3]
  obtain ⟨hk0, hk9, hk5, hk6, hk99⟩ := part_ok hpt
  rw [uF] at hL ⊢
  have hrow : ∀ i : Nat, i < p.args.length → (p.args.map (uF C.U C.gs C.ps n))[i]? = some ((p.args.map (uF C.U C.gs C.ps n)).getD i []) := fun i hi => by
   rw [List.getD_eq_getElem?_getD, List.getElem?_map, List.getElem?_eq_getElem hi]; rfl
  have hgl : ∀ i : Nat, ((p.args.map (uF C.U C.gs C.ps n)).getD i []).length < 1000000 := fun i => by
   by_cases hi : i < p.args.length
   ·exact hal _ (List.mem_of_getElem? (hrow i hi))
   ·rw [List.getD_eq_getElem?_getD, List.getElem?_eq_none (by simp; omega)]; simp
  have hlsl : (p.args.map (uF C.U C.gs C.ps n)).length = p.args.length := List.length_map ..
  generalize p.args.map (uF C.U C.gs C.ps n) = ls at K hrow hgl hal hL hlsl ⊢
  unfold pcomb at hL ⊢
  by_cases h1 : p.kind = 1
  ·rw [if_pos h1] at hL ⊢
   rw [k_t h1, bS, cT, minI, bS, maxI, bS, sl_len (fd_units K0), bS]
   refine loop_k (Q := fun q => ∃ w u, q.1 = .exit 3 ∧ q.2.1 = [.lbx (cPick p), w, u] ∧ Hs anyB σ0 q.2.2 (Iv w (C.U.filter fun n => withinB n (min p.frm p.to) (max p.frm p.to)) * (FdP C kn1 * R))) (loop_hs C.U (fun i vs s => ∃ w, vs = [.lbx (cPick p), w, .int .i64 (i : Int)] ∧ Hs anyB σ0 s (Iv w ((C.U.take i).filter fun n => withinB n (min p.frm p.to) (max p.frm p.to)) * (FdP C kn1 * R))) ?_ ?_ ⟨.nsl, rfl, slz K0 (.inl rfl)⟩) ?_
   ·rintro i x vs s2 hx ⟨w, rfl, K2⟩
    have a1 : A.lss (.int .i64 (i : Int)) (.int .i64 (C.U.length : Int)) = some (.bool true) := ix_lt hx
    have a2 : A.add (.int .i64 (i : Int)) (.int .i64 1) = some (.int .i64 ((i + 1 : Nat) : Int)) := ix_inc hx (by unfold mxl; omega)
    obtain ⟨pp, f1, f2⟩ := slf_at (fd_units (hs_drop K2)) hx
    rw [flt_at hx]
    by_cases hlo : min p.frm p.to ≤ x
    ·by_cases hhi : x ≤ max p.frm p.to
     ·rw [if_pos (show withinB x (min p.frm p.to) (max p.frm p.to) = true from decide_eq_true ⟨hlo, hhi⟩)]
      obtain ⟨w', s3, e1, K3⟩ := iv_app (B := anyB) (x := x) (fun _ _ _ _ => trivial) (by have := flt_tk (p := fun n => withinB n (min p.frm p.to) (max p.frm p.to)) C.U i; unfold apM; omega) K2
      refine ⟨_, s3, ?_, w', rfl, K3⟩
      simp only [List.getD_cons_zero, List.getD_cons_succ, a1, a2, f1, f2, bS, cT, p1_cInt, aLeq, decide_eq_true hlo, decide_eq_true hhi, gT, pkT, oneI, e1]
     ·rw [if_neg (show ¬ withinB x (min p.frm p.to) (max p.frm p.to) = true from fun h => hhi (of_decide_eq_true h).2)]
      refine ⟨_, s2, ?_, w, rfl, K2⟩
      simp only [List.getD_cons_zero, List.getD_cons_succ, a1, a2, f1, f2, bS, cT, cF, p1_cInt, aLeq, decide_eq_true hlo, decide_eq_false hhi, gT, pkT]
    ·rw [if_neg (show ¬ withinB x (min p.frm p.to) (max p.frm p.to) = true from fun h => hlo (of_decide_eq_true h).1)]
     refine ⟨_, s2, ?_, w, rfl, K2⟩
     simp only [List.getD_cons_zero, List.getD_cons_succ, a1, a2, f1, f2, bS, cT, cF, p1_cInt, aLeq, decide_eq_false hlo, gTx, pkF]
   ·rintro vs s2 ⟨w, rfl, K2⟩
    rw [List.take_length] at K2
    refine ⟨(.exit 3, [.lbx (cPick p), w, .int .i64 (C.U.length : Int)], s2), ?_, by simp, w, _, rfl, rfl, K2⟩
    simp only [List.getD_cons_zero, List.getD_cons_succ, ix_end, bS, cF]
   ·rintro ⟨q1, q2, s2⟩ ⟨w, u2, rfl, rfl, K2⟩
    simp only at K2
    unfold btwF
    rw [exE]
    simp only [List.getD_cons_zero, List.getD_cons_succ, aLb, bS, g1, g2, aGtr]
    by_cases hft : p.to < p.frm
    ·rw [if_pos hft, decide_eq_true hft, cT]
     obtain ⟨s3, e1, K3⟩ := rev_s (by have := List.length_filter_le (fun n => withinB n (min p.frm p.to) (max p.frm p.to)) C.U; omega) K2
     exact ⟨(w, s3), by simp only [e1, bS], kn1, hk1, K3⟩
    ·rw [if_neg hft, decide_eq_false hft, cF]
     exact ⟨(w, s2), by simp only [bS], kn1, hk1, K2⟩
  rw [if_neg h1] at hL ⊢
  rw [k_f h1, bS, cF]
  by_cases h2 : p.kind = 2
  ·rw [if_pos h2] at hL ⊢
   obtain ⟨g, hg1, hg2⟩ := hgr h2
   simp only [hg1] at hL ⊢
   rw [k_t h2, bS, cT, fd_lk K0, bS]
   cases hq : tfind p.frm kn1 with
   | some x =>
    obtain ⟨v, l⟩ := x
    obtain ⟨g', m, q1, q2, q3⟩ := hk1 _ (tfind_mem hq)
    simp only at q1 q3
    obtain rfl : g' = g := Option.some.inj (q1.symm.trans hg1)
    have hl : l = uF C.U C.gs C.ps n g' := by
     rw [q3, ← uF_up C.U C.gs C.ps q2 (Nat.le_max_left m n), ← uF_up C.U C.gs C.ps hg2 (Nat.le_max_right m n)]
    rw [hl] at hq
    obtain ⟨v', s', e1, K1⟩ := clone_known hL hq K0
    refine ⟨(v', s'), ?_, kn1, hk1, K1⟩
    simp only [Option.map_some, Option.getD_some, Option.isSome_some, ext0, ext1, bS, notT, cF, List.getD_cons_zero, e1]
   | none =>
    obtain ⟨v, s1, kn2, e1, hk2, K1⟩ := hfind g kn1 s R hg2 hk1 K0
    have e2 := fd_3 (hs_drop K1)
    have e3 := fd_up (hs_drop K1) p.frm v (uF C.U C.gs C.ps n g)
    have K2 := fd_put (f := p.frm) K1
    obtain ⟨v', s', e4, K3⟩ := clone_known hL (show tfind p.frm (tupd p.frm (v, uF C.U C.gs C.ps n g) kn2) = some (v, uF C.U C.gs C.ps n g) by rw [tfind_tupd, if_pos rfl]) K2
    refine ⟨(v', s'), ?_, _, hk2.put hg1 hg2, K3⟩
    simp only [Option.map_none, Option.getD_none, Option.isSome_none, ext0, ext1, bS, notF, cT, fd_lg K0 hg1, e1, e2, e3, List.getD_cons_zero, e4]
  rw [if_neg h2] at hL ⊢
  rw [k_f h2, bS, cF]
  by_cases h3 : p.kind = 3
  ·rw [if_pos h3] at hL ⊢
   obtain ⟨l, hl⟩ := hpr h3
   simp only [hl, Option.getD_some] at hL ⊢
   obtain ⟨v, s1, e1, _, K1⟩ := cloI (l := l) (by unfold apM; omega) K0
   refine ⟨(v, s1), ?_, kn1, hk1, K1⟩
   simp only [k_t h3, bS, cT, fd_lp K0 hl, e1]
  rw [if_neg h3] at hL ⊢
  rw [k_f h3, bS, cF]
  by_cases h4 : p.kind = 4
  ·rw [if_pos h4] at hL ⊢
   have hfl : ls.flatten.length ≤ 200 * 1000000 := Nat.le_trans (flat_len fun l hl => Nat.le_of_lt (hal l hl)) (Nat.mul_le_mul_right _ (by omega))
   obtain ⟨v, s1, e1, K1⟩ := con_s (by unfold mxl; omega) (by omega) K
   obtain ⟨v2, s2, e2, K2⟩ := once_s (by unfold apM; omega) K1
   refine ⟨(v2, s2), ?_, kn1, hk1, hs_drop (hs_eq (show _ = (Iv v ls.flatten * Sl RowE 1 va ls) * (Iv v2 (onceF ls.flatten) * (FdP C kn1 * R)) by ac_rfl) K2)⟩
   simp only [k_t h4, bS, cT, e1, e2]
  rw [if_neg h4] at hL ⊢
  rw [k_f h4, bS, cF]
  by_cases h5 : p.kind = 5
  ·rw [if_pos h5] at hL ⊢
   have hn2 := hk5 h5
   obtain ⟨x1, hx1⟩ : ∃ x1, x1 = ls.getD 1 [] := ⟨_, rfl⟩
   obtain ⟨x0, hx0⟩ : ∃ x0, x0 = ls.getD 0 [] := ⟨_, rfl⟩
   have r1 := hrow 1 (by omega)
   have r0 := hrow 0 (by omega)
   have l1 := hgl 1
   have l0 := hgl 0
   rw [← hx1] at r1 l1 hL ⊢
   rw [← hx0] at r0 l0 hL ⊢
   rw [k_t h5, bS, cT]
   have K1 := hs_new (b := .map (eB [])) K trivial
   have K2 := hs_new (b := .box [.nm]) K1 trivial
   obtain ⟨id, hid⟩ : ∃ id, id = List.length s := ⟨_, rfl⟩
   obtain ⟨bb, hbb⟩ : ∃ bb, bb = List.length (s ++ [Blk.map []]) := ⟨_, rfl⟩
   have hbb' : bb = List.length (s ++ [Blk.map (eB [])]) := hbb
   rw [← hbb', ← hid] at K2
   have st1 : A.storeAt (.op bb 0) [.om id] (s ++ [Blk.map []] ++ [Blk.box [AV.nm]]) = some ((s ++ [Blk.map []] ++ [Blk.box [AV.nm]]).set bb (.box [.om id])) := by
    have := (hs_get K2).2
    have t : (s ++ [Blk.map []] ++ [Blk.box [AV.nm]])[bb]? = some (.box [.nm]) := this
    simp only [A.storeAt, t]
    rfl
   have K3 := hs_set (b' := .box [.om id]) K2 trivial
   rw [← hid, ← hbb]
   rw [show ((A.cell (AV.om id)).bind fun v => some [v]) = some [.om id] from rfl, bS, st1, bS]
   obtain ⟨s3, hs3⟩ : ∃ s3, s3 = (s ++ [Blk.map []] ++ [Blk.box [AV.nm]]).set bb (.box [.om id]) := ⟨_, rfl⟩
   have K3' : Hs anyB σ0 s3 (blk bb (.box [.om id]) * (blk id (.map (eB [])) * (Sl RowE 1 va ls * (FdP C kn1 * R)))) := by rw [hs3]; exact K3
   rw [← hs3]
   clear K3 K2 K1 K hs3 st1
   obtain ⟨p1, v1, Q1, f1, K4, f2, back⟩ := rowAt (hs_eq (show _ = Sl RowE 1 va ls * (blk bb (.box [.om id]) * (blk id (.map (eB [])) * (FdP C kn1 * R))) by ac_rfl) K3') r1
   have f3 := f2 s3 _ (hs_drop K4)
   rw [show A.iaddr 1 va (.int .i64 1) = some p1 from f1, bS, f3, bS, show A.part1 0 [v1] = some v1 from cell_iv K4, bS, sl_len K4, bS]
   refine loop_k (Q := fun q => ∃ u, q.1 = .exit 5 ∧ q.2.1 = [u] ∧ Hs anyB σ0 q.2.2 (Iv v1 x1 * (Q1 * (blk bb (.box [.om id]) * (blk id (.map (eB (lessM x1))) * (FdP C kn1 * R)))))) (loop_hs x1 (fun i vs s => vs = [.int .i64 (i : Int)] ∧ Hs anyB σ0 s (Iv v1 x1 * (Q1 * (blk bb (.box [.om id]) * (blk id (.map (eB (lessM (x1.take i)))) * (FdP C kn1 * R)))))) ?_ ?_ ⟨rfl, K4⟩) ?_
   ·rintro i x vs s4 hx ⟨rfl, K5⟩
    have a1 : A.lss (.int .i64 (i : Int)) (.int .i64 (x1.length : Int)) = some (.bool true) := ix_lt hx
    have a2 : A.add (.int .i64 (i : Int)) (.int .i64 1) = some (.int .i64 ((i + 1 : Nat) : Int)) := ix_inc hx (by unfold mxl; omega)
    obtain ⟨pp, b1, b2⟩ := slf_at K5 hx
    have b3 := (hs_get (hs_eq (show _ = blk bb (.box [.om id]) * (Iv v1 x1 * (Q1 * (blk id (.map (eB (lessM (x1.take i)))) * (FdP C kn1 * R)))) by ac_rfl) K5)).2
    have b4 : ((A.deref (.op bb 0) s4).bind fun c => A.part1 0 c) = some (.om id) := by simp only [A.deref, b3, Option.bind_some]; rfl
    have K6 := hs_eq (show _ = blk id (.map (eB (lessM (x1.take i)))) * (Iv v1 x1 * (Q1 * (blk bb (.box [.om id]) * (FdP C kn1 * R)))) by ac_rfl) K5
    have b5 := updB (hs_get K6).2 x true
    have K7 := hs_set (b' := .map (eB (tupd x true (lessM (x1.take i))))) K6 trivial
    refine ⟨_, s4.set id (.map (eB (tupd x true (lessM (x1.take i))))), ?_, rfl, ?_⟩
    ·simp only [List.getD_cons_zero, a1, a2, b1, b2, bS, cT, p1_cInt, b4, b5]
    ·rw [List.take_add_one, hx, Option.toList_some, lessM_snoc]
     exact hs_eq (by ac_rfl) K7
   ·rintro vs s4 ⟨rfl, K5⟩
    rw [List.take_length] at K5
    refine ⟨(.exit 5, [.int .i64 (x1.length : Int)], s4), ?_, by simp, _, rfl, rfl, K5⟩
    simp only [List.getD_cons_zero, ix_end, bS, cF]
   ·rintro ⟨q1, q2, s4⟩ ⟨u2, rfl, rfl, K5⟩
    simp only at K5
    rw [exE]
    have K6 := back s4 _ K5
    obtain ⟨p0, v0, Q0, c1, K7, c2, _⟩ := rowAt K6 r0
    have c3 := c2 s4 _ (hs_drop K7)
    obtain ⟨v', s5, e5, K8⟩ := less_s l0 (hs_eq (show _ = Iv v0 x0 * (blk bb (.box [.om id]) * (blk id (.map (eB (lessM x1))) * (Q0 * (FdP C kn1 * R)))) by ac_rfl) K7)
    simp only [lessM_find] at K8
    refine ⟨(v', s5), ?_, kn1, hk1, hs_drop (hs_eq (show _ = (blk bb (.box [.om id]) * (blk id (.map (eB (lessM x1))) * Q0)) * (Iv v' (x0.filter fun x => !decide (x ∈ x1)) * (FdP C kn1 * R)) by ac_rfl) K8)⟩
    rw [show A.iaddr 1 va (.int .i64 0) = some p0 from c1, bS, c3, bS, show A.part1 0 [v0] = some v0 from cell_iv K7, bS, e5, bS]
  rw [if_neg h5] at hL ⊢
  rw [k_f h5, bS, cF]
  obtain ⟨p0, v0, Q0, c1, K7, c2, _⟩ := rowAt K (hrow 0 (by omega))
  have c1' : A.iaddr 1 va (.int .i64 0) = some p0 := c1
  have c3 := c2 s _ (hs_drop K7)
  have c4 : A.part1 0 [v0] = some v0 := cell_iv K7
  have l0 := hgl 0
  have l0' : (ls.getD 0 []).length + 1 ≤ apM := by unfold apM; omega
  by_cases h6 : p.kind = 6
  ·rw [if_pos h6] at hL ⊢
   obtain ⟨v', s', e1, K8⟩ := every_s (st := 2) (f := 1) (by omega) (by omega) (by omega) (by omega) l0' K7
   refine ⟨(v', s'), ?_, kn1, hk1, hs_drop (hs_eq (show _ = (Iv v0 (ls.getD 0 []) * Q0) * (Iv v' (everyF (ls.getD 0 []) 2 1) * (FdP C kn1 * R)) by ac_rfl) K8)⟩
   rw [k_t h6, bS, cT, c1', bS, c3, bS, c4, bS, e1, bS]
  rw [if_neg h6] at hL ⊢
  rw [k_f h6, bS, cF]
  by_cases h7 : p.kind = 7
  ·rw [if_pos h7] at hL ⊢
   obtain ⟨v', s', e1, K8⟩ := every_s (st := 2) (f := 2) (by omega) (by omega) (by omega) (by omega) l0' K7
   refine ⟨(v', s'), ?_, kn1, hk1, hs_drop (hs_eq (show _ = (Iv v0 (ls.getD 0 []) * Q0) * (Iv v' (everyF (ls.getD 0 []) 2 2) * (FdP C kn1 * R)) by ac_rfl) K8)⟩
   rw [k_t h7, bS, cT, c1', bS, c3, bS, c4, bS, e1, bS]
  rw [if_neg h7] at hL ⊢
  rw [k_f h7, bS, cF]
  by_cases h8 : p.kind = 8
  ·rw [if_pos h8] at hL ⊢
   obtain ⟨s', e1, K8⟩ := rev_s (by omega) K7
   have c5 := c2 s' _ (hs_drop K8)
   refine ⟨(v0, s'), ?_, kn1, hk1, hs_drop (hs_eq (show _ = Q0 * (Iv v0 (ls.getD 0 []).reverse * (FdP C kn1 * R)) by ac_rfl) K8)⟩
   rw [k_t h8, bS, cT, c1', bS, c3, bS, c4, bS, e1, bS, bS]
   simp only
   rw [c5, bS, c4, bS]
  rw [if_neg h8] at hL ⊢
  rw [k_f h8, bS, cF]
  have h9 : p.kind = 9 := by omega
  obtain ⟨t1, t2, t3, t4⟩ := hk99 h9
  obtain ⟨v', s', e1, K8⟩ := every_s (st := p.frm) (f := p.to) t1 (by omega) t3 (by omega) l0' K7
  refine ⟨(v', s'), ?_, kn1, hk1, hs_drop (hs_eq (show _ = (Iv v0 (ls.getD 0 []) * Q0) * (Iv v' (everyF (ls.getD 0 []) p.frm p.to) * (FdP C kn1 * R)) by ac_rfl) K8)⟩
  rw [c1', bS, c3, bS, c4, bS, e1, bS]
end
end Go.Proofs.YtkdafecbdncmiaaDoor

namespace Go.Proofs.YtkdafecbdncmiaaDoor
set_option linter.unusedSectionVars false
set_option linter.unusedVariables false
set_option linter.unusedSimpArgs false
set_option maxRecDepth 100000
def grpO (l : List GroupD) (n : Int) : Option GroupD := l.find? fun g => decide (g.number = n)
def gVals (l : List GroupD) : List Int := l.flatMap fun g => pNamed 2 g.pick
theorem gVals_eq (l : List GroupD) : gVals l = uVals (usesL l) := by
 unfold gVals uVals usesL
 rw [List.flatMap_map]
end Go.Proofs.YtkdafecbdncmiaaDoor

namespace Go.Proofs.YtkdafecbdncmiaaDoor
set_option linter.unusedSectionVars false
set_option linter.unusedVariables false
set_option linter.unusedSimpArgs false
set_option maxRecDepth 100000
open HP
def gsOf (gl : List GroupD) : List (Int × PickD) := gl.map fun g => (g.number, g.pick)
def setU (x : PresetD) : List Int := x.settings.map fun s => s.key.unit
def psOf (pl : List PresetD) : List (Int × List Int) := pl.map fun x => (x.number, onceF (setU x))
def usOf (r : RigD) : List Int := r.units.map UnitD.number
theorem gsOf_find (gl : List GroupD) (f : Int) : tfind f (gsOf gl) = (grpO gl f).map GroupD.pick := by
 unfold gsOf grpO
 induction gl with
 | nil => rfl
 | cons g l ih =>
  rw [List.map_cons, tfind, List.find?_cons]
  by_cases h : g.number = f
  ·rw [if_pos h.symm, decide_eq_true h]; rfl
  ·rw [if_neg (Ne.symm h), decide_eq_false h]; exact ih
section
variable {σ0 σ : Heap} {R : HP}
end
end Go.Proofs.YtkdafecbdncmiaaDoor

namespace Go.Proofs.YtkdafecbdncmiaaDoor
set_option linter.unusedSectionVars false
set_option linter.unusedSimpArgs false
set_option linter.unusedVariables false
theorem size_m (p : PickD) (h : pSize p ≤ 2000000) (σ : Heap) : m_pick_size [.agg (cPick p)] σ = some (.tup [.int .i64 (pSize p : Int), .int .i64 (pDeep p : Int)], σ) := size_t 2000000 p σ (Nat.le_trans (pDeep_size p) h) (Nat.le_trans h (by decide))
theorem check_m (p : PickD) (h : pSize p ≤ 2000000) (σ : Heap) : m_pick_check [.agg (cPick p)] σ = some (.int .i64 (pChk p), σ) := check_t 2000000 p σ (Nat.le_trans (pDeep_size p) h) (Nat.le_trans h (by decide))
end Go.Proofs.YtkdafecbdncmiaaDoor

namespace Go.Proofs.YtkdafecbdncmiaaDoor
set_option linter.unusedSectionVars false
set_option linter.unusedVariables false
set_option linter.unusedSimpArgs false
set_option maxRecDepth 100000
noncomputable def t_pick_Check (a0 : PickD) : Option Int :=
 (tq (pSize a0 ≤ 2000000) (((pSize a0 : Int), (pDeep a0 : Int)))).bind fun r1 =>
 if ((decide (200 < r1.1)) || (decide (12 < r1.2))) = true then
  some 2
 else
 (tq (pSize a0 ≤ 2000000) (pChk a0)).bind fun r2 =>
 some r2
theorem h_pick_Check {a0 : PickD} {σ : Heap} {r : Int} (h : t_pick_Check a0 = some r) : m_pick_Check [(AV.agg (cPick a0))] σ = some ((AV.int .i64 r), σ) := by
 refine rf_wrap1 (f := r_pick_Check) (y0 := (AV.agg (cPick a0))) (enc := fun r : Int => (AV.int .i64 r)) (T := t_pick_Check a0) (by first | rfl | (simp only [cPick_eq]; rfl)) (by first | rfl | (simp only [cPick_eq]; rfl)) ?_ r h
 unfold r_pick_Check t_pick_Check
 refine rf_s (cPick a0) (by first | rfl | (simp only [cPick_eq]; rfl)) <| rf_s (AV.agg (cPick a0)) (by first | rfl | (simp only [cPick_eq]; rfl)) ?_
 refine rf_o (fun r1 : (Int × Int) => ((AV.tup [(AV.int .i64 r1.1), (AV.int .i64 r1.2)]), σ)) (fun r1 hr1 => (tq_of (e := fun r : (Int × Int) => ((AV.tup [(AV.int .i64 r.1), (AV.int .i64 r.2)]), σ)) (fun hs => size_m a0 hs σ)) hr1) (fun r1 hr1 => ?_)
 refine rf_s (AV.int .i64 r1.1) (by first | rfl | (simp only [cPick_eq]; rfl)) <| rf_s (AV.int .i64 r1.2) (by first | rfl | (simp only [cPick_eq]; rfl)) <| rf_s (AV.bool (decide (200 < r1.1))) (by first | rfl | (simp only [cPick_eq]; rfl)) <| rf_gf (AV.int .i64 r1.2) (fun hg => by first | rfl | (simp only [cPick_eq]; rfl)) <| rf_gf (AV.bool (decide (12 < r1.2))) (fun hg => by (try rw [hg]); exact rfl) <| rf_s _ (pk_or _ _) ?_
 refine rf_cb (c := ((decide (200 < r1.1)) || (decide (12 < r1.2)))) (fun c3 => ?_) (fun c3 => ?_)
 ·exact rf_fin _ (fin_same _ _) ⟨rfl, rfl⟩
 refine rf_s (AV.agg (cPick a0)) (by first | rfl | (simp only [cPick_eq]; rfl)) ?_
 refine rf_o (fun r2 : Int => ((AV.int .i64 r2), σ)) (fun r2 hr2 => (tq_of (e := fun r : Int => ((AV.int .i64 r), σ)) (fun hs => check_m a0 hs σ)) hr2) (fun r2 hr2 => ?_)
 exact rf_fin _ (fin_same _ _) ⟨rfl, rfl⟩

noncomputable def t_pick_CheckGroups (a0 : (List GroupD)) : Option Int :=
 if 200 < (a0.length : Int) then
  some 2
 else
 forE a0 (fun (i8 : Nat) e7 (s1 : Unit) => (show Option (Lr Unit Unit Int) from
   if (!(withinB e7.number 1 999)) = true then
    some (.ret 1)
   else
   (if decide (0 < (i8 : Int)) = true then tIx a0 (IntKind.i64.wrap ((i8 : Int) - 1)) else some default).bind fun x9 =>
   if ((decide (0 < (i8 : Int))) && (decide (e7.number ≤ x9.number))) = true then
    some (.ret 7)
   else
   (t_pick_Check e7.pick).bind fun r10 =>
   if ¬ (r10 = 0) then
    some (.ret r10)
   else
   some (.go ()))) (fun s1 => some ()) () (fun b2 =>
  (tq ((a0.map GroupD.number).Nodup ∧ (∀ g ∈ a0, pSize g.pick ≤ 2000000) ∧ a0.length ≤ mxl) (usesL a0)).bind fun r14 =>
  forE a0 (fun (i22 : Nat) e21 (s15 : Unit) => (show Option (Lr Unit Unit Int) from
    forE ((tfind e21.number r14).getD ([] : (List Int))) (fun (i30 : Nat) e29 (s23 : Unit) => (show Option (Lr Unit Unit Int) from
      if (!((tfind e29 r14).isSome)) = true then
       some (.ret 8)
      else
      some (.go ()))) (fun s23 => some ()) () (fun b24 =>
     some (.go ())) (fun b24 =>
     some (.ret b24)))) (fun s15 => some ()) () (fun b16 =>
   forE a0 (fun (i39 : Nat) e38 (s32 : Unit) => (show Option (Lr Unit Unit Int) from
     (tq ((uVals r14).length + 1 ≤ apM) ((reachL r14 e38.number).map fun x => (x, true))).bind fun r40 =>
     if ((tfind e38.number r40).getD false) = true then
      some (.ret 11)
     else
     some (.go ()))) (fun s32 => some ()) () (fun b33 =>
    some 0) (fun b33 =>
    some b33)) (fun b16 =>
   some b16)) (fun b2 =>
  some b2)
theorem h_pick_CheckGroups {a0 : (List GroupD)} {σ : Heap} {r : Int} (h : t_pick_CheckGroups a0 = some r) : m_pick_CheckGroups [(sl 5 cGroup a0)] σ = some ((AV.int .i64 r), σ) := by
 refine rf_wrap1 (f := r_pick_CheckGroups) (y0 := (sl 5 cGroup a0)) (enc := fun r : Int => (AV.int .i64 r)) (T := t_pick_CheckGroups a0) (by first | rfl | (simp only [cPick_eq]; rfl)) (by first | rfl | (simp only [cPick_eq]; rfl)) ?_ r h
 unfold r_pick_CheckGroups t_pick_CheckGroups
 refine rf_s _ (lenS_sl _ _ _) <| rf_s (AV.bool (decide (200 < (a0.length : Int)))) (by first | rfl | (simp only [cPick_eq]; rfl)) ?_
 refine rf_c (p := 200 < (a0.length : Int)) (fun c42 => ?_) (fun c42 => ?_)
 ·exact rf_fin _ (fin_same _ _) ⟨rfl, rfl⟩
 refine rf_s _ (lenS_sl _ _ _) ?_
 refine rf_for (B := Unit) (R := Int) (fun (i8 : Nat) (s1 : Unit) v w3 => v = [(AV.int .i64 0), (AV.int .i64 (i8 : Int))] ∧ σ = w3) (fun (b2 : Unit) (q : LS) => ∃ u2 u20, q = ((AX.exit 0), ([u2, u20] : List AV), σ)) (fun (b2 : Int) (q : LS) => ∃ u20, q = (AX.ret, ([(AV.int .i64 b2), u20] : List AV), σ)) ?_ ?_ ⟨rfl, rfl⟩ ?_ ?_
 ·intro hle7 i8 e7 s1 v w3 he7 hI
  obtain ⟨rfl, rfl⟩ := hI
  refine rf_s _ (ix_lt he7) <| rf_ct <| rf_s _ (ix_for he7) <| rf_s (AV.agg (cGroup e7)) (by first | rfl | (simp only [cPick_eq]; rfl)) <| rf_s (cGroup e7) (by first | rfl | (simp only [cPick_eq]; rfl)) <| rf_s _ (sp_cGroup _ _ rfl) <| rf_s (AV.int .i64 e7.number) (by first | rfl | (simp only [cPick_eq]; rfl)) <| rf_s _ (Within_eq e7.number 1 999 σ) <| rf_s (AV.bool (!(withinB e7.number 1 999))) (by first | rfl | (simp only [cPick_eq]; rfl)) ?_
  refine rf_cb (c := (!(withinB e7.number 1 999))) (fun c13 => ?_) (fun c13 => ?_)
  ·exact rf_ret (rnd_ret (by simp) ⟨_, rfl⟩)
  refine rf_s (AV.bool (decide (0 < (i8 : Int)))) (by first | rfl | (simp only [cPick_eq]; rfl)) <| rf_gt (AV.int .i64 e7.number) (fun hg => by first | rfl | (simp only [cPick_eq]; rfl)) <| rf_gt (sl 5 cGroup a0) (fun hg => by first | rfl | (simp only [cPick_eq]; rfl)) <| rf_gt (AV.int .i64 (i8 : Int)) (fun hg => by first | rfl | (simp only [cPick_eq]; rfl)) <| rf_gt (AV.int .i64 (IntKind.i64.wrap ((i8 : Int) - 1))) (fun hg => by (try rw [hg]); exact rfl) ?_
  refine rf_gto (ω := GroupD) (fun x9 => (AV.rp (cGroup x9))) (fun hg x9 hx9 => by (try rw [hg]); exact ix_at hx9) (fun x9 hx9 => ?_)
  refine rf_gt (AV.rp (cGroup x9)) (fun hg => by (try rw [hg]); exact rfl) <| rf_gt (AV.int .i64 x9.number) (fun hg => by (try rw [hg]); exact rfl) <| rf_gt (AV.bool (decide (e7.number ≤ x9.number))) (fun hg => by (try rw [hg]); exact rfl) <| rf_s _ (pk_and _ _) ?_
  refine rf_cb (c := ((decide (0 < (i8 : Int))) && (decide (e7.number ≤ x9.number)))) (fun c12 => ?_) (fun c12 => ?_)
  ·exact rf_ret (rnd_ret (by simp) ⟨_, rfl⟩)
  refine rf_s (AV.agg (cPick e7.pick)) (by first | rfl | (simp only [cPick_eq]; rfl)) ?_
  refine rf_o (fun r10 : Int => ((AV.int .i64 r10), σ)) (fun r10 hr10 => h_pick_Check hr10) (fun r10 hr10 => ?_)
  refine rf_s _ (aNe _ _ _) ?_
  refine rf_c (p := ¬ (r10 = 0)) (fun c11 => ?_) (fun c11 => ?_)
  ·exact rf_ret (rnd_ret (by simp) ⟨_, rfl⟩)
  refine rf_s _ (ix_inc he7 hle7) ?_
  exact rf_ret (rnd_go ⟨rfl, rfl⟩)
 ·intro hl s1 v w3 hI
  obtain ⟨rfl, rfl⟩ := hI
  refine rf_s _ (ix_end _) <| rf_cf ?_
  exact rf_ret ⟨by simp, ⟨_, _, rfl⟩⟩
 ·intro hl b2 q hq
  obtain ⟨u2, u20, rfl⟩ := hq
  refine rf_bt (by first | rfl | (simp only [cPick_eq]; rfl)) ?_
  refine rf_o (fun r14 : (List (Int × (List Int))) => ((fmE (fun x => (AV.int .i64 x)) (fun x => (nslE 1 cInt x)) r14), σ)) (fun r14 hr14 => (tq_of (e := fun r : (List (Int × (List Int))) => ((fmE (fun x => (AV.int .i64 x)) (fun x => (nslE 1 cInt x)) r), σ)) (fun hs => uses_t a0 hs.1 hs.2.1 hs.2.2 σ)) hr14) (fun r14 hr14 => ?_)
  refine rf_s _ (lenS_sl _ _ _) ?_
  refine rf_for (B := Unit) (R := Int) (fun (i22 : Nat) (s15 : Unit) v w17 => ∃ u2, v = [u2, (AV.int .i64 (i22 : Int))] ∧ σ = w17) (fun (b16 : Unit) (q : LS) => ∃ u2 u53, q = ((AX.exit 2), ([u2, u53] : List AV), σ)) (fun (b16 : Int) (q : LS) => ∃ u53, q = (AX.ret, ([(AV.int .i64 b16), u53] : List AV), σ)) ?_ ?_ ⟨_, rfl, rfl⟩ ?_ ?_
  ·intro hle21 i22 e21 s15 v w17 he21 hI
   obtain ⟨u2, rfl, rfl⟩ := hI
   refine rf_s _ (ix_lt he21) <| rf_ct <| rf_s _ (ix_for he21) <| rf_s (AV.agg (cGroup e21)) (by first | rfl | (simp only [cPick_eq]; rfl)) <| rf_s (cGroup e21) (by first | rfl | (simp only [cPick_eq]; rfl)) <| rf_s _ (sp_cGroup _ _ rfl) <| rf_s (AV.int .i64 e21.number) (by first | rfl | (simp only [cPick_eq]; rfl)) <| rf_s _ (fm_lookT (ek := .i) (eK := (fun x => (AV.int .i64 x))) (eV := (fun x => (nslE 1 cInt x))) (eqk_int _) e21.number ([] : (List Int)) rfl) <| rf_s _ (lenS_ns _ _ _) ?_
   refine rf_for (B := Unit) (R := Int) (fun (i30 : Nat) (s23 : Unit) v w25 => ∃ u2, v = [u2, (AV.int .i64 (i30 : Int))] ∧ σ = w25) (fun (b24 : Unit) (q : LS) => ∃ u2 u62, q = ((AX.exit 4), ([u2, u62] : List AV), σ)) (fun (b24 : Int) (q : LS) => ∃ u62, q = (AX.ret, ([(AV.int .i64 b24), u62] : List AV), σ)) ?_ ?_ ⟨_, rfl, rfl⟩ ?_ ?_
   ·intro hle29 i30 e29 s23 v w25 he29 hI
    obtain ⟨u2, rfl, rfl⟩ := hI
    refine rf_s _ (ix_lt he29) <| rf_ct <| rf_s _ (ix_forN he29) <| rf_s (AV.int .i64 e29) (by first | rfl | (simp only [cPick_eq]; rfl)) <| rf_s _ (fm_lookOkT (ek := .i) (eK := (fun x => (AV.int .i64 x))) (eV := (fun x => (nslE 1 cInt x))) (eqk_int _) e29 ([] : (List Int)) rfl) <| rf_s (nslE 1 cInt ((tfind e29 r14).getD ([] : (List Int)))) (by first | rfl | (simp only [cPick_eq]; rfl)) <| rf_s (AV.bool (tfind e29 r14).isSome) (by first | rfl | (simp only [cPick_eq]; rfl)) <| rf_s (AV.bool (!((tfind e29 r14).isSome))) (by first | rfl | (simp only [cPick_eq]; rfl)) ?_
    refine rf_cb (c := (!((tfind e29 r14).isSome))) (fun c31 => ?_) (fun c31 => ?_)
    ·exact rf_ret (rnd_ret (by simp) ⟨_, rfl⟩)
    refine rf_s _ (ix_inc he29 hle29) ?_
    exact rf_ret (rnd_go ⟨_, rfl, rfl⟩)
   ·intro hl s23 v w25 hI
    obtain ⟨u2, rfl, rfl⟩ := hI
    refine rf_s _ (ix_end _) <| rf_cf ?_
    exact rf_ret ⟨by simp, ⟨_, _, rfl⟩⟩
   ·intro hl b24 q hq
    obtain ⟨u2, u62, rfl⟩ := hq
    refine rf_bt (by first | rfl | (simp only [cPick_eq]; rfl)) <| rf_s _ (ix_inc he21 hle21) ?_
    exact rf_ret (rnd_go ⟨_, rfl, rfl⟩)
   ·intro hl b24 q hq
    obtain ⟨u62, rfl⟩ := hq
    refine rf_bf (by first | rfl | (simp only [cPick_eq]; rfl)) <| rf_bt (by first | rfl | (simp only [cPick_eq]; rfl)) ?_
    exact rf_ret (rnd_ret (by simp) ⟨_, rfl⟩)
  ·intro hl s15 v w17 hI
   obtain ⟨u2, rfl, rfl⟩ := hI
   refine rf_s _ (ix_end _) <| rf_cf ?_
   exact rf_ret ⟨by simp, ⟨_, _, rfl⟩⟩
  ·intro hl b16 q hq
   obtain ⟨u2, u53, rfl⟩ := hq
   refine rf_bt (by first | rfl | (simp only [cPick_eq]; rfl)) <| rf_s _ (lenS_sl _ _ _) ?_
   refine rf_for (B := Unit) (R := Int) (fun (i39 : Nat) (s32 : Unit) v w34 => ∃ u2, v = [u2, (AV.int .i64 (i39 : Int))] ∧ σ = w34) (fun (b33 : Unit) (q : LS) => ∃ u2 u78, q = ((AX.exit 6), ([u2, u78] : List AV), σ)) (fun (b33 : Int) (q : LS) => ∃ u78, q = (AX.ret, ([(AV.int .i64 b33), u78] : List AV), σ)) ?_ ?_ ⟨_, rfl, rfl⟩ ?_ ?_
   ·intro hle38 i39 e38 s32 v w34 he38 hI
    obtain ⟨u2, rfl, rfl⟩ := hI
    refine rf_s _ (ix_lt he38) <| rf_ct <| rf_s _ (ix_for he38) <| rf_s (AV.agg (cGroup e38)) (by first | rfl | (simp only [cPick_eq]; rfl)) <| rf_s (cGroup e38) (by first | rfl | (simp only [cPick_eq]; rfl)) <| rf_s _ (sp_cGroup _ _ rfl) <| rf_s (AV.int .i64 e38.number) (by first | rfl | (simp only [cPick_eq]; rfl)) ?_
    refine rf_o (fun r40 : (List (Int × Bool)) => (fmE (fun x => (AV.int .i64 x)) (fun x => (AV.bool x)) r40)) (fun r40 hr40 => (quiet_of ((tq_of (e := fun r : (List (Int × Bool)) => ((fmE (fun x => (AV.int .i64 x)) (fun x => (AV.bool x)) r), σ)) (fun hs => reach_t r14 hs e38.number σ)) hr40))) (fun r40 hr40 => ?_)
    refine rf_s (AV.int .i64 e38.number) (by first | rfl | (simp only [cPick_eq]; rfl)) <| rf_s _ (fm_lookT (ek := .i) (eK := (fun x => (AV.int .i64 x))) (eV := (fun x => (AV.bool x))) (eqk_int _) e38.number false rfl) ?_
    refine rf_cb (c := ((tfind e38.number r40).getD false)) (fun c41 => ?_) (fun c41 => ?_)
    ·exact rf_ret (rnd_ret (by simp) ⟨_, rfl⟩)
    refine rf_s _ (ix_inc he38 hle38) ?_
    exact rf_ret (rnd_go ⟨_, rfl, rfl⟩)
   ·intro hl s32 v w34 hI
    obtain ⟨u2, rfl, rfl⟩ := hI
    refine rf_s _ (ix_end _) <| rf_cf ?_
    exact rf_ret ⟨by simp, ⟨_, _, rfl⟩⟩
   ·intro hl b33 q hq
    obtain ⟨u2, u78, rfl⟩ := hq
    refine rf_bt (by first | rfl | (simp only [cPick_eq]; rfl)) ?_
    exact rf_fin _ (fin_same _ _) ⟨rfl, rfl⟩
   ·intro hl b33 q hq
    obtain ⟨u78, rfl⟩ := hq
    refine rf_bf (by first | rfl | (simp only [cPick_eq]; rfl)) <| rf_bt (by first | rfl | (simp only [cPick_eq]; rfl)) ?_
    exact rf_fin _ (fin_same _ _) ⟨rfl, rfl⟩
  ·intro hl b16 q hq
   obtain ⟨u53, rfl⟩ := hq
   refine rf_bf (by first | rfl | (simp only [cPick_eq]; rfl)) <| rf_bt (by first | rfl | (simp only [cPick_eq]; rfl)) ?_
   exact rf_fin _ (fin_same _ _) ⟨rfl, rfl⟩
 ·intro hl b2 q hq
  obtain ⟨u20, rfl⟩ := hq
  refine rf_bf (by first | rfl | (simp only [cPick_eq]; rfl)) <| rf_bt (by first | rfl | (simp only [cPick_eq]; rfl)) ?_
  exact rf_fin _ (fin_same _ _) ⟨rfl, rfl⟩

noncomputable def t_slices_Equal_int (a0 : (List Int)) (a1 : (List Int)) : Option Bool :=
 if ¬ ((a0.length : Int) = (a1.length : Int)) then
  some false
 else
 forE a0 (fun (i8 : Nat) e7 (s1 : Unit) => (show Option (Lr Unit Unit Unit) from
   (tIx a1 (i8 : Int)).bind fun x9 =>
   if ¬ (e7 = x9) then
    some (.ret ())
   else
   some (.go ()))) (fun s1 => some ()) () (fun b2 =>
  some true) (fun b2 =>
  some false)
theorem h_slices_Equal_int {a0 : (List Int)} { a1 : (List Int)} {σ : Heap} {r : Bool} (h : t_slices_Equal_int a0 a1 = some r) : m_slices_Equal_int [(sl 1 cInt a0), (sl 1 cInt a1)] σ = some ((AV.bool r), σ) := by
 refine rf_wrap2 (f := r_slices_Equal_int) (y0 := (sl 1 cInt a0)) (y1 := (sl 1 cInt a1)) (enc := fun r : Bool => (AV.bool r)) (T := t_slices_Equal_int a0 a1) rfl rfl ?_ r h
 unfold r_slices_Equal_int t_slices_Equal_int
 refine rf_s _ (lenS_sl _ _ _) <| rf_s _ (lenS_sl _ _ _) <| rf_s _ (aNe _ _ _) ?_
 refine rf_c (p := ¬ ((a0.length : Int) = (a1.length : Int))) (fun c11 => ?_) (fun c11 => ?_)
 ·exact rf_fin _ (fin_same _ _) ⟨rfl, rfl⟩
 refine rf_s _ (lenS_sl _ _ _) ?_
 refine rf_for (B := Unit) (R := Unit) (fun (i8 : Nat) (s1 : Unit) v w3 => v = [(AV.bool false), (AV.int .i64 (i8 : Int))] ∧ σ = w3) (fun (b2 : Unit) (q : LS) => ∃ u4 u13, q = ((AX.exit 0), ([u4, u13] : List AV), σ)) (fun (b2 : Unit) (q : LS) => ∃ u13, q = (AX.ret, ([(AV.bool false), u13] : List AV), σ)) ?_ ?_ ⟨rfl, rfl⟩ ?_ ?_
 ·intro hle7 i8 e7 s1 v w3 he7 hI
  obtain ⟨rfl, rfl⟩ := hI
  refine rf_s _ (ix_lt he7) <| rf_ct <| rf_s _ (ix_for he7) <| rf_s _ rfl ?_
  refine rf_o (fun x9 : Int => (AV.rp [(AV.int .i64 x9)])) (fun x9 hx9 => ix_at hx9) (fun x9 hx9 => ?_)
  refine rf_s _ rfl <| rf_s _ (aNe _ _ _) ?_
  refine rf_c (p := ¬ (e7 = x9)) (fun c10 => ?_) (fun c10 => ?_)
  ·exact rf_ret (rnd_ret (by simp) ⟨_, rfl⟩)
  refine rf_s _ (ix_inc he7 hle7) ?_
  exact rf_ret (rnd_go ⟨rfl, rfl⟩)
 ·intro hl s1 v w3 hI
  obtain ⟨rfl, rfl⟩ := hI
  refine rf_s _ (ix_end _) <| rf_cf ?_
  exact rf_ret ⟨by simp, ⟨_, _, rfl⟩⟩
 ·intro hl b2 q hq
  obtain ⟨u4, u13, rfl⟩ := hq
  refine rf_bt rfl ?_
  exact rf_fin _ (fin_same _ _) ⟨rfl, rfl⟩
 ·intro hl b2 q hq
  obtain ⟨u13, rfl⟩ := hq
  refine rf_bf rfl <| rf_bt rfl ?_
  exact rf_fin _ (fin_same _ _) ⟨rfl, rfl⟩

end Go.Proofs.YtkdafecbdncmiaaDoor

namespace Go.Proofs.YtkdafecbdncmiaaDoor
set_option linter.unusedSectionVars false
set_option linter.unusedVariables false
set_option linter.unusedSimpArgs false
section
variable {f : Int → List Int} {V : List Int} {a n : Int}
theorem rIn_I (hV : ∀ n k, k ∈ f n → k ∈ V) : ∀ (r st seen : List Int), ReI f V a (some (n, r)) st seen → seen.length + unS V seen ≤ V.length →
  ReI f V a none (rIn r st seen).1 (rIn r st seen).2 ∧ mSt V (rIn r st seen).1 (rIn r st seen).2 ≤ mSt V st seen ∧ (rIn r st seen).2.length + unS V (rIn r st seen).2 ≤ V.length
 | [], st, seen, H, hK => ⟨H.done, Nat.le_refl _, hK⟩
 | k :: r, st, seen, H, hK => by
  rw [rIn]
  by_cases hk : k ∈ seen
  ·rw [if_pos hk]; exact rIn_I hV r st seen (H.skip hk) hK
  ·rw [if_neg hk]
   have hkV : k ∈ V := hV n k ((H.here n _ rfl).2 k (by simp))
   have hlt := unS_lt hkV hk
   obtain ⟨h1, h2, h3⟩ := rIn_I hV r (st ++ [k]) (seen ++ [k]) (H.push hk hkV) (by rw [List.length_append, List.length_singleton]; omega)
   refine ⟨h1, Nat.le_trans h2 ?_, h3⟩
   unfold mSt; rw [List.length_append, List.length_singleton]; omega
theorem rGo_I (hV : ∀ n k, k ∈ f n → k ∈ V) : ∀ (m : Nat) (st seen : List Int), ReI f V a none st seen → mSt V st seen ≤ m → seen.length + unS V seen ≤ V.length → ReI f V a none [] (rGo f m st seen) ∧ (rGo f m st seen).length ≤ V.length
 | 0, st, seen, H, hM, hK => by
  have : st = [] := List.eq_nil_of_length_eq_zero (by unfold mSt at hM; omega)
  subst this
  exact ⟨H, by show seen.length ≤ _; omega⟩
 | m + 1, st, seen, H, hM, hK => by
  rcases List.eq_nil_or_concat st with rfl | ⟨st', n, rfl⟩
  ·rw [rGo_nil]; exact ⟨H, by omega⟩
  ·rw [List.concat_eq_append] at *
   rw [rGo_snoc]
   obtain ⟨h1, h2, h3⟩ := rIn_I hV (f n) st' seen (H.pop (fun x => by simp [or_comm]) (by simp)) hK
   exact rGo_I hV m _ _ h1 (by unfold mSt at hM h2 ⊢; simp at hM; omega) h3
end
theorem reachL_mem (U : List (Int × List Int)) (a x : Int) : x ∈ reachL U a ↔ Rch (nx U) a x :=
 (rGo_I (V := uVals U) (fun _ _ h => nx_mem h) _ [a] [] .start (by have := unS_le (uVals U) []; unfold mSt; simp; omega) (by have := unS_le (uVals U) []; simp; omega)).1.fin x
theorem uses_some (l : List GroupD) (n : Int) : (tfind n (usesL l)).isSome = (grpO l n).isSome := by
 unfold usesL grpO
 induction l with
 | nil => rfl
 | cons g l ih =>
  rw [List.map_cons, tfind, List.find?_cons]
  by_cases h : g.number = n
  ·rw [if_pos h.symm, decide_eq_true h]; rfl
  ·rw [if_neg (Ne.symm h), decide_eq_false h]; exact ih
theorem uses_get {l : List GroupD} (hn : (l.map GroupD.number).Nodup) {g : GroupD} (hg : g ∈ l) : (tfind g.number (usesL l)).getD [] = pNamed 2 g.pick := by
 unfold usesL
 induction l with
 | nil => cases hg
 | cons x l ih =>
  rw [List.map_cons, List.nodup_cons] at hn
  rw [List.map_cons, tfind]
  rcases List.mem_cons.1 hg with rfl | hg
  ·rw [if_pos rfl]; rfl
  ·rw [if_neg (fun e => hn.1 (List.mem_map.2 ⟨g, hg, e⟩))]
   exact ih hn.2 hg
theorem adj_lt {l : List Int} (h : ∀ j (hj : j + 1 < l.length), l[j] < l[j + 1]) : l.Pairwise (· < ·) := by
 rw [List.pairwise_iff_getElem]
 intro i j hi hj hij
 obtain ⟨d, rfl⟩ : ∃ d, j = i + 1 + d := ⟨j - i - 1, by omega⟩
 clear hij
 induction d with
 | zero => exact h i hj
 | succ d ih => exact Int.lt_trans (ih (by omega)) (h (i + 1 + d) hj)
def chkG (l : List GroupD) (i : Nat) (g : GroupD) : Int := if ¬ (withinB g.number 1 999 = true) then 1 else if 0 < i ∧ g.number ≤ (pv l i).number then 7 else checkF g.pick
def okG (l : List GroupD) : Prop := l.length ≤ mxl ∧ (∀ g ∈ l, pSize g.pick ≤ 2000000) ∧ (gVals l).length + 1 ≤ apM
theorem okG_of {l : List GroupD} (h1 : l.length ≤ mxl) (h2 : (l.map fun g => pSize g.pick).sum ≤ 1048576) : okG l := by
 have hm : ∀ (l : List GroupD) g, g ∈ l → pSize g.pick ≤ (l.map fun g => pSize g.pick).sum := by
  intro l
  induction l with
  | nil => intro g hg; cases hg
  | cons x l ih =>
   intro g hg
   rw [List.map_cons, List.sum_cons]
   rcases List.mem_cons.1 hg with rfl | hg
   ·omega
   ·have := ih g hg; omega
 have hv : ∀ l : List GroupD, (gVals l).length ≤ (l.map fun g => pSize g.pick).sum := by
  intro l
  unfold gVals
  induction l with
  | nil => simp
  | cons x l ih =>
   rw [List.flatMap_cons, List.length_append, List.map_cons, List.sum_cons]
   have := pNamed_len 2 x.pick
   omega
 refine ⟨h1, fun g hg => Nat.le_trans (hm l g hg) (by omega), ?_⟩
 have := hv l
 unfold apM; omega
theorem checkF_pk {p : PickD} (h : pSize p ≤ 2000000) : t_pick_Check p = some (checkF p) := by
 unfold t_pick_Check checkF
 rw [tq_pos h, tq_pos h, Option.bind_some, Option.bind_some]
 by_cases hc : 200 < pSize p ∨ 12 < pDeep p
 ·rw [if_pos hc, if_pos (by simp; omega)]
 ·rw [if_neg hc, if_neg (by simp; omega)]
theorem nodup_of {l : List GroupD} (h : chkE (chkG l) l 0 = 0) : (l.map GroupD.number).Nodup := by
 have h0 := (chkE_zero l 0).1 h
 have : (l.map GroupD.number).Pairwise (· < ·) := by
  refine adj_lt fun j hj => ?_
  rw [List.length_map] at hj
  have hx : l[j + 1]? = some l[j + 1] := List.getElem?_eq_getElem hj
  have h1 := h0 (j + 1) _ hx
  unfold chkG at h1
  rw [Nat.zero_add] at h1
  have hp : pv l (j + 1) = l[j] := by unfold pv; simp [List.getD, List.getElem?_eq_getElem (by omega : j < l.length)]
  rw [hp] at h1
  split at h1
  ·cases h1
  ·split at h1
   ·cases h1
   ·rename_i q
    simp only [List.getElem_map]
    by_cases hq : l[j].number < l[j + 1].number
    ·exact hq
    ·exact absurd ⟨by omega, by omega⟩ q
 exact this.imp fun h => Int.ne_of_lt h
noncomputable def grpF (l : List GroupD) : Int :=
 if 200 < l.length then 2 else if chkE (chkG l) l 0 ≠ 0 then chkE (chkG l) l 0
 else if chkE (fun _ g => chkE (fun _ n => if (grpO l n).isSome then 0 else 8) (pNamed 2 g.pick) 0) l 0 ≠ 0 then chkE (fun _ g => chkE (fun _ n => if (grpO l n).isSome then 0 else 8) (pNamed 2 g.pick) 0) l 0
 else chkE (fun _ g => if g.number ∈ reachL (usesL l) g.number then 11 else 0) l 0
theorem chk1 {q : PickD → Option Int} {l : List GroupD} {i : Nat} {x : GroupD} (hl : l.length ≤ mxl) (hx : l[i]? = some x) (hq : q x.pick = some (checkF x.pick)) : (if (!(withinB x.number 1 999)) = true then some (.ret 1) else (if decide (0 < (i : Int)) = true then tIx l (IntKind.i64.wrap ((i : Int) - 1)) else some default).bind fun x9 =>
   if ((decide (0 < (i : Int))) && (decide (x.number ≤ x9.number))) = true then some (.ret 7) else (q x.pick).bind fun r10 => if ¬ (r10 = 0) then some (.ret r10) else some (.go ()) : Option (Lr Unit Unit Int)) = some (if chkG l i x = 0 then .go () else .ret (chkG l i x)) := by
 rw [prev_at hx hl, Option.bind_some, hq, Option.bind_some]
 unfold chkG
 cases hw : withinB x.number 1 999
 ·simp
 ·by_cases hp : 0 < i ∧ x.number ≤ (pv l i).number
  ·simp [hp]
  ·have : ¬ ((decide (0 < (i : Int))) && (decide (x.number ≤ (pv l i).number))) = true := by
    simp only [Bool.and_eq_true, decide_eq_true_eq]; omega
   rw [if_neg this]
   simp only [Bool.not_true, Bool.false_eq_true, if_false, not_true_eq_false, if_neg hp]
   by_cases hc : checkF x.pick = 0 <;> simp [hc]
theorem okG_vals {l : List GroupD} (h : okG l) : (uVals (usesL l)).length + 1 ≤ apM := by rw [← gVals_eq]; exact h.2.2
theorem named_mx {l : List GroupD} (h : okG l) {g : GroupD} (hg : g ∈ l) : (pNamed 2 g.pick).length ≤ mxl := by
 have := pNamed_len 2 g.pick; have := h.2.1 g hg; unfold mxl; omega
theorem chkGroups_pk {l : List GroupD} (h : okG l) : t_pick_CheckGroups l = some (grpF l) := by
 unfold t_pick_CheckGroups grpF
 by_cases h2 : 200 < l.length
 ·rw [if_pos (by omega), if_pos h2]
 ·rw [if_neg (by omega), if_neg h2]
  rw [forE_chk (f := chkG l) h.1 (fun i x hx => chk1 h.1 hx (checkF_pk (h.2.1 x (List.mem_of_getElem? hx)))) rfl]
  by_cases h1 : chkE (chkG l) l 0 = 0
  ·rw [if_pos h1, if_neg (fun k => k h1)]
   have hn := nodup_of h1
   rw [tq_pos ⟨hn, h.2.1, h.1⟩, Option.bind_some]
   rw [forE_chk (f := fun _ g => chkE (fun _ n => if (grpO l n).isSome then 0 else 8) (pNamed 2 g.pick) 0) h.1 (fun i x hx => by
    have hm := List.mem_of_getElem? hx
    simp only [uses_get hn hm]
    rw [forE_chk (f := fun _ n => if (grpO l n).isSome then 0 else 8) (named_mx h hm) (fun j n _ => by
     rw [uses_some]; cases (grpO l n).isSome <;> rfl) rfl]
    exact elim_ret _) rfl]
   by_cases h3 : chkE (fun _ g => chkE (fun _ n => if (grpO l n).isSome then 0 else 8) (pNamed 2 g.pick) 0) l 0 = 0
   ·rw [if_pos h3, if_neg (fun k => k h3)]
    rw [forE_chk (f := fun _ g => if g.number ∈ reachL (usesL l) g.number then 11 else 0) h.1 (fun i x hx => by
     rw [tq_pos (okG_vals h), Option.bind_some, tfind_setP]
     by_cases hr : x.number ∈ reachL (usesL l) x.number <;> simp [hr]) rfl]
    split
    ·rename_i q; rw [q]
    ·rfl
   ·rw [if_neg h3, if_pos h3]
  ·rw [if_neg h1, if_pos h1]
theorem grpF_len {l : List GroupD} (h : grpF l = 0) : l.length ≤ 200 := by
 unfold grpF at h
 split at h
 ·cases h
 ·omega
theorem grpF_nodup {l : List GroupD} (h : grpF l = 0) : (l.map GroupD.number).Nodup := by
 unfold grpF at h
 split at h
 ·cases h
 ·split at h
  ·rename_i q; exact absurd h q
  ·rename_i q; exact nodup_of (by simpa using q)
theorem eqI_self (l : List Int) (hl : l.length ≤ mxl) : t_slices_Equal_int l l = some true := by
 unfold t_slices_Equal_int
 rw [if_neg (fun k => k rfl), forE_st (fun _ => ()) hl rfl]
 ·rfl
 ·intro i x hx
  rw [tIx_get (by omega) (by simpa using hx), Option.bind_some, if_neg (fun k => k rfl)]
end Go.Proofs.YtkdafecbdncmiaaDoor

namespace Go.Proofs.YtkdafecbdncmiaaDoor
set_option linter.unusedSectionVars false
set_option linter.unusedVariables false
set_option linter.unusedSimpArgs false
set_option maxRecDepth 100000
mutual
theorem mem_names (k x : Int) : ∀ p : PickD, (k, x) ∈ pNames p ↔ (k = 2 ∨ k = 3) ∧ x ∈ pNamed k p
 | .mk kd f t l => by
  rw [pNames, pNamed, List.mem_append, List.mem_append, mem_namess k x l]
  by_cases h : kd = k
  ·subst h
   by_cases h2 : kd = 2 ∨ kd = 3
   ·simp [h2]
   ·simp [h2]
  ·have h1 : ¬ k = kd := fun e => h e.symm
   by_cases h2 : kd = 2 ∨ kd = 3
   ·simp [h, h1, h2]
   ·simp [h, h2]
theorem mem_namess (k x : Int) : ∀ l : List PickD, (k, x) ∈ pNamess l ↔ (k = 2 ∨ k = 3) ∧ x ∈ pNameds k l
 | [] => by simp [pNamess, pNameds]
 | p :: l => by
  rw [pNamess, pNameds, List.mem_append, List.mem_append, mem_names k x p, mem_namess k x l]
  constructor
  ·rintro (h | h)
   ·exact ⟨h.1, .inl h.2⟩
   ·exact ⟨h.1, .inr h.2⟩
  ·rintro ⟨h, h' | h'⟩
   ·exact .inl ⟨h, h'⟩
   ·exact .inr ⟨h, h'⟩
end
theorem names_kind {k x : Int} {p : PickD} (h : (k, x) ∈ pNames p) : k = 2 ∨ k = 3 := ((mem_names k x p).1 h).1
theorem pNameds_mem {k : Int} {q : PickD} {x : Int} : ∀ {l : List PickD}, q ∈ l → x ∈ pNamed k q → x ∈ pNameds k l
 | p :: l, h, hx => by
  rw [pNameds, List.mem_append]
  rcases List.mem_cons.1 h with rfl | h
  ·exact .inl hx
  ·exact .inr (pNameds_mem h hx)
section
variable (gs : List (Int × PickD)) (ps : List (Int × List Int))
def mStep (f : PickD → List Int → Bool × List Int) (st : Bool × List Int) (x : Int × Int) : Bool × List Int :=
 if st.1 = true then st else if x.1 = 3 then ((tfind x.2 ps).isNone, st.2)
 else match tfind x.2 gs with
  | none => (true, st.2)
  | some g => if x.2 ∈ st.2 then st else f g (st.2 ++ [x.2])
def missP : Nat → PickD → List Int → Bool × List Int
 | 0, _, S => (false, S)
 | n + 1, p, S => (pNames p).foldl (mStep gs ps (missP n)) (false, S)
def knwB : Nat → PickD → Bool
 | 0, _ => false
 | n + 1, p => ((pNamed 3 p).all fun x => (tfind x ps).isSome) && ((pNamed 2 p).all fun x => match tfind x gs with | none => false | some g => knwB n g)
def Dp : Nat → PickD → Prop
 | 0, _ => False
 | n + 1, p => ∀ x ∈ pNamed 2 p, ∀ g, tfind x gs = some g → Dp n g
def NmIn (l : List (Int × Int)) (S : List Int) : Prop := ∀ x ∈ l, if x.1 = 3 then (tfind x.2 ps).isSome = true else (tfind x.2 gs).isSome = true ∧ x.2 ∈ S
def ClS (S0 S : List Int) : Prop := ∀ y ∈ S, y ∉ S0 → ∃ g, tfind y gs = some g ∧ NmIn gs ps (pNames g) S
def BadN (x : Int × Int) : Prop := if x.1 = 3 then tfind x.2 ps = none else ∀ g, tfind x.2 gs = some g → ∀ m, knwB gs ps m g = false
theorem NmIn.mono {l : List (Int × Int)} {S S' : List Int} (h : NmIn gs ps l S) (hs : ∀ x ∈ S, x ∈ S') : NmIn gs ps l S' := by
 intro x hx
 have := h x hx
 split
 ·rename_i q; rw [if_pos q] at this; exact this
 ·rename_i q; rw [if_neg q] at this; exact ⟨this.1, hs _ this.2⟩
theorem mStep_t (f : PickD → List Int → Bool × List Int) (S : List Int) : ∀ l : List (Int × Int), l.foldl (mStep gs ps f) (true, S) = (true, S)
 | [] => rfl
 | x :: l => by rw [List.foldl_cons, show mStep gs ps f (true, S) x = (true, S) from if_pos rfl, mStep_t f S l]
theorem unS_mono {S S' : List Int} (h : ∀ x ∈ S, x ∈ S') : ∀ V : List Int, unS V S' ≤ unS V S
 | [] => Nat.le_refl _
 | x :: V => by
  have := unS_mono h V
  unfold unS at this ⊢
  simp only [List.filter_cons]
  by_cases h1 : x ∈ S
  ·rw [if_neg (by simp [h x h1]), if_neg (by simp [h1])]; exact this
  ·by_cases h2 : x ∈ S'
   ·rw [if_neg (by simp [h2]), if_pos (by simp [h1]), List.length_cons]; omega
   ·rw [if_pos (by simp [h2]), if_pos (by simp [h1]), List.length_cons, List.length_cons]; omega
theorem key_mem {k : Int} {g : PickD} (h : tfind k gs = some g) : k ∈ gs.map (·.1) := List.mem_map.2 ⟨(k, g), tfind_mem h, rfl⟩
theorem bad_not {n : Nat} {p : PickD} {x : Int × Int} (hx : x ∈ pNames p) (hb : BadN gs ps x) : knwB gs ps n p = false := by
 cases n with
 | zero => rfl
 | succ n =>
  obtain ⟨k, y⟩ := x
  obtain ⟨h1, h2⟩ := (mem_names k y p).1 hx
  unfold BadN at hb
  rw [knwB, Bool.and_eq_false_iff]
  by_cases h3 : k = 3
  ·subst h3
   simp only [if_true] at hb
   left
   rw [List.all_eq_false]
   exact ⟨y, h2, by rw [hb]; decide⟩
  ·simp only [h3, if_false] at hb
   right
   have h4 : k = 2 := by rcases h1 with h | h; exact h; exact absurd h h3
   subst h4
   rw [List.all_eq_false]
   refine ⟨y, h2, ?_⟩
   cases hg : tfind y gs with
   | none => simp
   | some g => simp [hb g hg n]
theorem miss_post : ∀ (n : Nat) (p : PickD) (S : List Int), unS (gs.map (·.1)) S < n →
  (∀ x ∈ S, x ∈ (missP gs ps n p S).2) ∧ ((missP gs ps n p S).1 = false → NmIn gs ps (pNames p) (missP gs ps n p S).2 ∧ ClS gs ps S (missP gs ps n p S).2) ∧ ((missP gs ps n p S).1 = true → ∃ x ∈ pNames p, BadN gs ps x)
 | 0, p, S, h => by omega
 | n + 1, p, S, h => by
  have hf : ∀ (l : List (Int × Int)) (S : List Int), (∀ x ∈ l, x.1 = 2 ∨ x.1 = 3) → unS (gs.map (·.1)) S < n + 1 → ∀ r, l.foldl (mStep gs ps (missP gs ps n)) (false, S) = r →
    (∀ x ∈ S, x ∈ r.2) ∧ (r.1 = false → NmIn gs ps l r.2 ∧ ClS gs ps S r.2) ∧ (r.1 = true → ∃ x ∈ l, BadN gs ps x) := by
   intro l
   induction l with
   | nil =>
    rintro S _ _ r rfl
    exact ⟨fun x hx => hx, fun _ => ⟨fun x hx => (by cases hx), fun y hy hn => absurd hy hn⟩, fun h => by cases h⟩
   | cons x l ih =>
    rintro S hl hS r hr
    have hl' : ∀ y ∈ l, y.1 = 2 ∨ y.1 = 3 := fun y hy => hl y (List.mem_cons_of_mem _ hy)
    rw [List.foldl_cons] at hr
    unfold mStep at hr
    simp only [Bool.false_eq_true, if_false] at hr
    by_cases h3 : x.1 = 3
    ·rw [if_pos h3] at hr
     cases hp : tfind x.2 ps with
     | none =>
      rw [hp] at hr
      have hr2 : r = (true, S) := hr.symm.trans (mStep_t gs ps (missP gs ps n) S l)
      subst hr2
      exact ⟨fun y hy => hy, fun h => (by cases h), fun _ => ⟨x, List.mem_cons_self, by unfold BadN; rw [if_pos h3]; exact hp⟩⟩
     | some v =>
      rw [hp] at hr
      obtain ⟨q1, q2, q3⟩ := ih S hl' hS r hr
      refine ⟨q1, fun h => ⟨fun y hy => ?_, (q2 h).2⟩, fun h => ?_⟩
      ·rcases List.mem_cons.1 hy with rfl | hy
       ·rw [if_pos h3, hp]; rfl
       ·exact (q2 h).1 y hy
      ·obtain ⟨y, hy, hb⟩ := q3 h
       exact ⟨y, List.mem_cons_of_mem _ hy, hb⟩
    ·rw [if_neg h3] at hr
     cases hg : tfind x.2 gs with
     | none =>
      simp only [hg] at hr
      have hr2 : r = (true, S) := hr.symm.trans (mStep_t gs ps (missP gs ps n) S l)
      subst hr2
      exact ⟨fun y hy => hy, fun h => (by cases h), fun _ => ⟨x, List.mem_cons_self, by unfold BadN; rw [if_neg h3]; intro g hg'; rw [hg] at hg'; cases hg'⟩⟩
     | some g =>
      simp only [hg] at hr
      by_cases hx : x.2 ∈ S
      ·rw [if_pos hx] at hr
       obtain ⟨q1, q2, q3⟩ := ih S hl' hS r hr
       refine ⟨q1, fun h => ⟨fun y hy => ?_, (q2 h).2⟩, fun h => ?_⟩
       ·rcases List.mem_cons.1 hy with rfl | hy
        ·rw [if_neg h3, hg]; exact ⟨rfl, q1 _ hx⟩
        ·exact (q2 h).1 y hy
       ·obtain ⟨y, hy, hb⟩ := q3 h
        exact ⟨y, List.mem_cons_of_mem _ hy, hb⟩
      ·rw [if_neg hx] at hr
       have hlt := unS_lt (key_mem gs hg) hx
       obtain ⟨p1, p2, p3⟩ := miss_post n g (S ++ [x.2]) (by omega)
       generalize missP gs ps n g (S ++ [x.2]) = w at hr p1 p2 p3
       obtain ⟨b, S2⟩ := w
       have hS2 : ∀ y ∈ S, y ∈ S2 := fun y hy => p1 y (List.mem_append_left _ hy)
       cases b with
       | true =>
        have hr2 : r = (true, S2) := hr.symm.trans (mStep_t gs ps (missP gs ps n) S2 l)
        subst hr2
        refine ⟨hS2, fun h => (by cases h), fun _ => ⟨x, List.mem_cons_self, ?_⟩⟩
        unfold BadN
        rw [if_neg h3]
        intro g' hg' m
        rw [hg] at hg'
        injection hg' with hg'
        subst hg'
        obtain ⟨y, hy, hb⟩ := p3 rfl
        exact bad_not gs ps hy hb
       | false =>
        obtain ⟨p4, p5⟩ := p2 rfl
        obtain ⟨q1, q2, q3⟩ := ih S2 hl' (Nat.lt_of_le_of_lt (unS_mono hS2 _) hS) r hr
        refine ⟨fun y hy => q1 y (hS2 y hy), fun h => ⟨fun y hy => ?_, fun y hy hn => ?_⟩, fun h => ?_⟩
        ·rcases List.mem_cons.1 hy with rfl | hy
         ·rw [if_neg h3, hg]; exact ⟨rfl, q1 _ (p1 _ (by simp))⟩
         ·exact (q2 h).1 y hy
        ·by_cases h2 : y ∈ S2
         ·by_cases hyx : y = x.2
          ·subst hyx
           exact ⟨g, hg, NmIn.mono gs ps p4 q1⟩
          ·obtain ⟨g', e1, e2⟩ := p5 y h2 (by simp [hn, hyx])
           exact ⟨g', e1, NmIn.mono gs ps e2 q1⟩
         ·exact (q2 h).2 y hy h2
        ·obtain ⟨y, hy, hb⟩ := q3 h
         exact ⟨y, List.mem_cons_of_mem _ hy, hb⟩
  exact hf (pNames p) S (fun x hx => names_kind (k := x.1) (x := x.2) hx) h _ rfl
theorem cl_known {S : List Int} (hc : ClS gs ps [] S) : ∀ (m : Nat) (q : PickD), Dp gs m q → NmIn gs ps (pNames q) S → knwB gs ps m q = true
 | 0, q, hd, _ => hd.elim
 | m + 1, q, hd, hn => by
  rw [Dp] at hd
  rw [knwB, Bool.and_eq_true, List.all_eq_true, List.all_eq_true]
  refine ⟨fun x hx => ?_, fun x hx => ?_⟩
  ·have := hn (3, x) ((mem_names 3 x q).2 ⟨.inr rfl, hx⟩)
   simpa using this
  ·have h1 := hn (2, x) ((mem_names 2 x q).2 ⟨.inl rfl, hx⟩)
   simp only [show ¬ (2 : Int) = 3 by decide, if_false] at h1
   obtain ⟨h1, h2⟩ := h1
   obtain ⟨g, hg⟩ := Option.isSome_iff_exists.1 h1
   simp only [hg]
   obtain ⟨g', e1, e2⟩ := hc x h2 (by simp)
   rw [hg] at e1
   injection e1 with e1
   subst e1
   exact cl_known hc m g (hd x hx g hg) e2
theorem miss_iff {n m : Nat} {p : PickD} (hn : gs.length < n) (hd : Dp gs m p) : (missP gs ps n p []).1 = !knwB gs ps m p := by
 have hu : unS (gs.map (·.1)) [] < n := by have := unS_le (gs.map (·.1)) []; rw [List.length_map] at this; omega
 obtain ⟨_, h2, h3⟩ := miss_post gs ps n p [] hu
 cases hb : (missP gs ps n p []).1 with
 | true =>
  obtain ⟨x, hx, hb'⟩ := h3 hb
  rw [bad_not gs ps hx hb']; rfl
 | false =>
  obtain ⟨e1, e2⟩ := h2 hb
  rw [cl_known gs ps e2 m p hd e1]; rfl
theorem pChk_args {p : PickD} (h : pChk p = 0) : partF p.kind p.frm p.to p.args.length = 0 ∧ ∀ a ∈ p.args, pChk a = 0 := by
 have hl : ∀ l : List PickD, pChks l = 0 → ∀ a ∈ l, pChk a = 0 := by
  intro l
  induction l with
  | nil => intro _ a ha; cases ha
  | cons x l ih =>
   intro h a ha
   rw [pChks] at h
   split at h
   ·rcases List.mem_cons.1 ha with rfl | ha
    ·assumption
    ·exact ih h a ha
   ·rename_i q; exact absurd h q
 cases p with
 | mk k f t l =>
  rw [pChk] at h
  split at h
  ·rename_i q; exact ⟨q, hl l h⟩
  ·rename_i q; exact absurd h q
def Right (p : PickD) : Prop := pSize p ≤ 200 ∧ pDeep p ≤ 12 ∧ pChk p = 0
theorem right_of {p : PickD} (h : checkF p = 0) : Right p := by
 unfold checkF at h
 split at h
 ·cases h
 ·rename_i q; exact ⟨by omega, by omega, h⟩
theorem args_size (p : PickD) : p.args.length ≤ pSize p := by
 have : ∀ l : List PickD, l.length ≤ pSizes l := by
  intro l
  induction l with
  | nil => simp [pSizes]
  | cons x l ih =>
   rw [pSizes, List.length_cons]
   have : 1 ≤ pSize x := by rw [pSize_eq]; omega
   omega
 rw [pSize_eq]
 have := this p.args
 omega
theorem rk_of (M : Nat) : ∀ (d : Nat) (p : PickD), pDeep p ≤ d → pSize p ≤ 200 → pChk p = 0 → (∀ x ∈ pNamed 3 p, (tfind x ps).isSome = true) → (∀ x ∈ pNamed 2 p, ∃ g, tfind x gs = some g ∧ Rk gs ps M g) → Rk gs ps (M + d) p
 | 0, p, h, _, _, _, _ => by have := pDeep_pos p; omega
 | d + 1, p, h, hs, hc, h3, h2 => by
  obtain ⟨c1, c2⟩ := pChk_args hc
  rw [← Nat.add_assoc, Rk]
  refine ⟨c1, by have := args_size p; omega, fun a ha => ?_, fun hk => ?_, fun hk => ?_⟩
  ·have hsz := pSize_arg ha
   have hdp := pDeeps_mem ha
   rw [pDeep_eq] at h
   refine rk_of M d a (by omega) (by omega) (c2 a ha) (fun x hx => h3 x ?_) (fun x hx => h2 x ?_)
   ·rw [pNamed_eq, List.mem_append]; exact .inr (pNameds_mem ha hx)
   ·rw [pNamed_eq, List.mem_append]; exact .inr (pNameds_mem ha hx)
  ·obtain ⟨g, e1, e2⟩ := h2 p.frm (by rw [pNamed_eq, if_pos hk]; simp)
   exact ⟨g, e1, Rk_up gs ps e2 (by omega)⟩
  ·exact Option.isSome_iff_exists.1 (h3 p.frm (by rw [pNamed_eq, if_pos hk]; simp))
theorem rk_main (hgs : ∀ k g, tfind k gs = some g → Right g) : ∀ (m : Nat) (p : PickD), Right p → knwB gs ps m p = true → Rk gs ps (m * 12) p
 | 0, p, _, h => by cases h
 | m + 1, p, hp, h => by
  rw [knwB, Bool.and_eq_true, List.all_eq_true, List.all_eq_true] at h
  rw [Nat.add_mul, Nat.one_mul]
  refine rk_of gs ps (m * 12) 12 p hp.2.1 hp.1 hp.2.2 h.1 fun x hx => ?_
  have := h.2 x hx
  cases hg : tfind x gs with
  | none => rw [hg] at this; cases this
  | some g =>
   rw [hg] at this
   exact ⟨g, rfl, rk_main hgs m g (hgs x g hg) this⟩
end
theorem flt_lt {P Q : Int → Bool} : ∀ {V : List Int}, (∀ x ∈ V, P x = true → Q x = true) → ∀ {z : Int}, z ∈ V → Q z = true → P z = false → (V.filter P).length < (V.filter Q).length
 | [], _, z, hz, _, _ => by cases hz
 | x :: V, h, z, hz, h1, h2 => by
  have hle : ∀ V : List Int, (∀ x ∈ V, P x = true → Q x = true) → (V.filter P).length ≤ (V.filter Q).length := by
   intro V
   induction V with
   | nil => intro _; exact Nat.le_refl _
   | cons y V ih =>
    intro hV
    have := ih fun y hy => hV y (List.mem_cons_of_mem _ hy)
    simp only [List.filter_cons]
    cases hp : P y
    ·cases hq : Q y
     ·simpa using this
     ·simp; omega
    ·rw [hV y List.mem_cons_self hp]; simpa using this
  have h' : ∀ y ∈ V, P y = true → Q y = true := fun y hy => h y (List.mem_cons_of_mem _ hy)
  simp only [List.filter_cons]
  by_cases hzx : z = x
  ·subst hzx
   rw [h1, h2]
   have := hle V h'
   simp; omega
  ·have hzV : z ∈ V := by simpa [hzx] using hz
   have := flt_lt h' hzV h1 h2
   cases hp : P x
   ·cases hq : Q x
    ·simpa using this
    ·simp; omega
   ·rw [h x List.mem_cons_self hp]; simpa using this
theorem Rch.trans {f : Int → List Int} {x y z : Int} (h : Rch f x y) (k : Rch f y z) : Rch f x z := by
 induction k with
 | one q => exact .step h q
 | step _ q ih => exact .step ih q
theorem uses_gs (gl : List GroupD) (x : Int) : tfind x (usesL gl) = (tfind x (gsOf gl)).map (pNamed 2) := by
 unfold usesL gsOf
 induction gl with
 | nil => rfl
 | cons g l ih =>
  rw [List.map_cons, List.map_cons, tfind, tfind]
  by_cases h : x = g.number
  ·rw [if_pos h, if_pos h]; rfl
  ·rw [if_neg h, if_neg h]; exact ih
open Classical in
theorem dp_group {gl : List GroupD} (hl : ∀ g ∈ gl, ¬ Rch (nx (usesL gl)) g.number g.number) : ∀ (n : Nat) (x : Int) (g : PickD), tfind x (gsOf gl) = some g → ((gl.map GroupD.number).filter fun y => decide (Rch (nx (usesL gl)) x y)).length < n → Dp (gsOf gl) n g
 | 0, x, g, _, h => by omega
 | n + 1, x, g, hx, h => by
  rw [Dp]
  intro y hy g' hg'
  have hnx : nx (usesL gl) x = pNamed 2 g := by unfold nx; rw [uses_gs, hx]; rfl
  have hxy : Rch (nx (usesL gl)) x y := .one (by rw [hnx]; exact hy)
  have hyk : y ∈ gl.map GroupD.number := by
   have := key_mem (gsOf gl) hg'
   unfold gsOf at this
   rwa [List.map_map] at this
  obtain ⟨G, hG, hGy⟩ := List.mem_map.1 hyk
  have hno : ¬ Rch (nx (usesL gl)) y y := by rw [← hGy]; exact hl G hG
  refine dp_group hl n y g' hg' ?_
  have := flt_lt (P := fun z => decide (Rch (nx (usesL gl)) y z)) (Q := fun z => decide (Rch (nx (usesL gl)) x z)) (V := gl.map GroupD.number) (fun z _ hz => decide_eq_true (hxy.trans (of_decide_eq_true hz))) hyk (decide_eq_true hxy) (decide_eq_false hno)
  omega
theorem dp_all {gl : List GroupD} (hl : ∀ g ∈ gl, ¬ Rch (nx (usesL gl)) g.number g.number) (p : PickD) : Dp (gsOf gl) (gl.length + 2) p := by
 rw [Dp]
 intro x hx g hg
 refine dp_group hl _ x g hg ?_
 have := List.length_filter_le (fun y => @decide (Rch (nx (usesL gl)) x y) (Classical.propDecidable _)) (gl.map GroupD.number)
 rw [List.length_map] at this
 omega
theorem grpF_loop {gl : List GroupD} (h : grpF gl = 0) : ∀ g ∈ gl, ¬ Rch (nx (usesL gl)) g.number g.number := by
 intro g hg hr
 unfold grpF at h
 split at h
 ·cases h
 split at h
 ·rename_i q; exact absurd h q
 split at h
 ·rename_i q; exact absurd h q
 obtain ⟨i, hi⟩ := List.mem_iff_getElem?.1 hg
 have := (chkE_zero gl 0).1 h i g hi
 rw [if_pos ((reachL_mem _ _ _).2 hr)] at this
 cases this
theorem grpF_right {gl : List GroupD} (h : grpF gl = 0) : ∀ g ∈ gl, Right g.pick := by
 intro g hg
 unfold grpF at h
 split at h
 ·cases h
 split at h
 ·rename_i q; exact absurd h q
 rename_i q
 obtain ⟨i, hi⟩ := List.mem_iff_getElem?.1 hg
 have := (chkE_zero gl 0).1 (by simpa using q) i g hi
 unfold chkG at this
 split at this
 ·cases this
 split at this
 ·cases this
 exact right_of this
theorem nodup_len : ∀ {l W : List Int}, l.Nodup → (∀ x ∈ l, x ∈ W) → l.length ≤ W.length
 | [], W, _, _ => Nat.zero_le _
 | x :: l, W, h, hs => by
  obtain ⟨h1, h2⟩ := List.nodup_cons.1 h
  have hx := hs x List.mem_cons_self
  have := nodup_len (W := W.erase x) h2 fun y hy => (List.mem_erase_of_ne (fun e => h1 (by rw [← e]; exact hy))).2 (hs y (List.mem_cons_of_mem _ hy))
  rw [List.length_erase_of_mem hx] at this
  have := List.length_pos_of_mem hx
  rw [List.length_cons]; omega
theorem onceF_nodup (l : List Int) : (onceF l).Nodup ∧ ∀ x, x ∈ onceF l → x ∈ l := by
 have h : ∀ (l o : List Int), o.Nodup → (l.foldl (fun o n => if n ∈ o then o else o ++ [n]) o).Nodup ∧ ∀ x, x ∈ l.foldl (fun o n => if n ∈ o then o else o ++ [n]) o → x ∈ o ∨ x ∈ l := by
  intro l
  induction l with
  | nil => intro o h; exact ⟨h, fun x hx => .inl hx⟩
  | cons y l ih =>
   intro o h
   rw [List.foldl_cons]
   by_cases hy : y ∈ o
   ·rw [if_pos hy]
    obtain ⟨a, b⟩ := ih o h
    exact ⟨a, fun x hx => (b x hx).imp id (List.mem_cons_of_mem _)⟩
   ·rw [if_neg hy]
    obtain ⟨a, b⟩ := ih (o ++ [y]) (by rw [List.nodup_append]; exact ⟨h, by simp, fun a ha b hb => by rw [List.mem_singleton.1 hb]; exact fun e => hy (e ▸ ha)⟩)
    refine ⟨a, fun x hx => ?_⟩
    rcases b x hx with h1 | h1
    ·rcases List.mem_append.1 h1 with h1 | h1
     ·exact .inl h1
     ·rw [List.mem_singleton.1 h1]; exact .inr List.mem_cons_self
    ·exact .inr (List.mem_cons_of_mem _ h1)
 obtain ⟨a, b⟩ := h l [] List.nodup_nil
 exact ⟨a, fun x hx => (b x hx).elim (fun h => by cases h) id⟩
theorem evF_sub (s : Nat) : ∀ (k : Nat) (l : List Int) (x : Int), x ∈ evF s k l → x ∈ l
 | _, [], x, h => by simp [evF] at h
 | 0, y :: l, x, h => by
  rw [evF] at h
  rcases List.mem_cons.1 h with rfl | h
  ·exact List.mem_cons_self
  ·exact List.mem_cons_of_mem _ (evF_sub s _ l x h)
 | k + 1, y :: l, x, h => by rw [evF] at h; exact List.mem_cons_of_mem _ (evF_sub s k l x h)
theorem uF_in (U : List Int) (gs : List (Int × PickD)) (ps : List (Int × List Int)) : ∀ (n : Nat) (p : PickD), (∀ x ∈ uF U gs ps n p, x ∈ U ++ ps.flatMap (·.2)) ∧ (uF U gs ps n p).length ≤ (U ++ ps.flatMap (·.2)).length
 | 0, p => ⟨fun x h => (by cases h), Nat.zero_le _⟩
 | n + 1, p => by
  have ih := uF_in U gs ps n
  rw [uF]
  obtain ⟨ras, has⟩ : ∃ ras, ras = p.args.map (uF U gs ps n) := ⟨_, rfl⟩
  have ha : ∀ l ∈ ras, (∀ x ∈ l, x ∈ U ++ ps.flatMap (·.2)) ∧ l.length ≤ (U ++ ps.flatMap (·.2)).length := fun l hl => by
   rw [has] at hl
   obtain ⟨a, _, rfl⟩ := List.mem_map.1 hl
   exact ih a
  have hg : ∀ i, (∀ x ∈ ras.getD i [], x ∈ U ++ ps.flatMap (·.2)) ∧ (ras.getD i []).length ≤ (U ++ ps.flatMap (·.2)).length := fun i => by
   rw [List.getD_eq_getElem?_getD]
   cases h : ras[i]? with
   | none => exact ⟨fun x hx => (by cases hx), Nat.zero_le _⟩
   | some l => exact ha l (List.mem_of_getElem? h)
  rw [← has]
  generalize hW : U ++ ps.flatMap (·.2) = W at *
  have hU : ∀ x ∈ U, x ∈ W := fun x hx => by rw [← hW]; exact List.mem_append_left _ hx
  have hUl : U.length ≤ W.length := by rw [← hW, List.length_append]; omega
  unfold pcomb
  dsimp only
  split
  ·unfold btwF
   split
   ·exact ⟨fun x hx => hU x (List.mem_filter.1 (List.mem_reverse.1 hx)).1, by rw [List.length_reverse]; exact Nat.le_trans (List.length_filter_le _ _) hUl⟩
   ·exact ⟨fun x hx => hU x (List.mem_filter.1 hx).1, Nat.le_trans (List.length_filter_le _ _) hUl⟩
  split
  ·cases tfind p.frm gs with
   | none => exact ⟨fun x hx => (by cases hx), Nat.zero_le _⟩
   | some g => exact ih g
  split
  ·cases hp : tfind p.frm ps with
   | none => exact ⟨fun x hx => (by cases hx), Nat.zero_le _⟩
   | some l =>
    have hm := tfind_mem hp
    refine ⟨fun x hx => ?_, ?_⟩
    ·rw [← hW]; exact List.mem_append_right _ (List.mem_flatMap.2 ⟨_, hm, hx⟩)
    ·have hll : ∀ (ps : List (Int × List Int)) (e : Int × List Int), e ∈ ps → e.2.length ≤ (ps.flatMap (·.2)).length := by
      intro ps e
      induction ps with
      | nil => intro h; cases h
      | cons y ps ih =>
       intro h
       rw [List.flatMap_cons, List.length_append]
       rcases List.mem_cons.1 h with rfl | h
       ·omega
       ·have := ih h; omega
     have := hll ps _ hm
     rw [← hW, List.length_append]
     show l.length ≤ _
     have h2 : l.length ≤ (ps.flatMap (·.2)).length := this
     omega
  split
  ·obtain ⟨h1, h2⟩ := onceF_nodup ras.flatten
   have h3 : ∀ x ∈ onceF ras.flatten, x ∈ W := fun x hx => by
    obtain ⟨l, hl, hxl⟩ := List.mem_flatten.1 (h2 x hx)
    exact (ha l hl).1 x hxl
   exact ⟨h3, nodup_len h1 h3⟩
  split
  ·exact ⟨fun x hx => (hg 0).1 x (List.mem_filter.1 hx).1, Nat.le_trans (List.length_filter_le _ _) (hg 0).2⟩
  split
  ·exact ⟨fun x hx => (hg 0).1 x (evF_sub _ _ _ x hx), Nat.le_trans (everyF_len _ _ _) (hg 0).2⟩
  split
  ·exact ⟨fun x hx => (hg 0).1 x (evF_sub _ _ _ x hx), Nat.le_trans (everyF_len _ _ _) (hg 0).2⟩
  split
  ·exact ⟨fun x hx => (hg 0).1 x (List.mem_reverse.1 hx), by rw [List.length_reverse]; exact (hg 0).2⟩
  ·exact ⟨fun x hx => (hg 0).1 x (evF_sub _ _ _ x hx), Nat.le_trans (everyF_len _ _ _) (hg 0).2⟩
end Go.Proofs.YtkdafecbdncmiaaDoor

namespace Go.Proofs.YtkdafecbdncmiaaDoor
set_option linter.unusedSectionVars false
set_option linter.unusedVariables false
set_option linter.unusedSimpArgs false
set_option maxRecDepth 100000
open HP
section
variable {σ0 σ : Heap} {R : HP} {C : FdC} {kn : List (Int × (AV × List Int))}
theorem fd_og (H : Hs anyB σ0 σ (FdP C kn * R)) (f : Int) : A.lookOk .i (.om C.g) (.int .i64 f) (.agg [.int .i64 0, .int .i64 0, .int .i64 0, .nsl]) σ = some (.tup [((tfind f C.gs).map fun g => AV.agg (cPick g)).getD (.agg [.int .i64 0, .int .i64 0, .int .i64 0, .nsl]), .bool (tfind f C.gs).isSome]) := by
 simp only [A.lookOk, A.keyOk, cond_true, A.entries, fd_gs H, Option.bind_some]
 rw [find_t (eK := fun x : Int => AV.int .i64 x) (eV := fun x : PickD => AV.agg (cPick x)) (eqk_int _)]
 cases tfind f C.gs <;> rfl
theorem fd_op (H : Hs anyB σ0 σ (FdP C kn * R)) (f : Int) : A.lookOk .i (.om C.p) (.int .i64 f) .nsl σ = some (.tup [((tfind f C.ps).map fun l => sl 1 cInt l).getD .nsl, .bool (tfind f C.ps).isSome]) := by
 simp only [A.lookOk, A.keyOk, cond_true, A.entries, fd_ps H, Option.bind_some]
 rw [find_t (eK := fun x : Int => AV.int .i64 x) (eV := fun x : List Int => sl 1 cInt x) (eqk_int _)]
 cases tfind f C.ps <;> rfl
theorem st_box {id : Nat} {b c : Bool} {R : HP} (H : Hs anyB σ0 σ (blk id (.box [.bool b]) * R)) : A.storeAt (.op id 0) [.bool c] σ = some (σ.set id (.box [.bool c])) ∧ Hs anyB σ0 (σ.set id (.box [.bool c])) (blk id (.box [.bool c]) * R) := by
 refine ⟨?_, hs_set H trivial⟩
 simp only [A.storeAt, (hs_get H).2]
 rfl
theorem missing_t (hsz : ∀ k g, tfind k C.gs = some g → pSize g ≤ 200) : ∀ (n N : Nat) (p : PickD) (kn : List (Int × (AV × List Int))) (S : List Int) (sid : Nat) (σ0 σ : Heap) (R : HP), pSize p ≤ 200 → unS (C.gs.map (·.1)) S < n → 2 * n ≤ N → Hs anyB σ0 σ (blk sid (.map (eS S)) * (FdP C kn * R)) →
  ∃ σ', fuel R_pick_finder_missing N 76 [.op C.b 0, .agg (cPick p), .om sid] σ = some (.bool (missP C.gs C.ps n p S).1, σ') ∧ Hs anyB σ0 σ' (blk sid (.map (eS (missP C.gs C.ps n p S).2)) * (FdP C kn * R))
 | 0, N, p, kn, S, sid, σ0, σ, R, hp, hu, hN, H => by omega
 | n + 1, 0, p, kn, S, sid, σ0, σ, R, hp, hu, hN, H => by omega
 | n + 1, 1, p, kn, S, sid, σ0, σ, R, hp, hu, hN, H => by omega
 | n + 1, N + 2, p, kn, S, sid, σ0, σ, R, hp, hu, hN, H => by
  rw [missP]
  obtain ⟨rec2, hrec2⟩ : ∃ rec, rec = fuel R_pick_finder_missing N := ⟨_, rfl⟩
  have hrec : ∀ (q : PickD) (S : List Int) (σ : Heap) (R : HP), pSize q ≤ 200 → unS (C.gs.map (·.1)) S < n → Hs anyB σ0 σ (blk sid (.map (eS S)) * (FdP C kn * R)) → ∃ σ', rec2 76 [.op C.b 0, .agg (cPick q), .om sid] σ = some (.bool (missP C.gs C.ps n q S).1, σ') ∧ Hs anyB σ0 σ' (blk sid (.map (eS (missP C.gs C.ps n q S).2)) * (FdP C kn * R)) := fun q S σ R h1 h2 h3 => by
   rw [hrec2]
   exact missing_t hsz n N q kn S sid σ0 σ R h1 h2 (by omega) h3
  obtain ⟨rec1, hrec1⟩ : ∃ rec, rec = fuel R_pick_finder_missing (N + 1) := ⟨_, rfl⟩
  have h75 : rec1 75 = A.wrap false [] .k (A.ar5 (r_pick_finder_missing_fn1 rec2)) := by rw [hrec1, hrec2]; rfl
  suffices h : ∃ σ', r_pick_finder_missing rec1 (.op C.b 0) (.agg (cPick p)) (.om sid) σ = some (.bool ((pNames p).foldl (mStep C.gs C.ps (missP C.gs C.ps n)) (false, S)).1, σ') ∧ Hs anyB σ0 σ' (blk sid (.map (eS ((pNames p).foldl (mStep C.gs C.ps (missP C.gs C.ps n)) (false, S)).2)) * (FdP C kn * R)) by
   obtain ⟨σ', h1, h3⟩ := h
   refine ⟨σ', ?_, h3⟩
   show A.wrap false [] .k (A.ar3 (r_pick_finder_missing (fuel R_pick_finder_missing (N + 1)))) [.op C.b 0, .agg (cPick p), .om sid] σ = _
   rw [← hrec1]
   unfold A.wrap
   rw [Bool.false_and, cond_false]
   show (r_pick_finder_missing rec1 (.op C.b 0) (.agg (cPick p)) (.om sid) σ).map _ = _
   rw [h1, Option.map_some, nn_k]
  have K1 := hs_new (b := .box [.bool false]) H trivial
  obtain ⟨b, hb⟩ : ∃ b, b = List.length σ := ⟨_, rfl⟩
  rw [← hb] at K1
  obtain ⟨e1, K2⟩ := st_box (c := false) K1
  obtain ⟨s1, hs1⟩ : ∃ s1, s1 = (σ ++ [Blk.box [AV.bool false]]).set b (.box [.bool false]) := ⟨_, rfl⟩
  rw [← hs1] at e1 K2
  obtain ⟨σ', e2, K3, _⟩ := names_t (dyn := A.tab (fun _ _ => none) [(75, rec1 75)]) (c := .fn 75 [.op b 0, .rp [.op C.b 0], .rp [.om sid]]) (fun (st : Bool × List Int) σ' => Hs anyB σ0 σ' (blk b (.box [.bool st.1]) * (blk sid (.map (eS st.2)) * (FdP C kn * R))) ∧ ∀ x ∈ S, x ∈ st.2) (mStep C.gs C.ps (missP C.gs C.ps n)) (sz := fun _ => 0) (pNames p).length (fun _ _ => Nat.zero_le _) (by
   rintro ⟨lk, S1⟩ kd nm s _ ⟨K, hS⟩
   simp only at K hS
   suffices h : ∃ σ', r_pick_finder_missing_fn1 rec2 (.int .i64 kd) (.int .i64 nm) (.op b 0) (.rp [.op C.b 0]) (.rp [.om sid]) s = some (.tup [], σ') ∧ Hs anyB σ0 σ' (blk b (.box [.bool (mStep C.gs C.ps (missP C.gs C.ps n) (lk, S1) (kd, nm)).1]) * (blk sid (.map (eS (mStep C.gs C.ps (missP C.gs C.ps n) (lk, S1) (kd, nm)).2)) * (FdP C kn * R))) ∧ ∀ x ∈ S, x ∈ (mStep C.gs C.ps (missP C.gs C.ps n) (lk, S1) (kd, nm)).2 by
    obtain ⟨σ', h1, h2⟩ := h
    refine ⟨.tup [], σ', ?_, h2⟩
    show rec1 75 [.int .i64 kd, .int .i64 nm, .op b 0, .rp [.op C.b 0], .rp [.om sid]] s = _
    rw [h75]
    unfold A.wrap
    rw [Bool.false_and, cond_false]
    show (r_pick_finder_missing_fn1 rec2 (.int .i64 kd) (.int .i64 nm) (.op b 0) (.rp [.op C.b 0]) (.rp [.om sid]) s).map _ = _
    rw [h1, Option.map_some, nn_k]
   have KF := hs_drop (hs_drop K)
   have b0 : ((A.deref (.op b 0) s).bind fun c => A.part1 0 c) = some (.bool lk) := by simp only [A.deref, (hs_get K).2, Option.bind_some]; rfl
   have b1 : ((A.deref (.rp [.op C.b 0]) s).bind fun c => A.part1 0 c) = some (.op C.b 0) := rfl
   have b2 : A.nilck (.op C.b 0) = some (.op C.b 0) := rfl
   have b3 : A.faddr 1 (.op C.b 0) = some (.op C.b 1) := rfl
   have b4 : A.faddr 2 (.op C.b 0) = some (.op C.b 2) := rfl
   have b5 : ∀ s : Heap, ((A.deref (.rp [.om sid]) s).bind fun c => A.part1 0 c) = some (.om sid) := fun _ => rfl
   have b6 : ∀ s : Heap, ((A.deref (.rp [.op C.b 0]) s).bind fun c => A.part1 0 c) = some (.op C.b 0) := fun _ => rfl
   have cb : ∀ c : Bool, ((A.cell (.bool c)).bind fun v => some [v]) = some [.bool c] := fun _ => rfl
   unfold r_pick_finder_missing_fn1
   rw [b0, bS]
   unfold mStep
   cases lk with
   | true => exact ⟨s, by rw [cT], by simp only [if_true]; exact K, by simp only [if_true]; exact hS⟩
   | false =>
    simp only [Bool.false_eq_true, if_false]
    rw [cF]
    by_cases h3 : kd = 3
    ·rw [if_pos h3, k_t h3, bS, cT, b1, bS, b2, bS, b4, bS, fd_2 KF, bS, fd_op KF, bS]
     obtain ⟨f1, K4⟩ := st_box (c := (tfind nm C.ps).isNone) K
     refine ⟨_, ?_, K4, hS⟩
     have hn : A.not (.bool (tfind nm C.ps).isSome) = some (.bool (tfind nm C.ps).isNone) := by cases tfind nm C.ps <;> rfl
     simp only [ext0, ext1, bS, hn, cb, f1]
    ·rw [if_neg h3, k_f h3, bS, cF, b1, bS, b2, bS, b3, bS, fd_1 KF, bS, fd_og KF, bS]
     cases hg : tfind nm C.gs with
     | none =>
      obtain ⟨f1, K4⟩ := st_box (c := true) K
      refine ⟨_, ?_, K4, hS⟩
      simp only [Option.map_none, Option.getD_none, Option.isSome_none, ext0, ext1, bS]
      rw [show A.cells 4 (.agg [.int .i64 0, .int .i64 0, .int .i64 0, .nsl]) = some [.int .i64 0, .int .i64 0, .int .i64 0, .nsl] from rfl, bS, show A.splice 0 [.int .i64 0, .int .i64 0, .int .i64 0, .nsl] [(AV.int .i64 0), (AV.int .i64 0), (AV.int .i64 0), AV.nsl] = some [.int .i64 0, .int .i64 0, .int .i64 0, .nsl] from rfl, bS, notF, bS, cT, cb, bS, f1, bS, bS]
     | some g =>
      simp only [Option.map_some, Option.getD_some, Option.isSome_some, ext0, ext1, bS]
      have K5 := hs_eq (show _ = blk sid (.map (eS S1)) * (FdP C kn * (blk b (.box [.bool false]) * R)) by ac_rfl) K
      have c1 := looked (hs_get K5).2 nm
      rw [ce_cPick, bS, sp_cPick _ _ (rfl : ([(AV.int .i64 0), (AV.int .i64 0), (AV.int .i64 0), AV.nsl] : List AV).length = 4), bS, notT, bS, cF, b5, bS, c1, bS]
      by_cases hm : nm ∈ S1
      ·rw [if_pos hm, decide_eq_true hm, notT, bS, cF, bS, bS]
       exact ⟨s, rfl, K, hS⟩
      ·rw [if_neg hm, decide_eq_false hm, notF, bS, cT, bS]
       have c2 := updated (hs_get K5).2 hm
       have K6 := hs_set (b' := .map (eS (S1 ++ [nm]))) K5 trivial
       have hlt := unS_lt (key_mem C.gs hg) hm
       have hmono := unS_mono hS (C.gs.map (·.1))
       obtain ⟨s2, c3, K7⟩ := hrec g (S1 ++ [nm]) _ _ (hsz nm g hg) (by omega) K6
       have hsub := (miss_post C.gs C.ps n g (S1 ++ [nm]) (by omega)).1
       generalize missP C.gs C.ps n g (S1 ++ [nm]) = w at c3 K7 hsub ⊢
       obtain ⟨f1, K8⟩ := st_box (c := w.1) (hs_eq (show _ = blk b (.box [.bool false]) * (blk sid (.map (eS w.2)) * (FdP C kn * R)) by ac_rfl) K7)
       refine ⟨_, ?_, K8, fun x hx => hsub x (List.mem_append_left _ (hS x hx))⟩
       rw [c2, bS, b6, bS, pA_cPick, bS, b5, bS, c3, bS, cb, bS, f1, bS, bS, bS]) 2000000 p s1 (false, S) (Nat.le_trans (pDeep_size p) (by omega)) (by unfold pMx; omega) (by omega) ⟨K2, fun x hx => hx⟩
  have e3 : m_pick_names (A.tab (fun _ _ => none) [(75, rec1 75)]) [.agg (cPick p), .fn 75 [.op b 0, .rp [.op C.b 0], .rp [.om sid]]] s1 = some (.tup [], σ') := e2
  have e4 : ((A.deref (.op b 0) σ').bind fun c => A.part1 0 c) = some (.bool ((pNames p).foldl (mStep C.gs C.ps (missP C.gs C.ps n)) (false, S)).1) := by simp only [A.deref, (hs_get K3).2, Option.bind_some]; rfl
  refine ⟨σ', ?_, hs_drop K3⟩
  unfold r_pick_finder_missing
  rw [← hb]
  rw [show (((A.cell (AV.op C.b 0)).bind fun v => some [v]).bind fun cs => some (AV.rp cs)) = some (.rp [.op C.b 0]) from rfl, bS, ce_cPick, bS, show (((A.cell (AV.om sid)).bind fun v => some [v]).bind fun cs => some (AV.rp cs)) = some (.rp [.om sid]) from rfl, bS, show ((A.cell (AV.bool false)).bind fun v => some [v]) = some [.bool false] from rfl, bS, e1, bS, pA_cPick, bS, e3, bS]
  simp only
  rw [e4, bS]
end
end Go.Proofs.YtkdafecbdncmiaaDoor

namespace Go.Proofs.YtkdafecbdncmiaaDoor
set_option linter.unusedSectionVars false
set_option linter.unusedVariables false
set_option linter.unusedSimpArgs false
set_option maxRecDepth 100000
open HP
noncomputable def unitsF (r : RigD) (gl : List GroupD) (pl : List PresetD) (p : PickD) : List Int × Int :=
 if ¬ (presetsF r pl = 0) then ([], presetsF r pl) else if ¬ (grpF gl = 0) then ([], grpF gl) else if ¬ (checkF p = 0) then ([], checkF p)
 else if knwB (gsOf gl) (psOf pl) (gl.length + 2) p = false then ([], 8) else (uF (usOf r) (gsOf gl) (psOf pl) ((gl.length + 2) * 12) p, 0)
theorem rig_small {r : RigD} (h : rigF r = 0) : r.units.length ≤ 400 := by
 unfold rigF at h
 split at h
 ·split at h
  ·cases h
  ·omega
 ·rename_i q; exact absurd h q
theorem pre_small {r : RigD} {pl : List PresetD} (h : presetsF r pl = 0) : r.units.length ≤ 400 ∧ pl.length ≤ 200 ∧ (∀ x ∈ pl, x.settings.length ≤ 2000) ∧ (pl.map PresetD.number).Nodup := by
 unfold presetsF at h
 split at h
 ·rename_i q; exact absurd h q
 rename_i q
 split at h
 ·cases h
 rename_i q2
 have hz := (chkE_zero pl 0).1 h
 refine ⟨rig_small (by simpa using q), by omega, fun x hx => ?_, ?_⟩
 ·obtain ⟨i, hi⟩ := List.mem_iff_getElem?.1 hx
  have := hz i x hi
  unfold presetF at this
  repeat (split at this; · cases this)
  rename_i q3 _
  omega
 ·have : (pl.map PresetD.number).Pairwise (· < ·) := by
   refine adj_lt fun j hj => ?_
   rw [List.length_map] at hj
   have hx : pl[j + 1]? = some pl[j + 1] := List.getElem?_eq_getElem hj
   have h1 := hz (j + 1) _ hx
   unfold presetF at h1
   split at h1
   ·cases h1
   ·split at h1
    ·cases h1
    ·rename_i q3
     have hp : pv pl (j + 1) = pl[j] := by unfold pv; simp [List.getD, List.getElem?_eq_getElem (by omega : j < pl.length)]
     rw [Nat.zero_add, hp] at q3
     simp only [List.getElem_map]
     by_cases hq : pl[j].number < pl[j + 1].number
     ·exact hq
     ·exact absurd (by simp; omega) q3
  exact this.imp fun h => Int.ne_of_lt h
theorem units_len {r : RigD} {gl : List GroupD} {pl : List PresetD} (h : presetsF r pl = 0) (n : Nat) (p : PickD) : (uF (usOf r) (gsOf gl) (psOf pl) n p).length < 1000000 := by
 obtain ⟨h1, h2, h3, _⟩ := pre_small h
 have h4 := (uF_in (usOf r) (gsOf gl) (psOf pl) n p).2
 have h5 : ∀ pl : List PresetD, (∀ x ∈ pl, x.settings.length ≤ 2000) → ((psOf pl).flatMap (·.2)).length ≤ pl.length * 2000 := by
  intro pl
  induction pl with
  | nil => intro _; simp [psOf]
  | cons x l ih =>
   intro hx
   have e1 := ih fun y hy => hx y (List.mem_cons_of_mem _ hy)
   have e2 := hx x List.mem_cons_self
   have e3 := onceF_len (setU x)
   unfold psOf at e1 ⊢
   rw [List.map_cons, List.flatMap_cons, List.length_append, List.length_cons, Nat.add_mul]
   unfold setU at e3
   rw [List.length_map] at e3
   show (onceF (setU x)).length + _ ≤ _
   have e4 : (onceF (setU x)).length ≤ x.settings.length := e3
   omega
 have h6 := h5 pl h3
 have h7 : (usOf r).length = r.units.length := by unfold usOf; rw [List.length_map]
 rw [List.length_append, h7] at h4
 have : pl.length * 2000 ≤ 200 * 2000 := Nat.mul_le_mul_right _ h2
 omega
section
variable {σ0 σ : Heap} {R : HP}
theorem fin_I {v : AV} {l : List Int} (H : Hs anyB σ0 σ (Iv v l * R)) : ∃ v', A.fin σ0 v σ = some (v', σ0) ∧ A.nn (.s 1) v' = sl 1 cInt l := by
 obtain ⟨v', h1, h2, h3⟩ := slf_fz H fz_cInt (Nat.le_refl _) 7
 refine ⟨v', fin_hs (hs_any H) h1 (fun e => ?_), h3⟩
 rcases slf_cases H with ⟨rfl, rfl | rfl, _⟩ | ⟨id, g, rfl, K⟩
 ·simp [A.frz] at h1; rw [h1]
 ·simp [A.frz] at h1; rw [h1]
 ·obtain ⟨k1, k2⟩ := hs_get K
  have := (List.getElem?_eq_some_iff.1 k2).1
  subst e; omega
theorem gs_right {gl : List GroupD} (h : grpF gl = 0) : ∀ k g, tfind k (gsOf gl) = some g → Right g := by
 intro k g hg
 rw [gsOf_find] at hg
 obtain ⟨G, h1, rfl⟩ := Option.map_eq_some_iff.1 hg
 exact grpF_right h G (List.mem_of_find?_eq_some h1)
theorem rk_units {gl : List GroupD} {pl : List PresetD} {p : PickD} (hg : grpF gl = 0) (hp : checkF p = 0) (hk : knwB (gsOf gl) (psOf pl) (gl.length + 2) p = true) : Rk (gsOf gl) (psOf pl) ((gl.length + 2) * 12) p :=
 rk_main _ _ (gs_right hg) _ p (right_of hp) hk
end
end Go.Proofs.YtkdafecbdncmiaaDoor

namespace Go.Proofs.YtkdafecbdncmiaaDoor
set_option linter.unusedSectionVars false
set_option linter.unusedVariables false
set_option linter.unusedSimpArgs false
set_option maxRecDepth 100000
open HP
section
variable {σ0 σ : Heap} {R : HP} {C : FdC} {kn : List (Int × (AV × List Int))}
theorem fd_start {b g p k : Nat} (H : Hs anyB σ0 σ (blk b (.box [.nsl, .om g, .om p, .om k]) * (blk k (.map (eKn [])) * (blk p (.map (eL [])) * (blk g (.map (eP [])) * R))))) : Hs anyB σ0 σ (FdP ⟨b, g, p, k, .nsl, [], [], []⟩ [] * R) := by
 have K := slz (E := fl cInt) (sz := 1) (v := .nsl) H (.inl rfl)
 exact hs_eq (show _ = (blk b (.box [.nsl, .om g, .om p, .om k]) * (Iv .nsl [] * (blk g (.map (eP [])) * (blk p (.map (eL [])) * (blk k (.map (eKn [])) * emp))))) * R by rw [star_emp]; ac_rfl) K
theorem fd_addU {x : Int} (hl : C.U.length + 1 ≤ apM) (H : Hs anyB σ0 σ (FdP C kn * R)) : ∃ w s1 s2, A.append 1 (140737488355328 / 8) C.vu (.sl 1 [[.int .i64 x]]) σ = some (w, s1) ∧ A.cell w = some w ∧ A.storeAt (.op C.b 0) [w] s1 = some s2 ∧ Hs anyB σ0 s2 (FdP { C with vu := w, U := C.U ++ [x] } kn * R) := by
 obtain ⟨w, s1, e1, K⟩ := iv_app (B := anyB) (x := x) (fun _ _ _ _ => trivial) hl (fd_units H)
 have K1 := hs_eq (show _ = blk C.b (.box [C.vu, .om C.g, .om C.p, .om C.k]) * (Iv w (C.U ++ [x]) * (blk C.g (.map (eP C.gs)) * (blk C.p (.map (eL C.ps)) * (blk C.k (.map (eKn kn)) * (knR kn * R))))) by ac_rfl) K
 have K2 := hs_set (b' := .box [w, .om C.g, .om C.p, .om C.k]) K1 trivial
 refine ⟨w, s1, _, e1, cell_iv K, ?_, hs_eq (by rw [FdP]; ac_rfl) K2⟩
 simp only [A.storeAt, (hs_get K1).2]
 rfl
theorem fd_addG {k : Int} {q : PickD} (hk : k ∉ C.gs.map (·.1)) (H : Hs anyB σ0 σ (FdP C kn * R)) : ∃ s, A.mupd .i (.om C.g) (.int .i64 k) (.agg (cPick q)) σ = some s ∧ Hs anyB σ0 s (FdP { C with gs := C.gs ++ [(k, q)] } kn * R) := by
 have K1 := hs_eq (show _ = blk C.g (.map (eP C.gs)) * (blk C.b (.box [C.vu, .om C.g, .om C.p, .om C.k]) * (Iv C.vu C.U * (blk C.p (.map (eL C.ps)) * (blk C.k (.map (eKn kn)) * (knR kn * R))))) by ac_rfl) (fd_units H)
 have K2 := hs_set (b' := .map (eP (C.gs ++ [(k, q)]))) K1 trivial
 refine ⟨_, ?_, hs_eq (by rw [FdP]; ac_rfl) K2⟩
 simp only [A.mupd, A.keyOk, cond_true, (hs_get K1).2]
 rw [show AV.agg (cPick q) = (fun x : PickD => AV.agg (cPick x)) q from rfl, upd_t (eK := fun x : Int => AV.int .i64 x) (eV := fun x : PickD => AV.agg (cPick x)) (eqk_int _), tupd_new hk]
 rfl
theorem fd_addP {k : Int} {l : List Int} (hk : k ∉ C.ps.map (·.1)) (H : Hs anyB σ0 σ (FdP C kn * R)) : ∃ s, A.mupd .i (.om C.p) (.int .i64 k) (sl 1 cInt l) σ = some s ∧ Hs anyB σ0 s (FdP { C with ps := C.ps ++ [(k, l)] } kn * R) := by
 have K1 := hs_eq (show _ = blk C.p (.map (eL C.ps)) * (blk C.b (.box [C.vu, .om C.g, .om C.p, .om C.k]) * (Iv C.vu C.U * (blk C.g (.map (eP C.gs)) * (blk C.k (.map (eKn kn)) * (knR kn * R))))) by ac_rfl) (fd_units H)
 have K2 := hs_set (b' := .map (eL (C.ps ++ [(k, l)]))) K1 trivial
 refine ⟨_, ?_, hs_eq (by rw [FdP]; ac_rfl) K2⟩
 simp only [A.mupd, A.keyOk, cond_true, (hs_get K1).2]
 rw [show sl 1 cInt l = (fun x : List Int => sl 1 cInt x) l from rfl, upd_t (eK := fun x : Int => AV.int .i64 x) (eV := fun x : List Int => sl 1 cInt x) (eqk_int _), tupd_new hk]
 rfl
theorem once_q {v : AV} {l : List Int} (hm : l.length + 1 ≤ apM) (H : Hs anyB σ0 σ (Iv v l * R)) : A.quiet ((A.finC (.s 1) m_pick_once) [v] σ) σ = some (sl 1 cInt (onceF l)) := by
 obtain ⟨v', σ', e, K⟩ := lentK (B := anyB) (fun _ _ => trivial) (ain := [.s 1]) (r := A.ar1 r_pick_once) (as0 := [v]) (ts := [sl 1 cInt l]) ⟨lt_slf fz_cInt H, trivial⟩ (once_ks hm) (hs_nil (B := anyB) σ)
 obtain ⟨v2, e2, e3⟩ := fin_I K
 have e' : m_pick_once [v] σ = some (v', σ') := e
 refine quiet_of ?_
 unfold A.finC
 rw [e', bS, e2, Option.map_some, e3]
theorem rowU3 (a b c : Int) : ((((A.cell (.int .i64 a)).bind fun v => some [v]).bind fun c8 => (A.splice 0 c8 [(AV.int .i64 0), (AV.int .i64 0), (AV.int .i64 0)]).bind fun c9 => ((A.cell (.int .i64 b)).bind fun v => some [v]).bind fun c10 => (A.splice 1 c10 c9).bind fun c11 => ((A.cell (.int .i64 c)).bind fun v => some [v]).bind fun c12 => (A.splice 2 c12 c11).bind fun c13 => some c13).bind fun cs => some (AV.sl 1 (chunks 1 3 cs))) = some (sl 1 cInt [a, b, c]) := rfl
theorem fin4 (g p k : Nat) : ((((A.cell (AV.om g)).bind fun v => some [v]).bind fun c17 => (A.splice 1 c17 [AV.nsl, AV.nm, AV.nm, AV.nm]).bind fun c18 => ((A.cell (AV.om p)).bind fun v => some [v]).bind fun c19 => (A.splice 2 c19 c18).bind fun c20 => ((A.cell (AV.om k)).bind fun v => some [v]).bind fun c21 => (A.splice 3 c21 c20).bind fun c22 => some c22).bind fun cs => some (AV.agg cs)) = some (.agg [.nsl, .om g, .om p, .om k]) := rfl
theorem nodup_take {l : List Int} (h : l.Nodup) {i : Nat} {x : Int} (hx : l[i]? = some x) : x ∉ l.take i := by
 intro hm
 obtain ⟨j, hj⟩ := List.mem_iff_getElem?.1 hm
 rw [List.getElem?_take] at hj
 split at hj
 ·rename_i q
  have h1 := List.getElem?_eq_some_iff.1 hx
  have h2 := List.getElem?_eq_some_iff.1 hj
  have := (List.pairwise_iff_getElem.1 h) j i h2.1 h1.1 q
  exact this (h2.2.trans h1.2.symm)
 ·cases hj
theorem nnL_units (r : RigD) (gl : List GroupD) (pl : List PresetD) (p : PickD) : A.nnL [(.a [(.s 3), (.s 4)]), (.s 5), (.s 3), (.a [.k, .k, .k, (.s 4)])] [.agg (cRig r), sl 5 cGroup gl, sl 3 cPreset pl, .agg (cPick p)] = [.agg (cRig r), sl 5 cGroup gl, sl 3 cPreset pl, .agg (cPick p)] := by
 rw [cPick_eq]; rfl
theorem units_k (r : RigD) (gl : List GroupD) (pl : List PresetD) (p : PickD) (hs : okRig r ∧ okG gl ∧ okL okPreset pl ∧ pSize p ≤ 2000000) (H : Hs anyB σ0 σ R) : ∃ v σ', m_pick_Units [.agg (cRig r), sl 5 cGroup gl, sl 3 cPreset pl, .agg (cPick p)] σ = some (.tup [v, .int .i64 (unitsF r gl pl p).2], σ') ∧ Hs anyB σ0 σ' (Iv v (unitsF r gl pl p).1 * R) := by
 suffices hh : ∃ z : AV × Heap, r_pick_Units (.agg (cRig r)) (sl 5 cGroup gl) (sl 3 cPreset pl) (.agg (cPick p)) σ = some z ∧ (∃ v, z.1 = .tup [v, .int .i64 (unitsF r gl pl p).2] ∧ Hs anyB σ0 z.2 (Iv v (unitsF r gl pl p).1 * R)) by
  obtain ⟨⟨z1, z2⟩, e, v, h1, K⟩ := hh
  simp only at h1
  subst h1
  exact ⟨v, z2, wrap_eq (by simp only [cPick_eq]; rfl) (by rw [nnL_units]; exact e) (nn_k _), K⟩
 obtain ⟨hr, hg, hp, hz⟩ := hs
 unfold r_pick_Units unitsF
 rw [ce_cRig, bS, ce_cPick, bS, pA_cRig, bS, quiet_of (h_pick_CheckPresets (CheckPresets_t r pl hr hp)), bS, quiet_of (h_pick_CheckGroups (chkGroups_pk hg)), bS, pA_cPick, bS, quiet_of (h_pick_Check (checkF_pk hz)), bS, rowU3, bS, quiet_of (First_eq _ (by simp [mxl]) σ), bS, find3, aNeI, bS]
 by_cases h1 : ¬ (presetsF r pl = 0)
 ·rw [if_pos h1, if_pos h1, decide_eq_true h1, cT]
  exact ⟨_, rfl, .nsl, rfl, slz H (.inl rfl)⟩
 have h1 := Decidable.not_not.1 h1
 rw [if_neg (show ¬ ¬ (presetsF r pl = 0) from fun k => k h1), if_neg (show ¬ ¬ (presetsF r pl = 0) from fun k => k h1)]
 by_cases h2 : ¬ (grpF gl = 0)
 ·rw [if_pos h2, if_pos h2, decide_eq_true h2, cT]
  exact ⟨_, rfl, .nsl, rfl, slz H (.inl rfl)⟩
 have h2 := Decidable.not_not.1 h2
 rw [if_neg (show ¬ ¬ (grpF gl = 0) from fun k => k h2), if_neg (show ¬ ¬ (grpF gl = 0) from fun k => k h2)]
 by_cases h3 : ¬ (checkF p = 0)
 ·rw [if_pos h3, decide_eq_true h3, cT]
  exact ⟨_, rfl, .nsl, rfl, slz H (.inl rfl)⟩
 have h3 := Decidable.not_not.1 h3
 rw [if_neg (show ¬ ¬ (checkF p = 0) from fun k => k h3), decide_eq_false (fun k => k h3), cF]
 obtain ⟨hu, hpl, hst, hpn⟩ := pre_small h1
 have hgl := grpF_len h2
 have hgn := grpF_nodup h2
 have hpr := right_of h3
 have H0 := H
 have H1 := hs_new (b := .map (eP [])) H0 trivial
 have H2 := hs_new (b := .map (eL [])) H1 trivial
 have H3 := hs_new (b := .map (eKn [])) H2 trivial
 obtain ⟨g0, hg0⟩ : ∃ g0, g0 = List.length σ := ⟨_, rfl⟩
 obtain ⟨p0, hp0⟩ : ∃ p0, p0 = List.length (σ ++ [Blk.map []]) := ⟨_, rfl⟩
 obtain ⟨k0, hk0⟩ : ∃ k0, k0 = List.length ((σ ++ [Blk.map []]) ++ [Blk.map []]) := ⟨_, rfl⟩
 obtain ⟨b0, hb0⟩ : ∃ b0, b0 = List.length (((σ ++ [Blk.map []]) ++ [Blk.map []]) ++ [Blk.map []]) := ⟨_, rfl⟩
 have H4 := hs_new (b := .box [.nsl, .om g0, .om p0, .om k0]) H3 trivial
 rw [← hg0, ← hp0, ← hk0, ← hb0, fin4, bS, show A.cells 4 (.agg [.nsl, .om g0, .om p0, .om k0]) = some [.nsl, .om g0, .om p0, .om k0] from rfl, bS, p1_cRig_1, bS, lenS_sl, bS]
 have H5 : Hs anyB σ0 (((σ ++ [Blk.map []]) ++ [Blk.map []]) ++ [Blk.map []] ++ [Blk.box [.nsl, .om g0, .om p0, .om k0]]) (FdP ⟨b0, g0, p0, k0, .nsl, [], [], []⟩ [] * R) := by
  refine fd_start ?_
  rw [hb0, hk0, hp0, hg0]
  rw [hk0, hp0, hg0] at H4
  exact H4
 clear H0 H1 H2 H3 H4
 have nc : A.nilck (.op b0 0) = some (.op b0 0) := rfl
 have fa0 : A.faddr 0 (.op b0 0) = some (.op b0 0) := rfl
 have fa1 : A.faddr 1 (.op b0 0) = some (.op b0 1) := rfl
 have fa2 : A.faddr 2 (.op b0 0) = some (.op b0 2) := rfl
 refine loop_k (Q := fun q => ∃ w u, q.1 = .exit 0 ∧ q.2.1 = [.lbx (cPick p), u] ∧ Hs anyB σ0 q.2.2 (FdP ⟨b0, g0, p0, k0, w, usOf r, [], []⟩ [] * R)) (loop_hs r.units (fun i vs s => ∃ w, vs = [.lbx (cPick p), .int .i64 (i : Int)] ∧ Hs anyB σ0 s (FdP ⟨b0, g0, p0, k0, w, (usOf r).take i, [], []⟩ [] * R)) ?_ ?_ ⟨.nsl, rfl, H5⟩) ?_
 ·rintro i x vs s hx ⟨w, rfl, K⟩
  have a1 : A.lss (.int .i64 (i : Int)) (.int .i64 (r.units.length : Int)) = some (.bool true) := ix_lt hx
  have a2 : A.add (.int .i64 (i : Int)) (.int .i64 1) = some (.int .i64 ((i + 1 : Nat) : Int)) := ix_inc hx (by unfold mxl; omega)
  have a3 : A.iaddr 4 (sl 4 cUnit r.units) (.int .i64 (i : Int)) = some (.rp (cUnit x)) := ix_for hx
  have hx' : (usOf r)[i]? = some x.number := by unfold usOf; rw [List.getElem?_map, hx]; rfl
  have hul : (usOf r).length = r.units.length := by unfold usOf; rw [List.length_map]
  obtain ⟨w', s1, s2, e1, e2, e3, K2⟩ := fd_addU (x := x.number) (by have := List.length_take_le' i (usOf r); show ((usOf r).take i).length + 1 ≤ apM; unfold apM; omega) K
  have d0 := fd_0 K
  refine ⟨_, s2, ?_, w', rfl, by rw [List.take_add_one, hx']; exact K2⟩
  simp only [List.getD_cons_zero, List.getD_cons_succ, a1, a2, a3, bS, cT, dRp, pA_cUnit, ce_cUnit, sp_cUnit x _ (rfl : ([(AV.int .i64 0), (AV.str ⟨#[]⟩), (AV.int .i64 0), (AV.int .i64 0)] : List AV).length = 4), p1_cUnit_0, nc, fa0, d0, oneI, e1, e2, e3]
 ·rintro vs s ⟨w, rfl, K⟩
  rw [List.take_of_length_le (by unfold usOf; simp)] at K
  refine ⟨(.exit 0, [.lbx (cPick p), .int .i64 (r.units.length : Int)], s), ?_, by simp, w, _, rfl, rfl, K⟩
  simp only [List.getD_cons_zero, List.getD_cons_succ, ix_end, bS, cF]
 rintro ⟨q1, q2, s⟩ ⟨w, u, rfl, rfl, K⟩
 simp only at K
 clear H5
 rw [exE, lenS_sl, bS]
 refine loop_k (Q := fun q => ∃ u, q.1 = .exit 2 ∧ q.2.1 = [.lbx (cPick p), u] ∧ Hs anyB σ0 q.2.2 (FdP ⟨b0, g0, p0, k0, w, usOf r, gsOf gl, []⟩ [] * R)) (loop_hs gl (fun i vs s => vs = [.lbx (cPick p), .int .i64 (i : Int)] ∧ Hs anyB σ0 s (FdP ⟨b0, g0, p0, k0, w, usOf r, gsOf (gl.take i), []⟩ [] * R)) ?_ ?_ ⟨rfl, K⟩) ?_
 ·rintro i x vs s hx ⟨rfl, K⟩
  have a1 : A.lss (.int .i64 (i : Int)) (.int .i64 (gl.length : Int)) = some (.bool true) := ix_lt hx
  have a2 : A.add (.int .i64 (i : Int)) (.int .i64 1) = some (.int .i64 ((i + 1 : Nat) : Int)) := ix_inc hx hg.1
  have a3 : A.iaddr 5 (sl 5 cGroup gl) (.int .i64 (i : Int)) = some (.rp (cGroup x)) := ix_for hx
  have hk : x.number ∉ (gsOf (gl.take i)).map (·.1) := by
   have := nodup_take (i := i) (x := x.number) hgn (by rw [List.getElem?_map, hx]; rfl)
   unfold gsOf
   rw [List.map_map]
   rw [← List.map_take] at this
   exact this
  obtain ⟨s2, e1, K2⟩ := fd_addG (q := x.pick) hk K
  have d1 := fd_1 K
  have e1' : A.mupd .i (.om g0) (.int .i64 x.number) (.agg (cPick x.pick)) s = some s2 := e1
  have d1' : ((A.deref (.op b0 1) s).bind fun c => A.part1 0 c) = some (.om g0) := d1
  have f0 : A.partA 0 5 (cGroup x) = some (.agg (cGroup x)) := rfl
  have f1 : A.cells 5 (.agg (cGroup x)) = some (cGroup x) := rfl
  have f2 : A.part1 0 (cGroup x) = some (.int .i64 x.number) := rfl
  have f3 : A.partA 1 4 (cGroup x) = some (.agg (cPick x.pick)) := by rw [cGroup_pick, cPick_eq]; rfl
  refine ⟨_, s2, ?_, rfl, ?_⟩
  ·simp only [List.getD_cons_zero, List.getD_cons_succ, a1, a2, a3, bS, cT, dRp, f0, f1, sp_cGroup x _ (rfl : ([(AV.int .i64 0), (AV.int .i64 0), (AV.int .i64 0), (AV.int .i64 0), AV.nsl] : List AV).length = 5), nc, fa1, d1', f2, f3, e1']
  ·rw [List.take_add_one, hx]
   unfold gsOf at K2 ⊢
   rw [List.map_append]
   exact K2
 ·rintro vs s ⟨rfl, K⟩
  rw [List.take_length] at K
  refine ⟨(.exit 2, [.lbx (cPick p), .int .i64 (gl.length : Int)], s), ?_, by simp, _, rfl, rfl, K⟩
  simp only [List.getD_cons_zero, List.getD_cons_succ, ix_end, bS, cF]
 rintro ⟨q1, q2, s⟩ ⟨u, rfl, rfl, K⟩
 simp only at K
 rw [exE, lenS_sl, bS]
 refine loop_k (Q := fun q => ∃ u, q.1 = .exit 4 ∧ q.2.1 = [.lbx (cPick p), u] ∧ Hs anyB σ0 q.2.2 (FdP ⟨b0, g0, p0, k0, w, usOf r, gsOf gl, psOf pl⟩ [] * R)) (loop_hs pl (fun i vs s => vs = [.lbx (cPick p), .int .i64 (i : Int)] ∧ Hs anyB σ0 s (FdP ⟨b0, g0, p0, k0, w, usOf r, gsOf gl, psOf (pl.take i)⟩ [] * R)) ?_ ?_ ⟨rfl, K⟩) ?_
 ·rintro i x vs s hx ⟨rfl, K⟩
  have a1 : A.lss (.int .i64 (i : Int)) (.int .i64 (pl.length : Int)) = some (.bool true) := ix_lt hx
  have a2 : A.add (.int .i64 (i : Int)) (.int .i64 1) = some (.int .i64 ((i + 1 : Nat) : Int)) := ix_inc hx hp.1
  have a3 : A.iaddr 3 (sl 3 cPreset pl) (.int .i64 (i : Int)) = some (.rp (cPreset x)) := ix_for hx
  have hxs := hst x (List.mem_of_getElem? hx)
  have hk : x.number ∉ (psOf (pl.take i)).map (·.1) := by
   have := nodup_take (i := i) (x := x.number) hpn (by rw [List.getElem?_map, hx]; rfl)
   unfold psOf
   rw [List.map_map]
   rw [← List.map_take] at this
   exact this
  have hin : ∃ q, A.loop ((fun v82 s83 =>
         (A.lss (v82.getD 3 AV.undef) (.int .i64 (x.settings.length : Int))).bind fun x85 =>
         A.cond x85 (
          (A.iaddr 3 (sl 3 cSetting x.settings) (v82.getD 3 AV.undef)).bind fun x86 =>
          ((A.deref x86 s83).bind fun c87 => A.partA 0 3 c87).bind fun x88 =>
          (A.cells 3 x88).bind fun c89 =>
          (A.splice 0 c89 [(AV.int .i64 0), (AV.str ⟨#[]⟩), (AV.int .i64 0)]).bind fun c90 =>
          (A.part1 0 c90).bind fun x91 =>
          ((((A.cell x91).bind fun v => some [v]).bind fun c92 => (A.splice 0 c92 [(AV.int .i64 0)]).bind fun c93 => some c93).bind fun cs => some (AV.sl 1 (chunks 1 1 cs))).bind fun x94 =>
          (A.append 1 (140737488355328 / 8) (v82.getD 2 AV.undef) x94 s83).bind fun r95 =>
          (A.add (v82.getD 3 AV.undef) (AV.int .i64 1)).bind fun x96 =>
          some (AX.normal, [(v82.getD 0 AV.undef), (v82.getD 1 AV.undef), r95.1, x96], r95.2)) (
          some (AX.exit 6, [(v82.getD 0 AV.undef), (v82.getD 1 AV.undef), (v82.getD 2 AV.undef), (v82.getD 3 AV.undef)], s83)))) [.lbx (cPick p), .lbx (cPreset x), .nsl, .int .i64 0] s = some q ∧ (∃ w2 u, q.1 = .exit 6 ∧ q.2.1 = [.lbx (cPick p), .lbx (cPreset x), w2, u] ∧ Hs anyB σ0 q.2.2 (Iv w2 (setU x) * (FdP ⟨b0, g0, p0, k0, w, usOf r, gsOf gl, psOf (pl.take i)⟩ [] * R))) := by
   refine loop_hs x.settings (fun j vs s => ∃ w2, vs = [.lbx (cPick p), .lbx (cPreset x), w2, .int .i64 (j : Int)] ∧ Hs anyB σ0 s (Iv w2 ((setU x).take j) * (FdP ⟨b0, g0, p0, k0, w, usOf r, gsOf gl, psOf (pl.take i)⟩ [] * R))) ?_ ?_ ⟨.nsl, rfl, slz K (.inl rfl)⟩
   ·rintro j y vs s2 hy ⟨w2, rfl, K2⟩
    have hj := (List.getElem?_eq_some_iff.1 hy).1
    have b1 : A.lss (.int .i64 (j : Int)) (.int .i64 (x.settings.length : Int)) = some (.bool true) := ix_lt hy
    have b2 : A.add (.int .i64 (j : Int)) (.int .i64 1) = some (.int .i64 ((j + 1 : Nat) : Int)) := ix_inc hy (by unfold mxl; omega)
    have b3 : A.iaddr 3 (sl 3 cSetting x.settings) (.int .i64 (j : Int)) = some (.rp (cSetting y)) := ix_for hy
    have hy' : (setU x)[j]? = some y.key.unit := by unfold setU; rw [List.getElem?_map, hy]; rfl
    obtain ⟨w', s3, e1, K3⟩ := iv_app (B := anyB) (x := y.key.unit) (fun _ _ _ _ => trivial) (by have := List.length_take_le j (setU x); unfold apM; omega) K2
    refine ⟨_, s3, ?_, w', rfl, by rw [List.take_add_one, hy', Option.toList_some]; exact K3⟩
    simp only [List.getD_cons_zero, List.getD_cons_succ, b1, b2, b3, bS, cT, dRp, pA_cSetting, ce_cSetting, sp_cSetting y _ (rfl : ([(AV.int .i64 0), (AV.str ⟨#[]⟩), (AV.int .i64 0)] : List AV).length = 3), p1_cSetting_0, oneI, e1]
   ·rintro vs s2 ⟨w2, rfl, K2⟩
    rw [List.take_of_length_le (by unfold setU; simp)] at K2
    refine ⟨(.exit 6, [.lbx (cPick p), .lbx (cPreset x), w2, .int .i64 (x.settings.length : Int)], s2), ?_, by simp, w2, _, rfl, rfl, K2⟩
    simp only [List.getD_cons_zero, List.getD_cons_succ, ix_end, bS, cF]
  obtain ⟨⟨qa, qv, s3⟩, e4, w2, u2, rfl, rfl, K3⟩ := hin
  simp only at K3
  have K4 := hs_drop K3
  have d2 : ((A.deref (.op b0 2) s3).bind fun c => A.part1 0 c) = some (.om p0) := fd_2 K4
  have e5 := once_q (by unfold setU apM; rw [List.length_map]; omega) K3
  obtain ⟨s5, e6, K5⟩ := fd_addP (l := onceF (setU x)) hk K4
  have e6' : A.mupd .i (.om p0) (.int .i64 x.number) (sl 1 cInt (onceF (setU x))) s3 = some s5 := e6
  refine ⟨_, s5, ?_, rfl, ?_⟩
  ·simp only [List.getD_cons_zero, List.getD_cons_succ, a1, a2, a3, bS, cT, dRp, pA_cPreset, ce_cPreset, sp_cPreset x _ (rfl : ([(AV.int .i64 0), (AV.str ⟨#[]⟩), AV.nsl] : List AV).length = 3), p1_cPreset_2, lenS_sl, e4, exE, nc, fa2, d2, aLb, p1_cPreset_0, e5, e6']
  ·rw [List.take_add_one, hx]
   unfold psOf at K5 ⊢
   rw [List.map_append]
   exact K5
 ·rintro vs s ⟨rfl, K⟩
  rw [List.take_length] at K
  refine ⟨(.exit 4, [.lbx (cPick p), .int .i64 (pl.length : Int)], s), ?_, by simp, _, rfl, rfl, K⟩
  simp only [List.getD_cons_zero, List.getD_cons_succ, ix_end, bS, cF]
 rintro ⟨q1, q2, s⟩ ⟨u, rfl, rfl, K⟩
 simp only at K
 rw [exE]
 simp only [List.getD_cons_zero, aLb, bS, pA_cPick]
 have K1 := hs_new (b := .map (eS [])) K trivial
 obtain ⟨sid, hsid⟩ : ∃ sid, sid = List.length s := ⟨_, rfl⟩
 rw [← hsid] at K1 ⊢
 have hsz : ∀ k g, tfind k (gsOf gl) = some g → pSize g ≤ 200 := fun k g h => (gs_right h2 k g h).1
 obtain ⟨s1, e1, K2⟩ := missing_t (C := ⟨b0, g0, p0, k0, w, usOf r, gsOf gl, psOf pl⟩) hsz (gl.length + 1) 2000000 p [] [] sid σ0 _ R hpr.1 (by have := unS_le ((gsOf gl).map (·.1)) []; rw [List.length_map] at this; unfold gsOf at this ⊢; rw [List.length_map] at this; show unS ((gl.map fun g => (g.number, g.pick)).map (·.1)) [] < _; omega) (by omega) K1
 have e1' : m_pick_finder_missing [.op b0 0, .agg (cPick p), .om sid] (s ++ [Blk.map []]) = some (.bool (missP (gsOf gl) (psOf pl) (gl.length + 1) p []).1, s1) := e1
 rw [e1', bS]
 rw [miss_iff (gsOf gl) (psOf pl) (n := gl.length + 1) (m := gl.length + 2) (by unfold gsOf; rw [List.length_map]; omega) (dp_all (grpF_loop h2) p)]
 cases hk : knwB (gsOf gl) (psOf pl) (gl.length + 2) p with
 | false =>
  rw [if_pos rfl, show (!false) = true from rfl, cT]
  exact ⟨_, rfl, .nsl, rfl, slz (hs_drop (hs_drop K2)) (.inl rfl)⟩
 | true =>
  rw [if_neg (by decide), show (!true) = false from rfl, cF]
  obtain ⟨v, s2, kn2, e2, _, K3⟩ := findU (C := ⟨b0, g0, p0, k0, w, usOf r, gsOf gl, psOf pl⟩) (by show (usOf r).length ≤ _; unfold usOf; rw [List.length_map]; omega) (fun n p _ => units_len h1 n p) ((gl.length + 2) * 12) 2000000 p [] σ0 s1 R (by omega) (rk_units h2 h3 hk) (fun e he => by cases he) (hs_drop K2)
  have e2' : m_pick_finder_find [.op b0 0, .agg (cPick p)] s1 = some (v, s2) := e2
  rw [e2', bS]
  exact ⟨_, rfl, v, rfl, hs_drop (hs_eq (show _ = FdP ⟨b0, g0, p0, k0, w, usOf r, gsOf gl, psOf pl⟩ kn2 * (Iv v (uF (usOf r) (gsOf gl) (psOf pl) ((gl.length + 2) * 12) p) * R) by ac_rfl) K3)⟩
end
end Go.Proofs.YtkdafecbdncmiaaDoor

namespace Go.Proofs.YtkdafecbdncmiaaDoor
set_option linter.unusedSectionVars false
set_option linter.unusedVariables false
set_option linter.unusedSimpArgs false
set_option maxRecDepth 100000
theorem evF_sl (s : Nat) : ∀ (k : Nat) (l : List Int), List.Sublist (evF s k l) l
 | _, [] => by simp [evF]
 | 0, x :: l => by rw [evF]; exact (evF_sl s _ l).cons_cons x
 | k + 1, x :: l => by rw [evF]; exact (evF_sl s k l).cons x
theorem nd_rev {l : List Int} (h : l.Nodup) : l.reverse.Nodup := List.pairwise_reverse.2 (h.imp fun q => Ne.symm q)
theorem uF_nd {U : List Int} {gs : List (Int × PickD)} {ps : List (Int × List Int)} (hU : U.Nodup) (hp : ∀ e ∈ ps, e.2.Nodup ∧ ∀ x ∈ e.2, x ∈ U) : ∀ (n : Nat) (p : PickD), (uF U gs ps n p).Nodup ∧ ∀ x ∈ uF U gs ps n p, x ∈ U
 | 0, p => ⟨List.nodup_nil, fun x h => by cases h⟩
 | n + 1, p => by
  have ih := uF_nd (gs := gs) hU hp n
  rw [uF]
  obtain ⟨ras, has⟩ : ∃ ras, ras = p.args.map (uF U gs ps n) := ⟨_, rfl⟩
  have ha : ∀ l ∈ ras, l.Nodup ∧ ∀ x ∈ l, x ∈ U := fun l hl => by
   rw [has] at hl
   obtain ⟨a, _, rfl⟩ := List.mem_map.1 hl
   exact ih a
  have hg : ∀ i, (ras.getD i []).Nodup ∧ ∀ x ∈ ras.getD i [], x ∈ U := fun i => by
   rw [List.getD_eq_getElem?_getD]
   cases h : ras[i]? with
   | none => exact ⟨List.nodup_nil, fun x hx => by cases hx⟩
   | some l => exact ha l (List.mem_of_getElem? h)
  rw [← has]
  unfold pcomb
  dsimp only
  have ev : ∀ (i : Nat) (s f : Int), (everyF (ras.getD i []) s f).Nodup ∧ ∀ x ∈ everyF (ras.getD i []) s f, x ∈ U := fun i s f =>
   ⟨(evF_sl _ _ _).nodup (hg i).1, fun x hx => (hg i).2 x (evF_sub _ _ _ x hx)⟩
  split
  ·unfold btwF
   split
   ·exact ⟨nd_rev (hU.filter _), fun x hx => (List.mem_filter.1 (List.mem_reverse.1 hx)).1⟩
   ·exact ⟨hU.filter _, fun x hx => (List.mem_filter.1 hx).1⟩
  split
  ·cases tfind p.frm gs with
   | none => exact ⟨List.nodup_nil, fun x hx => by cases hx⟩
   | some g => exact ih g
  split
  ·cases h : tfind p.frm ps with
   | none => exact ⟨List.nodup_nil, fun x hx => by cases hx⟩
   | some l => exact hp _ (tfind_mem h)
  split
  ·obtain ⟨h1, h2⟩ := onceF_nodup ras.flatten
   refine ⟨h1, fun x hx => ?_⟩
   obtain ⟨l, hl, hxl⟩ := List.mem_flatten.1 (h2 x hx)
   exact (ha l hl).2 x hxl
  split
  ·exact ⟨(hg 0).1.filter _, fun x hx => (hg 0).2 x (List.mem_filter.1 hx).1⟩
  split
  ·exact ev 0 _ _
  split
  ·exact ev 0 _ _
  split
  ·exact ⟨nd_rev (hg 0).1, fun x hx => (hg 0).2 x (List.mem_reverse.1 hx)⟩
  ·exact ev 0 _ _
theorem rig_nd {r : RigD} (h : rigF r = 0) : (usOf r).Nodup := (rigF_sorted h).imp fun q => by omega
theorem pre_rig {r : RigD} {pl : List PresetD} (h : presetsF r pl = 0) : rigF r = 0 := by
 unfold presetsF at h
 split at h
 ·rename_i q; exact absurd h q
 ·rename_i q; exact Decidable.not_not.1 q
theorem has_unit {r : RigD} (h : rigF r = 0) {k : KeyD} (hk : hasK r k = true) : k.unit ∈ usOf r := by
 rw [hasK_mem h, decide_eq_true_eq] at hk
 obtain ⟨u, hu, hx⟩ := List.mem_flatMap.1 hk
 obtain ⟨x, _, rfl⟩ := List.mem_map.1 hx
 exact List.mem_map.2 ⟨u, hu, rfl⟩
theorem pre_units {r : RigD} {pl : List PresetD} (h : presetsF r pl = 0) : ∀ e ∈ psOf pl, e.2.Nodup ∧ ∀ x ∈ e.2, x ∈ usOf r := by
 intro e he
 have hr := pre_rig h
 obtain ⟨p, hp, rfl⟩ := List.mem_map.1 he
 refine ⟨(onceF_nodup _).1, fun x hx => ?_⟩
 have hx := (onceF_nodup _).2 x hx
 obtain ⟨y, hy, rfl⟩ := List.mem_map.1 hx
 unfold presetsF at h
 split at h
 ·rename_i q; exact absurd h q
 split at h
 ·cases h
 obtain ⟨i, hi⟩ := List.mem_iff_getElem?.1 hp
 have h1 := (chkE_zero pl 0).1 h i p hi
 unfold presetF at h1
 split at h1
 ·cases h1
 split at h1
 ·cases h1
 split at h1
 ·cases h1
 split at h1
 ·cases h1
 obtain ⟨j, hj⟩ := List.mem_iff_getElem?.1 hy
 have h2 := (chkE_zero p.settings 0).1 h1 j y hj
 unfold settF at h2
 split at h2
 ·cases h2
 rename_i q
 have hk : hasK r y.key = true := by simpa using q
 exact has_unit hr hk
theorem units_good {r : RigD} {gl : List GroupD} {pl : List PresetD} {p : PickD} : (unitsF r gl pl p).1.Nodup ∧ ∀ x ∈ (unitsF r gl pl p).1, x ∈ usOf r := by
 unfold unitsF
 split
 ·exact ⟨List.nodup_nil, fun x hx => by cases hx⟩
 rename_i h1
 have h1 := Decidable.not_not.1 h1
 split
 ·exact ⟨List.nodup_nil, fun x hx => by cases hx⟩
 split
 ·exact ⟨List.nodup_nil, fun x hx => by cases hx⟩
 split
 ·exact ⟨List.nodup_nil, fun x hx => by cases hx⟩
 exact uF_nd (rig_nd (pre_rig h1)) (pre_units h1) _ _
theorem ev_two : ∀ l : List Int, (evF 2 0 l).length + (evF 2 1 l).length = l.length ∧ ∀ j, (evF 2 0 l)[j]? = l[2 * j]? ∧ (evF 2 1 l)[j]? = l[2 * j + 1]?
 | [] => ⟨rfl, fun j => ⟨by simp [evF], by simp [evF]⟩⟩
 | x :: l => by
  obtain ⟨h1, h2⟩ := ev_two l
  rw [evF, evF, show 2 - 1 = 1 from rfl]
  refine ⟨by rw [List.length_cons, List.length_cons]; omega, fun j => ⟨?_, ?_⟩⟩
  ·cases j with
   | zero => rfl
   | succ j => rw [List.getElem?_cons_succ, (h2 j).2, show 2 * (j + 1) = (2 * j + 1) + 1 by omega, List.getElem?_cons_succ]
  ·rw [List.getElem?_cons_succ]; exact (h2 j).1
def pfx (k : Int) (p : PickD) : PickD := .mk k 0 0 [p]
theorem units_pfx {r : RigD} {gl : List GroupD} {pl : List PresetD} {p : PickD} (h : (unitsF r gl pl p).2 = 0) :
  ((∀ k : Int, k = 6 ∨ k = 7 ∨ k = 8 → unitsF r gl pl (pfx k p) = ([], 2))) ∨
  (unitsF r gl pl (pfx 6 p) = (evF 2 0 (unitsF r gl pl p).1, 0) ∧ unitsF r gl pl (pfx 7 p) = (evF 2 1 (unitsF r gl pl p).1, 0) ∧ unitsF r gl pl (pfx 8 p) = ((unitsF r gl pl p).1.reverse, 0)) := by
 by_cases h1 : presetsF r pl = 0
 case neg => unfold unitsF at h; rw [if_pos h1] at h; exact absurd h h1
 by_cases h2 : grpF gl = 0
 case neg => unfold unitsF at h; rw [if_neg (fun k => k h1), if_pos h2] at h; exact absurd h h2
 by_cases h3 : checkF p = 0
 case neg => unfold unitsF at h; rw [if_neg (fun k => k h1), if_neg (fun k => k h2), if_pos h3] at h; exact absurd h h3
 by_cases h4 : knwB (gsOf gl) (psOf pl) (gl.length + 2) p = false
 ·unfold unitsF at h; rw [if_neg (fun k => k h1), if_neg (fun k => k h2), if_neg (fun k => k h3), if_pos h4] at h; cases h
 have hp0 : pChk p = 0 := by
  unfold checkF at h3
  split at h3
  ·cases h3
  ·exact h3
 have hsz : ∀ k, pSize (pfx k p) = 1 + pSize p := fun k => by simp [pfx, pSize, pSizes]
 have hdp : ∀ k, pDeep (pfx k p) = 1 + pDeep p := fun k => by simp [pfx, pDeep, pDeeps]
 have hck : ∀ k : Int, k = 6 ∨ k = 7 ∨ k = 8 → pChk (pfx k p) = 0 := fun k hk => by
  have hpt : partF k 0 0 1 = 0 := by rcases hk with rfl | rfl | rfl <;> decide
  show (if partF k 0 0 1 = 0 then pChks [p] else partF k 0 0 1) = 0
  rw [if_pos hpt, pChks, if_pos hp0, pChks]
 by_cases hb : 200 < 1 + pSize p ∨ 12 < 1 + pDeep p
 ·left
  intro k hk
  have : checkF (pfx k p) = 2 := by unfold checkF; rw [hsz, hdp, if_pos hb]
  unfold unitsF
  rw [if_neg (fun z => z h1), if_neg (fun z => z h2), this, if_pos (by decide)]
 ·right
  have hc : ∀ k : Int, k = 6 ∨ k = 7 ∨ k = 8 → checkF (pfx k p) = 0 := fun k hk => by unfold checkF; rw [hsz, hdp, if_neg hb]; exact hck k hk
  have hnm : ∀ (k : Int), k = 6 ∨ k = 7 ∨ k = 8 → ∀ j : Int, j = 2 ∨ j = 3 → pNamed j (pfx k p) = pNamed j p := fun k hk j hj => by
   show (if k = j then [(0 : Int)] else []) ++ pNameds j [p] = pNamed j p
   rw [if_neg (by omega), pNameds, pNameds, List.append_nil, List.nil_append]
  have hkn : ∀ k : Int, k = 6 ∨ k = 7 ∨ k = 8 → knwB (gsOf gl) (psOf pl) (gl.length + 2) (pfx k p) = true := fun k hk => by
   have e : knwB (gsOf gl) (psOf pl) (gl.length + 2) (pfx k p) = knwB (gsOf gl) (psOf pl) (gl.length + 2) p := by
    rw [knwB, knwB, hnm k hk 3 (.inr rfl), hnm k hk 2 (.inl rfl)]
   rw [e]
   cases q : knwB (gsOf gl) (psOf pl) (gl.length + 2) p
   ·exact absurd q h4
   ·rfl
  have hl : (unitsF r gl pl p).1 = uF (usOf r) (gsOf gl) (psOf pl) ((gl.length + 2) * 12) p := by
   unfold unitsF
   rw [if_neg (fun z => z h1), if_neg (fun z => z h2), if_neg (fun z => z h3), if_neg h4]
  obtain ⟨M, hM⟩ : ∃ M, (gl.length + 2) * 12 = M + 1 := ⟨(gl.length + 2) * 12 - 1, by omega⟩
  have hu : ∀ k : Int, k = 6 ∨ k = 7 ∨ k = 8 → unitsF r gl pl (pfx k p) = (pcomb (usOf r) (fun f => match tfind f (gsOf gl) with | some g => uF (usOf r) (gsOf gl) (psOf pl) M g | none => []) (fun f => (tfind f (psOf pl)).getD []) k 0 0 [(unitsF r gl pl p).1], 0) := fun k hk => by
   have hR := rk_units h2 (hc k hk) (hkn k hk)
   rw [hM] at hR
   have hRp : Rk (gsOf gl) (psOf pl) M p := by
    rw [Rk] at hR
    exact hR.2.2.1 p (by show p ∈ [p]; simp)
   have hup : uF (usOf r) (gsOf gl) (psOf pl) (M + 1) p = uF (usOf r) (gsOf gl) (psOf pl) M p := uF_up _ _ _ hRp (by omega)
   rw [hl, hM, hup]
   unfold unitsF
   rw [if_neg (fun z => z h1), if_neg (fun z => z h2), if_neg (fun z => z (hc k hk)), if_neg (by rw [hkn k hk]; decide), hM]
   rfl
  rw [hu 6 (.inl rfl), hu 7 (.inr (.inl rfl)), hu 8 (.inr (.inr rfl))]
  exact ⟨rfl, rfl, rfl⟩
end Go.Proofs.YtkdafecbdncmiaaDoor

