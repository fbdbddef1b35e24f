/- Parts of the proof of PickUnitsAreUnits, in order. -/
import Derived.Orders
import Derived.Below
import Derived.WalkKit
import Derived.Test.YtkdafecbdncmiaaDoorRows
import Derived.Lib.LaidTab
import Derived.Lib.ItoaNum
import Derived.KernelRfl
import Derived.Laws.StructEq
import Derived.Laws.Append
import Derived.Laws.AppendOwn
import Derived.Lib.Bytealg
import Derived.Sort.Defs
import Derived.Lib.BitFns
import Derived.Lib.Strings
import Derived.Test.YtkdafecbdncmiaaDoorShelf
import Derived.IntWalk
import Derived.Sort.Statements
import Derived.Lib.ItoaMem
import Derived.Lib.ItoaLen
import Derived.WalkSpells
import Derived.ProofKit
import Derived.OpenShut
import Derived.Deep.QuietTactic
import Derived.BigQuiet
import Derived.Lib.Hide
import Derived.Deep.RegionHeld3
import Derived.Deep.Slices
import Derived.Lib.SmallJoins
import Derived.Deep.DeepHandedRow
import Derived.Test.YtkdafecbdncmiaaDoorKPickUnitsAreUnits5
namespace Go.Proofs.YtkdafecbdncmiaaDoor
set_option linter.unusedSectionVars false
set_option linter.unusedVariables false
set_option linter.unusedSimpArgs false
theorem m_slices_IndexFunc_api_Unit_eq (dyn : Nat → List AV → Heap → Option (AV × Heap)) (l : List UnitD) (hl : l.length ≤ mxl) (n : Nat) (caps : List AV) (p : UnitD → Bool) (σ : Heap) (hd : ∀ x ∈ l, dyn n ((.agg (cUnit x) : AV) :: caps) σ = some (.bool (p x), σ)) : m_slices_IndexFunc_api_Unit dyn [sl 4 cUnit l, .fn n caps] σ = some (.int .i64 (idxI p l), σ) := by
 refine wrap_eq rfl ?_ rfl
 show r_slices_IndexFunc_api_Unit dyn (sl 4 cUnit l) (.fn n caps) σ = _
 unfold r_slices_IndexFunc_api_Unit
 simp only [MSb, reduceCtorEq]
 refine (loop_pre (S := Unit) (R := Int) l (fun pre x _ => if p x = true then .out (pre.length : Int) else .go ())
  (fun pre _ => [.int .i64 0, .int .i64 (pre.length : Int)]) (fun _ _ => σ) (fun _ => (.exit 0, [.int .i64 0, .int .i64 (l.length : Int)], σ)) (fun pre _ r => (.ret, [.int .i64 (pre.length : Int), .int .i64 (pre.length : Int)], σ))
  (fun _ _ => True) () (fun _ => some (AV.int .i64 (-1), σ)) (fun r => some (AV.int .i64 r, σ)) ?_ ?_ trivial (fun _ _ _ _ _ _ _ _ => trivial) ?_ ?_).trans ?_
 ·intro pre x rest u hl' _
  have hx := pre_get hl'
  have hlt := pre_lt hl'
  have hi1 : IntKind.i64.wrap ((pre.length : Int) + 1) = (pre.length : Int) + 1 := wrap64 (by unfold inI; unfold mxl at hl; omega)
  have hlt' : (pre.length : Int) < (l.length : Int) := by omega
  have hia := iaddr_sl 4 cUnit l hx
  have hdx := hd x (by rw [hl']; simp)
  simp only [MSb, reduceCtorEq, p1_cUnit_0, p1_cUnit_1, p1_cUnit_2, p1_cUnit_3, pA_cUnit, ce_cUnit, sp_cUnit, hlt', hia, A.callv, List.cons_append, List.nil_append, hdx, hi1]
  cases p x <;> simp [MSb, reduceCtorEq]
 ·intro u _; simp only [MSb, reduceCtorEq, Int.lt_irrefl]
 ·intro u _; simp only [MSb, reduceCtorEq]
 ·intro pre x rest s q hl' _ hb
  have : q = (pre.length : Int) := by
   cases hpx : p x
   ·rw [hpx] at hb; cases hb
   ·rw [hpx] at hb; simp at hb; exact hb.symm
  simp only [MSb, reduceCtorEq, this]
 ·rw [idxI_run p _ _ l [] (by simp)]
  simp only [List.nil_append]
  split
  ·rename_i h; rw [h]
  ·rfl
theorem m_slices_ContainsFunc_api_Unit_eq (dyn : Nat → List AV → Heap → Option (AV × Heap)) (l : List UnitD) (hl : l.length ≤ mxl) (n : Nat) (caps : List AV) (p : UnitD → Bool) (σ : Heap) (hd : ∀ x ∈ l, dyn n ((.agg (cUnit x) : AV) :: caps) σ = some (.bool (p x), σ)) : m_slices_ContainsFunc_api_Unit dyn [sl 4 cUnit l, .fn n caps] σ = some (.bool (l.any p), σ) := by
 refine wrap_eq rfl ?_ rfl
 show r_slices_ContainsFunc_api_Unit dyn (sl 4 cUnit l) (.fn n caps) σ = _
 unfold r_slices_ContainsFunc_api_Unit
 simp only [MSb, reduceCtorEq, m_slices_IndexFunc_api_Unit_eq dyn l hl n caps p σ hd]
 refine congrArg some (congrArg (fun b => (AV.bool b, σ)) ?_)
 exact idxI_any p l
end Go.Proofs.YtkdafecbdncmiaaDoor

namespace Go.Proofs.YtkdafecbdncmiaaDoor
set_option linter.unusedSectionVars false
set_option linter.unusedVariables false
set_option linter.unusedSimpArgs false
set_option maxRecDepth 100000
noncomputable def t_pick_text (q_pick_arg : PickD → Option ByteArray) (q_pick_text : PickD → Option ByteArray) (a0 : PickD) : Option ByteArray :=
 (tq (inI a0.frm) (itoaB a0.frm)).bind fun r1 =>
 (tq (inI a0.to) (itoaB a0.to)).bind fun r2 =>
 if a0.kind = 1 then
  if r1 = r2 then
   some r1
  else
  (tCat r1 (⟨#[32, 116, 104, 114, 117, 32]⟩ : ByteArray)).bind fun x3 =>
  (tCat x3 r2).bind fun x4 =>
  some x4
 else
 if a0.kind = 2 then
  (tCat (⟨#[103, 114, 111, 117, 112, 32]⟩ : ByteArray) r1).bind fun x6 =>
  some x6
 else
 if a0.kind = 3 then
  (tCat (⟨#[112, 114, 101, 115, 101, 116, 32]⟩ : ByteArray) r1).bind fun x7 =>
  some x7
 else
 if a0.kind = 6 then
  (tIx a0.args 0).bind fun x8 =>
  (q_pick_arg x8).bind fun r9 =>
  (tCat (⟨#[111, 100, 100, 32]⟩ : ByteArray) r9).bind fun x10 =>
  some x10
 else
 if a0.kind = 7 then
  (tIx a0.args 0).bind fun x11 =>
  (q_pick_arg x11).bind fun r12 =>
  (tCat (⟨#[101, 118, 101, 110, 32]⟩ : ByteArray) r12).bind fun x13 =>
  some x13
 else
 if a0.kind = 8 then
  (tIx a0.args 0).bind fun x14 =>
  (q_pick_arg x14).bind fun r15 =>
  (tCat (⟨#[98, 97, 99, 107, 32]⟩ : ByteArray) r15).bind fun x16 =>
  some x16
 else
 if a0.kind = 9 then
  (tCat (⟨#[101, 118, 101, 114, 121, 32]⟩ : ByteArray) r1).bind fun x17 =>
  (tCat x17 (⟨#[32, 102, 114, 111, 109, 32]⟩ : ByteArray)).bind fun x18 =>
  (tCat x18 r2).bind fun x19 =>
  (tCat x19 (⟨#[32]⟩ : ByteArray)).bind fun x20 =>
  (tIx a0.args 0).bind fun x21 =>
  (q_pick_arg x21).bind fun r22 =>
  (tCat x20 r22).bind fun x23 =>
  some x23
 else
 (tIx a0.args 0).bind fun x24 =>
 (q_pick_arg x24).bind fun r25 =>
 (show Option ByteArray from
   if a0.kind = 5 then
    some (⟨#[32, 45, 32]⟩ : ByteArray)
   else
   some (⟨#[32, 43, 32]⟩ : ByteArray)).bind fun j27 =>
 (show Option ByteArray from
   if ((decide (x24.kind = 5)) || (decide (a0.kind = 5))) = true then
    (q_pick_text x24).bind fun r30 =>
    some r30
   else
   some r25).bind fun j32 =>
 (tSl a0.args (some 1) none).bind fun x35 =>
 forE x35 (fun (i43 : Nat) e42 (s36 : ByteArray) => (show Option (Lr ByteArray ByteArray Unit) from
   (q_pick_arg e42).bind fun r44 =>
   (tCat j27 r44).bind fun x45 =>
   (tCat s36 x45).bind fun x46 =>
   some (.go x46))) (fun s36 => some s36) j32 (fun b37 =>
  some b37) (fun b37 =>
  none)
theorem h_pick_text {rc : Nat → List AV → Heap → Option (AV × Heap)} (q_pick_arg : PickD → Option ByteArray) (q_pick_text : PickD → Option ByteArray) (hq_pick_arg : ∀ (x0 : PickD) (s : Heap) r, q_pick_arg x0 = some r → rc 461 [(AV.agg (cPick x0))] s = some ((AV.str r), s)) (hq_pick_text : ∀ (x0 : PickD) (s : Heap) r, q_pick_text x0 = some r → rc 462 [(AV.agg (cPick x0))] s = some ((AV.str r), s)) {a0 : PickD} {σ : Heap} {r : ByteArray} (h : t_pick_text q_pick_arg q_pick_text a0 = some r) : A.wrap true [(.a [.k, .k, .k, (.s 4)])] .k (A.ar1 (r_pick_text rc)) [(AV.agg (cPick a0))] σ = some ((AV.str r), σ) := by
 refine rf_wrap1 (f := r_pick_text rc) (y0 := (AV.agg (cPick a0))) (enc := fun r : ByteArray => (AV.str r)) (T := t_pick_text q_pick_arg q_pick_text a0) (by first | rfl | (simp only [cPick_eq]; rfl)) (by first | rfl | (simp only [cPick_eq]; rfl)) ?_ r h
 unfold r_pick_text t_pick_text
 refine rf_s (cPick a0) (by first | rfl | (simp only [cPick_eq]; rfl)) <| rf_s (AV.int .i64 a0.frm) (by first | rfl | (simp only [cPick_eq]; rfl)) ?_
 refine rf_o (fun r1 : ByteArray => (AV.str r1)) (fun r1 hr1 => (quiet_of ((tq_of (e := fun r : ByteArray => ((AV.str r), σ)) (fun hs => Itoa_eq a0.frm hs σ)) hr1))) (fun r1 hr1 => ?_)
 refine rf_s (AV.int .i64 a0.to) (by first | rfl | (simp only [cPick_eq]; rfl)) ?_
 refine rf_o (fun r2 : ByteArray => (AV.str r2)) (fun r2 hr2 => (quiet_of ((tq_of (e := fun r : ByteArray => ((AV.str r), σ)) (fun hs => Itoa_eq a0.to hs σ)) hr2))) (fun r2 hr2 => ?_)
 refine rf_s (AV.int .i64 a0.kind) (by first | rfl | (simp only [cPick_eq]; rfl)) <| rf_s _ (aEq _ _ _) ?_
 refine rf_c (p := a0.kind = 1) (fun c53 => ?_) (fun c53 => ?_)
 ·refine rf_s _ (aEqZ _ _) ?_
  refine rf_c (p := r1 = r2) (fun c5 => ?_) (fun c5 => ?_)
  ·exact rf_fin _ (fin_same _ _) ⟨rfl, rfl⟩
  refine rf_o (fun x3 : ByteArray => (AV.str x3)) (fun x3 hx3 => (cat_at hx3)) (fun x3 hx3 => ?_)
  refine rf_o (fun x4 : ByteArray => (AV.str x4)) (fun x4 hx4 => (cat_at hx4)) (fun x4 hx4 => ?_)
  exact rf_fin _ (fin_same _ _) ⟨rfl, rfl⟩
 refine rf_s _ (aEq _ _ _) ?_
 refine rf_c (p := a0.kind = 2) (fun c52 => ?_) (fun c52 => ?_)
 ·refine rf_o (fun x6 : ByteArray => (AV.str x6)) (fun x6 hx6 => (cat_at hx6)) (fun x6 hx6 => ?_)
  exact rf_fin _ (fin_same _ _) ⟨rfl, rfl⟩
 refine rf_s _ (aEq _ _ _) ?_
 refine rf_c (p := a0.kind = 3) (fun c51 => ?_) (fun c51 => ?_)
 ·refine rf_o (fun x7 : ByteArray => (AV.str x7)) (fun x7 hx7 => (cat_at hx7)) (fun x7 hx7 => ?_)
  exact rf_fin _ (fin_same _ _) ⟨rfl, rfl⟩
 refine rf_s _ (aEq _ _ _) ?_
 refine rf_c (p := a0.kind = 6) (fun c50 => ?_) (fun c50 => ?_)
 ·refine rf_s (sl 4 cPick a0.args) (by first | rfl | (simp only [cPick_eq]; rfl)) ?_
  refine rf_o (fun x8 : PickD => (AV.rp (cPick x8))) (fun x8 hx8 => ix_at hx8) (fun x8 hx8 => ?_)
  refine rf_s (AV.agg (cPick x8)) (by first | rfl | (simp only [cPick_eq]; rfl)) ?_
  refine rf_o (fun r9 : ByteArray => ((AV.str r9), σ)) (fun r9 hr9 => hq_pick_arg _ _ _ hr9) (fun r9 hr9 => ?_)
  refine rf_o (fun x10 : ByteArray => (AV.str x10)) (fun x10 hx10 => (cat_at hx10)) (fun x10 hx10 => ?_)
  exact rf_fin _ (fin_same _ _) ⟨rfl, rfl⟩
 refine rf_s _ (aEq _ _ _) ?_
 refine rf_c (p := a0.kind = 7) (fun c49 => ?_) (fun c49 => ?_)
 ·refine rf_s (sl 4 cPick a0.args) (by first | rfl | (simp only [cPick_eq]; rfl)) ?_
  refine rf_o (fun x11 : PickD => (AV.rp (cPick x11))) (fun x11 hx11 => ix_at hx11) (fun x11 hx11 => ?_)
  refine rf_s (AV.agg (cPick x11)) (by first | rfl | (simp only [cPick_eq]; rfl)) ?_
  refine rf_o (fun r12 : ByteArray => ((AV.str r12), σ)) (fun r12 hr12 => hq_pick_arg _ _ _ hr12) (fun r12 hr12 => ?_)
  refine rf_o (fun x13 : ByteArray => (AV.str x13)) (fun x13 hx13 => (cat_at hx13)) (fun x13 hx13 => ?_)
  exact rf_fin _ (fin_same _ _) ⟨rfl, rfl⟩
 refine rf_s _ (aEq _ _ _) ?_
 refine rf_c (p := a0.kind = 8) (fun c48 => ?_) (fun c48 => ?_)
 ·refine rf_s (sl 4 cPick a0.args) (by first | rfl | (simp only [cPick_eq]; rfl)) ?_
  refine rf_o (fun x14 : PickD => (AV.rp (cPick x14))) (fun x14 hx14 => ix_at hx14) (fun x14 hx14 => ?_)
  refine rf_s (AV.agg (cPick x14)) (by first | rfl | (simp only [cPick_eq]; rfl)) ?_
  refine rf_o (fun r15 : ByteArray => ((AV.str r15), σ)) (fun r15 hr15 => hq_pick_arg _ _ _ hr15) (fun r15 hr15 => ?_)
  refine rf_o (fun x16 : ByteArray => (AV.str x16)) (fun x16 hx16 => (cat_at hx16)) (fun x16 hx16 => ?_)
  exact rf_fin _ (fin_same _ _) ⟨rfl, rfl⟩
 refine rf_s _ (aEq _ _ _) ?_
 refine rf_c (p := a0.kind = 9) (fun c47 => ?_) (fun c47 => ?_)
 ·refine rf_o (fun x17 : ByteArray => (AV.str x17)) (fun x17 hx17 => (cat_at hx17)) (fun x17 hx17 => ?_)
  refine rf_o (fun x18 : ByteArray => (AV.str x18)) (fun x18 hx18 => (cat_at hx18)) (fun x18 hx18 => ?_)
  refine rf_o (fun x19 : ByteArray => (AV.str x19)) (fun x19 hx19 => (cat_at hx19)) (fun x19 hx19 => ?_)
  refine rf_o (fun x20 : ByteArray => (AV.str x20)) (fun x20 hx20 => (cat_at hx20)) (fun x20 hx20 => ?_)
  refine rf_s (sl 4 cPick a0.args) (by first | rfl | (simp only [cPick_eq]; rfl)) ?_
  refine rf_o (fun x21 : PickD => (AV.rp (cPick x21))) (fun x21 hx21 => ix_at hx21) (fun x21 hx21 => ?_)
  refine rf_s (AV.agg (cPick x21)) (by first | rfl | (simp only [cPick_eq]; rfl)) ?_
  refine rf_o (fun r22 : ByteArray => ((AV.str r22), σ)) (fun r22 hr22 => hq_pick_arg _ _ _ hr22) (fun r22 hr22 => ?_)
  refine rf_o (fun x23 : ByteArray => (AV.str x23)) (fun x23 hx23 => (cat_at hx23)) (fun x23 hx23 => ?_)
  exact rf_fin _ (fin_same _ _) ⟨rfl, rfl⟩
 refine rf_s (sl 4 cPick a0.args) (by first | rfl | (simp only [cPick_eq]; rfl)) ?_
 refine rf_o (fun x24 : PickD => (AV.rp (cPick x24))) (fun x24 hx24 => ix_at hx24) (fun x24 hx24 => ?_)
 refine rf_s (AV.agg (cPick x24)) (by first | rfl | (simp only [cPick_eq]; rfl)) <| rf_s (cPick x24) (by first | rfl | (simp only [cPick_eq]; rfl)) <| rf_s _ (sp_cPick _ _ rfl) <| rf_s (AV.agg (cPick x24)) (by first | rfl | (simp only [cPick_eq]; rfl)) ?_
 refine rf_o (fun r25 : ByteArray => ((AV.str r25), σ)) (fun r25 hr25 => hq_pick_arg _ _ _ hr25) (fun r25 hr25 => ?_)
 refine rf_s (AV.int .i64 a0.kind) (by first | rfl | (simp only [cPick_eq]; rfl)) <| rf_s _ (aEq _ _ _) ?_
 refine rf_b (ω := ByteArray) (fun j27 a => a = (([(AV.lbx (cPick a0)), (AV.str j27), (AV.lbx (cPick x24))] : List AV), σ)) (
   by
    refine rf_c (p := a0.kind = 5) (fun c26 => ?_) (fun c26 => ?_)
    ·exact rf_ret rfl
    exact rf_ret rfl
   ) (fun j27 a ha => ?_)
 subst ha
 refine rf_s _ (by first | rfl | (simp only [cPick_eq]; rfl)) <| rf_s (AV.int .i64 x24.kind) (by first | rfl | (simp only [cPick_eq]; rfl)) <| rf_s _ (aEq _ _ _) <| rf_s _ (by first | rfl | (simp only [cPick_eq]; rfl)) <| rf_gf (AV.int .i64 a0.kind) (fun hg => by first | rfl | (simp only [cPick_eq]; rfl)) <| rf_gf (AV.bool (decide (a0.kind = 5))) (fun hg => by (try rw [hg]); exact (aEq _ _ _)) <| rf_s _ (pk_or _ _) ?_
 refine rf_b (ω := ByteArray) (fun j32 a => a = (([(AV.lbx (cPick a0)), (AV.str j32)] : List AV), σ)) (
   by
    refine rf_cb (c := ((decide (x24.kind = 5)) || (decide (a0.kind = 5)))) (fun c31 => ?_) (fun c31 => ?_)
    ·refine rf_s (AV.agg (cPick x24)) (by first | rfl | (simp only [cPick_eq]; rfl)) ?_
     refine rf_o (fun r30 : ByteArray => ((AV.str r30), σ)) (fun r30 hr30 => hq_pick_text _ _ _ hr30) (fun r30 hr30 => ?_)
     exact rf_ret rfl
    exact rf_ret rfl
   ) (fun j32 a ha => ?_)
 subst ha
 refine rf_s _ (by first | rfl | (simp only [cPick_eq]; rfl)) <| rf_s (sl 4 cPick a0.args) (by first | rfl | (simp only [cPick_eq]; rfl)) ?_
 refine rf_o (fun x35 : (List PickD) => (sl 4 cPick x35)) (fun x35 hx35 => (sls_at hx35)) (fun x35 hx35 => ?_)
 refine rf_s _ (lenS_sl _ _ _) ?_
 refine rf_for (B := ByteArray) (R := Unit) (fun (i43 : Nat) (s36 : ByteArray) v w38 => v = [(AV.str s36), (AV.int .i64 (i43 : Int))] ∧ σ = w38) (fun (b37 : ByteArray) (q : LS) => ∃ u97, q = ((AX.exit 1), ([(AV.str b37), u97] : List AV), σ)) (fun (b37 : Unit) (q : LS) => False) ?_ ?_ ⟨rfl, rfl⟩ ?_ ?_
 ·intro hle42 i43 e42 s36 v w38 he42 hI
  obtain ⟨rfl, rfl⟩ := hI
  refine rf_s _ (ix_lt he42) <| rf_ct <| rf_s _ (ix_for he42) <| rf_s (AV.agg (cPick e42)) (by first | rfl | (simp only [cPick_eq]; rfl)) <| rf_s (cPick e42) (by first | rfl | (simp only [cPick_eq]; rfl)) <| rf_s _ (sp_cPick _ _ rfl) <| rf_s (AV.agg (cPick e42)) (by first | rfl | (simp only [cPick_eq]; rfl)) ?_
  refine rf_o (fun r44 : ByteArray => ((AV.str r44), σ)) (fun r44 hr44 => hq_pick_arg _ _ _ hr44) (fun r44 hr44 => ?_)
  refine rf_o (fun x45 : ByteArray => (AV.str x45)) (fun x45 hx45 => (cat_at hx45)) (fun x45 hx45 => ?_)
  refine rf_o (fun x46 : ByteArray => (AV.str x46)) (fun x46 hx46 => (cat_at hx46)) (fun x46 hx46 => ?_)
  refine rf_s _ (ix_inc he42 hle42) ?_
  exact rf_ret (rnd_go ⟨rfl, rfl⟩)
 ·intro hl s36 v w38 hI
  obtain ⟨rfl, rfl⟩ := hI
  refine rf_s _ (ix_end _) <| rf_cf ?_
  exact rf_ret ⟨by simp, ⟨_, rfl⟩⟩
 ·intro hl b37 q hq
  obtain ⟨u97, rfl⟩ := hq
  refine rf_bt (by first | rfl | (simp only [cPick_eq]; rfl)) ?_
  exact rf_fin _ (fin_same _ _) ⟨rfl, rfl⟩
 ·intro hl b37 q hq
  exact False.elim hq

noncomputable def t_pick_arg (q_pick_text : PickD → Option ByteArray) (a0 : PickD) : Option ByteArray :=
 if ((decide (a0.kind = 4)) || (decide (a0.kind = 5))) = true then
  (q_pick_text a0).bind fun r1 =>
  (tCat (⟨#[40]⟩ : ByteArray) r1).bind fun x2 =>
  (tCat x2 (⟨#[41]⟩ : ByteArray)).bind fun x3 =>
  some x3
 else
 (q_pick_text a0).bind fun r4 =>
 some r4
theorem h_pick_arg {rc : Nat → List AV → Heap → Option (AV × Heap)} (q_pick_text : PickD → Option ByteArray) (hq_pick_text : ∀ (x0 : PickD) (s : Heap) r, q_pick_text x0 = some r → rc 462 [(AV.agg (cPick x0))] s = some ((AV.str r), s)) {a0 : PickD} {σ : Heap} {r : ByteArray} (h : t_pick_arg q_pick_text a0 = some r) : A.wrap true [(.a [.k, .k, .k, (.s 4)])] .k (A.ar1 (r_pick_arg rc)) [(AV.agg (cPick a0))] σ = some ((AV.str r), σ) := by
 refine rf_wrap1 (f := r_pick_arg rc) (y0 := (AV.agg (cPick a0))) (enc := fun r : ByteArray => (AV.str r)) (T := t_pick_arg q_pick_text a0) (by first | rfl | (simp only [cPick_eq]; rfl)) (by first | rfl | (simp only [cPick_eq]; rfl)) ?_ r h
 unfold r_pick_arg t_pick_arg
 refine rf_s (cPick a0) (by first | rfl | (simp only [cPick_eq]; rfl)) <| rf_s (AV.int .i64 a0.kind) (by first | rfl | (simp only [cPick_eq]; rfl)) <| rf_s _ (aEq _ _ _) <| rf_gf (AV.int .i64 a0.kind) (fun hg => by first | rfl | (simp only [cPick_eq]; rfl)) <| rf_gf (AV.bool (decide (a0.kind = 5))) (fun hg => by (try rw [hg]); exact (aEq _ _ _)) <| rf_s _ (pk_or _ _) ?_
 refine rf_cb (c := ((decide (a0.kind = 4)) || (decide (a0.kind = 5)))) (fun c5 => ?_) (fun c5 => ?_)
 ·refine rf_s (AV.agg (cPick a0)) (by first | rfl | (simp only [cPick_eq]; rfl)) ?_
  refine rf_o (fun r1 : ByteArray => ((AV.str r1), σ)) (fun r1 hr1 => hq_pick_text _ _ _ hr1) (fun r1 hr1 => ?_)
  refine rf_o (fun x2 : ByteArray => (AV.str x2)) (fun x2 hx2 => (cat_at hx2)) (fun x2 hx2 => ?_)
  refine rf_o (fun x3 : ByteArray => (AV.str x3)) (fun x3 hx3 => (cat_at hx3)) (fun x3 hx3 => ?_)
  exact rf_fin _ (fin_same _ _) ⟨rfl, rfl⟩
 refine rf_s (AV.agg (cPick a0)) (by first | rfl | (simp only [cPick_eq]; rfl)) ?_
 refine rf_o (fun r4 : ByteArray => ((AV.str r4), σ)) (fun r4 hr4 => hq_pick_text _ _ _ hr4) (fun r4 hr4 => ?_)
 exact rf_fin _ (fin_same _ _) ⟨rfl, rfl⟩

end Go.Proofs.YtkdafecbdncmiaaDoor

namespace Go.Proofs.YtkdafecbdncmiaaDoor
set_option linter.unusedSectionVars false
set_option linter.unusedVariables false
set_option linter.unusedSimpArgs false
def dVal (l : List UInt8) : Nat := l.foldl (fun a d => 10 * a + (d.toNat - 48)) 0
theorem dVal_dec : ∀ u : Nat, dVal (Lib.decDigits u) = u := by
 intro u
 induction u using Nat.strongRecOn with
 | ind u ih =>
  rw [Lib.decDigits]
  by_cases h : u < 10
  ·rw [dif_pos h]
   have : u % 256 = u := Nat.mod_eq_of_lt (by omega)
   simp [dVal]; omega
  ·rw [dif_neg h]
   have h1 := ih (u / 10) (by omega)
   unfold dVal at h1 ⊢
   rw [List.foldl_append, h1]
   simp; omega
theorem itoaB_inj {a b : Int} (ha : 0 ≤ a) (hb : 0 ≤ b) (h : itoaB a = itoaB b) : a = b := by
 obtain ⟨m, rfl⟩ := Int.eq_ofNat_of_zero_le ha
 obtain ⟨n, rfl⟩ := Int.eq_ofNat_of_zero_le hb
 unfold itoaB at h
 have h1 := congrArg (fun s : ByteArray => s.data.toList) h
 simp only [Lib.itoa_nonneg] at h1
 have h2 := congrArg dVal h1
 simp only [dVal_dec] at h2
 rw [h2]
theorem itoaB_size {n : Int} (h : inI n) : (itoaB n).size ≤ 21 := by
 have := Lib.itoa_length_le n h.1 h.2
 show (Lib.itoa n).toArray.size ≤ 21
 simpa using this
abbrev bOpen : ByteArray := ⟨#[40]⟩
abbrev bClose : ByteArray := ⟨#[41]⟩
abbrev bThru : ByteArray := ⟨#[32, 116, 104, 114, 117, 32]⟩
abbrev bGroup : ByteArray := ⟨#[103, 114, 111, 117, 112, 32]⟩
abbrev bPreset : ByteArray := ⟨#[112, 114, 101, 115, 101, 116, 32]⟩
abbrev bOdd : ByteArray := ⟨#[111, 100, 100, 32]⟩
abbrev bEven : ByteArray := ⟨#[101, 118, 101, 110, 32]⟩
abbrev bBack : ByteArray := ⟨#[98, 97, 99, 107, 32]⟩
abbrev bEvery : ByteArray := ⟨#[101, 118, 101, 114, 121, 32]⟩
abbrev bFrom : ByteArray := ⟨#[32, 102, 114, 111, 109, 32]⟩
abbrev bMinus : ByteArray := ⟨#[32, 45, 32]⟩
abbrev bPlus : ByteArray := ⟨#[32, 43, 32]⟩
abbrev bBlank : ByteArray := ⟨#[32]⟩
def argT (k : Int) (s : ByteArray) : ByteArray := if k = 4 ∨ k = 5 then bOpen ++ s ++ bClose else s
def tailT (m s : ByteArray) : List ByteArray → ByteArray
 | [] => s
 | a :: l => tailT m (s ++ (m ++ a)) l
def txtF (k f t : Int) (ks : List Int) (ts : List ByteArray) : ByteArray :=
 if k = 1 then (if f = t then itoaB f else itoaB f ++ bThru ++ itoaB t)
 else if k = 2 then bGroup ++ itoaB f
 else if k = 3 then bPreset ++ itoaB f
 else if k = 6 then bOdd ++ argT (ks.headD 0) (ts.headD default)
 else if k = 7 then bEven ++ argT (ks.headD 0) (ts.headD default)
 else if k = 8 then bBack ++ argT (ks.headD 0) (ts.headD default)
 else if k = 9 then bEvery ++ itoaB f ++ bFrom ++ itoaB t ++ bBlank ++ argT (ks.headD 0) (ts.headD default)
 else tailT (if k = 5 then bMinus else bPlus) (if ks.headD 0 = 5 ∨ k = 5 then ts.headD default else argT (ks.headD 0) (ts.headD default)) (List.zipWith argT (ks.drop 1) (ts.drop 1))
mutual
def pTxt : PickD → ByteArray
 | .mk k f t l => txtF k f t (l.map PickD.kind) (pTxts l)
def pTxts : List PickD → List ByteArray
 | [] => []
 | p :: l => pTxt p :: pTxts l
end
theorem pTxts_eq : ∀ l : List PickD, pTxts l = l.map pTxt
 | [] => by rw [pTxts]; rfl
 | p :: l => by rw [pTxts, pTxts_eq l]; rfl
def pArgT (p : PickD) : ByteArray := argT p.kind (pTxt p)
theorem zip_args : ∀ l : List PickD, List.zipWith argT (l.map PickD.kind) (l.map pTxt) = l.map pArgT
 | [] => rfl
 | p :: l => by rw [List.map_cons, List.map_cons, List.zipWith_cons_cons, zip_args l]; rfl
theorem pTxt_eq (p : PickD) : pTxt p = txtF p.kind p.frm p.to (p.args.map PickD.kind) (p.args.map pTxt) := by cases p; rw [pTxt, pTxts_eq]; rfl
theorem bsz (a b : ByteArray) : (a ++ b).size = a.size + b.size := ByteArray.size_append
theorem argT_size (k : Int) (s : ByteArray) : (argT k s).size ≤ s.size + 2 := by
 unfold argT
 split
 ·rw [bsz, bsz]; show 1 + s.size + 1 ≤ _; omega
 ·omega
theorem tailT_size (m : ByteArray) : ∀ (l : List ByteArray) (s : ByteArray), (tailT m s l).size = s.size + (l.map fun a => m.size + a.size).sum
 | [], s => by simp [tailT]
 | a :: l, s => by rw [tailT, tailT_size m l, bsz, bsz, List.map_cons, List.sum_cons]; omega
theorem pChks_zero : ∀ {l : List PickD}, pChks l = 0 → ∀ x ∈ l, pChk x = 0
 | p :: l, h, x, hx => by
  rw [pChks] at h
  by_cases hp : pChk p = 0
  ·rw [if_pos hp] at h
   rcases List.mem_cons.1 hx with rfl | hx
   ·exact hp
   ·exact pChks_zero h x hx
  ·rw [if_neg hp] at h; exact absurd h hp
theorem pChk_zero {p : PickD} (h : pChk p = 0) : partF p.kind p.frm p.to p.args.length = 0 ∧ ∀ x ∈ p.args, pChk x = 0 := by
 rw [pChk_eq] at h
 by_cases hp : partF p.kind p.frm p.to p.args.length = 0
 ·rw [if_pos hp] at h; exact ⟨hp, pChks_zero h⟩
 ·rw [if_neg hp] at h; exact absurd h hp
theorem partF_zero {k f t : Int} {n : Nat} (h : partF k f t n = 0) : (1 ≤ k ∧ k ≤ 9) ∧ ¬ pkA k f t n ∧ ¬ pkB k f t := by
 unfold partF at h
 split at h
 ·cases h
 ·rename_i h1
  split at h
  ·cases h
  ·rename_i h2
   split at h
   ·cases h
   ·rename_i h3
    exact ⟨by omega, h2, h3⟩
theorem part_in {k f t : Int} {n : Nat} (h : partF k f t n = 0) : 0 ≤ f ∧ f ≤ 9999 ∧ 0 ≤ t ∧ t ≤ 9999 := by
 obtain ⟨h1, h2, h3⟩ := partF_zero h
 unfold pkA at h2; unfold pkB at h3
 have hk' : k = 1 ∨ k = 2 ∨ k = 3 ∨ k = 4 ∨ k = 5 ∨ k = 6 ∨ k = 7 ∨ k = 8 ∨ k = 9 := by omega
 rcases hk' with rfl | rfl | rfl | rfl | rfl | rfl | rfl | rfl | rfl <;> omega
theorem sum_le {f g : PickD → Nat} : ∀ {l : List PickD}, (∀ x ∈ l, f x ≤ g x) → (l.map f).sum ≤ (l.map g).sum
 | [], _ => Nat.le_refl _
 | x :: l, h => by
  rw [List.map_cons, List.map_cons, List.sum_cons, List.sum_cons]
  have := h x (by simp); have := sum_le (f := f) (g := g) (l := l) fun y hy => h y (by simp [hy])
  omega
theorem sum_70 : ∀ l : List PickD, (l.map fun x => 70 * pSize x).sum = 70 * pSizes l
 | [] => by rw [pSizes]; rfl
 | p :: l => by rw [List.map_cons, List.sum_cons, sum_70 l, pSizes]; omega
theorem pTxt_size : ∀ (n : Nat) (p : PickD), pSize p ≤ n → pChk p = 0 → (pTxt p).size + 5 ≤ 70 * pSize p
 | 0, p, h, _ => by rw [pSize_eq] at h; omega
 | n + 1, p, h, hc => by
  obtain ⟨h0, h1⟩ := pChk_zero hc
  have hin := part_in h0
  have ih : ∀ x ∈ p.args, (pTxt x).size + 5 ≤ 70 * pSize x := fun x hx => pTxt_size n x (by have := pSize_arg hx; omega) (h1 x hx)
  have hf : (itoaB p.frm).size ≤ 21 := itoaB_size (by unfold inI; omega)
  have ht : (itoaB p.to).size ≤ 21 := itoaB_size (by unfold inI; omega)
  have ha : ∀ x ∈ p.args, (pArgT x).size + 3 ≤ 70 * pSize x := fun x hx => by have := ih x hx; have := argT_size x.kind (pTxt x); unfold pArgT; omega
  rw [pTxt_eq, pSize_eq]
  have hd : ∀ x l, p.args = x :: l → (argT ((p.args.map PickD.kind).headD 0) ((p.args.map pTxt).headD default)).size + 3 ≤ 70 * pSizes p.args ∧ ((p.args.map pTxt).headD default).size + 5 ≤ 70 * pSize x := fun x l e => by
   rw [e]
   have := ha x (by rw [e]; simp); have := ih x (by rw [e]; simp)
   rw [pSizes]
   unfold pArgT at *
   simp only [List.map_cons, List.headD_cons]
   omega
  obtain ⟨hk, hA, hB⟩ := partF_zero h0
  unfold pkA at hA
  unfold txtF
  cases hargs : p.args with
  | nil =>
   rw [hargs] at hA
   simp only [List.length_nil] at hA
   by_cases k1 : p.kind = 1
   ·rw [if_pos k1]
    split
    ·omega
    ·rw [bsz, bsz]; show _ + 6 + _ + 5 ≤ _; omega
   ·rw [if_neg k1]
    by_cases k2 : p.kind = 2
    ·rw [if_pos k2, bsz]; show 6 + _ + 5 ≤ _; omega
    ·rw [if_neg k2, if_pos (by omega), bsz]; show 7 + _ + 5 ≤ _; omega
  | cons x l =>
   obtain ⟨d1, d2⟩ := hd x l hargs
   rw [hargs] at hA d1 d2 ha
   simp only [List.length_cons] at hA
   have hz : (l.map fun a => 3 + (pArgT a).size).sum ≤ 70 * pSizes l := by
    rw [← sum_70]; exact sum_le fun y hy => by have := ha y (by simp [hy]); omega
   rw [if_neg (by omega), if_neg (by omega), if_neg (by omega)]
   by_cases k6 : p.kind = 6
   ·rw [if_pos k6, bsz]; show 4 + _ + 5 ≤ _; omega
   ·rw [if_neg k6]
    by_cases k7 : p.kind = 7
    ·rw [if_pos k7, bsz]; show 5 + _ + 5 ≤ _; omega
    ·rw [if_neg k7]
     by_cases k8 : p.kind = 8
     ·rw [if_pos k8, bsz]; show 5 + _ + 5 ≤ _; omega
     ·rw [if_neg k8]
      by_cases k9 : p.kind = 9
      ·rw [if_pos k9, bsz, bsz, bsz, bsz, bsz]; show 6 + _ + 6 + _ + 1 + _ + 5 ≤ _; omega
      ·rw [if_neg k9, tailT_size]
       have hm : ∀ y : List ByteArray, (y.map fun a => (if p.kind = 5 then bMinus else bPlus).size + a.size) = y.map fun a => 3 + a.size := fun y => by
        split <;> rfl
       rw [hm]
       have e1 : List.zipWith argT (((x :: l).map PickD.kind).drop 1) (((x :: l).map pTxt).drop 1) = l.map pArgT := by
        simp only [List.map_cons, List.drop_succ_cons, List.drop_zero]; exact zip_args l
       rw [e1, List.map_map]
       have e2 : (if ((x :: l).map PickD.kind).headD 0 = 5 ∨ p.kind = 5 then ((x :: l).map pTxt).headD default else argT (((x :: l).map PickD.kind).headD 0) (((x :: l).map pTxt).headD default)).size + 3 ≤ 70 * pSize x := by
        have q := ha x (by simp)
        unfold pArgT at q
        simp only [List.map_cons, List.headD_cons] at d2 ⊢
        by_cases hq : x.kind = 5 ∨ p.kind = 5
        ·rw [if_pos hq]; omega
        ·rw [if_neg hq]; omega
       rw [pSizes]
       have e3 : ((l.map ((fun a : ByteArray => 3 + a.size) ∘ pArgT))).sum ≤ 70 * pSizes l := hz
       omega
end Go.Proofs.YtkdafecbdncmiaaDoor

namespace Go.Proofs.YtkdafecbdncmiaaDoor
set_option linter.unusedSectionVars false
set_option linter.unusedVariables false
set_option linter.unusedSimpArgs false
theorem cat_ok {a b : ByteArray} (h : a.size + b.size ≤ 1000000000) : tCat a b = some (a ++ b) := if_pos (by omega)
theorem tailT_snoc (m : ByteArray) : ∀ (l : List ByteArray) (s a : ByteArray), tailT m s (l ++ [a]) = tailT m s l ++ (m ++ a)
 | [], s, a => rfl
 | b :: l, s, a => by rw [List.cons_append, tailT, tailT, tailT_snoc m l]
theorem tSl_one {α : Type} {x : α} {l : List α} : tSl (x :: l) (some 1) none = some l := by simp [tSl]; omega
theorem take_sum {f : PickD → Nat} (l : List PickD) (i : Nat) : ((l.take i).map f).sum ≤ (l.map f).sum := by
 have h := List.take_append_drop i l
 have h2 : (l.map f).sum = ((l.take i).map f).sum + ((l.drop i).map f).sum := by rw [← List.sum_append, ← List.map_append, h]
 omega
theorem tail_loop {q : PickD → Option ByteArray} {m s : ByteArray} {l : List PickD} {γ : Type} {K1 : ByteArray → Option γ} {K2 : Unit → Option γ} (hl : l.length ≤ mxl) (hq : ∀ x ∈ l, q x = some (pArgT x)) (hm : m.size ≤ 3) (hs : s.size + (l.map fun a => m.size + (pArgT a).size).sum ≤ 100000000) :
  forE l (fun (i : Nat) e (s : ByteArray) => (q e).bind fun r => (tCat m r).bind fun x => (tCat s x).bind fun x => some (.go x)) (fun s => some s) s K1 K2 = K1 (tailT m s (l.map pArgT)) := by
 rw [forE_st (fun i => tailT m s ((l.take i).map pArgT)) hl (by simp [tailT])]
 ·rw [List.take_length, Option.bind_some]
 ·intro i x hx
  have ht : l.take (i + 1) = l.take i ++ [x] := by rw [List.take_add_one, hx]; rfl
  have h1 := take_sum (f := fun a => m.size + (pArgT a).size) l (i + 1)
  rw [ht, List.map_append, List.sum_append] at h1
  simp only [List.map_cons, List.map_nil, List.sum_cons, List.sum_nil] at h1
  have h2 := tailT_size m ((l.take i).map pArgT) s
  rw [List.map_map] at h2
  have h3 : (((l.take i).map ((fun a : ByteArray => m.size + a.size) ∘ pArgT))).sum = ((l.take i).map fun a => m.size + (pArgT a).size).sum := rfl
  rw [h3] at h2
  simp only [hq x (List.mem_of_getElem? hx), Option.bind_some]
  rw [cat_ok (by omega), Option.bind_some, cat_ok (by rw [h2, bsz]; omega), Option.bind_some, ht, List.map_append, List.map_cons, List.map_nil, tailT_snoc]
theorem pArgT_eq (p : PickD) : pArgT p = if p.kind = 4 ∨ p.kind = 5 then bOpen ++ pTxt p ++ bClose else pTxt p := rfl
theorem arg_k {q : PickD → Option ByteArray} {p : PickD} (h : q p = some (pTxt p)) (hs : (pTxt p).size ≤ 100000000) : t_pick_arg q p = some (pArgT p) := by
 unfold t_pick_arg
 rw [h, pArgT_eq]
 by_cases hk : p.kind = 4 ∨ p.kind = 5
 ·rw [if_pos (by simpa using hk), if_pos hk, Option.bind_some, cat_ok (by show 1 + _ ≤ _; omega), Option.bind_some, cat_ok (by rw [bsz]; show 1 + _ + 1 ≤ _; omega)]; rfl
 ·rw [if_neg (by simpa using hk), if_neg hk]; rfl
theorem argT_hd (x : PickD) (l : List PickD) : argT (((x :: l).map PickD.kind).headD 0) (((x :: l).map pTxt).headD default) = pArgT x := rfl
theorem txt_hd (x : PickD) (l : List PickD) : ((x :: l).map pTxt).headD default = pTxt x := rfl
theorem knd_hd (x : PickD) (l : List PickD) : ((x :: l).map PickD.kind).headD 0 = x.kind := rfl
theorem args_tl (x : PickD) (l : List PickD) : List.zipWith argT (((x :: l).map PickD.kind).drop 1) (((x :: l).map pTxt).drop 1) = l.map pArgT := by
 simp only [List.map_cons, List.drop_succ_cons, List.drop_zero]; exact zip_args l
theorem txt_facts {p : PickD} (h : pChk p = 0) (hs : pSize p ≤ 1000000) : inI p.frm ∧ inI p.to ∧ (itoaB p.frm).size ≤ 21 ∧ (itoaB p.to).size ≤ 21 ∧ (∀ x ∈ p.args, pChk x = 0 ∧ (pTxt x).size + 5 ≤ 70 * pSize x ∧ (pArgT x).size + 3 ≤ 70 * pSize x) ∧ (1 ≤ p.kind ∧ p.kind ≤ 9) ∧ ¬ pkA p.kind p.frm p.to p.args.length ∧ (p.kind = 1 → (p.frm = p.to ↔ itoaB p.frm = itoaB p.to)) := by
 obtain ⟨h0, h1⟩ := pChk_zero h
 obtain ⟨a, b, c, d⟩ := part_in h0
 obtain ⟨e, g, _⟩ := partF_zero h0
 have i1 : inI p.frm := by unfold inI; omega
 have i2 : inI p.to := by unfold inI; omega
 refine ⟨i1, i2, itoaB_size i1, itoaB_size i2, fun x hx => ?_, e, g, fun _ => ⟨fun q => by rw [q], fun q => itoaB_inj a c q⟩⟩
 have := pTxt_size _ x (Nat.le_refl _) (h1 x hx)
 have := argT_size x.kind (pTxt x)
 exact ⟨h1 x hx, by omega, by unfold pArgT; omega⟩
theorem rest_le {x : PickD} {l : List PickD} {N : Nat} (hs : 1 + (pSize x + pSizes l) ≤ N) (ha : ∀ y ∈ x :: l, (pArgT y).size + 3 ≤ 70 * pSize y) {m : ByteArray} (hm : m.size ≤ 3) : (l.map fun a => m.size + (pArgT a).size).sum ≤ 70 * pSizes l := by
 rw [← sum_70]; exact sum_le fun y hy => by have := ha y (by simp [hy]); omega
theorem text_k {qa qt : PickD → Option ByteArray} {p : PickD} (h : pChk p = 0) (hs : pSize p ≤ 1000000) (ha : ∀ x ∈ p.args, qa x = some (pArgT x)) (ht : ∀ x ∈ p.args, qt x = some (pTxt x)) : t_pick_text qa qt p = some (pTxt p) := by
 obtain ⟨i1, i2, f1, f2, hx, hk, hA, hj⟩ := txt_facts h hs
 unfold t_pick_text
 rw [pTxt_eq, tq_pos i1, tq_pos i2, Option.bind_some, Option.bind_some]
 unfold txtF
 unfold pkA at hA
 rw [pSize_eq] at hs
 cases hargs : p.args with
 | nil =>
  rw [hargs] at hA
  simp only [List.length_nil] at hA
  by_cases k1 : p.kind = 1
  ·rw [if_pos k1, if_pos k1]
   by_cases e : p.frm = p.to
   ·rw [if_pos ((hj k1).1 e), if_pos e]
   ·rw [if_neg (fun q => e ((hj k1).2 q)), if_neg e, cat_ok (by show _ + 6 ≤ _; omega), Option.bind_some, cat_ok (by rw [bsz]; show _ + 6 + _ ≤ _; omega)]; rfl
  ·rw [if_neg k1, if_neg k1]
   by_cases k2 : p.kind = 2
   ·rw [if_pos k2, if_pos k2, cat_ok (by show 6 + _ ≤ _; omega)]; rfl
   ·rw [if_neg k2, if_neg k2, if_pos (show p.kind = 3 by omega), if_pos (show p.kind = 3 by omega), cat_ok (by show 7 + _ ≤ _; omega)]; rfl
 | cons x l =>
  rw [hargs] at hA ha ht hx hs
  simp only [List.length_cons] at hA
  rw [pSizes] at hs
  have hl : l.length ≤ mxl := by have := pSizes_len l; unfold mxl; omega
  obtain ⟨_, x1, x2⟩ := hx x (by simp)
  have ix : tIx (x :: l) 0 = some x := rfl
  have k1 : ¬ p.kind = 1 := by omega
  have k2 : ¬ p.kind = 2 := by omega
  have k3 : ¬ p.kind = 3 := by omega
  rw [if_neg k1, if_neg k2, if_neg k3, if_neg k1, if_neg k2, if_neg k3, ix, argT_hd, txt_hd, knd_hd, args_tl]
  simp only [Option.bind_some, ha x (by simp)]
  by_cases k6 : p.kind = 6
  ·rw [if_pos k6, if_pos k6, cat_ok (by show 4 + _ ≤ _; omega)]; rfl
  ·rw [if_neg k6, if_neg k6]
   by_cases k7 : p.kind = 7
   ·rw [if_pos k7, if_pos k7, cat_ok (by show 5 + _ ≤ _; omega)]; rfl
   ·rw [if_neg k7, if_neg k7]
    by_cases k8 : p.kind = 8
    ·rw [if_pos k8, if_pos k8, cat_ok (by show 5 + _ ≤ _; omega)]; rfl
    ·rw [if_neg k8, if_neg k8]
     by_cases k9 : p.kind = 9
     ·rw [if_pos k9, if_pos k9, cat_ok (by show 6 + _ ≤ _; omega), Option.bind_some, cat_ok (by rw [bsz]; show 6 + _ + 6 ≤ _; omega), Option.bind_some, cat_ok (by rw [bsz, bsz]; show 6 + _ + 6 + _ ≤ _; omega), Option.bind_some, cat_ok (by rw [bsz, bsz, bsz]; show 6 + _ + 6 + _ + 1 ≤ _; omega), Option.bind_some, cat_ok (by rw [bsz, bsz, bsz, bsz]; show 6 + _ + 6 + _ + 1 + _ ≤ _; omega)]; rfl
     ·rw [if_neg k9, if_neg k9]
      have e1 : (if p.kind = 5 then some (⟨#[32, 45, 32]⟩ : ByteArray) else some (⟨#[32, 43, 32]⟩ : ByteArray)) = some (if p.kind = 5 then bMinus else bPlus) := by
       by_cases k5 : p.kind = 5 <;> simp [k5]
      have e2 : (if ((decide (x.kind = 5)) || (decide (p.kind = 5))) = true then (qt x).bind fun r30 => some r30 else some (pArgT x)) = some (if x.kind = 5 ∨ p.kind = 5 then pTxt x else pArgT x) := by
       rw [ht x (by simp)]
       by_cases k5 : x.kind = 5 ∨ p.kind = 5
       ·rw [if_pos k5, if_pos (by simpa using k5)]; rfl
       ·rw [if_neg k5, if_neg (by simpa using k5)]
      rw [e1, Option.bind_some, e2, Option.bind_some, tSl_one, Option.bind_some]
      have hm : (if p.kind = 5 then bMinus else bPlus).size ≤ 3 := by split <;> exact Nat.le_refl 3
      rw [tail_loop hl (fun y hy => ha y (by simp [hy])) hm]
      have := rest_le hs (fun y hy => (hx y hy).2.2) hm
      split <;> omega
theorem text_t : ∀ (n : Nat) (p : PickD) (σ : Heap), 2 * pDeep p ≤ n → pSize p ≤ 1000000 → pChk p = 0 → fuel R_pick_text (n + 1) 462 [.agg (cPick p)] σ = some (.str (pTxt p), σ) ∧ fuel R_pick_text (n + 2) 461 [.agg (cPick p)] σ = some (.str (pArgT p), σ) := by
 have texts : ∀ (n : Nat), (∀ (p : PickD) (σ : Heap), 2 * pDeep p ≤ n → pSize p ≤ 1000000 → pChk p = 0 → fuel R_pick_text (n + 1) 462 [.agg (cPick p)] σ = some (.str (pTxt p), σ)) → ∀ (p : PickD) (σ : Heap), 2 * pDeep p ≤ n → pSize p ≤ 1000000 → pChk p = 0 → fuel R_pick_text (n + 2) 461 [.agg (cPick p)] σ = some (.str (pArgT p), σ) := by
  intro n ih p σ hd hs hc
  let q : PickD → Option ByteArray := fun x => if 2 * pDeep x ≤ n ∧ pSize x ≤ 1000000 ∧ pChk x = 0 then some (pTxt x) else none
  have e : t_pick_arg q p = some (pArgT p) := arg_k (if_pos ⟨hd, hs, hc⟩) (by have := pTxt_size _ p (Nat.le_refl _) hc; omega)
  have hr : fuel R_pick_text (n + 2) 461 = A.wrap true [(.a [.k, .k, .k, (.s 4)])] .k (A.ar1 (r_pick_arg (fuel R_pick_text (n + 1)))) := rfl
  rw [hr]
  exact h_pick_arg (rc := fuel R_pick_text (n + 1)) q (fun x s r hx => by
   by_cases hp : 2 * pDeep x ≤ n ∧ pSize x ≤ 1000000 ∧ pChk x = 0
   ·have : q x = _ := if_pos hp
    rw [this] at hx; injection hx with hx; subst hx
    exact ih x s hp.1 hp.2.1 hp.2.2
   ·have : q x = none := if_neg hp
    rw [this] at hx; cases hx) e
 have main : ∀ (n : Nat) (p : PickD) (σ : Heap), 2 * pDeep p ≤ n → pSize p ≤ 1000000 → pChk p = 0 → fuel R_pick_text (n + 1) 462 [.agg (cPick p)] σ = some (.str (pTxt p), σ) := by
  intro n
  induction n using Nat.strongRecOn with
  | ind n ih =>
   intro p σ hd hs hc
   have h1 := pDeep_pos p
   obtain ⟨m, rfl⟩ : ∃ m, n = m + 2 := ⟨n - 2, by omega⟩
   have hda : ∀ x ∈ p.args, 2 * pDeep x ≤ m := fun x hx => by have := pDeeps_mem hx; rw [pDeep_eq] at hd; omega
   let qa : PickD → Option ByteArray := fun x => if 2 * pDeep x ≤ m ∧ pSize x ≤ 1000000 ∧ pChk x = 0 then some (pArgT x) else none
   let qt : PickD → Option ByteArray := fun x => if 2 * pDeep x ≤ m ∧ pSize x ≤ 1000000 ∧ pChk x = 0 then some (pTxt x) else none
   have hz : ∀ x ∈ p.args, 2 * pDeep x ≤ m ∧ pSize x ≤ 1000000 ∧ pChk x = 0 := fun x hx => ⟨hda x hx, by have := pSize_arg hx; omega, (pChk_zero hc).2 x hx⟩
   have e : t_pick_text qa qt p = some (pTxt p) := text_k hc hs (fun x hx => if_pos (hz x hx)) (fun x hx => if_pos (hz x hx))
   have hr : fuel R_pick_text (m + 2 + 1) 462 = A.wrap true [(.a [.k, .k, .k, (.s 4)])] .k (A.ar1 (r_pick_text (fuel R_pick_text (m + 2)))) := rfl
   rw [hr]
   exact h_pick_text (rc := fuel R_pick_text (m + 2)) qa qt (fun x s r hx => by
    by_cases hp : 2 * pDeep x ≤ m ∧ pSize x ≤ 1000000 ∧ pChk x = 0
    ·have : qa x = _ := if_pos hp
     rw [this] at hx; injection hx with hx; subst hx
     exact texts m (ih m (by omega)) x s hp.1 hp.2.1 hp.2.2
    ·have : qa x = none := if_neg hp
     rw [this] at hx; cases hx) (fun x s r hx => by
    by_cases hp : 2 * pDeep x ≤ m ∧ pSize x ≤ 1000000 ∧ pChk x = 0
    ·have : qt x = _ := if_pos hp
     rw [this] at hx; injection hx with hx; subst hx
     exact ih (m + 1) (by omega) x s (by omega) hp.2.1 hp.2.2
    ·have : qt x = none := if_neg hp
     rw [this] at hx; cases hx) e
 exact fun n p σ hd hs hc => ⟨main n p σ hd hs hc, texts n (main n) p σ hd hs hc⟩
theorem text_m (p : PickD) (h : pSize p ≤ 900000 ∧ pChk p = 0) (σ : Heap) : m_pick_text [.agg (cPick p)] σ = some (.str (pTxt p), σ) := (text_t 1999999 p σ (by have := pDeep_size p; omega) (by omega) h.2).1
end Go.Proofs.YtkdafecbdncmiaaDoor

namespace Go.Proofs.YtkdafecbdncmiaaDoor
set_option linter.unusedSectionVars false
set_option linter.unusedVariables false
set_option linter.unusedSimpArgs false
set_option maxRecDepth 100000
noncomputable def t_pick_Print (a0 : PickD) : Option (ByteArray × Int) :=
 (t_pick_Check a0).bind fun r1 =>
 if ¬ (r1 = 0) then
  some ((⟨#[]⟩ : ByteArray), r1)
 else
 (tq (pSize a0 ≤ 900000 ∧ pChk a0 = 0) (pTxt a0)).bind fun r2 =>
 if 4000 < (r2.size : Int) then
  some ((⟨#[]⟩ : ByteArray), 2)
 else
 some (r2, 0)
theorem h_pick_Print {a0 : PickD} {σ : Heap} {r : (ByteArray × Int)} (h : t_pick_Print a0 = some r) : m_pick_Print [(AV.agg (cPick a0))] σ = some ((AV.tup [(AV.str r.1), (AV.int .i64 r.2)]), σ) := by
 refine rf_wrap1 (f := r_pick_Print) (y0 := (AV.agg (cPick a0))) (enc := fun r : (ByteArray × Int) => (AV.tup [(AV.str r.1), (AV.int .i64 r.2)])) (T := t_pick_Print a0) (by first | rfl | (simp only [cPick_eq]; rfl)) (by first | rfl | (simp only [cPick_eq]; rfl)) ?_ r h
 unfold r_pick_Print t_pick_Print
 refine rf_s (cPick a0) (by first | rfl | (simp only [cPick_eq]; rfl)) <| rf_s (AV.agg (cPick a0)) (by first | rfl | (simp only [cPick_eq]; rfl)) ?_
 refine rf_o (fun r1 : Int => ((AV.int .i64 r1), σ)) (fun r1 hr1 => h_pick_Check hr1) (fun r1 hr1 => ?_)
 refine rf_s _ (aNe _ _ _) ?_
 refine rf_c (p := ¬ (r1 = 0)) (fun c4 => ?_) (fun c4 => ?_)
 ·exact rf_fin _ (fin_same _ _) ⟨rfl, rfl⟩
 refine rf_s (AV.agg (cPick a0)) (by first | rfl | (simp only [cPick_eq]; rfl)) ?_
 refine rf_o (fun r2 : ByteArray => ((AV.str r2), σ)) (fun r2 hr2 => (tq_of (e := fun r : ByteArray => ((AV.str r), σ)) (fun hs => text_m a0 hs σ)) hr2) (fun r2 hr2 => ?_)
 refine rf_s (AV.int .i64 (r2.size : Int)) (by first | rfl | (simp only [cPick_eq]; rfl)) <| rf_s (AV.bool (decide (4000 < (r2.size : Int)))) (by first | rfl | (simp only [cPick_eq]; rfl)) ?_
 refine rf_c (p := 4000 < (r2.size : Int)) (fun c3 => ?_) (fun c3 => ?_)
 ·exact rf_fin _ (fin_same _ _) ⟨rfl, rfl⟩
 exact rf_fin _ (fin_same _ _) ⟨rfl, rfl⟩

end Go.Proofs.YtkdafecbdncmiaaDoor

namespace Go.Proofs.YtkdafecbdncmiaaDoor
set_option linter.unusedSectionVars false
set_option linter.unusedVariables false
set_option linter.unusedSimpArgs false
def printF (p : PickD) : ByteArray × Int := if ¬ checkF p = 0 then ((⟨#[]⟩ : ByteArray), checkF p) else if 4000 < ((pTxt p).size : Int) then ((⟨#[]⟩ : ByteArray), 2) else (pTxt p, 0)
theorem checkF_zero {p : PickD} (h : checkF p = 0) : pSize p ≤ 200 ∧ pDeep p ≤ 12 ∧ pChk p = 0 := by
 unfold checkF at h
 split at h
 ·cases h
 ·exact ⟨by omega, by omega, h⟩
theorem print_pk {p : PickD} (h : pSize p ≤ 2000000) : t_pick_Print p = some (printF p) := by
 unfold t_pick_Print printF
 rw [checkF_pk h, Option.bind_some]
 by_cases hc : checkF p = 0
 ·rw [if_neg (fun k => k hc), if_neg (fun k => k hc), tq_pos ⟨by have := (checkF_zero hc).1; omega, (checkF_zero hc).2.2⟩, Option.bind_some]
  split <;> rfl
 ·rw [if_pos hc, if_pos hc]
end Go.Proofs.YtkdafecbdncmiaaDoor

namespace Go.Proofs.YtkdafecbdncmiaaDoor
set_option linter.unusedSectionVars false
set_option linter.unusedVariables false
set_option linter.unusedSimpArgs false
set_option maxRecDepth 100000
open HP
theorem unV {α : Type} {X : Option α} {v : α} (h : ∃ z, X = some z ∧ z = v) : X = some v := by
 obtain ⟨z, e, rfl⟩ := h
 exact e
theorem wrapV5 {ro : Bool} {ain : List Sh} {r : AV → AV → AV → AV → AV → Heap → Option (AV × Heap)} {x y z w u v v' : AV} {rout : Sh} {σ σ' : Heap} (h : [x, y, z, w, u].any A.own = false) (e1 : A.nnL ain [x, y, z, w, u] = [x, y, z, w, u]) (hv : A.nn rout v = v') (e : r x y z w u σ = some (v, σ')) : A.wrap ro ain rout (A.ar5 r) [x, y, z, w, u] σ = some (v', σ') := by
 refine wrap_eq h ?_ hv
 rw [e1]
 exact e
theorem wrapV4 {s : List Sh} {r : AV → AV → AV → AV → Heap → Option (AV × Heap)} {x y z w v : AV} {σ : Heap} (h : [x, y, z, w].any A.own = false) (e1 : A.nnL s [x, y, z, w] = [x, y, z, w]) (e : r x y z w σ = some (v, σ)) : A.wrap true s .k (A.ar4 r) [x, y, z, w] σ = some (v, σ) := by
 refine wrap_eq h ?_ (nn_k _)
 rw [e1]
 exact e
theorem frz_opV {σ : Heap} {id : Nat} {cs : List AV} (h : σ[id]? = some (.box cs)) (hc : FzL cs) (d : Nat) : A.frz σ 0 (d + 1) (.op id 0) = some (.rp cs) := by
 simp only [A.frz, h, Nat.not_lt_zero, if_false, List.drop_zero, frzL_eq, hc σ 0 d, Option.map_some]
section
variable {σ0 σ : Heap} {R : HP}
theorem fin_b' (b : Bool) (H : Hs anyB σ0 σ R) : A.fin σ0 (.bool b) σ = some (.bool b, σ0) := fin_hs H (by simp [A.frz]) (fun _ => rfl)
theorem units_z (r : RigD) (gl : List GroupD) (pl : List PresetD) (p : PickD) (hs : okRig r ∧ okG gl ∧ okL okPreset pl ∧ pSize p ≤ 2000000) (σ : Heap) : (A.finC (.t [(.s 1), .k]) m_pick_Units) [.agg (cRig r), sl 5 cGroup gl, sl 3 cPreset pl, .agg (cPick p)] σ = some (.tup [sl 1 cInt (unitsF r gl pl p).1, .int .i64 (unitsF r gl pl p).2], σ) := by
 obtain ⟨v, σ', e, H⟩ := units_k r gl pl p hs (hs_nil (B := anyB) σ)
 obtain ⟨v', h1, h2, h3⟩ := slf_fz H fz_cInt (Nat.le_refl _) 7
 have e2 : A.fin σ (.tup [v, .int .i64 (unitsF r gl pl p).2]) σ' = some (.tup [v', .int .i64 (unitsF r gl pl p).2], σ) := by
  refine fin_hs (hs_any H) (by simp [A.frz, A.frzL, h1]) (fun ee => ?_)
  rcases slf_cases H with ⟨q, rfl | rfl, _⟩ | ⟨id, g, rfl, K⟩
  ·simp [A.frz] at h1; rw [h1]
  ·simp [A.frz] at h1; rw [h1]
  ·obtain ⟨k1, k2⟩ := hs_get K
   have := (List.getElem?_eq_some_iff.1 k2).1
   rw [ee] at this; omega
 have e3 : A.nn (.t [.s 1, .k]) (.tup [v', .int .i64 (unitsF r gl pl p).2]) = .tup [sl 1 cInt (unitsF r gl pl p).1, .int .i64 (unitsF r gl pl p).2] := by
  simp only [A.nn, A.nnL] at h3 ⊢
  rw [h3]
 unfold A.finC
 rw [e, bS, e2, Option.map_some, e3]
noncomputable abbrev uauT : Nat → List AV → Heap → Option (AV × Heap) := A.tab (fun _ _ => none) [(469, m_W4_PickUnitsAreUnits_fn1), (472, m_W4_PickUnitsAreUnits_fn2)]
theorem pkT' (x y : AV) : A.pick (.bool true) x y = some x := rfl
theorem pkF' (x y : AV) : A.pick (.bool false) x y = some y := rfl
theorem ufn1_t (x : UnitD) (n : Int) (σ : Heap) : m_W4_PickUnitsAreUnits_fn1 [.agg (cUnit x), .rp [.int .i64 n]] σ = some (.bool (decide (x.number = n)), σ) := by
 refine wrap_eq rfl ?_ (nn_k _)
 show r_W4_PickUnitsAreUnits_fn1 (.agg (cUnit x)) (.rp [.int .i64 n]) σ = _
 unfold r_W4_PickUnitsAreUnits_fn1
 rw [ce_cUnit, bS, p1_cUnit_0, bS, show ((A.deref (.rp [AV.int .i64 n]) σ).bind fun c => A.part1 0 c) = some (.int .i64 n) from rfl, bS, aEq, bS]
 exact fin_same _ _
theorem psz_pfx {p : PickD} (k : Int) (h : pSize p ≤ 1500000) : pSize (pfx k p) ≤ 2000000 := by
 have : pSize (pfx k p) = 1 + pSize p := by simp [pfx, pSize, pSizes]
 omega
theorem chunk1 {l : List AV} (h : l.length = 4) : chunks 4 1 l = [l] := by
 rw [chunks, chunks, List.take_of_length_le (by omega)]
theorem agg_pfx (k : Int) (p : PickD) : ((((A.cell (AV.int .i64 k)).bind fun v => some [v]).bind fun c12 => (A.splice 0 c12 [(AV.int .i64 0), (AV.int .i64 0), (AV.int .i64 0), AV.nsl]).bind fun c13 => ((A.cell (AV.sl 4 [cPick p])).bind fun v => some [v]).bind fun c14 => (A.splice 3 c14 c13).bind fun c15 => some c15).bind fun cs => some (AV.agg cs)) = some (.agg (cPick (pfx k p))) := by
 rw [cPick_eq (pfx k p)]; rfl
theorem ufn2_t {r : RigD} {gl : List GroupD} {pl : List PresetD} {p : PickD} (hs : okRig r ∧ okG gl ∧ okL okPreset pl ∧ pSize p ≤ 1500000) (k : Int) (H : Hs anyB σ0 σ R) : ∃ v σ', m_W4_PickUnitsAreUnits_fn2 [.int .i64 k, .rp (cRig r), .rp [sl 5 cGroup gl], .rp [sl 3 cPreset pl], .rp (cPick p)] σ = some (.tup [v, .bool (decide ((unitsF r gl pl (pfx k p)).2 = 0))], σ') ∧ Hs anyB σ0 σ' (Iv v (unitsF r gl pl (pfx k p)).1 * R) := by
 obtain ⟨v, σ', e, K⟩ := units_k r gl pl (pfx k p) ⟨hs.1, hs.2.1, hs.2.2.1, (psz_pfx k hs.2.2.2)⟩ H
 refine ⟨v, σ', wrapV5 rfl (by simp [A.nnL]) (nn_k _) ?_, K⟩
 unfold r_W4_PickUnitsAreUnits_fn2
 rw [show ((A.deref (.rp (cRig r)) σ).bind fun c => A.partA 0 2 c) = some (.agg (cRig r)) from rfl, bS, show ((A.deref (.rp [sl 5 cGroup gl]) σ).bind fun c => A.part1 0 c) = some (sl 5 cGroup gl) from rfl, bS, show ((A.deref (.rp [sl 3 cPreset pl]) σ).bind fun c => A.part1 0 c) = some (sl 3 cPreset pl) from rfl, bS, show ((A.deref (.rp (cPick p)) σ).bind fun c => A.partA 0 4 c) = some (.agg (cPick p)) from by rw [dRp, bS, pA_cPick], bS]
 rw [show (((A.cells 4 (.agg (cPick p))).bind fun c9 => (A.splice 0 c9 [(AV.int .i64 0), (AV.int .i64 0), (AV.int .i64 0), AV.nsl]).bind fun c10 => some c10).bind fun cs => some (AV.sl 4 (chunks 4 1 cs))) = some (.sl 4 [cPick p]) from by rw [ce_cPick, bS, sp_cPick _ _ rfl, bS, bS, chunk1 (cPick_len p)], bS, agg_pfx, bS, e, bS]
 simp only
 rw [ext0, bS, ext1, bS, aEq, bS]
theorem eq_int {v w : AV} {l : List Int} (hl : l.length ≤ mxl) (h : LtL σ [.s 1, .s 1] [v, w] [sl 1 cInt l, sl 1 cInt l]) : m_slices_Equal_int [v, w] σ = some (.bool true, σ) :=
 lent (aas := [v, w]) (ts := [sl 1 cInt l, sl 1 cInt l]) h (fun σ => h_slices_Equal_int (eqI_self l hl)) rfl
theorem one_print : printF (.mk 1 1 2 []) = (⟨#[49, 32, 116, 104, 114, 117, 32, 50]⟩, 0) := by decide +kernel
theorem lit_12 : ((((A.cell (AV.int .i64 1)).bind fun v => some [v]).bind fun c16 => (A.splice 0 c16 [(AV.int .i64 0), (AV.int .i64 0), (AV.int .i64 0), AV.nsl]).bind fun c17 => ((A.cell (AV.int .i64 1)).bind fun v => some [v]).bind fun c18 => (A.splice 1 c18 c17).bind fun c19 => ((A.cell (AV.int .i64 2)).bind fun v => some [v]).bind fun c20 => (A.splice 2 c20 c19).bind fun c21 => some c21).bind fun cs => some (AV.agg cs)) = some (.agg [.int .i64 1, .int .i64 1, .int .i64 2, .nsl]) := rfl
theorem print_12 (σ : Heap) : m_pick_Print [.agg [.int .i64 1, .int .i64 1, .int .i64 2, .nsl]] σ = some (.tup [.str ⟨#[49, 32, 116, 104, 114, 117, 32, 50]⟩, .int .i64 0], σ) := by
 have h := h_pick_Print (σ := σ) (print_pk (p := .mk 1 1 2 []) (by simp [pSize, pSizes]))
 rw [one_print] at h
 rw [← h]
 exact wrap_nn (by rw [cPick_eq]; rfl) rfl rfl
theorem r_W4_Uau {r : RigD} {gl : List GroupD} {pl : List PresetD} {p : PickD} (hs : okRig r ∧ okG gl ∧ okL okPreset pl ∧ pSize p ≤ 1500000) (σ : Heap) : r_W4_PickUnitsAreUnits (.agg (cRig r)) (sl 5 cGroup gl) (sl 3 cPreset pl) (.agg (cPick p)) σ = some (.bool true, σ) := by
 unfold r_W4_PickUnitsAreUnits
 rw [show ((A.cells 2 (.agg (cRig r))).bind fun cs => some (AV.rp cs)) = some (.rp (cRig r)) from rfl, bS, show (((A.cell (sl 5 cGroup gl)).bind fun v => some [v]).bind fun cs => some (AV.rp cs)) = some (.rp [sl 5 cGroup gl]) from rfl, bS, show (((A.cell (sl 3 cPreset pl)).bind fun v => some [v]).bind fun cs => some (AV.rp cs)) = some (.rp [sl 3 cPreset pl]) from rfl, bS, show ((A.cells 4 (.agg (cPick p))).bind fun cs => some (AV.rp cs)) = some (.rp (cPick p)) from by rw [ce_cPick, bS], bS]
 rw [show ((A.deref (.rp (cRig r)) σ).bind fun c => A.partA 0 2 c) = some (.agg (cRig r)) from rfl, bS, show ((A.deref (.rp [sl 5 cGroup gl]) σ).bind fun c => A.part1 0 c) = some (sl 5 cGroup gl) from rfl, bS, show ((A.deref (.rp [sl 3 cPreset pl]) σ).bind fun c => A.part1 0 c) = some (sl 3 cPreset pl) from rfl, bS, show ((A.deref (.rp (cPick p)) σ).bind fun c => A.partA 0 4 c) = some (.agg (cPick p)) from by rw [dRp, bS, pA_cPick], bS, units_z r gl pl p ⟨hs.1, hs.2.1, hs.2.2.1, by omega⟩ σ, bS]
 simp only
 rw [ext0, bS, ext1, bS, lit_12, bS, print_12, bS]
 simp only
 rw [ext0, bS, ext1, bS, aNeZ, bS, decide_eq_false (fun q => q rfl)]
 simp only [gF, bS, aNe, decide_eq_false (fun q : ¬ (0 : Int) = 0 => q rfl), pkF, cnd_f]
 by_cases hf : (unitsF r gl pl p).2 = 0
 case neg =>
  have hnil : (unitsF r gl pl p).1 = [] := by
   unfold unitsF at hf ⊢
   split
   ·rfl
   split
   ·rfl
   split
   ·rfl
   split
   ·rfl
   rename_i h1 h2 h3 h4
   rw [if_neg h1, if_neg h2, if_neg h3, if_neg h4] at hf
   exact absurd rfl hf
  rw [decide_eq_true hf, cnd_t, hnil, show A.lenS (sl 1 cInt ([] : List Int)) = some (.int .i64 0) from rfl, bS, aEq, bS]
  exact fin_same _ _
 rw [decide_eq_false (show ¬ ¬ ((unitsF r gl pl p).2 = 0) from fun q => q hf), cnd_f]
 obtain ⟨hnd, hin⟩ := units_good (r := r) (gl := gl) (pl := pl) (p := p)
 have hpf := units_pfx hf
 have hlen : (unitsF r gl pl p).1.length ≤ 400 := by
  have h1 : presetsF r pl = 0 := by
   by_cases h1 : presetsF r pl = 0
   ·exact h1
   ·unfold unitsF at hf; rw [if_pos h1] at hf; exact absurd hf h1
  have := nodup_len hnd hin
  have h2 := (pre_small h1).1
  unfold usOf at this
  rw [List.length_map] at this
  omega
 obtain ⟨l, hl⟩ : ∃ l, l = (unitsF r gl pl p).1 := ⟨_, rfl⟩
 rw [← hl] at hnd hin hpf hlen ⊢
 rw [lenS_sl, bS]
 refine unV ?_
 refine loop_k (Q := fun q => q.1 = .exit 0 ∧ Hs anyB σ q.2.2 emp) (loop_hs l (fun i vs w => vs = [.bool false, .int .i64 (i : Int)] ∧ Hs anyB σ w emp) ?_ ?_ ⟨rfl, hs_nil σ⟩) ?_
 ·rintro i x vs w hx ⟨rfl, K⟩
  have hi := (List.getElem?_eq_some_iff.1 hx).1
  obtain ⟨n, hn⟩ : ∃ n, n = w.length := ⟨_, rfl⟩
  have K1 : Hs anyB σ (w ++ [Blk.box [.int .i64 x]]) emp := hs_ext (hs_any K) _ (fun _ _ => trivial)
  have hg : (w ++ [Blk.box [.int .i64 x]])[n]? = some (.box [.int .i64 x]) := by rw [hn]; simp
  have hc : (m_slices_Contains_int [sl 1 cInt (l.take i), .int .i64 x] (w ++ [Blk.box [.int .i64 x]])) = some (.bool false, w ++ [Blk.box [.int .i64 x]]) := by
   rw [m_slices_Contains_int_eq _ (by rw [List.length_take]; unfold mxl; omega)]
   have : ((l.take i).any fun y => decide (x = y)) = false := by
    rw [Bool.eq_false_iff]
    intro q
    obtain ⟨y, hy, e⟩ := List.any_eq_true.1 q
    rw [← of_decide_eq_true e] at hy
    exact nodup_take hnd hx hy
   rw [this]
  have hcf : m_slices_ContainsFunc_api_Unit uauT [sl 4 cUnit r.units, .fn 469 [.op n 0]] (w ++ [Blk.box [.int .i64 x]]) = some (.bool true, w ++ [Blk.box [.int .i64 x]]) := by
   have h := m_slices_ContainsFunc_api_Unit_eq uauT r.units hs.1.2.1 469 [.op n 0] (fun y => decide (y.number = x)) (w ++ [Blk.box [.int .i64 x]]) (fun y _ =>
    lent (aas := [.agg (cUnit y), .op n 0]) (ts := [.agg (cUnit y), .rp [.int .i64 x]]) ⟨lt_fz (fz_agg (fz_cUnit y)) rfl, ⟨⟨.rp [.int .i64 x], frz_opV hg (fzL_cons (fz_int _ _) fzL_nil) 7, rfl, rfl⟩, rfl, fun h => by cases h⟩, trivial⟩ (fun σ => ufn1_t y x σ) rfl)
   rw [h]
   have : (r.units.any fun y => decide (y.number = x)) = true := by
    obtain ⟨y, hy, e⟩ := List.mem_map.1 (hin x (List.mem_of_getElem? hx))
    exact List.any_eq_true.2 ⟨y, hy, by simpa using e⟩
   rw [this]
  refine ⟨[.bool false, .int .i64 ((i + 1 : Nat) : Int)], w ++ [Blk.box [.int .i64 x]], ?_, rfl, K1⟩
  simp only [List.getD_cons_zero, List.getD_cons_succ]
  rw [ix_lt hx, bS, cnd_t, ix_for hx, bS, show ((A.deref (.rp (cInt x)) w).bind fun c => A.part1 0 c) = some (.int .i64 x) from rfl, bS, show ((A.cell (AV.int .i64 x)).bind fun v => some [v]) = some [.int .i64 x] from rfl, bS, show A.storeAt (AV.op w.length 0) [.int .i64 x] (w ++ [Blk.box [AV.int .i64 0]]) = some (w ++ [Blk.box [.int .i64 x]]) from by simp [A.storeAt, A.splice], bS, ← hn, sliceS_take 1 cInt l (by omega), bS, show ((A.deref (.op n 0) (w ++ [Blk.box [.int .i64 x]])).bind fun c => A.part1 0 c) = some (.int .i64 x) from by simp only [A.deref, hg]; rfl, bS, quiet_of hc, bS]
  simp only [gF, show A.faddr 1 (.rp (cRig r)) = some (.rp ((cRig r).drop 1)) from rfl, bS, show ((A.deref (.rp ((cRig r).drop 1)) (w ++ [Blk.box [.int .i64 x]])).bind fun c => A.part1 0 c) = some (sl 4 cUnit r.units) from rfl, quiet_of hcf, notT, pkF, cnd_f, ix_inc hx (by unfold mxl; omega)]
 ·rintro vs w ⟨rfl, K⟩
  refine ⟨(.exit 0, [.bool false, .int .i64 (l.length : Int)], w), ?_, by simp, rfl, K⟩
  simp only [List.getD_cons_zero, List.getD_cons_succ]
  rw [ix_end, bS, cnd_f]
 rintro ⟨q1, q2, w⟩ ⟨rfl, K⟩
 simp only at K
 simp only [exE]
 obtain ⟨v1, w1, e1, K1⟩ := ufn2_t hs 6 K
 obtain ⟨v2, w2, e2, K2⟩ := ufn2_t hs 7 K1
 obtain ⟨v3, w3, e3, K3⟩ := ufn2_t hs 8 K2
 rw [show A.callv uauT (.fn 472 [.rp (cRig r), .rp [sl 5 cGroup gl], .rp [sl 3 cPreset pl], .rp (cPick p)]) [.int .i64 6] w = _ from e1, bS]
 simp only
 rw [ext0, bS, ext1, bS, show A.callv uauT (.fn 472 [.rp (cRig r), .rp [sl 5 cGroup gl], .rp [sl 3 cPreset pl], .rp (cPick p)]) [.int .i64 7] w1 = _ from e2, bS]
 simp only
 rw [ext0, bS, ext1, bS, show A.callv uauT (.fn 472 [.rp (cRig r), .rp [sl 5 cGroup gl], .rp [sl 3 cPreset pl], .rp (cPick p)]) [.int .i64 8] w2 = _ from e3, bS]
 simp only
 rw [ext0, bS, ext1, bS, aNot, bS]
 clear e1 e2 e3 K1 K2
 rcases hpf with hbad | ⟨g6, g7, g8⟩
 ·rw [hbad 6 (.inl rfl), hbad 7 (.inr (.inl rfl)), hbad 8 (.inr (.inr rfl))] at K3
  rw [hbad 6 (.inl rfl), hbad 7 (.inr (.inl rfl)), hbad 8 (.inr (.inr rfl))]
  have l3 := sl_len K3
  have l2 := sl_len (hs_drop K3)
  have l1 := sl_len (hs_drop (hs_drop K3))
  simp only [show decide ((2 : Int) = 0) = false from rfl, Bool.not_false, gFx, bS, pkT, cnd_t, l1, l2, l3, List.length_nil, Int.natCast_zero, aEq, decide_true, gT]
  exact ⟨_, fin_b' true K3, rfl⟩
 rw [g6, g7, g8] at K3
 rw [g6, g7, g8]
 simp only [decide_true, Bool.not_true, gF, bS, notT, pkF, cnd_f]
 obtain ⟨hsum, hget⟩ := ev_two l
 generalize evF 2 0 l = o at K3 hsum hget
 generalize evF 2 1 l = e at K3 hsum hget
 have hol : o.length ≤ 400 := by omega
 have hel : e.length ≤ 400 := by omega
 refine loop_k (Q := fun q => ∃ vo u, q.1 = .exit 2 ∧ q.2.1 = [vo, u] ∧ Hs anyB σ q.2.2 (Iv vo l * (Iv v3 l.reverse * (Iv v2 e * (Iv v1 o * emp))))) (loop_hs l (fun i vs w => ∃ vo, vs = [vo, .int .i64 (i : Int)] ∧ Hs anyB σ w (Iv vo (l.take i) * (Iv v3 l.reverse * (Iv v2 e * (Iv v1 o * emp))))) ?_ ?_ ⟨.nsl, rfl, slz K3 (.inl rfl)⟩) ?_
 ·rintro i x vs w hx ⟨vo, rfl, K⟩
  have hi := (List.getElem?_eq_some_iff.1 hx).1
  obtain ⟨vo', w', e1, K'⟩ := iv_app (B := anyB) (x := x) (fun _ _ _ _ => trivial) (by have := List.length_take_le i l; unfold apM; omega) K
  refine ⟨[vo', .int .i64 ((i + 1 : Nat) : Int)], w', ?_, vo', rfl, by rw [List.take_add_one, hx]; exact K'⟩
  have K1 := hs_eq (show _ = Iv v1 o * (Iv vo (l.take i) * (Iv v3 l.reverse * (Iv v2 e * emp))) by ac_rfl) K
  have K2 := hs_eq (show _ = Iv v2 e * (Iv vo (l.take i) * (Iv v3 l.reverse * (Iv v1 o * emp))) by ac_rfl) K
  have l1 := sl_len K1
  have l2 := sl_len K2
  simp only [List.getD_cons_zero, List.getD_cons_succ]
  rw [ix_lt hx, bS, cnd_t, ix_inc hx (by unfold mxl; omega), aRem _ _ (show (2 : Int) ≠ 0 by decide), bS]
  obtain ⟨j, hj⟩ : ∃ j, j = i / 2 := ⟨_, rfl⟩
  have hq : IntKind.i64.wrap ((i : Int).tdiv 2) = (j : Int) := by
   rw [Int.tdiv_eq_ediv_of_nonneg (by omega), show (i : Int) / 2 = (j : Int) by omega]
   exact wrap64 (by unfold inI; omega)
  by_cases h2 : i % 2 = 0
  ·have hr : (i : Int).tmod 2 = 0 := by rw [Int.tmod_eq_emod_of_nonneg (by omega)]; omega
   have hoj : o[j]? = some x := by rw [(hget j).1, show 2 * j = i by omega]; exact hx
   have hjl := (List.getElem?_eq_some_iff.1 hoj).1
   obtain ⟨pp, p1, p2⟩ := slf_at K1 hoj
   rw [hr, aEq, bS, decide_eq_true (show (0 : Int) = 0 from rfl)]
   simp only [gT, bS, aQuo _ _ (show (2 : Int) ≠ 0 by decide), hq, l1, aLss, decide_eq_true (show (j : Int) < (o.length : Int) by omega), pkT', cnd_t, p1, p2, show A.part1 0 (cInt x) = some (.int .i64 x) from rfl, oneI, e1, List.getD_cons_zero]
  ·have hr : (i : Int).tmod 2 = 1 := by rw [Int.tmod_eq_emod_of_nonneg (by omega)]; omega
   have hoj : e[j]? = some x := by rw [(hget j).2, show 2 * j + 1 = i by omega]; exact hx
   have hjl := (List.getElem?_eq_some_iff.1 hoj).1
   obtain ⟨pp, p1, p2⟩ := slf_at K2 hoj
   rw [hr, aEq, bS, decide_eq_false (show ¬ (1 : Int) = 0 by decide)]
   simp only [gTx, bS, pkF', cnd_f, aRem _ _ (show (2 : Int) ≠ 0 by decide), hr, aEq, decide_true, gT, aQuo _ _ (show (2 : Int) ≠ 0 by decide), hq, l2, aLss, decide_eq_true (show (j : Int) < (e.length : Int) by omega), pkT', cnd_t, p1, p2, show A.part1 0 (cInt x) = some (.int .i64 x) from rfl, oneI, e1, List.getD_cons_zero]
 ·rintro vs w ⟨vo, rfl, K⟩
  rw [List.take_length] at K
  refine ⟨(.exit 2, [vo, .int .i64 (l.length : Int)], w), ?_, by simp, vo, _, rfl, rfl, K⟩
  simp only [List.getD_cons_zero, List.getD_cons_succ]
  rw [ix_end, bS, cnd_f]
 rintro ⟨q1, q2, w⟩ ⟨vo, u, rfl, rfl, K⟩
 simp only [exE, List.getD_cons_zero]
 obtain ⟨w5, r1, K5⟩ := rev_s (by rw [List.length_reverse]; omega) (hs_eq (show _ = Iv v3 l.reverse * (Iv vo l * (Iv v2 e * (Iv v1 o * emp))) by ac_rfl) K)
 rw [List.reverse_reverse] at K5
 rw [r1, bS]
 simp only
 have m := show l.length ≤ mxl by unfold mxl; omega
 have t1 := eq_int m ⟨lt_slf fz_cInt (hs_eq (show _ = Iv vo l * (Iv v3 l * (Iv v2 e * (Iv v1 o * emp))) by ac_rfl) K5), lt_fz (fz_sl fz_cInt l) rfl, trivial⟩
 have t2 := eq_int m ⟨lt_slf fz_cInt K5, lt_fz (fz_sl fz_cInt l) rfl, trivial⟩
 have l1 := sl_len (hs_drop (hs_drop (hs_drop K5)))
 have l2 := sl_len (hs_drop (hs_drop K5))
 rw [t1, bS]
 simp only [gT, bS, quiet_of t2, pkT', l1, l2, lenS_sl, aAdd, aEq, show IntKind.i64.wrap ((o.length : Int) + (e.length : Int)) = (l.length : Int) from by rw [wrap64 (by unfold inI; omega)]; omega, decide_true]
 exact ⟨_, fin_b' true K5, rfl⟩
theorem h_W4_PickUnitsAreUnits {r : RigD} {gl : List GroupD} {pl : List PresetD} {p : PickD} {σ : Heap} (hs : okRig r ∧ okG gl ∧ okL okPreset pl ∧ pSize p ≤ 1500000) : m_W4_PickUnitsAreUnits [.agg (cRig r), sl 5 cGroup gl, sl 3 cPreset pl, .agg (cPick p)] σ = some (.bool true, σ) :=
 wrapV4 (by simp only [cPick_eq]; rfl) (nnL_units r gl pl p) (r_W4_Uau hs σ)
end
theorem pickUnitsAreUnits_true (r : RigD) (gl : List GroupD) (pl : List PresetD) (p : PickD) (hr : okRig r) (hg : okG gl) (hl : okL okPreset pl) (hp : pSize p ≤ 1500000) : okRig r ∧ okG gl ∧ okL okPreset pl ∧ pSize p ≤ 1500000 := ⟨hr, hg, hl, hp⟩
end Go.Proofs.YtkdafecbdncmiaaDoor

namespace Go.Proofs.YtkdafecbdncmiaaDoor
set_option linter.unusedSectionVars false
open Go.RowKit
set_option linter.unusedVariables false
set_option linter.unusedSimpArgs false

def Gr (w w' : World) : Prop := Below w.heap.size w w'
theorem Gr.cell {a b : World} (h : Gr a b) {p : Addr} {v : Value} (hc : a.cell? p = some v) : b.cell? p = some v := by
 by_cases hp : p.block < a.heap.size
 ·rw [Below.cell h hp]; exact hc
 ·have : a.heap[p.block]? = none := Array.getElem?_eq_none (by omega)
  simp [World.cell?, this] at hc
abbrev Box1 (w : World) (b : Nat) (v0 : Value) : Prop := (w.cell? ⟨b, 0, none⟩ = some v0) ∧ (w.frozen? ⟨b, 0, none⟩ = false) ∧ b < w.heap.size
abbrev Box2 (w : World) (b : Nat) (v0 v1 : Value) : Prop := (w.cell? ⟨b, 0, none⟩ = some v0 ∧ w.cell? ⟨b, 1, none⟩ = some v1) ∧ (w.frozen? ⟨b, 0, none⟩ = false ∧ w.frozen? ⟨b, 1, none⟩ = false) ∧ b < w.heap.size
abbrev Box3 (w : World) (b : Nat) (v0 v1 v2 : Value) : Prop := (w.cell? ⟨b, 0, none⟩ = some v0 ∧ w.cell? ⟨b, 1, none⟩ = some v1 ∧ w.cell? ⟨b, 2, none⟩ = some v2) ∧ (w.frozen? ⟨b, 0, none⟩ = false ∧ w.frozen? ⟨b, 1, none⟩ = false ∧ w.frozen? ⟨b, 2, none⟩ = false) ∧ b < w.heap.size
abbrev Box4 (w : World) (b : Nat) (v0 v1 v2 v3 : Value) : Prop := (w.cell? ⟨b, 0, none⟩ = some v0 ∧ w.cell? ⟨b, 1, none⟩ = some v1 ∧ w.cell? ⟨b, 2, none⟩ = some v2 ∧ w.cell? ⟨b, 3, none⟩ = some v3) ∧ (w.frozen? ⟨b, 0, none⟩ = false ∧ w.frozen? ⟨b, 1, none⟩ = false ∧ w.frozen? ⟨b, 2, none⟩ = false ∧ w.frozen? ⟨b, 3, none⟩ = false) ∧ b < w.heap.size
abbrev Box5 (w : World) (b : Nat) (v0 v1 v2 v3 v4 : Value) : Prop := (w.cell? ⟨b, 0, none⟩ = some v0 ∧ w.cell? ⟨b, 1, none⟩ = some v1 ∧ w.cell? ⟨b, 2, none⟩ = some v2 ∧ w.cell? ⟨b, 3, none⟩ = some v3 ∧ w.cell? ⟨b, 4, none⟩ = some v4) ∧ (w.frozen? ⟨b, 0, none⟩ = false ∧ w.frozen? ⟨b, 1, none⟩ = false ∧ w.frozen? ⟨b, 2, none⟩ = false ∧ w.frozen? ⟨b, 3, none⟩ = false ∧ w.frozen? ⟨b, 4, none⟩ = false) ∧ b < w.heap.size
abbrev Box6 (w : World) (b : Nat) (v0 v1 v2 v3 v4 v5 : Value) : Prop := (w.cell? ⟨b, 0, none⟩ = some v0 ∧ w.cell? ⟨b, 1, none⟩ = some v1 ∧ w.cell? ⟨b, 2, none⟩ = some v2 ∧ w.cell? ⟨b, 3, none⟩ = some v3 ∧ w.cell? ⟨b, 4, none⟩ = some v4 ∧ w.cell? ⟨b, 5, none⟩ = some v5) ∧ (w.frozen? ⟨b, 0, none⟩ = false ∧ w.frozen? ⟨b, 1, none⟩ = false ∧ w.frozen? ⟨b, 2, none⟩ = false ∧ w.frozen? ⟨b, 3, none⟩ = false ∧ w.frozen? ⟨b, 4, none⟩ = false ∧ w.frozen? ⟨b, 5, none⟩ = false) ∧ b < w.heap.size
abbrev Box7 (w : World) (b : Nat) (v0 v1 v2 v3 v4 v5 v6 : Value) : Prop := (w.cell? ⟨b, 0, none⟩ = some v0 ∧ w.cell? ⟨b, 1, none⟩ = some v1 ∧ w.cell? ⟨b, 2, none⟩ = some v2 ∧ w.cell? ⟨b, 3, none⟩ = some v3 ∧ w.cell? ⟨b, 4, none⟩ = some v4 ∧ w.cell? ⟨b, 5, none⟩ = some v5 ∧ w.cell? ⟨b, 6, none⟩ = some v6) ∧ (w.frozen? ⟨b, 0, none⟩ = false ∧ w.frozen? ⟨b, 1, none⟩ = false ∧ w.frozen? ⟨b, 2, none⟩ = false ∧ w.frozen? ⟨b, 3, none⟩ = false ∧ w.frozen? ⟨b, 4, none⟩ = false ∧ w.frozen? ⟨b, 5, none⟩ = false ∧ w.frozen? ⟨b, 6, none⟩ = false) ∧ b < w.heap.size
abbrev Box8 (w : World) (b : Nat) (v0 v1 v2 v3 v4 v5 v6 v7 : Value) : Prop := (w.cell? ⟨b, 0, none⟩ = some v0 ∧ w.cell? ⟨b, 1, none⟩ = some v1 ∧ w.cell? ⟨b, 2, none⟩ = some v2 ∧ w.cell? ⟨b, 3, none⟩ = some v3 ∧ w.cell? ⟨b, 4, none⟩ = some v4 ∧ w.cell? ⟨b, 5, none⟩ = some v5 ∧ w.cell? ⟨b, 6, none⟩ = some v6 ∧ w.cell? ⟨b, 7, none⟩ = some v7) ∧ (w.frozen? ⟨b, 0, none⟩ = false ∧ w.frozen? ⟨b, 1, none⟩ = false ∧ w.frozen? ⟨b, 2, none⟩ = false ∧ w.frozen? ⟨b, 3, none⟩ = false ∧ w.frozen? ⟨b, 4, none⟩ = false ∧ w.frozen? ⟨b, 5, none⟩ = false ∧ w.frozen? ⟨b, 6, none⟩ = false ∧ w.frozen? ⟨b, 7, none⟩ = false) ∧ b < w.heap.size
abbrev Box9 (w : World) (b : Nat) (v0 v1 v2 v3 v4 v5 v6 v7 v8 : Value) : Prop := (w.cell? ⟨b, 0, none⟩ = some v0 ∧ w.cell? ⟨b, 1, none⟩ = some v1 ∧ w.cell? ⟨b, 2, none⟩ = some v2 ∧ w.cell? ⟨b, 3, none⟩ = some v3 ∧ w.cell? ⟨b, 4, none⟩ = some v4 ∧ w.cell? ⟨b, 5, none⟩ = some v5 ∧ w.cell? ⟨b, 6, none⟩ = some v6 ∧ w.cell? ⟨b, 7, none⟩ = some v7 ∧ w.cell? ⟨b, 8, none⟩ = some v8) ∧ (w.frozen? ⟨b, 0, none⟩ = false ∧ w.frozen? ⟨b, 1, none⟩ = false ∧ w.frozen? ⟨b, 2, none⟩ = false ∧ w.frozen? ⟨b, 3, none⟩ = false ∧ w.frozen? ⟨b, 4, none⟩ = false ∧ w.frozen? ⟨b, 5, none⟩ = false ∧ w.frozen? ⟨b, 6, none⟩ = false ∧ w.frozen? ⟨b, 7, none⟩ = false ∧ w.frozen? ⟨b, 8, none⟩ = false) ∧ b < w.heap.size
abbrev Box10 (w : World) (b : Nat) (v0 v1 v2 v3 v4 v5 v6 v7 v8 v9 : Value) : Prop := (w.cell? ⟨b, 0, none⟩ = some v0 ∧ w.cell? ⟨b, 1, none⟩ = some v1 ∧ w.cell? ⟨b, 2, none⟩ = some v2 ∧ w.cell? ⟨b, 3, none⟩ = some v3 ∧ w.cell? ⟨b, 4, none⟩ = some v4 ∧ w.cell? ⟨b, 5, none⟩ = some v5 ∧ w.cell? ⟨b, 6, none⟩ = some v6 ∧ w.cell? ⟨b, 7, none⟩ = some v7 ∧ w.cell? ⟨b, 8, none⟩ = some v8 ∧ w.cell? ⟨b, 9, none⟩ = some v9) ∧ (w.frozen? ⟨b, 0, none⟩ = false ∧ w.frozen? ⟨b, 1, none⟩ = false ∧ w.frozen? ⟨b, 2, none⟩ = false ∧ w.frozen? ⟨b, 3, none⟩ = false ∧ w.frozen? ⟨b, 4, none⟩ = false ∧ w.frozen? ⟨b, 5, none⟩ = false ∧ w.frozen? ⟨b, 6, none⟩ = false ∧ w.frozen? ⟨b, 7, none⟩ = false ∧ w.frozen? ⟨b, 8, none⟩ = false ∧ w.frozen? ⟨b, 9, none⟩ = false) ∧ b < w.heap.size
abbrev Box11 (w : World) (b : Nat) (v0 v1 v2 v3 v4 v5 v6 v7 v8 v9 v10 : Value) : Prop := (w.cell? ⟨b, 0, none⟩ = some v0 ∧ w.cell? ⟨b, 1, none⟩ = some v1 ∧ w.cell? ⟨b, 2, none⟩ = some v2 ∧ w.cell? ⟨b, 3, none⟩ = some v3 ∧ w.cell? ⟨b, 4, none⟩ = some v4 ∧ w.cell? ⟨b, 5, none⟩ = some v5 ∧ w.cell? ⟨b, 6, none⟩ = some v6 ∧ w.cell? ⟨b, 7, none⟩ = some v7 ∧ w.cell? ⟨b, 8, none⟩ = some v8 ∧ w.cell? ⟨b, 9, none⟩ = some v9 ∧ w.cell? ⟨b, 10, none⟩ = some v10) ∧ (w.frozen? ⟨b, 0, none⟩ = false ∧ w.frozen? ⟨b, 1, none⟩ = false ∧ w.frozen? ⟨b, 2, none⟩ = false ∧ w.frozen? ⟨b, 3, none⟩ = false ∧ w.frozen? ⟨b, 4, none⟩ = false ∧ w.frozen? ⟨b, 5, none⟩ = false ∧ w.frozen? ⟨b, 6, none⟩ = false ∧ w.frozen? ⟨b, 7, none⟩ = false ∧ w.frozen? ⟨b, 8, none⟩ = false ∧ w.frozen? ⟨b, 9, none⟩ = false ∧ w.frozen? ⟨b, 10, none⟩ = false) ∧ b < w.heap.size
abbrev Box12 (w : World) (b : Nat) (v0 v1 v2 v3 v4 v5 v6 v7 v8 v9 v10 v11 : Value) : Prop := (w.cell? ⟨b, 0, none⟩ = some v0 ∧ w.cell? ⟨b, 1, none⟩ = some v1 ∧ w.cell? ⟨b, 2, none⟩ = some v2 ∧ w.cell? ⟨b, 3, none⟩ = some v3 ∧ w.cell? ⟨b, 4, none⟩ = some v4 ∧ w.cell? ⟨b, 5, none⟩ = some v5 ∧ w.cell? ⟨b, 6, none⟩ = some v6 ∧ w.cell? ⟨b, 7, none⟩ = some v7 ∧ w.cell? ⟨b, 8, none⟩ = some v8 ∧ w.cell? ⟨b, 9, none⟩ = some v9 ∧ w.cell? ⟨b, 10, none⟩ = some v10 ∧ w.cell? ⟨b, 11, none⟩ = some v11) ∧ (w.frozen? ⟨b, 0, none⟩ = false ∧ w.frozen? ⟨b, 1, none⟩ = false ∧ w.frozen? ⟨b, 2, none⟩ = false ∧ w.frozen? ⟨b, 3, none⟩ = false ∧ w.frozen? ⟨b, 4, none⟩ = false ∧ w.frozen? ⟨b, 5, none⟩ = false ∧ w.frozen? ⟨b, 6, none⟩ = false ∧ w.frozen? ⟨b, 7, none⟩ = false ∧ w.frozen? ⟨b, 8, none⟩ = false ∧ w.frozen? ⟨b, 9, none⟩ = false ∧ w.frozen? ⟨b, 10, none⟩ = false ∧ w.frozen? ⟨b, 11, none⟩ = false) ∧ b < w.heap.size
abbrev Box13 (w : World) (b : Nat) (v0 v1 v2 v3 v4 v5 v6 v7 v8 v9 v10 v11 v12 : Value) : Prop := (w.cell? ⟨b, 0, none⟩ = some v0 ∧ w.cell? ⟨b, 1, none⟩ = some v1 ∧ w.cell? ⟨b, 2, none⟩ = some v2 ∧ w.cell? ⟨b, 3, none⟩ = some v3 ∧ w.cell? ⟨b, 4, none⟩ = some v4 ∧ w.cell? ⟨b, 5, none⟩ = some v5 ∧ w.cell? ⟨b, 6, none⟩ = some v6 ∧ w.cell? ⟨b, 7, none⟩ = some v7 ∧ w.cell? ⟨b, 8, none⟩ = some v8 ∧ w.cell? ⟨b, 9, none⟩ = some v9 ∧ w.cell? ⟨b, 10, none⟩ = some v10 ∧ w.cell? ⟨b, 11, none⟩ = some v11 ∧ w.cell? ⟨b, 12, none⟩ = some v12) ∧ (w.frozen? ⟨b, 0, none⟩ = false ∧ w.frozen? ⟨b, 1, none⟩ = false ∧ w.frozen? ⟨b, 2, none⟩ = false ∧ w.frozen? ⟨b, 3, none⟩ = false ∧ w.frozen? ⟨b, 4, none⟩ = false ∧ w.frozen? ⟨b, 5, none⟩ = false ∧ w.frozen? ⟨b, 6, none⟩ = false ∧ w.frozen? ⟨b, 7, none⟩ = false ∧ w.frozen? ⟨b, 8, none⟩ = false ∧ w.frozen? ⟨b, 9, none⟩ = false ∧ w.frozen? ⟨b, 10, none⟩ = false ∧ w.frozen? ⟨b, 11, none⟩ = false ∧ w.frozen? ⟨b, 12, none⟩ = false) ∧ b < w.heap.size
abbrev Box14 (w : World) (b : Nat) (v0 v1 v2 v3 v4 v5 v6 v7 v8 v9 v10 v11 v12 v13 : Value) : Prop := (w.cell? ⟨b, 0, none⟩ = some v0 ∧ w.cell? ⟨b, 1, none⟩ = some v1 ∧ w.cell? ⟨b, 2, none⟩ = some v2 ∧ w.cell? ⟨b, 3, none⟩ = some v3 ∧ w.cell? ⟨b, 4, none⟩ = some v4 ∧ w.cell? ⟨b, 5, none⟩ = some v5 ∧ w.cell? ⟨b, 6, none⟩ = some v6 ∧ w.cell? ⟨b, 7, none⟩ = some v7 ∧ w.cell? ⟨b, 8, none⟩ = some v8 ∧ w.cell? ⟨b, 9, none⟩ = some v9 ∧ w.cell? ⟨b, 10, none⟩ = some v10 ∧ w.cell? ⟨b, 11, none⟩ = some v11 ∧ w.cell? ⟨b, 12, none⟩ = some v12 ∧ w.cell? ⟨b, 13, none⟩ = some v13) ∧ (w.frozen? ⟨b, 0, none⟩ = false ∧ w.frozen? ⟨b, 1, none⟩ = false ∧ w.frozen? ⟨b, 2, none⟩ = false ∧ w.frozen? ⟨b, 3, none⟩ = false ∧ w.frozen? ⟨b, 4, none⟩ = false ∧ w.frozen? ⟨b, 5, none⟩ = false ∧ w.frozen? ⟨b, 6, none⟩ = false ∧ w.frozen? ⟨b, 7, none⟩ = false ∧ w.frozen? ⟨b, 8, none⟩ = false ∧ w.frozen? ⟨b, 9, none⟩ = false ∧ w.frozen? ⟨b, 10, none⟩ = false ∧ w.frozen? ⟨b, 11, none⟩ = false ∧ w.frozen? ⟨b, 12, none⟩ = false ∧ w.frozen? ⟨b, 13, none⟩ = false) ∧ b < w.heap.size
end Go.Proofs.YtkdafecbdncmiaaDoor

namespace Go.Proofs.YtkdafecbdncmiaaDoor
set_option linter.unusedSectionVars false
open Go.RowKit Go.Deep
set_option linter.unusedVariables false
set_option linter.unusedSimpArgs false

structure Cod (α : Type) where
 size : Nat
 is : World → List Value → α → Prop
 len : ∀ {w cs a}, is w cs a → cs.length = size
 mono : ∀ {w w' cs a}, is w cs a → Gr w w' → is w' cs a
 bulk : α → Nat

def intC : Cod Int where
 size := 1
 is := fun _ cs n => cs = [.int .i64 n] ∧ -9223372036854775808 ≤ n ∧ n ≤ 9223372036854775807
 len := fun h => by rw [h.1]; rfl
 mono := fun h _ => h
 bulk := fun _ => 1
def boolC : Cod Bool where
 size := 1
 is := fun _ cs b => cs = [.bool b]
 len := fun h => by rw [h]; rfl
 mono := fun h _ => h
 bulk := fun _ => 1
def strC : Cod ByteArray where
 size := 1
 is := fun _ cs s => cs = [.string s] ∧ s.size ≤ maxLen
 len := fun h => by rw [h.1]; rfl
 mono := fun h _ => h
 bulk := fun s => s.size + 1
def Cod.pair {α β : Type} (c : Cod α) (d : Cod β) : Cod (α × β) where
 size := c.size + d.size
 is := fun w cs x => c.is w (cs.take c.size) x.1 ∧ d.is w (cs.drop c.size) x.2
 len := fun {w cs a} h => by
  have h1 := c.len h.1
  have h2 := d.len h.2
  simp at h1 h2
  omega
 mono := fun h g => ⟨c.mono h.1 g, d.mono h.2 g⟩
 bulk := fun x => c.bulk x.1 + d.bulk x.2
def sliceC {α : Type} (c : Cod α) : Cod (List α) where
 size := 1
 is := fun w cs l => (cs = [.slice none 0 0] ∧ l = []) ∨ ∃ (b off : Nat) (sp : Option Nat) (cap : Nat), cs = [.slice (some ⟨b, off, sp⟩) l.length cap] ∧ l.length ≤ cap ∧ l.length ≤ maxLen ∧
  ∀ i (h : i < l.length), sp = none ∧ ∃ cs', (∀ j, j < c.size → w.cell? ⟨b, off + (i * c.size + j), none⟩ = cs'[j]?) ∧ c.is w cs' l[i]
 len := fun h => by
  rcases h with ⟨rfl, _⟩ | ⟨b, off, sp, cap, rfl, _⟩ <;> rfl
 mono := fun {w w' cs l} h g => by
  rcases h with h | ⟨b, off, sp, cap, h1, h2, h3, h4⟩
  ·exact .inl h
  ·refine .inr ⟨b, off, sp, cap, h1, h2, h3, fun i hi => ?_⟩
   obtain ⟨e, cs', h5, h6⟩ := h4 i hi
   refine ⟨e, cs', fun j hj => ?_, c.mono h6 g⟩
   have h7 := h5 j hj
   have hl := c.len h6
   rw [List.getElem?_eq_getElem (by omega)] at h7 ⊢
   exact g.cell h7
 bulk := fun l => (l.map c.bulk).sum + 1

def ReadsF {α : Type} (F : Nat → Prop) (P : Program) (c : Cod α) (t : TypeId) : Prop :=
 ∀ ⦃H : Type⦄ ⦃enc : TypeId × Value → H⦄ ⦃w : World⦄ ⦃base : Nat⦄ ⦃spare : Nat → Bool⦄ ⦃held : Bool⦄ ⦃fuel : Nat⦄ ⦃cs : List Value⦄ ⦃x : DataW H × List MemPlace⦄, F fuel →
  DataW.trod enc P w base spare held fuel t cs = some x → ∃ a, c.is w cs a ∧ c.bulk a ≤ Rows.uptoBulk x.1
abbrev Reads {α : Type} (P : Program) (c : Cod α) (t : TypeId) : Prop := ReadsF (fun _ => True) P c t
theorem bulkAll_sum {H : Type} (l : List (DataW H)) : Rows.uptoBulkAll l = (l.map Rows.uptoBulk).sum := by
 induction l with
 | nil => rfl
 | cons x r ih => simp only [Rows.uptoBulkAll, List.map_cons, List.sum_cons, ih]
theorem sum_le_range {α : Type} (f : α → Nat) (D : Nat → Nat) : ∀ (l : List α) (o : Nat), (∀ i (h : i < l.length), f l[i] ≤ D (o + i)) → (l.map f).sum ≤ ((List.range' o l.length).map D).sum
 | [], _, _ => by simp
 | x :: r, o, h => by
  simp only [List.length_cons, List.range'_succ, List.map_cons, List.sum_cons]
  have h0 := h 0 (by simp)
  have := sum_le_range f D r (o + 1) (fun i hi => by have := h (i + 1) (by simp; omega); simp only [List.getElem_cons_succ] at this; rw [show o + 1 + i = o + (i + 1) by omega]; exact this)
  simp at h0
  omega

theorem wf_i64 {n : Int} (h : (Lit.int .i64 n).wf = true) : -9223372036854775808 ≤ n ∧ n ≤ 9223372036854775807 := by
 simpa [Lit.wf, IntKind.min, IntKind.max, IntKind.signed, IntKind.bits] using h
theorem bulk_pos {H : Type} (d : DataW H) : 1 ≤ Rows.uptoBulk d := by
 cases d with
 | lit l => cases l <;> simp [Rows.uptoBulk]
 | _ => simp [Rows.uptoBulk]
theorem reads_int {F : Nat → Prop} {P : Program} {t : TypeId} (ht : P.underlying t = some (.int .i64)) : ReadsF F P intC t := by
 intro H enc w base spare held fuel cs x _ h
 obtain ⟨n, rfl, _, hw⟩ := DataW.trod_int ht h
 exact ⟨n, ⟨rfl, wf_i64 hw⟩, bulk_pos _⟩
theorem reads_bool {F : Nat → Prop} {P : Program} {t : TypeId} (ht : P.underlying t = some .bool) : ReadsF F P boolC t := by
 intro H enc w base spare held fuel cs x _ h
 obtain ⟨n, rfl, _⟩ := DataW.trod_bool ht h
 exact ⟨n, rfl, bulk_pos _⟩
theorem reads_str {F : Nat → Prop} {P : Program} {t : TypeId} (ht : P.underlying t = some .string) : ReadsF F P strC t := by
 intro H enc w base spare held fuel cs x _ h
 obtain ⟨n, rfl, hx, hw⟩ := DataW.trod_string ht h
 refine ⟨n, ⟨rfl, hw⟩, ?_⟩
 subst hx
 simp only [Rows.uptoBulk, strC]
 first | (simp; done) | omega
theorem reads_slice {F : Nat → Prop} {P : Program} {α : Type} {c : Cod α} {t e : TypeId} (ht : P.underlying t = some (.slice e)) (hz : P.cellsOf e = c.size) (hp : 0 < c.size) (hr : ReadsF (fun m => F (m + 1)) P c e) : ReadsF F P (sliceC c) t := by
 intro H enc w base spare held fuel cs x hF h
 rcases DataW.trod_slice ht h with ⟨rfl, rfl⟩ | ⟨a, len, cap, elems, rest, n, hfu, rfl, hxe, hb, hl, hm, hlen, hel, h8, h9⟩
 ·exact ⟨[], .inl ⟨rfl, rfl⟩, by simp [sliceC, Rows.uptoBulk]⟩
 ·obtain ⟨D, hD⟩ : ∃ D : Nat → DataW H, D = fun i => (elems.getD i (.nil, [])).1 := ⟨_, rfl⟩
  have key : ∀ i, i < len → ∃ (y : α) (cs' : List Value), (∀ j, j < c.size → w.cell? (a.add (i * c.size + j)) = cs'[j]?) ∧ c.is w cs' y ∧ c.bulk y ≤ Rows.uptoBulk (D i) := by
   intro i hi
   have hk := hel i hi
   rw [List.getElem?_eq_getElem (by omega)] at hk
   obtain ⟨cs', h1, h2⟩ := Option.bind_eq_some_iff.1 hk
   obtain ⟨y, hy, hyb⟩ := hr (by subst hfu; exact hF) h2
   have hyb : c.bulk y ≤ Rows.uptoBulk (D i) := by
    rw [hD]
    simpa [List.getD, List.getElem?_eq_getElem (show i < elems.length by omega)] using hyb
   obtain ⟨_, h3, h4⟩ := World.cells?_some h1
   refine ⟨y, cs', fun j hj => ?_, hy, hyb⟩
   have := h4 j (by rw [hz]; exact hj)
   rw [hz] at this
   rw [← this, add_add]
  obtain ⟨ys, hys⟩ : ∃ ys : List α, ys.length = len ∧ ∀ i (h : i < ys.length), c.bulk ys[i] ≤ Rows.uptoBulk (D i) ∧ ∃ cs', (∀ j, j < c.size → w.cell? (a.add (i * c.size + j)) = cs'[j]?) ∧ c.is w cs' ys[i] := by
   clear hel hlen h hl hxe h8 h9
   induction len with
   | zero => exact ⟨[], rfl, fun i h => by simp at h⟩
   | succ k ih =>
    obtain ⟨ys, h1, h2⟩ := ih (fun i hi => key i (by omega))
    obtain ⟨y, cs', h3, h4, h4b⟩ := key k (by omega)
    refine ⟨ys ++ [y], by simp [h1], fun i hi => ?_⟩
    by_cases hk : i < ys.length
    ·rw [List.getElem_append_left hk]; exact h2 i hk
    ·have : i = k := by simp at hi; omega
     subst this
     rw [List.getElem_append_right (by omega)]
     simp only [h1, Nat.sub_self, List.getElem_cons_zero]
     exact ⟨h4b, cs', h3, h4⟩
  obtain ⟨h1, h2⟩ := hys
  obtain ⟨b, off, sp⟩ := a
  refine ⟨ys, .inr ⟨b, off, sp, cap, by rw [h1], by omega, Nat.le_trans (show ys.length ≤ cap by omega) hm, fun i hi => ?_⟩, ?_⟩
  ·have hs : sp = none := by
    cases sp with
    | none => rfl
    | some q =>
     exfalso
     obtain ⟨_, cs', h3, h4⟩ := h2 0 (by omega)
     have h5 := h3 0 hp
     have hl := c.len h4
     rw [List.getElem?_eq_getElem (by omega)] at h5
     simp only [Nat.zero_mul, Nat.zero_add, World.cell?, Addr.add] at h5
     split at h5 <;> simp at h5
   obtain ⟨_, cs', h3, h4⟩ := h2 i hi
   subst hs
   refine ⟨rfl, cs', fun j hj => ?_, h4⟩
   have h6 := h3 j hj
   rw [← h6]
   congr 1
   simp only [Addr.add]
   split
   ·rename_i h7; simp only [h7, Nat.add_zero]
   ·rfl
  ·subst hxe
   simp only [sliceC, Rows.uptoBulk, bulkAll_sum, List.map_map]
   have := sum_le_range c.bulk (fun i => Rows.uptoBulk (D i)) ys 0 (fun i hi => by simpa using (h2 i hi).1)
   rw [h1, ← List.range_eq_range'] at this
   have e : List.map (Rows.uptoBulk ∘ fun x => x.1) elems = List.map (fun i => Rows.uptoBulk (D i)) (List.range len) := by
    rw [← hlen, hD]
    apply List.ext_getElem (by simp)
    intro i h3 h4
    simp at h3
    simp [List.getD, List.getElem?_eq_getElem h3]
   rw [e]
   omega
theorem take_drop_all {α : Type} (l : List α) (o n : Nat) (h : l.length = o + n) : (l.drop o).take n = l.drop o := List.take_of_length_le (by simp; omega)

theorem list_of_len2 {α : Type} (l : List α) (h : l.length = 2) : ∃ x0 x1, l = [x0, x1] := by
 match l, h with
 | [x0, x1], _ => exact ⟨x0, x1, rfl⟩
theorem reads_struct2 {F : Nat → Prop} {P : Program} {α0 α1 : Type} {t : TypeId} {f0 f1 : Field} {c0 : Cod α0} {c1 : Cod α1} (ht : P.underlying t = some (.struct #[f0, f1])) (hz : P.cellsOf t = c0.size + c1.size) (o0 : f0.offset = 0) (o1 : f1.offset = c0.size) (z0 : P.cellsOf f0.type = c0.size) (z1 : P.cellsOf f1.type = c1.size) (r0 : ReadsF (fun m => F (m + 1)) P c0 f0.type) (r1 : ReadsF (fun m => F (m + 1)) P c1 f1.type) : ReadsF F P (c0.pair c1) t := by
 intro H enc w base spare held fuel cs x hF h
 obtain ⟨xs, m, hfu, hxx, hlen, hxl, hf⟩ := DataW.trod_struct ht h
 rw [hz] at hlen
 have hxl : xs.length = 2 := hxl
 have h0 := hf 0 f0 rfl
 rw [o0, z0, List.getElem?_eq_getElem (show 0 < xs.length by omega)] at h0
 obtain ⟨a0, k0, b0⟩ := r0 (by subst hfu; exact hF) h0
 have h1 := hf 1 f1 rfl
 rw [o1, z1, List.getElem?_eq_getElem (show 1 < xs.length by omega)] at h1
 obtain ⟨a1, k1, b1⟩ := r1 (by subst hfu; exact hF) h1
 rw [take_drop_all cs (c0.size) c1.size (by omega)] at k1
 refine ⟨(a0, a1), ?_, ?_⟩
 ·exact ⟨by simpa using k0, (by simpa [List.drop_drop, Nat.add_assoc] using k1)⟩
 ·subst hxx
  simp only [Rows.uptoBulk, bulkAll_sum, Cod.pair]
  have hs : (List.map Rows.uptoBulk (xs.map (·.1))).sum = Rows.uptoBulk xs[0].1 + (Rows.uptoBulk xs[1].1) := by
   obtain ⟨x0, x1, rfl⟩ := list_of_len2 xs hxl
   simp
  rw [hs]
  exact Nat.le_succ_of_le (Nat.add_le_add b0 b1)
theorem list_of_len3 {α : Type} (l : List α) (h : l.length = 3) : ∃ x0 x1 x2, l = [x0, x1, x2] := by
 match l, h with
 | [x0, x1, x2], _ => exact ⟨x0, x1, x2, rfl⟩
theorem reads_struct3 {F : Nat → Prop} {P : Program} {α0 α1 α2 : Type} {t : TypeId} {f0 f1 f2 : Field} {c0 : Cod α0} {c1 : Cod α1} {c2 : Cod α2} (ht : P.underlying t = some (.struct #[f0, f1, f2])) (hz : P.cellsOf t = c0.size + c1.size + c2.size) (o0 : f0.offset = 0) (o1 : f1.offset = c0.size) (o2 : f2.offset = c0.size + c1.size) (z0 : P.cellsOf f0.type = c0.size) (z1 : P.cellsOf f1.type = c1.size) (z2 : P.cellsOf f2.type = c2.size) (r0 : ReadsF (fun m => F (m + 1)) P c0 f0.type) (r1 : ReadsF (fun m => F (m + 1)) P c1 f1.type) (r2 : ReadsF (fun m => F (m + 1)) P c2 f2.type) : ReadsF F P (c0.pair (c1.pair c2)) t := by
 intro H enc w base spare held fuel cs x hF h
 obtain ⟨xs, m, hfu, hxx, hlen, hxl, hf⟩ := DataW.trod_struct ht h
 rw [hz] at hlen
 have hxl : xs.length = 3 := hxl
 have h0 := hf 0 f0 rfl
 rw [o0, z0, List.getElem?_eq_getElem (show 0 < xs.length by omega)] at h0
 obtain ⟨a0, k0, b0⟩ := r0 (by subst hfu; exact hF) h0
 have h1 := hf 1 f1 rfl
 rw [o1, z1, List.getElem?_eq_getElem (show 1 < xs.length by omega)] at h1
 obtain ⟨a1, k1, b1⟩ := r1 (by subst hfu; exact hF) h1
 have h2 := hf 2 f2 rfl
 rw [o2, z2, List.getElem?_eq_getElem (show 2 < xs.length by omega)] at h2
 obtain ⟨a2, k2, b2⟩ := r2 (by subst hfu; exact hF) h2
 rw [take_drop_all cs (c0.size + c1.size) c2.size (by omega)] at k2
 refine ⟨(a0, (a1, a2)), ?_, ?_⟩
 ·exact ⟨by simpa using k0, ⟨by simpa [List.drop_drop, Nat.add_assoc] using k1, (by simpa [List.drop_drop, Nat.add_assoc] using k2)⟩⟩
 ·subst hxx
  simp only [Rows.uptoBulk, bulkAll_sum, Cod.pair]
  have hs : (List.map Rows.uptoBulk (xs.map (·.1))).sum = Rows.uptoBulk xs[0].1 + (Rows.uptoBulk xs[1].1 + (Rows.uptoBulk xs[2].1)) := by
   obtain ⟨x0, x1, x2, rfl⟩ := list_of_len3 xs hxl
   simp
  rw [hs]
  exact Nat.le_succ_of_le (Nat.add_le_add b0 (Nat.add_le_add b1 b2))
theorem list_of_len4 {α : Type} (l : List α) (h : l.length = 4) : ∃ x0 x1 x2 x3, l = [x0, x1, x2, x3] := by
 match l, h with
 | [x0, x1, x2, x3], _ => exact ⟨x0, x1, x2, x3, rfl⟩
theorem reads_struct4 {F : Nat → Prop} {P : Program} {α0 α1 α2 α3 : Type} {t : TypeId} {f0 f1 f2 f3 : Field} {c0 : Cod α0} {c1 : Cod α1} {c2 : Cod α2} {c3 : Cod α3} (ht : P.underlying t = some (.struct #[f0, f1, f2, f3])) (hz : P.cellsOf t = c0.size + c1.size + c2.size + c3.size) (o0 : f0.offset = 0) (o1 : f1.offset = c0.size) (o2 : f2.offset = c0.size + c1.size) (o3 : f3.offset = c0.size + c1.size + c2.size) (z0 : P.cellsOf f0.type = c0.size) (z1 : P.cellsOf f1.type = c1.size) (z2 : P.cellsOf f2.type = c2.size) (z3 : P.cellsOf f3.type = c3.size) (r0 : ReadsF (fun m => F (m + 1)) P c0 f0.type) (r1 : ReadsF (fun m => F (m + 1)) P c1 f1.type) (r2 : ReadsF (fun m => F (m + 1)) P c2 f2.type) (r3 : ReadsF (fun m => F (m + 1)) P c3 f3.type) : ReadsF F P (c0.pair (c1.pair (c2.pair c3))) t := by
 intro H enc w base spare held fuel cs x hF h
 obtain ⟨xs, m, hfu, hxx, hlen, hxl, hf⟩ := DataW.trod_struct ht h
 rw [hz] at hlen
 have hxl : xs.length = 4 := hxl
 have h0 := hf 0 f0 rfl
 rw [o0, z0, List.getElem?_eq_getElem (show 0 < xs.length by omega)] at h0
 obtain ⟨a0, k0, b0⟩ := r0 (by subst hfu; exact hF) h0
 have h1 := hf 1 f1 rfl
 rw [o1, z1, List.getElem?_eq_getElem (show 1 < xs.length by omega)] at h1
 obtain ⟨a1, k1, b1⟩ := r1 (by subst hfu; exact hF) h1
 have h2 := hf 2 f2 rfl
 rw [o2, z2, List.getElem?_eq_getElem (show 2 < xs.length by omega)] at h2
 obtain ⟨a2, k2, b2⟩ := r2 (by subst hfu; exact hF) h2
 have h3 := hf 3 f3 rfl
 rw [o3, z3, List.getElem?_eq_getElem (show 3 < xs.length by omega)] at h3
 obtain ⟨a3, k3, b3⟩ := r3 (by subst hfu; exact hF) h3
 rw [take_drop_all cs (c0.size + c1.size + c2.size) c3.size (by omega)] at k3
 refine ⟨(a0, (a1, (a2, a3))), ?_, ?_⟩
 ·exact ⟨by simpa using k0, ⟨by simpa [List.drop_drop, Nat.add_assoc] using k1, ⟨by simpa [List.drop_drop, Nat.add_assoc] using k2, (by simpa [List.drop_drop, Nat.add_assoc] using k3)⟩⟩⟩
 ·subst hxx
  simp only [Rows.uptoBulk, bulkAll_sum, Cod.pair]
  have hs : (List.map Rows.uptoBulk (xs.map (·.1))).sum = Rows.uptoBulk xs[0].1 + (Rows.uptoBulk xs[1].1 + (Rows.uptoBulk xs[2].1 + (Rows.uptoBulk xs[3].1))) := by
   obtain ⟨x0, x1, x2, x3, rfl⟩ := list_of_len4 xs hxl
   simp
  rw [hs]
  exact Nat.le_succ_of_le (Nat.add_le_add b0 (Nat.add_le_add b1 (Nat.add_le_add b2 b3)))
theorem list_of_len7 {α : Type} (l : List α) (h : l.length = 7) : ∃ x0 x1 x2 x3 x4 x5 x6, l = [x0, x1, x2, x3, x4, x5, x6] := by
 match l, h with
 | [x0, x1, x2, x3, x4, x5, x6], _ => exact ⟨x0, x1, x2, x3, x4, x5, x6, rfl⟩
theorem reads_struct7 {F : Nat → Prop} {P : Program} {α0 α1 α2 α3 α4 α5 α6 : Type} {t : TypeId} {f0 f1 f2 f3 f4 f5 f6 : Field} {c0 : Cod α0} {c1 : Cod α1} {c2 : Cod α2} {c3 : Cod α3} {c4 : Cod α4} {c5 : Cod α5} {c6 : Cod α6} (ht : P.underlying t = some (.struct #[f0, f1, f2, f3, f4, f5, f6])) (hz : P.cellsOf t = c0.size + c1.size + c2.size + c3.size + c4.size + c5.size + c6.size) (o0 : f0.offset = 0) (o1 : f1.offset = c0.size) (o2 : f2.offset = c0.size + c1.size) (o3 : f3.offset = c0.size + c1.size + c2.size) (o4 : f4.offset = c0.size + c1.size + c2.size + c3.size) (o5 : f5.offset = c0.size + c1.size + c2.size + c3.size + c4.size) (o6 : f6.offset = c0.size + c1.size + c2.size + c3.size + c4.size + c5.size) (z0 : P.cellsOf f0.type = c0.size) (z1 : P.cellsOf f1.type = c1.size) (z2 : P.cellsOf f2.type = c2.size) (z3 : P.cellsOf f3.type = c3.size) (z4 : P.cellsOf f4.type = c4.size) (z5 : P.cellsOf f5.type = c5.size) (z6 : P.cellsOf f6.type = c6.size) (r0 : ReadsF (fun m => F (m + 1)) P c0 f0.type) (r1 : ReadsF (fun m => F (m + 1)) P c1 f1.type) (r2 : ReadsF (fun m => F (m + 1)) P c2 f2.type) (r3 : ReadsF (fun m => F (m + 1)) P c3 f3.type) (r4 : ReadsF (fun m => F (m + 1)) P c4 f4.type) (r5 : ReadsF (fun m => F (m + 1)) P c5 f5.type) (r6 : ReadsF (fun m => F (m + 1)) P c6 f6.type) : ReadsF F P (c0.pair (c1.pair (c2.pair (c3.pair (c4.pair (c5.pair c6)))))) t := by
 intro H enc w base spare held fuel cs x hF h
 obtain ⟨xs, m, hfu, hxx, hlen, hxl, hf⟩ := DataW.trod_struct ht h
 rw [hz] at hlen
 have hxl : xs.length = 7 := hxl
 have h0 := hf 0 f0 rfl
 rw [o0, z0, List.getElem?_eq_getElem (show 0 < xs.length by omega)] at h0
 obtain ⟨a0, k0, b0⟩ := r0 (by subst hfu; exact hF) h0
 have h1 := hf 1 f1 rfl
 rw [o1, z1, List.getElem?_eq_getElem (show 1 < xs.length by omega)] at h1
 obtain ⟨a1, k1, b1⟩ := r1 (by subst hfu; exact hF) h1
 have h2 := hf 2 f2 rfl
 rw [o2, z2, List.getElem?_eq_getElem (show 2 < xs.length by omega)] at h2
 obtain ⟨a2, k2, b2⟩ := r2 (by subst hfu; exact hF) h2
 have h3 := hf 3 f3 rfl
 rw [o3, z3, List.getElem?_eq_getElem (show 3 < xs.length by omega)] at h3
 obtain ⟨a3, k3, b3⟩ := r3 (by subst hfu; exact hF) h3
 have h4 := hf 4 f4 rfl
 rw [o4, z4, List.getElem?_eq_getElem (show 4 < xs.length by omega)] at h4
 obtain ⟨a4, k4, b4⟩ := r4 (by subst hfu; exact hF) h4
 have h5 := hf 5 f5 rfl
 rw [o5, z5, List.getElem?_eq_getElem (show 5 < xs.length by omega)] at h5
 obtain ⟨a5, k5, b5⟩ := r5 (by subst hfu; exact hF) h5
 have h6 := hf 6 f6 rfl
 rw [o6, z6, List.getElem?_eq_getElem (show 6 < xs.length by omega)] at h6
 obtain ⟨a6, k6, b6⟩ := r6 (by subst hfu; exact hF) h6
 rw [take_drop_all cs (c0.size + c1.size + c2.size + c3.size + c4.size + c5.size) c6.size (by omega)] at k6
 refine ⟨(a0, (a1, (a2, (a3, (a4, (a5, a6)))))), ?_, ?_⟩
 ·exact ⟨by simpa using k0, ⟨by simpa [List.drop_drop, Nat.add_assoc] using k1, ⟨by simpa [List.drop_drop, Nat.add_assoc] using k2, ⟨by simpa [List.drop_drop, Nat.add_assoc] using k3, ⟨by simpa [List.drop_drop, Nat.add_assoc] using k4, ⟨by simpa [List.drop_drop, Nat.add_assoc] using k5, (by simpa [List.drop_drop, Nat.add_assoc] using k6)⟩⟩⟩⟩⟩⟩
 ·subst hxx
  simp only [Rows.uptoBulk, bulkAll_sum, Cod.pair]
  have hs : (List.map Rows.uptoBulk (xs.map (·.1))).sum = Rows.uptoBulk xs[0].1 + (Rows.uptoBulk xs[1].1 + (Rows.uptoBulk xs[2].1 + (Rows.uptoBulk xs[3].1 + (Rows.uptoBulk xs[4].1 + (Rows.uptoBulk xs[5].1 + (Rows.uptoBulk xs[6].1)))))) := by
   obtain ⟨x0, x1, x2, x3, x4, x5, x6, rfl⟩ := list_of_len7 xs hxl
   simp
  rw [hs]
  exact Nat.le_succ_of_le (Nat.add_le_add b0 (Nat.add_le_add b1 (Nat.add_le_add b2 (Nat.add_le_add b3 (Nat.add_le_add b4 (Nat.add_le_add b5 b6))))))
end Go.Proofs.YtkdafecbdncmiaaDoor

namespace Go.Proofs.YtkdafecbdncmiaaDoor
set_option linter.unusedSectionVars false
open Go.RowKit Go.Deep
set_option linter.unusedVariables false
set_option linter.unusedSimpArgs false

theorem ReadsF.imp {F : Nat → Prop} {P : Program} {α β : Type} {c : Cod α} {d : Cod β} {t : TypeId} (h : ReadsF F P c t) (k : ∀ w cs a, c.is w cs a → ∃ b, d.is w cs b ∧ d.bulk b ≤ c.bulk a) : ReadsF F P d t := by
 intro H enc w base spare held fuel cs x hF h1
 obtain ⟨a, ha, hb⟩ := h hF h1
 obtain ⟨b, h2, h3⟩ := k _ _ _ ha
 exact ⟨b, h2, Nat.le_trans h3 hb⟩
theorem cells_split {α : Type} {cs a b : List α} {n : Nat} (h1 : cs.take n = a) (h2 : cs.drop n = b) : cs = a ++ b := by rw [← h1, ← h2, List.take_append_drop]
def rangeC : Cod RangeD where
 size := 3
 is := fun w cs x => cs = [.int .i64 x.low, .int .i64 x.high, .string x.name] ∧ inI x.low ∧ inI x.high ∧ x.name.size ≤ maxLen
 len := fun h => by obtain ⟨rfl, _⟩ := h; rfl
 mono := fun h _ => h
 bulk := fun x => intC.bulk x.low + (intC.bulk x.high + (strC.bulk x.name))
theorem reads_range : Reads Tryd.prog rangeC 176 :=
 (reads_struct3 (F := fun _ => True) Tryd.underlying176 (c0 := intC) (c1 := intC) (c2 := strC) (by kernel_rfl) rfl rfl rfl (by kernel_rfl) (by kernel_rfl) (by kernel_rfl) (reads_int Tryd.underlying3) (reads_int Tryd.underlying3) (reads_str Tryd.underlying9)).imp fun w cs a h => by
  obtain ⟨a0, a1, a2⟩ := a
  obtain ⟨h0, h1, h2⟩ := h
  obtain ⟨e0, b0⟩ := h0
  obtain ⟨e1, b1⟩ := h1
  obtain ⟨e2, b2⟩ := h2
  have e101 := cells_split e1 e2
  have e100 := cells_split e0 e101
  exact ⟨⟨a0, a1, a2⟩, ⟨by rw [e100]; rfl, b0, b1, b2⟩, Nat.le_refl _⟩
theorem reads_ranges : Reads Tryd.prog (sliceC rangeC) 150 := reads_slice Tryd.underlying150 (c := rangeC) (by kernel_rfl) (by decide) reads_range
def paramC : Cod ParamD where
 size := 7
 is := fun w cs x => ∃ v0 : Value, cs = [.string x.name, .int .i64 x.group, .int .i64 x.att, .int .i64 x.fine, .int .i64 x.default, .bool x.snap, v0] ∧ x.name.size ≤ maxLen ∧ inI x.group ∧ inI x.att ∧ inI x.fine ∧ inI x.default ∧ (sliceC rangeC).is w [v0] x.ranges
 len := fun h => by obtain ⟨v0, rfl, _⟩ := h; rfl
 mono := fun {w w' cs x} h g => by obtain ⟨v0, e, h0, h1, h2, h3, h4, h5⟩ := h; exact ⟨v0, e, h0, h1, h2, h3, h4, ((sliceC rangeC)).mono h5 g⟩
 bulk := fun x => strC.bulk x.name + (intC.bulk x.group + (intC.bulk x.att + (intC.bulk x.fine + (intC.bulk x.default + (boolC.bulk x.snap + ((sliceC rangeC).bulk x.ranges))))))
theorem reads_param : Reads Tryd.prog paramC 152 :=
 (reads_struct7 (F := fun _ => True) Tryd.underlying152 (c0 := strC) (c1 := intC) (c2 := intC) (c3 := intC) (c4 := intC) (c5 := boolC) (c6 := (sliceC rangeC)) (by kernel_rfl) rfl rfl rfl rfl rfl rfl rfl (by kernel_rfl) (by kernel_rfl) (by kernel_rfl) (by kernel_rfl) (by kernel_rfl) (by kernel_rfl) (by kernel_rfl) (reads_str Tryd.underlying9) (reads_int Tryd.underlying3) (reads_int Tryd.underlying3) (reads_int Tryd.underlying3) (reads_int Tryd.underlying3) (reads_bool Tryd.underlying4) reads_ranges).imp fun w cs a h => by
  obtain ⟨a0, a1, a2, a3, a4, a5, a6⟩ := a
  obtain ⟨h0, h1, h2, h3, h4, h5, h6⟩ := h
  obtain ⟨e0, b0⟩ := h0
  obtain ⟨e1, b1⟩ := h1
  obtain ⟨e2, b2⟩ := h2
  obtain ⟨e3, b3⟩ := h3
  obtain ⟨e4, b4⟩ := h4
  have e5 := h5; simp only [boolC] at e5
  obtain ⟨s6, e6⟩ := List.length_eq_one_iff.1 (((sliceC rangeC)).len h6); rw [e6] at h6
  have e105 := cells_split e5 e6
  have e104 := cells_split e4 e105
  have e103 := cells_split e3 e104
  have e102 := cells_split e2 e103
  have e101 := cells_split e1 e102
  have e100 := cells_split e0 e101
  exact ⟨⟨a0, a1, a2, a3, a4, a5, a6⟩, ⟨s6, by rw [e100]; rfl, b0, b1, b2, b3, b4, h6⟩, Nat.le_refl _⟩
theorem reads_params : Reads Tryd.prog (sliceC paramC) 126 := reads_slice Tryd.underlying126 (c := paramC) (by kernel_rfl) (by decide) reads_param
def profileC : Cod ProfileD where
 size := 3
 is := fun w cs x => ∃ v0 : Value, cs = [.string x.name, .int .i64 x.size, v0] ∧ x.name.size ≤ maxLen ∧ inI x.size ∧ (sliceC paramC).is w [v0] x.params
 len := fun h => by obtain ⟨v0, rfl, _⟩ := h; rfl
 mono := fun {w w' cs x} h g => by obtain ⟨v0, e, h0, h1, h2⟩ := h; exact ⟨v0, e, h0, h1, ((sliceC paramC)).mono h2 g⟩
 bulk := fun x => strC.bulk x.name + (intC.bulk x.size + ((sliceC paramC).bulk x.params))
theorem reads_profile : Reads Tryd.prog profileC 128 :=
 (reads_struct3 (F := fun _ => True) Tryd.underlying128 (c0 := strC) (c1 := intC) (c2 := (sliceC paramC)) (by kernel_rfl) rfl rfl rfl (by kernel_rfl) (by kernel_rfl) (by kernel_rfl) (reads_str Tryd.underlying9) (reads_int Tryd.underlying3) reads_params).imp fun w cs a h => by
  obtain ⟨a0, a1, a2⟩ := a
  obtain ⟨h0, h1, h2⟩ := h
  obtain ⟨e0, b0⟩ := h0
  obtain ⟨e1, b1⟩ := h1
  obtain ⟨s2, e2⟩ := List.length_eq_one_iff.1 (((sliceC paramC)).len h2); rw [e2] at h2
  have e101 := cells_split e1 e2
  have e100 := cells_split e0 e101
  exact ⟨⟨a0, a1, a2⟩, ⟨s2, by rw [e100]; rfl, b0, b1, h2⟩, Nat.le_refl _⟩
theorem reads_profiles : Reads Tryd.prog (sliceC profileC) 30 := reads_slice Tryd.underlying30 (c := profileC) (by kernel_rfl) (by decide) reads_profile
def unitC : Cod UnitD where
 size := 4
 is := fun w cs x => cs = [.int .i64 x.number, .string x.profile, .int .i64 x.univ, .int .i64 x.address] ∧ inI x.number ∧ x.profile.size ≤ maxLen ∧ inI x.univ ∧ inI x.address
 len := fun h => by obtain ⟨rfl, _⟩ := h; rfl
 mono := fun h _ => h
 bulk := fun x => intC.bulk x.number + (strC.bulk x.profile + (intC.bulk x.univ + (intC.bulk x.address)))
theorem reads_unit : Reads Tryd.prog unitC 42 :=
 (reads_struct4 (F := fun _ => True) Tryd.underlying42 (c0 := intC) (c1 := strC) (c2 := intC) (c3 := intC) (by kernel_rfl) rfl rfl rfl rfl (by kernel_rfl) (by kernel_rfl) (by kernel_rfl) (by kernel_rfl) (reads_int Tryd.underlying3) (reads_str Tryd.underlying9) (reads_int Tryd.underlying3) (reads_int Tryd.underlying3)).imp fun w cs a h => by
  obtain ⟨a0, a1, a2, a3⟩ := a
  obtain ⟨h0, h1, h2, h3⟩ := h
  obtain ⟨e0, b0⟩ := h0
  obtain ⟨e1, b1⟩ := h1
  obtain ⟨e2, b2⟩ := h2
  obtain ⟨e3, b3⟩ := h3
  have e102 := cells_split e2 e3
  have e101 := cells_split e1 e102
  have e100 := cells_split e0 e101
  exact ⟨⟨a0, a1, a2, a3⟩, ⟨by rw [e100]; rfl, b0, b1, b2, b3⟩, Nat.le_refl _⟩
theorem reads_units : Reads Tryd.prog (sliceC unitC) 31 := reads_slice Tryd.underlying31 (c := unitC) (by kernel_rfl) (by decide) reads_unit
def rigC : Cod RigD where
 size := 2
 is := fun w cs x => ∃ v0 v1 : Value, cs = [v0, v1] ∧ (sliceC profileC).is w [v0] x.library ∧ (sliceC unitC).is w [v1] x.units
 len := fun h => by obtain ⟨v0, v1, rfl, _⟩ := h; rfl
 mono := fun {w w' cs x} h g => by obtain ⟨v0, v1, e, h0, h1⟩ := h; exact ⟨v0, v1, e, ((sliceC profileC)).mono h0 g, ((sliceC unitC)).mono h1 g⟩
 bulk := fun x => (sliceC profileC).bulk x.library + ((sliceC unitC).bulk x.units)
theorem reads_rig : Reads Tryd.prog rigC 33 :=
 (reads_struct2 (F := fun _ => True) Tryd.underlying33 (c0 := (sliceC profileC)) (c1 := (sliceC unitC)) (by kernel_rfl) rfl rfl (by kernel_rfl) (by kernel_rfl) reads_profiles reads_units).imp fun w cs a h => by
  obtain ⟨a0, a1⟩ := a
  obtain ⟨h0, h1⟩ := h
  obtain ⟨s0, e0⟩ := List.length_eq_one_iff.1 (((sliceC profileC)).len h0); rw [e0] at h0
  obtain ⟨s1, e1⟩ := List.length_eq_one_iff.1 (((sliceC unitC)).len h1); rw [e1] at h1
  have e100 := cells_split e0 e1
  exact ⟨⟨a0, a1⟩, ⟨s0, s1, by rw [e100]; rfl, h0, h1⟩, Nat.le_refl _⟩
def keyC : Cod KeyD where
 size := 2
 is := fun w cs x => cs = [.int .i64 x.unit, .string x.param] ∧ inI x.unit ∧ x.param.size ≤ maxLen
 len := fun h => by obtain ⟨rfl, _⟩ := h; rfl
 mono := fun h _ => h
 bulk := fun x => intC.bulk x.unit + (strC.bulk x.param)
theorem reads_key : Reads Tryd.prog keyC 72 :=
 (reads_struct2 (F := fun _ => True) Tryd.underlying72 (c0 := intC) (c1 := strC) (by kernel_rfl) rfl rfl (by kernel_rfl) (by kernel_rfl) (reads_int Tryd.underlying3) (reads_str Tryd.underlying9)).imp fun w cs a h => by
  obtain ⟨a0, a1⟩ := a
  obtain ⟨h0, h1⟩ := h
  obtain ⟨e0, b0⟩ := h0
  obtain ⟨e1, b1⟩ := h1
  have e100 := cells_split e0 e1
  exact ⟨⟨a0, a1⟩, ⟨by rw [e100]; rfl, b0, b1⟩, Nat.le_refl _⟩
def settingC : Cod SettingD where
 size := 3
 is := fun w cs x => cs = [.int .i64 x.key.unit, .string x.key.param, .int .i64 x.level] ∧ inI x.key.unit ∧ x.key.param.size ≤ maxLen ∧ inI x.level
 len := fun h => by obtain ⟨rfl, _⟩ := h; rfl
 mono := fun h _ => h
 bulk := fun x => keyC.bulk x.key + (intC.bulk x.level)
theorem reads_setting : Reads Tryd.prog settingC 74 :=
 (reads_struct2 (F := fun _ => True) Tryd.underlying74 (c0 := keyC) (c1 := intC) (by kernel_rfl) rfl rfl (by kernel_rfl) (by kernel_rfl) reads_key (reads_int Tryd.underlying3)).imp fun w cs a h => by
  obtain ⟨a0, a1⟩ := a
  obtain ⟨h0, h1⟩ := h
  obtain ⟨e0, b0⟩ := h0
  obtain ⟨b0_0, b0_1⟩ := b0
  obtain ⟨e1, b1⟩ := h1
  have e100 := cells_split e0 e1
  exact ⟨⟨a0, a1⟩, ⟨by rw [e100]; rfl, b0_0, b0_1, b1⟩, Nat.le_refl _⟩
theorem reads_settings : Reads Tryd.prog (sliceC settingC) 68 := reads_slice Tryd.underlying68 (c := settingC) (by kernel_rfl) (by decide) reads_setting
def presetC : Cod PresetD where
 size := 3
 is := fun w cs x => ∃ v0 : Value, cs = [.int .i64 x.number, .string x.title, v0] ∧ inI x.number ∧ x.title.size ≤ maxLen ∧ (sliceC settingC).is w [v0] x.settings
 len := fun h => by obtain ⟨v0, rfl, _⟩ := h; rfl
 mono := fun {w w' cs x} h g => by obtain ⟨v0, e, h0, h1, h2⟩ := h; exact ⟨v0, e, h0, h1, ((sliceC settingC)).mono h2 g⟩
 bulk := fun x => intC.bulk x.number + (strC.bulk x.title + ((sliceC settingC).bulk x.settings))
theorem reads_preset : Reads Tryd.prog presetC 70 :=
 (reads_struct3 (F := fun _ => True) Tryd.underlying70 (c0 := intC) (c1 := strC) (c2 := (sliceC settingC)) (by kernel_rfl) rfl rfl rfl (by kernel_rfl) (by kernel_rfl) (by kernel_rfl) (reads_int Tryd.underlying3) (reads_str Tryd.underlying9) reads_settings).imp fun w cs a h => by
  obtain ⟨a0, a1, a2⟩ := a
  obtain ⟨h0, h1, h2⟩ := h
  obtain ⟨e0, b0⟩ := h0
  obtain ⟨e1, b1⟩ := h1
  obtain ⟨s2, e2⟩ := List.length_eq_one_iff.1 (((sliceC settingC)).len h2); rw [e2] at h2
  have e101 := cells_split e1 e2
  have e100 := cells_split e0 e101
  exact ⟨⟨a0, a1, a2⟩, ⟨s2, by rw [e100]; rfl, b0, b1, h2⟩, Nat.le_refl _⟩
theorem reads_presets : Reads Tryd.prog (sliceC presetC) 35 := reads_slice Tryd.underlying35 (c := presetC) (by kernel_rfl) (by decide) reads_preset
end Go.Proofs.YtkdafecbdncmiaaDoor

namespace Go.Proofs.YtkdafecbdncmiaaDoor
set_option linter.unusedSectionVars false
open Go.RowKit Go.Deep
set_option linter.unusedVariables false
set_option linter.unusedSimpArgs false
def pickC : Nat → Cod PickD
 | 0 => { size := 4, is := fun _ _ _ => False, len := fun h => h.elim, mono := fun h _ => h.elim, bulk := fun _ => 0 }
 | n + 1 => { size := 4, is := fun w cs x => ∃ v : Value, cs = [.int .i64 x.kind, .int .i64 x.from_, .int .i64 x.to_, v] ∧ inI x.kind ∧ inI x.from_ ∧ inI x.to_ ∧ (sliceC (pickC n)).is w [v] x.args, len := fun h => (by obtain ⟨v, rfl, _⟩ := h; rfl), mono := fun {w w' cs x} h g => (by obtain ⟨v, e, h0, h1, h2, h3⟩ := h; exact ⟨v, e, h0, h1, h2, (sliceC (pickC n)).mono h3 g⟩), bulk := fun x => intC.bulk x.kind + (intC.bulk x.from_ + (intC.bulk x.to_ + (sliceC (pickC n)).bulk x.args)) }
theorem pickC_size (n : Nat) : (pickC n).size = 4 := by cases n <;> rfl
theorem reads_pick : ∀ n : Nat, ReadsF (fun m => m ≤ n) Tryd.prog (pickC n) 24
 | 0 => by
  intro H enc w base spare held fuel cs x hF h
  obtain rfl : fuel = 0 := Nat.le_zero.1 hF
  simp [DataW.trod] at h
 | n + 1 => by
  intro H enc w base spare held fuel cs x hF h
  have hs : ReadsF (fun m => m ≤ n) Tryd.prog (sliceC (pickC n)) 22 := by
   have hr := reads_pick n
   exact reads_slice Tryd.underlying22 (c := pickC n) (by rw [pickC_size]; kernel_rfl) (by rw [pickC_size]; decide) (fun H enc w base spare held fuel cs x hF h => hr (show fuel ≤ n by have : fuel + 1 ≤ n := hF; omega) h)
  obtain ⟨a, h1, hb⟩ := (reads_struct4 (F := fun m => m ≤ n + 1) Tryd.underlying24 (c0 := intC) (c1 := intC) (c2 := intC) (c3 := sliceC (pickC n)) (by kernel_rfl) rfl rfl rfl rfl (by kernel_rfl) (by kernel_rfl) (by kernel_rfl) (by kernel_rfl)
   (reads_int Tryd.underlying3) (reads_int Tryd.underlying3) (reads_int Tryd.underlying3) (fun H enc w base spare held fuel cs x hF h => hs (show fuel ≤ n by have : fuel + 1 ≤ n + 1 := hF; omega) h)) hF h
  obtain ⟨a0, a1, a2, a3⟩ := a
  obtain ⟨h0, h1, h2, h3⟩ := h1
  obtain ⟨e0, b0⟩ := h0
  obtain ⟨e1, b1⟩ := h1
  obtain ⟨e2, b2⟩ := h2
  obtain ⟨s3, e3⟩ := List.length_eq_one_iff.1 ((sliceC (pickC n)).len h3); rw [e3] at h3
  have e102 := cells_split e2 e3
  have e101 := cells_split e1 e102
  have e100 := cells_split e0 e101
  exact ⟨.mk a0 a1 a2 a3, ⟨s3, by rw [e100]; rfl, b0, b1, b2, h3⟩, hb⟩
theorem pick_bulk : ∀ (n : Nat) {w : World} {cs : List Value} {p : PickD}, (pickC n).is w cs p → pSize p ≤ (pickC n).bulk p
 | 0, _, _, _, h => h.elim
 | n + 1, w, cs, p, h => by
  obtain ⟨v, _, _, _, _, h3⟩ := h
  have hl : ∀ q ∈ p.args, pSize q ≤ (pickC n).bulk q := by
   rcases h3 with ⟨_, e⟩ | ⟨b, off, sp, cap, _, _, _, h4⟩
   ·rw [e]; intro q hq; cases hq
   ·intro q hq
    obtain ⟨i, hi, rfl⟩ := List.getElem_of_mem hq
    obtain ⟨_, cs', _, h5⟩ := h4 i hi
    exact pick_bulk n h5
  have hsum : pSizes p.args ≤ (p.args.map (pickC n).bulk).sum := by
   rw [pSizes_sum]
   generalize p.args = l at hl
   induction l with
   | nil => simp
   | cons q l ih =>
    simp only [List.map_cons, List.sum_cons]
    have h1 := hl q (by simp)
    have h2 := ih (fun x hx => hl x (by simp [hx]))
    omega
  rw [pSize_eq]
  show _ ≤ intC.bulk p.kind + (intC.bulk p.from_ + (intC.bulk p.to_ + (sliceC (pickC n)).bulk p.args))
  simp only [intC, sliceC]
  omega
def groupC (n : Nat) : Cod GroupD where
 size := 5
 is := fun w cs g => ∃ ps : List Value, cs = Value.int .i64 g.number :: ps ∧ inI g.number ∧ (pickC n).is w ps g.pick
 len := fun h => by obtain ⟨ps, rfl, _, h2⟩ := h; have := (pickC n).len h2; rw [pickC_size] at this; simp [this]
 mono := fun {w w' cs x} h g => by obtain ⟨ps, e, h0, h1⟩ := h; exact ⟨ps, e, h0, (pickC n).mono h1 g⟩
 bulk := fun g => intC.bulk g.number + (pickC n).bulk g.pick
theorem reads_group (n : Nat) : ReadsF (fun m => m ≤ n) Tryd.prog (groupC n) 67 := by
 have h := reads_struct2 (F := fun m => m ≤ n) Tryd.underlying67 (c0 := intC) (c1 := pickC n) (by rw [pickC_size]; kernel_rfl) rfl rfl (by kernel_rfl) (by rw [pickC_size]; kernel_rfl)
  (reads_int Tryd.underlying3) (fun H enc w base spare held fuel cs x hF h => reads_pick n (show fuel ≤ n by have : fuel + 1 ≤ n := hF; omega) h)
 refine h.imp fun w cs a h => ?_
 obtain ⟨a0, a1⟩ := a
 obtain ⟨h0, h1⟩ := h
 obtain ⟨e0, b0⟩ := h0
 refine ⟨⟨a0, a1⟩, ⟨cs.drop 1, ?_, b0, h1⟩, Nat.le_refl _⟩
 exact (List.take_append_drop 1 cs).symm.trans (congrArg (· ++ cs.drop 1) e0)
theorem reads_groups (n : Nat) : ReadsF (fun m => m ≤ n) Tryd.prog (sliceC (groupC n)) 34 :=
 reads_slice Tryd.underlying34 (c := groupC n) (by kernel_rfl) (show 0 < 5 by decide) (fun H enc w base spare held fuel cs x hF h => reads_group n (show fuel ≤ n by have : fuel + 1 ≤ n := hF; omega) h)
theorem slice_mem {α : Type} {c : Cod α} {w : World} {cs : List Value} {l : List α} (h : (sliceC c).is w cs l) {x : α} (hx : x ∈ l) : ∃ cs', c.is w cs' x := by
 rcases h with ⟨_, e⟩ | ⟨b, off, sp, cap, _, _, _, h4⟩
 ·rw [e] at hx; cases hx
 ·obtain ⟨i, hi, rfl⟩ := List.getElem_of_mem hx
  obtain ⟨_, cs', _, h5⟩ := h4 i hi
  exact ⟨cs', h5⟩
theorem sum_map_le {α : Type} {f g : α → Nat} : ∀ {l : List α}, (∀ x ∈ l, f x ≤ g x) → (l.map f).sum ≤ (l.map g).sum
 | [], _ => Nat.le_refl _
 | x :: l, h => by
  rw [List.map_cons, List.map_cons, List.sum_cons, List.sum_cons]
  have := h x (by simp); have := sum_map_le (f := f) (g := g) (l := l) fun y hy => h y (by simp [hy])
  omega
theorem groups_bulk {n : Nat} {w : World} {cs : List Value} {l : List GroupD} (h : (sliceC (groupC n)).is w cs l) : (l.map fun g => pSize g.pick).sum ≤ (sliceC (groupC n)).bulk l := by
 show _ ≤ (l.map (groupC n).bulk).sum + 1
 have := sum_map_le (f := fun g : GroupD => pSize g.pick) (g := (groupC n).bulk) (l := l) fun g hg => by
  obtain ⟨cs', ps, _, _, h2⟩ := slice_mem h hg
  have := pick_bulk n h2
  show _ ≤ intC.bulk g.number + (pickC n).bulk g.pick
  omega
 omega
end Go.Proofs.YtkdafecbdncmiaaDoor

namespace Go.Proofs.YtkdafecbdncmiaaDoor
set_option linter.unusedSectionVars false
open Go.RowKit Go.Deep
set_option linter.unusedVariables false
set_option linter.unusedSimpArgs false
section
variable {c : RC}
theorem repL_nil : RepL c [] [] := by simp [RepL]
theorem repL_cons {a : AV} {v : Value} {l : List AV} {vs : List Value} (h : Rep c a v) (k : RepL c l vs) : RepL c (a :: l) (v :: vs) := by
 simp only [RepL]; exact ⟨v, vs, rfl, h, k⟩
theorem rep_int (k : IntKind) (n : Int) : Rep c (.int k n) (.int k n) := by simp [Rep]
theorem rep_bool (b : Bool) : Rep c (.bool b) (.bool b) := by simp [Rep]
theorem rep_str (s : ByteArray) : Rep c (.str s) (.string s) := by simp [Rep]
def RP {α : Type} (c : RC) (d : Cod α) (e : α → List AV) (ok : α → Prop) : Prop := ∀ cs x, d.is c.w cs x → RepL c (e x) cs ∧ ok x ∧ (∀ v ∈ cs, one1 v = true)
theorem repL_len : ∀ {l : List AV} {vs : List Value}, RepL c l vs → l.length = vs.length
 | [], vs, h => by simp only [RepL] at h; subst h; rfl
 | a :: l, vs, h => by
  simp only [RepL] at h
  obtain ⟨v, vs', rfl, _, h⟩ := h
  simp [repL_len h]
theorem repCs_of {b : Nat} : ∀ {l : List AV} {vs : List Value} {off : Nat}, RepL c l vs → (∀ v ∈ vs, one1 v = true) → (∀ j, j < vs.length → c.w.cell? ⟨b, off + j, none⟩ = vs[j]?) → RepCs c b off l
 | [], vs, off, h, _, _ => by simp [RepCs]
 | a :: l, vs, off, h, ho, hc => by
  simp only [RepL] at h
  obtain ⟨v, vs', rfl, h1, h2⟩ := h
  simp only [RepCs]
  refine ⟨⟨v, by simpa using hc 0 (by simp), ho v (by simp), h1⟩, repCs_of h2 (fun v hv => ho v (by simp [hv])) fun j hj => ?_⟩
  have := hc (j + 1) (by simpa using hj)
  rw [show off + 1 + j = off + (j + 1) by omega]
  simpa using this
theorem repEs_of {α : Type} {d : Cod α} {e : α → List AV} {ok : α → Prop} (H : RP c d e ok) {b sz : Nat} (hsz : d.size = sz) : ∀ {l : List α} {off : Nat}, (∀ (i : Nat) (x : α), l[i]? = some x → ∃ cs', (∀ j, j < d.size → c.w.cell? ⟨b, off + (i * d.size + j), none⟩ = cs'[j]?) ∧ d.is c.w cs' x) → RepEs c sz b off (l.map e) ∧ ∀ x ∈ l, ok x
 | [], off, h => by simp [RepEs]
 | x :: l, off, h => by
  obtain ⟨cs, h1, h2⟩ := h 0 x rfl
  obtain ⟨k1, k2, k3⟩ := H cs x h2
  have hl : cs.length = d.size := d.len h2
  obtain ⟨r1, r2⟩ := repEs_of H hsz (l := l) (off := off + sz) (fun i y hy => by
   obtain ⟨cs', q1, q2⟩ := h (i + 1) y (by simpa using hy)
   refine ⟨cs', fun j hj => ?_, q2⟩
   have := q1 j hj
   rw [← hsz]
   rwa [show off + d.size + (i * d.size + j) = off + ((i + 1) * d.size + j) by rw [Nat.succ_mul]; omega])
  refine ⟨?_, fun y hy => ?_⟩
  ·simp only [List.map_cons, RepEs]
   refine ⟨by rw [repL_len k1, hl, hsz], repCs_of k1 k3 fun j hj => ?_, r1⟩
   have := h1 j (by rw [← hl]; exact hj)
   simpa using this
  ·rcases List.mem_cons.1 hy with rfl | hy
   ·exact k2
   ·exact r2 y hy
theorem cell_in {w : World} {b off : Nat} {v : Value} (h : w.cell? ⟨b, off, none⟩ = some v) : b < w.heap.size := by
 rcases Nat.lt_or_ge b w.heap.size with k | k
 ·exact k
 ·simp [World.cell?, Array.getElem?_eq_none k] at h
theorem rp_slice {α : Type} {d : Cod α} {e : α → List AV} {ok : α → Prop} (hX : ∀ b, ¬ c.X b) (H : RP c d e ok) {sz : Nat} (hsz : d.size = sz) (h0 : 0 < sz) {v : Value} {l : List α} (h : (sliceC d).is c.w [v] l) : Rep c (sl sz e l) v ∧ okL ok l ∧ one1 v = true := by
 rcases h with ⟨h1, rfl⟩ | ⟨b, off, sp, cap, h1, h2, h3, h4⟩
 ·simp only [List.cons.injEq, and_true] at h1
  subst h1
  exact ⟨by simp [sl, Rep, h0], ⟨by simp, by simp⟩, rfl⟩
 ·simp only [List.cons.injEq, and_true] at h1
  subst h1
  have hes : sp = none ∨ l = [] := by
   cases l with
   | nil => exact .inr rfl
   | cons x l => exact .inl (h4 0 (by simp)).1
  have hh : ∀ (i : Nat) (x : α), l[i]? = some x → ∃ cs', (∀ j, j < d.size → c.w.cell? ⟨b, off + (i * d.size + j), none⟩ = cs'[j]?) ∧ d.is c.w cs' x := by
   intro i x hx
   obtain ⟨hi, hx⟩ := List.getElem?_eq_some_iff.1 hx
   subst hx
   exact (h4 i hi).2
  obtain ⟨r1, r2⟩ := repEs_of H hsz hh
  refine ⟨?_, ⟨by unfold maxLen at h3; unfold mxl; omega, r2⟩, rfl⟩
  simp only [sl, Rep]
  refine ⟨some ⟨b, off, sp⟩, cap, by simp, by simpa using h2, h0, ?_⟩
  rcases hes with rfl | rfl
  ·cases l with
   | nil => exact .inl rfl
   | cons x l =>
    refine .inr ⟨b, off, rfl, ?_, hX b, r1⟩
    obtain ⟨cs, q1, q2⟩ := hh 0 x rfl
    have hl : cs.length = d.size := d.len q2
    have := q1 0 (by omega)
    obtain ⟨y, hy⟩ : ∃ y, cs[0]? = some y := ⟨cs[0], List.getElem?_eq_getElem (by omega)⟩
    rw [hy] at this
    exact cell_in this
  ·exact .inl rfl
theorem one_nil : ∀ v ∈ ([] : List Value), one1 v = true := by simp
theorem one_cons {v : Value} {vs : List Value} (h : one1 v = true) (k : ∀ x ∈ vs, one1 x = true) : ∀ x ∈ v :: vs, one1 x = true := by
 intro x hx
 rcases List.mem_cons.1 hx with rfl | hx
 ·exact h
 ·exact k x hx
theorem rp_Range : RP c rangeC cRange okRange := by
 rintro cs x ⟨rfl, h0, h1, h2⟩
 exact ⟨(repL_cons (rep_int _ _) (repL_cons (rep_int _ _) (repL_cons (rep_str _) repL_nil))), ⟨h0, h1, (show okS _ by unfold okS mxl; have := h2; unfold maxLen at this; omega)⟩, (one_cons rfl (one_cons rfl (one_cons rfl one_nil)))⟩
theorem rp_Param (hX : ∀ b, ¬ c.X b) : RP c paramC cParam okParam := by
 rintro cs x ⟨v0, rfl, h0, h1, h2, h3, h4, h6⟩
 obtain ⟨r6, o6, n6⟩ := rp_slice hX rp_Range (sz := 3) rfl (by decide) h6
 exact ⟨(repL_cons (rep_str _) (repL_cons (rep_int _ _) (repL_cons (rep_int _ _) (repL_cons (rep_int _ _) (repL_cons (rep_int _ _) (repL_cons (rep_bool _) (repL_cons r6 repL_nil))))))), ⟨(show okS _ by unfold okS mxl; have := h0; unfold maxLen at this; omega), h1, h2, h3, h4, o6⟩, (one_cons rfl (one_cons rfl (one_cons rfl (one_cons rfl (one_cons rfl (one_cons rfl (one_cons n6 one_nil)))))))⟩
theorem rp_Profile (hX : ∀ b, ¬ c.X b) : RP c profileC cProfile okProfile := by
 rintro cs x ⟨v0, rfl, h0, h1, h2⟩
 obtain ⟨r2, o2, n2⟩ := rp_slice hX (rp_Param hX) (sz := 7) rfl (by decide) h2
 exact ⟨(repL_cons (rep_str _) (repL_cons (rep_int _ _) (repL_cons r2 repL_nil))), ⟨(show okS _ by unfold okS mxl; have := h0; unfold maxLen at this; omega), h1, o2⟩, (one_cons rfl (one_cons rfl (one_cons n2 one_nil)))⟩
theorem rp_Unit : RP c unitC cUnit okUnit := by
 rintro cs x ⟨rfl, h0, h1, h2, h3⟩
 exact ⟨(repL_cons (rep_int _ _) (repL_cons (rep_str _) (repL_cons (rep_int _ _) (repL_cons (rep_int _ _) repL_nil)))), ⟨h0, (show okS _ by unfold okS mxl; have := h1; unfold maxLen at this; omega), h2, h3⟩, (one_cons rfl (one_cons rfl (one_cons rfl (one_cons rfl one_nil))))⟩
theorem rp_Rig (hX : ∀ b, ¬ c.X b) : RP c rigC cRig okRig := by
 rintro cs x ⟨v0, v1, rfl, h0, h1⟩
 obtain ⟨r0, o0, n0⟩ := rp_slice hX (rp_Profile hX) (sz := 3) rfl (by decide) h0
 obtain ⟨r1, o1, n1⟩ := rp_slice hX rp_Unit (sz := 4) rfl (by decide) h1
 exact ⟨(repL_cons r0 (repL_cons r1 repL_nil)), ⟨o0, o1⟩, (one_cons n0 (one_cons n1 one_nil))⟩
theorem rp_Setting : RP c settingC cSetting okSetting := by
 rintro cs x ⟨rfl, h0, h1, h2⟩
 exact ⟨(repL_cons (rep_int _ _) (repL_cons (rep_str _) (repL_cons (rep_int _ _) repL_nil))), ⟨⟨h0, (show okS _ by unfold okS mxl; have := h1; unfold maxLen at this; omega)⟩, h2⟩, (one_cons rfl (one_cons rfl (one_cons rfl one_nil)))⟩
theorem rp_Preset (hX : ∀ b, ¬ c.X b) : RP c presetC cPreset okPreset := by
 rintro cs x ⟨v0, rfl, h0, h1, h2⟩
 obtain ⟨r2, o2, n2⟩ := rp_slice hX rp_Setting (sz := 3) rfl (by decide) h2
 exact ⟨(repL_cons (rep_int _ _) (repL_cons (rep_str _) (repL_cons r2 repL_nil))), ⟨h0, (show okS _ by unfold okS mxl; have := h1; unfold maxLen at this; omega), o2⟩, (one_cons rfl (one_cons rfl (one_cons n2 one_nil)))⟩
theorem rp_agg {α : Type} {d : Cod α} {e : α → List AV} {ok : α → Prop} (H : RP c d e ok) {cs : Array Value} {x : α} (h : d.is c.w cs.toList x) : Rep c (.agg (e x)) (.agg cs) ∧ ok x := by
 obtain ⟨h1, h2, h3⟩ := H _ _ h
 simp only [Rep]
 exact ⟨⟨cs, rfl, h1, h3⟩, h2⟩
end
end Go.Proofs.YtkdafecbdncmiaaDoor

namespace Go.Proofs.YtkdafecbdncmiaaDoor
set_option linter.unusedSectionVars false
open Go.RowKit Go.Deep
set_option linter.unusedVariables false
set_option linter.unusedSimpArgs false
section
variable {c : RC}
theorem rp_pick (hX : ∀ b, ¬ c.X b) : ∀ n : Nat, RP c (pickC n) cPick (fun _ => True)
 | 0 => fun cs x h => h.elim
 | n + 1 => by
  rintro cs x ⟨v, rfl, h0, h1, h2, h3⟩
  obtain ⟨r, o, k⟩ := rp_slice hX (rp_pick hX n) (sz := 4) (pickC_size n) (by decide) h3
  refine ⟨?_, trivial, one_cons rfl (one_cons rfl (one_cons rfl (one_cons k one_nil)))⟩
  rw [cPick_eq]
  exact repL_cons (rep_int _ _) (repL_cons (rep_int _ _) (repL_cons (rep_int _ _) (repL_cons r repL_nil)))
theorem rp_group (hX : ∀ b, ¬ c.X b) (n : Nat) : RP c (groupC n) cGroup (fun _ => True) := by
 rintro cs x ⟨ps, rfl, h0, h1⟩
 obtain ⟨r, _, k⟩ := rp_pick hX n ps x.pick h1
 refine ⟨?_, trivial, one_cons rfl k⟩
 rw [cGroup_pick]
 exact repL_cons (rep_int _ _) r
end
end Go.Proofs.YtkdafecbdncmiaaDoor

namespace Go.Proofs.YtkdafecbdncmiaaDoor
set_option linter.unusedSectionVars false
set_option linter.unusedSimpArgs false
set_option linter.unusedVariables false
open Go.ChangeShapes Go.WideShapes Go.ChangeAt Go.RowKit

theorem own : ownKnob Tryd.prog.godebug = none := by kernel_rfl
theorem laidOut : laidOutB Tryd.prog = true := by kernel_rfl

theorem trodAll_below {H : Type} {enc : TypeId × Value → H} {P : Program} (hl : laidOutB P = true) {W W' : World} (hb : Below W.heap.size W W') :
  ∀ {ts : List TypeId} {vs : List Value} {ds : List (DataW H)} {ps : List MemPlace}, (ts.all fun t => P.readableRec t && decide (t < P.types.size)) = true →
   DataW.TrodAll enc P W 0 (fun _ => true) true ts vs ds ps → (∀ x ∈ ps, x.block < W.heap.size) → DataW.TrodAll enc P W' 0 (fun b => decide (b < W.heap.size)) true ts vs ds ps
 | [], [], [], _, _, h, _ => h
 | t :: ts, v :: vs, d :: ds, ps, hts, h, hlt => by
  obtain ⟨p, q, h1, h2, rfl⟩ := h
  simp only [List.all_cons, Bool.and_eq_true, decide_eq_true_eq] at hts
  exact ⟨p, q, Below.trod hl hts.1.1 hts.1.2 h1 hb (fun x hx => hlt x (List.mem_append_left _ hx)),
   trodAll_below hl hb (by simpa using hts.2) h2 (fun x hx => hlt x (List.mem_append_right _ hx)), rfl⟩
 | [], _ :: _, _, _, _, h, _ => h.elim
 | [], [], _ :: _, _, _, h, _ => h.elim
 | _ :: _, [], _, _, _, h, _ => h.elim
 | _ :: _, _ :: _, [], _, _, h, _ => h.elim

theorem law_post {H : Type} {enc : TypeId × Value → H} {f : Func} {s : ChangeSpec} {W W' : World} {args : Array Value} {ds gs : List (DataW H)} {before : List MemPlace} {t : TypeId}
  (hts : (f.params.toList.all fun t => Tryd.prog.readableRec t && decide (t < Tryd.prog.types.size)) = true) (hrt : f.resultTypes = #[t]) (ht : Tryd.prog.underlying t = some .bool) (hvs : s.vars = [])
  (hW : DataW.Whole enc Tryd.prog f.params.toList s.vars false W args.toList ds gs before) (hb : Below W.heap.size W W')
  (hspec : s.fn H (ds ++ gs) = { results := [.lit (.bool true)], args := ds }) :
  s.post enc Tryd.prog f false true false false W args (.bool true) W' := by
 have hW' := hW
 obtain ⟨p, q, hA, hV, rfl, hfz, hnd⟩ := hW
 have hlt : ∀ x ∈ p ++ q, x.block < W.heap.size := fun x hx => hW'.lt x hx
 refine ⟨ds, gs, p ++ q, [], p, [], hW', ?_, ?_, ?_, hb.frame _, fun h => by cases h⟩
 ·rw [hspec, hrt]
  exact trodAll_cons_mk (shut_bool ht _) trodAll_mk0
 ·rw [hspec]
  exact trodAll_below laidOut hb hts hA (fun x hx => hlt x (List.mem_append_left _ hx))
 ·rw [hspec, hvs]
  exact rfl
end Go.Proofs.YtkdafecbdncmiaaDoor

namespace Go.Proofs.YtkdafecbdncmiaaDoor
set_option linter.unusedSectionVars false
set_option linter.unusedSimpArgs false
set_option linter.unusedVariables false
open Go.RowKit
noncomputable def base (W : World) : RC := ctx ⟨W, [], fun _ => False, nmT⟩ W [] nopb
theorem base_X (W : World) : ∀ b, ¬ (base W).X b := by
 rintro b (k | ⟨p, hp, _⟩ | ⟨i, k⟩)
 ·exact k
 ·cases hp
 ·cases k
theorem law_runT {n : FuncId} {m : List AV → Heap → Option (AV × Heap)} {avs : List AV} (hs : Sound Tryd.prog nmT n m) (hc : ∀ us w, (callFunc n us).run Tryd.prog w = .ok (.enter n us) w) (W : World) (hT : tabOk W (fun _ => False)) (vs : Array Value) (hr : RepL (base W) avs vs.toList) (hm : m avs [] = some (.bool true, [])) :
  Calls Tryd.prog n vs W fun e W' => e = .returned (.bool true) ∧ Below W.heap.size W W' := by
 have hZ : ZLt ⟨W, [], fun _ => False, nmT⟩ := ⟨fun _ (k : False) => k.elim, hT.to (Nat.le_refl _) (fun _ _ _ => rfl) fun b _ k => by rcases k with k | ⟨p, hp, _⟩; exact k; cases hp⟩
 have hh0 : HeapRel (ctx ⟨W, [], fun _ => False, nmT⟩ W [] nopb) [] := by
  refine ⟨rfl, fun i j p q hp => ?_, fun i p x hp => ?_⟩
  ·simp [ctx] at hp
  ·simp [ctx] at hp
 rcases hs _ _ _ _ hm with ⟨g, h1, h2⟩ | hv
 case inr =>
  obtain ⟨v, w', E', k1, _⟩ := hv ⟨W, [], fun _ => False, nmT⟩ vs rfl hZ hh0 hr
  rw [hc] at k1
  injection k1 with k1
  cases k1
 have hg : g = n := by
  have e1 := h1 #[] W
  rw [hc #[] W] at e1
  injection e1 with e1
  injection e1 with e1
  exact e1.symm
 subst hg
 have hh : HeapRel (ctx ⟨W, [], fun _ => False, nmT⟩ W [] nopb) [] := by
  refine ⟨rfl, fun i j p q hp => ?_, fun i p x hp => ?_⟩
  ·simp [ctx] at hp
  ·simp [ctx] at hp
 refine (h2 ⟨W, [], fun _ => False, nmT⟩ vs rfl hZ hh hr).mono ?_
 rintro e w' ⟨v, E', rfl, ho, _, hv⟩
 simp only [Rep] at hv
 subst hv
 exact ⟨rfl, ho.os, ho.tape, ho.output, ho.size, fun k hk => ho.stay k hk (fun p hp => by cases hp)⟩
end Go.Proofs.YtkdafecbdncmiaaDoor

namespace Go.Proofs.YtkdafecbdncmiaaDoor
set_option linter.unusedSectionVars false
set_option linter.unusedSimpArgs false
open Go.ChangeShapes Go.WideShapes Go.ChangeAt Go.RowKit
set_option linter.unusedVariables false
mutual
def flatD : DataW Unit → List Value
 | .lit (.int k z) => [.int k z]
 | .agg l => flatDs l
 | _ => []
def flatDs : List (DataW Unit) → List Value
 | [] => []
 | d :: l => flatD d ++ flatDs l
end
def layD (d : DataW Unit) : Obj → Obj
 | .cells _ t fr => .cells (flatD d).toArray t fr
 | o => o
theorem typePow : (Tryd.prog.globals[1]?).map (·.type) = some 170 := by kernel_rfl
theorem tabOk_of {W : World} (h : Lib.TabIs Tryd.prog W "internal/strconv.uint64pow10" .u64 Lib.pow10Tab) : tabOk W (fun _ => False) := by
 refine ⟨h, ?_, id⟩
 unfold Lib.TabIs World.var? at h
 rw [gPow, Option.bind_some] at h
 split at h
 ·rename_i k; exact (Array.getElem?_eq_some_iff.1 k).1
 ·cases h
end Go.Proofs.YtkdafecbdncmiaaDoor

