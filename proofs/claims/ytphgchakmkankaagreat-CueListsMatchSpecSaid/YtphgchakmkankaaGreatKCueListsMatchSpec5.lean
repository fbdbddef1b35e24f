/- Parts of the proof of CueListsMatchSpec, in order. -/
import Derived.Orders
import Derived.Below
import Derived.WalkKit
import Derived.Laws.StructEq
import Derived.Laws.Append
import Derived.Laws.AppendOwn
import Derived.Test.YtphgchakmkankaaGreatRows
import Derived.KernelRfl
import Derived.Lib.Bytealg
import Derived.Sort.Defs
import Derived.Lib.BitFns
import Derived.Test.YtphgchakmkankaaGreatShelf
import Derived.Lib.Overlaps
import Derived.IntWalk
import Derived.Sort.Statements
import Derived.Shelf.SlSortCmp.WholeK
import Derived.Shelf.SlSortCmp.NoneTotal
import Derived.Sort.AssemblyPlain
import Derived.Lib.Strings
import Derived.Test.YtphgchakmkankaaGreatKCueListsMatchSpec4
namespace Go.Proofs.YtphgchakmkankaaGreat
set_option linter.unusedSectionVars false
set_option linter.unusedVariables false
set_option linter.unusedSimpArgs false
theorem isLevelF_eq (n : Int) (σ : Heap) : m_fixture_isLevel [.int .i64 n] σ = some (.bool (withinB n 0 65535), σ) := by
 refine wrap_eq rfl ?_ rfl
 show r_fixture_isLevel _ σ = _
 unfold r_fixture_isLevel
 simp only [MSb, reduceCtorEq, Within_eq]
theorem checkRanges_eq (l : List RangeD) (hok : okL okRange l) (σ : Heap) : m_fixture_checkRanges [sl 3 cRange l] σ = some (.int .i64 (rangesF l), σ) := by
 refine wrap_eq rfl ?_ rfl
 show r_fixture_checkRanges (sl 3 cRange l) σ = _
 unfold r_fixture_checkRanges rangesF
 simp only [MSb, reduceCtorEq]
 by_cases h30 : 30 < l.length
 ·have h30' : (30 : Int) < l.length := by omega
  simp only [MSb, reduceCtorEq, h30, h30']
 ·have h30' : ¬ (30 : Int) < l.length := by omega
  simp only [MSb, reduceCtorEq, h30, h30']
  refine (loop_pre (S := Unit) (R := Int) l (fun pre x _ =>
    if withinB x.low 0 65535 = false ∨ withinB x.high 0 65535 = false ∨ x.high < x.low then .out 1
    else if 0 < pre.length ∧ x.low ≤ (pre.getLast?.map (·.high)).getD 0 then .out 7
    else if nameB x.name = false then .out 5
    else if memB x.name (pre.map (·.name)) = true then .out 6 else .go ())
   (fun pre _ => [.int .i64 0, .int .i64 (pre.length : Int)]) (fun pre _ => σ ++ [Blk.map (setZ (·.name) pre)])
   (fun _ => (.exit 0, [.int .i64 0, .int .i64 (l.length : Int)], σ ++ [Blk.map (setZ (·.name) l)])) (fun pre _ r => (.ret, [.int .i64 r, .int .i64 (pre.length : Int)], σ ++ [Blk.map (setZ (·.name) pre)]))
   (fun _ _ => True) () (fun _ => some (AV.int .i64 0, σ)) (fun r => some (AV.int .i64 r, σ)) ?_ ?_ trivial (fun _ _ _ _ _ _ _ _ => trivial) ?_ ?_).trans ?_
  ·intro pre x rest u hl _
   have hx := pre_get hl
   have hlt := pre_lt hl
   have hi1 : IntKind.i64.wrap ((pre.length : Int) + 1) = (pre.length : Int) + 1 := wrap64 (by unfold inI; omega)
   have hi2 : IntKind.i64.wrap ((pre.length : Int) - 1) = (pre.length : Int) - 1 := wrap64 (by unfold inI; omega)
   have hlt' : (pre.length : Int) < (l.length : Int) := by omega
   have hnm := (hok.2 x (by rw [hl]; simp)).2.2
   have hia := iaddr_sl 3 cRange l hx
   have hN := Name_eq _ hnm
   by_cases h0 : 0 < pre.length
   ·obtain ⟨y, hy, hy2⟩ := pre_last hl h0
    have hia2 := iaddr_pred 3 cRange l h0 hy2
    have h0' : (0 : Int) < pre.length := by omega
    clear hl hx hlt hok h30 h30' hy2 hnm
    simp only [MSb, reduceCtorEq, p1_cRange_0, p1_cRange_1, p1_cRange_2, pA_cRange, ce_cRange, sp_cRange, hlt', hia, isLevelF_eq, hi1, hi2, hN, h0', hy, h0]
    repeat' ((first | rw [gDp] | rw [gDb] | rw [cDp] | rw [cDnp] | rw [cDn] | rw [cDb]); split <;> try simp only [MSb, reduceCtorEq, p1_cRange_0, p1_cRange_1, p1_cRange_2, pA_cRange, ce_cRange, sp_cRange, isLevelF_eq, *])
    all_goals first | with_reducible rfl | (simp [*]; done) | (simp_all; done) | (simp_all; omega) | rfl
   ·have h0' : ¬ (0 : Int) < pre.length := by omega
    clear hl hx hlt hok h30 h30' hnm
    simp only [MSb, reduceCtorEq, p1_cRange_0, p1_cRange_1, p1_cRange_2, pA_cRange, ce_cRange, sp_cRange, hlt', hia, isLevelF_eq, hi1, hi2, hN, h0', h0]
    repeat' ((first | rw [gDp] | rw [gDb] | rw [cDp] | rw [cDnp] | rw [cDn] | rw [cDb]); split <;> try simp only [MSb, reduceCtorEq, p1_cRange_0, p1_cRange_1, p1_cRange_2, pA_cRange, ce_cRange, sp_cRange, isLevelF_eq, *])
    all_goals first | with_reducible rfl | (simp [*]; done) | (simp_all; done) | (simp_all; omega) | rfl
  ·intro u _
   simp only [MSb, reduceCtorEq, Int.lt_irrefl]
  ·intro u _; simp only [MSb, reduceCtorEq]
  ·intros; simp only [MSb, reduceCtorEq]
  ·refine (runP_fault (chk := chkR) ?_ ?_ (fun n => some (AV.int .i64 n, σ)) l []).trans ?_
   ·intro pre; rfl
   ·intro pre x rest; rw [chkR]; simp only [el_ite, el_out, el_go]
   ·rfl

theorem CheckProfile_eq (p : ProfileD) (hok : okProfile p) (σ : Heap) : m_fixture_CheckProfile [.agg (cProfile p)] σ = some (.int .i64 (profileF p), σ) := by
 refine wrap_eq rfl ?_ rfl
 show r_fixture_CheckProfile (.agg (cProfile p)) σ = _
 obtain ⟨pn, ps, l⟩ := p
 obtain ⟨hnm, hps, hokl⟩ := hok
 simp only at hnm hps hokl
 have hN := Name_eq _ hnm
 unfold r_fixture_CheckProfile profileF
 simp only [MSb, reduceCtorEq, p1_cProfile_0, p1_cProfile_1, p1_cProfile_2, pA_cProfile, ce_cProfile, sp_cProfile, hN, Within_eq]
 cases hn : nameB pn
 ·simp only [MSb, reduceCtorEq]
 cases hz : withinB ps 1 512
 ·simp only [MSb, reduceCtorEq]
 by_cases h0 : l.length = 0
 ·obtain rfl : l = [] := List.eq_nil_of_length_eq_zero h0
  simp [MSb, reduceCtorEq]
 have h0' : ¬ (l.length : Int) = 0 := by omega
 by_cases h40 : 40 < l.length
 ·have h40' : (40 : Int) < l.length := by omega
  simp only [MSb, reduceCtorEq, h0, h0', h40, h40']
 have h40' : ¬ (40 : Int) < l.length := by omega
 simp only [MSb, reduceCtorEq, h0, h0', h40, h40']
 refine (loop_pre (S := Unit) (R := Int) l (fun pre x _ =>
   if nameB x.name = false then .out 5
   else if memB x.name (pre.map (·.name)) = true then .out 6
   else if withinB x.group 1 4 = false then .out 4
   else if withinB x.att 1 ps = false ∨ withinB x.fine 0 ps = false ∨ withinB x.default 0 65535 = false then .out 1
   else if x.att = x.fine ∨ memB x.att (slotsOf pre) = true ∨ (0 < x.fine ∧ memB x.fine (slotsOf pre) = true) then .out 12
   else if rangesF x.ranges = 0 then .go () else .out (rangesF x.ranges))
  (fun pre _ => [.lbx (cProfile ⟨pn, ps, l⟩), .int .i64 0, .int .i64 (pre.length : Int)]) (fun pre _ => σ ++ [Blk.map (setZ (·.name) pre), Blk.map (setI id (slotsOf pre))])
  (fun _ => (.exit 1, [.lbx (cProfile ⟨pn, ps, l⟩), .int .i64 0, .int .i64 (l.length : Int)], σ ++ [Blk.map (setZ (·.name) l), Blk.map (setI id (slotsOf l))]))
  (fun pre _ r => (.ret, [.lbx (cProfile ⟨pn, ps, l⟩), .int .i64 r, .int .i64 (pre.length : Int)], σ ++ [Blk.map (setZ (·.name) pre), Blk.map (setI id (slotsOf pre))]))
  (fun _ _ => True) () (fun _ => some (AV.int .i64 0, σ)) (fun r => some (AV.int .i64 r, σ)) ?_ ?_ trivial (fun _ _ _ _ _ _ _ _ => trivial) ?_ ?_).trans ?_
 ·intro pre x rest u hl _
  have hx := pre_get hl; have hlt := pre_lt hl; have hi1 : IntKind.i64.wrap ((pre.length : Int) + 1) = (pre.length : Int) + 1 := wrap64 (by unfold inI; omega); have hi2 : IntKind.i64.wrap ((pre.length : Int) - 1) = (pre.length : Int) - 1 := wrap64 (by unfold inI; omega); have hlt' : (pre.length : Int) < (l.length : Int) := by omega
  obtain ⟨k1, k2, k3, k4, k5, k6⟩ := hokl.2 x (by rw [hl]; simp)
  have hNx := Name_eq _ k1
  have hRx := checkRanges_eq _ k6
  have hia := iaddr_sl 7 cParam l hx
  clear hl hx hlt hokl h40 h40' h0 h0' k1 k2 k3 k4 k5 k6 hnm hps hN hn hz
  simp only [MSb, reduceCtorEq, p1_cParam_0, p1_cParam_1, p1_cParam_2, p1_cParam_3, p1_cParam_4, p1_cParam_5, p1_cParam_6, pA_cParam, ce_cParam, sp_cParam, p1_cProfile_0, p1_cProfile_1, p1_cProfile_2, pA_cProfile, ce_cProfile, sp_cProfile, hlt', hia, Within_eq, isLevelF_eq, hi1, hi2, hNx, hRx, List.map_id]
  repeat' ((first | rw [gDp] | rw [gDb] | rw [cDp] | rw [cDnp] | rw [cDn] | rw [cDb]); split <;> try simp only [MSb, reduceCtorEq, p1_cParam_0, p1_cParam_1, p1_cParam_2, p1_cParam_3, p1_cParam_4, p1_cParam_5, p1_cParam_6, pA_cParam, ce_cParam, sp_cParam, p1_cProfile_0, p1_cProfile_1, p1_cProfile_2, pA_cProfile, ce_cProfile, sp_cProfile, Within_eq, isLevelF_eq, List.map_id, setI_fold, memB_snoc, Bool.or_false, *])
  all_goals first | rfl | (simp_all; done) | (simp_all [slotsOf_snoc, setI_fold]; done) | (simp only [slotsOf_snoc, ite_false, ite_true, if_false, if_true, *] <;> simp_all)
 ·intro u _
  simp only [MSb, reduceCtorEq, Int.lt_irrefl]
 ·intro u _; simp only [MSb, reduceCtorEq]
 ·intros; simp only [MSb, reduceCtorEq]
 ·refine (runP_fault (chk := chkP ps) ?_ ?_ (fun n => some (AV.int .i64 n, σ)) l []).trans ?_
  ·intro pre; rfl
  ·intro pre x rest; rw [chkP]; simp only [el_ite, el_out, el_go]
  ·rfl
theorem CheckLibrary_eq (l : List ProfileD) (hok : okL okProfile l) (σ : Heap) : m_fixture_CheckLibrary [sl 3 cProfile l] σ = some (.int .i64 (libF l), σ) := by
 refine wrap_eq rfl ?_ rfl
 show r_fixture_CheckLibrary (sl 3 cProfile l) σ = _
 unfold r_fixture_CheckLibrary libF
 simp only [MSb, reduceCtorEq]
 by_cases h60 : 60 < l.length
 ·have h60' : (60 : Int) < l.length := by omega
  simp only [MSb, reduceCtorEq, h60, h60']
 have h60' : ¬ (60 : Int) < l.length := by omega
 simp only [MSb, reduceCtorEq, h60, h60']
 refine (loop_pre (S := Unit) (R := Int) l (fun pre x _ => if profileF x = 0 then (if memB x.name (pre.map (·.name)) = true then .out 6 else .go ()) else .out (profileF x))
  (fun pre _ => [.int .i64 0, .int .i64 (pre.length : Int)]) (fun pre _ => σ ++ [Blk.map (setZ (·.name) pre)])
  (fun _ => (.exit 0, [.int .i64 0, .int .i64 (l.length : Int)], σ ++ [Blk.map (setZ (·.name) l)])) (fun pre _ r => (.ret, [.int .i64 r, .int .i64 (pre.length : Int)], σ ++ [Blk.map (setZ (·.name) pre)]))
  (fun _ _ => True) () (fun _ => some (AV.int .i64 0, σ)) (fun r => some (AV.int .i64 r, σ)) ?_ ?_ trivial (fun _ _ _ _ _ _ _ _ => trivial) ?_ ?_).trans ?_
 ·intro pre x rest u hl _
  have hx := pre_get hl; have hlt := pre_lt hl; have hi1 : IntKind.i64.wrap ((pre.length : Int) + 1) = (pre.length : Int) + 1 := wrap64 (by unfold inI; omega); have hi2 : IntKind.i64.wrap ((pre.length : Int) - 1) = (pre.length : Int) - 1 := wrap64 (by unfold inI; omega); have hlt' : (pre.length : Int) < (l.length : Int) := by omega
  have hP := CheckProfile_eq x (hok.2 x (by rw [hl]; simp))
  have hia := iaddr_sl 3 cProfile l hx
  clear hl hx hlt hok h60 h60'
  simp only [MSb, reduceCtorEq, p1_cProfile_0, p1_cProfile_1, p1_cProfile_2, pA_cProfile, ce_cProfile, sp_cProfile, hlt', hia, hi1, hP]
  repeat' ((first | rw [gDp] | rw [gDb] | rw [cDp] | rw [cDnp] | rw [cDn] | rw [cDb]); split <;> try simp only [MSb, reduceCtorEq, p1_cProfile_0, p1_cProfile_1, p1_cProfile_2, pA_cProfile, ce_cProfile, sp_cProfile, *])
  all_goals first | with_reducible rfl | (simp [*]; done) | (simp_all; done) | (simp_all; omega) | rfl
 ·intro u _
  simp only [MSb, reduceCtorEq, Int.lt_irrefl]
 ·intro u _; simp only [MSb, reduceCtorEq]
 ·intros; simp only [MSb, reduceCtorEq]
 ·refine (runP_fault (chk := chkL) ?_ ?_ (fun n => some (AV.int .i64 n, σ)) l []).trans ?_
  ·intro pre; rfl
  ·intro pre x rest; rw [chkL]; simp only [el_ite, el_out, el_go]
  ·rfl
end Go.Proofs.YtphgchakmkankaaGreat

namespace Go.Proofs.YtphgchakmkankaaGreat
set_option linter.unusedSectionVars false
set_option linter.unusedVariables false
set_option linter.unusedSimpArgs false
theorem idxI_any {α : Type} (p : α → Bool) (l : List α) : decide (0 ≤ idxI p l) = l.any p := by
 rcases idxI_cases p l with ⟨h1, h2, _⟩ | ⟨k, x, h1, h2, h3, _⟩
 ·rw [h1, Bool.eq_iff_iff]
  simp only [decide_eq_true_eq, List.any_eq_true]
  exact ⟨fun h => by omega, fun ⟨x, hx, hp⟩ => by rw [h2 x hx] at hp; cases hp⟩
 ·rw [h3, Bool.eq_iff_iff]
  simp only [decide_eq_true_eq, List.any_eq_true]
  exact ⟨fun _ => ⟨x, List.mem_of_getElem? h1, h2⟩, fun _ => by omega⟩
theorem m_slices_IndexFunc_api_Profile_eq (dyn : Nat → List AV → Heap → Option (AV × Heap)) (l : List ProfileD) (hl : l.length ≤ mxl) (n : Nat) (caps : List AV) (p : ProfileD → Bool) (σ : Heap) (hd : ∀ x ∈ l, dyn n ((.agg (cProfile x) : AV) :: caps) σ = some (.bool (p x), σ)) : m_slices_IndexFunc_api_Profile dyn [sl 3 cProfile l, .fn n caps] σ = some (.int .i64 (idxI p l), σ) := by
 refine wrap_eq rfl ?_ rfl
 show r_slices_IndexFunc_api_Profile dyn (sl 3 cProfile l) (.fn n caps) σ = _
 unfold r_slices_IndexFunc_api_Profile
 simp only [MSb, reduceCtorEq]
 refine (loop_pre (S := Unit) (R := Int) l (fun pre x _ => if p x = true then .out (pre.length : Int) else .go ())
  (fun pre _ => [.int .i64 0, .int .i64 (pre.length : Int)]) (fun _ _ => σ) (fun _ => (.exit 0, [.int .i64 0, .int .i64 (l.length : Int)], σ)) (fun pre _ r => (.ret, [.int .i64 (pre.length : Int), .int .i64 (pre.length : Int)], σ))
  (fun _ _ => True) () (fun _ => some (AV.int .i64 (-1), σ)) (fun r => some (AV.int .i64 r, σ)) ?_ ?_ trivial (fun _ _ _ _ _ _ _ _ => trivial) ?_ ?_).trans ?_
 ·intro pre x rest u hl' _
  have hx := pre_get hl'
  have hlt := pre_lt hl'
  have hi1 : IntKind.i64.wrap ((pre.length : Int) + 1) = (pre.length : Int) + 1 := wrap64 (by unfold inI; unfold mxl at hl; omega)
  have hlt' : (pre.length : Int) < (l.length : Int) := by omega
  have hia := iaddr_sl 3 cProfile l hx
  have hdx := hd x (by rw [hl']; simp)
  simp only [MSb, reduceCtorEq, p1_cProfile_0, p1_cProfile_1, p1_cProfile_2, pA_cProfile, ce_cProfile, sp_cProfile, hlt', hia, A.callv, List.cons_append, List.nil_append, hdx, hi1]
  cases p x <;> simp [MSb, reduceCtorEq]
 ·intro u _; simp only [MSb, reduceCtorEq, Int.lt_irrefl]
 ·intro u _; simp only [MSb, reduceCtorEq]
 ·intro pre x rest s q hl' _ hb
  have : q = (pre.length : Int) := by
   cases hpx : p x
   ·rw [hpx] at hb; cases hb
   ·rw [hpx] at hb; simp at hb; exact hb.symm
  simp only [MSb, reduceCtorEq, this]
 ·rw [idxI_run p _ _ l [] (by simp)]
  simp only [List.nil_append]
  split
  ·rename_i h; rw [h]
  ·rfl
theorem m_slices_Index_int_eq (l : List Int) (hl : l.length ≤ mxl) (k : Int) (σ : Heap) : m_slices_Index_int [sl 1 cInt l, .int .i64 k] σ = some (.int .i64 (idxI (fun x => decide (k = x)) l), σ) := by
 refine wrap_eq rfl ?_ rfl
 show r_slices_Index_int (sl 1 cInt l) (.int .i64 k) σ = _
 unfold r_slices_Index_int
 simp only [MSb, reduceCtorEq]
 refine (loop_pre (S := Unit) (R := Int) l (fun pre x _ => if (fun x => decide (k = x)) x = true then .out (pre.length : Int) else .go ())
  (fun pre _ => [.int .i64 0, .int .i64 (pre.length : Int)]) (fun _ _ => σ) (fun _ => (.exit 0, [.int .i64 0, .int .i64 (l.length : Int)], σ)) (fun pre _ r => (.ret, [.int .i64 (pre.length : Int), .int .i64 (pre.length : Int)], σ))
  (fun _ _ => True) () (fun _ => some (AV.int .i64 (-1), σ)) (fun r => some (AV.int .i64 r, σ)) ?_ ?_ trivial (fun _ _ _ _ _ _ _ _ => trivial) ?_ ?_).trans ?_
 ·intro pre x rest u hl' _
  have hx := pre_get hl'
  have hlt := pre_lt hl'
  have hi1 : IntKind.i64.wrap ((pre.length : Int) + 1) = (pre.length : Int) + 1 := wrap64 (by unfold inI; unfold mxl at hl; omega)
  have hlt' : (pre.length : Int) < (l.length : Int) := by omega
  have hia := iaddr_sl 1 cInt l hx
  simp only [MSb, reduceCtorEq, hlt', hia, hi1]
  by_cases hk : k = x <;> simp [MSb, reduceCtorEq, hk]
 ·intro u _; simp only [MSb, reduceCtorEq, Int.lt_irrefl]
 ·intro u _; simp only [MSb, reduceCtorEq]
 ·intro pre x rest s q hl' _ hb
  have : q = (pre.length : Int) := by
   by_cases hk : k = x
   ·simp [hk] at hb; exact hb.symm
   ·simp [hk] at hb
  simp only [MSb, reduceCtorEq, this]
 ·rw [idxI_run (fun x => decide (k = x)) _ _ l [] (by simp)]
  simp only [List.nil_append]
  split
  ·rename_i h; rw [h]
  ·rfl
theorem m_slices_Contains_int_eq (l : List Int) (hl : l.length ≤ mxl) (k : Int) (σ : Heap) : m_slices_Contains_int [sl 1 cInt l, .int .i64 k] σ = some (.bool (l.any fun x => decide (k = x)), σ) := by
 refine wrap_eq rfl ?_ rfl
 show r_slices_Contains_int (sl 1 cInt l) (.int .i64 k) σ = _
 unfold r_slices_Contains_int
 simp only [MSb, reduceCtorEq, m_slices_Index_int_eq l hl k σ]
 refine congrArg some (congrArg (fun b => (AV.bool b, σ)) ?_)
 exact idxI_any _ l
end Go.Proofs.YtphgchakmkankaaGreat

namespace Go.Proofs.YtphgchakmkankaaGreat
set_option linter.unusedSectionVars false
set_option linter.unusedVariables false
set_option linter.unusedSimpArgs false
theorem profOf_find (nm : ByteArray) : ∀ (l : List ProfileD), profOf nm l = match l.find? (fun x : ProfileD => decide (x.name = nm)) with | some p => (p, true) | none => (⟨⟨#[]⟩, 0, []⟩, false)
 | [] => rfl
 | p :: l => by
  rw [profOf]
  by_cases h : p.name = nm
  ·simp [h]
  ·simp [h, profOf_find nm l]
theorem profile_fn1_eq (x : ProfileD) (nm : ByteArray) (σ : Heap) : m_fixture_profile_fn1 [.agg (cProfile x), .rp [.str nm]] σ = some (.bool (decide (x.name = nm)), σ) := by
 refine wrap_eq rfl ?_ rfl
 show r_fixture_profile_fn1 (.agg (cProfile x)) (.rp [.str nm]) σ = _
 unfold r_fixture_profile_fn1
 simp only [MSb, reduceCtorEq, p1_cProfile_0, p1_cProfile_1, p1_cProfile_2, pA_cProfile, ce_cProfile, sp_cProfile]
 show (some (AV.str nm)).bind _ = _
 simp only [MSb, reduceCtorEq]
theorem nnP (x : ParamD) : A.nnL [.k, .k, .k, .k, .k, .k, (.s 3)] (cParam x) = cParam x := rfl
theorem nnProf (p : ProfileD) (b : Bool) : A.nn (.t [(.a [.k, .k, (.e 7 [.k, .k, .k, .k, .k, .k, (.s 3)])]), .k]) (.tup [.agg (cProfile p), .bool b]) = .tup [.agg (cProfile p), .bool b] := by
 show AV.tup [.agg [.str p.name, .int .i64 p.size, A.nn (.e 7 [.k, .k, .k, .k, .k, .k, (.s 3)]) (sl 7 cParam p.params)], .bool b] = _
 rw [nn_e nnP]; rfl
theorem profile_eq (l : List ProfileD) (hl : l.length ≤ mxl) (nm : ByteArray) (σ : Heap) : m_fixture_profile [sl 3 cProfile l, .str nm] σ = some (.tup [.agg (cProfile (profOf nm l).1), .bool (profOf nm l).2], σ) := by
 have key : ∃ w, r_fixture_profile (sl 3 cProfile l) (.str nm) σ = some (w, σ) ∧ A.nn (.t [(.a [.k, .k, (.e 7 [.k, .k, .k, .k, .k, .k, (.s 3)])]), .k]) w = .tup [.agg (cProfile (profOf nm l).1), .bool (profOf nm l).2] := by
  unfold r_fixture_profile
  simp only [MSb, reduceCtorEq]
  rw [m_slices_IndexFunc_api_Profile_eq _ l hl 64 [.rp [.str nm]] (fun x => decide (x.name = nm)) σ (fun x _ => profile_fn1_eq x nm σ)]
  simp only [MSb, reduceCtorEq]
  rw [profOf_find]
  rcases idxI_cases (fun x : ProfileD => decide (x.name = nm)) l with ⟨h1, _, h3⟩ | ⟨k, x, h1, h2, h3, h4, _⟩
  ·refine ⟨.tup [.agg [.str ⟨#[]⟩, .int .i64 0, .nsl], .bool false], ?_, ?_⟩
   ·rw [h1]
    simp only [MSb, reduceCtorEq, show ((-1 : Int) < 0) from by decide]
    rfl
   ·rw [h3]; rfl
  ·refine ⟨.tup [.agg (cProfile x), .bool true], ?_, ?_⟩
   ·rw [h3]
    simp only [MSb, reduceCtorEq, p1_cProfile_0, p1_cProfile_1, p1_cProfile_2, pA_cProfile, ce_cProfile, sp_cProfile, show ¬ ((k : Int) < 0) from by omega, iaddr_sl 3 cProfile l h1]
   ·rw [h4]; exact nnProf x true
 obtain ⟨w, h1, h2⟩ := key
 exact wrap_eq rfl h1 h2
theorem Profile2_eq (l : List ProfileD) (hl : l.length ≤ mxl) (nm : ByteArray) (σ : Heap) : m_R2_Profile [sl 3 cProfile l, .str nm] σ = some (.tup [.agg (cProfile (profOf nm l).1), .bool (profOf nm l).2], σ) := by
 refine wrap_eq (v := .tup [.agg (match l.find? (fun x : ProfileD => decide (x.name = nm)) with | some p => cProfile p | none => [.str ⟨#[]⟩, .int .i64 0, .nsl]), .bool (profOf nm l).2]) rfl ?_ ?_
 ·show r_R2_Profile (sl 3 cProfile l) (.str nm) σ = _
  rw [profOf_find]
  unfold r_R2_Profile
  simp only [MSb, reduceCtorEq]
  refine (loop_pre (S := Unit) (R := ProfileD) l (fun pre x _ => if x.name = nm then .out x else .go ())
   (fun pre _ => [.lbx [.str ⟨#[]⟩, .int .i64 0, .nsl], .bool false, .int .i64 (pre.length : Int)]) (fun _ _ => σ)
   (fun _ => (.exit 0, [.lbx [.str ⟨#[]⟩, .int .i64 0, .nsl], .bool false, .int .i64 (l.length : Int)], σ)) (fun pre _ r => (.ret, [.lbx (cProfile r), .bool true, .int .i64 (pre.length : Int)], σ))
   (fun _ _ => True) () (fun _ => some (AV.tup [.agg [.str ⟨#[]⟩, .int .i64 0, .nsl], .bool false], σ)) (fun r => some (AV.tup [.agg (cProfile r), .bool true], σ)) ?_ ?_ trivial (fun _ _ _ _ _ _ _ _ => trivial) ?_ ?_).trans ?_
  ·intro pre x rest u hl' _
   have hx := pre_get hl'
   have hlt := pre_lt hl'
   have hi1 : IntKind.i64.wrap ((pre.length : Int) + 1) = (pre.length : Int) + 1 := wrap64 (by unfold inI; unfold mxl at hl; omega)
   have hlt' : (pre.length : Int) < (l.length : Int) := by omega
   have hia := iaddr_sl 3 cProfile l hx
   clear hl' hx hlt hl
   simp only [MSb, reduceCtorEq, p1_cProfile_0, p1_cProfile_1, p1_cProfile_2, pA_cProfile, ce_cProfile, sp_cProfile, hlt', hia, hi1]
   repeat' ((first | rw [gDp] | rw [gDb] | rw [cDp] | rw [cDnp] | rw [cDn] | rw [cDb]); split <;> try simp only [MSb, reduceCtorEq, p1_cProfile_0, p1_cProfile_1, p1_cProfile_2, pA_cProfile, ce_cProfile, sp_cProfile, *])
   all_goals first | with_reducible rfl | (simp [*]; done) | (simp_all; done) | (simp_all; omega) | rfl
  ·intro u _; simp only [MSb, reduceCtorEq, Int.lt_irrefl]
  ·intro u _; simp only [MSb, reduceCtorEq]; rfl
  ·intros; simp only [MSb, reduceCtorEq, p1_cProfile_0, p1_cProfile_1, p1_cProfile_2, pA_cProfile, ce_cProfile, sp_cProfile]
  ·have key : ∀ (l pre : List ProfileD), (runP (fun (_ : List ProfileD) (x : ProfileD) (_ : Unit) => if x.name = nm then (Rd.out x : Rd Unit ProfileD) else .go ()) pre l ()).el (fun _ => some (AV.tup [.agg [.str ⟨#[]⟩, .int .i64 0, .nsl], .bool false], σ)) (fun r => some (AV.tup [.agg (cProfile r), .bool true], σ)) = some (.tup [.agg (match l.find? (fun x : ProfileD => decide (x.name = nm)) with | some p => cProfile p | none => [.str ⟨#[]⟩, .int .i64 0, .nsl]), .bool (match l.find? (fun x : ProfileD => decide (x.name = nm)) with | some p => (p, true) | none => (⟨⟨#[]⟩, 0, []⟩, false)).2], σ) := by
    intro l
    induction l with
    | nil => intro pre; rfl
    | cons x l ih =>
     intro pre
     rw [runP]
     by_cases h : x.name = nm
     ·simp [h, Rd.el]
     ·simp only [if_neg h, ih]
      simp [h]
   exact key l []
 ·rw [profOf_find]
  cases hf : l.find? (fun x : ProfileD => decide (x.name = nm)) with
  | none => rfl
  | some p => exact nnProf p true
end Go.Proofs.YtphgchakmkankaaGreat

namespace Go.Proofs.YtphgchakmkankaaGreat
set_option linter.unusedSectionVars false
set_option linter.unusedVariables false
set_option linter.unusedSimpArgs false
def marks (f : Nat → Bool) : List AV := (List.range 513).map fun k => .bool (f k)
theorem marks_get (f : Nat → Bool) {k : Nat} (h : k < 513) : (marks f)[k]? = some (.bool (f k)) := by simp [marks, h]
theorem marks_len (f : Nat → Bool) : (marks f).length = 513 := by simp [marks]
theorem freeF_run (f : Nat → Bool) {γ : Type} (K1 K2 : γ) : ∀ (s a : Nat) (pre : List Nat), (runP (fun _ k (_ : Unit) => if 512 < k ∨ f k = true then (Rd.out () : Rd Unit Unit) else .go ()) pre (List.range' a s) ()).el (fun _ => K1) (fun _ => K2) = if freeF f s a = true then K1 else K2
 | 0, a, pre => by simp [runP, freeF, Rd.el]
 | s + 1, a, pre => by
  rw [List.range'_succ, runP, freeF]
  by_cases h : 512 < a ∨ f a = true
  ·simp only [if_pos h, Rd.el]; simp
  ·simp only [if_neg h]
   exact freeF_run f K1 K2 s (a + 1) _
theorem free_np (a s : Int) (h : inI (a + s)) (h' : inI (a + s - 1)) (σ : Heap) : m_fixture_slots_free [.np, .int .i64 a, .int .i64 s] σ = some (.bool (decide (a + s - 1 ≤ 512)), σ) := by
 refine wrap_eq rfl ?_ rfl
 show r_fixture_slots_free .np (.int .i64 a) (.int .i64 s) σ = _
 unfold r_fixture_slots_free
 simp only [MSb, reduceCtorEq, show A.eql .p AV.np AV.np = some (.bool true) from rfl, wrap64 h, wrap64 h']
theorem aaddr_rp (cs : List AV) {k : Nat} (h : k < 513) : A.aaddr 513 1 (.rp cs) (.int .i64 (k : Int)) = some (.rp (cs.drop k)) := by
 have h1 : A.idx 513 (.int .i64 (k : Int)) = some k := by
  show (if (0 : Int) ≤ (k : Int) ∧ (k : Int) < ((513 : Nat) : Int) then some (k : Int).toNat else none) = some k
  rw [if_pos ⟨by omega, by omega⟩]; rfl
 unfold A.aaddr
 rw [h1]
 simp only [Option.bind_some, Nat.mul_one]
theorem free_rp (f : Nat → Bool) (a s : Nat) (hs : a ≤ 1024 ∧ s ≤ 1024) (σ : Heap) : m_fixture_slots_free [.rp (marks f), .int .i64 (a : Int), .int .i64 (s : Int)] σ = some (.bool (freeF f s a), σ) := by
 refine wrap_eq rfl ?_ rfl
 show r_fixture_slots_free (.rp (marks f)) (.int .i64 (a : Int)) (.int .i64 (s : Int)) σ = _
 unfold r_fixture_slots_free
 have hw : IntKind.i64.wrap ((a : Int) + s) = (a : Int) + s := wrap64 (by unfold inI; omega)
 simp only [MSb, reduceCtorEq, show A.eql .p (AV.rp (marks f)) AV.np = some (.bool false) from rfl, hw]
 refine (loop_pre (S := Unit) (R := Unit) (List.range' a s) (fun _ k (_ : Unit) => if 512 < k ∨ f k = true then (Rd.out () : Rd Unit Unit) else .go ())
  (fun pre _ => [.bool false, .int .i64 ((a : Int) + (pre.length : Int))]) (fun _ _ => σ) (fun _ => (.exit 0, [.bool false, .int .i64 ((a : Int) + s)], σ)) (fun pre _ _ => (.ret, [.bool false, .int .i64 ((a : Int) + (pre.length : Int))], σ))
  (fun _ _ => True) () (fun _ => some (AV.bool true, σ)) (fun _ => some (AV.bool false, σ)) ?_ ?_ trivial (fun _ _ _ _ _ _ _ _ => trivial) ?_ ?_ (hv := by simp)).trans ?_
 ·intro pre k rest u hl _
  have hx := pre_get hl
  have hlt := pre_lt hl
  rw [List.length_range'] at hlt
  obtain rfl : a + pre.length = k := by
   have := (List.getElem?_eq_some_iff.1 hx).2
   simpa [List.getElem_range'] using this
  have hlt' : (a : Int) + (pre.length : Int) < (a : Int) + s := by omega
  have hi1 : IntKind.i64.wrap ((a : Int) + (pre.length : Int) + 1) = (a : Int) + ((pre.length : Int) + 1) := by rw [wrap64 (by unfold inI; omega)]; omega
  have ecast : (a : Int) + (pre.length : Int) = ((a + pre.length : Nat) : Int) := by omega
  clear hl hx
  by_cases h5 : 512 < a + pre.length
  ·have h5' : (512 : Int) < (a : Int) + (pre.length : Int) := by omega
   simp only [MSb, reduceCtorEq, hlt', h5, h5']
  have h5' : ¬ (512 : Int) < (a : Int) + (pre.length : Int) := by omega
  have hp : A.part1 0 ((marks f).drop (a + pre.length)) = some (.bool (f (a + pre.length))) := by
   rw [p1D]; simp only [A.part1, Nat.add_zero, marks_get f (show a + pre.length < 513 by omega)]; rfl
  simp only [MSb, reduceCtorEq, hlt', h5, h5', show A.nilck (AV.rp (marks f)) = some (.rp (marks f)) from rfl]
  rw [ecast, aaddr_rp _ (by omega)]
  simp only [MSb, reduceCtorEq, hp]
  cases hf : f (a + pre.length)
  ·simp only [MSb, reduceCtorEq, ← ecast, hi1]
  ·simp only [MSb, reduceCtorEq, ← ecast]
 ·intro u _
  rw [List.length_range']
  exact hend_lss _ _ _
 ·intro u _; simp only [MSb, reduceCtorEq]
 ·intros; simp only [MSb, reduceCtorEq]
 ·rw [freeF_run]
  cases freeF f s a <;> rfl
theorem free_op (f : Nat → Bool) (a s : Nat) (hs : a ≤ 1024 ∧ s ≤ 1024) {σ : Heap} {id : Nat} (h : σ[id]? = some (.box (marks f))) : m_fixture_slots_free [.op id 0, .int .i64 (a : Int), .int .i64 (s : Int)] σ = some (.bool (freeF f s a), σ) := by
 refine wrap_own (args' := [.rp (marks f), .int .i64 (a : Int), .int .i64 (s : Int)]) rfl ?_ rfl (free_rp f a s hs []) rfl
 have e : A.frzL' σ 0 7 (marks f) = some (marks f) := by
  have key : ∀ (l : List Nat), A.frzL' σ 0 7 (l.map fun k => AV.bool (f k)) = some (l.map fun k => AV.bool (f k)) := by
   intro l
   induction l with
   | nil => simp [A.frzL']
   | cons x l ih => simp [A.frzL', A.frz, ih]
  exact key _
 simp [A.frzL, A.frz, h, e]
end Go.Proofs.YtphgchakmkankaaGreat

namespace Go.Proofs.YtphgchakmkankaaGreat
set_option linter.unusedSectionVars false
set_option linter.unusedVariables false
set_option linter.unusedSimpArgs false
def usE (b : Nat) : List Int → List (AV × AV)
 | [] => []
 | v :: r => (.int .i64 v, .op b 0) :: usE (b + 1) r
def usH (σ : Heap) (vs : List Int) (f : Int → Nat → Bool) : Heap := σ ++ (Blk.map (usE (σ.length + 1) vs) :: vs.map fun v => Blk.box (marks (f v)))
theorem usE_snoc (v : Int) : ∀ (vs : List Int) (b : Nat), usE b (vs ++ [v]) = usE b vs ++ [(.int .i64 v, .op (b + vs.length) 0)]
 | [], b => rfl
 | w :: r, b => by
  simp only [List.cons_append, usE, usE_snoc v r (b + 1), List.length_cons]
  rw [show b + 1 + r.length = b + (r.length + 1) by omega]
theorem usE_find (v : Int) : ∀ (vs : List Int) (b : Nat), A.find .i (.int .i64 v) (usE b vs) = some (if v ∈ vs then some (.op (b + vs.idxOf v) 0) else none)
 | [], b => rfl
 | w :: r, b => by
  simp only [usE, A.find, A.eqK, A.eqI, if_true, Option.bind_some]
  by_cases h : v = w
  ·subst h; simp
  ·have h1 : (v == w) = false := by simpa using h
   have h2 : (w == v) = false := by simpa using fun e : w = v => h e.symm
   simp only [h1, cond_false, usE_find v r (b + 1), List.mem_cons, h, false_or, List.idxOf_cons, h2]
   rw [show b + 1 + r.idxOf v = b + (r.idxOf v + 1) by omega]
theorem usE_upd (v : Int) (w : AV) : ∀ (vs : List Int) (b : Nat), v ∉ vs → A.upd .i (.int .i64 v) w (usE b vs) = some (usE b vs ++ [(.int .i64 v, w)])
 | [], b, _ => rfl
 | x :: r, b, h => by
  simp only [List.mem_cons, not_or] at h
  have h1 : (v == x) = false := by simpa using h.1
  simp only [usE, A.upd, A.eqK, A.eqI, if_true, Option.bind_some, h1, cond_false, usE_upd v w r (b + 1) h.2, Option.map_some, List.cons_append]
theorem usH_len (σ : Heap) (vs : List Int) (f : Int → Nat → Bool) : (usH σ vs f).length = σ.length + 1 + vs.length := by simp [usH]; omega
theorem usH_map (σ : Heap) (vs : List Int) (f : Int → Nat → Bool) : (usH σ vs f)[σ.length]? = some (.map (usE (σ.length + 1) vs)) := by simp [usH]
theorem usH_box (σ : Heap) {vs : List Int} (f : Int → Nat → Bool) {v : Int} (h : v ∈ vs) : (usH σ vs f)[σ.length + 1 + vs.idxOf v]? = some (.box (marks (f v))) := by
 unfold usH
 rw [List.getElem?_append_right (by omega), show σ.length + 1 + vs.idxOf v - σ.length = vs.idxOf v + 1 by omega, List.getElem?_cons_succ, List.getElem?_map]
 have : vs[vs.idxOf v]? = some v := by
  have hl := List.idxOf_lt_length_of_mem h
  rw [List.getElem?_eq_getElem hl, List.getElem_idxOf hl]
 rw [this]; rfl
theorem usH_set (σ : Heap) {vs : List Int} (hn : vs.Nodup) {f f' : Int → Nat → Bool} {v : Int} (h : v ∈ vs) (ho : ∀ w, w ≠ v → f' w = f w) : (usH σ vs f).set (σ.length + 1 + vs.idxOf v) (.box (marks (f' v))) = usH σ vs f' := by
 unfold usH
 rw [List.set_append_right _ _ (by omega), show σ.length + 1 + vs.idxOf v - σ.length = vs.idxOf v + 1 by omega, List.set_cons_succ]
 refine congrArg (fun z => σ ++ (Blk.map (usE (σ.length + 1) vs) :: z)) ?_
 clear σ
 induction vs with
 | nil => cases h
 | cons w r ih =>
  rw [List.nodup_cons] at hn
  rw [List.idxOf_cons]
  by_cases e : w = v
  ·subst e
   simp only [beq_self_eq_true, cond_true, List.map_cons, List.set_cons_zero]
   exact congrArg (Blk.box (marks (f' w)) :: ·) (List.map_congr_left fun x hx => by rw [ho x (fun e => hn.1 (e ▸ hx))])
  ·have e2 : (w == v) = false := by simpa using e
   simp only [e2, cond_false, List.map_cons, List.set_cons_succ]
   rw [ih hn.2 ((List.mem_cons.1 h).resolve_left fun q => e q.symm), ho w e]
theorem usH_new (σ : Heap) (vs : List Int) {f : Int → Nat → Bool} {v : Int} (h : ∀ k, f v k = false) : ((usH σ vs f) ++ [Blk.box (List.replicate 513 (AV.bool false))]).set σ.length (.map (usE (σ.length + 1) (vs ++ [v]))) = usH σ (vs ++ [v]) f := by
 have e : marks (f v) = List.replicate 513 (AV.bool false) := by
  rw [show f v = fun _ => false from funext h]
  refine List.eq_replicate_iff.2 ⟨marks_len _, fun b hb => ?_⟩
  obtain ⟨k, _, rfl⟩ := List.mem_map.1 hb
  rfl
 unfold usH
 simp only [List.append_assoc, List.cons_append]
 rw [List.set_append_right _ _ (Nat.le_refl _), Nat.sub_self, List.set_cons_zero, List.map_append, List.map_cons, e]
 rfl
theorem marks_set (g g' : Nat → Bool) {k : Nat} (hk : k < 513) (h1 : g' k = true) (h2 : ∀ j, j ≠ k → g' j = g j) : A.splice k [AV.bool true] (marks g) = some (marks g') := by
 unfold A.splice
 rw [if_pos (by rw [marks_len]; simp; omega)]
 refine congrArg some (List.ext_getElem? fun j => ?_)
 simp only [List.append_assoc, List.cons_append, List.nil_append, List.length_cons, List.length_nil]
 by_cases hj : j < k
 ·rw [List.getElem?_append_left (by rw [List.length_take, marks_len]; omega), List.getElem?_take_of_lt hj, marks_get _ (by omega), marks_get _ (by omega), h2 j (by omega)]
 ·rw [List.getElem?_append_right (by rw [List.length_take, marks_len]; omega), List.length_take, marks_len, Nat.min_eq_left (by omega)]
  by_cases e : j = k
  ·subst e
   rw [Nat.sub_self, List.getElem?_cons_zero, marks_get _ hk, h1]
  ·rw [show j - k = (j - k - 1) + 1 by omega, List.getElem?_cons_succ, List.getElem?_drop, show k + (0 + 1) + (j - k - 1) = j by omega]
   by_cases hj2 : j < 513
   ·rw [marks_get _ hj2, marks_get _ hj2, h2 j e]
   ·rw [List.getElem?_eq_none (by rw [marks_len]; omega), List.getElem?_eq_none (by rw [marks_len]; omega)]
theorem run_go {α γ : Type} (K1 : Unit → γ) (K2 : Unit → γ) : ∀ (l pre : List α), (runP (fun _ (x : α) (_ : Unit) => (Rd.go () : Rd Unit Unit)) pre l ()).el K1 K2 = K1 ()
 | [], pre => rfl
 | x :: l, pre => by rw [runP]; exact run_go K1 K2 l _
theorem runP_state {α S : Type} {body : List α → α → S → Rd S Int} {chk : List α → List α → Int} (h0 : ∀ pre, chk pre [] = 0) (h : ∀ pre x rest s, chk pre (x :: rest) = (body pre x s).el (fun _ => chk (pre ++ [x]) rest) (fun r => r)) {γ : Type} (K : Int → γ) :
  ∀ (l pre : List α) (s : S), (runP body pre l s).el (fun _ => K 0) K = K (chk pre l)
 | [], pre, s => by rw [runP, h0]; rfl
 | x :: l, pre, s => by
  rw [runP, h pre x l s]
  cases body pre x s with
  | go s' => exact runP_state h0 h K l (pre ++ [x]) s'
  | out r => rfl
theorem markF_zero (f : Int → Nat → Bool) (v : Int) (a : Nat) : markF f v a 0 = f := by
 funext w k
 unfold markF
 rw [if_neg (by omega)]
theorem take_loop {γ : Type} (σ : Heap) {vs : List Int} (hn : vs.Nodup) (f : Int → Nat → Bool) (u : UnitD) (a s : Nat) (ha : u.address = a) (hs : a + s ≤ 513) (hm : u.univ ∈ vs) (K : List AV → Heap → Option γ) :
  (A.loop (fun v11 s12 =>
   ((A.lb (v11.getD 0 AV.undef)).bind fun _ => some (3)).bind fun p13 =>
   ((A.lb (v11.getD 0 AV.undef)).bind fun c14 => A.part1 p13 c14).bind fun x15 =>
   (A.add x15 (.int .i64 (s : Int))).bind fun x16 =>
   (A.lss (v11.getD 1 AV.undef) x16).bind fun x17 =>
   A.cond x17 (
    ((A.lb (v11.getD 0 AV.undef)).bind fun _ => some (2)).bind fun p18 =>
    ((A.lb (v11.getD 0 AV.undef)).bind fun c19 => A.part1 p18 c19).bind fun x20 =>
    (A.look .i (.om σ.length) x20 AV.np s12).bind fun x21 =>
    (A.nilck x21).bind fun x22 =>
    (A.aaddr 513 1 x22 (v11.getD 1 AV.undef)).bind fun x23 =>
    (A.storeAt x23 [AV.bool true] s12).bind fun c25 =>
    (A.add (v11.getD 1 AV.undef) (AV.int .i64 1)).bind fun x26 =>
    some (AX.normal, [(v11.getD 0 AV.undef), x26], c25)) (
    some (AX.exit 0, [(v11.getD 0 AV.undef), (v11.getD 1 AV.undef)], s12))) [.lbx (cUnit u), .int .i64 (a : Int)] (usH σ vs f)).bind (fun r27 =>
 bif decide (r27.1 = AX.exit 0) then K r27.2.1 r27.2.2 else none) = K [.lbx (cUnit u), .int .i64 ((a : Int) + s)] (usH σ vs (markF f u.univ a s)) := by
 have hw : IntKind.i64.wrap ((a : Int) + s) = (a : Int) + s := wrap64 (by unfold inI; omega)
 refine (loop_pre (S := Unit) (R := Unit) (List.range' a s) (fun _ k (_ : Unit) => (Rd.go () : Rd Unit Unit))
  (fun pre _ => [.lbx (cUnit u), .int .i64 ((a : Int) + (pre.length : Int))]) (fun pre _ => usH σ vs (markF f u.univ a pre.length)) (fun _ => (.exit 0, [.lbx (cUnit u), .int .i64 ((a : Int) + s)], usH σ vs (markF f u.univ a s))) (fun pre _ _ => (.ret, [], σ))
  (fun _ _ => True) () (fun _ => K [.lbx (cUnit u), .int .i64 ((a : Int) + s)] (usH σ vs (markF f u.univ a s))) (fun _ => none) ?_ ?_ trivial (fun _ _ _ _ _ _ _ _ => trivial) ?_ ?_ (hv := by simp) (hσ := by rw [List.length_nil, markF_zero])).trans (run_go _ _ _ _)
 ·intro pre k rest t hl _
  have hx := pre_get hl
  have hlt := pre_lt hl
  rw [List.length_range'] at hlt
  obtain rfl : a + pre.length = k := by
   have := (List.getElem?_eq_some_iff.1 hx).2
   simpa [List.getElem_range'] using this
  have hlt' : (a : Int) + (pre.length : Int) < (a : Int) + s := by omega
  have hi1 : IntKind.i64.wrap ((a : Int) + (pre.length : Int) + 1) = (a : Int) + ((pre.length : Int) + 1) := by rw [wrap64 (by unfold inI; omega)]; omega
  have ecast : (a : Int) + (pre.length : Int) = ((a + pre.length : Nat) : Int) := by omega
  clear hl hx
  have hlook : A.look .i (.om σ.length) (.int .i64 u.univ) AV.np (usH σ vs (markF f u.univ a pre.length)) = some (.op (σ.length + 1 + vs.idxOf u.univ) 0) := by
   rw [look_at .i rfl (usH_map σ vs _), usE_find, if_pos hm]; rfl
  have hadr : A.aaddr 513 1 (.op (σ.length + 1 + vs.idxOf u.univ) 0) (.int .i64 ((a + pre.length : Nat) : Int)) = some (.op (σ.length + 1 + vs.idxOf u.univ) (a + pre.length)) := by
   have h1 : A.idx 513 (.int .i64 ((a + pre.length : Nat) : Int)) = some (a + pre.length) := by
    show (if (0 : Int) ≤ ((a + pre.length : Nat) : Int) ∧ ((a + pre.length : Nat) : Int) < ((513 : Nat) : Int) then some ((a + pre.length : Nat) : Int).toNat else none) = _
    rw [if_pos ⟨by omega, by omega⟩]; rfl
   unfold A.aaddr
   rw [h1]
   simp only [Option.bind_some, Nat.mul_one, Nat.zero_add]
  have hst : A.storeAt (.op (σ.length + 1 + vs.idxOf u.univ) (a + pre.length)) [.bool true] (usH σ vs (markF f u.univ a pre.length)) = some (usH σ vs (markF f u.univ a (pre.length + 1))) := by
   simp only [A.storeAt, usH_box σ _ hm]
   rw [marks_set _ (markF f u.univ a (pre.length + 1) u.univ) (by omega) (by unfold markF; rw [if_pos ⟨rfl, by omega, by omega⟩]) (fun j hj => by
    unfold markF
    by_cases q : a ≤ j ∧ j < a + pre.length
    ·rw [if_pos ⟨rfl, by omega, by omega⟩, if_pos ⟨rfl, q.1, q.2⟩]
    ·rw [if_neg (by omega), if_neg (by omega)])]
   simp only [Option.map_some]
   rw [usH_set σ hn hm (fun w hw => by funext j; unfold markF; rw [if_neg (fun q => hw q.1), if_neg (fun q => hw q.1)])]
  simp only [MSb, reduceCtorEq, p1_cUnit_0, p1_cUnit_1, p1_cUnit_2, p1_cUnit_3, pA_cUnit, ce_cUnit, sp_cUnit, ha, hw, hlt', hlook, show A.nilck (.op (σ.length + 1 + vs.idxOf u.univ) 0) = some (.op (σ.length + 1 + vs.idxOf u.univ) 0) from rfl]
  rw [ecast, hadr]
  simp only [MSb, reduceCtorEq, hst, ← ecast, hi1]
 ·intro t _
  rw [List.length_range']
  simp only [MSb, reduceCtorEq, p1_cUnit_0, p1_cUnit_1, p1_cUnit_2, p1_cUnit_3, pA_cUnit, ce_cUnit, sp_cUnit, ha, hw, Int.lt_irrefl]
 ·intro t _; simp only [MSb, reduceCtorEq]
 ·intro pre x rest t r _ _ hb; cases hb
theorem take_eq (σ : Heap) {vs : List Int} (hn : vs.Nodup) (f : Int → Nat → Bool) (u : UnitD) (a s : Nat) (ha : u.address = a) (hs : a + s ≤ 513) (hf : u.univ ∉ vs → ∀ k, f u.univ k = false) :
  m_fixture_take [.om σ.length, .agg (cUnit u), .int .i64 (s : Int)] (usH σ vs f) = some (.tup [], usH σ (if u.univ ∈ vs then vs else vs ++ [u.univ]) (markF f u.univ a s)) := by
 have e : r_fixture_take (.om σ.length) (.agg (cUnit u)) (.int .i64 (s : Int)) (usH σ vs f) = some (.tup [], usH σ (if u.univ ∈ vs then vs else vs ++ [u.univ]) (markF f u.univ a s)) := by
  unfold r_fixture_take
  have hlook : A.look .i (.om σ.length) (.int .i64 u.univ) AV.np (usH σ vs f) = some (if u.univ ∈ vs then .op (σ.length + 1 + vs.idxOf u.univ) 0 else .np) := by
   rw [look_at .i rfl (usH_map σ vs _), usE_find]
   by_cases hm : u.univ ∈ vs <;> simp [hm]
  simp only [MSb, reduceCtorEq, p1_cUnit_0, p1_cUnit_1, p1_cUnit_2, p1_cUnit_3, pA_cUnit, ce_cUnit, sp_cUnit, hlook]
  by_cases hm : u.univ ∈ vs
  ·simp only [if_pos hm, show A.eql .p (.op (σ.length + 1 + vs.idxOf u.univ) 0) AV.np = some (.bool false) from rfl, MSb, reduceCtorEq, p1_cUnit_0, p1_cUnit_1, p1_cUnit_2, p1_cUnit_3, pA_cUnit, ce_cUnit, sp_cUnit, ha]
   exact take_loop σ hn f u a s ha hs hm fun _ h => some (AV.tup [], h)
  ·have hup : A.mupd .i (.om σ.length) (.int .i64 u.univ) (.op (usH σ vs f).length 0) (usH σ vs f ++ [Blk.box (List.replicate 513 (AV.bool false))]) = some (usH σ (vs ++ [u.univ]) f) := by
    rw [mupd_at .i rfl (es := usE (σ.length + 1) vs) (by rw [List.getElem?_append_left (by rw [usH_len]; omega)]; exact usH_map σ vs f), usE_upd _ _ _ _ hm]
    rw [Option.map_some, usH_len, ← usE_snoc, usH_new σ vs (hf hm)]
   simp only [if_neg hm, show A.eql .p AV.np AV.np = some (.bool true) from rfl, MSb, reduceCtorEq, p1_cUnit_0, p1_cUnit_1, p1_cUnit_2, p1_cUnit_3, pA_cUnit, ce_cUnit, sp_cUnit, hup, ha]
   exact take_loop σ (by rw [List.nodup_append]; exact ⟨hn, by simp, fun x hx y hy e => hm (by simp at hy; rw [← hy, ← e]; exact hx)⟩) f u a s ha hs (by simp) fun _ h => some (AV.tup [], h)
 unfold m_fixture_take A.wrap
 rw [Bool.false_and, cond_false]
 show (r_fixture_take (.om σ.length) (.agg (cUnit u)) (.int .i64 (s : Int)) (usH σ vs f)).map _ = _
 rw [e]; rfl
end Go.Proofs.YtphgchakmkankaaGreat

namespace Go.Proofs.YtphgchakmkankaaGreat
set_option linter.unusedSectionVars false
set_option linter.unusedVariables false
set_option linter.unusedSimpArgs false
theorem IsLevel1_eq (n : Int) (σ : Heap) : m_R1_IsLevel [.int .i64 n] σ = some (.bool (withinB n 0 65535), σ) := by
 refine wrap_eq rfl ?_ rfl
 show r_R1_IsLevel (.int .i64 n) σ = _
 unfold r_R1_IsLevel
 simp only [MSb, reduceCtorEq, Within1_eq]
theorem slots2_eq (x : ParamD) (σ : Heap) : m_R2_slots [.agg (cParam x)] σ = some (sl 1 cInt (slotL x.att x.fine), σ) := by
 refine wrap_eq (v := sl 1 cInt (slotL x.att x.fine)) rfl ?_ rfl
 show r_R2_slots (.agg (cParam x)) σ = _
 unfold r_R2_slots slotL
 simp only [MSb, reduceCtorEq, p1_cParam_0, p1_cParam_1, p1_cParam_2, p1_cParam_3, p1_cParam_4, p1_cParam_5, p1_cParam_6, pA_cParam, ce_cParam, sp_cParam]
 repeat' ((first | rw [gDp] | rw [gDb] | rw [cDp] | rw [cDnp] | rw [cDn] | rw [cDb]); split <;> try simp only [MSb, reduceCtorEq, *])
 all_goals rfl
theorem chkR_run (σ : Heap) (l : List RangeD) : (runP (fun pre (x : RangeD) (_ : Unit) =>
    if withinB x.low 0 65535 = false ∨ withinB x.high 0 65535 = false ∨ x.high < x.low then (.out 1 : Rd Unit Int)
    else if 0 < pre.length ∧ x.low ≤ (pre.getLast?.map (·.high)).getD 0 then .out 7
    else if nameB x.name = false then .out 5
    else if memB x.name (pre.map (·.name)) = true then .out 6 else .go ()) [] l ()).el (fun _ => some (AV.int .i64 0, σ)) (fun r => some (AV.int .i64 r, σ)) = some (.int .i64 (chkR [] l), σ) := by
 refine (runP_fault (chk := chkR) ?_ ?_ (fun n => some (AV.int .i64 n, σ)) l []).trans ?_
 ·intro pre; rfl
 ·intro pre x rest; rw [chkR]; simp only [el_ite, el_out, el_go]
 ·rfl
theorem checkParam2_eq (x : ParamD) (hx : okParam x) (l : List ParamD) (hl : l.length ≤ mxl) (size : Int) (hf : ∀ y ∈ l, 0 ≤ y.fine) (σ : Heap) : m_R2_checkParam [.agg (cParam x), sl 7 cParam l, .int .i64 size] σ = some (.int .i64 (chkX size l x), σ) := by
 refine wrap_eq rfl ?_ rfl
 show r_R2_checkParam (.agg (cParam x)) (sl 7 cParam l) (.int .i64 size) σ = _
 obtain ⟨k1, k2, k3, k4, k5, k6⟩ := hx
 have hN := IsName1_eq _ k1
 unfold r_R2_checkParam chkX
 simp only [MSb, reduceCtorEq, p1_cParam_0, p1_cParam_1, p1_cParam_2, p1_cParam_3, p1_cParam_4, p1_cParam_5, p1_cParam_6, pA_cParam, ce_cParam, sp_cParam, hN]
 cases hn : nameB x.name
 ·simp only [MSb, reduceCtorEq]
 simp only [MSb, reduceCtorEq]
 refine (loop_any l (fun y => decide (y.name = x.name)) (fun i => [.lbx (cParam x), .int .i64 0, .int .i64 (i : Int)]) σ (.exit 0, [.lbx (cParam x), .int .i64 0, .int .i64 (l.length : Int)], σ) (fun i => (.ret, [.lbx (cParam x), .int .i64 6, .int .i64 (i : Int)], σ)) _ (some (.int .i64 6, σ)) ?_ ?_ rfl ?_).trans ?_
 ·intro i y hy
  obtain ⟨h1, h2, h3⟩ := iaddr_at 7 cParam hy
  have h3 := h3 hl
  simp only [MSb, reduceCtorEq, p1_cParam_0, p1_cParam_1, p1_cParam_2, p1_cParam_3, p1_cParam_4, p1_cParam_5, p1_cParam_6, pA_cParam, ce_cParam, sp_cParam, h1, h2, h3]
  repeat' ((first | rw [gDp] | rw [gDb] | rw [cDp] | rw [cDnp] | rw [cDn] | rw [cDb]); split <;> try simp only [MSb, reduceCtorEq, *])
 ·simp only [MSb, reduceCtorEq, Int.lt_irrefl]
 ·intro i; simp only [MSb, reduceCtorEq]
 rw [← memB_map x.name (fun y : ParamD => y.name)]
 cases hm : memB x.name (l.map (·.name))
 ·simp only [MSb, reduceCtorEq, p1_cParam_0, p1_cParam_1, p1_cParam_2, p1_cParam_3, p1_cParam_4, p1_cParam_5, p1_cParam_6, pA_cParam, ce_cParam, sp_cParam, Within1_eq, IsLevel1_eq]
  cases hg : withinB x.group 1 4
  ·simp only [MSb, reduceCtorEq]
  simp only [MSb, reduceCtorEq]
  by_cases hw : withinB x.att 1 size = false ∨ withinB x.fine 0 size = false ∨ withinB x.default 0 65535 = false
  ·rw [if_pos hw]
   cases ha : withinB x.att 1 size
   ·simp only [MSb, reduceCtorEq]
   cases hb : withinB x.fine 0 size
   ·simp only [MSb, reduceCtorEq, Within1_eq, hb]
   ·have hc : withinB x.default 0 65535 = false := by simpa [ha, hb] using hw
    simp only [MSb, reduceCtorEq, Within1_eq, IsLevel1_eq, hb, hc]
  ·rw [if_neg hw]
   simp only [not_or, Bool.not_eq_false] at hw
   obtain ⟨ha, hb, hc⟩ := hw
   have hx0 : 0 ≤ x.fine := by simp [withinB] at hb; exact hb.1
   simp only [MSb, reduceCtorEq, Within1_eq, IsLevel1_eq, ha, hb, hc]
   by_cases he : x.att = x.fine
   ·simp only [MSb, reduceCtorEq, he]
   simp only [MSb, reduceCtorEq, he]
   refine (loop_any l (fun y => clash2 x.att x.fine y.att y.fine) (fun i => [.lbx (cParam x), .int .i64 0, .int .i64 (i : Int)]) σ (.exit 3, [.lbx (cParam x), .int .i64 0, .int .i64 (l.length : Int)], σ) (fun i => (.ret, [.lbx (cParam x), .int .i64 12, .int .i64 (i : Int)], σ)) _ (some (.int .i64 12, σ)) ?_ ?_ rfl ?_).trans ?_
   ·intro i y hy
    obtain ⟨h1, h2, h3⟩ := iaddr_at 7 cParam hy
    have h3 := h3 hl
    have hsl : ∀ a b : Int, (slotL a b).length ≤ mxl := by intro a b; unfold slotL mxl; split <;> simp
    simp only [MSb, reduceCtorEq, p1_cParam_0, p1_cParam_1, p1_cParam_2, p1_cParam_3, p1_cParam_4, p1_cParam_5, p1_cParam_6, pA_cParam, ce_cParam, sp_cParam, h1, h2, h3, slots2_eq]
    refine (loop_any (slotL x.att x.fine) (fun s => memB s (slotL y.att y.fine)) (fun j => [.lbx (cParam x), .int .i64 0, .lbx (cParam y), .int .i64 (j : Int)]) σ (.exit 5, [.lbx (cParam x), .int .i64 0, .lbx (cParam y), .int .i64 ((slotL x.att x.fine).length : Int)], σ) (fun j => (.ret, [.lbx (cParam x), .int .i64 12, .lbx (cParam y), .int .i64 (j : Int)], σ)) _ (some (.ret, [.lbx (cParam x), .int .i64 12, .int .i64 (i : Int)], σ)) ?_ ?_ rfl ?_).trans ?_
    ·intro j s hs
     obtain ⟨g1, g2, g3⟩ := iaddr_at 1 cInt hs
     have g3 := g3 (hsl _ _)
     have hc : ∀ σ, m_slices_Contains_int [sl 1 cInt (slotL y.att y.fine), .int .i64 s] σ = some (.bool (memB s (slotL y.att y.fine)), σ) := by
      intro σ
      rw [m_slices_Contains_int_eq _ (hsl _ _) s σ]
      simp only [memB]
      congr 4; funext z; rw [decide_eq_decide]; exact eq_comm
     simp only [MSb, reduceCtorEq, p1_cParam_0, p1_cParam_1, p1_cParam_2, p1_cParam_3, p1_cParam_4, p1_cParam_5, p1_cParam_6, pA_cParam, ce_cParam, sp_cParam, g1, g2, g3, slots2_eq, hc]
     cases memB s (slotL y.att y.fine) <;> simp only [MSb, reduceCtorEq]
    ·simp only [MSb, reduceCtorEq, Int.lt_irrefl]
    ·intro j; simp only [MSb, reduceCtorEq]
    ·simp only [MSb, reduceCtorEq, clash2, h3]; rfl
   ·simp only [MSb, reduceCtorEq, Int.lt_irrefl]
   ·intro i; simp only [MSb, reduceCtorEq]
   have hcl : (l.any fun y => clash2 x.att x.fine y.att y.fine) = true ↔ (memB x.att (slotsOf l) = true ∨ (0 < x.fine ∧ memB x.fine (slotsOf l) = true)) := clash_iff hf hx0
   by_cases hcc : (l.any fun y => clash2 x.att x.fine y.att y.fine) = true
   ·rw [if_pos hcc, if_pos (hcl.1 hcc)]
   rw [if_neg hcc, if_neg (fun h => hcc (hcl.2 h))]
   clear hcl hcc
   simp only [MSb, reduceCtorEq, p1_cParam_0, p1_cParam_1, p1_cParam_2, p1_cParam_3, p1_cParam_4, p1_cParam_5, p1_cParam_6, pA_cParam, ce_cParam, sp_cParam]
   unfold rangesF
   by_cases h30 : 30 < x.ranges.length
   ·have h30' : (30 : Int) < x.ranges.length := by omega
    simp only [MSb, reduceCtorEq, h30, h30']
   have h30' : ¬ (30 : Int) < x.ranges.length := by omega
   simp only [MSb, reduceCtorEq, h30, h30']
   refine (loop_pre (S := Unit) (R := Int) x.ranges _
    (fun pre _ => [.lbx (cParam x), .int .i64 0, .int .i64 (pre.length : Int)]) (fun pre _ => σ)
    (fun _ => (.exit 7, [.lbx (cParam x), .int .i64 0, .int .i64 (x.ranges.length : Int)], σ)) (fun pre _ r => (.ret, [.lbx (cParam x), .int .i64 r, .int .i64 (pre.length : Int)], σ))
    (fun _ _ => True) () (fun _ => some (AV.int .i64 0, σ)) (fun r => some (AV.int .i64 r, σ)) ?_ ?_ trivial (fun _ _ _ _ _ _ _ _ => trivial) ?_ ?_).trans (chkR_run σ x.ranges)
   ·intro pre r rest u hl' _
    have hr := pre_get hl'
    have hlt := pre_lt hl'
    have hi1 : IntKind.i64.wrap ((pre.length : Int) + 1) = (pre.length : Int) + 1 := wrap64 (by unfold inI; omega)
    have hi2 : IntKind.i64.wrap ((pre.length : Int) - 1) = (pre.length : Int) - 1 := wrap64 (by unfold inI; omega)
    have hlt' : (pre.length : Int) < (x.ranges.length : Int) := by omega
    have hnm := (k6.2 r (by rw [hl']; simp)).2.2
    have hia := iaddr_sl 3 cRange x.ranges hr
    have hNr := IsName1_eq _ hnm
    have hst := fun σ => sliceS_take 3 cRange x.ranges (k := pre.length) (by omega) (σ := σ)
    rw [pre_take hl'] at hst
    have hpl : pre.length ≤ mxl := by unfold mxl; omega
    by_cases h0 : 0 < pre.length
    ·obtain ⟨y, hy, hy2⟩ := pre_last hl' h0
     have hia2 := iaddr_pred 3 cRange x.ranges h0 hy2
     have h0' : (0 : Int) < pre.length := by omega
     clear hl' hr hlt h30 h30' hy2 hnm k1 k2 k3 k4 k5 k6 hN hn hm hg ha hb hc hx0 he hf
     simp only [MSb, reduceCtorEq, p1_cRange_0, p1_cRange_1, p1_cRange_2, pA_cRange, ce_cRange, sp_cRange, p1_cParam_0, p1_cParam_1, p1_cParam_2, p1_cParam_3, p1_cParam_4, p1_cParam_5, p1_cParam_6, pA_cParam, ce_cParam, sp_cParam, hlt', hia, IsLevel1_eq, hi1, hi2, hNr, h0', hy, h0]
     repeat' ((first | rw [gDp] | rw [gDb] | rw [cDp] | rw [cDnp] | rw [cDn] | rw [cDb]); split <;> try simp only [MSb, reduceCtorEq, p1_cRange_0, p1_cRange_1, p1_cRange_2, pA_cRange, ce_cRange, sp_cRange, p1_cParam_0, p1_cParam_1, p1_cParam_2, p1_cParam_3, p1_cParam_4, p1_cParam_5, p1_cParam_6, pA_cParam, ce_cParam, sp_cParam, IsLevel1_eq, *])
     all_goals first | rfl | (simp_all; done) | skip
     all_goals
      refine (loop_any pre (fun z => decide (z.name = r.name)) (fun j => [.lbx (cParam x), .int .i64 0, .lbx (cRange r), .int .i64 (j : Int)]) σ (.exit 10, [.lbx (cParam x), .int .i64 0, .lbx (cRange r), .int .i64 (pre.length : Int)], σ) (fun j => (.ret, [.lbx (cParam x), .int .i64 6, .lbx (cRange r), .int .i64 (j : Int)], σ)) _ (some (.ret, [.lbx (cParam x), .int .i64 6, .int .i64 (pre.length : Int)], σ)) ?_ ?_ rfl ?_).trans ?_
      ·intro j z hz
       obtain ⟨g1, g2, g3⟩ := iaddr_at 3 cRange hz
       have g3 := g3 hpl
       simp only [MSb, reduceCtorEq, p1_cRange_0, p1_cRange_1, p1_cRange_2, pA_cRange, ce_cRange, sp_cRange, g1, g2, g3]
       repeat' ((first | rw [gDp] | rw [gDb] | rw [cDp] | rw [cDnp] | rw [cDn] | rw [cDb]); split <;> try simp only [MSb, reduceCtorEq, *])
      ·simp only [MSb, reduceCtorEq, Int.lt_irrefl]
      ·intro j; simp only [MSb, reduceCtorEq]
      ·rw [← memB_map r.name (fun z : RangeD => z.name)]
       simp_all [MSb, reduceCtorEq]
       try (split <;> simp_all)
    ·have h0' : ¬ (0 : Int) < pre.length := by omega
     clear hl' hr hlt h30 h30' hnm k1 k2 k3 k4 k5 k6 hN hn hm hg ha hb hc hx0 he hf
     simp only [MSb, reduceCtorEq, p1_cRange_0, p1_cRange_1, p1_cRange_2, pA_cRange, ce_cRange, sp_cRange, p1_cParam_0, p1_cParam_1, p1_cParam_2, p1_cParam_3, p1_cParam_4, p1_cParam_5, p1_cParam_6, pA_cParam, ce_cParam, sp_cParam, hlt', hia, IsLevel1_eq, hi1, hi2, hNr, h0', h0]
     repeat' ((first | rw [gDp] | rw [gDb] | rw [cDp] | rw [cDnp] | rw [cDn] | rw [cDb]); split <;> try simp only [MSb, reduceCtorEq, p1_cRange_0, p1_cRange_1, p1_cRange_2, pA_cRange, ce_cRange, sp_cRange, p1_cParam_0, p1_cParam_1, p1_cParam_2, p1_cParam_3, p1_cParam_4, p1_cParam_5, p1_cParam_6, pA_cParam, ce_cParam, sp_cParam, IsLevel1_eq, *])
     all_goals first | rfl | (simp_all; done) | skip
     all_goals
      refine (loop_any pre (fun z => decide (z.name = r.name)) (fun j => [.lbx (cParam x), .int .i64 0, .lbx (cRange r), .int .i64 (j : Int)]) σ (.exit 10, [.lbx (cParam x), .int .i64 0, .lbx (cRange r), .int .i64 (pre.length : Int)], σ) (fun j => (.ret, [.lbx (cParam x), .int .i64 6, .lbx (cRange r), .int .i64 (j : Int)], σ)) _ (some (.ret, [.lbx (cParam x), .int .i64 6, .int .i64 (pre.length : Int)], σ)) ?_ ?_ rfl ?_).trans ?_
      ·intro j z hz
       obtain ⟨g1, g2, g3⟩ := iaddr_at 3 cRange hz
       have g3 := g3 hpl
       simp only [MSb, reduceCtorEq, p1_cRange_0, p1_cRange_1, p1_cRange_2, pA_cRange, ce_cRange, sp_cRange, g1, g2, g3]
       repeat' ((first | rw [gDp] | rw [gDb] | rw [cDp] | rw [cDnp] | rw [cDn] | rw [cDb]); split <;> try simp only [MSb, reduceCtorEq, *])
      ·simp only [MSb, reduceCtorEq, Int.lt_irrefl]
      ·intro j; simp only [MSb, reduceCtorEq]
      ·rw [← memB_map r.name (fun z : RangeD => z.name)]
       simp_all [MSb, reduceCtorEq]
       try (split <;> simp_all)
   ·intro u _; simp only [MSb, reduceCtorEq, Int.lt_irrefl]
   ·intro u _; simp only [MSb, reduceCtorEq]
   ·intros; simp only [MSb, reduceCtorEq]
 ·simp only [MSb, reduceCtorEq]
end Go.Proofs.YtphgchakmkankaaGreat

namespace Go.Proofs.YtphgchakmkankaaGreat
set_option linter.unusedSectionVars false
set_option linter.unusedVariables false
set_option linter.unusedSimpArgs false
theorem CheckProfile2_eq (p : ProfileD) (hok : okProfile p) (σ : Heap) : m_R2_CheckProfile [.agg (cProfile p)] σ = some (.int .i64 (profileF p), σ) := by
 refine wrap_eq rfl ?_ rfl
 show r_R2_CheckProfile (.agg (cProfile p)) σ = _
 obtain ⟨pn, ps, l⟩ := p
 obtain ⟨hnm, hps, hokl⟩ := hok
 simp only at hnm hps hokl
 have hN := IsName1_eq _ hnm
 unfold r_R2_CheckProfile profileF
 simp only [MSb, reduceCtorEq, p1_cProfile_0, p1_cProfile_1, p1_cProfile_2, pA_cProfile, ce_cProfile, sp_cProfile, hN, Within1_eq]
 cases hn : nameB pn
 ·simp only [MSb, reduceCtorEq]
 cases hz : withinB ps 1 512
 ·simp only [MSb, reduceCtorEq]
 by_cases h0 : l.length = 0
 ·obtain rfl : l = [] := List.eq_nil_of_length_eq_zero h0
  simp [MSb, reduceCtorEq]
 have h0' : ¬ (l.length : Int) = 0 := by omega
 by_cases h40 : 40 < l.length
 ·have h40' : (40 : Int) < l.length := by omega
  simp only [MSb, reduceCtorEq, h0, h0', h40, h40']
 have h40' : ¬ (40 : Int) < l.length := by omega
 simp only [MSb, reduceCtorEq, h0, h0', h40, h40']
 refine (loop_pre (S := Unit) (R := Int) l (fun pre x _ => if chkX ps pre x = 0 then .go () else .out (chkX ps pre x))
  (fun pre _ => [.lbx (cProfile ⟨pn, ps, l⟩), .int .i64 0, .int .i64 (pre.length : Int)]) (fun pre _ => σ)
  (fun _ => (.exit 1, [.lbx (cProfile ⟨pn, ps, l⟩), .int .i64 0, .int .i64 (l.length : Int)], σ))
  (fun pre _ r => (.ret, [.lbx (cProfile ⟨pn, ps, l⟩), .int .i64 r, .int .i64 (pre.length : Int)], σ))
  (fun pre _ => ∀ y ∈ pre, 0 ≤ y.fine) () (fun _ => some (AV.int .i64 0, σ)) (fun r => some (AV.int .i64 r, σ)) ?_ ?_ (by simp) ?_ ?_ ?_).trans ?_
 ·intro pre x rest u hl hpre
  have hx := pre_get hl; have hlt := pre_lt hl; have hi1 : IntKind.i64.wrap ((pre.length : Int) + 1) = (pre.length : Int) + 1 := wrap64 (by unfold inI; omega); have hi2 : IntKind.i64.wrap ((pre.length : Int) - 1) = (pre.length : Int) - 1 := wrap64 (by unfold inI; omega); have hlt' : (pre.length : Int) < (l.length : Int) := by omega
  have hX := checkParam2_eq x (hokl.2 x (by rw [hl]; simp)) pre (by unfold mxl; omega) ps hpre σ
  have hia := iaddr_sl 7 cParam l hx
  have hst := fun σ => sliceS_take 7 cParam l (k := pre.length) (by omega) (σ := σ)
  rw [pre_take hl] at hst
  clear hl hx hlt hokl h40 h40' h0 h0' hnm hps hN hn hz hpre
  simp only [MSb, reduceCtorEq, p1_cParam_0, p1_cParam_1, p1_cParam_2, p1_cParam_3, p1_cParam_4, p1_cParam_5, p1_cParam_6, pA_cParam, ce_cParam, sp_cParam, p1_cProfile_0, p1_cProfile_1, p1_cProfile_2, pA_cProfile, ce_cProfile, sp_cProfile, hlt', hia, hst, hX, hi1]
  repeat' ((first | rw [gDp] | rw [gDb] | rw [cDp] | rw [cDnp] | rw [cDn] | rw [cDb]); split <;> try simp only [MSb, reduceCtorEq, p1_cParam_0, p1_cParam_1, p1_cParam_2, p1_cParam_3, p1_cParam_4, p1_cParam_5, p1_cParam_6, pA_cParam, ce_cParam, sp_cParam, *])
  all_goals first | with_reducible rfl | (simp [*]; done) | (simp_all; done) | (simp_all; omega) | rfl
 ·intro u _
  exact hend_lss _ _ _
 ·intro pre x rest s s' hl hpre hb y hy
  rcases List.mem_append.1 hy with hy | hy
  ·exact hpre y hy
  ·simp at hy; subst hy
   by_cases h : chkX ps pre y = 0
   ·exact chkX_fine h
   ·rw [if_neg h] at hb; cases hb
 ·intro u _; simp only [MSb, reduceCtorEq]
 ·intros; simp only [MSb, reduceCtorEq]
 ·refine (runP_fault (chk := chkP ps) ?_ ?_ (fun n => some (AV.int .i64 n, σ)) l []).trans ?_
  ·intro pre; rfl
  ·intro pre x rest; rw [chkP_cons]; simp only [el_ite, el_out, el_go]
  ·rfl
theorem CheckLibrary2_eq (l : List ProfileD) (hok : okL okProfile l) (σ : Heap) : m_R2_CheckLibrary [sl 3 cProfile l] σ = some (.int .i64 (libF l), σ) := by
 refine wrap_eq rfl ?_ rfl
 show r_R2_CheckLibrary (sl 3 cProfile l) σ = _
 unfold r_R2_CheckLibrary libF
 simp only [MSb, reduceCtorEq]
 by_cases h60 : 60 < l.length
 ·have h60' : (60 : Int) < l.length := by omega
  simp only [MSb, reduceCtorEq, h60, h60']
 have h60' : ¬ (60 : Int) < l.length := by omega
 simp only [MSb, reduceCtorEq, h60, h60']
 refine (loop_pre (S := Unit) (R := Int) l (fun pre x _ => if profileF x = 0 then (if memB x.name (pre.map (·.name)) = true then .out 6 else .go ()) else .out (profileF x))
  (fun pre _ => [.int .i64 0, .int .i64 (pre.length : Int)]) (fun pre _ => σ)
  (fun _ => (.exit 0, [.int .i64 0, .int .i64 (l.length : Int)], σ)) (fun pre _ r => (.ret, [.int .i64 r, .int .i64 (pre.length : Int)], σ))
  (fun _ _ => True) () (fun _ => some (AV.int .i64 0, σ)) (fun r => some (AV.int .i64 r, σ)) ?_ ?_ trivial (fun _ _ _ _ _ _ _ _ => trivial) ?_ ?_).trans ?_
 ·intro pre x rest u hl _
  have hx := pre_get hl; have hlt := pre_lt hl; have hi1 : IntKind.i64.wrap ((pre.length : Int) + 1) = (pre.length : Int) + 1 := wrap64 (by unfold inI; omega); have hi2 : IntKind.i64.wrap ((pre.length : Int) - 1) = (pre.length : Int) - 1 := wrap64 (by unfold inI; omega); have hlt' : (pre.length : Int) < (l.length : Int) := by omega
  have hP := CheckProfile2_eq x (hok.2 x (by rw [hl]; simp))
  have hia := iaddr_sl 3 cProfile l hx
  have hst := fun σ => sliceS_take 3 cProfile l (k := pre.length) (by omega) (σ := σ)
  rw [pre_take hl] at hst
  have hpl : pre.length ≤ mxl := by unfold mxl; omega
  clear hl hx hlt hok h60 h60'
  simp only [MSb, reduceCtorEq, p1_cProfile_0, p1_cProfile_1, p1_cProfile_2, pA_cProfile, ce_cProfile, sp_cProfile, hlt', hia, hi1, hst, hP]
  by_cases hp : profileF x = 0
  ·simp only [MSb, reduceCtorEq, hp]
   refine (loop_any pre (fun z => decide (z.name = x.name)) (fun j => [.int .i64 0, .lbx (cProfile x), .int .i64 (j : Int)]) σ (.exit 2, [.int .i64 0, .lbx (cProfile x), .int .i64 (pre.length : Int)], σ) (fun j => (.ret, [.int .i64 6, .lbx (cProfile x), .int .i64 (j : Int)], σ)) _ (some (.ret, [.int .i64 6, .int .i64 (pre.length : Int)], σ)) ?_ ?_ rfl ?_).trans ?_
   ·intro j z hz
    obtain ⟨g1, g2, g3⟩ := iaddr_at 3 cProfile hz
    have g3 := g3 hpl
    simp only [MSb, reduceCtorEq, p1_cProfile_0, p1_cProfile_1, p1_cProfile_2, pA_cProfile, ce_cProfile, sp_cProfile, g1, g2, g3]
    repeat' ((first | rw [gDp] | rw [gDb] | rw [cDp] | rw [cDnp] | rw [cDn] | rw [cDb]); split <;> try simp only [MSb, reduceCtorEq, *])
   ·simp only [MSb, reduceCtorEq, Int.lt_irrefl]
   ·intro j; simp only [MSb, reduceCtorEq]
   ·rw [← memB_map x.name (fun z : ProfileD => z.name)]
    simp only [MSb, reduceCtorEq, hi1]
    cases memB x.name (pre.map (·.name)) <;> simp [Rd.el]
  ·simp only [MSb, reduceCtorEq, hp]
 ·intro u _
  exact hend_lss _ _ _
 ·intro u _; simp only [MSb, reduceCtorEq]
 ·intros; simp only [MSb, reduceCtorEq]
 ·refine (runP_fault (chk := chkL) ?_ ?_ (fun n => some (AV.int .i64 n, σ)) l []).trans ?_
  ·intro pre; rfl
  ·intro pre x rest; rw [chkL]; simp only [el_ite, el_out, el_go]
  ·rfl
theorem last2_eq (r : RigD) (u : UnitD) (hl : r.library.length ≤ mxl) (h : inI (u.address + (profOf u.profile r.library).1.size)) (h' : inI (lastU r.library u)) (σ : Heap) : m_R2_last [.agg (cRig r), .agg (cUnit u)] σ = some (.int .i64 (lastU r.library u), σ) := by
 refine wrap_eq rfl ?_ rfl
 show r_R2_last (.agg (cRig r)) (.agg (cUnit u)) σ = _
 unfold r_R2_last
 unfold lastU at h' ⊢
 simp only [MSb, reduceCtorEq, p1_cRig_0, p1_cRig_1, pA_cRig, ce_cRig, sp_cRig, p1_cUnit_0, p1_cUnit_1, p1_cUnit_2, p1_cUnit_3, pA_cUnit, ce_cUnit, sp_cUnit, p1_cProfile_0, p1_cProfile_1, p1_cProfile_2, pA_cProfile, ce_cProfile, sp_cProfile, Profile2_eq _ hl, wrap64 h, wrap64 h']
end Go.Proofs.YtphgchakmkankaaGreat

namespace Go.Proofs.YtphgchakmkankaaGreat
set_option linter.unusedSectionVars false
set_option linter.unusedVariables false
set_option linter.unusedSimpArgs false
theorem ordB_cases {α : Type} (f : α → Int) {l pre rest : List α} {x : α} (h : l = pre ++ x :: rest) (n : Int) : (∃ y, 0 < pre.length ∧ l[pre.length - 1]? = some y ∧ ordB (pre.map f) n = decide (n ≤ f y)) ∨ (¬ 0 < pre.length ∧ ordB (pre.map f) n = false) := by
 by_cases h0 : 0 < pre.length
 ·obtain ⟨y, hy, hy2⟩ := pre_last h h0
  exact .inl ⟨y, h0, hy2, by simp [ordB, List.getLast?_map, hy]⟩
 ·obtain rfl : pre = [] := List.eq_nil_of_length_eq_zero (by omega)
  exact .inr ⟨h0, rfl⟩
theorem lastIn {r : RigD} {x : UnitD} (h : 1 ≤ x.address ∧ x.address ≤ lastU r.library x ∧ lastU r.library x ≤ 512) : inI (x.address + (profOf x.profile r.library).1.size) ∧ inI (lastU r.library x) := by
 unfold lastU at h ⊢
 unfold inI
 omega
theorem CheckRig2_eq (r : RigD) (hok : okRig r) (σ : Heap) : m_R2_CheckRig [.agg (cRig r)] σ = some (.int .i64 (rigF r), σ) := by
 refine wrap_eq rfl ?_ rfl
 show r_R2_CheckRig (.agg (cRig r)) σ = _
 obtain ⟨hlib, hus⟩ := hok
 have hmx := hlib.1
 unfold r_R2_CheckRig rigF
 simp only [MSb, reduceCtorEq, p1_cRig_0, p1_cRig_1, pA_cRig, ce_cRig, sp_cRig, CheckLibrary2_eq _ hlib]
 by_cases hf : libF r.library = 0
 case neg => simp only [MSb, reduceCtorEq, hf]
 by_cases h4 : 400 < r.units.length
 ·have h4' : (400 : Int) < r.units.length := by omega
  simp only [MSb, reduceCtorEq, p1_cRig_0, p1_cRig_1, pA_cRig, ce_cRig, sp_cRig, hf, h4, h4']
 have h4' : ¬ (400 : Int) < r.units.length := by omega
 simp only [MSb, reduceCtorEq, p1_cRig_0, p1_cRig_1, pA_cRig, ce_cRig, sp_cRig, hf, h4, h4']
 have hsizes := libF_sizes hf
 generalize hlq : r.units = l at *
 refine (loop_pre (S := Unit) (R := Int) l (fun pre u _ => if withinB u.number 1 9999 = false then .out 1
    else if ordB (pre.map (·.number)) u.number = true then .out 7
    else if (profOf u.profile r.library).2 = false then .out 5
    else if withinB u.univ 1 64 = false ∨ withinB u.address 1 512 = false ∨ 512 < lastU r.library u then .out 1
    else if clashU r.library u pre = true then .out 12 else .go ())
  (fun pre _ => [.lbx (cRig r), .int .i64 0, .int .i64 (pre.length : Int)]) (fun pre _ => σ)
  (fun _ => (.exit 0, [.lbx (cRig r), .int .i64 0, .int .i64 (l.length : Int)], σ)) (fun pre _ n => (.ret, [.lbx (cRig r), .int .i64 n, .int .i64 (pre.length : Int)], σ))
  (fun pre _ => UnitsOk r.library pre) () (fun _ => some (AV.int .i64 0, σ)) (fun n => some (AV.int .i64 n, σ)) ?_ ?_ (by intro x hx; simp at hx) ?_ ?_ ?_).trans ?_
 ·intro pre u rest s hl hP
  have hx := pre_get hl; have hlt := pre_lt hl; have hi1 : IntKind.i64.wrap ((pre.length : Int) + 1) = (pre.length : Int) + 1 := wrap64 (by unfold inI; omega); have hi2 : IntKind.i64.wrap ((pre.length : Int) - 1) = (pre.length : Int) - 1 := wrap64 (by unfold inI; omega); have hlt' : (pre.length : Int) < (l.length : Int) := by omega
  have hmp : pre.length ≤ mxl := by unfold mxl; omega
  have hia := iaddr_sl 4 cUnit l hx
  have hst := fun σ => sliceS_take 4 cUnit l (k := pre.length) (by omega) (σ := σ)
  rw [pre_take hl] at hst
  have hPr := Profile2_eq r.library hmx u.profile
  have ho := ordB_cases (·.number) hl u.number
  clear hus h4 h4' hl hx
  simp only [MSb, reduceCtorEq, p1_cUnit_0, p1_cUnit_1, p1_cUnit_2, p1_cUnit_3, pA_cUnit, ce_cUnit, sp_cUnit, p1_cRig_0, p1_cRig_1, pA_cRig, ce_cRig, sp_cRig, hlq, hlt', hia, hPr, p1_cProfile_0, p1_cProfile_1, p1_cProfile_2, pA_cProfile, ce_cProfile, sp_cProfile, Within1_eq]
  cases h1 : withinB u.number 1 9999
  ·simp only [MSb, reduceCtorEq]
  simp only [MSb, reduceCtorEq]
  rcases ho with ⟨y, h0, hy, ho⟩ | ⟨h0, ho⟩
  case' inl =>
   have h0' : (0 : Int) < pre.length := by omega
   have hia2 := iaddr_pred 4 cUnit l h0 hy
   by_cases hq : u.number ≤ y.number
   ·simp only [MSb, reduceCtorEq, p1_cUnit_0, p1_cUnit_1, p1_cUnit_2, p1_cUnit_3, pA_cUnit, ce_cUnit, sp_cUnit, p1_cRig_0, p1_cRig_1, pA_cRig, ce_cRig, sp_cRig, hlq, h0', hi2, hia2, ho, hq]
   simp only [MSb, reduceCtorEq, p1_cUnit_0, p1_cUnit_1, p1_cUnit_2, p1_cUnit_3, pA_cUnit, ce_cUnit, sp_cUnit, p1_cRig_0, p1_cRig_1, pA_cRig, ce_cRig, sp_cRig, hlq, h0', hi2, hia2, ho, hq]
  case' inr =>
   have h0' : ¬ (0 : Int) < pre.length := by omega
   simp only [MSb, reduceCtorEq, h0', ho]
  all_goals
   cases hp : (profOf u.profile r.library).2
   ·simp only [MSb, reduceCtorEq]
   have hsz := hsizes _ (profOf_mem _ _ hp)
   cases hu : withinB u.univ 1 64
   ·simp only [MSb, reduceCtorEq, p1_cUnit_0, p1_cUnit_1, p1_cUnit_2, p1_cUnit_3, pA_cUnit, ce_cUnit, sp_cUnit, Within1_eq, hu]
   cases ha : withinB u.address 1 512
   ·simp only [MSb, reduceCtorEq, p1_cUnit_0, p1_cUnit_1, p1_cUnit_2, p1_cUnit_3, pA_cUnit, ce_cUnit, sp_cUnit, Within1_eq, hu, ha]
   have ha' : 1 ≤ u.address ∧ u.address ≤ 512 := by simpa [withinB] using ha
   have hLu := last2_eq r u hmx (by unfold inI; omega) (by unfold lastU inI; omega)
   by_cases h5 : 512 < lastU r.library u
   ·simp only [MSb, reduceCtorEq, p1_cUnit_0, p1_cUnit_1, p1_cUnit_2, p1_cUnit_3, pA_cUnit, ce_cUnit, sp_cUnit, p1_cRig_0, p1_cRig_1, pA_cRig, ce_cRig, sp_cRig, Within1_eq, hu, ha, hLu, h5]
   simp only [MSb, reduceCtorEq, p1_cUnit_0, p1_cUnit_1, p1_cUnit_2, p1_cUnit_3, pA_cUnit, ce_cUnit, sp_cUnit, p1_cRig_0, p1_cRig_1, pA_cRig, ce_cRig, sp_cRig, Within1_eq, hu, ha, hLu, h5, hlq, hst]
   refine (loop_any pre (fun x => decide (x.univ = u.univ ∧ x.address ≤ lastU r.library u ∧ u.address ≤ lastU r.library x)) (fun j => [.lbx (cRig r), .int .i64 0, .lbx (cUnit u), .int .i64 (j : Int)]) σ (.exit 3, [.lbx (cRig r), .int .i64 0, .lbx (cUnit u), .int .i64 (pre.length : Int)], σ) (fun j => (.ret, [.lbx (cRig r), .int .i64 12, .lbx (cUnit u), .int .i64 (j : Int)], σ)) _ (some (.ret, [.lbx (cRig r), .int .i64 12, .int .i64 (pre.length : Int)], σ)) ?_ ?_ rfl ?_).trans ?_
   ·intro j z hz
    obtain ⟨g1, g2, g3⟩ := iaddr_at 4 cUnit hz
    have g3 := g3 hmp
    have hzo := lastIn (hP z (List.mem_of_getElem? hz))
    have hLz := last2_eq r z hmx hzo.1 hzo.2
    clear hP hsizes hz
    simp only [MSb, reduceCtorEq, p1_cUnit_0, p1_cUnit_1, p1_cUnit_2, p1_cUnit_3, pA_cUnit, ce_cUnit, sp_cUnit, p1_cRig_0, p1_cRig_1, pA_cRig, ce_cRig, sp_cRig, g1, g2, g3]
    repeat' ((first | rw [gDp] | rw [gDb] | rw [cDp] | rw [cDnp] | rw [cDn] | rw [cDb]); split <;> try simp only [MSb, reduceCtorEq, p1_cUnit_0, p1_cUnit_1, p1_cUnit_2, p1_cUnit_3, pA_cUnit, ce_cUnit, sp_cUnit, p1_cRig_0, p1_cRig_1, pA_cRig, ce_cRig, sp_cRig, hLu, hLz, *])
    all_goals first | with_reducible rfl | (simp [*]; done) | (simp_all; done) | (simp_all; omega) | rfl
   ·exact hend_lss _ _ _
   ·intro j; simp only [MSb, reduceCtorEq]
   ·unfold clashU
    simp only [MSb, reduceCtorEq, hi1]
    cases pre.any (fun x => decide (x.univ = u.univ ∧ x.address ≤ lastU r.library u ∧ u.address ≤ lastU r.library x)) <;> simp [Rd.el]
 ·intro u _
  exact hend_lss _ _ _
 ·intro pre u rest s s' hl hP hb
  split at hb
  ·cases hb
  split at hb
  ·cases hb
  split at hb
  ·cases hb
  rename_i hp
  split at hb
  ·cases hb
  rename_i hw
  simp only [not_or, Bool.not_eq_false, withinB, Bool.and_eq_true, decide_eq_true_eq] at hw hp
  have hsz := hsizes _ (profOf_mem _ _ (by simpa using hp))
  exact hP.snoc ⟨hw.2.1.1, by unfold lastU; omega, by omega⟩
 ·intro u _; simp only [MSb, reduceCtorEq]
 ·intros; simp only [MSb, reduceCtorEq]
 ·refine (runP_fault (chk := chkU r.library) ?_ ?_ (fun n => some (AV.int .i64 n, σ)) l []).trans ?_
  ·intro pre; rfl
  ·intro pre x rest; rw [chkU]; simp only [el_ite, el_out, el_go]
  ·rfl
end Go.Proofs.YtphgchakmkankaaGreat

namespace Go.Proofs.YtphgchakmkankaaGreat
set_option linter.unusedSectionVars false
set_option linter.unusedVariables false
set_option linter.unusedSimpArgs false
theorem usH_look (σ : Heap) (vs : List Int) (f : Int → Nat → Bool) (v : Int) : A.look .i (.om σ.length) (.int .i64 v) AV.np (usH σ vs f) = some (if v ∈ vs then .op (σ.length + 1 + vs.idxOf v) 0 else .np) := by
 rw [look_at .i rfl (usH_map σ vs _), usE_find]
 by_cases hm : v ∈ vs <;> simp [hm]
theorem fin_usH (σ : Heap) (vs : List Int) (f : Int → Nat → Bool) (n : Int) : A.fin σ (.int .i64 n) (usH σ vs f) = some (.int .i64 n, σ) := fin_int _ _ _ _
theorem CheckRig_eq (r : RigD) (hok : okRig r) (σ : Heap) : m_fixture_CheckRig [.agg (cRig r)] σ = some (.int .i64 (rigF r), σ) := by
 refine wrap_eq rfl ?_ rfl
 show r_fixture_CheckRig (.agg (cRig r)) σ = _
 obtain ⟨hlib, hus⟩ := hok
 have hmx := hlib.1
 unfold r_fixture_CheckRig rigF
 simp only [MSb, reduceCtorEq, p1_cRig_0, p1_cRig_1, pA_cRig, ce_cRig, sp_cRig, CheckLibrary_eq _ hlib]
 by_cases hf : libF r.library = 0
 case neg => simp only [MSb, reduceCtorEq, hf]
 by_cases h4 : 400 < r.units.length
 ·have h4' : (400 : Int) < r.units.length := by omega
  simp only [MSb, reduceCtorEq, p1_cRig_0, p1_cRig_1, pA_cRig, ce_cRig, sp_cRig, hf, h4, h4']
 have h4' : ¬ (400 : Int) < r.units.length := by omega
 simp only [MSb, reduceCtorEq, p1_cRig_0, p1_cRig_1, pA_cRig, ce_cRig, sp_cRig, hf, h4, h4']
 have hsizes := libF_sizes hf
 generalize hlq : r.units = l at *
 refine (loop_pre (S := List Int × (Int → Nat → Bool)) (R := Int) l (fun pre u s => if withinB u.number 1 9999 = false then .out 1
    else if ordB (pre.map (·.number)) u.number = true then .out 7
    else if (profOf u.profile r.library).2 = false then .out 5
    else if withinB u.univ 1 64 = false ∨ withinB u.address 1 512 = false ∨ 512 < lastU r.library u then .out 1
    else if clashU r.library u pre = true then .out 12 else .go (if u.univ ∈ s.1 then s.1 else s.1 ++ [u.univ], markF s.2 u.univ u.address.toNat (profOf u.profile r.library).1.size.toNat))
  (fun pre _ => [.lbx (cRig r), .int .i64 0, .int .i64 (pre.length : Int)]) (fun pre s => usH σ s.1 s.2)
  (fun s => (.exit 0, [.lbx (cRig r), .int .i64 0, .int .i64 (l.length : Int)], usH σ s.1 s.2)) (fun pre s n => (.ret, [.lbx (cRig r), .int .i64 n, .int .i64 (pre.length : Int)], usH σ s.1 s.2))
  (fun pre s => UnitsOk r.library pre ∧ MarksP r.library pre s.2 ∧ s.1.Nodup ∧ ∀ v, v ∉ s.1 → ∀ k, s.2 v k = false) ([], fun _ _ => false) (fun _ => some (AV.int .i64 0, σ)) (fun n => some (AV.int .i64 n, σ)) ?_ ?_ ⟨(by intro x hx; simp at hx), MarksP.nil _, List.nodup_nil, fun _ _ _ => rfl⟩ ?_ ?_ ?_).trans ?_
 ·intro pre u rest s hl hP
  have hx := pre_get hl; have hlt := pre_lt hl; have hi1 : IntKind.i64.wrap ((pre.length : Int) + 1) = (pre.length : Int) + 1 := wrap64 (by unfold inI; omega); have hi2 : IntKind.i64.wrap ((pre.length : Int) - 1) = (pre.length : Int) - 1 := wrap64 (by unfold inI; omega); have hlt' : (pre.length : Int) < (l.length : Int) := by omega
  have hmp : pre.length ≤ mxl := by unfold mxl; omega
  have hia := iaddr_sl 4 cUnit l hx
  have hPr := profile_eq r.library hmx u.profile
  have ho := ordB_cases (·.number) hl u.number
  obtain ⟨vs, f⟩ := s
  obtain ⟨hP1, hP2, hP3, hP4⟩ := hP
  dsimp only at hP1 hP2 hP3 hP4 ⊢
  clear hus h4 h4' hl hx
  simp only [MSb, reduceCtorEq, p1_cUnit_0, p1_cUnit_1, p1_cUnit_2, p1_cUnit_3, pA_cUnit, ce_cUnit, sp_cUnit, p1_cRig_0, p1_cRig_1, pA_cRig, ce_cRig, sp_cRig, hlq, hlt', hia, hPr, p1_cProfile_0, p1_cProfile_1, p1_cProfile_2, pA_cProfile, ce_cProfile, sp_cProfile, Within_eq]
  cases h1 : withinB u.number 1 9999
  ·simp only [MSb, reduceCtorEq]
  simp only [MSb, reduceCtorEq]
  rcases ho with ⟨y, h0, hy, ho⟩ | ⟨h0, ho⟩
  case' inl =>
   have h0' : (0 : Int) < pre.length := by omega
   have hia2 := iaddr_pred 4 cUnit l h0 hy
   by_cases hq : u.number ≤ y.number
   ·simp only [MSb, reduceCtorEq, p1_cUnit_0, p1_cUnit_1, p1_cUnit_2, p1_cUnit_3, pA_cUnit, ce_cUnit, sp_cUnit, p1_cRig_0, p1_cRig_1, pA_cRig, ce_cRig, sp_cRig, hlq, h0', hi2, hia2, ho, hq]
   simp only [MSb, reduceCtorEq, p1_cUnit_0, p1_cUnit_1, p1_cUnit_2, p1_cUnit_3, pA_cUnit, ce_cUnit, sp_cUnit, p1_cRig_0, p1_cRig_1, pA_cRig, ce_cRig, sp_cRig, hlq, h0', hi2, hia2, ho, hq]
  case' inr =>
   have h0' : ¬ (0 : Int) < pre.length := by omega
   simp only [MSb, reduceCtorEq, h0', ho]
  all_goals
   try simp only [MSb, reduceCtorEq, p1_cUnit_0, p1_cUnit_1, p1_cUnit_2, p1_cUnit_3, pA_cUnit, ce_cUnit, sp_cUnit, p1_cRig_0, p1_cRig_1, pA_cRig, ce_cRig, sp_cRig, hlq, hPr]
   cases hp : (profOf u.profile r.library).2
   ·simp only [MSb, reduceCtorEq, p1_cProfile_0, p1_cProfile_1, p1_cProfile_2, pA_cProfile, ce_cProfile, sp_cProfile]
   have hsz := hsizes _ (profOf_mem _ _ hp)
   try simp only [MSb, reduceCtorEq, p1_cUnit_0, p1_cUnit_1, p1_cUnit_2, p1_cUnit_3, pA_cUnit, ce_cUnit, sp_cUnit, p1_cProfile_0, p1_cProfile_1, p1_cProfile_2, pA_cProfile, ce_cProfile, sp_cProfile, Within_eq]
   cases hu : withinB u.univ 1 64
   ·simp only [MSb, reduceCtorEq]
   cases ha : withinB u.address 1 512
   ·simp only [MSb, reduceCtorEq, p1_cUnit_0, p1_cUnit_1, p1_cUnit_2, p1_cUnit_3, pA_cUnit, ce_cUnit, sp_cUnit, Within_eq, ha]
   have ha' : 1 ≤ u.address ∧ u.address ≤ 512 := by simpa [withinB] using ha
   have hw1 : IntKind.i64.wrap (u.address + (profOf u.profile r.library).1.size) = u.address + (profOf u.profile r.library).1.size := wrap64 (by unfold inI; omega)
   have hw2 : IntKind.i64.wrap (u.address + (profOf u.profile r.library).1.size - 1) = lastU r.library u := wrap64 (by unfold inI; omega)
   have hlu : lastU r.library u = u.address + (profOf u.profile r.library).1.size - 1 := rfl
   by_cases h5 : 512 < lastU r.library u
   ·simp only [MSb, reduceCtorEq, p1_cUnit_0, p1_cUnit_1, p1_cUnit_2, p1_cUnit_3, pA_cUnit, ce_cUnit, sp_cUnit, p1_cProfile_0, p1_cProfile_1, p1_cProfile_2, pA_cProfile, ce_cProfile, sp_cProfile, Within_eq, ha, hw1, hw2, h5]
   obtain ⟨a, hae⟩ : ∃ a : Nat, u.address = a := ⟨u.address.toNat, by omega⟩
   obtain ⟨n, hne⟩ : ∃ n : Nat, (profOf u.profile r.library).1.size = n := ⟨(profOf u.profile r.library).1.size.toNat, by omega⟩
   have hfc := free_clash hP2 hP1 u a n hae (by omega) (by omega) (by omega)
   have hfree : m_fixture_slots_free [if u.univ ∈ vs then .op (σ.length + 1 + vs.idxOf u.univ) 0 else .np, .int .i64 (a : Int), .int .i64 (n : Int)] (usH σ vs f) = some (.bool (!clashU r.library u pre), usH σ vs f) := by
    by_cases hm : u.univ ∈ vs
    ·rw [if_pos hm, free_op (f u.univ) a n (by omega) (usH_box σ f hm), hfc]
    ·rw [if_neg hm, free_np a n (by unfold inI; omega) (by unfold inI; omega), ← hfc]
     have e : freeF (f u.univ) n a = true := (freeF_iff _ _ _).2 fun k h1 h2 => ⟨by omega, hP4 _ hm k⟩
     rw [e, show decide ((a : Int) + n - 1 ≤ 512) = true from decide_eq_true (by omega)]
   have htk := take_eq σ hP3 f u a n hae (by omega) (hP4 u.univ)
   simp only [MSb, reduceCtorEq, p1_cUnit_0, p1_cUnit_1, p1_cUnit_2, p1_cUnit_3, pA_cUnit, ce_cUnit, sp_cUnit, p1_cProfile_0, p1_cProfile_1, p1_cProfile_2, pA_cProfile, ce_cProfile, sp_cProfile, Within_eq, ha, hw1, hw2, h5, usH_look]
   rw [hae, hne]
   simp only [MSb, reduceCtorEq, hfree]
   cases hc : clashU r.library u pre
   ·simp only [MSb, reduceCtorEq, p1_cUnit_0, p1_cUnit_1, p1_cUnit_2, p1_cUnit_3, pA_cUnit, ce_cUnit, sp_cUnit, p1_cProfile_0, p1_cProfile_1, p1_cProfile_2, pA_cProfile, ce_cProfile, sp_cProfile, hne, htk, hi1, Int.toNat_natCast]
   ·simp only [MSb, reduceCtorEq]
 ·intro s _
  exact hend_lss _ _ _
 ·intro pre u rest s s' hl hP hb
  obtain ⟨vs, f⟩ := s
  obtain ⟨hP1, hP2, hP3, hP4⟩ := hP
  dsimp only at hP1 hP2 hP3 hP4 hb
  split at hb
  ·cases hb
  split at hb
  ·cases hb
  split at hb
  ·cases hb
  rename_i hp
  split at hb
  ·cases hb
  rename_i hw
  split at hb
  ·cases hb
  injection hb with hb
  subst hb
  simp only [not_or, Bool.not_eq_false, withinB, Bool.and_eq_true, decide_eq_true_eq] at hw hp
  have hsz := hsizes _ (profOf_mem _ _ (by simpa using hp))
  have hlu : lastU r.library u = u.address + (profOf u.profile r.library).1.size - 1 := rfl
  refine ⟨hP1.snoc ⟨hw.2.1.1, by omega, by omega⟩, hP2.snoc u u.address.toNat _ (by omega) (by omega), ?_, ?_⟩
  ·dsimp only
   split
   ·exact hP3
   ·rename_i hm
    rw [List.nodup_append]; exact ⟨hP3, by simp, fun x hx y hy e => hm (by simp at hy; rw [← hy, ← e]; exact hx)⟩
  ·intro v hv k
   dsimp only at hv ⊢
   have h1 : v ≠ u.univ ∧ v ∉ vs := by
    split at hv
    ·rename_i hm
     exact ⟨fun e => hv (e ▸ hm), hv⟩
    ·simp only [List.mem_append, List.mem_singleton, not_or] at hv
     exact ⟨hv.2, hv.1⟩
   unfold markF
   rw [if_neg (fun q => h1.1 q.1)]
   exact hP4 v h1.2 k
 ·intro s _; simp only [MSb, reduceCtorEq, fin_usH]
 ·intros; simp only [MSb, reduceCtorEq, fin_usH]
 ·refine (runP_state (chk := chkU r.library) ?_ ?_ (fun n => some (AV.int .i64 n, σ)) l [] _).trans ?_
  ·intro pre; rfl
  ·intro pre x rest s; rw [chkU]; simp only [el_ite, el_out, el_go]
  ·rfl
end Go.Proofs.YtphgchakmkankaaGreat

namespace Go.Proofs.YtphgchakmkankaaGreat
set_option linter.unusedSectionVars false
set_option linter.unusedVariables false
set_option linter.unusedSimpArgs false
def unitKeys (lib : List ProfileD) (u : UnitD) : List KeyD := (profOf u.profile lib).1.params.map fun x => ⟨u.number, x.name⟩
def keysOf (r : RigD) : List KeyD := r.units.flatMap (unitKeys r.library)
theorem profileF_params {p : ProfileD} (h : profileF p = 0) : p.params.length ≤ 40 := by
 unfold profileF at h
 repeat' split at h
 all_goals first | (simp at h; done) | omega
theorem chkL_right : ∀ (l pre : List ProfileD), chkL pre l = 0 → ∀ p ∈ l, profileF p = 0
 | [], pre, h, p, hp => by simp at hp
 | q :: rest, pre, h, p, hp => by
  rw [chkL] at h
  by_cases e : profileF q = 0
  ·rw [if_pos e] at h
   by_cases e2 : memB q.name (pre.map (·.name)) = true
   ·rw [if_pos e2] at h; simp at h
   ·rw [if_neg e2] at h
    simp only [List.mem_cons] at hp
    rcases hp with rfl | hp
    ·exact e
    ·exact chkL_right rest _ h p hp
  ·rw [if_neg e] at h; exact absurd h e
theorem rigF_lib {r : RigD} (h : rigF r = 0) : libF r.library = 0 := by
 unfold rigF at h
 split at h
 ·assumption
 ·rename_i h2; exact absurd h h2
theorem libF_right {l : List ProfileD} (h : libF l = 0) : ∀ p ∈ l, profileF p = 0 := by
 unfold libF at h
 by_cases e : 60 < l.length
 ·rw [if_pos e] at h; simp at h
 ·rw [if_neg e] at h; exact chkL_right l [] h
theorem params_len {r : RigD} (h : rigF r = 0) (nm : ByteArray) : (profOf nm r.library).1.params.length ≤ 40 := by
 rw [profOf_find]
 cases hf : r.library.find? (fun x : ProfileD => decide (x.name = nm)) with
 | none => exact Nat.zero_le _
 | some p => exact profileF_params (libF_right (rigF_lib h) p (List.mem_of_find?_eq_some hf))
theorem unitKeys_len {r : RigD} (h : rigF r = 0) : ∀ (l : List UnitD), (l.flatMap (unitKeys r.library)).length ≤ l.length * 40
 | [] => by simp
 | u :: l => by
  have h1 := params_len h u.profile
  have h2 := unitKeys_len h l
  rw [List.flatMap_cons, List.length_append, List.length_cons, Nat.succ_mul]
  have h3 : (unitKeys r.library u).length = (profOf u.profile r.library).1.params.length := by simp [unitKeys]
  omega
theorem nnKeys (l : List KeyD) (n : Int) : A.nn (.t [(.s 2), .k]) (.tup [if l = [] then .nsl else sl 2 cKey l, .int .i64 n]) = .tup [sl 2 cKey l, .int .i64 n] := by
 show AV.tup [A.nn (.s 2) (if l = [] then .nsl else sl 2 cKey l), .int .i64 n] = _
 rw [nn_own]
theorem rigF_units {r : RigD} (h : rigF r = 0) : r.units.length ≤ 400 := by
 unfold rigF at h
 split at h
 ·split at h
  ·cases h
  ·omega
 ·rename_i h2; exact absurd h h2
theorem Keys_eq (r : RigD) (hok : okRig r) (σ : Heap) : m_fixture_Keys [.agg (cRig r)] σ = some (.tup [sl 2 cKey (if rigF r = 0 then keysOf r else []), .int .i64 (rigF r)], σ) := by
 by_cases hf : rigF r = 0
 ·refine wrap_eq rfl (v := .tup [if keysOf r = [] then .nsl else sl 2 cKey (keysOf r), .int .i64 0]) ?_ (by rw [if_pos hf, hf]; exact nnKeys _ _)
  show r_fixture_Keys (.agg (cRig r)) σ = _
  unfold r_fixture_Keys
  have hu := rigF_units hf
  have hlib := hok.1.2
  simp only [MSb, reduceCtorEq, p1_cRig_0, p1_cRig_1, pA_cRig, ce_cRig, sp_cRig, CheckRig_eq r hok, hf]
  refine (loop_pre (S := Unit) (R := Unit) r.units (fun pre u _ => (Rd.go () : Rd Unit Unit))
   (fun pre _ => [.lbx (cRig r), ownV σ.length 2 (pre.flatMap (unitKeys r.library)), .int .i64 (pre.length : Int)]) (fun pre _ => σ ++ ownB 2 cKey (pre.flatMap (unitKeys r.library)))
   (fun _ => (.exit 0, [.lbx (cRig r), ownV σ.length 2 (keysOf r), .int .i64 (r.units.length : Int)], σ ++ ownB 2 cKey (keysOf r))) (fun pre _ _ => (.ret, [], σ))
   (fun _ _ => True) () (fun _ => some (AV.tup [if keysOf r = [] then .nsl else sl 2 cKey (keysOf r), .int .i64 0], σ)) (fun _ => none) ?_ ?_ trivial (fun _ _ _ _ _ _ _ _ => trivial) ?_ ?_ (hσ := by simp [ownB_nil])).trans (run_go _ _ _ _)
  ·intro pre u rest s hl _
   have hx := pre_get hl
   have hlt := pre_lt hl
   have hi1 : IntKind.i64.wrap ((pre.length : Int) + 1) = (pre.length : Int) + 1 := wrap64 (by unfold inI; omega)
   have hlt' : (pre.length : Int) < (r.units.length : Int) := by omega
   have hia := iaddr_sl 4 cUnit r.units hx
   have hPr := profile_eq r.library hok.1.1 u.profile
   have hps := params_len hf u.profile
   have hkl := unitKeys_len hf pre
   have hsn : (pre ++ [u]).flatMap (unitKeys r.library) = pre.flatMap (unitKeys r.library) ++ unitKeys r.library u := by simp
   have hpre4 : pre.length ≤ 399 := by omega
   generalize hK : pre.flatMap (unitKeys r.library) = K at *
   generalize hq : (profOf u.profile r.library).1 = p at *
   simp only [MSb, reduceCtorEq, p1_cUnit_0, p1_cUnit_1, p1_cUnit_2, p1_cUnit_3, pA_cUnit, ce_cUnit, sp_cUnit, p1_cRig_0, p1_cRig_1, pA_cRig, ce_cRig, sp_cRig, hlt', hia, hPr, hq, p1_cProfile_0, p1_cProfile_1, p1_cProfile_2, pA_cProfile, ce_cProfile, sp_cProfile]
   refine (loop_pre (S := Unit) (R := Unit) p.params (fun pre u _ => (Rd.go () : Rd Unit Unit))
    (fun qre _ => [.lbx (cRig r), ownV σ.length 2 (K ++ qre.map fun x => (⟨u.number, x.name⟩ : KeyD)), .lbx (cUnit u), .int .i64 (qre.length : Int)]) (fun qre _ => σ ++ ownB 2 cKey (K ++ qre.map fun x => (⟨u.number, x.name⟩ : KeyD)))
    (fun _ => (.exit 2, [.lbx (cRig r), ownV σ.length 2 (K ++ unitKeys r.library u), .lbx (cUnit u), .int .i64 (p.params.length : Int)], σ ++ ownB 2 cKey (K ++ unitKeys r.library u))) (fun pre _ _ => (.ret, [], σ))
    (fun _ _ => True) () (fun _ => some (.normal, [.lbx (cRig r), ownV σ.length 2 (K ++ unitKeys r.library u), .int .i64 ((pre.length : Int) + 1)], σ ++ ownB 2 cKey (K ++ unitKeys r.library u))) (fun _ => none) ?_ ?_ trivial (fun _ _ _ _ _ _ _ _ => trivial) ?_ ?_ (hv := by simp) (hσ := by simp)).trans ((run_go _ _ _ _).trans ?_)
   ·intro qre x rest' s hl' _
    have gx := pre_get hl'
    have glt := pre_lt hl'
    have gi1 : IntKind.i64.wrap ((qre.length : Int) + 1) = (qre.length : Int) + 1 := wrap64 (by unfold inI; omega)
    have glt' : (qre.length : Int) < (p.params.length : Int) := by omega
    have gia := iaddr_sl 7 cParam p.params gx
    have hap := own_append (most := 140737488355328 / 24) (sz := 2) cKey (K ++ qre.map fun x => (⟨u.number, x.name⟩ : KeyD)) ⟨u.number, x.name⟩ σ (by
     rw [List.length_append, List.length_map]
     omega)
    have hsn' : (K ++ (qre ++ [x]).map fun x => (⟨u.number, x.name⟩ : KeyD)) = (K ++ qre.map fun x => (⟨u.number, x.name⟩ : KeyD)) ++ [⟨u.number, x.name⟩] := by simp
    clear hl gx glt hx hlt hkl hl'
    rw [hsn']
    have hch : AV.sl 2 (chunks 2 1 [AV.int .i64 u.number, AV.str x.name]) = .sl 2 [cKey ⟨u.number, x.name⟩] := rfl
    simp only [MSb, reduceCtorEq, p1_cParam_0, p1_cParam_1, p1_cParam_2, p1_cParam_3, p1_cParam_4, p1_cParam_5, p1_cParam_6, pA_cParam, ce_cParam, sp_cParam, p1_cUnit_0, p1_cUnit_1, p1_cUnit_2, p1_cUnit_3, pA_cUnit, ce_cUnit, sp_cUnit, glt', gia, gi1]
    show (A.append 2 _ _ (AV.sl 2 [cKey ⟨u.number, x.name⟩]) _).bind _ = _
    rw [hap]
    simp only [MSb, reduceCtorEq, gi1]
   ·intro s _
    refine (hend_lss _ _ _).trans ?_
    subst hq
    rfl
   ·intro s _; simp only [MSb, reduceCtorEq, hi1]
   ·intros; rename_i hb; cases hb
   ·rw [hsn]
  ·intro s _
   exact hend_lss _ _ _
  ·intro s _
   simp only [MSb, reduceCtorEq, fin_own2 fz_cKey]
  ·intros; rename_i hb; cases hb
 ·refine wrap_eq rfl (v := .tup [.nsl, .int .i64 (rigF r)]) ?_ (by rw [if_neg hf]; rfl)
  show r_fixture_Keys (.agg (cRig r)) σ = _
  unfold r_fixture_Keys
  simp only [MSb, reduceCtorEq, p1_cRig_0, p1_cRig_1, pA_cRig, ce_cRig, sp_cRig, CheckRig_eq r hok, hf]
end Go.Proofs.YtphgchakmkankaaGreat

namespace Go.Proofs.YtphgchakmkankaaGreat
set_option linter.unusedSectionVars false
set_option linter.unusedVariables false
set_option linter.unusedSimpArgs false
theorem isLevelP_eq (n : Int) (σ : Heap) : m_pick_isLevel [.int .i64 n] σ = some (.bool (withinB n 0 65535), σ) := by
 refine wrap_eq rfl ?_ rfl
 show r_pick_isLevel (.int .i64 n) σ = _
 unfold r_pick_isLevel
 simp only [MSb, reduceCtorEq, Within_eq]
def blankB (s : ByteArray) : Bool := if s = ⟨#[]⟩ then true else titleB s
theorem blank_eq (s : ByteArray) (hs : okS s) (σ : Heap) : m_pick_blank [.str s] σ = some (.bool (blankB s), σ) := by
 refine wrap_eq rfl ?_ rfl
 show r_pick_blank (.str s) σ = _
 unfold r_pick_blank blankB
 by_cases h : s = ⟨#[]⟩
 ·simp only [MSb, reduceCtorEq, h]
 ·simp only [MSb, reduceCtorEq, h, Title_eq s hs]
end Go.Proofs.YtphgchakmkankaaGreat

namespace Go.Proofs.YtphgchakmkankaaGreat
set_option linter.unusedSectionVars false
set_option linter.unusedVariables false
set_option linter.unusedSimpArgs false
def zParam : ParamD := ⟨⟨#[]⟩, 0, 0, 0, 0, false, []⟩
def paramB (p : ProfileD) (nm : ByteArray) : ParamD × Bool := (p.params.find? fun x => decide (x.name = nm)).elim (zParam, false) fun x => (x, true)
def paramOf (r : RigD) (k : KeyD) : ParamD × Bool := (r.units.find? fun u => decide (u.number = k.unit)).elim (zParam, false) fun u => paramB (profOf u.profile r.library).1 k.param
theorem unit2_eq (r : RigD) (hl : r.units.length ≤ mxl) (n : Int) (σ : Heap) : m_R2_unit [.agg (cRig r), .int .i64 n] σ = some (.int .i64 (idxI (fun u : UnitD => decide (u.number = n)) r.units), σ) := by
 refine wrap_eq rfl ?_ rfl
 show r_R2_unit (.agg (cRig r)) (.int .i64 n) σ = _
 unfold r_R2_unit
 simp only [MSb, reduceCtorEq, p1_cRig_0, p1_cRig_1, pA_cRig, ce_cRig, sp_cRig]
 refine (loop_idx r.units (fun u => decide (u.number = n)) (fun i => [.int .i64 0, .int .i64 (i : Int)]) σ (.exit 0, [.int .i64 0, .int .i64 (r.units.length : Int)], σ) (fun i => (.ret, [.int .i64 (i : Int), .int .i64 (i : Int)], σ)) (some (AV.int .i64 (-1), σ)) (fun i => some (AV.int .i64 i, σ)) ?_ ?_ ?_ ?_).trans ?_
 ·intro i x hx
  obtain ⟨g1, g2, g3⟩ := iaddr_at 4 cUnit hx
  have g3 := g3 hl
  simp only [MSb, reduceCtorEq, p1_cUnit_0, p1_cUnit_1, p1_cUnit_2, p1_cUnit_3, pA_cUnit, ce_cUnit, sp_cUnit, g1, g2, g3]
  repeat' ((first | rw [gDp] | rw [gDb] | rw [cDp] | rw [cDnp] | rw [cDn] | rw [cDb]); split <;> try simp only [MSb, reduceCtorEq, *])
 ·exact hend_lss _ _ _
 ·simp only [MSb, reduceCtorEq]
 ·intro i; simp only [MSb, reduceCtorEq]
 ·split
  ·rename_i h; rw [h]
  ·rfl
theorem param2_eq (p : ProfileD) (hl : p.params.length ≤ mxl) (nm : ByteArray) (σ : Heap) : m_R2_param [.agg (cProfile p), .str nm] σ = some (.tup [.agg (cParam (paramB p nm).1), .bool (paramB p nm).2], σ) := by
 have key : ∃ w, r_R2_param (.agg (cProfile p)) (.str nm) σ = some (w, σ) ∧ A.nn (.t [(.a [.k, .k, .k, .k, .k, .k, (.s 3)]), .k]) w = .tup [.agg (cParam (paramB p nm).1), .bool (paramB p nm).2] := by
  refine ⟨(p.params.find? fun x => decide (x.name = nm)).elim (.tup [.agg [.str ⟨#[]⟩, .int .i64 0, .int .i64 0, .int .i64 0, .int .i64 0, .bool false, .nsl], .bool false]) (fun x => .tup [.agg (cParam x), .bool true]), ?_, ?_⟩
  ·unfold r_R2_param
   simp only [MSb, reduceCtorEq, p1_cProfile_0, p1_cProfile_1, p1_cProfile_2, pA_cProfile, ce_cProfile, sp_cProfile]
   refine (loop_find p.params (fun x => decide (x.name = nm)) (fun i => [.lbx [.str ⟨#[]⟩, .int .i64 0, .int .i64 0, .int .i64 0, .int .i64 0, .bool false, .nsl], .bool false, .int .i64 (i : Int)]) σ (.exit 0, [.lbx [.str ⟨#[]⟩, .int .i64 0, .int .i64 0, .int .i64 0, .int .i64 0, .bool false, .nsl], .bool false, .int .i64 (p.params.length : Int)], σ) (fun i x => (.ret, [.lbx (cParam x), .bool true, .int .i64 (i : Int)], σ))
    (some (AV.tup [.agg [.str ⟨#[]⟩, .int .i64 0, .int .i64 0, .int .i64 0, .int .i64 0, .bool false, .nsl], .bool false], σ)) (fun x => some (AV.tup [.agg (cParam x), .bool true], σ)) ?_ ?_ ?_ ?_).trans ?_
   ·intro i x hx
    obtain ⟨g1, g2, g3⟩ := iaddr_at 7 cParam hx
    have g3 := g3 hl
    simp only [MSb, reduceCtorEq, p1_cParam_0, p1_cParam_1, p1_cParam_2, p1_cParam_3, p1_cParam_4, p1_cParam_5, p1_cParam_6, pA_cParam, ce_cParam, sp_cParam, g1, g2, g3]
    repeat' ((first | rw [gDp] | rw [gDb] | rw [cDp] | rw [cDnp] | rw [cDn] | rw [cDb]); split <;> try simp only [MSb, reduceCtorEq, p1_cParam_0, p1_cParam_1, p1_cParam_2, p1_cParam_3, p1_cParam_4, p1_cParam_5, p1_cParam_6, pA_cParam, ce_cParam, sp_cParam, *])
    all_goals first | with_reducible rfl | (simp [*]; done) | (simp_all; done) | (simp_all; omega) | rfl
   ·exact hend_lss _ _ _
   ·simp only [MSb, reduceCtorEq]; rfl
   ·intro i x; simp only [MSb, reduceCtorEq, p1_cParam_0, p1_cParam_1, p1_cParam_2, p1_cParam_3, p1_cParam_4, p1_cParam_5, p1_cParam_6, pA_cParam, ce_cParam, sp_cParam]
   ·cases p.params.find? fun x => decide (x.name = nm) <;> rfl
  ·unfold paramB
   cases p.params.find? fun x => decide (x.name = nm) <;> rfl
 obtain ⟨w, h1, h2⟩ := key
 exact wrap_eq rfl h1 h2
theorem profOf_le {l : List ProfileD} (h : ∀ x ∈ l, okProfile x) (nm : ByteArray) : (profOf nm l).1.params.length ≤ mxl := by
 rw [profOf_find]
 cases hf : l.find? (fun x : ProfileD => decide (x.name = nm)) with
 | none => exact Nat.zero_le _
 | some p => exact (h p (List.mem_of_find?_eq_some hf)).2.2.1
theorem ParamOf2_eq (r : RigD) (hok : okRig r) (k : KeyD) (σ : Heap) : m_R2_ParamOf [.agg (cRig r), .agg (cKey k)] σ = some (.tup [.agg (cParam (paramOf r k).1), .bool (paramOf r k).2], σ) := by
 have key : ∃ w, r_R2_ParamOf (.agg (cRig r)) (.agg (cKey k)) σ = some (w, σ) ∧ A.nn (.t [(.a [.k, .k, .k, .k, .k, .k, (.s 3)]), .k]) w = .tup [.agg (cParam (paramOf r k).1), .bool (paramOf r k).2] := by
  unfold r_R2_ParamOf paramOf
  simp only [MSb, reduceCtorEq, p1_cRig_0, p1_cRig_1, pA_cRig, ce_cRig, sp_cRig, p1_cKey_0, p1_cKey_1, pA_cKey, ce_cKey, sp_cKey, unit2_eq r hok.2.1]
  rcases idxI_cases (fun u : UnitD => decide (u.number = k.unit)) r.units with ⟨h1, _, h3⟩ | ⟨j, x, h1, h2, h3, h4, _⟩
  ·refine ⟨.tup [.agg [.str ⟨#[]⟩, .int .i64 0, .int .i64 0, .int .i64 0, .int .i64 0, .bool false, .nsl], .bool false], ?_, ?_⟩
   ·rw [h1]
    simp only [MSb, reduceCtorEq, show ((-1 : Int) < 0) from by decide]
    rfl
   ·rw [h3]; rfl
  ·refine ⟨.tup [.agg (cParam (paramB (profOf x.profile r.library).1 k.param).1), .bool (paramB (profOf x.profile r.library).1 k.param).2], ?_, ?_⟩
   ·rw [h3]
    simp only [MSb, reduceCtorEq, p1_cRig_0, p1_cRig_1, pA_cRig, ce_cRig, sp_cRig, p1_cKey_0, p1_cKey_1, pA_cKey, ce_cKey, sp_cKey, p1_cUnit_0, p1_cUnit_1, p1_cUnit_2, p1_cUnit_3, pA_cUnit, ce_cUnit, sp_cUnit, p1_cProfile_0, p1_cProfile_1, p1_cProfile_2, pA_cProfile, ce_cProfile, sp_cProfile, p1_cParam_0, p1_cParam_1, p1_cParam_2, p1_cParam_3, p1_cParam_4, p1_cParam_5, p1_cParam_6, pA_cParam, ce_cParam, sp_cParam, show ¬ ((j : Int) < 0) from by omega, iaddr_sl 4 cUnit r.units h1, Profile2_eq _ hok.1.1, param2_eq _ (profOf_le hok.1.2 x.profile)]
   ·rw [h4]; rfl
 obtain ⟨w, h1, h2⟩ := key
 exact wrap_eq rfl h1 h2
end Go.Proofs.YtphgchakmkankaaGreat

namespace Go.Proofs.YtphgchakmkankaaGreat
set_option linter.unusedSectionVars false
set_option linter.unusedVariables false
set_option linter.unusedSimpArgs false
set_option maxRecDepth 100000
noncomputable def t_cue_isTime (a0 : Int) : Option Bool :=
 some (withinB a0 0 36000000)
theorem h_cue_isTime {a0 : Int} {σ : Heap} {r : Bool} (h : t_cue_isTime a0 = some r) : m_cue_isTime [(AV.int .i64 a0)] σ = some ((AV.bool r), σ) := by
 refine rf_wrap1 (f := r_cue_isTime) (y0 := (AV.int .i64 a0)) (enc := fun r : Bool => (AV.bool r)) (T := t_cue_isTime a0) rfl rfl ?_ r h
 unfold r_cue_isTime t_cue_isTime
 refine rf_s ((AV.bool (withinB a0 0 36000000)), σ) (Within_eq a0 0 36000000 σ) ?_
 exact rf_fin _ (fin_same _ _) ⟨rfl, rfl⟩

noncomputable def t_cue_compare (a0 : KeyD) (a1 : KeyD) : Option Int :=
 if ¬ (a0.unit = a1.unit) then
  if a0.unit < a1.unit then
   some (-1)
  else
  some 1
 else
 some (Lib.compareBytes a0.param.data.toList a1.param.data.toList)
theorem h_cue_compare {a0 : KeyD} { a1 : KeyD} {σ : Heap} {r : Int} (h : t_cue_compare a0 a1 = some r) : m_cue_compare [(AV.agg (cKey a0)), (AV.agg (cKey a1))] σ = some ((AV.int .i64 r), σ) := by
 refine rf_wrap2 (f := r_cue_compare) (y0 := (AV.agg (cKey a0))) (y1 := (AV.agg (cKey a1))) (enc := fun r : Int => (AV.int .i64 r)) (T := t_cue_compare a0 a1) rfl rfl ?_ r h
 unfold r_cue_compare t_cue_compare
 refine rf_s (cKey a0) rfl ?_
 refine rf_s (cKey a1) rfl ?_
 refine rf_s (AV.int .i64 a0.unit) rfl ?_
 refine rf_s (AV.int .i64 a1.unit) rfl ?_
 refine rf_s (AV.bool (decide (¬ (a0.unit = a1.unit)))) (aNe _ _ _) ?_
 refine rf_c (p := ¬ (a0.unit = a1.unit)) (fun c2 => ?_) (fun c2 => ?_)
 ·refine rf_s (AV.int .i64 a0.unit) rfl ?_
  refine rf_s (AV.int .i64 a1.unit) rfl ?_
  refine rf_s (AV.bool (decide (a0.unit < a1.unit))) rfl ?_
  refine rf_c (p := a0.unit < a1.unit) (fun c1 => ?_) (fun c1 => ?_)
  ·exact rf_fin _ (fin_same _ _) ⟨rfl, rfl⟩
  exact rf_fin _ (fin_same _ _) ⟨rfl, rfl⟩
 refine rf_s (AV.str a0.param) rfl ?_
 refine rf_s (AV.str a1.param) rfl ?_
 refine rf_s ((AV.int .i64 (Lib.compareBytes a0.param.data.toList a1.param.data.toList)), σ) (rfl) ?_
 exact rf_fin _ (fin_same _ _) ⟨rfl, rfl⟩

noncomputable def t_cue_checkMoves (a0 : (List MoveD)) : Option Int :=
 forE a0 (fun (i8 : Nat) e7 (s1 : Unit) => (show Option (Lr Unit Unit Int) from
   if (!(withinB e7.key.unit 1 9999)) = true then
    some (.ret 1)
   else
   (tq (okS e7.key.param) (nameB e7.key.param)).bind fun r9 =>
   if (!r9) = true then
    some (.ret 5)
   else
   if ((e7.release && (decide (¬ (e7.value = (⟨0, 0⟩ : ValueD))))) || ((decide (¬ (e7.value.level = 0))) && (decide (¬ (e7.value.preset = 0))))) = true then
    some (.ret 3)
   else
   if ((!(withinB e7.value.level 0 65535)) || (!(withinB e7.value.preset 0 999))) = true then
    some (.ret 1)
   else
   if ((!e7.timed) && ((decide (¬ (e7.delay = 0))) || (decide (¬ (e7.time = 0))))) = true then
    some (.ret 3)
   else
   if ((!((withinB e7.delay 0 36000000))) || (!((withinB e7.time 0 36000000)))) = true then
    some (.ret 1)
   else
   (if decide (0 < (i8 : Int)) = true then tIx a0 (IntKind.i64.wrap ((i8 : Int) - 1)) else some default).bind fun x10 =>
   (if decide (0 < (i8 : Int)) = true then t_cue_compare x10.key e7.key else some default).bind fun r11 =>
   if ((decide (0 < (i8 : Int))) && (decide (0 ≤ r11))) = true then
    some (.ret 7)
   else
   some (.go ()))) (fun s1 => some ()) () (fun b2 =>
  some 0) (fun b2 =>
  some b2)
theorem h_cue_checkMoves {a0 : (List MoveD)} {σ : Heap} {r : Int} (h : t_cue_checkMoves a0 = some r) : m_cue_checkMoves [(sl 8 cMove a0)] σ = some ((AV.int .i64 r), σ) := by
 refine rf_wrap1 (f := r_cue_checkMoves) (y0 := (sl 8 cMove a0)) (enc := fun r : Int => (AV.int .i64 r)) (T := t_cue_checkMoves a0) rfl rfl ?_ r h
 unfold r_cue_checkMoves t_cue_checkMoves
 refine rf_s (AV.int .i64 (a0.length : Int)) (lenS_sl _ _ _) ?_
 refine rf_for (B := Unit) (R := Int) (fun (i8 : Nat) (s1 : Unit) v w3 => v = [(AV.int .i64 0), (AV.int .i64 (i8 : Int))] ∧ σ = w3) (fun (b2 : Unit) (q : LS) => ∃ u2 u7, q = ((AX.exit 0), ([u2, u7] : List AV), σ)) (fun (b2 : Int) (q : LS) => ∃ u7, q = (AX.ret, ([(AV.int .i64 b2), u7] : List AV), σ)) ?_ ?_ ⟨rfl, rfl⟩ ?_ ?_
 ·intro hle7 i8 e7 s1 v w3 he7 hI
  obtain ⟨rfl, rfl⟩ := hI
  refine rf_s (AV.bool true) (ix_lt he7) ?_
  refine rf_ct ?_
  refine rf_s (AV.rp (cMove e7)) (ix_for he7) ?_
  refine rf_s (AV.agg (cMove e7)) rfl ?_
  refine rf_s (cMove e7) rfl ?_
  refine rf_s (cMove e7) (sp_cMove _ _ rfl) ?_
  refine rf_s (AV.int .i64 e7.key.unit) rfl ?_
  refine rf_s ((AV.bool (withinB e7.key.unit 1 9999)), σ) (Within_eq e7.key.unit 1 9999 σ) ?_
  refine rf_s (AV.bool (!(withinB e7.key.unit 1 9999))) rfl ?_
  refine rf_cb (c := (!(withinB e7.key.unit 1 9999))) (fun c18 => ?_) (fun c18 => ?_)
  ·exact rf_ret (rnd_ret (by simp) ⟨_, rfl⟩)
  refine rf_s (AV.str e7.key.param) rfl ?_
  refine rf_o (fun r9 : Bool => ((AV.bool r9), σ)) (fun r9 hr9 => (tq_of (e := fun r : Bool => ((AV.bool r), σ)) (fun hs => Name_eq e7.key.param hs σ)) hr9) (fun r9 hr9 => ?_)
  refine rf_s (AV.bool (!r9)) rfl ?_
  refine rf_cb (c := (!r9)) (fun c17 => ?_) (fun c17 => ?_)
  ·exact rf_ret (rnd_ret (by simp) ⟨_, rfl⟩)
  refine rf_s (AV.bool e7.release) rfl ?_
  refine rf_gt (AV.agg (cValue e7.value)) (fun hg => rfl) ?_
  refine rf_gt (AV.agg (cValue (⟨0, 0⟩ : ValueD))) (fun hg => rfl) ?_
  refine rf_gt (AV.bool (decide (¬ (e7.value = (⟨0, 0⟩ : ValueD))))) (fun hg => by
    simp only [hg, Bool.true_and, cond_true]; first | done | exact (ne_Value _ _)) ?_
  refine rf_s (AV.bool (e7.release && (decide (¬ (e7.value = (⟨0, 0⟩ : ValueD)))))) (pk_and _ _) ?_
  refine rf_gf (AV.int .i64 e7.value.level) (fun hg => rfl) ?_
  refine rf_gf (AV.bool (decide (¬ (e7.value.level = 0)))) (fun hg => by
    simp only [hg, Bool.true_and, cond_true]; first | done | exact (aNe _ _ _)) ?_
  refine rf_gf (AV.bool (decide (¬ (e7.value.level = 0)))) (fun hg => by
    simp only [hg, Bool.true_and, cond_true]; first | done | exact rfl) ?_
  refine rf_ggt (AV.int .i64 e7.value.preset) (fun hg => rfl) ?_
  refine rf_ggt (AV.bool (decide (¬ (e7.value.preset = 0)))) (fun hg => by
    simp only [hg, Bool.true_and, cond_true]; first | done | exact (aNe _ _ _)) ?_
  refine rf_gf (AV.bool ((decide (¬ (e7.value.level = 0))) && (decide (¬ (e7.value.preset = 0))))) (fun hg => by
    simp only [hg, Bool.true_and, cond_true]; first | done | exact (pk_and _ _)) ?_
  refine rf_s (AV.bool ((e7.release && (decide (¬ (e7.value = (⟨0, 0⟩ : ValueD))))) || ((decide (¬ (e7.value.level = 0))) && (decide (¬ (e7.value.preset = 0)))))) (pk_or _ _) ?_
  refine rf_cb (c := ((e7.release && (decide (¬ (e7.value = (⟨0, 0⟩ : ValueD))))) || ((decide (¬ (e7.value.level = 0))) && (decide (¬ (e7.value.preset = 0)))))) (fun c16 => ?_) (fun c16 => ?_)
  ·exact rf_ret (rnd_ret (by simp) ⟨_, rfl⟩)
  refine rf_s (AV.int .i64 e7.value.level) rfl ?_
  refine rf_s ((AV.bool (withinB e7.value.level 0 65535)), σ) (Within_eq e7.value.level 0 65535 σ) ?_
  refine rf_s (AV.bool (!(withinB e7.value.level 0 65535))) rfl ?_
  refine rf_gf (AV.int .i64 e7.value.preset) (fun hg => rfl) ?_
  refine rf_gf (AV.bool (withinB e7.value.preset 0 999)) (fun hg => by
    simp only [hg, Bool.true_and, cond_true]; first | done | exact (quiet_of (Within_eq e7.value.preset 0 999 σ))) ?_
  refine rf_gf (AV.bool (!(withinB e7.value.preset 0 999))) (fun hg => by
    simp only [hg, Bool.true_and, cond_true]; first | done | exact rfl) ?_
  refine rf_s (AV.bool ((!(withinB e7.value.level 0 65535)) || (!(withinB e7.value.preset 0 999)))) (pk_or _ _) ?_
  refine rf_cb (c := ((!(withinB e7.value.level 0 65535)) || (!(withinB e7.value.preset 0 999)))) (fun c15 => ?_) (fun c15 => ?_)
  ·exact rf_ret (rnd_ret (by simp) ⟨_, rfl⟩)
  refine rf_s (AV.bool e7.timed) rfl ?_
  refine rf_s (AV.bool (!e7.timed)) rfl ?_
  refine rf_gt (AV.int .i64 e7.delay) (fun hg => rfl) ?_
  refine rf_gt (AV.bool (decide (¬ (e7.delay = 0)))) (fun hg => by
    simp only [hg, Bool.true_and, cond_true]; first | done | exact (aNe _ _ _)) ?_
  refine rf_gt (AV.bool (decide (¬ (e7.delay = 0)))) (fun hg => by
    simp only [hg, Bool.true_and, cond_true]; first | done | exact rfl) ?_
  refine rf_ggf (AV.int .i64 e7.time) (fun hg => rfl) ?_
  refine rf_ggf (AV.bool (decide (¬ (e7.time = 0)))) (fun hg => by
    simp only [hg, Bool.true_and, cond_true]; first | done | exact (aNe _ _ _)) ?_
  refine rf_gt (AV.bool ((decide (¬ (e7.delay = 0))) || (decide (¬ (e7.time = 0))))) (fun hg => by
    simp only [hg, Bool.true_and, cond_true]; first | done | exact (pk_or _ _)) ?_
  refine rf_s (AV.bool ((!e7.timed) && ((decide (¬ (e7.delay = 0))) || (decide (¬ (e7.time = 0)))))) (pk_and _ _) ?_
  refine rf_cb (c := ((!e7.timed) && ((decide (¬ (e7.delay = 0))) || (decide (¬ (e7.time = 0)))))) (fun c14 => ?_) (fun c14 => ?_)
  ·exact rf_ret (rnd_ret (by simp) ⟨_, rfl⟩)
  refine rf_s (AV.int .i64 e7.delay) rfl ?_
  refine rf_s ((AV.bool ((withinB e7.delay 0 36000000))), σ) (h_cue_isTime (σ := σ) (r := (withinB e7.delay 0 36000000)) rfl) ?_
  refine rf_s (AV.bool (!((withinB e7.delay 0 36000000)))) rfl ?_
  refine rf_gf (AV.int .i64 e7.time) (fun hg => rfl) ?_
  refine rf_gf (AV.bool ((withinB e7.time 0 36000000))) (fun hg => by
    simp only [hg, Bool.true_and, cond_true]; first | done | exact (quiet_of (h_cue_isTime (σ := σ) (r := (withinB e7.time 0 36000000)) rfl))) ?_
  refine rf_gf (AV.bool (!((withinB e7.time 0 36000000)))) (fun hg => by
    simp only [hg, Bool.true_and, cond_true]; first | done | exact rfl) ?_
  refine rf_s (AV.bool ((!((withinB e7.delay 0 36000000))) || (!((withinB e7.time 0 36000000))))) (pk_or _ _) ?_
  refine rf_cb (c := ((!((withinB e7.delay 0 36000000))) || (!((withinB e7.time 0 36000000))))) (fun c13 => ?_) (fun c13 => ?_)
  ·exact rf_ret (rnd_ret (by simp) ⟨_, rfl⟩)
  refine rf_s (AV.bool (decide (0 < (i8 : Int)))) rfl ?_
  refine rf_gt (sl 8 cMove a0) (fun hg => rfl) ?_
  refine rf_gt (AV.int .i64 (i8 : Int)) (fun hg => rfl) ?_
  refine rf_gt (AV.int .i64 (IntKind.i64.wrap ((i8 : Int) - 1))) (fun hg => by
    simp only [hg, Bool.true_and, cond_true]; first | done | exact rfl) ?_
  refine rf_gto (ω := MoveD) (fun x10 => (AV.rp (cMove x10))) (fun hg x10 hx10 => by
    simp only [hg, Bool.true_and, cond_true]; first | done | exact ix_at hx10) (fun x10 hx10 => ?_)
  refine rf_gt (AV.rp (cMove x10)) (fun hg => by
    simp only [hg, Bool.true_and, cond_true]; first | done | exact rfl) ?_
  refine rf_gt (AV.agg (cKey x10.key)) (fun hg => by
    simp only [hg, Bool.true_and, cond_true]; first | done | exact rfl) ?_
  refine rf_gt (AV.agg (cKey e7.key)) (fun hg => rfl) ?_
  refine rf_gto (ω := Int) (fun r11 => (AV.int .i64 r11)) (fun hg r11 hr11 => by
    simp only [hg, Bool.true_and, cond_true]; first | done | exact (quiet_of (h_cue_compare hr11))) (fun r11 hr11 => ?_)
  refine rf_gt (AV.bool (decide (0 ≤ r11))) (fun hg => by
    simp only [hg, Bool.true_and, cond_true]; first | done | exact rfl) ?_
  refine rf_s (AV.bool ((decide (0 < (i8 : Int))) && (decide (0 ≤ r11)))) (pk_and _ _) ?_
  refine rf_cb (c := ((decide (0 < (i8 : Int))) && (decide (0 ≤ r11)))) (fun c12 => ?_) (fun c12 => ?_)
  ·exact rf_ret (rnd_ret (by simp) ⟨_, rfl⟩)
  refine rf_s (AV.int .i64 ((i8 + 1 : Nat) : Int)) (ix_inc he7 hle7) ?_
  exact rf_ret (rnd_go ⟨rfl, rfl⟩)
 ·intro hl s1 v w3 hI
  obtain ⟨rfl, rfl⟩ := hI
  refine rf_s (AV.bool false) (ix_end _) ?_
  refine rf_cf ?_
  exact rf_ret ⟨by simp, ⟨_, _, rfl⟩⟩
 ·intro hl b2 q hq
  obtain ⟨u2, u7, rfl⟩ := hq
  refine rf_bt rfl ?_
  exact rf_fin _ (fin_same _ _) ⟨rfl, rfl⟩
 ·intro hl b2 q hq
  obtain ⟨u7, rfl⟩ := hq
  refine rf_bf rfl ?_
  refine rf_bt rfl ?_
  exact rf_fin _ (fin_same _ _) ⟨rfl, rfl⟩

noncomputable def t_cue_form (a0 : (List CueD)) : Option Int :=
 if 300 < (a0.length : Int) then
  some 2
 else
 forE a0 (fun (i8 : Nat) e7 (s1 : Int) => (show Option (Lr Int Int Int) from
   if (!(withinB e7.number 1 9999999)) = true then
    some (.ret 1)
   else
   (if decide (0 < (i8 : Int)) = true then tIx a0 (IntKind.i64.wrap ((i8 : Int) - 1)) else some default).bind fun x9 =>
   if ((decide (0 < (i8 : Int))) && (decide (e7.number ≤ x9.number))) = true then
    some (.ret 7)
   else
   (if decide (¬ (e7.title = (⟨#[]⟩ : ByteArray))) = true then tq (okS e7.title) (titleB e7.title) else some default).bind fun r10 =>
   if ((decide (¬ (e7.title = (⟨#[]⟩ : ByteArray)))) && (!r10)) = true then
    some (.ret 3)
   else
   if (((((!((withinB e7.delay 0 36000000))) || (!((withinB e7.up 0 36000000)))) || (!((withinB e7.down 0 36000000)))) || (!((withinB e7.other 0 36000000)))) || (!(withinB e7.follow (-1) 36000000))) = true then
    some (.ret 1)
   else
   if ¬ ((curveF e7.curve) = 0) then
    some (.ret (curveF e7.curve))
   else
   if 2000 < (e7.moves.length : Int) then
    some (.ret 2)
   else
   (t_cue_checkMoves e7.moves).bind fun r11 =>
   if ¬ (r11 = 0) then
    some (.ret r11)
   else
   some (.go (IntKind.i64.wrap (s1 + (e7.moves.length : Int)))))) (fun s1 => some s1) 0 (fun b2 =>
  some (if (decide (10000 < b2)) = true then 2 else 0)) (fun b2 =>
  some b2)
theorem h_cue_form {a0 : (List CueD)} {σ : Heap} {r : Int} (h : t_cue_form a0 = some r) : m_cue_form [(sl 11 cCue a0)] σ = some ((AV.int .i64 r), σ) := by
 refine rf_wrap1 (f := r_cue_form) (y0 := (sl 11 cCue a0)) (enc := fun r : Int => (AV.int .i64 r)) (T := t_cue_form a0) (nn_t1 (nn_e (fun _ => rfl) _) rfl) rfl ?_ r h
 unfold r_cue_form t_cue_form
 refine rf_s (AV.int .i64 (a0.length : Int)) (lenS_sl _ _ _) ?_
 refine rf_s (AV.bool (decide (300 < (a0.length : Int)))) rfl ?_
 refine rf_c (p := 300 < (a0.length : Int)) (fun c19 => ?_) (fun c19 => ?_)
 ·exact rf_fin _ (fin_same _ _) ⟨rfl, rfl⟩
 refine rf_s (AV.int .i64 (a0.length : Int)) (lenS_sl _ _ _) ?_
 refine rf_for (B := Int) (R := Int) (fun (i8 : Nat) (s1 : Int) v w3 => v = [(AV.int .i64 0), (AV.int .i64 s1), (AV.int .i64 (i8 : Int))] ∧ σ = w3) (fun (b2 : Int) (q : LS) => ∃ u2 u13, q = ((AX.exit 0), ([u2, (AV.int .i64 b2), u13] : List AV), σ)) (fun (b2 : Int) (q : LS) => ∃ u3 u13, q = (AX.ret, ([(AV.int .i64 b2), u3, u13] : List AV), σ)) ?_ ?_ ⟨rfl, rfl⟩ ?_ ?_
 ·intro hle7 i8 e7 s1 v w3 he7 hI
  obtain ⟨rfl, rfl⟩ := hI
  refine rf_s (AV.bool true) (ix_lt he7) ?_
  refine rf_ct ?_
  refine rf_s (AV.rp (cCue e7)) (ix_for he7) ?_
  refine rf_s (AV.agg (cCue e7)) rfl ?_
  refine rf_s (cCue e7) rfl ?_
  refine rf_s (cCue e7) (sp_cCue _ _ rfl) ?_
  refine rf_s (AV.int .i64 e7.number) rfl ?_
  refine rf_s ((AV.bool (withinB e7.number 1 9999999)), σ) (Within_eq e7.number 1 9999999 σ) ?_
  refine rf_s (AV.bool (!(withinB e7.number 1 9999999))) rfl ?_
  refine rf_cb (c := (!(withinB e7.number 1 9999999))) (fun c18 => ?_) (fun c18 => ?_)
  ·exact rf_ret (rnd_ret (by simp) ⟨_, _, rfl⟩)
  refine rf_s (AV.bool (decide (0 < (i8 : Int)))) rfl ?_
  refine rf_gt (AV.int .i64 e7.number) (fun hg => rfl) ?_
  refine rf_gt (sl 11 cCue a0) (fun hg => rfl) ?_
  refine rf_gt (AV.int .i64 (i8 : Int)) (fun hg => rfl) ?_
  refine rf_gt (AV.int .i64 (IntKind.i64.wrap ((i8 : Int) - 1))) (fun hg => by
    simp only [hg, Bool.true_and, cond_true]; first | done | exact rfl) ?_
  refine rf_gto (ω := CueD) (fun x9 => (AV.rp (cCue x9))) (fun hg x9 hx9 => by
    simp only [hg, Bool.true_and, cond_true]; first | done | exact ix_at hx9) (fun x9 hx9 => ?_)
  refine rf_gt (AV.rp (cCue x9)) (fun hg => by
    simp only [hg, Bool.true_and, cond_true]; first | done | exact rfl) ?_
  refine rf_gt (AV.int .i64 x9.number) (fun hg => by
    simp only [hg, Bool.true_and, cond_true]; first | done | exact rfl) ?_
  refine rf_gt (AV.bool (decide (e7.number ≤ x9.number))) (fun hg => by
    simp only [hg, Bool.true_and, cond_true]; first | done | exact rfl) ?_
  refine rf_s (AV.bool ((decide (0 < (i8 : Int))) && (decide (e7.number ≤ x9.number)))) (pk_and _ _) ?_
  refine rf_cb (c := ((decide (0 < (i8 : Int))) && (decide (e7.number ≤ x9.number)))) (fun c17 => ?_) (fun c17 => ?_)
  ·exact rf_ret (rnd_ret (by simp) ⟨_, _, rfl⟩)
  refine rf_s (AV.str e7.title) rfl ?_
  refine rf_s (AV.bool (decide (¬ (e7.title = (⟨#[]⟩ : ByteArray))))) (aNeZ _ _) ?_
  refine rf_gt (AV.str e7.title) (fun hg => rfl) ?_
  refine rf_gto (ω := Bool) (fun r10 => (AV.bool r10)) (fun hg r10 hr10 => by
    simp only [hg, Bool.true_and, cond_true]; first | done | exact (quiet_of ((tq_of (e := fun r : Bool => ((AV.bool r), σ)) (fun hs => Title_eq e7.title hs σ)) hr10))) (fun r10 hr10 => ?_)
  refine rf_gt (AV.bool (!r10)) (fun hg => by
    simp only [hg, Bool.true_and, cond_true]; first | done | exact rfl) ?_
  refine rf_s (AV.bool ((decide (¬ (e7.title = (⟨#[]⟩ : ByteArray)))) && (!r10))) (pk_and _ _) ?_
  refine rf_cb (c := ((decide (¬ (e7.title = (⟨#[]⟩ : ByteArray)))) && (!r10))) (fun c16 => ?_) (fun c16 => ?_)
  ·exact rf_ret (rnd_ret (by simp) ⟨_, _, rfl⟩)
  refine rf_s (AV.int .i64 e7.delay) rfl ?_
  refine rf_s ((AV.bool ((withinB e7.delay 0 36000000))), σ) (h_cue_isTime (σ := σ) (r := (withinB e7.delay 0 36000000)) rfl) ?_
  refine rf_s (AV.bool (!((withinB e7.delay 0 36000000)))) rfl ?_
  refine rf_gf (AV.int .i64 e7.up) (fun hg => rfl) ?_
  refine rf_gf (AV.bool ((withinB e7.up 0 36000000))) (fun hg => by
    simp only [hg, Bool.true_and, cond_true]; first | done | exact (quiet_of (h_cue_isTime (σ := σ) (r := (withinB e7.up 0 36000000)) rfl))) ?_
  refine rf_gf (AV.bool (!((withinB e7.up 0 36000000)))) (fun hg => by
    simp only [hg, Bool.true_and, cond_true]; first | done | exact rfl) ?_
  refine rf_s (AV.bool ((!((withinB e7.delay 0 36000000))) || (!((withinB e7.up 0 36000000))))) (pk_or _ _) ?_
  refine rf_gf (AV.int .i64 e7.down) (fun hg => rfl) ?_
  refine rf_gf (AV.bool ((withinB e7.down 0 36000000))) (fun hg => by
    simp only [hg, Bool.true_and, cond_true]; first | done | exact (quiet_of (h_cue_isTime (σ := σ) (r := (withinB e7.down 0 36000000)) rfl))) ?_
  refine rf_gf (AV.bool (!((withinB e7.down 0 36000000)))) (fun hg => by
    simp only [hg, Bool.true_and, cond_true]; first | done | exact rfl) ?_
  refine rf_s (AV.bool (((!((withinB e7.delay 0 36000000))) || (!((withinB e7.up 0 36000000)))) || (!((withinB e7.down 0 36000000))))) (pk_or _ _) ?_
  refine rf_gf (AV.int .i64 e7.other) (fun hg => rfl) ?_
  refine rf_gf (AV.bool ((withinB e7.other 0 36000000))) (fun hg => by
    simp only [hg, Bool.true_and, cond_true]; first | done | exact (quiet_of (h_cue_isTime (σ := σ) (r := (withinB e7.other 0 36000000)) rfl))) ?_
  refine rf_gf (AV.bool (!((withinB e7.other 0 36000000)))) (fun hg => by
    simp only [hg, Bool.true_and, cond_true]; first | done | exact rfl) ?_
  refine rf_s (AV.bool ((((!((withinB e7.delay 0 36000000))) || (!((withinB e7.up 0 36000000)))) || (!((withinB e7.down 0 36000000)))) || (!((withinB e7.other 0 36000000))))) (pk_or _ _) ?_
  refine rf_gf (AV.int .i64 e7.follow) (fun hg => rfl) ?_
  refine rf_gf (AV.bool (withinB e7.follow (-1) 36000000)) (fun hg => by
    simp only [hg, Bool.true_and, cond_true]; first | done | exact (quiet_of (Within_eq e7.follow (-1) 36000000 σ))) ?_
  refine rf_gf (AV.bool (!(withinB e7.follow (-1) 36000000))) (fun hg => by
    simp only [hg, Bool.true_and, cond_true]; first | done | exact rfl) ?_
  refine rf_s (AV.bool (((((!((withinB e7.delay 0 36000000))) || (!((withinB e7.up 0 36000000)))) || (!((withinB e7.down 0 36000000)))) || (!((withinB e7.other 0 36000000)))) || (!(withinB e7.follow (-1) 36000000)))) (pk_or _ _) ?_
  refine rf_cb (c := (((((!((withinB e7.delay 0 36000000))) || (!((withinB e7.up 0 36000000)))) || (!((withinB e7.down 0 36000000)))) || (!((withinB e7.other 0 36000000)))) || (!(withinB e7.follow (-1) 36000000)))) (fun c15 => ?_) (fun c15 => ?_)
  ·exact rf_ret (rnd_ret (by simp) ⟨_, _, rfl⟩)
  refine rf_s (AV.agg (cCurve e7.curve)) rfl ?_
  refine rf_s ((AV.int .i64 (curveF e7.curve)), σ) (CheckCurve_eq e7.curve σ) ?_
  refine rf_s (AV.bool (decide (¬ ((curveF e7.curve) = 0)))) (aNe _ _ _) ?_
  refine rf_c (p := ¬ ((curveF e7.curve) = 0)) (fun c14 => ?_) (fun c14 => ?_)
  ·exact rf_ret (rnd_ret (by simp) ⟨_, _, rfl⟩)
  refine rf_s (sl 8 cMove e7.moves) rfl ?_
  refine rf_s (AV.int .i64 (e7.moves.length : Int)) (lenS_sl _ _ _) ?_
  refine rf_s (AV.bool (decide (2000 < (e7.moves.length : Int)))) rfl ?_
  refine rf_c (p := 2000 < (e7.moves.length : Int)) (fun c13 => ?_) (fun c13 => ?_)
  ·exact rf_ret (rnd_ret (by simp) ⟨_, _, rfl⟩)
  refine rf_s (sl 8 cMove e7.moves) rfl ?_
  refine rf_o (fun r11 : Int => ((AV.int .i64 r11), σ)) (fun r11 hr11 => h_cue_checkMoves hr11) (fun r11 hr11 => ?_)
  refine rf_s (AV.bool (decide (¬ (r11 = 0)))) (aNe _ _ _) ?_
  refine rf_c (p := ¬ (r11 = 0)) (fun c12 => ?_) (fun c12 => ?_)
  ·exact rf_ret (rnd_ret (by simp) ⟨_, _, rfl⟩)
  refine rf_s (sl 8 cMove e7.moves) rfl ?_
  refine rf_s (AV.int .i64 (e7.moves.length : Int)) (lenS_sl _ _ _) ?_
  refine rf_s (AV.int .i64 (IntKind.i64.wrap (s1 + (e7.moves.length : Int)))) rfl ?_
  refine rf_s (AV.int .i64 ((i8 + 1 : Nat) : Int)) (ix_inc he7 hle7) ?_
  exact rf_ret (rnd_go ⟨rfl, rfl⟩)
 ·intro hl s1 v w3 hI
  obtain ⟨rfl, rfl⟩ := hI
  refine rf_s (AV.bool false) (ix_end _) ?_
  refine rf_cf ?_
  exact rf_ret ⟨by simp, ⟨_, _, rfl⟩⟩
 ·intro hl b2 q hq
  obtain ⟨u2, u13, rfl⟩ := hq
  refine rf_bt rfl ?_
  refine rf_s (AV.bool (decide (10000 < b2))) rfl ?_
  refine rf_s ((AV.int .i64 (if (decide (10000 < b2)) = true then 2 else 0)), σ) (When_eq (decide (10000 < b2)) 2 σ) ?_
  exact rf_fin _ (fin_same _ _) ⟨rfl, rfl⟩
 ·intro hl b2 q hq
  obtain ⟨u3, u13, rfl⟩ := hq
  refine rf_bf rfl ?_
  refine rf_bt rfl ?_
  exact rf_fin _ (fin_same _ _) ⟨rfl, rfl⟩

noncomputable def t_pick_keys (a0 : RigD) : Option (List (KeyD × Bool)) :=
 (tq (okRig a0) (((if rigF a0 = 0 then keysOf a0 else [] : List KeyD), rigF a0))).bind fun r1 =>
 forE r1.1 (fun (i11 : Nat) e10 (s4 : (List (KeyD × Bool))) => (show Option (Lr (List (KeyD × Bool)) (List (KeyD × Bool)) Unit) from
   some (.go (tupd e10 true s4)))) (fun s4 => some s4) ([] : List (KeyD × Bool)) (fun b5 =>
  some b5) (fun b5 =>
  none)
theorem h_pick_keys {a0 : RigD} {σ : Heap} {r : (List (KeyD × Bool))} (h : t_pick_keys a0 = some r) : m_pick_keys [(AV.agg (cRig a0))] σ = some ((fmE (fun x => (AV.agg (cKey x))) (fun x => (AV.bool x)) r), σ) := by
 refine rf_wrap1 (f := r_pick_keys) (y0 := (AV.agg (cRig a0))) (enc := fun r : (List (KeyD × Bool)) => (fmE (fun x => (AV.agg (cKey x))) (fun x => (AV.bool x)) r)) (T := t_pick_keys a0) rfl rfl ?_ r h
 unfold r_pick_keys t_pick_keys
 refine rf_s (cRig a0) rfl ?_
 refine rf_s (AV.agg (cRig a0)) rfl ?_
 refine rf_o (fun r1 : ((List KeyD) × Int) => ((AV.tup [(sl 2 cKey r1.1), (AV.int .i64 r1.2)]), σ)) (fun r1 hr1 => (tq_of (e := fun r : ((List KeyD) × Int) => ((AV.tup [(sl 2 cKey r.1), (AV.int .i64 r.2)]), σ)) (fun hs => Keys_eq a0 hs σ)) hr1) (fun r1 hr1 => ?_)
 refine rf_s (sl 2 cKey r1.1) rfl ?_
 refine rf_s (AV.int .i64 r1.2) rfl ?_
 have hp2 : Hp σ σ [] := hp_nil σ
 have hp3 : Hp σ (σ ++ [Blk.map []]) [((AV.om σ.length), (Ct.m (List.map (fun p => ((fun x => (AV.agg (cKey x))) p.1, (fun x => (AV.bool x)) p.2)) ([] : List (KeyD × Bool)))))] := hp_om hp2
 refine rf_s (AV.int .i64 (r1.1.length : Int)) (lenS_sl _ _ _) ?_
 refine rf_for (B := (List (KeyD × Bool))) (R := Unit) (fun (i11 : Nat) (s4 : (List (KeyD × Bool))) v w6 => v = [(AV.int .i64 (i11 : Int))] ∧ Hp σ w6 [((AV.om σ.length), (Ct.m (List.map (fun p => ((fun x => (AV.agg (cKey x))) p.1, (fun x => (AV.bool x)) p.2)) s4)))]) (fun (b5 : (List (KeyD × Bool))) (q : LS) => ∃ u16 w7, q = ((AX.exit 0), ([u16] : List AV), w7) ∧ Hp σ w7 [((AV.om σ.length), (Ct.m (List.map (fun p => ((fun x => (AV.agg (cKey x))) p.1, (fun x => (AV.bool x)) p.2)) b5)))]) (fun (b5 : Unit) (q : LS) => False) ?_ ?_ ⟨rfl, hp3⟩ ?_ ?_
 ·intro hle10 i11 e10 s4 v w6 he10 hI
  obtain ⟨rfl, hp8⟩ := hI
  refine rf_s (AV.bool true) (ix_lt he10) ?_
  refine rf_ct ?_
  refine rf_s (AV.rp (cKey e10)) (ix_for he10) ?_
  refine rf_s (AV.agg (cKey e10)) rfl ?_
  refine rf_s (cKey e10) rfl ?_
  refine rf_s (cKey e10) (sp_cKey _ _ rfl) ?_
  refine rf_s (AV.agg (cKey e10)) rfl ?_
  obtain ⟨w12, e14, hp13⟩ := hp_updT (ek := (.s [0, 2])) (eK := (fun x => (AV.agg (cKey x)))) (eV := (fun x => (AV.bool x))) hp8 0 rfl eqk_Key e10 true rfl
  change Hp σ w12 [((AV.om σ.length), (Ct.m (List.map (fun p => ((fun x => (AV.agg (cKey x))) p.1, (fun x => (AV.bool x)) p.2)) (tupd e10 true s4))))] at hp13
  refine rf_s w12 e14 ?_
  refine rf_s (AV.int .i64 ((i11 + 1 : Nat) : Int)) (ix_inc he10 hle10) ?_
  exact rf_ret (rnd_go ⟨rfl, hp13⟩)
 ·intro hl s4 v w6 hI
  obtain ⟨rfl, hp8⟩ := hI
  refine rf_s (AV.bool false) (ix_end _) ?_
  refine rf_cf ?_
  exact rf_ret ⟨by simp, ⟨_, _, rfl, hp8⟩⟩
 ·intro hl b5 q hq
  obtain ⟨u16, w7, rfl, hp9⟩ := hq
  refine rf_bt rfl ?_
  exact rf_fin _ (hp_fin hp9 (fzv_om hp9 (k := 0) rfl (by intro p hp; obtain ⟨x, _, rfl⟩ := List.mem_map.1 hp; exact ⟨(fz_agg (fz_cKey _)), (fz_bool _)⟩))) ⟨rfl, rfl⟩
 ·intro hl b5 q hq
  exact False.elim hq

noncomputable def t_pick_before (a0 : KeyD) (a1 : KeyD) : Option Bool :=
 if ¬ (a0.unit = a1.unit) then
  some (decide (a0.unit < a1.unit))
 else
 some (decide ((Lib.compareBytes a0.param.data.toList a1.param.data.toList) < 0))
theorem h_pick_before {a0 : KeyD} { a1 : KeyD} {σ : Heap} {r : Bool} (h : t_pick_before a0 a1 = some r) : m_pick_before [(AV.agg (cKey a0)), (AV.agg (cKey a1))] σ = some ((AV.bool r), σ) := by
 refine rf_wrap2 (f := r_pick_before) (y0 := (AV.agg (cKey a0))) (y1 := (AV.agg (cKey a1))) (enc := fun r : Bool => (AV.bool r)) (T := t_pick_before a0 a1) rfl rfl ?_ r h
 unfold r_pick_before t_pick_before
 refine rf_s (cKey a0) rfl ?_
 refine rf_s (cKey a1) rfl ?_
 refine rf_s (AV.int .i64 a0.unit) rfl ?_
 refine rf_s (AV.int .i64 a1.unit) rfl ?_
 refine rf_s (AV.bool (decide (¬ (a0.unit = a1.unit)))) (aNe _ _ _) ?_
 refine rf_c (p := ¬ (a0.unit = a1.unit)) (fun c1 => ?_) (fun c1 => ?_)
 ·refine rf_s (AV.int .i64 a0.unit) rfl ?_
  refine rf_s (AV.int .i64 a1.unit) rfl ?_
  refine rf_s (AV.bool (decide (a0.unit < a1.unit))) rfl ?_
  exact rf_fin _ (fin_same _ _) ⟨rfl, rfl⟩
 refine rf_s (AV.str a0.param) rfl ?_
 refine rf_s (AV.str a1.param) rfl ?_
 refine rf_s ((AV.int .i64 (Lib.compareBytes a0.param.data.toList a1.param.data.toList)), σ) (rfl) ?_
 refine rf_s (AV.bool (decide ((Lib.compareBytes a0.param.data.toList a1.param.data.toList) < 0))) rfl ?_
 exact rf_fin _ (fin_same _ _) ⟨rfl, rfl⟩

noncomputable def t_pick_CheckPresets (a0 : RigD) (a1 : (List PresetD)) : Option Int :=
 (tq (okRig a0) (rigF a0)).bind fun r1 =>
 (tq (([r1, (if (decide (200 < (a1.length : Int))) = true then 2 else 0)] : (List Int)).length ≤ mxl) ((([r1, (if (decide (200 < (a1.length : Int))) = true then 2 else 0)] : (List Int)).find? fun n => decide (¬ n = 0)).getD 0)).bind fun r2 =>
 if ¬ (r2 = 0) then
  some r2
 else
 (t_pick_keys a0).bind fun r3 =>
 forE a1 (fun (i11 : Nat) e10 (s4 : Unit) => (show Option (Lr Unit Unit Int) from
   if (!(withinB e10.number 1 999)) = true then
    some (.ret 1)
   else
   (if decide (0 < (i11 : Int)) = true then tIx a1 (IntKind.i64.wrap ((i11 : Int) - 1)) else some default).bind fun x12 =>
   if ((decide (0 < (i11 : Int))) && (decide (e10.number ≤ x12.number))) = true then
    some (.ret 7)
   else
   (tq (okS e10.title) (blankB e10.title)).bind fun r13 =>
   if (!r13) = true then
    some (.ret 3)
   else
   if 2000 < (e10.settings.length : Int) then
    some (.ret 2)
   else
   forE e10.settings (fun (i21 : Nat) e20 (s14 : Unit) => (show Option (Lr Unit Unit Int) from
     if (!((tfind e20.key r3).getD false)) = true then
      some (.ret 8)
     else
     if (!(withinB e20.level 0 65535)) = true then
      some (.ret 1)
     else
     (if decide (0 < (i21 : Int)) = true then tIx e10.settings (IntKind.i64.wrap ((i21 : Int) - 1)) else some default).bind fun x22 =>
     (if decide (0 < (i21 : Int)) = true then t_pick_before x22.key e20.key else some default).bind fun r23 =>
     if ((decide (0 < (i21 : Int))) && (!r23)) = true then
      some (.ret 7)
     else
     some (.go ()))) (fun s14 => some ()) () (fun b15 =>
    some (.go ())) (fun b15 =>
    some (.ret b15)))) (fun s4 => some ()) () (fun b5 =>
  some 0) (fun b5 =>
  some b5)
theorem h_pick_CheckPresets {a0 : RigD} { a1 : (List PresetD)} {σ : Heap} {r : Int} (h : t_pick_CheckPresets a0 a1 = some r) : m_pick_CheckPresets [(AV.agg (cRig a0)), (sl 3 cPreset a1)] σ = some ((AV.int .i64 r), σ) := by
 refine rf_wrap2 (f := r_pick_CheckPresets) (y0 := (AV.agg (cRig a0))) (y1 := (sl 3 cPreset a1)) (enc := fun r : Int => (AV.int .i64 r)) (T := t_pick_CheckPresets a0 a1) rfl rfl ?_ r h
 unfold r_pick_CheckPresets t_pick_CheckPresets
 refine rf_s (cRig a0) rfl ?_
 refine rf_s (AV.agg (cRig a0)) rfl ?_
 refine rf_o (fun r1 : Int => ((AV.int .i64 r1), σ)) (fun r1 hr1 => (tq_of (e := fun r : Int => ((AV.int .i64 r), σ)) (fun hs => CheckRig_eq a0 hs σ)) hr1) (fun r1 hr1 => ?_)
 refine rf_s (AV.int .i64 (a1.length : Int)) (lenS_sl _ _ _) ?_
 refine rf_s (AV.bool (decide (200 < (a1.length : Int)))) rfl ?_
 refine rf_s ((AV.int .i64 (if (decide (200 < (a1.length : Int))) = true then 2 else 0)), σ) (When_eq (decide (200 < (a1.length : Int))) 2 σ) ?_
 refine rf_s (sl 1 cInt ([r1, (if (decide (200 < (a1.length : Int))) = true then 2 else 0)] : (List Int))) rfl ?_
 refine rf_o (fun r2 : Int => ((AV.int .i64 r2), σ)) (fun r2 hr2 => (tq_of (e := fun r : Int => ((AV.int .i64 r), σ)) (fun hs => First_eq ([r1, (if (decide (200 < (a1.length : Int))) = true then 2 else 0)] : (List Int)) hs σ)) hr2) (fun r2 hr2 => ?_)
 refine rf_s (AV.bool (decide (¬ (r2 = 0)))) (aNe _ _ _) ?_
 refine rf_c (p := ¬ (r2 = 0)) (fun c31 => ?_) (fun c31 => ?_)
 ·exact rf_fin _ (fin_same _ _) ⟨rfl, rfl⟩
 refine rf_s (AV.agg (cRig a0)) rfl ?_
 refine rf_o (fun r3 : (List (KeyD × Bool)) => ((fmE (fun x => (AV.agg (cKey x))) (fun x => (AV.bool x)) r3), σ)) (fun r3 hr3 => h_pick_keys hr3) (fun r3 hr3 => ?_)
 refine rf_s (AV.int .i64 (a1.length : Int)) (lenS_sl _ _ _) ?_
 refine rf_for (B := Unit) (R := Int) (fun (i11 : Nat) (s4 : Unit) v w6 => ∃ u4, v = [u4, (AV.int .i64 (i11 : Int))] ∧ σ = w6) (fun (b5 : Unit) (q : LS) => ∃ u4 u26, q = ((AX.exit 0), ([u4, u26] : List AV), σ)) (fun (b5 : Int) (q : LS) => ∃ u26, q = (AX.ret, ([(AV.int .i64 b5), u26] : List AV), σ)) ?_ ?_ ⟨_, rfl, rfl⟩ ?_ ?_
 ·intro hle10 i11 e10 s4 v w6 he10 hI
  obtain ⟨u4, rfl, rfl⟩ := hI
  refine rf_s (AV.bool true) (ix_lt he10) ?_
  refine rf_ct ?_
  refine rf_s (AV.rp (cPreset e10)) (ix_for he10) ?_
  refine rf_s (AV.agg (cPreset e10)) rfl ?_
  refine rf_s (cPreset e10) rfl ?_
  refine rf_s (cPreset e10) (sp_cPreset _ _ rfl) ?_
  refine rf_s (AV.int .i64 e10.number) rfl ?_
  refine rf_s ((AV.bool (withinB e10.number 1 999)), σ) (Within_eq e10.number 1 999 σ) ?_
  refine rf_s (AV.bool (!(withinB e10.number 1 999))) rfl ?_
  refine rf_cb (c := (!(withinB e10.number 1 999))) (fun c30 => ?_) (fun c30 => ?_)
  ·exact rf_ret (rnd_ret (by simp) ⟨_, rfl⟩)
  refine rf_s (AV.bool (decide (0 < (i11 : Int)))) rfl ?_
  refine rf_gt (AV.int .i64 e10.number) (fun hg => rfl) ?_
  refine rf_gt (sl 3 cPreset a1) (fun hg => rfl) ?_
  refine rf_gt (AV.int .i64 (i11 : Int)) (fun hg => rfl) ?_
  refine rf_gt (AV.int .i64 (IntKind.i64.wrap ((i11 : Int) - 1))) (fun hg => by
    simp only [hg, Bool.true_and, cond_true]; first | done | exact rfl) ?_
  refine rf_gto (ω := PresetD) (fun x12 => (AV.rp (cPreset x12))) (fun hg x12 hx12 => by
    simp only [hg, Bool.true_and, cond_true]; first | done | exact ix_at hx12) (fun x12 hx12 => ?_)
  refine rf_gt (AV.rp (cPreset x12)) (fun hg => by
    simp only [hg, Bool.true_and, cond_true]; first | done | exact rfl) ?_
  refine rf_gt (AV.int .i64 x12.number) (fun hg => by
    simp only [hg, Bool.true_and, cond_true]; first | done | exact rfl) ?_
  refine rf_gt (AV.bool (decide (e10.number ≤ x12.number))) (fun hg => by
    simp only [hg, Bool.true_and, cond_true]; first | done | exact rfl) ?_
  refine rf_s (AV.bool ((decide (0 < (i11 : Int))) && (decide (e10.number ≤ x12.number)))) (pk_and _ _) ?_
  refine rf_cb (c := ((decide (0 < (i11 : Int))) && (decide (e10.number ≤ x12.number)))) (fun c29 => ?_) (fun c29 => ?_)
  ·exact rf_ret (rnd_ret (by simp) ⟨_, rfl⟩)
  refine rf_s (AV.str e10.title) rfl ?_
  refine rf_o (fun r13 : Bool => ((AV.bool r13), σ)) (fun r13 hr13 => (tq_of (e := fun r : Bool => ((AV.bool r), σ)) (fun hs => blank_eq e10.title hs σ)) hr13) (fun r13 hr13 => ?_)
  refine rf_s (AV.bool (!r13)) rfl ?_
  refine rf_cb (c := (!r13)) (fun c28 => ?_) (fun c28 => ?_)
  ·exact rf_ret (rnd_ret (by simp) ⟨_, rfl⟩)
  refine rf_s (sl 3 cSetting e10.settings) rfl ?_
  refine rf_s (AV.int .i64 (e10.settings.length : Int)) (lenS_sl _ _ _) ?_
  refine rf_s (AV.bool (decide (2000 < (e10.settings.length : Int)))) rfl ?_
  refine rf_c (p := 2000 < (e10.settings.length : Int)) (fun c27 => ?_) (fun c27 => ?_)
  ·exact rf_ret (rnd_ret (by simp) ⟨_, rfl⟩)
  refine rf_s (sl 3 cSetting e10.settings) rfl ?_
  refine rf_s (AV.int .i64 (e10.settings.length : Int)) (lenS_sl _ _ _) ?_
  refine rf_for (B := Unit) (R := Int) (fun (i21 : Nat) (s14 : Unit) v w16 => ∃ u4, v = [u4, (AV.lbx (cPreset e10)), (AV.int .i64 (i21 : Int))] ∧ σ = w16) (fun (b15 : Unit) (q : LS) => ∃ u4 u8 u63, q = ((AX.exit 3), ([u4, u8, u63] : List AV), σ)) (fun (b15 : Int) (q : LS) => ∃ u8 u63, q = (AX.ret, ([(AV.int .i64 b15), u8, u63] : List AV), σ)) ?_ ?_ ⟨_, rfl, rfl⟩ ?_ ?_
  ·intro hle20 i21 e20 s14 v w16 he20 hI
   obtain ⟨u4, rfl, rfl⟩ := hI
   refine rf_s (AV.bool true) (ix_lt he20) ?_
   refine rf_ct ?_
   refine rf_s (AV.rp (cSetting e20)) (ix_for he20) ?_
   refine rf_s (AV.agg (cSetting e20)) rfl ?_
   refine rf_s (cSetting e20) rfl ?_
   refine rf_s (cSetting e20) (sp_cSetting _ _ rfl) ?_
   refine rf_s (AV.agg (cKey e20.key)) rfl ?_
   refine rf_s (AV.bool ((tfind e20.key r3).getD false)) (fm_lookT (ek := (.s [0, 2])) (eK := (fun x => (AV.agg (cKey x)))) (eV := (fun x => (AV.bool x))) eqk_Key e20.key false rfl) ?_
   refine rf_s (AV.bool (!((tfind e20.key r3).getD false))) rfl ?_
   refine rf_cb (c := (!((tfind e20.key r3).getD false))) (fun c26 => ?_) (fun c26 => ?_)
   ·exact rf_ret (rnd_ret (by simp) ⟨_, _, rfl⟩)
   refine rf_s (AV.int .i64 e20.level) rfl ?_
   refine rf_s ((AV.bool (withinB e20.level 0 65535)), σ) (isLevelP_eq e20.level σ) ?_
   refine rf_s (AV.bool (!(withinB e20.level 0 65535))) rfl ?_
   refine rf_cb (c := (!(withinB e20.level 0 65535))) (fun c25 => ?_) (fun c25 => ?_)
   ·exact rf_ret (rnd_ret (by simp) ⟨_, _, rfl⟩)
   refine rf_s (AV.bool (decide (0 < (i21 : Int)))) rfl ?_
   refine rf_s _ rfl ?_
   refine rf_gt (sl 3 cSetting e10.settings) (fun hg => rfl) ?_
   refine rf_gt (AV.int .i64 (i21 : Int)) (fun hg => rfl) ?_
   refine rf_gt (AV.int .i64 (IntKind.i64.wrap ((i21 : Int) - 1))) (fun hg => by
     simp only [hg, Bool.true_and, cond_true]; first | done | exact rfl) ?_
   refine rf_gto (ω := SettingD) (fun x22 => (AV.rp (cSetting x22))) (fun hg x22 hx22 => by
     simp only [hg, Bool.true_and, cond_true]; first | done | exact ix_at hx22) (fun x22 hx22 => ?_)
   refine rf_gt (AV.rp (cSetting x22)) (fun hg => by
     simp only [hg, Bool.true_and, cond_true]; first | done | exact rfl) ?_
   refine rf_gt (AV.agg (cKey x22.key)) (fun hg => by
     simp only [hg, Bool.true_and, cond_true]; first | done | exact rfl) ?_
   refine rf_gt (AV.agg (cKey e20.key)) (fun hg => rfl) ?_
   refine rf_gto (ω := Bool) (fun r23 => (AV.bool r23)) (fun hg r23 hr23 => by
     simp only [hg, Bool.true_and, cond_true]; first | done | exact (quiet_of (h_pick_before hr23))) (fun r23 hr23 => ?_)
   refine rf_gt (AV.bool (!r23)) (fun hg => by
     simp only [hg, Bool.true_and, cond_true]; first | done | exact rfl) ?_
   refine rf_s (AV.bool ((decide (0 < (i21 : Int))) && (!r23))) (pk_and _ _) ?_
   refine rf_cb (c := ((decide (0 < (i21 : Int))) && (!r23))) (fun c24 => ?_) (fun c24 => ?_)
   ·exact rf_ret (rnd_ret (by simp) ⟨_, _, rfl⟩)
   refine rf_s (AV.int .i64 ((i21 + 1 : Nat) : Int)) (ix_inc he20 hle20) ?_
   exact rf_ret (rnd_go ⟨_, rfl, rfl⟩)
  ·intro hl s14 v w16 hI
   obtain ⟨u4, rfl, rfl⟩ := hI
   refine rf_s (AV.bool false) (ix_end _) ?_
   refine rf_cf ?_
   exact rf_ret ⟨by simp, ⟨_, _, _, rfl⟩⟩
  ·intro hl b15 q hq
   obtain ⟨u4, u8, u63, rfl⟩ := hq
   refine rf_bt rfl ?_
   refine rf_s (AV.int .i64 ((i11 + 1 : Nat) : Int)) (ix_inc he10 hle10) ?_
   exact rf_ret (rnd_go ⟨_, rfl, rfl⟩)
  ·intro hl b15 q hq
   obtain ⟨u8, u63, rfl⟩ := hq
   refine rf_bf rfl ?_
   refine rf_bt rfl ?_
   exact rf_ret (rnd_ret (by simp) ⟨_, rfl⟩)
 ·intro hl s4 v w6 hI
  obtain ⟨u4, rfl, rfl⟩ := hI
  refine rf_s (AV.bool false) (ix_end _) ?_
  refine rf_cf ?_
  exact rf_ret ⟨by simp, ⟨_, _, rfl⟩⟩
 ·intro hl b5 q hq
  obtain ⟨u4, u26, rfl⟩ := hq
  refine rf_bt rfl ?_
  exact rf_fin _ (fin_same _ _) ⟨rfl, rfl⟩
 ·intro hl b5 q hq
  obtain ⟨u26, rfl⟩ := hq
  refine rf_bf rfl ?_
  refine rf_bt rfl ?_
  exact rf_fin _ (fin_same _ _) ⟨rfl, rfl⟩

noncomputable def t_pick_Level (a0 : (List PresetD)) (a1 : KeyD) (a2 : ValueD) : Option (Int × Int) :=
 if ((decide (¬ (a2.level = 0))) && (decide (¬ (a2.preset = 0)))) = true then
  some (0, 3)
 else
 if (!(withinB a2.level 0 65535)) = true then
  some (0, 1)
 else
 if a2.preset = 0 then
  some (a2.level, 0)
 else
 forE a0 (fun (i8 : Nat) e7 (s1 : Unit) => (show Option (Lr Unit Unit Int) from
   if ¬ (e7.number = a2.preset) then
    some (.go ())
   else
   forE e7.settings (fun (i16 : Nat) e15 (s9 : Unit) => (show Option (Lr Unit Unit Int) from
     if e15.key = a1 then
      some (.ret e15.level)
     else
     some (.go ()))) (fun s9 => some ()) () (fun b10 =>
    some (.brk ())) (fun b10 =>
    some (.ret b10)))) (fun s1 => some ()) () (fun b2 =>
  some (0, 8)) (fun b2 =>
  some (b2, 0))
theorem h_pick_Level {a0 : (List PresetD)} { a1 : KeyD} { a2 : ValueD} {σ : Heap} {r : (Int × Int)} (h : t_pick_Level a0 a1 a2 = some r) : m_pick_Level [(sl 3 cPreset a0), (AV.agg (cKey a1)), (AV.agg (cValue a2))] σ = some ((AV.tup [(AV.int .i64 r.1), (AV.int .i64 r.2)]), σ) := by
 refine rf_wrap3 (f := r_pick_Level) (y0 := (sl 3 cPreset a0)) (y1 := (AV.agg (cKey a1))) (y2 := (AV.agg (cValue a2))) (enc := fun r : (Int × Int) => (AV.tup [(AV.int .i64 r.1), (AV.int .i64 r.2)])) (T := t_pick_Level a0 a1 a2) rfl rfl ?_ r h
 unfold r_pick_Level t_pick_Level
 refine rf_s (cKey a1) rfl ?_
 refine rf_s (cValue a2) rfl ?_
 refine rf_s (AV.int .i64 a2.level) rfl ?_
 refine rf_s (AV.bool (decide (¬ (a2.level = 0)))) (aNe _ _ _) ?_
 refine rf_gt (AV.int .i64 a2.preset) (fun hg => rfl) ?_
 refine rf_gt (AV.bool (decide (¬ (a2.preset = 0)))) (fun hg => by
   simp only [hg, Bool.true_and, cond_true]; first | done | exact (aNe _ _ _)) ?_
 refine rf_s (AV.bool ((decide (¬ (a2.level = 0))) && (decide (¬ (a2.preset = 0))))) (pk_and _ _) ?_
 refine rf_cb (c := ((decide (¬ (a2.level = 0))) && (decide (¬ (a2.preset = 0))))) (fun c21 => ?_) (fun c21 => ?_)
 ·exact rf_fin _ (fin_same _ _) ⟨rfl, rfl⟩
 refine rf_s (AV.int .i64 a2.level) rfl ?_
 refine rf_s ((AV.bool (withinB a2.level 0 65535)), σ) (isLevelP_eq a2.level σ) ?_
 refine rf_s (AV.bool (!(withinB a2.level 0 65535))) rfl ?_
 refine rf_cb (c := (!(withinB a2.level 0 65535))) (fun c20 => ?_) (fun c20 => ?_)
 ·exact rf_fin _ (fin_same _ _) ⟨rfl, rfl⟩
 refine rf_s (AV.int .i64 a2.preset) rfl ?_
 refine rf_s (AV.bool (decide (a2.preset = 0))) (aEq _ _ _) ?_
 refine rf_c (p := a2.preset = 0) (fun c19 => ?_) (fun c19 => ?_)
 ·refine rf_s (AV.int .i64 a2.level) rfl ?_
  exact rf_fin _ (fin_same _ _) ⟨rfl, rfl⟩
 refine rf_s (AV.int .i64 (a0.length : Int)) (lenS_sl _ _ _) ?_
 refine rf_for (B := Unit) (R := Int) (fun (i8 : Nat) (s1 : Unit) v w3 => v = [(AV.lbx (cKey a1)), (AV.lbx (cValue a2)), (AV.int .i64 0), (AV.int .i64 0), (AV.int .i64 (i8 : Int))] ∧ σ = w3) (fun (b2 : Unit) (q : LS) => ∃ u4 u5 u6 u7 u31, q = ((AX.exit 0), ([u4, u5, u6, u7, u31] : List AV), σ)) (fun (b2 : Int) (q : LS) => ∃ u4 u5 u31, q = (AX.ret, ([u4, u5, (AV.int .i64 b2), (AV.int .i64 0), u31] : List AV), σ)) ?_ ?_ ⟨rfl, rfl⟩ ?_ ?_
 ·intro hle7 i8 e7 s1 v w3 he7 hI
  obtain ⟨rfl, rfl⟩ := hI
  refine rf_s (AV.bool true) (ix_lt he7) ?_
  refine rf_ct ?_
  refine rf_s (AV.rp (cPreset e7)) (ix_for he7) ?_
  refine rf_s (AV.agg (cPreset e7)) rfl ?_
  refine rf_s (cPreset e7) rfl ?_
  refine rf_s (cPreset e7) (sp_cPreset _ _ rfl) ?_
  refine rf_s (AV.int .i64 e7.number) rfl ?_
  refine rf_s _ rfl ?_
  refine rf_s (AV.int .i64 a2.preset) rfl ?_
  refine rf_s (AV.bool (decide (¬ (e7.number = a2.preset)))) (aNe _ _ _) ?_
  refine rf_c (p := ¬ (e7.number = a2.preset)) (fun c18 => ?_) (fun c18 => ?_)
  ·refine rf_s (AV.int .i64 ((i8 + 1 : Nat) : Int)) (ix_inc he7 hle7) ?_
   exact rf_ret (rnd_go ⟨rfl, rfl⟩)
  refine rf_s (sl 3 cSetting e7.settings) rfl ?_
  refine rf_s (AV.int .i64 (e7.settings.length : Int)) (lenS_sl _ _ _) ?_
  refine rf_for (B := Unit) (R := Int) (fun (i16 : Nat) (s9 : Unit) v w11 => v = [(AV.lbx (cKey a1)), (AV.int .i64 0), (AV.int .i64 0), (AV.int .i64 (i16 : Int))] ∧ σ = w11) (fun (b10 : Unit) (q : LS) => ∃ u4 u6 u7 u43, q = ((AX.exit 2), ([u4, u6, u7, u43] : List AV), σ)) (fun (b10 : Int) (q : LS) => ∃ u4 u43, q = (AX.ret, ([u4, (AV.int .i64 b10), (AV.int .i64 0), u43] : List AV), σ)) ?_ ?_ ⟨rfl, rfl⟩ ?_ ?_
  ·intro hle15 i16 e15 s9 v w11 he15 hI
   obtain ⟨rfl, rfl⟩ := hI
   refine rf_s (AV.bool true) (ix_lt he15) ?_
   refine rf_ct ?_
   refine rf_s (AV.rp (cSetting e15)) (ix_for he15) ?_
   refine rf_s (AV.agg (cSetting e15)) rfl ?_
   refine rf_s (cSetting e15) rfl ?_
   refine rf_s (cSetting e15) (sp_cSetting _ _ rfl) ?_
   refine rf_s (AV.agg (cKey e15.key)) rfl ?_
   refine rf_s (AV.agg (cKey a1)) rfl ?_
   refine rf_s (AV.bool (decide (e15.key = a1))) (eq_Key _ _) ?_
   refine rf_c (p := e15.key = a1) (fun c17 => ?_) (fun c17 => ?_)
   ·refine rf_s (AV.int .i64 e15.level) rfl ?_
    exact rf_ret (rnd_ret (by simp) ⟨_, _, rfl⟩)
   refine rf_s (AV.int .i64 ((i16 + 1 : Nat) : Int)) (ix_inc he15 hle15) ?_
   exact rf_ret (rnd_go ⟨rfl, rfl⟩)
  ·intro hl s9 v w11 hI
   obtain ⟨rfl, rfl⟩ := hI
   refine rf_s (AV.bool false) (ix_end _) ?_
   refine rf_cf ?_
   exact rf_ret ⟨by simp, ⟨_, _, _, _, rfl⟩⟩
  ·intro hl b10 q hq
   obtain ⟨u4, u6, u7, u43, rfl⟩ := hq
   refine rf_bt rfl ?_
   exact rf_ret (rnd_brk (by simp) ⟨_, _, _, _, _, rfl⟩)
  ·intro hl b10 q hq
   obtain ⟨u4, u43, rfl⟩ := hq
   refine rf_bf rfl ?_
   refine rf_bt rfl ?_
   exact rf_ret (rnd_ret (by simp) ⟨_, _, _, rfl⟩)
 ·intro hl s1 v w3 hI
  obtain ⟨rfl, rfl⟩ := hI
  refine rf_s (AV.bool false) (ix_end _) ?_
  refine rf_cf ?_
  exact rf_ret ⟨by simp, ⟨_, _, _, _, _, rfl⟩⟩
 ·intro hl b2 q hq
  obtain ⟨u4, u5, u6, u7, u31, rfl⟩ := hq
  refine rf_bt rfl ?_
  exact rf_fin _ (fin_same _ _) ⟨rfl, rfl⟩
 ·intro hl b2 q hq
  obtain ⟨u4, u5, u31, rfl⟩ := hq
  refine rf_bf rfl ?_
  refine rf_bt rfl ?_
  exact rf_fin _ (fin_same _ _) ⟨rfl, rfl⟩

noncomputable def t_cue_CheckList (a0 : RigD) (a1 : (List PresetD)) (a2 : (List CueD)) : Option Int :=
 (t_pick_CheckPresets a0 a1).bind fun r1 =>
 (t_cue_form a2).bind fun r2 =>
 (tq (([r1, r2] : (List Int)).length ≤ mxl) ((([r1, r2] : (List Int)).find? fun n => decide (¬ n = 0)).getD 0)).bind fun r3 =>
 if ¬ (r3 = 0) then
  some r3
 else
 (tq (okRig a0) (((if rigF a0 = 0 then keysOf a0 else [] : List KeyD), rigF a0))).bind fun r4 =>
 forE r4.1 (fun (i14 : Nat) e13 (s7 : (List (KeyD × Bool))) => (show Option (Lr (List (KeyD × Bool)) (List (KeyD × Bool)) Unit) from
   some (.go (tupd e13 true s7)))) (fun s7 => some s7) ([] : List (KeyD × Bool)) (fun b8 =>
  forE a2 (fun (i25 : Nat) e24 (s18 : Unit) => (show Option (Lr Unit Unit Int) from
    forE e24.moves (fun (i33 : Nat) e32 (s26 : Unit) => (show Option (Lr Unit Unit Int) from
      if (!((tfind e32.key b8).getD false)) = true then
       some (.ret 8)
      else
      (t_pick_Level a1 e32.key e32.value).bind fun r34 =>
      if ¬ (r34.2 = 0) then
       some (.ret r34.2)
      else
      some (.go ()))) (fun s26 => some ()) () (fun b27 =>
     some (.go ())) (fun b27 =>
     some (.ret b27)))) (fun s18 => some ()) () (fun b19 =>
   some 0) (fun b19 =>
   some b19)) (fun b8 =>
  none)
theorem h_cue_CheckList {a0 : RigD} { a1 : (List PresetD)} { a2 : (List CueD)} {σ : Heap} {r : Int} (h : t_cue_CheckList a0 a1 a2 = some r) : m_cue_CheckList [(AV.agg (cRig a0)), (sl 3 cPreset a1), (sl 11 cCue a2)] σ = some ((AV.int .i64 r), σ) := by
 refine rf_wrap3 (f := r_cue_CheckList) (y0 := (AV.agg (cRig a0))) (y1 := (sl 3 cPreset a1)) (y2 := (sl 11 cCue a2)) (enc := fun r : Int => (AV.int .i64 r)) (T := t_cue_CheckList a0 a1 a2) (nn_t1 (nn_a (nn_t1 (nn_e (fun _ => (nn_t1 rfl (nn_t1 rfl (nn_t1 (nn_e (fun _ => rfl) _) nn_t0)))) _) (nn_t1 rfl nn_t0))) (nn_t1 (nn_e (fun _ => rfl) _) (nn_t1 (nn_e (fun _ => rfl) _) rfl))) rfl ?_ r h
 unfold r_cue_CheckList t_cue_CheckList
 refine rf_s (cRig a0) rfl ?_
 refine rf_s (AV.agg (cRig a0)) rfl ?_
 refine rf_o (fun r1 : Int => ((AV.int .i64 r1), σ)) (fun r1 hr1 => h_pick_CheckPresets hr1) (fun r1 hr1 => ?_)
 refine rf_o (fun r2 : Int => ((AV.int .i64 r2), σ)) (fun r2 hr2 => h_cue_form hr2) (fun r2 hr2 => ?_)
 refine rf_s (sl 1 cInt ([r1, r2] : (List Int))) rfl ?_
 refine rf_o (fun r3 : Int => ((AV.int .i64 r3), σ)) (fun r3 hr3 => (tq_of (e := fun r : Int => ((AV.int .i64 r), σ)) (fun hs => First_eq ([r1, r2] : (List Int)) hs σ)) hr3) (fun r3 hr3 => ?_)
 refine rf_s (AV.bool (decide (¬ (r3 = 0)))) (aNe _ _ _) ?_
 refine rf_c (p := ¬ (r3 = 0)) (fun c37 => ?_) (fun c37 => ?_)
 ·exact rf_fin _ (fin_same _ _) ⟨rfl, rfl⟩
 refine rf_s (AV.agg (cRig a0)) rfl ?_
 refine rf_o (fun r4 : ((List KeyD) × Int) => ((AV.tup [(sl 2 cKey r4.1), (AV.int .i64 r4.2)]), σ)) (fun r4 hr4 => (tq_of (e := fun r : ((List KeyD) × Int) => ((AV.tup [(sl 2 cKey r.1), (AV.int .i64 r.2)]), σ)) (fun hs => Keys_eq a0 hs σ)) hr4) (fun r4 hr4 => ?_)
 refine rf_s (sl 2 cKey r4.1) rfl ?_
 refine rf_s (AV.int .i64 r4.2) rfl ?_
 have hp5 : Hp σ σ [] := hp_nil σ
 have hp6 : Hp σ (σ ++ [Blk.map []]) [((AV.om σ.length), (Ct.m (List.map (fun p => ((fun x => (AV.agg (cKey x))) p.1, (fun x => (AV.bool x)) p.2)) ([] : List (KeyD × Bool)))))] := hp_om hp5
 refine rf_s (AV.int .i64 (r4.1.length : Int)) (lenS_sl _ _ _) ?_
 refine rf_for (B := (List (KeyD × Bool))) (R := Unit) (fun (i14 : Nat) (s7 : (List (KeyD × Bool))) v w9 => v = [(AV.int .i64 (i14 : Int))] ∧ Hp σ w9 [((AV.om σ.length), (Ct.m (List.map (fun p => ((fun x => (AV.agg (cKey x))) p.1, (fun x => (AV.bool x)) p.2)) s7)))]) (fun (b8 : (List (KeyD × Bool))) (q : LS) => ∃ u37 w10, q = ((AX.exit 0), ([u37] : List AV), w10) ∧ Hp σ w10 [((AV.om σ.length), (Ct.m (List.map (fun p => ((fun x => (AV.agg (cKey x))) p.1, (fun x => (AV.bool x)) p.2)) b8)))]) (fun (b8 : Unit) (q : LS) => False) ?_ ?_ ⟨rfl, hp6⟩ ?_ ?_
 ·intro hle13 i14 e13 s7 v w9 he13 hI
  obtain ⟨rfl, hp11⟩ := hI
  refine rf_s (AV.bool true) (ix_lt he13) ?_
  refine rf_ct ?_
  refine rf_s (AV.rp (cKey e13)) (ix_for he13) ?_
  refine rf_s (AV.agg (cKey e13)) rfl ?_
  refine rf_s (cKey e13) rfl ?_
  refine rf_s (cKey e13) (sp_cKey _ _ rfl) ?_
  refine rf_s (AV.agg (cKey e13)) rfl ?_
  obtain ⟨w15, e17, hp16⟩ := hp_updT (ek := (.s [0, 2])) (eK := (fun x => (AV.agg (cKey x)))) (eV := (fun x => (AV.bool x))) hp11 0 rfl eqk_Key e13 true rfl
  change Hp σ w15 [((AV.om σ.length), (Ct.m (List.map (fun p => ((fun x => (AV.agg (cKey x))) p.1, (fun x => (AV.bool x)) p.2)) (tupd e13 true s7))))] at hp16
  refine rf_s w15 e17 ?_
  refine rf_s (AV.int .i64 ((i14 + 1 : Nat) : Int)) (ix_inc he13 hle13) ?_
  exact rf_ret (rnd_go ⟨rfl, hp16⟩)
 ·intro hl s7 v w9 hI
  obtain ⟨rfl, hp11⟩ := hI
  refine rf_s (AV.bool false) (ix_end _) ?_
  refine rf_cf ?_
  exact rf_ret ⟨by simp, ⟨_, _, rfl, hp11⟩⟩
 ·intro hl b8 q hq
  obtain ⟨u37, w10, rfl, hp12⟩ := hq
  refine rf_bt rfl ?_
  refine rf_s (AV.int .i64 (a2.length : Int)) (lenS_sl _ _ _) ?_
  refine rf_for (B := Unit) (R := Int) (fun (i25 : Nat) (s18 : Unit) v w20 => ∃ u6, v = [u6, (AV.int .i64 (i25 : Int))] ∧ Hp σ w20 [((AV.om σ.length), (Ct.m (List.map (fun p => ((fun x => (AV.agg (cKey x))) p.1, (fun x => (AV.bool x)) p.2)) b8)))]) (fun (b19 : Unit) (q : LS) => ∃ u6 u46 w21, q = ((AX.exit 2), ([u6, u46] : List AV), w21) ∧ Hp σ w21 [((AV.om σ.length), (Ct.m (List.map (fun p => ((fun x => (AV.agg (cKey x))) p.1, (fun x => (AV.bool x)) p.2)) b8)))]) (fun (b19 : Int) (q : LS) => ∃ u46 w21, q = (AX.ret, ([(AV.int .i64 b19), u46] : List AV), w21) ∧ Hp σ w21 []) ?_ ?_ ⟨_, rfl, hp12⟩ ?_ ?_
  ·intro hle24 i25 e24 s18 v w20 he24 hI
   obtain ⟨u6, rfl, hp22⟩ := hI
   refine rf_s (AV.bool true) (ix_lt he24) ?_
   refine rf_ct ?_
   refine rf_s (AV.rp (cCue e24)) (ix_for he24) ?_
   refine rf_s (AV.agg (cCue e24)) rfl ?_
   refine rf_s (cCue e24) rfl ?_
   refine rf_s (cCue e24) (sp_cCue _ _ rfl) ?_
   refine rf_s (sl 8 cMove e24.moves) rfl ?_
   refine rf_s (AV.int .i64 (e24.moves.length : Int)) (lenS_sl _ _ _) ?_
   refine rf_for (B := Unit) (R := Int) (fun (i33 : Nat) (s26 : Unit) v w28 => ∃ u6, v = [u6, (AV.int .i64 (i33 : Int))] ∧ Hp σ w28 [((AV.om σ.length), (Ct.m (List.map (fun p => ((fun x => (AV.agg (cKey x))) p.1, (fun x => (AV.bool x)) p.2)) b8)))]) (fun (b27 : Unit) (q : LS) => ∃ u6 u53 w29, q = ((AX.exit 4), ([u6, u53] : List AV), w29) ∧ Hp σ w29 [((AV.om σ.length), (Ct.m (List.map (fun p => ((fun x => (AV.agg (cKey x))) p.1, (fun x => (AV.bool x)) p.2)) b8)))]) (fun (b27 : Int) (q : LS) => ∃ u53 w29, q = (AX.ret, ([(AV.int .i64 b27), u53] : List AV), w29) ∧ Hp σ w29 []) ?_ ?_ ⟨_, rfl, hp22⟩ ?_ ?_
   ·intro hle32 i33 e32 s26 v w28 he32 hI
    obtain ⟨u6, rfl, hp30⟩ := hI
    refine rf_s (AV.bool true) (ix_lt he32) ?_
    refine rf_ct ?_
    refine rf_s (AV.rp (cMove e32)) (ix_for he32) ?_
    refine rf_s (AV.agg (cMove e32)) rfl ?_
    refine rf_s (cMove e32) rfl ?_
    refine rf_s (cMove e32) (sp_cMove _ _ rfl) ?_
    refine rf_s (AV.agg (cKey e32.key)) rfl ?_
    refine rf_s (AV.bool ((tfind e32.key b8).getD false)) (hp_lookT (ek := (.s [0, 2])) (eK := (fun x => (AV.agg (cKey x)))) (eV := (fun x => (AV.bool x))) hp30 0 rfl eqk_Key e32.key false rfl) ?_
    refine rf_s (AV.bool (!((tfind e32.key b8).getD false))) rfl ?_
    refine rf_cb (c := (!((tfind e32.key b8).getD false))) (fun c36 => ?_) (fun c36 => ?_)
    ·exact rf_ret (rnd_ret (by simp) ⟨_, _, rfl, (hp_weak hp30)⟩)
    refine rf_s (AV.agg (cKey e32.key)) rfl ?_
    refine rf_s (AV.agg (cValue e32.value)) rfl ?_
    refine rf_o (fun r34 : (Int × Int) => ((AV.tup [(AV.int .i64 r34.1), (AV.int .i64 r34.2)]), w28)) (fun r34 hr34 => h_pick_Level hr34) (fun r34 hr34 => ?_)
    refine rf_s (AV.int .i64 r34.1) rfl ?_
    refine rf_s (AV.int .i64 r34.2) rfl ?_
    refine rf_s (AV.bool (decide (¬ (r34.2 = 0)))) (aNe _ _ _) ?_
    refine rf_c (p := ¬ (r34.2 = 0)) (fun c35 => ?_) (fun c35 => ?_)
    ·exact rf_ret (rnd_ret (by simp) ⟨_, _, rfl, (hp_weak hp30)⟩)
    refine rf_s (AV.int .i64 ((i33 + 1 : Nat) : Int)) (ix_inc he32 hle32) ?_
    exact rf_ret (rnd_go ⟨_, rfl, hp30⟩)
   ·intro hl s26 v w28 hI
    obtain ⟨u6, rfl, hp30⟩ := hI
    refine rf_s (AV.bool false) (ix_end _) ?_
    refine rf_cf ?_
    exact rf_ret ⟨by simp, ⟨_, _, _, rfl, hp30⟩⟩
   ·intro hl b27 q hq
    obtain ⟨u6, u53, w29, rfl, hp31⟩ := hq
    refine rf_bt rfl ?_
    refine rf_s (AV.int .i64 ((i25 + 1 : Nat) : Int)) (ix_inc he24 hle24) ?_
    exact rf_ret (rnd_go ⟨_, rfl, hp31⟩)
   ·intro hl b27 q hq
    obtain ⟨u53, w29, rfl, hp31⟩ := hq
    refine rf_bf rfl ?_
    refine rf_bt rfl ?_
    exact rf_ret (rnd_ret (by simp) ⟨_, _, rfl, (hp_weak hp31)⟩)
  ·intro hl s18 v w20 hI
   obtain ⟨u6, rfl, hp22⟩ := hI
   refine rf_s (AV.bool false) (ix_end _) ?_
   refine rf_cf ?_
   exact rf_ret ⟨by simp, ⟨_, _, _, rfl, hp22⟩⟩
  ·intro hl b19 q hq
   obtain ⟨u6, u46, w21, rfl, hp23⟩ := hq
   refine rf_bt rfl ?_
   exact rf_fin _ (hp_fin hp23 (fzv_fz (fz_int _ _))) ⟨rfl, rfl⟩
  ·intro hl b19 q hq
   obtain ⟨u46, w21, rfl, hp23⟩ := hq
   refine rf_bf rfl ?_
   refine rf_bt rfl ?_
   exact rf_fin _ (hp_fin hp23 (fzv_fz (fz_int _ _))) ⟨rfl, rfl⟩
 ·intro hl b8 q hq
  exact False.elim hq

noncomputable def t_R4_PresetOf (a0 : (List PresetD)) (a1 : Int) : Option (PresetD × Bool) :=
 forE a0 (fun (i8 : Nat) e7 (s1 : Unit) => (show Option (Lr Unit Unit (PresetD × Bool)) from
   if e7.number = a1 then
    some (.ret (e7, true))
   else
   some (.go ()))) (fun s1 => some ()) () (fun b2 =>
  some ((⟨0, (⟨#[]⟩ : ByteArray), []⟩ : PresetD), false)) (fun b2 =>
  some (b2.1, b2.2))
theorem h_R4_PresetOf {a0 : (List PresetD)} { a1 : Int} {σ : Heap} {r : (PresetD × Bool)} (h : t_R4_PresetOf a0 a1 = some r) : m_R4_PresetOf [(sl 3 cPreset a0), (AV.int .i64 a1)] σ = some ((AV.tup [(AV.agg (cPreset r.1)), (AV.bool r.2)]), σ) := by
 refine rf_wrap2 (f := r_R4_PresetOf) (y0 := (sl 3 cPreset a0)) (y1 := (AV.int .i64 a1)) (enc := fun r : (PresetD × Bool) => (AV.tup [(AV.agg (cPreset r.1)), (AV.bool r.2)])) (T := t_R4_PresetOf a0 a1) rfl rfl ?_ r h
 unfold r_R4_PresetOf t_R4_PresetOf
 refine rf_s (AV.int .i64 (a0.length : Int)) (lenS_sl _ _ _) ?_
 refine rf_for (B := Unit) (R := (PresetD × Bool)) (fun (i8 : Nat) (s1 : Unit) v w3 => v = [(AV.lbx [(AV.int .i64 0), (AV.str (⟨#[]⟩ : ByteArray)), AV.nsl]), (AV.bool false), (AV.int .i64 (i8 : Int))] ∧ σ = w3) (fun (b2 : Unit) (q : LS) => ∃ u5 u10, q = ((AX.exit 0), ([(AV.lbx [(AV.int .i64 0), (AV.str (⟨#[]⟩ : ByteArray)), AV.nsl]), u5, u10] : List AV), σ)) (fun (b2 : (PresetD × Bool)) (q : LS) => ∃ u10, q = (AX.ret, ([(AV.lbx (cPreset b2.1)), (AV.bool b2.2), u10] : List AV), σ)) ?_ ?_ ⟨rfl, rfl⟩ ?_ ?_
 ·intro hle7 i8 e7 s1 v w3 he7 hI
  obtain ⟨rfl, rfl⟩ := hI
  refine rf_s (AV.bool true) (ix_lt he7) ?_
  refine rf_ct ?_
  refine rf_s (AV.rp (cPreset e7)) (ix_for he7) ?_
  refine rf_s (AV.agg (cPreset e7)) rfl ?_
  refine rf_s (cPreset e7) rfl ?_
  refine rf_s (cPreset e7) (sp_cPreset _ _ rfl) ?_
  refine rf_s (AV.int .i64 e7.number) rfl ?_
  refine rf_s (AV.bool (decide (e7.number = a1))) (aEq _ _ _) ?_
  refine rf_c (p := e7.number = a1) (fun c9 => ?_) (fun c9 => ?_)
  ·refine rf_s (AV.agg (cPreset e7)) rfl ?_
   refine rf_s _ rfl ?_
   refine rf_s (cPreset e7) rfl ?_
   refine rf_s (cPreset e7) (sp_cPreset _ _ rfl) ?_
   exact rf_ret (rnd_ret (by simp) ⟨_, rfl⟩)
  refine rf_s (AV.int .i64 ((i8 + 1 : Nat) : Int)) (ix_inc he7 hle7) ?_
  exact rf_ret (rnd_go ⟨rfl, rfl⟩)
 ·intro hl s1 v w3 hI
  obtain ⟨rfl, rfl⟩ := hI
  refine rf_s (AV.bool false) (ix_end _) ?_
  refine rf_cf ?_
  exact rf_ret ⟨by simp, ⟨_, _, rfl⟩⟩
 ·intro hl b2 q hq
  obtain ⟨u5, u10, rfl⟩ := hq
  refine rf_bt rfl ?_
  refine rf_s _ rfl ?_
  refine rf_s [(AV.int .i64 0), (AV.str (⟨#[]⟩ : ByteArray)), AV.nsl] rfl ?_
  refine rf_s [(AV.int .i64 0), (AV.str (⟨#[]⟩ : ByteArray)), AV.nsl] rfl ?_
  refine rf_s (AV.agg [(AV.int .i64 0), (AV.str (⟨#[]⟩ : ByteArray)), AV.nsl]) rfl ?_
  exact rf_fin _ (fin_same _ _) ⟨(nn_t (nn_t1 (nn_a (nn_t1 rfl (nn_t1 rfl (nn_t1 (by first | rfl | exact nn_eNil _ _) nn_t0)))) (nn_t1 rfl nn_t0))), rfl⟩
 ·intro hl b2 q hq
  obtain ⟨u10, rfl⟩ := hq
  refine rf_bf rfl ?_
  refine rf_bt rfl ?_
  refine rf_s (AV.agg (cPreset b2.1)) rfl ?_
  exact rf_fin _ (fin_same _ _) ⟨(nn_t (nn_t1 (nn_a rfl) (nn_t1 rfl nn_t0))), rfl⟩

noncomputable def t_R4_Before (a0 : KeyD) (a1 : KeyD) : Option Bool :=
 some ((decide (a0.unit < a1.unit)) || ((decide (a0.unit = a1.unit)) && (Op.bytesLess a0.param.toList a1.param.toList)))
theorem h_R4_Before {a0 : KeyD} { a1 : KeyD} {σ : Heap} {r : Bool} (h : t_R4_Before a0 a1 = some r) : m_R4_Before [(AV.agg (cKey a0)), (AV.agg (cKey a1))] σ = some ((AV.bool r), σ) := by
 refine rf_wrap2 (f := r_R4_Before) (y0 := (AV.agg (cKey a0))) (y1 := (AV.agg (cKey a1))) (enc := fun r : Bool => (AV.bool r)) (T := t_R4_Before a0 a1) rfl rfl ?_ r h
 unfold r_R4_Before t_R4_Before
 refine rf_s (cKey a0) rfl ?_
 refine rf_s (cKey a1) rfl ?_
 refine rf_s (AV.int .i64 a0.unit) rfl ?_
 refine rf_s (AV.int .i64 a1.unit) rfl ?_
 refine rf_s (AV.bool (decide (a0.unit < a1.unit))) rfl ?_
 refine rf_gf (AV.int .i64 a0.unit) (fun hg => rfl) ?_
 refine rf_gf (AV.int .i64 a1.unit) (fun hg => rfl) ?_
 refine rf_gf (AV.bool (decide (a0.unit = a1.unit))) (fun hg => by
   simp only [hg, Bool.true_and, cond_true]; first | done | exact (aEq _ _ _)) ?_
 refine rf_gf (AV.bool (decide (a0.unit = a1.unit))) (fun hg => by
   simp only [hg, Bool.true_and, cond_true]; first | done | exact rfl) ?_
 refine rf_ggt (AV.str a0.param) (fun hg => rfl) ?_
 refine rf_ggt (AV.str a1.param) (fun hg => rfl) ?_
 refine rf_ggt (AV.bool (Op.bytesLess a0.param.toList a1.param.toList)) (fun hg => by
   simp only [hg, Bool.true_and, cond_true]; first | done | exact rfl) ?_
 refine rf_gf (AV.bool ((decide (a0.unit = a1.unit)) && (Op.bytesLess a0.param.toList a1.param.toList))) (fun hg => by
   simp only [hg, Bool.true_and, cond_true]; first | done | exact (pk_and _ _)) ?_
 refine rf_s (AV.bool ((decide (a0.unit < a1.unit)) || ((decide (a0.unit = a1.unit)) && (Op.bytesLess a0.param.toList a1.param.toList)))) (pk_or _ _) ?_
 exact rf_fin _ (fin_same _ _) ⟨rfl, rfl⟩

noncomputable def t_R4_CheckPresets (a0 : RigD) (a1 : (List PresetD)) : Option Int :=
 (tq (okRig a0) (rigF a0)).bind fun r1 =>
 if ¬ (r1 = 0) then
  some r1
 else
 if 200 < (a1.length : Int) then
  some 2
 else
 forE a1 (fun (i9 : Nat) e8 (s2 : Unit) => (show Option (Lr Unit Unit Int) from
   if (!(withinB e8.number 1 999)) = true then
    some (.ret 1)
   else
   (if decide (0 < (i9 : Int)) = true then tIx a1 (IntKind.i64.wrap ((i9 : Int) - 1)) else some default).bind fun x10 =>
   if ((decide (0 < (i9 : Int))) && (decide (e8.number ≤ x10.number))) = true then
    some (.ret 7)
   else
   (if decide (¬ (e8.title = (⟨#[]⟩ : ByteArray))) = true then tq (okS e8.title) (titleB e8.title) else some default).bind fun r11 =>
   if ((decide (¬ (e8.title = (⟨#[]⟩ : ByteArray)))) && (!r11)) = true then
    some (.ret 3)
   else
   if 2000 < (e8.settings.length : Int) then
    some (.ret 2)
   else
   forE e8.settings (fun (i19 : Nat) e18 (s12 : Unit) => (show Option (Lr Unit Unit Int) from
     (tq (okRig a0) (paramOf a0 e18.key)).bind fun r20 =>
     if (!r20.2) = true then
      some (.ret 8)
     else
     if (!(withinB e18.level 0 65535)) = true then
      some (.ret 1)
     else
     (if decide (0 < (i19 : Int)) = true then tIx e8.settings (IntKind.i64.wrap ((i19 : Int) - 1)) else some default).bind fun x21 =>
     if ((decide (0 < (i19 : Int))) && (!(((decide (x21.key.unit < e18.key.unit)) || ((decide (x21.key.unit = e18.key.unit)) && (Op.bytesLess x21.key.param.toList e18.key.param.toList)))))) = true then
      some (.ret 7)
     else
     some (.go ()))) (fun s12 => some ()) () (fun b13 =>
    some (.go ())) (fun b13 =>
    some (.ret b13)))) (fun s2 => some ()) () (fun b3 =>
  some 0) (fun b3 =>
  some b3)
theorem h_R4_CheckPresets {a0 : RigD} { a1 : (List PresetD)} {σ : Heap} {r : Int} (h : t_R4_CheckPresets a0 a1 = some r) : m_R4_CheckPresets [(AV.agg (cRig a0)), (sl 3 cPreset a1)] σ = some ((AV.int .i64 r), σ) := by
 refine rf_wrap2 (f := r_R4_CheckPresets) (y0 := (AV.agg (cRig a0))) (y1 := (sl 3 cPreset a1)) (enc := fun r : Int => (AV.int .i64 r)) (T := t_R4_CheckPresets a0 a1) rfl rfl ?_ r h
 unfold r_R4_CheckPresets t_R4_CheckPresets
 refine rf_s (cRig a0) rfl ?_
 refine rf_s (AV.agg (cRig a0)) rfl ?_
 refine rf_o (fun r1 : Int => ((AV.int .i64 r1), σ)) (fun r1 hr1 => (tq_of (e := fun r : Int => ((AV.int .i64 r), σ)) (fun hs => CheckRig2_eq a0 hs σ)) hr1) (fun r1 hr1 => ?_)
 refine rf_s (AV.bool (decide (¬ (r1 = 0)))) (aNe _ _ _) ?_
 refine rf_c (p := ¬ (r1 = 0)) (fun c30 => ?_) (fun c30 => ?_)
 ·exact rf_fin _ (fin_same _ _) ⟨rfl, rfl⟩
 refine rf_s (AV.int .i64 (a1.length : Int)) (lenS_sl _ _ _) ?_
 refine rf_s (AV.bool (decide (200 < (a1.length : Int)))) rfl ?_
 refine rf_c (p := 200 < (a1.length : Int)) (fun c29 => ?_) (fun c29 => ?_)
 ·exact rf_fin _ (fin_same _ _) ⟨rfl, rfl⟩
 refine rf_s (AV.int .i64 (a1.length : Int)) (lenS_sl _ _ _) ?_
 refine rf_for (B := Unit) (R := Int) (fun (i9 : Nat) (s2 : Unit) v w4 => ∃ u4, v = [(AV.lbx (cRig a0)), u4, (AV.int .i64 (i9 : Int))] ∧ σ = w4) (fun (b3 : Unit) (q : LS) => ∃ u2 u4 u22, q = ((AX.exit 0), ([u2, u4, u22] : List AV), σ)) (fun (b3 : Int) (q : LS) => ∃ u2 u22, q = (AX.ret, ([u2, (AV.int .i64 b3), u22] : List AV), σ)) ?_ ?_ ⟨_, rfl, rfl⟩ ?_ ?_
 ·intro hle8 i9 e8 s2 v w4 he8 hI
  obtain ⟨u4, rfl, rfl⟩ := hI
  refine rf_s (AV.bool true) (ix_lt he8) ?_
  refine rf_ct ?_
  refine rf_s (AV.rp (cPreset e8)) (ix_for he8) ?_
  refine rf_s (AV.agg (cPreset e8)) rfl ?_
  refine rf_s (cPreset e8) rfl ?_
  refine rf_s (cPreset e8) (sp_cPreset _ _ rfl) ?_
  refine rf_s (AV.int .i64 e8.number) rfl ?_
  refine rf_s ((AV.bool (withinB e8.number 1 999)), σ) (Within1_eq e8.number 1 999 σ) ?_
  refine rf_s (AV.bool (!(withinB e8.number 1 999))) rfl ?_
  refine rf_cb (c := (!(withinB e8.number 1 999))) (fun c28 => ?_) (fun c28 => ?_)
  ·exact rf_ret (rnd_ret (by simp) ⟨_, _, rfl⟩)
  refine rf_s (AV.bool (decide (0 < (i9 : Int)))) rfl ?_
  refine rf_gt (AV.int .i64 e8.number) (fun hg => rfl) ?_
  refine rf_gt (sl 3 cPreset a1) (fun hg => rfl) ?_
  refine rf_gt (AV.int .i64 (i9 : Int)) (fun hg => rfl) ?_
  refine rf_gt (AV.int .i64 (IntKind.i64.wrap ((i9 : Int) - 1))) (fun hg => by
    simp only [hg, Bool.true_and, cond_true]; first | done | exact rfl) ?_
  refine rf_gto (ω := PresetD) (fun x10 => (AV.rp (cPreset x10))) (fun hg x10 hx10 => by
    simp only [hg, Bool.true_and, cond_true]; first | done | exact ix_at hx10) (fun x10 hx10 => ?_)
  refine rf_gt (AV.rp (cPreset x10)) (fun hg => by
    simp only [hg, Bool.true_and, cond_true]; first | done | exact rfl) ?_
  refine rf_gt (AV.int .i64 x10.number) (fun hg => by
    simp only [hg, Bool.true_and, cond_true]; first | done | exact rfl) ?_
  refine rf_gt (AV.bool (decide (e8.number ≤ x10.number))) (fun hg => by
    simp only [hg, Bool.true_and, cond_true]; first | done | exact rfl) ?_
  refine rf_s (AV.bool ((decide (0 < (i9 : Int))) && (decide (e8.number ≤ x10.number)))) (pk_and _ _) ?_
  refine rf_cb (c := ((decide (0 < (i9 : Int))) && (decide (e8.number ≤ x10.number)))) (fun c27 => ?_) (fun c27 => ?_)
  ·exact rf_ret (rnd_ret (by simp) ⟨_, _, rfl⟩)
  refine rf_s (AV.str e8.title) rfl ?_
  refine rf_s (AV.bool (decide (¬ (e8.title = (⟨#[]⟩ : ByteArray))))) (aNeZ _ _) ?_
  refine rf_gt (AV.str e8.title) (fun hg => rfl) ?_
  refine rf_gto (ω := Bool) (fun r11 => (AV.bool r11)) (fun hg r11 hr11 => by
    simp only [hg, Bool.true_and, cond_true]; first | done | exact (quiet_of ((tq_of (e := fun r : Bool => ((AV.bool r), σ)) (fun hs => IsTitle1_eq e8.title hs σ)) hr11))) (fun r11 hr11 => ?_)
  refine rf_gt (AV.bool (!r11)) (fun hg => by
    simp only [hg, Bool.true_and, cond_true]; first | done | exact rfl) ?_
  refine rf_s (AV.bool ((decide (¬ (e8.title = (⟨#[]⟩ : ByteArray)))) && (!r11))) (pk_and _ _) ?_
  refine rf_cb (c := ((decide (¬ (e8.title = (⟨#[]⟩ : ByteArray)))) && (!r11))) (fun c26 => ?_) (fun c26 => ?_)
  ·exact rf_ret (rnd_ret (by simp) ⟨_, _, rfl⟩)
  refine rf_s (sl 3 cSetting e8.settings) rfl ?_
  refine rf_s (AV.int .i64 (e8.settings.length : Int)) (lenS_sl _ _ _) ?_
  refine rf_s (AV.bool (decide (2000 < (e8.settings.length : Int)))) rfl ?_
  refine rf_c (p := 2000 < (e8.settings.length : Int)) (fun c25 => ?_) (fun c25 => ?_)
  ·exact rf_ret (rnd_ret (by simp) ⟨_, _, rfl⟩)
  refine rf_s (sl 3 cSetting e8.settings) rfl ?_
  refine rf_s (AV.int .i64 (e8.settings.length : Int)) (lenS_sl _ _ _) ?_
  refine rf_for (B := Unit) (R := Int) (fun (i19 : Nat) (s12 : Unit) v w14 => ∃ u4, v = [(AV.lbx (cRig a0)), u4, (AV.lbx (cPreset e8)), (AV.int .i64 (i19 : Int))] ∧ σ = w14) (fun (b13 : Unit) (q : LS) => ∃ u4 u7 u64, q = ((AX.exit 3), ([(AV.lbx (cRig a0)), u4, u7, u64] : List AV), σ)) (fun (b13 : Int) (q : LS) => ∃ u2 u7 u64, q = (AX.ret, ([u2, (AV.int .i64 b13), u7, u64] : List AV), σ)) ?_ ?_ ⟨_, rfl, rfl⟩ ?_ ?_
  ·intro hle18 i19 e18 s12 v w14 he18 hI
   obtain ⟨u4, rfl, rfl⟩ := hI
   refine rf_s (AV.bool true) (ix_lt he18) ?_
   refine rf_ct ?_
   refine rf_s (AV.rp (cSetting e18)) (ix_for he18) ?_
   refine rf_s (AV.agg (cSetting e18)) rfl ?_
   refine rf_s (cSetting e18) rfl ?_
   refine rf_s (cSetting e18) (sp_cSetting _ _ rfl) ?_
   refine rf_s (AV.agg (cRig a0)) rfl ?_
   refine rf_s (AV.agg (cKey e18.key)) rfl ?_
   refine rf_o (fun r20 : (ParamD × Bool) => ((AV.tup [(AV.agg (cParam r20.1)), (AV.bool r20.2)]), σ)) (fun r20 hr20 => (tq_of (e := fun r : (ParamD × Bool) => ((AV.tup [(AV.agg (cParam r.1)), (AV.bool r.2)]), σ)) (fun hs => ParamOf2_eq a0 hs e18.key σ)) hr20) (fun r20 hr20 => ?_)
   refine rf_s (AV.agg (cParam r20.1)) rfl ?_
   refine rf_s (AV.bool r20.2) rfl ?_
   refine rf_s (cParam r20.1) rfl ?_
   refine rf_s (cParam r20.1) (sp_cParam _ _ rfl) ?_
   refine rf_s (AV.bool (!r20.2)) rfl ?_
   refine rf_cb (c := (!r20.2)) (fun c24 => ?_) (fun c24 => ?_)
   ·exact rf_ret (rnd_ret (by simp) ⟨_, _, _, rfl⟩)
   refine rf_s (AV.int .i64 e18.level) rfl ?_
   refine rf_s ((AV.bool (withinB e18.level 0 65535)), σ) (IsLevel1_eq e18.level σ) ?_
   refine rf_s (AV.bool (!(withinB e18.level 0 65535))) rfl ?_
   refine rf_cb (c := (!(withinB e18.level 0 65535))) (fun c23 => ?_) (fun c23 => ?_)
   ·exact rf_ret (rnd_ret (by simp) ⟨_, _, _, rfl⟩)
   refine rf_s (AV.bool (decide (0 < (i19 : Int)))) rfl ?_
   refine rf_s _ rfl ?_
   refine rf_gt (sl 3 cSetting e8.settings) (fun hg => rfl) ?_
   refine rf_gt (AV.int .i64 (i19 : Int)) (fun hg => rfl) ?_
   refine rf_gt (AV.int .i64 (IntKind.i64.wrap ((i19 : Int) - 1))) (fun hg => by
     simp only [hg, Bool.true_and, cond_true]; first | done | exact rfl) ?_
   refine rf_gto (ω := SettingD) (fun x21 => (AV.rp (cSetting x21))) (fun hg x21 hx21 => by
     simp only [hg, Bool.true_and, cond_true]; first | done | exact ix_at hx21) (fun x21 hx21 => ?_)
   refine rf_gt (AV.rp (cSetting x21)) (fun hg => by
     simp only [hg, Bool.true_and, cond_true]; first | done | exact rfl) ?_
   refine rf_gt (AV.agg (cKey x21.key)) (fun hg => by
     simp only [hg, Bool.true_and, cond_true]; first | done | exact rfl) ?_
   refine rf_gt (AV.agg (cKey e18.key)) (fun hg => rfl) ?_
   refine rf_gt (AV.bool (((decide (x21.key.unit < e18.key.unit)) || ((decide (x21.key.unit = e18.key.unit)) && (Op.bytesLess x21.key.param.toList e18.key.param.toList))))) (fun hg => by
     simp only [hg, Bool.true_and, cond_true]; first | done | exact (quiet_of (h_R4_Before (σ := σ) (r := ((decide (x21.key.unit < e18.key.unit)) || ((decide (x21.key.unit = e18.key.unit)) && (Op.bytesLess x21.key.param.toList e18.key.param.toList)))) rfl))) ?_
   refine rf_gt (AV.bool (!(((decide (x21.key.unit < e18.key.unit)) || ((decide (x21.key.unit = e18.key.unit)) && (Op.bytesLess x21.key.param.toList e18.key.param.toList)))))) (fun hg => by
     simp only [hg, Bool.true_and, cond_true]; first | done | exact rfl) ?_
   refine rf_s (AV.bool ((decide (0 < (i19 : Int))) && (!(((decide (x21.key.unit < e18.key.unit)) || ((decide (x21.key.unit = e18.key.unit)) && (Op.bytesLess x21.key.param.toList e18.key.param.toList))))))) (pk_and _ _) ?_
   refine rf_cb (c := ((decide (0 < (i19 : Int))) && (!(((decide (x21.key.unit < e18.key.unit)) || ((decide (x21.key.unit = e18.key.unit)) && (Op.bytesLess x21.key.param.toList e18.key.param.toList))))))) (fun c22 => ?_) (fun c22 => ?_)
   ·exact rf_ret (rnd_ret (by simp) ⟨_, _, _, rfl⟩)
   refine rf_s (AV.int .i64 ((i19 + 1 : Nat) : Int)) (ix_inc he18 hle18) ?_
   exact rf_ret (rnd_go ⟨_, rfl, rfl⟩)
  ·intro hl s12 v w14 hI
   obtain ⟨u4, rfl, rfl⟩ := hI
   refine rf_s (AV.bool false) (ix_end _) ?_
   refine rf_cf ?_
   exact rf_ret ⟨by simp, ⟨_, _, _, rfl⟩⟩
  ·intro hl b13 q hq
   obtain ⟨u4, u7, u64, rfl⟩ := hq
   refine rf_bt rfl ?_
   refine rf_s (AV.int .i64 ((i9 + 1 : Nat) : Int)) (ix_inc he8 hle8) ?_
   exact rf_ret (rnd_go ⟨_, rfl, rfl⟩)
  ·intro hl b13 q hq
   obtain ⟨u2, u7, u64, rfl⟩ := hq
   refine rf_bf rfl ?_
   refine rf_bt rfl ?_
   exact rf_ret (rnd_ret (by simp) ⟨_, _, rfl⟩)
 ·intro hl s2 v w4 hI
  obtain ⟨u4, rfl, rfl⟩ := hI
  refine rf_s (AV.bool false) (ix_end _) ?_
  refine rf_cf ?_
  exact rf_ret ⟨by simp, ⟨_, _, _, rfl⟩⟩
 ·intro hl b3 q hq
  obtain ⟨u2, u4, u22, rfl⟩ := hq
  refine rf_bt rfl ?_
  exact rf_fin _ (fin_same _ _) ⟨rfl, rfl⟩
 ·intro hl b3 q hq
  obtain ⟨u2, u22, rfl⟩ := hq
  refine rf_bf rfl ?_
  refine rf_bt rfl ?_
  exact rf_fin _ (fin_same _ _) ⟨rfl, rfl⟩

noncomputable def t_R4_Level (a0 : (List PresetD)) (a1 : KeyD) (a2 : ValueD) : Option (Int × Int) :=
 if ((decide (¬ (a2.level = 0))) && (decide (¬ (a2.preset = 0)))) = true then
  some (0, 3)
 else
 if (!(withinB a2.level 0 65535)) = true then
  some (0, 1)
 else
 if a2.preset = 0 then
  some (a2.level, 0)
 else
 (t_R4_PresetOf a0 a2.preset).bind fun r1 =>
 if (!r1.2) = true then
  some (0, 8)
 else
 forE r1.1.settings (fun (i9 : Nat) e8 (s2 : Unit) => (show Option (Lr Unit Unit Int) from
   if e8.key = a1 then
    some (.ret e8.level)
   else
   some (.go ()))) (fun s2 => some ()) () (fun b3 =>
  some (0, 8)) (fun b3 =>
  some (b3, 0))
theorem h_R4_Level {a0 : (List PresetD)} { a1 : KeyD} { a2 : ValueD} {σ : Heap} {r : (Int × Int)} (h : t_R4_Level a0 a1 a2 = some r) : m_R4_Level [(sl 3 cPreset a0), (AV.agg (cKey a1)), (AV.agg (cValue a2))] σ = some ((AV.tup [(AV.int .i64 r.1), (AV.int .i64 r.2)]), σ) := by
 refine rf_wrap3 (f := r_R4_Level) (y0 := (sl 3 cPreset a0)) (y1 := (AV.agg (cKey a1))) (y2 := (AV.agg (cValue a2))) (enc := fun r : (Int × Int) => (AV.tup [(AV.int .i64 r.1), (AV.int .i64 r.2)])) (T := t_R4_Level a0 a1 a2) rfl rfl ?_ r h
 unfold r_R4_Level t_R4_Level
 refine rf_s (cKey a1) rfl ?_
 refine rf_s (cValue a2) rfl ?_
 refine rf_s (AV.int .i64 a2.level) rfl ?_
 refine rf_s (AV.bool (decide (¬ (a2.level = 0)))) (aNe _ _ _) ?_
 refine rf_gt (AV.int .i64 a2.preset) (fun hg => rfl) ?_
 refine rf_gt (AV.bool (decide (¬ (a2.preset = 0)))) (fun hg => by
   simp only [hg, Bool.true_and, cond_true]; first | done | exact (aNe _ _ _)) ?_
 refine rf_s (AV.bool ((decide (¬ (a2.level = 0))) && (decide (¬ (a2.preset = 0))))) (pk_and _ _) ?_
 refine rf_cb (c := ((decide (¬ (a2.level = 0))) && (decide (¬ (a2.preset = 0))))) (fun c14 => ?_) (fun c14 => ?_)
 ·exact rf_fin _ (fin_same _ _) ⟨rfl, rfl⟩
 refine rf_s (AV.int .i64 a2.level) rfl ?_
 refine rf_s ((AV.bool (withinB a2.level 0 65535)), σ) (IsLevel1_eq a2.level σ) ?_
 refine rf_s (AV.bool (!(withinB a2.level 0 65535))) rfl ?_
 refine rf_cb (c := (!(withinB a2.level 0 65535))) (fun c13 => ?_) (fun c13 => ?_)
 ·exact rf_fin _ (fin_same _ _) ⟨rfl, rfl⟩
 refine rf_s (AV.int .i64 a2.preset) rfl ?_
 refine rf_s (AV.bool (decide (a2.preset = 0))) (aEq _ _ _) ?_
 refine rf_c (p := a2.preset = 0) (fun c12 => ?_) (fun c12 => ?_)
 ·refine rf_s (AV.int .i64 a2.level) rfl ?_
  exact rf_fin _ (fin_same _ _) ⟨rfl, rfl⟩
 refine rf_s (AV.int .i64 a2.preset) rfl ?_
 refine rf_o (fun r1 : (PresetD × Bool) => ((AV.tup [(AV.agg (cPreset r1.1)), (AV.bool r1.2)]), σ)) (fun r1 hr1 => h_R4_PresetOf hr1) (fun r1 hr1 => ?_)
 refine rf_s (AV.agg (cPreset r1.1)) rfl ?_
 refine rf_s (AV.bool r1.2) rfl ?_
 refine rf_s (cPreset r1.1) rfl ?_
 refine rf_s (cPreset r1.1) (sp_cPreset _ _ rfl) ?_
 refine rf_s (AV.bool (!r1.2)) rfl ?_
 refine rf_cb (c := (!r1.2)) (fun c11 => ?_) (fun c11 => ?_)
 ·exact rf_fin _ (fin_same _ _) ⟨rfl, rfl⟩
 refine rf_s (sl 3 cSetting r1.1.settings) rfl ?_
 refine rf_s (AV.int .i64 (r1.1.settings.length : Int)) (lenS_sl _ _ _) ?_
 refine rf_for (B := Unit) (R := Int) (fun (i9 : Nat) (s2 : Unit) v w4 => v = [(AV.lbx (cKey a1)), (AV.int .i64 0), (AV.int .i64 0), (AV.int .i64 (i9 : Int))] ∧ σ = w4) (fun (b3 : Unit) (q : LS) => ∃ u4 u6 u7 u44, q = ((AX.exit 1), ([u4, u6, u7, u44] : List AV), σ)) (fun (b3 : Int) (q : LS) => ∃ u4 u44, q = (AX.ret, ([u4, (AV.int .i64 b3), (AV.int .i64 0), u44] : List AV), σ)) ?_ ?_ ⟨rfl, rfl⟩ ?_ ?_
 ·intro hle8 i9 e8 s2 v w4 he8 hI
  obtain ⟨rfl, rfl⟩ := hI
  refine rf_s (AV.bool true) (ix_lt he8) ?_
  refine rf_ct ?_
  refine rf_s (AV.rp (cSetting e8)) (ix_for he8) ?_
  refine rf_s (AV.agg (cSetting e8)) rfl ?_
  refine rf_s (cSetting e8) rfl ?_
  refine rf_s (cSetting e8) (sp_cSetting _ _ rfl) ?_
  refine rf_s (AV.agg (cKey e8.key)) rfl ?_
  refine rf_s (AV.agg (cKey a1)) rfl ?_
  refine rf_s (AV.bool (decide (e8.key = a1))) (eq_Key _ _) ?_
  refine rf_c (p := e8.key = a1) (fun c10 => ?_) (fun c10 => ?_)
  ·refine rf_s (AV.int .i64 e8.level) rfl ?_
   exact rf_ret (rnd_ret (by simp) ⟨_, _, rfl⟩)
  refine rf_s (AV.int .i64 ((i9 + 1 : Nat) : Int)) (ix_inc he8 hle8) ?_
  exact rf_ret (rnd_go ⟨rfl, rfl⟩)
 ·intro hl s2 v w4 hI
  obtain ⟨rfl, rfl⟩ := hI
  refine rf_s (AV.bool false) (ix_end _) ?_
  refine rf_cf ?_
  exact rf_ret ⟨by simp, ⟨_, _, _, _, rfl⟩⟩
 ·intro hl b3 q hq
  obtain ⟨u4, u6, u7, u44, rfl⟩ := hq
  refine rf_bt rfl ?_
  exact rf_fin _ (fin_same _ _) ⟨rfl, rfl⟩
 ·intro hl b3 q hq
  obtain ⟨u4, u44, rfl⟩ := hq
  refine rf_bf rfl ?_
  refine rf_bt rfl ?_
  exact rf_fin _ (fin_same _ _) ⟨rfl, rfl⟩

noncomputable def t_R5_checkMove (a0 : MoveD) (a1 : (List MoveD)) : Option Int :=
 if (!(withinB a0.key.unit 1 9999)) = true then
  some 1
 else
 (tq (okS a0.key.param) (nameB a0.key.param)).bind fun r1 =>
 if (!r1) = true then
  some 5
 else
 if ((a0.release && (decide (¬ (a0.value = (⟨0, 0⟩ : ValueD))))) || ((decide (¬ (a0.value.level = 0))) && (decide (¬ (a0.value.preset = 0))))) = true then
  some 3
 else
 if ((!(withinB a0.value.level 0 65535)) || (!(withinB a0.value.preset 0 999))) = true then
  some 1
 else
 if ((!a0.timed) && ((decide (¬ (a0.delay = 0))) || (decide (¬ (a0.time = 0))))) = true then
  some 3
 else
 if ((!(withinB a0.delay 0 36000000)) || (!(withinB a0.time 0 36000000))) = true then
  some 1
 else
 (if decide (0 < (a1.length : Int)) = true then tIx a1 (IntKind.i64.wrap ((a1.length : Int) - 1)) else some default).bind fun x2 =>
 if ((decide (0 < (a1.length : Int))) && (!(((decide (x2.key.unit < a0.key.unit)) || ((decide (x2.key.unit = a0.key.unit)) && (Op.bytesLess x2.key.param.toList a0.key.param.toList)))))) = true then
  some 7
 else
 some 0
theorem h_R5_checkMove {a0 : MoveD} { a1 : (List MoveD)} {σ : Heap} {r : Int} (h : t_R5_checkMove a0 a1 = some r) : m_R5_checkMove [(AV.agg (cMove a0)), (sl 8 cMove a1)] σ = some ((AV.int .i64 r), σ) := by
 refine rf_wrap2 (f := r_R5_checkMove) (y0 := (AV.agg (cMove a0))) (y1 := (sl 8 cMove a1)) (enc := fun r : Int => (AV.int .i64 r)) (T := t_R5_checkMove a0 a1) rfl rfl ?_ r h
 unfold r_R5_checkMove t_R5_checkMove
 refine rf_s (cMove a0) rfl ?_
 refine rf_s (AV.int .i64 a0.key.unit) rfl ?_
 refine rf_s ((AV.bool (withinB a0.key.unit 1 9999)), σ) (Within1_eq a0.key.unit 1 9999 σ) ?_
 refine rf_s (AV.bool (!(withinB a0.key.unit 1 9999))) rfl ?_
 refine rf_cb (c := (!(withinB a0.key.unit 1 9999))) (fun c9 => ?_) (fun c9 => ?_)
 ·exact rf_fin _ (fin_same _ _) ⟨rfl, rfl⟩
 refine rf_s (AV.str a0.key.param) rfl ?_
 refine rf_o (fun r1 : Bool => ((AV.bool r1), σ)) (fun r1 hr1 => (tq_of (e := fun r : Bool => ((AV.bool r), σ)) (fun hs => IsName1_eq a0.key.param hs σ)) hr1) (fun r1 hr1 => ?_)
 refine rf_s (AV.bool (!r1)) rfl ?_
 refine rf_cb (c := (!r1)) (fun c8 => ?_) (fun c8 => ?_)
 ·exact rf_fin _ (fin_same _ _) ⟨rfl, rfl⟩
 refine rf_s (AV.bool a0.release) rfl ?_
 refine rf_gt (AV.agg (cValue a0.value)) (fun hg => rfl) ?_
 refine rf_gt (AV.agg (cValue (⟨0, 0⟩ : ValueD))) (fun hg => rfl) ?_
 refine rf_gt (AV.bool (decide (¬ (a0.value = (⟨0, 0⟩ : ValueD))))) (fun hg => by
   simp only [hg, Bool.true_and, cond_true]; first | done | exact (ne_Value _ _)) ?_
 refine rf_s (AV.bool (a0.release && (decide (¬ (a0.value = (⟨0, 0⟩ : ValueD)))))) (pk_and _ _) ?_
 refine rf_gf (AV.int .i64 a0.value.level) (fun hg => rfl) ?_
 refine rf_gf (AV.bool (decide (¬ (a0.value.level = 0)))) (fun hg => by
   simp only [hg, Bool.true_and, cond_true]; first | done | exact (aNe _ _ _)) ?_
 refine rf_gf (AV.bool (decide (¬ (a0.value.level = 0)))) (fun hg => by
   simp only [hg, Bool.true_and, cond_true]; first | done | exact rfl) ?_
 refine rf_ggt (AV.int .i64 a0.value.preset) (fun hg => rfl) ?_
 refine rf_ggt (AV.bool (decide (¬ (a0.value.preset = 0)))) (fun hg => by
   simp only [hg, Bool.true_and, cond_true]; first | done | exact (aNe _ _ _)) ?_
 refine rf_gf (AV.bool ((decide (¬ (a0.value.level = 0))) && (decide (¬ (a0.value.preset = 0))))) (fun hg => by
   simp only [hg, Bool.true_and, cond_true]; first | done | exact (pk_and _ _)) ?_
 refine rf_s (AV.bool ((a0.release && (decide (¬ (a0.value = (⟨0, 0⟩ : ValueD))))) || ((decide (¬ (a0.value.level = 0))) && (decide (¬ (a0.value.preset = 0)))))) (pk_or _ _) ?_
 refine rf_cb (c := ((a0.release && (decide (¬ (a0.value = (⟨0, 0⟩ : ValueD))))) || ((decide (¬ (a0.value.level = 0))) && (decide (¬ (a0.value.preset = 0)))))) (fun c7 => ?_) (fun c7 => ?_)
 ·exact rf_fin _ (fin_same _ _) ⟨rfl, rfl⟩
 refine rf_s (AV.int .i64 a0.value.level) rfl ?_
 refine rf_s ((AV.bool (withinB a0.value.level 0 65535)), σ) (IsLevel1_eq a0.value.level σ) ?_
 refine rf_s (AV.bool (!(withinB a0.value.level 0 65535))) rfl ?_
 refine rf_gf (AV.int .i64 a0.value.preset) (fun hg => rfl) ?_
 refine rf_gf (AV.bool (withinB a0.value.preset 0 999)) (fun hg => by
   simp only [hg, Bool.true_and, cond_true]; first | done | exact (quiet_of (Within1_eq a0.value.preset 0 999 σ))) ?_
 refine rf_gf (AV.bool (!(withinB a0.value.preset 0 999))) (fun hg => by
   simp only [hg, Bool.true_and, cond_true]; first | done | exact rfl) ?_
 refine rf_s (AV.bool ((!(withinB a0.value.level 0 65535)) || (!(withinB a0.value.preset 0 999)))) (pk_or _ _) ?_
 refine rf_cb (c := ((!(withinB a0.value.level 0 65535)) || (!(withinB a0.value.preset 0 999)))) (fun c6 => ?_) (fun c6 => ?_)
 ·exact rf_fin _ (fin_same _ _) ⟨rfl, rfl⟩
 refine rf_s (AV.bool a0.timed) rfl ?_
 refine rf_s (AV.bool (!a0.timed)) rfl ?_
 refine rf_gt (AV.int .i64 a0.delay) (fun hg => rfl) ?_
 refine rf_gt (AV.bool (decide (¬ (a0.delay = 0)))) (fun hg => by
   simp only [hg, Bool.true_and, cond_true]; first | done | exact (aNe _ _ _)) ?_
 refine rf_gt (AV.bool (decide (¬ (a0.delay = 0)))) (fun hg => by
   simp only [hg, Bool.true_and, cond_true]; first | done | exact rfl) ?_
 refine rf_ggf (AV.int .i64 a0.time) (fun hg => rfl) ?_
 refine rf_ggf (AV.bool (decide (¬ (a0.time = 0)))) (fun hg => by
   simp only [hg, Bool.true_and, cond_true]; first | done | exact (aNe _ _ _)) ?_
 refine rf_gt (AV.bool ((decide (¬ (a0.delay = 0))) || (decide (¬ (a0.time = 0))))) (fun hg => by
   simp only [hg, Bool.true_and, cond_true]; first | done | exact (pk_or _ _)) ?_
 refine rf_s (AV.bool ((!a0.timed) && ((decide (¬ (a0.delay = 0))) || (decide (¬ (a0.time = 0)))))) (pk_and _ _) ?_
 refine rf_cb (c := ((!a0.timed) && ((decide (¬ (a0.delay = 0))) || (decide (¬ (a0.time = 0)))))) (fun c5 => ?_) (fun c5 => ?_)
 ·exact rf_fin _ (fin_same _ _) ⟨rfl, rfl⟩
 refine rf_s (AV.int .i64 a0.delay) rfl ?_
 refine rf_s ((AV.bool (withinB a0.delay 0 36000000)), σ) (IsTime1_eq a0.delay σ) ?_
 refine rf_s (AV.bool (!(withinB a0.delay 0 36000000))) rfl ?_
 refine rf_gf (AV.int .i64 a0.time) (fun hg => rfl) ?_
 refine rf_gf (AV.bool (withinB a0.time 0 36000000)) (fun hg => by
   simp only [hg, Bool.true_and, cond_true]; first | done | exact (quiet_of (IsTime1_eq a0.time σ))) ?_
 refine rf_gf (AV.bool (!(withinB a0.time 0 36000000))) (fun hg => by
   simp only [hg, Bool.true_and, cond_true]; first | done | exact rfl) ?_
 refine rf_s (AV.bool ((!(withinB a0.delay 0 36000000)) || (!(withinB a0.time 0 36000000)))) (pk_or _ _) ?_
 refine rf_cb (c := ((!(withinB a0.delay 0 36000000)) || (!(withinB a0.time 0 36000000)))) (fun c4 => ?_) (fun c4 => ?_)
 ·exact rf_fin _ (fin_same _ _) ⟨rfl, rfl⟩
 refine rf_s (AV.int .i64 (a1.length : Int)) (lenS_sl _ _ _) ?_
 refine rf_s (AV.bool (decide (0 < (a1.length : Int)))) rfl ?_
 refine rf_gt (sl 8 cMove a1) (fun hg => rfl) ?_
 refine rf_gt (sl 8 cMove a1) (fun hg => rfl) ?_
 refine rf_gt (AV.int .i64 (a1.length : Int)) (fun hg => by
   simp only [hg, Bool.true_and, cond_true]; first | done | exact (lenS_sl _ _ _)) ?_
 refine rf_gt (AV.int .i64 (IntKind.i64.wrap ((a1.length : Int) - 1))) (fun hg => by
   simp only [hg, Bool.true_and, cond_true]; first | done | exact rfl) ?_
 refine rf_gto (ω := MoveD) (fun x2 => (AV.rp (cMove x2))) (fun hg x2 hx2 => by
   simp only [hg, Bool.true_and, cond_true]; first | done | exact ix_at hx2) (fun x2 hx2 => ?_)
 refine rf_gt (AV.rp (cMove x2)) (fun hg => by
   simp only [hg, Bool.true_and, cond_true]; first | done | exact rfl) ?_
 refine rf_gt (AV.agg (cKey x2.key)) (fun hg => by
   simp only [hg, Bool.true_and, cond_true]; first | done | exact rfl) ?_
 refine rf_gt (AV.agg (cKey a0.key)) (fun hg => rfl) ?_
 refine rf_gt (AV.bool (((decide (x2.key.unit < a0.key.unit)) || ((decide (x2.key.unit = a0.key.unit)) && (Op.bytesLess x2.key.param.toList a0.key.param.toList))))) (fun hg => by
   simp only [hg, Bool.true_and, cond_true]; first | done | exact (quiet_of (h_R4_Before (σ := σ) (r := ((decide (x2.key.unit < a0.key.unit)) || ((decide (x2.key.unit = a0.key.unit)) && (Op.bytesLess x2.key.param.toList a0.key.param.toList)))) rfl))) ?_
 refine rf_gt (AV.bool (!(((decide (x2.key.unit < a0.key.unit)) || ((decide (x2.key.unit = a0.key.unit)) && (Op.bytesLess x2.key.param.toList a0.key.param.toList)))))) (fun hg => by
   simp only [hg, Bool.true_and, cond_true]; first | done | exact rfl) ?_
 refine rf_s (AV.bool ((decide (0 < (a1.length : Int))) && (!(((decide (x2.key.unit < a0.key.unit)) || ((decide (x2.key.unit = a0.key.unit)) && (Op.bytesLess x2.key.param.toList a0.key.param.toList))))))) (pk_and _ _) ?_
 refine rf_cb (c := ((decide (0 < (a1.length : Int))) && (!(((decide (x2.key.unit < a0.key.unit)) || ((decide (x2.key.unit = a0.key.unit)) && (Op.bytesLess x2.key.param.toList a0.key.param.toList))))))) (fun c3 => ?_) (fun c3 => ?_)
 ·exact rf_fin _ (fin_same _ _) ⟨rfl, rfl⟩
 exact rf_fin _ (fin_same _ _) ⟨rfl, rfl⟩

noncomputable def t_R5_checkMoves (a0 : (List MoveD)) : Option Int :=
 if 2000 < (a0.length : Int) then
  some 2
 else
 forE a0 (fun (i8 : Nat) e7 (s1 : Unit) => (show Option (Lr Unit Unit Int) from
   (tSl a0 none (some (i8 : Int))).bind fun x9 =>
   (t_R5_checkMove e7 x9).bind fun r10 =>
   if ¬ (r10 = 0) then
    some (.ret r10)
   else
   some (.go ()))) (fun s1 => some ()) () (fun b2 =>
  some 0) (fun b2 =>
  some b2)
theorem h_R5_checkMoves {a0 : (List MoveD)} {σ : Heap} {r : Int} (h : t_R5_checkMoves a0 = some r) : m_R5_checkMoves [(sl 8 cMove a0)] σ = some ((AV.int .i64 r), σ) := by
 refine rf_wrap1 (f := r_R5_checkMoves) (y0 := (sl 8 cMove a0)) (enc := fun r : Int => (AV.int .i64 r)) (T := t_R5_checkMoves a0) rfl rfl ?_ r h
 unfold r_R5_checkMoves t_R5_checkMoves
 refine rf_s (AV.int .i64 (a0.length : Int)) (lenS_sl _ _ _) ?_
 refine rf_s (AV.bool (decide (2000 < (a0.length : Int)))) rfl ?_
 refine rf_c (p := 2000 < (a0.length : Int)) (fun c12 => ?_) (fun c12 => ?_)
 ·exact rf_fin _ (fin_same _ _) ⟨rfl, rfl⟩
 refine rf_s (AV.int .i64 (a0.length : Int)) (lenS_sl _ _ _) ?_
 refine rf_for (B := Unit) (R := Int) (fun (i8 : Nat) (s1 : Unit) v w3 => v = [(AV.int .i64 0), (AV.int .i64 (i8 : Int))] ∧ σ = w3) (fun (b2 : Unit) (q : LS) => ∃ u2 u11, q = ((AX.exit 0), ([u2, u11] : List AV), σ)) (fun (b2 : Int) (q : LS) => ∃ u11, q = (AX.ret, ([(AV.int .i64 b2), u11] : List AV), σ)) ?_ ?_ ⟨rfl, rfl⟩ ?_ ?_
 ·intro hle7 i8 e7 s1 v w3 he7 hI
  obtain ⟨rfl, rfl⟩ := hI
  refine rf_s (AV.bool true) (ix_lt he7) ?_
  refine rf_ct ?_
  refine rf_s (AV.rp (cMove e7)) (ix_for he7) ?_
  refine rf_s (AV.agg (cMove e7)) rfl ?_
  refine rf_s (cMove e7) rfl ?_
  refine rf_s (cMove e7) (sp_cMove _ _ rfl) ?_
  refine rf_s (AV.agg (cMove e7)) rfl ?_
  refine rf_o (fun x9 : (List MoveD) => (sl 8 cMove x9)) (fun x9 hx9 => (sls_at hx9)) (fun x9 hx9 => ?_)
  refine rf_o (fun r10 : Int => (AV.int .i64 r10)) (fun r10 hr10 => (quiet_of (h_R5_checkMove hr10))) (fun r10 hr10 => ?_)
  refine rf_s (AV.bool (decide (¬ (r10 = 0)))) (aNe _ _ _) ?_
  refine rf_c (p := ¬ (r10 = 0)) (fun c11 => ?_) (fun c11 => ?_)
  ·exact rf_ret (rnd_ret (by simp) ⟨_, rfl⟩)
  refine rf_s (AV.int .i64 ((i8 + 1 : Nat) : Int)) (ix_inc he7 hle7) ?_
  exact rf_ret (rnd_go ⟨rfl, rfl⟩)
 ·intro hl s1 v w3 hI
  obtain ⟨rfl, rfl⟩ := hI
  refine rf_s (AV.bool false) (ix_end _) ?_
  refine rf_cf ?_
  exact rf_ret ⟨by simp, ⟨_, _, rfl⟩⟩
 ·intro hl b2 q hq
  obtain ⟨u2, u11, rfl⟩ := hq
  refine rf_bt rfl ?_
  exact rf_fin _ (fin_same _ _) ⟨rfl, rfl⟩
 ·intro hl b2 q hq
  obtain ⟨u11, rfl⟩ := hq
  refine rf_bf rfl ?_
  refine rf_bt rfl ?_
  exact rf_fin _ (fin_same _ _) ⟨rfl, rfl⟩

noncomputable def t_R5_CheckForm (a0 : (List CueD)) : Option Int :=
 if 300 < (a0.length : Int) then
  some 2
 else
 forE a0 (fun (i8 : Nat) e7 (s1 : Int) => (show Option (Lr Int Int Int) from
   if (!(withinB e7.number 1 9999999)) = true then
    some (.ret 1)
   else
   (if decide (0 < (i8 : Int)) = true then tIx a0 (IntKind.i64.wrap ((i8 : Int) - 1)) else some default).bind fun x9 =>
   if ((decide (0 < (i8 : Int))) && (decide (e7.number ≤ x9.number))) = true then
    some (.ret 7)
   else
   (if decide (¬ (e7.title = (⟨#[]⟩ : ByteArray))) = true then tq (okS e7.title) (titleB e7.title) else some default).bind fun r10 =>
   if ((decide (¬ (e7.title = (⟨#[]⟩ : ByteArray)))) && (!r10)) = true then
    some (.ret 3)
   else
   if (((((!(withinB e7.delay 0 36000000)) || (!(withinB e7.up 0 36000000))) || (!(withinB e7.down 0 36000000))) || (!(withinB e7.other 0 36000000))) || (!(withinB e7.follow (-1) 36000000))) = true then
    some (.ret 1)
   else
   if ¬ ((curveF e7.curve) = 0) then
    some (.ret (curveF e7.curve))
   else
   (t_R5_checkMoves e7.moves).bind fun r11 =>
   if ¬ (r11 = 0) then
    some (.ret r11)
   else
   some (.go (IntKind.i64.wrap (s1 + (e7.moves.length : Int)))))) (fun s1 => some s1) 0 (fun b2 =>
  if 10000 < b2 then
   some 2
  else
  some 0) (fun b2 =>
  some b2)
theorem h_R5_CheckForm {a0 : (List CueD)} {σ : Heap} {r : Int} (h : t_R5_CheckForm a0 = some r) : m_R5_CheckForm [(sl 11 cCue a0)] σ = some ((AV.int .i64 r), σ) := by
 refine rf_wrap1 (f := r_R5_CheckForm) (y0 := (sl 11 cCue a0)) (enc := fun r : Int => (AV.int .i64 r)) (T := t_R5_CheckForm a0) (nn_t1 (nn_e (fun _ => rfl) _) rfl) rfl ?_ r h
 unfold r_R5_CheckForm t_R5_CheckForm
 refine rf_s (AV.int .i64 (a0.length : Int)) (lenS_sl _ _ _) ?_
 refine rf_s (AV.bool (decide (300 < (a0.length : Int)))) rfl ?_
 refine rf_c (p := 300 < (a0.length : Int)) (fun c19 => ?_) (fun c19 => ?_)
 ·exact rf_fin _ (fin_same _ _) ⟨rfl, rfl⟩
 refine rf_s (AV.int .i64 (a0.length : Int)) (lenS_sl _ _ _) ?_
 refine rf_for (B := Int) (R := Int) (fun (i8 : Nat) (s1 : Int) v w3 => v = [(AV.int .i64 0), (AV.int .i64 s1), (AV.int .i64 (i8 : Int))] ∧ σ = w3) (fun (b2 : Int) (q : LS) => ∃ u2 u13, q = ((AX.exit 0), ([u2, (AV.int .i64 b2), u13] : List AV), σ)) (fun (b2 : Int) (q : LS) => ∃ u3 u13, q = (AX.ret, ([(AV.int .i64 b2), u3, u13] : List AV), σ)) ?_ ?_ ⟨rfl, rfl⟩ ?_ ?_
 ·intro hle7 i8 e7 s1 v w3 he7 hI
  obtain ⟨rfl, rfl⟩ := hI
  refine rf_s (AV.bool true) (ix_lt he7) ?_
  refine rf_ct ?_
  refine rf_s (AV.rp (cCue e7)) (ix_for he7) ?_
  refine rf_s (AV.agg (cCue e7)) rfl ?_
  refine rf_s (cCue e7) rfl ?_
  refine rf_s (cCue e7) (sp_cCue _ _ rfl) ?_
  refine rf_s (AV.int .i64 e7.number) rfl ?_
  refine rf_s ((AV.bool (withinB e7.number 1 9999999)), σ) (Within1_eq e7.number 1 9999999 σ) ?_
  refine rf_s (AV.bool (!(withinB e7.number 1 9999999))) rfl ?_
  refine rf_cb (c := (!(withinB e7.number 1 9999999))) (fun c17 => ?_) (fun c17 => ?_)
  ·exact rf_ret (rnd_ret (by simp) ⟨_, _, rfl⟩)
  refine rf_s (AV.bool (decide (0 < (i8 : Int)))) rfl ?_
  refine rf_gt (AV.int .i64 e7.number) (fun hg => rfl) ?_
  refine rf_gt (sl 11 cCue a0) (fun hg => rfl) ?_
  refine rf_gt (AV.int .i64 (i8 : Int)) (fun hg => rfl) ?_
  refine rf_gt (AV.int .i64 (IntKind.i64.wrap ((i8 : Int) - 1))) (fun hg => by
    simp only [hg, Bool.true_and, cond_true]; first | done | exact rfl) ?_
  refine rf_gto (ω := CueD) (fun x9 => (AV.rp (cCue x9))) (fun hg x9 hx9 => by
    simp only [hg, Bool.true_and, cond_true]; first | done | exact ix_at hx9) (fun x9 hx9 => ?_)
  refine rf_gt (AV.rp (cCue x9)) (fun hg => by
    simp only [hg, Bool.true_and, cond_true]; first | done | exact rfl) ?_
  refine rf_gt (AV.int .i64 x9.number) (fun hg => by
    simp only [hg, Bool.true_and, cond_true]; first | done | exact rfl) ?_
  refine rf_gt (AV.bool (decide (e7.number ≤ x9.number))) (fun hg => by
    simp only [hg, Bool.true_and, cond_true]; first | done | exact rfl) ?_
  refine rf_s (AV.bool ((decide (0 < (i8 : Int))) && (decide (e7.number ≤ x9.number)))) (pk_and _ _) ?_
  refine rf_cb (c := ((decide (0 < (i8 : Int))) && (decide (e7.number ≤ x9.number)))) (fun c16 => ?_) (fun c16 => ?_)
  ·exact rf_ret (rnd_ret (by simp) ⟨_, _, rfl⟩)
  refine rf_s (AV.str e7.title) rfl ?_
  refine rf_s (AV.bool (decide (¬ (e7.title = (⟨#[]⟩ : ByteArray))))) (aNeZ _ _) ?_
  refine rf_gt (AV.str e7.title) (fun hg => rfl) ?_
  refine rf_gto (ω := Bool) (fun r10 => (AV.bool r10)) (fun hg r10 hr10 => by
    simp only [hg, Bool.true_and, cond_true]; first | done | exact (quiet_of ((tq_of (e := fun r : Bool => ((AV.bool r), σ)) (fun hs => IsTitle1_eq e7.title hs σ)) hr10))) (fun r10 hr10 => ?_)
  refine rf_gt (AV.bool (!r10)) (fun hg => by
    simp only [hg, Bool.true_and, cond_true]; first | done | exact rfl) ?_
  refine rf_s (AV.bool ((decide (¬ (e7.title = (⟨#[]⟩ : ByteArray)))) && (!r10))) (pk_and _ _) ?_
  refine rf_cb (c := ((decide (¬ (e7.title = (⟨#[]⟩ : ByteArray)))) && (!r10))) (fun c15 => ?_) (fun c15 => ?_)
  ·exact rf_ret (rnd_ret (by simp) ⟨_, _, rfl⟩)
  refine rf_s (AV.int .i64 e7.delay) rfl ?_
  refine rf_s ((AV.bool (withinB e7.delay 0 36000000)), σ) (IsTime1_eq e7.delay σ) ?_
  refine rf_s (AV.bool (!(withinB e7.delay 0 36000000))) rfl ?_
  refine rf_gf (AV.int .i64 e7.up) (fun hg => rfl) ?_
  refine rf_gf (AV.bool (withinB e7.up 0 36000000)) (fun hg => by
    simp only [hg, Bool.true_and, cond_true]; first | done | exact (quiet_of (IsTime1_eq e7.up σ))) ?_
  refine rf_gf (AV.bool (!(withinB e7.up 0 36000000))) (fun hg => by
    simp only [hg, Bool.true_and, cond_true]; first | done | exact rfl) ?_
  refine rf_s (AV.bool ((!(withinB e7.delay 0 36000000)) || (!(withinB e7.up 0 36000000)))) (pk_or _ _) ?_
  refine rf_gf (AV.int .i64 e7.down) (fun hg => rfl) ?_
  refine rf_gf (AV.bool (withinB e7.down 0 36000000)) (fun hg => by
    simp only [hg, Bool.true_and, cond_true]; first | done | exact (quiet_of (IsTime1_eq e7.down σ))) ?_
  refine rf_gf (AV.bool (!(withinB e7.down 0 36000000))) (fun hg => by
    simp only [hg, Bool.true_and, cond_true]; first | done | exact rfl) ?_
  refine rf_s (AV.bool (((!(withinB e7.delay 0 36000000)) || (!(withinB e7.up 0 36000000))) || (!(withinB e7.down 0 36000000)))) (pk_or _ _) ?_
  refine rf_gf (AV.int .i64 e7.other) (fun hg => rfl) ?_
  refine rf_gf (AV.bool (withinB e7.other 0 36000000)) (fun hg => by
    simp only [hg, Bool.true_and, cond_true]; first | done | exact (quiet_of (IsTime1_eq e7.other σ))) ?_
  refine rf_gf (AV.bool (!(withinB e7.other 0 36000000))) (fun hg => by
    simp only [hg, Bool.true_and, cond_true]; first | done | exact rfl) ?_
  refine rf_s (AV.bool ((((!(withinB e7.delay 0 36000000)) || (!(withinB e7.up 0 36000000))) || (!(withinB e7.down 0 36000000))) || (!(withinB e7.other 0 36000000)))) (pk_or _ _) ?_
  refine rf_gf (AV.int .i64 e7.follow) (fun hg => rfl) ?_
  refine rf_gf (AV.bool (withinB e7.follow (-1) 36000000)) (fun hg => by
    simp only [hg, Bool.true_and, cond_true]; first | done | exact (quiet_of (Within1_eq e7.follow (-1) 36000000 σ))) ?_
  refine rf_gf (AV.bool (!(withinB e7.follow (-1) 36000000))) (fun hg => by
    simp only [hg, Bool.true_and, cond_true]; first | done | exact rfl) ?_
  refine rf_s (AV.bool (((((!(withinB e7.delay 0 36000000)) || (!(withinB e7.up 0 36000000))) || (!(withinB e7.down 0 36000000))) || (!(withinB e7.other 0 36000000))) || (!(withinB e7.follow (-1) 36000000)))) (pk_or _ _) ?_
  refine rf_cb (c := (((((!(withinB e7.delay 0 36000000)) || (!(withinB e7.up 0 36000000))) || (!(withinB e7.down 0 36000000))) || (!(withinB e7.other 0 36000000))) || (!(withinB e7.follow (-1) 36000000)))) (fun c14 => ?_) (fun c14 => ?_)
  ·exact rf_ret (rnd_ret (by simp) ⟨_, _, rfl⟩)
  refine rf_s (AV.agg (cCurve e7.curve)) rfl ?_
  refine rf_s ((AV.int .i64 (curveF e7.curve)), σ) (CheckCurve1_eq e7.curve σ) ?_
  refine rf_s (AV.bool (decide (¬ ((curveF e7.curve) = 0)))) (aNe _ _ _) ?_
  refine rf_c (p := ¬ ((curveF e7.curve) = 0)) (fun c13 => ?_) (fun c13 => ?_)
  ·exact rf_ret (rnd_ret (by simp) ⟨_, _, rfl⟩)
  refine rf_s (sl 8 cMove e7.moves) rfl ?_
  refine rf_o (fun r11 : Int => ((AV.int .i64 r11), σ)) (fun r11 hr11 => h_R5_checkMoves hr11) (fun r11 hr11 => ?_)
  refine rf_s (AV.bool (decide (¬ (r11 = 0)))) (aNe _ _ _) ?_
  refine rf_c (p := ¬ (r11 = 0)) (fun c12 => ?_) (fun c12 => ?_)
  ·exact rf_ret (rnd_ret (by simp) ⟨_, _, rfl⟩)
  refine rf_s (sl 8 cMove e7.moves) rfl ?_
  refine rf_s (AV.int .i64 (e7.moves.length : Int)) (lenS_sl _ _ _) ?_
  refine rf_s (AV.int .i64 (IntKind.i64.wrap (s1 + (e7.moves.length : Int)))) rfl ?_
  refine rf_s (AV.int .i64 ((i8 + 1 : Nat) : Int)) (ix_inc he7 hle7) ?_
  exact rf_ret (rnd_go ⟨rfl, rfl⟩)
 ·intro hl s1 v w3 hI
  obtain ⟨rfl, rfl⟩ := hI
  refine rf_s (AV.bool false) (ix_end _) ?_
  refine rf_cf ?_
  exact rf_ret ⟨by simp, ⟨_, _, rfl⟩⟩
 ·intro hl b2 q hq
  obtain ⟨u2, u13, rfl⟩ := hq
  refine rf_bt rfl ?_
  refine rf_s (AV.bool (decide (10000 < b2))) rfl ?_
  refine rf_c (p := 10000 < b2) (fun c18 => ?_) (fun c18 => ?_)
  ·exact rf_fin _ (fin_same _ _) ⟨rfl, rfl⟩
  exact rf_fin _ (fin_same _ _) ⟨rfl, rfl⟩
 ·intro hl b2 q hq
  obtain ⟨u3, u13, rfl⟩ := hq
  refine rf_bf rfl ?_
  refine rf_bt rfl ?_
  exact rf_fin _ (fin_same _ _) ⟨rfl, rfl⟩

noncomputable def t_R5_CheckList (a0 : RigD) (a1 : (List PresetD)) (a2 : (List CueD)) : Option Int :=
 (t_R4_CheckPresets a0 a1).bind fun r1 =>
 if ¬ (r1 = 0) then
  some r1
 else
 (t_R5_CheckForm a2).bind fun r2 =>
 if ¬ (r2 = 0) then
  some r2
 else
 forE a2 (fun (i10 : Nat) e9 (s3 : Unit) => (show Option (Lr Unit Unit Int) from
   forE e9.moves (fun (i18 : Nat) e17 (s11 : Unit) => (show Option (Lr Unit Unit Int) from
     (tq (okRig a0) (paramOf a0 e17.key)).bind fun r19 =>
     if (!r19.2) = true then
      some (.ret 8)
     else
     (t_R4_Level a1 e17.key e17.value).bind fun r20 =>
     if ¬ (r20.2 = 0) then
      some (.ret r20.2)
     else
     some (.go ()))) (fun s11 => some ()) () (fun b12 =>
    some (.go ())) (fun b12 =>
    some (.ret b12)))) (fun s3 => some ()) () (fun b4 =>
  some 0) (fun b4 =>
  some b4)
theorem h_R5_CheckList {a0 : RigD} { a1 : (List PresetD)} { a2 : (List CueD)} {σ : Heap} {r : Int} (h : t_R5_CheckList a0 a1 a2 = some r) : m_R5_CheckList [(AV.agg (cRig a0)), (sl 3 cPreset a1), (sl 11 cCue a2)] σ = some ((AV.int .i64 r), σ) := by
 refine rf_wrap3 (f := r_R5_CheckList) (y0 := (AV.agg (cRig a0))) (y1 := (sl 3 cPreset a1)) (y2 := (sl 11 cCue a2)) (enc := fun r : Int => (AV.int .i64 r)) (T := t_R5_CheckList a0 a1 a2) (nn_t1 (nn_a (nn_t1 (nn_e (fun _ => (nn_t1 rfl (nn_t1 rfl (nn_t1 (nn_e (fun _ => rfl) _) nn_t0)))) _) (nn_t1 rfl nn_t0))) (nn_t1 (nn_e (fun _ => rfl) _) (nn_t1 (nn_e (fun _ => rfl) _) rfl))) rfl ?_ r h
 unfold r_R5_CheckList t_R5_CheckList
 refine rf_s (cRig a0) rfl ?_
 refine rf_s (AV.agg (cRig a0)) rfl ?_
 refine rf_o (fun r1 : Int => ((AV.int .i64 r1), σ)) (fun r1 hr1 => h_R4_CheckPresets hr1) (fun r1 hr1 => ?_)
 refine rf_s (AV.bool (decide (¬ (r1 = 0)))) (aNe _ _ _) ?_
 refine rf_c (p := ¬ (r1 = 0)) (fun c24 => ?_) (fun c24 => ?_)
 ·exact rf_fin _ (fin_same _ _) ⟨rfl, rfl⟩
 refine rf_o (fun r2 : Int => ((AV.int .i64 r2), σ)) (fun r2 hr2 => h_R5_CheckForm hr2) (fun r2 hr2 => ?_)
 refine rf_s (AV.bool (decide (¬ (r2 = 0)))) (aNe _ _ _) ?_
 refine rf_c (p := ¬ (r2 = 0)) (fun c23 => ?_) (fun c23 => ?_)
 ·exact rf_fin _ (fin_same _ _) ⟨rfl, rfl⟩
 refine rf_s (AV.int .i64 (a2.length : Int)) (lenS_sl _ _ _) ?_
 refine rf_for (B := Unit) (R := Int) (fun (i10 : Nat) (s3 : Unit) v w5 => ∃ u6, v = [(AV.lbx (cRig a0)), u6, (AV.int .i64 (i10 : Int))] ∧ σ = w5) (fun (b4 : Unit) (q : LS) => ∃ u3 u6 u30, q = ((AX.exit 0), ([u3, u6, u30] : List AV), σ)) (fun (b4 : Int) (q : LS) => ∃ u3 u30, q = (AX.ret, ([u3, (AV.int .i64 b4), u30] : List AV), σ)) ?_ ?_ ⟨_, rfl, rfl⟩ ?_ ?_
 ·intro hle9 i10 e9 s3 v w5 he9 hI
  obtain ⟨u6, rfl, rfl⟩ := hI
  refine rf_s (AV.bool true) (ix_lt he9) ?_
  refine rf_ct ?_
  refine rf_s (AV.rp (cCue e9)) (ix_for he9) ?_
  refine rf_s (AV.agg (cCue e9)) rfl ?_
  refine rf_s (cCue e9) rfl ?_
  refine rf_s (cCue e9) (sp_cCue _ _ rfl) ?_
  refine rf_s (sl 8 cMove e9.moves) rfl ?_
  refine rf_s (AV.int .i64 (e9.moves.length : Int)) (lenS_sl _ _ _) ?_
  refine rf_for (B := Unit) (R := Int) (fun (i18 : Nat) (s11 : Unit) v w13 => ∃ u6, v = [(AV.lbx (cRig a0)), u6, (AV.int .i64 (i18 : Int))] ∧ σ = w13) (fun (b12 : Unit) (q : LS) => ∃ u6 u37, q = ((AX.exit 2), ([(AV.lbx (cRig a0)), u6, u37] : List AV), σ)) (fun (b12 : Int) (q : LS) => ∃ u3 u37, q = (AX.ret, ([u3, (AV.int .i64 b12), u37] : List AV), σ)) ?_ ?_ ⟨_, rfl, rfl⟩ ?_ ?_
  ·intro hle17 i18 e17 s11 v w13 he17 hI
   obtain ⟨u6, rfl, rfl⟩ := hI
   refine rf_s (AV.bool true) (ix_lt he17) ?_
   refine rf_ct ?_
   refine rf_s (AV.rp (cMove e17)) (ix_for he17) ?_
   refine rf_s (AV.agg (cMove e17)) rfl ?_
   refine rf_s (cMove e17) rfl ?_
   refine rf_s (cMove e17) (sp_cMove _ _ rfl) ?_
   refine rf_s (AV.agg (cRig a0)) rfl ?_
   refine rf_s (AV.agg (cKey e17.key)) rfl ?_
   refine rf_o (fun r19 : (ParamD × Bool) => ((AV.tup [(AV.agg (cParam r19.1)), (AV.bool r19.2)]), σ)) (fun r19 hr19 => (tq_of (e := fun r : (ParamD × Bool) => ((AV.tup [(AV.agg (cParam r.1)), (AV.bool r.2)]), σ)) (fun hs => ParamOf2_eq a0 hs e17.key σ)) hr19) (fun r19 hr19 => ?_)
   refine rf_s (AV.agg (cParam r19.1)) rfl ?_
   refine rf_s (AV.bool r19.2) rfl ?_
   refine rf_s (cParam r19.1) rfl ?_
   refine rf_s (cParam r19.1) (sp_cParam _ _ rfl) ?_
   refine rf_s (AV.bool (!r19.2)) rfl ?_
   refine rf_cb (c := (!r19.2)) (fun c22 => ?_) (fun c22 => ?_)
   ·exact rf_ret (rnd_ret (by simp) ⟨_, _, rfl⟩)
   refine rf_s (AV.agg (cKey e17.key)) rfl ?_
   refine rf_s (AV.agg (cValue e17.value)) rfl ?_
   refine rf_o (fun r20 : (Int × Int) => ((AV.tup [(AV.int .i64 r20.1), (AV.int .i64 r20.2)]), σ)) (fun r20 hr20 => h_R4_Level hr20) (fun r20 hr20 => ?_)
   refine rf_s (AV.int .i64 r20.1) rfl ?_
   refine rf_s (AV.int .i64 r20.2) rfl ?_
   refine rf_s (AV.bool (decide (¬ (r20.2 = 0)))) (aNe _ _ _) ?_
   refine rf_c (p := ¬ (r20.2 = 0)) (fun c21 => ?_) (fun c21 => ?_)
   ·exact rf_ret (rnd_ret (by simp) ⟨_, _, rfl⟩)
   refine rf_s (AV.int .i64 ((i18 + 1 : Nat) : Int)) (ix_inc he17 hle17) ?_
   exact rf_ret (rnd_go ⟨_, rfl, rfl⟩)
  ·intro hl s11 v w13 hI
   obtain ⟨u6, rfl, rfl⟩ := hI
   refine rf_s (AV.bool false) (ix_end _) ?_
   refine rf_cf ?_
   exact rf_ret ⟨by simp, ⟨_, _, rfl⟩⟩
  ·intro hl b12 q hq
   obtain ⟨u6, u37, rfl⟩ := hq
   refine rf_bt rfl ?_
   refine rf_s (AV.int .i64 ((i10 + 1 : Nat) : Int)) (ix_inc he9 hle9) ?_
   exact rf_ret (rnd_go ⟨_, rfl, rfl⟩)
  ·intro hl b12 q hq
   obtain ⟨u3, u37, rfl⟩ := hq
   refine rf_bf rfl ?_
   refine rf_bt rfl ?_
   exact rf_ret (rnd_ret (by simp) ⟨_, _, rfl⟩)
 ·intro hl s3 v w5 hI
  obtain ⟨u6, rfl, rfl⟩ := hI
  refine rf_s (AV.bool false) (ix_end _) ?_
  refine rf_cf ?_
  exact rf_ret ⟨by simp, ⟨_, _, _, rfl⟩⟩
 ·intro hl b4 q hq
  obtain ⟨u3, u6, u30, rfl⟩ := hq
  refine rf_bt rfl ?_
  exact rf_fin _ (fin_same _ _) ⟨rfl, rfl⟩
 ·intro hl b4 q hq
  obtain ⟨u3, u30, rfl⟩ := hq
  refine rf_bf rfl ?_
  refine rf_bt rfl ?_
  exact rf_fin _ (fin_same _ _) ⟨rfl, rfl⟩
end Go.Proofs.YtphgchakmkankaaGreat

namespace Go.Proofs.YtphgchakmkankaaGreat
set_option linter.unusedSectionVars false
set_option linter.unusedVariables false
set_option linter.unusedSimpArgs false
section
variable {κ ν : Type} [DecidableEq κ]
theorem tfind_tupd (k a : κ) (v : ν) : ∀ (l : List (κ × ν)), tfind k (tupd a v l) = if k = a then some v else tfind k l
 | [] => by simp [tupd, tfind]
 | (b, w) :: l => by
  rw [tupd]
  by_cases h : a = b
  ·subst h
   rw [if_pos rfl, tfind, tfind]
   split <;> rfl
  ·rw [if_neg h, tfind, tfind, tfind_tupd k a v l]
   by_cases h2 : k = b
   ·subst h2; rw [if_pos rfl, if_pos rfl, if_neg (fun e => h e.symm)]
   ·rw [if_neg h2, if_neg h2]
theorem tfind_set (k : κ) : ∀ (l : List κ) (s : List (κ × Bool)), (tfind k (l.foldl (fun s x => tupd x true s) s)).getD false = (decide (k ∈ l) || (tfind k s).getD false)
 | [], s => by simp
 | x :: l, s => by
  rw [List.foldl_cons, tfind_set k l, tfind_tupd]
  by_cases h : k = x
  ·simp [h]
  ·simp [h]
end
theorem sorted_snoc {l : List Int} {n : Int} (h : l.Pairwise (· < ·)) (k : ordB l n = false) : (l ++ [n]).Pairwise (· < ·) := by
 rw [List.pairwise_append]
 refine ⟨h, by simp, fun a ha b hb => ?_⟩
 simp at hb
 subst hb
 unfold ordB at k
 cases hl : l.getLast? with
 | none => rw [List.getLast?_eq_none_iff] at hl; subst hl; simp at ha
 | some m =>
  rw [hl] at k
  simp at k
  obtain ⟨ys, rfl⟩ := List.getLast?_eq_some_iff.1 hl
  rw [List.pairwise_append] at h
  rcases List.mem_append.1 ha with ha | ha
  ·have := h.2.2 a ha m (by simp); omega
  ·simp at ha; omega
theorem chkU_sorted {lib : List ProfileD} : ∀ (rest pre : List UnitD), chkU lib pre rest = 0 → (pre.map (·.number)).Pairwise (· < ·) → ((pre ++ rest).map (·.number)).Pairwise (· < ·)
 | [], pre, _, h => by simpa using h
 | u :: rest, pre, hc, h => by
  rw [chkU] at hc
  split at hc
  ·cases hc
  split at hc
  ·cases hc
  rename_i ho
  split at hc
  ·cases hc
  split at hc
  ·cases hc
  split at hc
  ·cases hc
  have := chkU_sorted rest (pre ++ [u]) hc (by rw [List.map_append]; exact sorted_snoc h (by simpa using ho))
  simpa using this
theorem rigF_sorted {r : RigD} (h : rigF r = 0) : (r.units.map (·.number)).Pairwise (· < ·) := by
 unfold rigF at h
 split at h
 ·split at h
  ·cases h
  ·simpa using chkU_sorted r.units [] h (by simp)
 ·rename_i h2; exact absurd h h2
theorem paramB_mem (p : ProfileD) (nm : ByteArray) : (paramB p nm).2 = true ↔ ∃ x ∈ p.params, x.name = nm := by
 unfold paramB
 cases h : p.params.find? fun x => decide (x.name = nm) with
 | none =>
  simp only [Option.elim_none, Bool.false_eq_true, false_iff]
  rintro ⟨x, hx, e⟩
  have := List.find?_eq_none.1 h x hx
  simp [e] at this
 | some x =>
  simp only [Option.elim_some, true_iff]
  exact ⟨x, List.mem_of_find?_eq_some h, by simpa using List.find?_some h⟩
theorem uniq_unit {l : List UnitD} (h : (l.map (·.number)).Pairwise (· < ·)) {u v : UnitD} (hu : u ∈ l) (hv : v ∈ l) (e : u.number = v.number) : u = v := by
 induction l with
 | nil => simp at hu
 | cons x l ih =>
  rw [List.map_cons, List.pairwise_cons] at h
  rcases List.mem_cons.1 hu with hu1 | hu1 <;> rcases List.mem_cons.1 hv with hv1 | hv1
  ·rw [hu1, hv1]
  ·have := h.1 v.number (List.mem_map.2 ⟨v, hv1, rfl⟩); rw [← hu1] at this; omega
  ·have := h.1 u.number (List.mem_map.2 ⟨u, hu1, rfl⟩); rw [← hv1] at this; omega
  ·exact ih h.2 hu1 hv1
def hasK (r : RigD) (k : KeyD) : Bool := (paramOf r k).2
theorem hasK_mem {r : RigD} (h : rigF r = 0) (k : KeyD) : hasK r k = decide (k ∈ keysOf r) := by
 rw [Bool.eq_iff_iff, decide_eq_true_iff]
 unfold hasK paramOf keysOf
 rw [List.mem_flatMap]
 cases hf : r.units.find? fun u => decide (u.number = k.unit) with
 | none =>
  simp only [Option.elim_none, Bool.false_eq_true, false_iff]
  rintro ⟨u, hu, hk⟩
  obtain ⟨x, _, rfl⟩ := List.mem_map.1 hk
  have := List.find?_eq_none.1 hf u hu
  simp at this
 | some u =>
  have hu := List.mem_of_find?_eq_some hf
  have hn : u.number = k.unit := by simpa using List.find?_some hf
  simp only [Option.elim_some, paramB_mem]
  constructor
  ·rintro ⟨x, hx, e⟩
   exact ⟨u, hu, List.mem_map.2 ⟨x, hx, by rw [hn, e]⟩⟩
  ·rintro ⟨v, hv, hk⟩
   obtain ⟨x, hx, rfl⟩ := List.mem_map.1 hk
   obtain rfl := uniq_unit (rigF_sorted h) hu hv hn
   exact ⟨x, hx, rfl⟩
theorem keys_len {r : RigD} (h : rigF r = 0) : (keysOf r).length ≤ 16000 := by
 have h1 := unitKeys_len h r.units
 have h2 := rigF_units h
 show (r.units.flatMap (unitKeys r.library)).length ≤ _
 omega
theorem ite_pure {α : Type} {p : Prop} [Decidable p] (a b : α) : (if p then some a else some b) = some (if p then a else b) := by split <;> rfl
theorem bind_ite2 {α β : Type} {p : Prop} [Decidable p] (a b : α) (f : α → Option β) : (if p then some a else some b).bind f = f (if p then a else b) := by split <;> rfl
theorem before_eq (a b : KeyD) : t_pick_before a b = some (ltK a b) := by
 unfold t_pick_before ltK
 by_cases h : a.unit = b.unit
 ·simp [h, toList_d, cmpB_lt]
 ·by_cases h2 : a.unit < b.unit <;> simp [h, h2]
theorem compare_eq (a b : KeyD) : t_cue_compare a b = some (cmpK a b) := by
 unfold t_cue_compare cmpK
 by_cases h : a.unit = b.unit
 ·simp [h]
 ·by_cases h2 : a.unit < b.unit <;> simp [h, h2]
def settF (has : KeyD → Bool) (l : List SettingD) (i : Nat) (x : SettingD) : Int :=
 if (!has x.key) = true then 8
 else if (!(withinB x.level 0 65535)) = true then 1
 else if (decide (0 < (i : Int)) && !ltK (pv l i).key x.key) = true then 7 else 0
def presetF (has : KeyD → Bool) (l : List PresetD) (i : Nat) (p : PresetD) : Int :=
 if (!(withinB p.number 1 999)) = true then 1
 else if (decide (0 < (i : Int)) && decide (p.number ≤ (pv l i).number)) = true then 7
 else if (!(blankB p.title)) = true then 3
 else if 2000 < (p.settings.length : Int) then 2
 else chkE (settF has p.settings) p.settings 0
def presetsF (r : RigD) (l : List PresetD) : Int :=
 if ¬ (rigF r = 0) then rigF r else if 200 < (l.length : Int) then 2 else chkE (presetF (hasK r) l) l 0
theorem guard_before (c : Bool) (a b : KeyD) : (c && !(if c = true then ltK a b else (default : Bool))) = (c && !ltK a b) := by cases c <;> rfl
theorem guard_cmp (c : Bool) (a b : KeyD) : (c && decide (0 ≤ (if c = true then cmpK a b else (default : Int)))) = (c && !ltK a b) := by
 cases c
 ·rfl
 ·simp only [if_true, Bool.true_and]; exact cmpK_ge a b
theorem guard_title (s : ByteArray) : (decide (¬ (s = (⟨#[]⟩ : ByteArray))) && !(if decide (¬ (s = (⟨#[]⟩ : ByteArray))) = true then titleB s else (default : Bool))) = !blankB s := by
 unfold blankB
 by_cases h : s = ⟨#[]⟩ <;> simp [h]
theorem CheckPresets_t (r : RigD) (l : List PresetD) (hr : okRig r) (hl : okL okPreset l) : t_pick_CheckPresets r l = some (presetsF r l) := by
 unfold t_pick_CheckPresets presetsF
 simp only [tq_pos hr, Option.bind_some]
 rw [tq_pos (by show 2 ≤ mxl; unfold mxl; omega)]
 simp only [find2, Option.bind_some]
 by_cases h0 : rigF r = 0
 case neg => simp [h0]
 by_cases h1 : 200 < (l.length : Int)
 ·simp [h0, h1]
 have hk : t_pick_keys r = some ((keysOf r).foldl (fun s x => tupd x true s) []) := by
  unfold t_pick_keys
  have := keys_len h0
  simp only [tq_pos hr, Option.bind_some, h0, if_true]
  rw [forE_fold (fun s x => tupd x true s) (fun _ _ => True) (by unfold mxl; omega) trivial (fun _ _ _ _ _ => trivial) (fun _ _ _ _ _ => rfl)]
  rfl
 simp only [h0, h1, not_true_eq_false, if_false, decide_false, Bool.false_eq_true, hk, Option.bind_some]
 have has : ∀ k, (tfind k ((keysOf r).foldl (fun s x => tupd x true s) [])).getD false = hasK r k := by
  intro k; rw [tfind_set, hasK_mem h0]; simp [tfind]
 rw [forE_chk (f := presetF (hasK r) l) hl.1 ?_]
 ·split
  ·rename_i h; rw [h]
  ·rfl
 intro i p hp
 have hpm := hl.2 p (List.mem_of_getElem? hp)
 obtain ⟨_, ht, hs⟩ := hpm
 simp only [prev_at hp hl.1, Option.bind_some, tq_pos ht, has]
 rw [forE_chk (f := settF (hasK r) p.settings) hs.1 ?_]
 ·unfold presetF
  repeat first | exact elim_ret _ | exact go_ret | refine ite_ret (by decide) ?_
 intro j x hx
 simp only [prev_at hx hs.1, Option.bind_some, before_eq, bind_ite2, guard_before]
 unfold settF
 repeat first | exact go_ret | refine ite_ret (by decide) ?_
theorem CheckPresets4_t (r : RigD) (l : List PresetD) (hr : okRig r) (hl : okL okPreset l) : t_R4_CheckPresets r l = some (presetsF r l) := by
 unfold t_R4_CheckPresets presetsF
 simp only [tq_pos hr, Option.bind_some]
 by_cases h0 : rigF r = 0
 case neg => simp [h0]
 by_cases h1 : 200 < (l.length : Int)
 ·simp [h0, h1]
 simp only [h0, h1, not_true_eq_false, if_false]
 rw [forE_chk (f := presetF (hasK r) l) hl.1 ?_]
 ·split
  ·rename_i h; rw [h]
  ·rfl
 intro i p hp
 have hpm := hl.2 p (List.mem_of_getElem? hp)
 obtain ⟨_, ht, hs⟩ := hpm
 simp only [prev_at hp hl.1, Option.bind_some, tq_pos ht, bind_ite2, guard_title]
 rw [forE_chk (f := settF (hasK r) p.settings) hs.1 ?_]
 ·unfold presetF
  repeat first | exact elim_ret _ | exact go_ret | refine ite_ret (by decide) ?_
 intro j x hx
 simp only [prev_at hx hs.1, Option.bind_some]
 unfold settF ltK hasK
 repeat first | exact go_ret | refine ite_ret (by decide) ?_
def presetOf (l : List PresetD) (n : Int) : PresetD × Bool := match l.find? fun p => decide (p.number = n) with | some p => (p, true) | none => (⟨0, ⟨#[]⟩, []⟩, false)
def levelOf (l : List PresetD) (k : KeyD) (v : ValueD) : Int × Int :=
 if (decide (¬ (v.level = 0)) && decide (¬ (v.preset = 0))) = true then (0, 3)
 else if (!(withinB v.level 0 65535)) = true then (0, 1)
 else if v.preset = 0 then (v.level, 0)
 else match l.find? fun p => decide (p.number = v.preset) with
  | none => (0, 8)
  | some p => match p.settings.find? fun s => decide (s.key = k) with | none => (0, 8) | some s => (s.level, 0)
theorem PresetOf_t (l : List PresetD) (hl : l.length ≤ mxl) (n : Int) : t_R4_PresetOf l n = some (presetOf l n) := by
 unfold t_R4_PresetOf presetOf
 rw [forE_find (p := fun p => decide (p.number = n)) (r := fun p => (p, true)) hl (by intro i x _; simp only [decide_eq_true_eq, ite_pure])]
 cases l.find? fun p => decide (p.number = n) <;> rfl
theorem Level4_t (l : List PresetD) (hl : okL okPreset l) (k : KeyD) (v : ValueD) : t_R4_Level l k v = some (levelOf l k v) := by
 unfold t_R4_Level levelOf
 simp only [PresetOf_t l hl.1, Option.bind_some]
 split
 ·rfl
 split
 ·rfl
 split
 ·rfl
 unfold presetOf
 cases hf : l.find? fun p => decide (p.number = v.preset) with
 | none => rfl
 | some p =>
  have hp := hl.2 p (List.mem_of_find?_eq_some hf)
  simp only [Bool.not_true, Bool.false_eq_true, if_false]
  rw [forE_find (p := fun s => decide (s.key = k)) (r := fun s => s.level) hp.2.2.1 (by intro i x _; simp only [decide_eq_true_eq, ite_pure])]
  cases p.settings.find? fun s => decide (s.key = k) <;> rfl
theorem forE_find2 {α γ R : Type} {p : α → Bool} {l : List α} {body : Nat → α → Unit → Option (Lr Unit Unit R)} {r : α → Option R} {fin : Unit → Option Unit} {s : Unit} {K1 : Unit → Option γ} {K2 : R → Option γ} (hl : l.length ≤ mxl) (hb : ∀ i x, l[i]? = some x → body i x () = if p x = true then some (match r x with | some q => .ret q | none => .brk ()) else some (.go ())) (hf : fin () = some () := by rfl) : forE l body fin s K1 K2 = match l.find? p with | some x => (match r x with | some q => K2 q | none => K1 ()) | none => K1 () := by
 rw [forE_le hl]
 have key : ∀ (rest pre : List α), l = pre ++ rest → forL body fin rest pre.length () = some (match rest.find? p with | some x => (match r x with | some q => .inr q | none => .inl ()) | none => .inl ()) := by
  intro rest
  induction rest with
  | nil => intro pre _; simp [forL, hf]
  | cons x rest ih =>
   intro pre hp
   rw [forL, hb pre.length x (by rw [hp]; simp), List.find?_cons]
   cases h : p x
   ·simp only [Bool.false_eq_true, if_false, Option.bind_some]
    have := ih (pre ++ [x]) (by simpa using hp)
    simpa using this
   ·simp only [if_true, Option.bind_some]
    cases r x <;> rfl
 have k := key l [] rfl
 rw [List.length_nil] at k
 rw [show s = () from rfl, k, Option.bind_some]
 cases l.find? p with
 | none => rfl
 | some x =>
  simp only
  cases r x <;> rfl
theorem Level_t (l : List PresetD) (hl : okL okPreset l) (k : KeyD) (v : ValueD) : t_pick_Level l k v = some (levelOf l k v) := by
 unfold t_pick_Level levelOf
 split
 ·rfl
 split
 ·rfl
 split
 ·rfl
 rw [forE_find2 (p := fun p => decide (p.number = v.preset)) (r := fun p => (p.settings.find? fun s => decide (s.key = k)).map (·.level)) hl.1 ?_]
 ·cases hf : l.find? fun p => decide (p.number = v.preset) with
  | none => rfl
  | some p =>
   simp only
   cases p.settings.find? fun s => decide (s.key = k) <;> rfl
 intro i p hp
 have hpm := hl.2 p (List.mem_of_getElem? hp)
 by_cases hn : p.number = v.preset
 ·simp only [hn, not_true_eq_false, if_false, decide_true, if_true]
  rw [forE_find (p := fun s => decide (s.key = k)) (r := fun s => s.level) hpm.2.2.1 (by intro i x _; simp only [decide_eq_true_eq, ite_pure])]
  cases p.settings.find? fun s => decide (s.key = k) <;> rfl
 ·simp [hn]
def moveF (l : List MoveD) (i : Nat) (m : MoveD) : Int :=
 if (!(withinB m.key.unit 1 9999)) = true then 1
 else if (!(nameB m.key.param)) = true then 5
 else if ((m.release && (decide (¬ (m.value = (⟨0, 0⟩ : ValueD))))) || ((decide (¬ (m.value.level = 0))) && (decide (¬ (m.value.preset = 0))))) = true then 3
 else if ((!(withinB m.value.level 0 65535)) || (!(withinB m.value.preset 0 999))) = true then 1
 else if ((!m.timed) && ((decide (¬ (m.delay = 0))) || (decide (¬ (m.time = 0))))) = true then 3
 else if ((!(withinB m.delay 0 36000000)) || (!(withinB m.time 0 36000000))) = true then 1
 else if (decide (0 < (i : Int)) && !ltK (pv l i).key m.key) = true then 7 else 0
def movesF (l : List MoveD) : Int := chkE (moveF l) l 0
theorem checkMoves_t (l : List MoveD) (hl : okL okMove l) : t_cue_checkMoves l = some (movesF l) := by
 unfold t_cue_checkMoves movesF
 rw [forE_chk (f := moveF l) hl.1 ?_]
 ·split
  ·rename_i h; rw [h]
  ·rfl
 intro i m hm
 have hmm := hl.2 m (List.mem_of_getElem? hm)
 simp only [prev_at hm hl.1, Option.bind_some, tq_pos hmm.1.2, compare_eq, bind_ite2, guard_cmp]
 unfold moveF
 repeat first | exact go_ret | refine ite_ret (by decide) ?_
theorem checkMove5_t (l : List MoveD) (hl : okL okMove l) (i : Nat) (m : MoveD) (hm : l[i]? = some m) : t_R5_checkMove m (l.take i) = some (moveF l i m) := by
 have hmm := hl.2 m (List.mem_of_getElem? hm)
 have hi := (List.getElem?_eq_some_iff.1 hm).1
 have e : ((l.take i).length : Int) = (i : Int) := by simp; omega
 unfold t_R5_checkMove moveF
 simp only [tq_pos hmm.1.2, Option.bind_some]
 have := last_at hm hl.1
 rw [e] at this
 simp only [e, this, Option.bind_some, ite_pure]
 rfl
theorem checkMoves5_t (l : List MoveD) (hl : okL okMove l) : t_R5_checkMoves l = some (if 2000 < (l.length : Int) then 2 else movesF l) := by
 unfold t_R5_checkMoves movesF
 split
 ·rfl
 rw [forE_chk (f := moveF l) hl.1 ?_]
 ·split
  ·rename_i h; rw [h]
  ·rfl
 intro i m hm
 have hi := (List.getElem?_eq_some_iff.1 hm).1
 simp only [tSl_pre (Nat.le_of_lt hi), Option.bind_some, checkMove5_t l hl i m hm]
 by_cases h : moveF l i m = 0 <;> simp [h]
def cueF (l : List CueD) (i : Nat) (c : CueD) : Int :=
 if (!(withinB c.number 1 9999999)) = true then 1
 else if (decide (0 < (i : Int)) && decide (c.number ≤ (pv l i).number)) = true then 7
 else if (!(blankB c.title)) = true then 3
 else if (((((!(withinB c.delay 0 36000000)) || (!(withinB c.up 0 36000000))) || (!(withinB c.down 0 36000000))) || (!(withinB c.other 0 36000000))) || (!(withinB c.follow (-1) 36000000))) = true then 1
 else if ¬ (curveF c.curve = 0) then curveF c.curve
 else if 2000 < (c.moves.length : Int) then 2
 else movesF c.moves
def manyF (l : List CueD) : Int := l.foldl (fun s c => IntKind.i64.wrap (s + (c.moves.length : Int))) 0
def formF (l : List CueD) : Int :=
 if 300 < (l.length : Int) then 2 else if ¬ (chkE (cueF l) l 0 = 0) then chkE (cueF l) l 0 else if 10000 < manyF l then 2 else 0
theorem forE_chkS {α γ S B : Type} {f : Nat → α → Int} {g : S → α → S} {l : List α} {body : Nat → α → S → Option (Lr S B Int)} {fin : S → Option B} {s : S} {K1 : B → Option γ} {K2 : Int → Option γ} (hl : l.length ≤ mxl) (hb : ∀ i x s, l[i]? = some x → body i x s = some (if f i x = 0 then .go (g s x) else .ret (f i x))) : forE l body fin s K1 K2 = if chkE f l 0 = 0 then (fin (l.foldl g s)).bind K1 else K2 (chkE f l 0) := by
 rw [forE_le hl]
 have key : ∀ (rest pre : List α) (s : S), l = pre ++ rest → forL body fin rest pre.length s = if chkE f rest pre.length = 0 then (fin (rest.foldl g s)).map .inl else some (.inr (chkE f rest pre.length)) := by
  intro rest
  induction rest with
  | nil => intro pre s _; simp [forL, chkE]
  | cons x rest ih =>
   intro pre s hp
   rw [forL, hb pre.length x s (by rw [hp]; simp), Option.bind_some, chkE]
   by_cases h : f pre.length x = 0
   ·simp only [h, if_true]
    have := ih (pre ++ [x]) (g s x) (by simpa using hp)
    simpa using this
   ·simp only [h, if_false]
 have k := key l [] s rfl
 rw [List.length_nil] at k
 rw [k]
 split
 ·cases fin (l.foldl g s) <;> rfl
 ·rfl
theorem ite_retS {S B : Type} {p : Prop} [Decidable p] {k f : Int} {t : S} {Y : Option (Lr S B Int)} (hk : k ≠ 0) (h : Y = some (if f = 0 then .go t else .ret f)) : (if p then some (.ret k) else Y) = some (if (if p then k else f) = 0 then .go t else .ret (if p then k else f)) := by
 by_cases hp : p
 ·simp [hp, hk]
 ·simp [hp, h]
theorem ite_retvS {S B : Type} {k f : Int} {t : S} {Y : Option (Lr S B Int)} (h : Y = some (if f = 0 then .go t else .ret f)) : (if ¬ (k = 0) then some (.ret k) else Y) = some (if (if ¬ (k = 0) then k else f) = 0 then .go t else .ret (if ¬ (k = 0) then k else f)) := by
 by_cases hp : k = 0
 ·simp [hp, h]
 ·simp [hp]
theorem ite_lastS {S B : Type} {k : Int} {t : S} : (if ¬ (k = 0) then some (.ret k) else some (.go t) : Option (Lr S B Int)) = some (if k = 0 then .go t else .ret k) := by
 by_cases hp : k = 0 <;> simp [hp]
theorem form_t (l : List CueD) (hl : okL okCue l) : t_cue_form l = some (formF l) := by
 unfold t_cue_form formF
 split
 ·rfl
 rw [forE_chkS (f := cueF l) (g := fun s c => IntKind.i64.wrap (s + (c.moves.length : Int))) hl.1 ?_]
 ·show (if chkE (cueF l) l 0 = 0 then some (if decide (10000 < manyF l) = true then (2 : Int) else 0) else some (chkE (cueF l) l 0)) = _
  by_cases h : chkE (cueF l) l 0 = 0
  ·by_cases h2 : 10000 < manyF l <;> simp [h, h2]
  ·simp [h]
 intro i c s hc
 obtain ⟨_, ht, _, _, _, _, _, _, hm⟩ := hl.2 c (List.mem_of_getElem? hc)
 simp only [prev_at hc hl.1, Option.bind_some, tq_pos ht, checkMoves_t _ hm, bind_ite2, guard_title]
 unfold cueF
 repeat first | exact ite_lastS | refine ite_retS (by decide) ?_ | refine ite_retvS ?_
theorem CheckForm5_t (l : List CueD) (hl : okL okCue l) : t_R5_CheckForm l = some (formF l) := by
 unfold t_R5_CheckForm formF
 split
 ·rfl
 rw [forE_chkS (f := cueF l) (g := fun s c => IntKind.i64.wrap (s + (c.moves.length : Int))) hl.1 ?_]
 ·show (if chkE (cueF l) l 0 = 0 then (if 10000 < manyF l then some (2 : Int) else some 0) else some (chkE (cueF l) l 0)) = _
  by_cases h : chkE (cueF l) l 0 = 0
  ·by_cases h2 : 10000 < manyF l <;> simp [h, h2]
  ·simp [h]
 intro i c s hc
 obtain ⟨_, ht, _, _, _, _, _, _, hm⟩ := hl.2 c (List.mem_of_getElem? hc)
 simp only [prev_at hc hl.1, Option.bind_some, tq_pos ht, checkMoves5_t _ hm, bind_ite2, guard_title]
 unfold cueF
 repeat first | exact ite_lastS | refine ite_retS (by decide) ?_ | refine ite_retvS ?_
def useF (r : RigD) (presets : List PresetD) (m : MoveD) : Int :=
 if (!hasK r m.key) = true then 8 else (levelOf presets m.key m.value).2
def usesF (r : RigD) (presets : List PresetD) (l : List CueD) : Int := chkE (fun _ c => chkE (fun _ m => useF r presets m) c.moves 0) l 0
def listF (r : RigD) (presets : List PresetD) (l : List CueD) : Int :=
 if ¬ (presetsF r presets = 0) then presetsF r presets else if ¬ (formF l = 0) then formF l else usesF r presets l
theorem presetsF_rig {r : RigD} {l : List PresetD} (h : presetsF r l = 0) : rigF r = 0 := by
 unfold presetsF at h
 by_cases h0 : rigF r = 0
 ·exact h0
 ·rw [if_pos h0] at h; exact h
theorem okCue_moves {c : CueD} (h : okCue c) : okL okMove c.moves := by
 obtain ⟨_, _, _, _, _, _, _, _, hm⟩ := h; exact hm
theorem CheckList_t (r : RigD) (presets : List PresetD) (l : List CueD) (hr : okRig r) (hp : okL okPreset presets) (hl : okL okCue l) : t_cue_CheckList r presets l = some (listF r presets l) := by
 unfold t_cue_CheckList listF
 simp only [CheckPresets_t r presets hr hp, form_t l hl, Option.bind_some]
 rw [tq_pos (by show 2 ≤ mxl; unfold mxl; omega)]
 simp only [find2, Option.bind_some]
 by_cases h0 : presetsF r presets = 0
 case neg => simp [h0]
 by_cases h1 : formF l = 0
 case neg => simp [h0, h1]
 have hrig := presetsF_rig h0
 have hkl := keys_len hrig
 simp only [h0, h1, not_true_eq_false, if_false, tq_pos hr, Option.bind_some, hrig, if_true]
 rw [forE_fold (fun s x => tupd x true s) (fun _ _ => True) (by unfold mxl; omega) trivial (fun _ _ _ _ _ => trivial) (fun _ _ _ _ _ => rfl)]
 simp only [Option.bind_some]
 have has : ∀ k, (tfind k ((keysOf r).foldl (fun s x => tupd x true s) [])).getD false = hasK r k := by
  intro k; rw [tfind_set, hasK_mem hrig]; simp [tfind]
 rw [forE_chk (f := fun _ c => chkE (fun _ m => useF r presets m) c.moves 0) hl.1 ?_]
 ·show (if usesF r presets l = 0 then some (0 : Int) else some (usesF r presets l)) = _
  split
  ·rename_i h; rw [h]
  ·rfl
 intro i c hc
 rw [forE_chk (f := fun _ m => useF r presets m) (okCue_moves (hl.2 c (List.mem_of_getElem? hc))).1 ?_]
 ·exact elim_ret _
 intro j m hm
 simp only [has, Level_t presets hp, Option.bind_some]
 unfold useF
 repeat first | exact ite_lastS | refine ite_ret (by decide) ?_
theorem CheckList5_t (r : RigD) (presets : List PresetD) (l : List CueD) (hr : okRig r) (hp : okL okPreset presets) (hl : okL okCue l) : t_R5_CheckList r presets l = some (listF r presets l) := by
 unfold t_R5_CheckList listF
 simp only [CheckPresets4_t r presets hr hp, CheckForm5_t l hl, Option.bind_some]
 by_cases h0 : presetsF r presets = 0
 case neg => simp [h0]
 by_cases h1 : formF l = 0
 case neg => simp [h0, h1]
 simp only [h0, h1, not_true_eq_false, if_false]
 rw [forE_chk (f := fun _ c => chkE (fun _ m => useF r presets m) c.moves 0) hl.1 ?_]
 ·show (if usesF r presets l = 0 then some (0 : Int) else some (usesF r presets l)) = _
  split
  ·rename_i h; rw [h]
  ·rfl
 intro i c hc
 rw [forE_chk (f := fun _ m => useF r presets m) (okCue_moves (hl.2 c (List.mem_of_getElem? hc))).1 ?_]
 ·exact elim_ret _
 intro j m hm
 simp only [tq_pos hr, Level4_t presets hp, Option.bind_some]
 unfold useF hasK
 repeat first | exact ite_lastS | refine ite_ret (by decide) ?_
end Go.Proofs.YtphgchakmkankaaGreat

namespace Go.Proofs.YtphgchakmkankaaGreat
set_option linter.unusedSectionVars false
set_option linter.unusedVariables false
set_option linter.unusedSimpArgs false
set_option maxRecDepth 100000
noncomputable def t_cue_place_fn1 (a0 : CueD) (a1 : Int) : Option Int :=
 some (IntKind.i64.wrap (a0.number - a1))
theorem h_cue_place_fn1 {a0 : CueD} { a1 : Int} {σ : Heap} {r : Int} (h : t_cue_place_fn1 a0 a1 = some r) : m_cue_place_fn1 [(AV.agg (cCue a0)), (AV.int .i64 a1)] σ = some ((AV.int .i64 r), σ) := by
 refine rf_wrap2 (f := r_cue_place_fn1) (y0 := (AV.agg (cCue a0))) (y1 := (AV.int .i64 a1)) (enc := fun r : Int => (AV.int .i64 r)) (T := t_cue_place_fn1 a0 a1) (nn_t1 (nn_a rfl) rfl) rfl ?_ r h
 unfold r_cue_place_fn1 t_cue_place_fn1
 refine rf_s (cCue a0) rfl ?_
 refine rf_s (AV.int .i64 a0.number) rfl ?_
 refine rf_s (AV.int .i64 (IntKind.i64.wrap (a0.number - a1))) rfl ?_
 exact rf_fin _ (fin_same _ _) ⟨rfl, rfl⟩

noncomputable def t_cue_state (a0 : (List CueD)) : Option (List (KeyD × EntryD)) :=
 forE a0 (fun (i10 : Nat) e9 (s3 : (List (KeyD × EntryD))) => (show Option (Lr (List (KeyD × EntryD)) (List (KeyD × EntryD)) Unit) from
   forE e9.moves (fun (i18 : Nat) e17 (s11 : (List (KeyD × EntryD))) => (show Option (Lr (List (KeyD × EntryD)) (List (KeyD × EntryD)) Unit) from
     (show Option (List (KeyD × EntryD)) from
       if e17.release = true then
        some (tdel e17.key s11)
       else
       some (tupd e17.key (⟨(⟨e17.key.unit, e17.key.param⟩ : KeyD), (⟨e17.value.level, e17.value.preset⟩ : ValueD), e9.number⟩ : EntryD) s11)).bind fun j26 =>
     some (.go j26))) (fun s11 => some s11) s3 (fun b12 =>
    some (.go b12)) (fun b12 =>
    none))) (fun s3 => some s3) ([] : List (KeyD × EntryD)) (fun b4 =>
  some b4) (fun b4 =>
  none)
theorem h_cue_state {a0 : (List CueD)} {σ : Heap} {r : (List (KeyD × EntryD))} (h : t_cue_state a0 = some r) : m_cue_state [(sl 11 cCue a0)] σ = some ((fmE (fun x => (AV.agg (cKey x))) (fun x => (AV.agg (cEntry x))) r), σ) := by
 refine rf_wrap1 (f := r_cue_state) (y0 := (sl 11 cCue a0)) (enc := fun r : (List (KeyD × EntryD)) => (fmE (fun x => (AV.agg (cKey x))) (fun x => (AV.agg (cEntry x))) r)) (T := t_cue_state a0) (nn_t1 (nn_e (fun _ => rfl) _) rfl) rfl ?_ r h
 unfold r_cue_state t_cue_state
 have hp1 : Hp σ σ [] := hp_nil σ
 have hp2 : Hp σ (σ ++ [Blk.map []]) [((AV.om σ.length), (Ct.m (List.map (fun p => ((fun x => (AV.agg (cKey x))) p.1, (fun x => (AV.agg (cEntry x))) p.2)) ([] : List (KeyD × EntryD)))))] := hp_om hp1
 refine rf_s (AV.int .i64 (a0.length : Int)) (lenS_sl _ _ _) ?_
 refine rf_for (B := (List (KeyD × EntryD))) (R := Unit) (fun (i10 : Nat) (s3 : (List (KeyD × EntryD))) v w5 => v = [(AV.int .i64 (i10 : Int))] ∧ Hp σ w5 [((AV.om σ.length), (Ct.m (List.map (fun p => ((fun x => (AV.agg (cKey x))) p.1, (fun x => (AV.agg (cEntry x))) p.2)) s3)))]) (fun (b4 : (List (KeyD × EntryD))) (q : LS) => ∃ u11 w6, q = ((AX.exit 0), ([u11] : List AV), w6) ∧ Hp σ w6 [((AV.om σ.length), (Ct.m (List.map (fun p => ((fun x => (AV.agg (cKey x))) p.1, (fun x => (AV.agg (cEntry x))) p.2)) b4)))]) (fun (b4 : Unit) (q : LS) => False) ?_ ?_ ⟨rfl, hp2⟩ ?_ ?_
 ·intro hle9 i10 e9 s3 v w5 he9 hI
  obtain ⟨rfl, hp7⟩ := hI
  refine rf_s (AV.bool true) (ix_lt he9) ?_
  refine rf_ct ?_
  refine rf_s (AV.rp (cCue e9)) (ix_for he9) ?_
  refine rf_s (AV.agg (cCue e9)) rfl ?_
  refine rf_s (cCue e9) rfl ?_
  refine rf_s (cCue e9) (sp_cCue _ _ rfl) ?_
  refine rf_s (sl 8 cMove e9.moves) rfl ?_
  refine rf_s (AV.int .i64 (e9.moves.length : Int)) (lenS_sl _ _ _) ?_
  refine rf_for (B := (List (KeyD × EntryD))) (R := Unit) (fun (i18 : Nat) (s11 : (List (KeyD × EntryD))) v w13 => v = [(AV.lbx (cCue e9)), (AV.int .i64 (i18 : Int))] ∧ Hp σ w13 [((AV.om σ.length), (Ct.m (List.map (fun p => ((fun x => (AV.agg (cKey x))) p.1, (fun x => (AV.agg (cEntry x))) p.2)) s11)))]) (fun (b12 : (List (KeyD × EntryD))) (q : LS) => ∃ u5 u18 w14, q = ((AX.exit 2), ([u5, u18] : List AV), w14) ∧ Hp σ w14 [((AV.om σ.length), (Ct.m (List.map (fun p => ((fun x => (AV.agg (cKey x))) p.1, (fun x => (AV.agg (cEntry x))) p.2)) b12)))]) (fun (b12 : Unit) (q : LS) => False) ?_ ?_ ⟨rfl, hp7⟩ ?_ ?_
  ·intro hle17 i18 e17 s11 v w13 he17 hI
   obtain ⟨rfl, hp15⟩ := hI
   refine rf_s (AV.bool true) (ix_lt he17) ?_
   refine rf_ct ?_
   refine rf_s (AV.rp (cMove e17)) (ix_for he17) ?_
   refine rf_s (AV.agg (cMove e17)) rfl ?_
   refine rf_s (cMove e17) rfl ?_
   refine rf_s (cMove e17) (sp_cMove _ _ rfl) ?_
   refine rf_s (AV.bool e17.release) rfl ?_
   refine rf_b (ω := (List (KeyD × EntryD))) (fun j26 a => ∃ w27, a = (([(AV.lbx (cCue e9))] : List AV), w27) ∧ Hp σ w27 [((AV.om σ.length), (Ct.m (List.map (fun p => ((fun x => (AV.agg (cKey x))) p.1, (fun x => (AV.agg (cEntry x))) p.2)) j26)))]) (
     by
      refine rf_cb (c := e17.release) (fun c25 => ?_) (fun c25 => ?_)
      ·refine rf_s (AV.agg (cKey e17.key)) rfl ?_
       obtain ⟨w19, e21, hp20⟩ := hp_delT (ek := (.s [0, 2])) (eK := (fun x => (AV.agg (cKey x)))) (eV := (fun x => (AV.agg (cEntry x)))) hp15 0 rfl eqk_Key e17.key rfl
       change Hp σ w19 [((AV.om σ.length), (Ct.m (List.map (fun p => ((fun x => (AV.agg (cKey x))) p.1, (fun x => (AV.agg (cEntry x))) p.2)) (tdel e17.key s11))))] at hp20
       refine rf_s w19 e21 ?_
       exact rf_ret ⟨_, rfl, hp20⟩
      refine rf_s (AV.agg (cKey e17.key)) rfl ?_
      refine rf_s (AV.agg (cKey e17.key)) rfl ?_
      refine rf_s (AV.agg (cValue e17.value)) rfl ?_
      refine rf_s _ rfl ?_
      refine rf_s (AV.int .i64 e9.number) rfl ?_
      refine rf_s (AV.agg (cEntry (⟨(⟨e17.key.unit, e17.key.param⟩ : KeyD), (⟨e17.value.level, e17.value.preset⟩ : ValueD), e9.number⟩ : EntryD))) rfl ?_
      obtain ⟨w22, e24, hp23⟩ := hp_updT (ek := (.s [0, 2])) (eK := (fun x => (AV.agg (cKey x)))) (eV := (fun x => (AV.agg (cEntry x)))) hp15 0 rfl eqk_Key e17.key (⟨(⟨e17.key.unit, e17.key.param⟩ : KeyD), (⟨e17.value.level, e17.value.preset⟩ : ValueD), e9.number⟩ : EntryD) rfl
      change Hp σ w22 [((AV.om σ.length), (Ct.m (List.map (fun p => ((fun x => (AV.agg (cKey x))) p.1, (fun x => (AV.agg (cEntry x))) p.2)) (tupd e17.key (⟨(⟨e17.key.unit, e17.key.param⟩ : KeyD), (⟨e17.value.level, e17.value.preset⟩ : ValueD), e9.number⟩ : EntryD) s11))))] at hp23
      refine rf_s w22 e24 ?_
      exact rf_ret ⟨_, rfl, hp23⟩
     ) (fun j26 a ha => ?_)
   obtain ⟨w27, rfl, hp28⟩ := ha
   refine rf_s (AV.int .i64 ((i18 + 1 : Nat) : Int)) (ix_inc he17 hle17) ?_
   exact rf_ret (rnd_go ⟨rfl, hp28⟩)
  ·intro hl s11 v w13 hI
   obtain ⟨rfl, hp15⟩ := hI
   refine rf_s (AV.bool false) (ix_end _) ?_
   refine rf_cf ?_
   exact rf_ret ⟨by simp, ⟨_, _, _, rfl, hp15⟩⟩
  ·intro hl b12 q hq
   obtain ⟨u5, u18, w14, rfl, hp16⟩ := hq
   refine rf_bt rfl ?_
   refine rf_s (AV.int .i64 ((i10 + 1 : Nat) : Int)) (ix_inc he9 hle9) ?_
   exact rf_ret (rnd_go ⟨rfl, hp16⟩)
  ·intro hl b12 q hq
   exact False.elim hq
 ·intro hl s3 v w5 hI
  obtain ⟨rfl, hp7⟩ := hI
  refine rf_s (AV.bool false) (ix_end _) ?_
  refine rf_cf ?_
  exact rf_ret ⟨by simp, ⟨_, _, rfl, hp7⟩⟩
 ·intro hl b4 q hq
  obtain ⟨u11, w6, rfl, hp8⟩ := hq
  refine rf_bt rfl ?_
  exact rf_fin _ (hp_fin hp8 (fzv_om hp8 (k := 0) rfl (by intro p hp; obtain ⟨x, _, rfl⟩ := List.mem_map.1 hp; exact ⟨(fz_agg (fz_cKey _)), (fz_agg (fz_cEntry _))⟩))) ⟨rfl, rfl⟩
 ·intro hl b4 q hq
  exact False.elim hq

noncomputable def t_R5_At (a0 : (List CueD)) (a1 : Int) : Option Int :=
 forE a0 (fun (i8 : Nat) e7 (s1 : Unit) => (show Option (Lr Unit Unit Int) from
   if e7.number = a1 then
    some (.ret (i8 : Int))
   else
   some (.go ()))) (fun s1 => some ()) () (fun b2 =>
  some (-1)) (fun b2 =>
  some b2)
theorem h_R5_At {a0 : (List CueD)} { a1 : Int} {σ : Heap} {r : Int} (h : t_R5_At a0 a1 = some r) : m_R5_At [(sl 11 cCue a0), (AV.int .i64 a1)] σ = some ((AV.int .i64 r), σ) := by
 refine rf_wrap2 (f := r_R5_At) (y0 := (sl 11 cCue a0)) (y1 := (AV.int .i64 a1)) (enc := fun r : Int => (AV.int .i64 r)) (T := t_R5_At a0 a1) (nn_t1 (nn_e (fun _ => rfl) _) rfl) rfl ?_ r h
 unfold r_R5_At t_R5_At
 refine rf_s (AV.int .i64 (a0.length : Int)) (lenS_sl _ _ _) ?_
 refine rf_for (B := Unit) (R := Int) (fun (i8 : Nat) (s1 : Unit) v w3 => v = [(AV.int .i64 0), (AV.int .i64 (i8 : Int))] ∧ σ = w3) (fun (b2 : Unit) (q : LS) => ∃ u4 u9, q = ((AX.exit 0), ([u4, u9] : List AV), σ)) (fun (b2 : Int) (q : LS) => ∃ u9, q = (AX.ret, ([(AV.int .i64 b2), u9] : List AV), σ)) ?_ ?_ ⟨rfl, rfl⟩ ?_ ?_
 ·intro hle7 i8 e7 s1 v w3 he7 hI
  obtain ⟨rfl, rfl⟩ := hI
  refine rf_s (AV.bool true) (ix_lt he7) ?_
  refine rf_ct ?_
  refine rf_s (AV.rp (cCue e7)) (ix_for he7) ?_
  refine rf_s (AV.agg (cCue e7)) rfl ?_
  refine rf_s (cCue e7) rfl ?_
  refine rf_s (cCue e7) (sp_cCue _ _ rfl) ?_
  refine rf_s (AV.int .i64 e7.number) rfl ?_
  refine rf_s (AV.bool (decide (e7.number = a1))) (aEq _ _ _) ?_
  refine rf_c (p := e7.number = a1) (fun c9 => ?_) (fun c9 => ?_)
  ·exact rf_ret (rnd_ret (by simp) ⟨_, rfl⟩)
  refine rf_s (AV.int .i64 ((i8 + 1 : Nat) : Int)) (ix_inc he7 hle7) ?_
  exact rf_ret (rnd_go ⟨rfl, rfl⟩)
 ·intro hl s1 v w3 hI
  obtain ⟨rfl, rfl⟩ := hI
  refine rf_s (AV.bool false) (ix_end _) ?_
  refine rf_cf ?_
  exact rf_ret ⟨by simp, ⟨_, _, rfl⟩⟩
 ·intro hl b2 q hq
  obtain ⟨u4, u9, rfl⟩ := hq
  refine rf_bt rfl ?_
  exact rf_fin _ (fin_same _ _) ⟨rfl, rfl⟩
 ·intro hl b2 q hq
  obtain ⟨u9, rfl⟩ := hq
  refine rf_bf rfl ?_
  refine rf_bt rfl ?_
  exact rf_fin _ (fin_same _ _) ⟨rfl, rfl⟩

noncomputable def t_R5_place (a0 : (List EntryD)) (a1 : KeyD) : Option (Int × Bool) :=
 whE (fun (s1 : Int) => (show Option (Lr Int Int Unit) from
   (if decide (s1 < (a0.length : Int)) = true then tIx a0 s1 else some default).bind fun x7 =>
   if ((decide (s1 < (a0.length : Int))) && (((decide (x7.key.unit < a1.unit)) || ((decide (x7.key.unit = a1.unit)) && (Op.bytesLess x7.key.param.toList a1.param.toList))))) = true then
    some (.go (IntKind.i64.wrap (s1 + 1)))
   else
   some (.brk s1))) 0 (fun b2 =>
  (if decide (b2 < (a0.length : Int)) = true then tIx a0 b2 else some default).bind fun x9 =>
  some (b2, ((decide (b2 < (a0.length : Int))) && (decide (x9.key = a1))))) (fun b2 =>
  none)
theorem h_R5_place {a0 : (List EntryD)} { a1 : KeyD} {σ : Heap} {r : (Int × Bool)} (h : t_R5_place a0 a1 = some r) : m_R5_place [(sl 5 cEntry a0), (AV.agg (cKey a1))] σ = some ((AV.tup [(AV.int .i64 r.1), (AV.bool r.2)]), σ) := by
 refine rf_wrap2 (f := r_R5_place) (y0 := (sl 5 cEntry a0)) (y1 := (AV.agg (cKey a1))) (enc := fun r : (Int × Bool) => (AV.tup [(AV.int .i64 r.1), (AV.bool r.2)])) (T := t_R5_place a0 a1) rfl rfl ?_ r h
 unfold r_R5_place t_R5_place
 refine rf_s (cKey a1) rfl ?_
 refine rf_wh (B := Int) (R := Unit) (fun (s1 : Int) v w3 => v = [(AV.lbx (cKey a1)), (AV.int .i64 s1)] ∧ σ = w3) (fun (b2 : Int) (q : LS) => q = ((AX.exit 0), ([(AV.lbx (cKey a1)), (AV.int .i64 b2)] : List AV), σ)) (fun (b2 : Unit) (q : LS) => False) ?_ ⟨rfl, rfl⟩ ?_ ?_
 ·intro s1 v w3 hI
  obtain ⟨rfl, rfl⟩ := hI
  refine rf_s (AV.int .i64 (a0.length : Int)) (lenS_sl _ _ _) ?_
  refine rf_s (AV.bool (decide (s1 < (a0.length : Int)))) rfl ?_
  refine rf_gt (sl 5 cEntry a0) (fun hg => rfl) ?_
  refine rf_gt (AV.int .i64 s1) (fun hg => rfl) ?_
  refine rf_gto (ω := EntryD) (fun x7 => (AV.rp (cEntry x7))) (fun hg x7 hx7 => by
    simp only [hg, Bool.true_and, cond_true]; first | done | exact ix_at hx7) (fun x7 hx7 => ?_)
  refine rf_gt (AV.rp (cEntry x7)) (fun hg => by
    simp only [hg, Bool.true_and, cond_true]; first | done | exact rfl) ?_
  refine rf_gt (AV.agg (cKey x7.key)) (fun hg => by
    simp only [hg, Bool.true_and, cond_true]; first | done | exact rfl) ?_
  refine rf_gt (AV.agg (cKey a1)) (fun hg => rfl) ?_
  refine rf_gt (AV.bool (((decide (x7.key.unit < a1.unit)) || ((decide (x7.key.unit = a1.unit)) && (Op.bytesLess x7.key.param.toList a1.param.toList))))) (fun hg => by
    simp only [hg, Bool.true_and, cond_true]; first | done | exact (quiet_of (h_R4_Before (σ := σ) (r := ((decide (x7.key.unit < a1.unit)) || ((decide (x7.key.unit = a1.unit)) && (Op.bytesLess x7.key.param.toList a1.param.toList)))) rfl))) ?_
  refine rf_s (AV.bool ((decide (s1 < (a0.length : Int))) && (((decide (x7.key.unit < a1.unit)) || ((decide (x7.key.unit = a1.unit)) && (Op.bytesLess x7.key.param.toList a1.param.toList)))))) (pk_and _ _) ?_
  refine rf_cb (c := ((decide (s1 < (a0.length : Int))) && (((decide (x7.key.unit < a1.unit)) || ((decide (x7.key.unit = a1.unit)) && (Op.bytesLess x7.key.param.toList a1.param.toList)))))) (fun c8 => ?_) (fun c8 => ?_)
  ·refine rf_s (AV.int .i64 (IntKind.i64.wrap (s1 + 1))) rfl ?_
   exact rf_ret (rnd_go ⟨rfl, rfl⟩)
  exact rf_ret (rnd_brk (by simp) rfl)
 ·intro b2 q hq
  subst hq
  refine rf_bt rfl ?_
  refine rf_s (AV.int .i64 (a0.length : Int)) (lenS_sl _ _ _) ?_
  refine rf_s (AV.bool (decide (b2 < (a0.length : Int)))) rfl ?_
  refine rf_gt (sl 5 cEntry a0) (fun hg => rfl) ?_
  refine rf_gt (AV.int .i64 b2) (fun hg => rfl) ?_
  refine rf_gto (ω := EntryD) (fun x9 => (AV.rp (cEntry x9))) (fun hg x9 hx9 => by
    simp only [hg, Bool.true_and, cond_true]; first | done | exact ix_at hx9) (fun x9 hx9 => ?_)
  refine rf_gt (AV.rp (cEntry x9)) (fun hg => by
    simp only [hg, Bool.true_and, cond_true]; first | done | exact rfl) ?_
  refine rf_gt (AV.agg (cKey x9.key)) (fun hg => by
    simp only [hg, Bool.true_and, cond_true]; first | done | exact rfl) ?_
  refine rf_gt (AV.agg (cKey a1)) (fun hg => rfl) ?_
  refine rf_gt (AV.bool (decide (x9.key = a1))) (fun hg => by
    simp only [hg, Bool.true_and, cond_true]; first | done | exact (eq_Key _ _)) ?_
  refine rf_s (AV.bool ((decide (b2 < (a0.length : Int))) && (decide (x9.key = a1)))) (pk_and _ _) ?_
  exact rf_fin _ (fin_same _ _) ⟨rfl, rfl⟩
 ·intro b2 q hq
  exact False.elim hq

noncomputable def t_slices_Equal_api_Entry (a0 : (List EntryD)) (a1 : (List EntryD)) : Option Bool :=
 if ¬ ((a0.length : Int) = (a1.length : Int)) then
  some false
 else
 forE a0 (fun (i8 : Nat) e7 (s1 : Unit) => (show Option (Lr Unit Unit Unit) from
   (tIx a1 (i8 : Int)).bind fun x9 =>
   if ¬ (e7 = x9) then
    some (.ret ())
   else
   some (.go ()))) (fun s1 => some ()) () (fun b2 =>
  some true) (fun b2 =>
  some false)
theorem h_slices_Equal_api_Entry {a0 : (List EntryD)} { a1 : (List EntryD)} {σ : Heap} {r : Bool} (h : t_slices_Equal_api_Entry a0 a1 = some r) : m_slices_Equal_api_Entry [(sl 5 cEntry a0), (sl 5 cEntry a1)] σ = some ((AV.bool r), σ) := by
 refine rf_wrap2 (f := r_slices_Equal_api_Entry) (y0 := (sl 5 cEntry a0)) (y1 := (sl 5 cEntry a1)) (enc := fun r : Bool => (AV.bool r)) (T := t_slices_Equal_api_Entry a0 a1) rfl rfl ?_ r h
 unfold r_slices_Equal_api_Entry t_slices_Equal_api_Entry
 refine rf_s (AV.int .i64 (a0.length : Int)) (lenS_sl _ _ _) ?_
 refine rf_s (AV.int .i64 (a1.length : Int)) (lenS_sl _ _ _) ?_
 refine rf_s (AV.bool (decide (¬ ((a0.length : Int) = (a1.length : Int))))) (aNe _ _ _) ?_
 refine rf_c (p := ¬ ((a0.length : Int) = (a1.length : Int))) (fun c11 => ?_) (fun c11 => ?_)
 ·exact rf_fin _ (fin_same _ _) ⟨rfl, rfl⟩
 refine rf_s (AV.int .i64 (a0.length : Int)) (lenS_sl _ _ _) ?_
 refine rf_for (B := Unit) (R := Unit) (fun (i8 : Nat) (s1 : Unit) v w3 => v = [(AV.bool false), (AV.int .i64 (i8 : Int))] ∧ σ = w3) (fun (b2 : Unit) (q : LS) => ∃ u4 u13, q = ((AX.exit 0), ([u4, u13] : List AV), σ)) (fun (b2 : Unit) (q : LS) => ∃ u13, q = (AX.ret, ([(AV.bool false), u13] : List AV), σ)) ?_ ?_ ⟨rfl, rfl⟩ ?_ ?_
 ·intro hle7 i8 e7 s1 v w3 he7 hI
  obtain ⟨rfl, rfl⟩ := hI
  refine rf_s (AV.bool true) (ix_lt he7) ?_
  refine rf_ct ?_
  refine rf_s (AV.rp (cEntry e7)) (ix_for he7) ?_
  refine rf_s (AV.agg (cEntry e7)) rfl ?_
  refine rf_o (fun x9 : EntryD => (AV.rp (cEntry x9))) (fun x9 hx9 => ix_at hx9) (fun x9 hx9 => ?_)
  refine rf_s (AV.agg (cEntry x9)) rfl ?_
  refine rf_s (AV.bool (decide (¬ (e7 = x9)))) (ne_Entry _ _) ?_
  refine rf_c (p := ¬ (e7 = x9)) (fun c10 => ?_) (fun c10 => ?_)
  ·exact rf_ret (rnd_ret (by simp) ⟨_, rfl⟩)
  refine rf_s (AV.int .i64 ((i8 + 1 : Nat) : Int)) (ix_inc he7 hle7) ?_
  exact rf_ret (rnd_go ⟨rfl, rfl⟩)
 ·intro hl s1 v w3 hI
  obtain ⟨rfl, rfl⟩ := hI
  refine rf_s (AV.bool false) (ix_end _) ?_
  refine rf_cf ?_
  exact rf_ret ⟨by simp, ⟨_, _, rfl⟩⟩
 ·intro hl b2 q hq
  obtain ⟨u4, u13, rfl⟩ := hq
  refine rf_bt rfl ?_
  exact rf_fin _ (fin_same _ _) ⟨rfl, rfl⟩
 ·intro hl b2 q hq
  obtain ⟨u13, rfl⟩ := hq
  refine rf_bf rfl ?_
  refine rf_bt rfl ?_
  exact rf_fin _ (fin_same _ _) ⟨rfl, rfl⟩

end Go.Proofs.YtphgchakmkankaaGreat

namespace Go.Proofs.YtphgchakmkankaaGreat
set_option linter.unusedSectionVars false
set_option linter.unusedVariables false
set_option linter.unusedSimpArgs false
theorem half_nn {i j : Nat} (h : i + j < 9223372036854775808) : A.shr (.int .u64 ((i + j : Nat) : Int)) (.int .u64 1) = some (.int .u64 (((i + j) / 2 : Nat) : Int)) := by
 simp only [A.shr]
 rw [if_neg (by decide)]
 congr 2
 rw [show (2 : Int) ^ (min (Int.toNat 1) IntKind.u64.bits) = 2 from rfl, Int.fdiv_eq_ediv_of_nonneg _ (by decide)]
 omega
theorem conv_u {n : Nat} (h : n < 9223372036854775808) : A.conv .u64 (.int .i64 (n : Int)) = some (.int .u64 (n : Int)) := by
 simp only [A.conv]
 congr 2
 unfold IntKind.wrap
 simp [IntKind.bits, IntKind.signed]
 omega
theorem conv_i {n : Nat} (h : n < 9223372036854775808) : A.conv .i64 (.int .u64 (n : Int)) = some (.int .i64 (n : Int)) := by
 simp only [A.conv]
 rw [wrap64 (by unfold inI; omega)]
theorem tadd {a b : Nat} (h : a + b < 9223372036854775808) : A.add (.int .i64 (a : Int)) (.int .i64 (b : Int)) = some (.int .i64 ((a + b : Nat) : Int)) := by
 rw [aAdd, wrap64 (by unfold inI; omega)]; simp
theorem tadd1 {a : Nat} (h : a + 1 < 9223372036854775808) : A.add (.int .i64 (a : Int)) (.int .i64 1) = some (.int .i64 ((a + 1 : Nat) : Int)) := tadd (b := 1) h
theorem tlss (a b : Nat) : A.lss (.int .i64 (a : Int)) (.int .i64 (b : Int)) = some (.bool (decide (a < b))) := by
 rw [aLss]
 have : ((a : Int) < (b : Int)) = (a < b) := propext ⟨fun h => by omega, fun h => by omega⟩
 simp only [this]
theorem tlss0 (a : Int) : A.lss (.int .i64 a) (.int .i64 0) = some (.bool (decide (a < 0))) := by rw [aLss]
theorem exb {α : Type} {X Y : α} : (bif (AX.exit 0 == AX.exit 0) then X else Y) = X := rfl
theorem bs_loop {f : List AV → Heap → Option (AX × List AV × Heap)} {σ : Heap} (pv : Nat → Nat → List AV) {v0 : List AV} {n p : Nat} (hp : p ≤ n) (h0 : v0 = pv 0 n)
  (hs : ∀ i j, i < j → j ≤ n → f (pv i j) σ = some (.normal, if (i + j) / 2 < p then pv ((i + j) / 2 + 1) j else pv i ((i + j) / 2), σ))
  (he : ∀ i, i ≤ n → f (pv i i) σ = some (.exit 0, pv i i, σ)) : A.loop f v0 σ = some (.exit 0, pv p p, σ) := by
 subst h0
 have key : ∀ k i j, j - i ≤ k → i ≤ p → p ≤ j → j ≤ n → ∃ m, A.iter f m (pv i j) σ = some (.exit 0, pv p p, σ) := by
  intro k
  induction k with
  | zero =>
   intro i j hk h1 h2 h3
   have : i = p := by omega
   have : j = p := by omega
   subst i; subst j
   exact loop_done (he p h3) (by simp)
  | succ k ih =>
   intro i j hk h1 h2 h3
   by_cases hij : i < j
   ·have hstep := hs i j hij h3
    by_cases hh : (i + j) / 2 < p
    ·rw [if_pos hh] at hstep
     exact loop_step hstep (ih _ _ (by omega) (by omega) h2 h3)
    ·rw [if_neg hh] at hstep
     exact loop_step hstep (ih _ _ (by omega) h1 (by omega) (by omega))
   ·have : i = p := by omega
    have : j = p := by omega
    subst i; subst j
    exact loop_done (he p h3) (by simp)
 obtain ⟨m, hm⟩ := key n 0 n (by omega) (by omega) hp (Nat.le_refl _)
 exact loop_of_iter hm
theorem bsC {dyn : Nat → List AV → Heap → Option (AV × Heap)} {l : List CueD} {fn : Nat} {k : Int} {cv : CueD → Int} {p : Nat} {σ : Heap} (hl : l.length < 4611686018427387904) (hp : p ≤ l.length)
  (hd : ∀ x ∈ l, dyn fn [.agg (cCue x), .int .i64 k] σ = some (.int .i64 (cv x), σ)) (hc : ∀ h x, l[h]? = some x → (cv x < 0 ↔ h < p)) :
  m_slices_BinarySearchFunc_api_Cue_int dyn [sl 11 cCue l, .int .i64 k, .fn fn []] σ = some (.tup [.int .i64 (p : Int), .bool ((l[p]?).any fun x => decide (cv x = 0))], σ) := by
 refine wrap_eq rfl ?_ rfl
 show r_slices_BinarySearchFunc_api_Cue_int dyn (sl 11 cCue l) (.int .i64 k) (.fn fn []) σ = _
 unfold r_slices_BinarySearchFunc_api_Cue_int
 rw [lenS_sl, Option.bind_some]
 rw [bs_loop (v0 := [.int .i64 0, .int .i64 (l.length : Int)]) (fun i j => [.int .i64 (i : Int), .int .i64 (j : Int)]) hp rfl ?_ ?_, Option.bind_some]
 ·simp only [exb, List.getD_cons_succ, List.getD_cons_zero]
  rw [tlss, Option.bind_some]
  by_cases hpl : p < l.length
  ·have hx : l[p]? = some l[p] := List.getElem?_eq_getElem hpl
   have hdx := hd _ (List.mem_of_getElem? hx)
   have hia := iaddr_sl 11 cCue l hx
   have hq := quiet_of (by show A.callv dyn (.fn fn []) [.agg (cCue l[p]), .int .i64 k] σ = _; simp only [A.callv, List.append_nil]; exact hdx)
   simp only [decide_eq_true hpl, A.guard, beq_self_eq_true, cond_true, Option.bind_some, List.getD_cons_succ, List.getD_cons_zero, hia, A.deref, pA_cCue, A.lb, A.part1, A.partA, A.pick, hx, Option.any_some]
   show ((A.quiet (A.callv dyn (.fn fn []) [.agg (cCue l[p]), .int .i64 k] σ) σ).bind _) = _
   rw [hq, Option.bind_some, aEq]
   exact fin_same _ _
  ·have hx : l[p]? = none := List.getElem?_eq_none (by omega)
   simp only [decide_eq_false hpl, A.guard, Option.bind_some, A.pick, hx, Option.any_none]
   exact fin_same _ _
 ·intro i j hij hj
  have hlt : (i + j) / 2 < l.length := by omega
  have hx : l[(i + j) / 2]? = some l[(i + j) / 2] := List.getElem?_eq_getElem hlt
  have hdx := hd _ (List.mem_of_getElem? hx)
  have hia := iaddr_sl 11 cCue l hx
  have hq : A.callv dyn (.fn fn []) [.agg (cCue l[(i + j) / 2]), .int .i64 k] σ = some (.int .i64 (cv l[(i + j) / 2]), σ) := by simp only [A.callv, List.append_nil]; exact hdx
  simp only [List.getD_cons_succ, List.getD_cons_zero]
  rw [tlss, Option.bind_some, decide_eq_true hij]
  simp only [A.cond, cond_true]
  rw [tadd (by omega), Option.bind_some, conv_u (by omega), Option.bind_some, half_nn (by omega), Option.bind_some, conv_i (by omega), Option.bind_some, hia, Option.bind_some]
  simp only [A.deref, Option.bind_some, pA_cCue, A.lb]
  rw [hq, Option.bind_some, tlss0, Option.bind_some]
  by_cases hh : (i + j) / 2 < p
  ·have := (hc _ _ hx).2 hh
   rw [decide_eq_true this, if_pos hh]
   simp only [cond_true, tadd1 (show (i + j) / 2 + 1 < 9223372036854775808 by omega), Option.bind_some]
   rfl
  ·have : ¬ (cv l[(i + j) / 2] < 0) := fun e => hh ((hc _ _ hx).1 e)
   rw [decide_eq_false this, if_neg hh]
   rfl
 ·intro i hi
  simp only [List.getD_cons_succ, List.getD_cons_zero]
  rw [tlss, Option.bind_some, decide_eq_false (Nat.lt_irrefl i)]
  rfl
end Go.Proofs.YtphgchakmkankaaGreat

namespace Go.Proofs.YtphgchakmkankaaGreat
set_option linter.unusedSectionVars false
set_option linter.unusedVariables false
set_option linter.unusedSimpArgs false
section
variable {α γ R S B : Type}
theorem forE_idx {p : α → Bool} {l : List α} {body : Nat → α → Unit → Option (Lr Unit Unit Int)} {fin : Unit → Option Unit} {s : Unit} {K1 : Unit → Option γ} {K2 : Int → Option γ} (hl : l.length ≤ mxl) (hb : ∀ i x, l[i]? = some x → body i x () = some (if p x = true then .ret (i : Int) else .go ())) (hf : fin () = some () := by rfl) : forE l body fin s K1 K2 = if idxI p l = -1 then K1 () else K2 (idxI p l) := by
 rw [forE_le hl]
 have key : ∀ (rest pre : List α), l = pre ++ rest → (∀ x ∈ pre, p x = false) → forL body fin rest pre.length () = some (if idxI p l = -1 then .inl () else .inr (idxI p l)) := by
  intro rest
  induction rest with
  | nil =>
   intro pre hp hn
   rw [List.append_nil] at hp
   rcases idxI_cases p l with ⟨h1, _⟩ | ⟨k, x, h1, h2, _⟩
   ·simp [forL, hf, h1]
   ·have := hn x (by rw [← hp]; exact List.mem_of_getElem? h1); rw [h2] at this; cases this
  | cons x rest ih =>
   intro pre hp hn
   have hx : l[pre.length]? = some x := by rw [hp]; simp
   rw [forL, hb pre.length x hx, Option.bind_some]
   cases h : p x
   ·simp only [Bool.false_eq_true, if_false]
    have := ih (pre ++ [x]) (by simpa using hp) (fun y hy => by
     rcases List.mem_append.1 hy with hy | hy
     ·exact hn y hy
     ·simp at hy; subst hy; exact h)
    simpa using this
   ·simp only [if_true]
    have e : idxI p l = pre.length := by
     rcases idxI_cases p l with ⟨h1, h2, _⟩ | ⟨k, y, h1, h2, h3, _, h5⟩
     ·have := h2 x (List.mem_of_getElem? hx); rw [h] at this; cases this
     ·rw [h3]
      rcases Nat.lt_trichotomy k pre.length with hk | hk | hk
      ·rw [hp, List.getElem?_append_left hk] at h1
       have := hn y (List.mem_of_getElem? h1); rw [h2] at this; cases this
      ·omega
      ·have := h5 pre.length x hk hx; rw [h] at this; cases this
    rw [if_neg (by omega), e]
 have k := key l [] rfl (by simp)
 rw [List.length_nil] at k
 rw [show s = () from rfl, k, Option.bind_some]
 split <;> rfl
end
theorem At_t (l : List CueD) (hl : l.length ≤ mxl) (n : Int) : t_R5_At l n = some (idxI (fun c => decide (c.number = n)) l) := by
 unfold t_R5_At
 rw [forE_idx (p := fun c => decide (c.number = n)) hl (by intro i x _; simp only [decide_eq_true_eq, ite_pure])]
 split
 ·rename_i h; rw [h]
 ·rfl
end Go.Proofs.YtphgchakmkankaaGreat

namespace Go.Proofs.YtphgchakmkankaaGreat
set_option linter.unusedSectionVars false
set_option linter.unusedVariables false
set_option linter.unusedSimpArgs false
def srtM (l : List MoveD) : Prop := l.Pairwise fun a b => ltK a.key b.key = true
structure Good (l : List CueD) : Prop where
 len : l.length ≤ 300
 num : ∀ c ∈ l, 1 ≤ c.number ∧ c.number ≤ 9999999
 srt : l.Pairwise fun a b => a.number < b.number
 mv : ∀ c ∈ l, c.moves.length ≤ 2000 ∧ srtM c.moves
 pts : ∀ c ∈ l, c.curve.points.length ≤ 20
theorem srt_of_step {α : Type} [Inhabited α] {r : α → α → Prop} (tr : ∀ a b c, r a b → r b c → r a c) : ∀ (l : List α), (∀ i x, l[i + 1]? = some x → r (l[i]?.getD default) x) → l.Pairwise r
 | [], _ => List.Pairwise.nil
 | [a], _ => by simp
 | a :: b :: l, h => by
  have ih := srt_of_step tr (b :: l) (fun i x hx => h (i + 1) x hx)
  have hab : r a b := h 0 b rfl
  refine List.pairwise_cons.2 ⟨fun x hx => ?_, ih⟩
  rcases List.mem_cons.1 hx with rfl | hx
  ·exact hab
  ·exact tr _ _ _ hab ((List.pairwise_cons.1 ih).1 x hx)
end Go.Proofs.YtphgchakmkankaaGreat

namespace Go.Proofs.YtphgchakmkankaaGreat
set_option linter.unusedSectionVars false
set_option linter.unusedVariables false
set_option linter.unusedSimpArgs false
theorem pv_succ {α : Type} [Inhabited α] (l : List α) (i : Nat) : pv l (i + 1) = l[i]?.getD default := by
 simp [pv, List.getD_eq_getElem?_getD]
theorem good_moves {l : List MoveD} (h : movesF l = 0) : srtM l := by
 unfold movesF at h
 refine srt_of_step (r := fun a b : MoveD => ltK a.key b.key = true) (fun a b c => ltK_trans) l fun i x hx => ?_
 have := (chkE_zero l 0).1 h (i + 1) x hx
 rw [Nat.zero_add] at this
 unfold moveF at this
 rw [← pv_succ]
 by_cases hq : ltK (pv l (i + 1)).key x.key = true
 ·exact hq
 ·exfalso
  have e : (decide (0 < ((i + 1 : Nat) : Int)) && !ltK (pv l (i + 1)).key x.key) = true := by
   rw [Bool.and_eq_true]; exact ⟨decide_eq_true (by omega), by simpa using hq⟩
  rw [e] at this
  repeat (first | (split at this; · cases this) | (simp at this; done) | (rename_i q; exact q rfl))
theorem good_of {l : List CueD} (h : formF l = 0) : Good l := by
 unfold formF at h
 by_cases h1 : 300 < (l.length : Int)
 ·simp [h1] at h
 rw [if_neg h1] at h
 by_cases h2 : chkE (cueF l) l 0 = 0
 case neg => rw [if_pos h2] at h; exact absurd h h2
 have hc : ∀ i x, l[i]? = some x → (1 ≤ x.number ∧ x.number ≤ 9999999) ∧ (0 < i → (pv l i).number < x.number) ∧ x.moves.length ≤ 2000 ∧ movesF x.moves = 0 ∧ x.curve.points.length ≤ 20 := by
  intro i x hx
  have := (chkE_zero l 0).1 h2 i x hx
  rw [Nat.zero_add] at this
  unfold cueF at this
  split at this
  ·cases this
  rename_i a1
  split at this
  ·cases this
  rename_i a2
  split at this
  ·cases this
  split at this
  ·cases this
  split at this
  ·rename_i a5; exact absurd this a5
  rename_i a5
  split at this
  ·cases this
  rename_i a6
  have hpt : x.curve.points.length ≤ 20 := by
   have a5 : curveF x.curve = 0 := by simpa using a5
   unfold curveF at a5
   split at a5
   ·cases a5
   split at a5
   ·split at a5
    ·cases a5
    split at a5
    ·cases a5
    omega
   ·split at a5
    ·cases a5
    omega
  refine ⟨by simpa [withinB] using a1, fun hi => ?_, by omega, this, hpt⟩
  have hi' : decide (0 < (i : Int)) = true := decide_eq_true (by omega)
  rw [hi', Bool.true_and, decide_eq_true_eq] at a2
  omega
 refine ⟨by omega, fun c hc' => ?_, ?_, fun c hc' => ?_, fun c hc' => ?_⟩
 ·obtain ⟨i, hi⟩ := List.mem_iff_getElem?.1 hc'
  exact (hc i c hi).1
 ·refine srt_of_step (r := fun a b : CueD => a.number < b.number) (fun a b c => Int.lt_trans) l fun i x hx => ?_
  rw [← pv_succ]
  exact (hc (i + 1) x hx).2.1 (by omega)
 ·obtain ⟨i, hi⟩ := List.mem_iff_getElem?.1 hc'
  exact ⟨(hc i c hi).2.2.1, good_moves (hc i c hi).2.2.2.1⟩
 ·obtain ⟨i, hi⟩ := List.mem_iff_getElem?.1 hc'
  exact (hc i c hi).2.2.2.2
def posC (l : List CueD) (n : Int) : Nat := (l.takeWhile fun c => decide (c.number < n)).length
def hasC (l : List CueD) (n : Int) : Bool := l.any fun c => decide (c.number = n)
theorem posC_le (l : List CueD) (n : Int) : posC l n ≤ l.length := (List.takeWhile_prefix _).length_le
theorem posC_lt {l : List CueD} {n : Int} (h : l.Pairwise fun a b => a.number < b.number) : ∀ {i : Nat} {x : CueD}, l[i]? = some x → (x.number < n ↔ i < posC l n) := by
 induction l with
 | nil => intro i x hx; simp at hx
 | cons a l ih =>
  intro i x hx
  have hs := List.pairwise_cons.1 h
  unfold posC
  rw [List.takeWhile_cons]
  by_cases ha : a.number < n
  ·rw [decide_eq_true ha]
   simp only [if_true, List.length_cons]
   cases i with
   | zero => simp at hx; subst hx; simp [ha]
   | succ i =>
    simp only [List.getElem?_cons_succ] at hx
    rw [ih hs.2 hx]
    unfold posC
    omega
  ·rw [decide_eq_false ha]
   simp only [Bool.false_eq_true, if_false, List.length_nil, Nat.not_lt_zero, iff_false]
   cases i with
   | zero => simp at hx; subst hx; exact ha
   | succ i =>
    simp only [List.getElem?_cons_succ] at hx
    have := hs.1 x (List.mem_of_getElem? hx)
    omega
theorem posC_at {l : List CueD} {n : Int} (h : l.Pairwise fun a b => a.number < b.number) {i : Nat} {x : CueD} (hx : l[i]? = some x) (hn : x.number = n) : posC l n = i := by
 have h1 : ¬ i < posC l n := fun q => by have := (posC_lt h hx).2 q; omega
 have h2 : ¬ posC l n < i := fun q => by
  have hp : posC l n < l.length := Nat.lt_trans q (List.getElem?_eq_some_iff.1 hx).1
  have hy : l[posC l n]? = some l[posC l n] := List.getElem?_eq_getElem hp
  have h3 : ¬ l[posC l n].number < n := fun q' => Nat.lt_irrefl _ ((posC_lt h hy).1 q')
  have h4 := List.pairwise_iff_getElem.1 h (posC l n) i hp (List.getElem?_eq_some_iff.1 hx).1 q
  rw [(List.getElem?_eq_some_iff.1 hx).2, hn] at h4
  exact h3 h4
 omega
theorem posC_has {l : List CueD} {n : Int} (h : l.Pairwise fun a b => a.number < b.number) : ((l[posC l n]?).any fun x => decide (x.number = n)) = hasC l n := by
 rw [Bool.eq_iff_iff]
 constructor
 ·intro e
  cases hx : l[posC l n]? with
  | none => rw [hx] at e; cases e
  | some x => rw [hx] at e; exact List.any_eq_true.2 ⟨x, List.mem_of_getElem? hx, e⟩
 ·intro e
  obtain ⟨x, hm, hk⟩ := List.any_eq_true.1 e
  have hk := of_decide_eq_true hk
  obtain ⟨i, hi⟩ := List.mem_iff_getElem?.1 hm
  rw [posC_at h hi hk, hi]; simp [hk]
theorem bs_some {f : List AV → Heap → Option (AX × List AV × Heap)} {σ : Heap} (pv : Nat → Nat → List AV) {v0 : List AV} {n : Nat} (h0 : v0 = pv 0 n) (q : Nat → Bool)
  (hs : ∀ i j, i < j → j ≤ n → f (pv i j) σ = some (.normal, if q ((i + j) / 2) = true then pv ((i + j) / 2 + 1) j else pv i ((i + j) / 2), σ))
  (he : ∀ i, i ≤ n → f (pv i i) σ = some (.exit 0, pv i i, σ)) : ∃ p, p ≤ n ∧ A.loop f v0 σ = some (.exit 0, pv p p, σ) := by
 subst h0
 have key : ∀ k i j, j - i ≤ k → i ≤ j → j ≤ n → ∃ p, p ≤ n ∧ ∃ m, A.iter f m (pv i j) σ = some (.exit 0, pv p p, σ) := by
  intro k
  induction k with
  | zero =>
   intro i j hk h1 h3
   have : i = j := by omega
   subst i
   exact ⟨j, h3, loop_done (he j h3) (by simp)⟩
  | succ k ih =>
   intro i j hk h1 h3
   by_cases hij : i < j
   ·have hstep := hs i j hij h3
    by_cases hh : q ((i + j) / 2) = true
    ·rw [if_pos hh] at hstep
     obtain ⟨p, hp, hm⟩ := ih _ _ (by omega) (show (i + j) / 2 + 1 ≤ j by omega) h3
     exact ⟨p, hp, loop_step hstep hm⟩
    ·rw [if_neg hh] at hstep
     obtain ⟨p, hp, hm⟩ := ih i ((i + j) / 2) (by omega) (by omega) (by omega)
     exact ⟨p, hp, loop_step hstep hm⟩
   ·have : i = j := by omega
    subst i
    exact ⟨j, h3, loop_done (he j h3) (by simp)⟩
 obtain ⟨p, hp, m, hm⟩ := key n 0 n (by omega) (by omega) (Nat.le_refl _)
 exact ⟨p, hp, loop_of_iter hm⟩
theorem bs_bind {β : Type} {f : List AV → Heap → Option (AX × List AV × Heap)} {σ : Heap} {K : AX × List AV × Heap → Option β} {r : Nat → β} (pv : Nat → Nat → List AV) {v0 : List AV} {n : Nat} (h0 : v0 = pv 0 n) (q : Nat → Bool)
  (hs : ∀ i j, i < j → j ≤ n → f (pv i j) σ = some (.normal, if q ((i + j) / 2) = true then pv ((i + j) / 2 + 1) j else pv i ((i + j) / 2), σ))
  (he : ∀ i, i ≤ n → f (pv i i) σ = some (.exit 0, pv i i, σ)) (hK : ∀ p, p ≤ n → K (.exit 0, pv p p, σ) = some (r p)) : ∃ p, p ≤ n ∧ (A.loop f v0 σ).bind K = some (r p) := by
 obtain ⟨p, hp, h⟩ := bs_some pv h0 q hs he
 exact ⟨p, hp, by rw [h, Option.bind_some, hK p hp]⟩
theorem bsC_no {dyn : Nat → List AV → Heap → Option (AV × Heap)} {l : List CueD} {fn : Nat} {k : Int} {cv : CueD → Int} {σ : Heap} (hl : l.length < 4611686018427387904)
  (hd : ∀ x ∈ l, dyn fn [.agg (cCue x), .int .i64 k] σ = some (.int .i64 (cv x), σ)) (hc : ∀ x ∈ l, cv x ≠ 0) :
  ∃ p : Nat, p ≤ l.length ∧ m_slices_BinarySearchFunc_api_Cue_int dyn [sl 11 cCue l, .int .i64 k, .fn fn []] σ = some (.tup [.int .i64 (p : Int), .bool false], σ) := by
 suffices h : ∃ p : Nat, p ≤ l.length ∧ r_slices_BinarySearchFunc_api_Cue_int dyn (sl 11 cCue l) (.int .i64 k) (.fn fn []) σ = some (.tup [.int .i64 (p : Int), .bool false], σ) by
  obtain ⟨p, hp, h⟩ := h
  exact ⟨p, hp, wrap_eq rfl h rfl⟩
 unfold r_slices_BinarySearchFunc_api_Cue_int
 rw [lenS_sl, Option.bind_some]
 refine bs_bind (v0 := [.int .i64 0, .int .i64 (l.length : Int)]) (r := fun p => ((AV.tup [.int .i64 (p : Int), .bool false], σ) : AV × Heap)) (fun i j => [.int .i64 (i : Int), .int .i64 (j : Int)]) rfl (fun h => ((l[h]?).any fun x => decide (cv x < 0))) (fun i j hij hj => ?_) (fun i hi => ?_) (fun p hp => ?_)
 ·have hlt : (i + j) / 2 < l.length := by omega
  have hx : l[(i + j) / 2]? = some l[(i + j) / 2] := List.getElem?_eq_getElem hlt
  have hdx := hd _ (List.mem_of_getElem? hx)
  have hia := iaddr_sl 11 cCue l hx
  have hq : A.callv dyn (.fn fn []) [.agg (cCue l[(i + j) / 2]), .int .i64 k] σ = some (.int .i64 (cv l[(i + j) / 2]), σ) := by simp only [A.callv, List.append_nil]; exact hdx
  simp only [List.getD_cons_succ, List.getD_cons_zero]
  rw [tlss, Option.bind_some, decide_eq_true hij]
  simp only [A.cond, cond_true]
  rw [tadd (by omega), Option.bind_some, conv_u (by omega), Option.bind_some, half_nn (by omega), Option.bind_some, conv_i (by omega), Option.bind_some, hia, Option.bind_some]
  simp only [A.deref, Option.bind_some, pA_cCue, A.lb]
  rw [hq, Option.bind_some, tlss0, Option.bind_some]
  simp only [hx, Option.any_some]
  by_cases hh : cv l[(i + j) / 2] < 0
  ·rw [decide_eq_true hh]
   simp only [cond_true, if_true, tadd1 (show (i + j) / 2 + 1 < 9223372036854775808 by omega), Option.bind_some]
   rfl
  ·rw [decide_eq_false hh]
   rfl
 ·simp only [List.getD_cons_succ, List.getD_cons_zero]
  rw [tlss, Option.bind_some, decide_eq_false (Nat.lt_irrefl i)]
  rfl
 ·simp only [exb, List.getD_cons_succ, List.getD_cons_zero]
  rw [tlss, Option.bind_some]
  by_cases hpl : p < l.length
  ·have hx : l[p]? = some l[p] := List.getElem?_eq_getElem hpl
   have hdx := hd _ (List.mem_of_getElem? hx)
   have hne := hc _ (List.mem_of_getElem? hx)
   have hia := iaddr_sl 11 cCue l hx
   have hq := quiet_of (by show A.callv dyn (.fn fn []) [.agg (cCue l[p]), .int .i64 k] σ = _; simp only [A.callv, List.append_nil]; exact hdx)
   simp only [decide_eq_true hpl, A.guard, beq_self_eq_true, cond_true, Option.bind_some, List.getD_cons_succ, List.getD_cons_zero, hia, A.deref, pA_cCue, A.lb, A.part1, A.partA, A.pick]
   show ((A.quiet (A.callv dyn (.fn fn []) [.agg (cCue l[p]), .int .i64 k] σ) σ).bind _) = _
   rw [hq, Option.bind_some, aEq, decide_eq_false hne]
   exact fin_same _ _
  ·simp only [decide_eq_false hpl, A.guard, Option.bind_some, A.pick]
   exact fin_same _ _
theorem place_t {l : List CueD} (hg : Good l) {n : Int} (hn : inI n) (σ : Heap) : ∃ p : Nat, m_cue_place [sl 11 cCue l, .int .i64 n] σ = some (.tup [.int .i64 (p : Int), .bool (hasC l n)], σ) ∧ p ≤ l.length ∧ ((1 ≤ n ∨ hasC l n = true) → p = posC l n) := by
 have hlen : l.length < 4611686018427387904 := by have := hg.len; omega
 have hd : ∀ x ∈ l, A.tab (fun _ _ => none) [(177, m_cue_place_fn1)] 177 [.agg (cCue x), .int .i64 n] σ = some (.int .i64 (IntKind.i64.wrap (x.number - n)), σ) := fun x _ => h_cue_place_fn1 (r := IntKind.i64.wrap (x.number - n)) rfl
 have wr : ∀ {p : Nat} {b : Bool}, m_slices_BinarySearchFunc_api_Cue_int (A.tab (fun _ _ => none) [(177, m_cue_place_fn1)]) [sl 11 cCue l, .int .i64 n, .fn 177 []] σ = some (.tup [.int .i64 (p : Int), .bool b], σ) →
   m_cue_place [sl 11 cCue l, .int .i64 n] σ = some (.tup [.int .i64 (p : Int), .bool b], σ) := by
  intro p b h
  refine wrap_eq rfl ?_ rfl
  rw [show A.nnL [Sh.e 11 [.k, .k, .k, .k, .k, .k, .k, .s 2, .k, .k, .s 8]] [sl 11 cCue l, .int .i64 n] = [sl 11 cCue l, .int .i64 n] from nn_t1 (nn_e (fun _ => rfl) _) rfl]
  show r_cue_place (sl 11 cCue l) (.int .i64 n) σ = _
  unfold r_cue_place
  rw [h, Option.bind_some]
  exact fin_same _ _
 by_cases hlow : -4611686018427387904 ≤ n
 ·refine ⟨posC l n, wr ?_, posC_le _ _, fun _ => rfl⟩
  have hw : ∀ x ∈ l, IntKind.i64.wrap (x.number - n) = x.number - n := fun x hx => by
   have := hg.num x hx
   unfold inI at hn
   exact wrap64 (by unfold inI; omega)
  rw [bsC (cv := fun x => IntKind.i64.wrap (x.number - n)) (p := posC l n) hlen (posC_le _ _) hd ?_]
  ·rw [← posC_has hg.srt]
   congr 4
   cases hx : l[posC l n]? with
   | none => rfl
   | some x =>
    simp only [Option.any_some]
    rw [hw x (List.mem_of_getElem? hx), show decide (x.number - n = 0) = decide (x.number = n) from decide_eq_decide.2 (by omega)]
  ·intro h x hx
   rw [hw x (List.mem_of_getElem? hx), ← posC_lt hg.srt hx]
   omega
 ·have hno : hasC l n = false := by
   rw [Bool.eq_false_iff]
   intro e
   obtain ⟨x, hx, hk⟩ := List.any_eq_true.1 e
   have := hg.num x hx
   have := of_decide_eq_true hk
   omega
  obtain ⟨p, hp, h⟩ := bsC_no hlen hd (fun x hx e => by
   have hnum := hg.num x hx
   unfold inI at hn
   have h2 : IntKind.i64.wrap (x.number - n) = x.number - n ∨ IntKind.i64.wrap (x.number - n) = x.number - n - 18446744073709551616 := by
    by_cases hh : x.number - n < 9223372036854775808
    ·exact .inl (wrap64 (by unfold inI; omega))
    ·right
     unfold IntKind.wrap
     simp [IntKind.bits, IntKind.signed]
     omega
   rcases h2 with h2 | h2 <;> rw [h2] at e <;> omega)
  exact ⟨p, by rw [hno]; exact wr h, hp, fun q => by
   rcases q with q | q
   ·omega
   ·rw [hno] at q; cases q⟩
section
variable {α R γ S B : Type}
theorem whE_while {l : List α} {pr : α → Bool} {body : Int → Option (Lr Int Int R)} {K1 : Int → Option γ} {K2 : R → Option γ} (hb : ∀ (i : Nat) x, l[i]? = some x → body (i : Int) = some (if pr x = true then .go ((i + 1 : Nat) : Int) else .brk (i : Int)))
  (he : body (l.length : Int) = some (.brk (l.length : Int))) {s : Int} (h0 : s = 0) : whE body s K1 K2 = K1 ((l.takeWhile pr).length : Int) := by
 subst h0
 have key : ∀ (k i : Nat), l.length - i ≤ k → i ≤ l.length → whL body (i : Int) = some (.inl ((i + ((l.drop i).takeWhile pr).length : Nat) : Int)) := by
  intro k
  induction k with
  | zero =>
   intro i hk hle
   have : i = l.length := by omega
   subst this
   rw [whL_step, he, Option.bind_some, List.drop_of_length_le (Nat.le_refl _)]
   rfl
  | succ k ih =>
   intro i hk hle
   by_cases hi : i < l.length
   ·have hx : l[i]? = some l[i] := List.getElem?_eq_getElem hi
    rw [whL_step, hb i _ hx, Option.bind_some, List.drop_eq_getElem_cons hi, List.takeWhile_cons]
    cases h : pr l[i]
    ·simp
    ·simp only [if_true, List.length_cons]
     rw [ih (i + 1) (by omega) (by omega)]
     congr 3; omega
   ·have : i = l.length := by omega
    subst this
    rw [whL_step, he, Option.bind_some, List.drop_of_length_le (Nat.le_refl _)]
    rfl
 have k := key l.length 0 (by omega) (by omega)
 simp only [Nat.zero_add, List.drop_zero] at k
 show whE body ((0 : Nat) : Int) K1 K2 = _
 rw [whE, k]; rfl
theorem tIx_nat {l : List α} {i : Nat} {x : α} (h : l[i]? = some x) : tIx l (i : Int) = some x := tIx_get (by omega) (by simpa using h)
end
end Go.Proofs.YtphgchakmkankaaGreat

namespace Go.Proofs.YtphgchakmkankaaGreat
set_option linter.unusedSectionVars false
set_option linter.unusedVariables false
set_option linter.unusedSimpArgs false
open HP
def Lt (σ : Heap) (sh : Sh) (v t : AV) : Prop := (∃ v', A.frz σ 0 8 v = some v' ∧ A.own v' = false ∧ A.nn sh v' = A.nn sh t) ∧ A.own t = false ∧ (A.own v = false → A.nn sh v = A.nn sh t)
def LtL (σ : Heap) : List Sh → List AV → List AV → Prop
 | _, [], [] => True
 | [], a :: aas, t :: ts => Lt σ .k a t ∧ LtL σ [] aas ts
 | s :: ss, a :: aas, t :: ts => Lt σ s a t ∧ LtL σ ss aas ts
 | _, _, _ => False
theorem nn_k (v : AV) : A.nn .k v = v := by simp [A.nn]
theorem ltL {σ : Heap} : ∀ {ss : List Sh} {aas ts : List AV}, LtL σ ss aas ts → (∃ aas', A.frzL σ 0 8 aas = some aas' ∧ aas'.any A.own = false ∧ A.nnL ss aas' = A.nnL ss ts) ∧ ts.any A.own = false ∧ (aas.any A.own = false → A.nnL ss aas = A.nnL ss ts)
 | ss, [], [], _ => ⟨⟨[], by simp [A.frzL], rfl, rfl⟩, rfl, fun _ => rfl⟩
 | [], a :: aas, t :: ts, h => by
  obtain ⟨⟨⟨v', h1, h2, h3⟩, h4, h5⟩, h6⟩ := h
  obtain ⟨⟨aas', k1, k2, k3⟩, k4, k5⟩ := ltL h6
  rw [nn_k, nn_k] at h3
  simp only [A.nnL] at k3 k5
  refine ⟨⟨v' :: aas', by simp [A.frzL, h1, k1], by simp [h2, k2], by simp [A.nnL, h3, k3]⟩, by simp [h4, k4], fun h => ?_⟩
  simp only [List.any_cons, Bool.or_eq_false_iff] at h
  have := h5 h.1
  rw [nn_k, nn_k] at this
  simp [A.nnL, this, k5 h.2]
 | s :: ss, a :: aas, t :: ts, h => by
  obtain ⟨⟨⟨v', h1, h2, h3⟩, h4, h5⟩, h6⟩ := h
  obtain ⟨⟨aas', k1, k2, k3⟩, k4, k5⟩ := ltL h6
  refine ⟨⟨v' :: aas', by simp [A.frzL, h1, k1], by simp [h2, k2], by simp [A.nnL, h3, k3]⟩, by simp [h4, k4], fun h => ?_⟩
  simp only [List.any_cons, Bool.or_eq_false_iff] at h
  simp [A.nnL, h5 h.1, k5 h.2]
 | _, [], _ :: _, h => by cases h
 | [], _ :: _, [], h => by cases h
 | _ :: _, _ :: _, [], h => by cases h
theorem lent {ain : List Sh} {rout : Sh} {r : List AV → Heap → Option (AV × Heap)} {aas ts : List AV} {σ : Heap} {v : AV} (h : LtL σ ain aas ts) (e : ∀ σ, A.wrap true ain rout r ts σ = some (v, σ)) (hs : A.scal v = true) : A.wrap true ain rout r aas σ = some (v, σ) := by
 obtain ⟨⟨aas', k1, k2, k3⟩, k4, k5⟩ := ltL h
 cases ho : aas.any A.own
 ·rw [wrap_nn (k5 ho) ho k4]; exact e σ
 ·exact wrap_own ho k1 k2 (by rw [wrap_nn k3 k2 k4]; exact e []) hs
theorem lt_fz {σ : Heap} {sh : Sh} {v : AV} (h : Fz v) (ho : A.own v = false) : Lt σ sh v v := ⟨⟨v, h σ 0 8, ho, rfl⟩, ho, fun _ => rfl⟩
theorem lt_int {σ : Heap} (n : Int) : Lt σ .k (.int .i64 n) (.int .i64 n) := lt_fz (fz_int _ _) rfl
section
variable {α : Type} {c : α → List AV} {sz : Nat} {B : Blk → Prop} {σ0 σ : Heap} {R : HP} {v : AV} {l : List α}
theorem slf_cases (H : Hs B σ0 σ (Sl (fl c) sz v l * R)) : (l = [] ∧ (v = .nsl ∨ v = .ez) ∧ Hs B σ0 σ R) ∨ ∃ id g, v = .os id g sz 0 l.length ∧ Hs B σ0 σ (blk id (.arr g sz (l.map c)) * R) := by
 rcases sl_cases H with h | ⟨id, g, seg, rfl, hl, H⟩
 ·exact .inl h
 ·have K := els_fl.1 (hs_eq (show _ = els (fl c) seg l * (blk id (.arr g sz seg) * R) by ac_rfl) H)
  obtain ⟨rfl, K⟩ := K
  exact .inr ⟨id, g, rfl, K⟩
theorem slf_os {id g : Nat} {n : Nat} (H : Hs B σ0 σ (blk id (.arr g sz (l.map c)) * R)) (hn : n = l.length := by rfl) : Hs B σ0 σ (Sl (fl c) sz (.os id g sz 0 n) l * R) :=
 sl_os (id := id) (g := g) (seg := l.map c) (hs_eq (show els (fl c) (l.map c) l * (blk id (.arr g sz (l.map c)) * R) = _ by ac_rfl) (els_fl.2 ⟨rfl, H⟩)) hn
theorem frz_os (hc : ∀ x, FzL (c x)) {id g : Nat} (h : σ[id]? = some (.arr g sz (l.map c))) {n : Nat} (hn : ¬ id < n) (d : Nat) : A.frz σ n (d + 1) (.os id g sz 0 l.length) = some (sl sz c l) := by
 simp only [A.frz, if_neg hn, h]
 rw [if_pos (by simp), List.drop_zero, List.take_of_length_le (by simp), frzLL_eq, fzLL hc]
 rfl
theorem slf_fz (H : Hs B σ0 σ (Sl (fl c) sz v l * R)) (hc : ∀ x, FzL (c x)) {n : Nat} (hn : n ≤ σ0.length) (d : Nat) : ∃ v', A.frz σ n (d + 1) v = some v' ∧ A.own1 v' = false ∧ A.nn (.s sz) v' = sl sz c l := by
 rcases slf_cases H with ⟨rfl, rfl | rfl, _⟩ | ⟨id, g, rfl, K⟩
 ·exact ⟨.nsl, by simp [A.frz], rfl, rfl⟩
 ·exact ⟨.ez, by simp [A.frz], rfl, rfl⟩
 ·obtain ⟨h1, h2⟩ := hs_get K
  exact ⟨_, frz_os hc h2 (by omega) d, rfl, rfl⟩
structure Cl (p : AV) (F : List AV → HP) : Prop where
 nc : A.nilck p = some p
 ow : A.own p = true
 ld : ∀ {σ0 σ : Heap} {e : List AV} {R : HP}, Hs anyB σ0 σ (F e * R) → A.deref p σ = some e
 fa : ∀ (o : Nat), ∃ q, A.faddr o p = some q ∧ (∀ {σ0 σ : Heap} {e : List AV} {R : HP}, Hs anyB σ0 σ (F e * R) → A.deref q σ = some (e.drop o)) ∧
  ∀ {σ0 σ : Heap} {e : List AV} {R : HP} {new e' : List AV}, Hs anyB σ0 σ (F e * R) → A.splice o new e = some e' → ∃ σ', A.storeAt q new σ = some σ' ∧ Hs anyB σ0 σ' (F e' * R)
 st : ∀ {σ0 σ : Heap} {e : List AV} {R : HP} {new e' : List AV}, Hs anyB σ0 σ (F e * R) → A.splice 0 new e = some e' → ∃ σ', A.storeAt p new σ = some σ' ∧ Hs anyB σ0 σ' (F e' * R)
 fc : ∀ (o o' : Nat) (q : AV), A.faddr o p = some q → A.faddr o' q = A.faddr (o + o') p
theorem hs_any {P : HP} (H : Hs B σ0 σ P) : Hs anyB σ0 σ P := ⟨by obtain ⟨bs, h, _⟩ := H.pre; exact ⟨bs, h, fun _ _ => trivial⟩, H.own⟩
end
section
variable {α : Type} {E : List AV → α → HP} {sz : Nat} {σ0 σ : Heap} {R : HP} {v : AV} {l : List α}
end
def cCueH (x : CueD) (vp vm : AV) : List AV := [.int .i64 x.number, .str x.title, .int .i64 x.delay, .int .i64 x.up, .int .i64 x.down, .int .i64 x.other, .int .i64 x.curve.kind, vp, .bool x.block, .int .i64 x.follow, vm]
def shCue : List Sh := [.k, .k, .k, .k, .k, .k, .k, .s 2, .k, .k, .s 8]
section
variable {B : Blk → Prop} {σ0 σ : Heap} {R : HP} {M : AV → List MoveD → HP} {e : List AV} {x : CueD}
variable {v : AV} {l : List CueD}
theorem nn_idem_cues (l : List CueD) : A.nn (.e 11 shCue) (sl 11 cCue l) = sl 11 cCue l := nn_e (fun _ => rfl) l
end
end Go.Proofs.YtphgchakmkankaaGreat

namespace Go.Proofs.YtphgchakmkankaaGreat
set_option linter.unusedSectionVars false
set_option linter.unusedVariables false
set_option linter.unusedSimpArgs false
open HP
theorem loop_hs {α : Type} {f : List AV → Heap → Option LS} {Q : LS → Prop} (l : List α) (I : Nat → List AV → Heap → Prop) {v0 : List AV} {σ : Heap}
  (hstep : ∀ i x v σ, l[i]? = some x → I i v σ → ∃ v' σ', f v σ = some (.normal, v', σ') ∧ I (i + 1) v' σ')
  (hend : ∀ v σ, I l.length v σ → ∃ q, f v σ = some q ∧ q.1 ≠ .normal ∧ Q q) (h0 : I 0 v0 σ) : ∃ q, A.loop f v0 σ = some q ∧ Q q := by
 have key : ∀ (k i : Nat) v σ, l.length - i ≤ k → i ≤ l.length → I i v σ → ∃ q, (∃ n, A.iter f n v σ = some q) ∧ Q q := by
  intro k
  induction k with
  | zero =>
   intro i v σ hk hle hI
   have : i = l.length := by omega
   subst this
   obtain ⟨q, h1, h2, h3⟩ := hend v σ hI
   exact ⟨q, loop_done h1 h2, h3⟩
  | succ k ih =>
   intro i v σ hk hle hI
   by_cases hi : i < l.length
   ·obtain ⟨v', σ', h1, h2⟩ := hstep i _ v σ (List.getElem?_eq_getElem hi) hI
    obtain ⟨q, hq, hQ⟩ := ih (i + 1) v' σ' (by omega) (by omega) h2
    exact ⟨q, loop_step h1 hq, hQ⟩
   ·have : i = l.length := by omega
    subst this
    obtain ⟨q, h1, h2, h3⟩ := hend v σ hI
    exact ⟨q, loop_done h1 h2, h3⟩
 obtain ⟨q, ⟨n, hn⟩, hQ⟩ := key _ 0 v0 σ (Nat.le_refl _) (Nat.zero_le _) h0
 exact ⟨q, loop_of_iter hn, hQ⟩
theorem loop_k {β : Type} {f : List AV → Heap → Option LS} {K : LS → Option β} {v0 : List AV} {σ : Heap} {P : β → Prop} {Q : LS → Prop} (h : ∃ q, A.loop f v0 σ = some q ∧ Q q) (k : ∀ q, Q q → ∃ b, K q = some b ∧ P b) : ∃ b, (A.loop f v0 σ).bind K = some b ∧ P b := by
 obtain ⟨q, h1, h2⟩ := h
 obtain ⟨b, h3, h4⟩ := k q h2
 exact ⟨b, by rw [h1]; exact h3, h4⟩
section
variable {α : Type} {c : α → List AV} {sz : Nat} {B : Blk → Prop} {σ0 σ : Heap} {R : HP} {v : AV} {l : List α}
theorem clo_gen {most : Nat} {m r : List AV → Heap → Option (AV × Heap)} {r0 : AV → Heap → Option (AV × Heap)} (hm : m = A.cloneZ (A.wrap true [(.s sz)] .k (A.ar1 r0))) (hr : ∀ a σ, r0 a σ = (A.eqN a .nsl).bind fun x1 => A.cond x1 (some (.nsl, σ)) ((A.append sz most .ez a σ).bind fun r2 => some (r2.1, r2.2)))
  (hl : l.length ≤ most) (hB : ∀ g g' seg, (seg = [] ∨ B (.arr g sz seg)) → B (.arr g' sz (seg ++ l.map c))) (H : Hs B σ0 σ R) : ∃ v σ', m [sl sz c l] σ = some (v, σ') ∧ A.cell v = some v ∧ Hs B σ0 σ' (Sl (fl c) sz v l * R) := by
 subst hm
 cases l with
 | nil => exact ⟨.ez, σ, rfl, rfl, slz H (.inr rfl)⟩
 | cons x l =>
  obtain ⟨v', σ', e1, H2⟩ := sl_app (B := B) (E := fl c) (sz := sz) (v := .ez) (l := []) (ys := (x :: l).map c) (xs := x :: l) (most := most) (slz (els_fl.2 ⟨rfl, H⟩) (.inr rfl)) (by simpa using hl) hB
  have hv : A.cell v' = some v' := by
   rcases slf_cases H2 with ⟨h, _, _⟩ | ⟨id, g, rfl, _⟩
   ·cases h
   ·rfl
  refine ⟨v', σ', ?_, hv, H2⟩
  show A.wrap true [(.s sz)] .k (A.ar1 r0) [sl sz c (x :: l)] σ = _
  refine wrap_eq rfl ?_ rfl
  show r0 (sl sz c (x :: l)) σ = _
  rw [hr, show A.eqN (sl sz c (x :: l)) .nsl = some (.bool false) from rfl, Option.bind_some, cnd_f, show sl sz c (x :: l) = .sl sz ((x :: l).map c) from rfl, e1]
  rfl
end
section
variable {σ0 σ : Heap} {R : HP}
end
end Go.Proofs.YtphgchakmkankaaGreat

namespace Go.Proofs.YtphgchakmkankaaGreat
set_option linter.unusedSectionVars false
set_option linter.unusedVariables false
set_option linter.unusedSimpArgs false
open HP
section
variable {σ0 σ : Heap} {R : HP}
theorem fin_hs {v v' : AV} (H : Hs anyB σ0 σ R) (h : A.frz σ σ0.length 8 v = some v') (hv : σ = σ0 → v' = v) : A.fin σ0 v σ = some (v', σ0) := by
 obtain ⟨⟨bs, rfl, _⟩, _⟩ := H
 by_cases hbs : bs = []
 ·subst hbs
  rw [List.append_nil] at h ⊢
  rw [fin_same, hv (by simp)]
 ·unfold A.fin
  rw [if_neg (by simpa using hbs), if_pos (by simp), h]; rfl
end
end Go.Proofs.YtphgchakmkankaaGreat

namespace Go.Proofs.YtphgchakmkankaaGreat
set_option linter.unusedSectionVars false
set_option linter.unusedVariables false
set_option linter.unusedSimpArgs false
open HP
def Inv (k : Nat) (l : List CueD) : Prop := l.length ≤ 1000 ∧ ∀ c ∈ l, srtM c.moves ∧ c.moves.length ≤ 2000 + k
theorem Inv.mono {k k' : Nat} {l : List CueD} (h : Inv k l) (hk : k ≤ k') : Inv k' l := ⟨h.1, fun c hc => ⟨(h.2 c hc).1, by have := (h.2 c hc).2; omega⟩⟩
theorem Inv.erase {k : Nat} {l : List CueD} (h : Inv k l) (i : Nat) : Inv k (l.eraseIdx i) :=
 ⟨by have := List.length_eraseIdx_le l i; have := h.1; omega, fun c hc => h.2 c (List.mem_of_mem_eraseIdx hc)⟩
section
variable {σ0 σ : Heap} {R : HP}
theorem foldl_take {α β : Type} (f : β → α → β) (b : β) (l : List α) {i : Nat} {x : α} (h : l[i]? = some x) : (l.take (i + 1)).foldl f b = f ((l.take i).foldl f b) x := by
 rw [List.take_add_one, h, Option.toList_some, List.foldl_append]; rfl
end
end Go.Proofs.YtphgchakmkankaaGreat

