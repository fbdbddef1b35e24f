/- Parts of the proof of StampDueMatchesSpec, in order. -/
import Derived.Orders
import Derived.Below
import Derived.WalkKit
import Derived.Laws.StructEq
import Derived.Laws.Append
import Derived.Laws.AppendOwn
import Derived.IntWalk
import Derived.Lib.Bytealg
import Derived.Lib.Strings
import Derived.Test.YtohbeolimnpehaaKStampDueMatchesSpec3
/- Package fixture: rigs. -/
namespace Go.Proofs.Ytohbeolimnpehaa
set_option linter.unusedSectionVars false
set_option linter.unusedVariables false
set_option linter.unusedSimpArgs false
theorem usH_look (σ : Heap) (vs : List Int) (f : Int → Nat → Bool) (v : Int) : A.look .i (.om σ.length) (.int .i64 v) AV.np (usH σ vs f) = some (if v ∈ vs then .op (σ.length + 1 + vs.idxOf v) 0 else .np) := by
 rw [look_at .i rfl (usH_map σ vs _), usE_find]
 by_cases hm : v ∈ vs <;> simp [hm]
theorem fin_usH (σ : Heap) (vs : List Int) (f : Int → Nat → Bool) (n : Int) : A.fin σ (.int .i64 n) (usH σ vs f) = some (.int .i64 n, σ) := fin_int _ _ _ _
theorem CheckRig_eq (r : RigD) (hok : okRig r) (σ : Heap) : m_fixture_CheckRig [.agg (cRig r)] σ = some (.int .i64 (rigF r), σ) := by
 refine wrap_eq rfl ?_ rfl
 show r_fixture_CheckRig (.agg (cRig r)) σ = _
 obtain ⟨hlib, hus⟩ := hok
 have hmx := hlib.1
 unfold r_fixture_CheckRig rigF
 simp only [MSb, reduceCtorEq, p1_cRig_0, p1_cRig_1, pA_cRig, ce_cRig, sp_cRig, CheckLibrary_eq _ hlib]
 by_cases hf : libF r.library = 0
 case neg => simp only [MSb, reduceCtorEq, hf]
 by_cases h4 : 400 < r.units.length
 ·have h4' : (400 : Int) < r.units.length := by omega
  simp only [MSb, reduceCtorEq, p1_cRig_0, p1_cRig_1, pA_cRig, ce_cRig, sp_cRig, hf, h4, h4']
 have h4' : ¬ (400 : Int) < r.units.length := by omega
 simp only [MSb, reduceCtorEq, p1_cRig_0, p1_cRig_1, pA_cRig, ce_cRig, sp_cRig, hf, h4, h4']
 have hsizes := libF_sizes hf
 generalize hlq : r.units = l at *
 refine (loop_pre (S := List Int × (Int → Nat → Bool)) (R := Int) l (fun pre u s => if withinB u.number 1 9999 = false then .out 1
    else if ordB (pre.map (·.number)) u.number = true then .out 7
    else if (profOf u.profile r.library).2 = false then .out 5
    else if withinB u.univ 1 64 = false ∨ withinB u.address 1 512 = false ∨ 512 < lastU r.library u then .out 1
    else if clashU r.library u pre = true then .out 12 else .go (if u.univ ∈ s.1 then s.1 else s.1 ++ [u.univ], markF s.2 u.univ u.address.toNat (profOf u.profile r.library).1.size.toNat))
  (fun pre _ => [.lbx (cRig r), .int .i64 0, .int .i64 (pre.length : Int)]) (fun pre s => usH σ s.1 s.2)
  (fun s => (.exit 0, [.lbx (cRig r), .int .i64 0, .int .i64 (l.length : Int)], usH σ s.1 s.2)) (fun pre s n => (.ret, [.lbx (cRig r), .int .i64 n, .int .i64 (pre.length : Int)], usH σ s.1 s.2))
  (fun pre s => UnitsOk r.library pre ∧ MarksP r.library pre s.2 ∧ s.1.Nodup ∧ ∀ v, v ∉ s.1 → ∀ k, s.2 v k = false) ([], fun _ _ => false) (fun _ => some (AV.int .i64 0, σ)) (fun n => some (AV.int .i64 n, σ)) ?_ ?_ ⟨(by intro x hx; simp at hx), MarksP.nil _, List.nodup_nil, fun _ _ _ => rfl⟩ ?_ ?_ ?_).trans ?_
 ·intro pre u rest s hl hP
  have hx := pre_get hl; have hlt := pre_lt hl; have hi1 : IntKind.i64.wrap ((pre.length : Int) + 1) = (pre.length : Int) + 1 := wrap64 (by unfold inI; omega); have hi2 : IntKind.i64.wrap ((pre.length : Int) - 1) = (pre.length : Int) - 1 := wrap64 (by unfold inI; omega); have hlt' : (pre.length : Int) < (l.length : Int) := by omega
  have hmp : pre.length ≤ mxl := by unfold mxl; omega
  have hia := iaddr_sl 4 cUnit l hx
  have hPr := profile_eq r.library hmx u.profile
  have ho := ordB_cases (·.number) hl u.number
  obtain ⟨vs, f⟩ := s
  obtain ⟨hP1, hP2, hP3, hP4⟩ := hP
  dsimp only at hP1 hP2 hP3 hP4 ⊢
  clear hus h4 h4' hl hx
  simp only [MSb, reduceCtorEq, p1_cUnit_0, p1_cUnit_1, p1_cUnit_2, p1_cUnit_3, pA_cUnit, ce_cUnit, sp_cUnit, p1_cRig_0, p1_cRig_1, pA_cRig, ce_cRig, sp_cRig, hlq, hlt', hia, hPr, p1_cProfile_0, p1_cProfile_1, p1_cProfile_2, pA_cProfile, ce_cProfile, sp_cProfile, Within_eq]
  cases h1 : withinB u.number 1 9999
  ·simp only [MSb, reduceCtorEq]
  simp only [MSb, reduceCtorEq]
  rcases ho with ⟨y, h0, hy, ho⟩ | ⟨h0, ho⟩
  case' inl =>
   have h0' : (0 : Int) < pre.length := by omega
   have hia2 := iaddr_pred 4 cUnit l h0 hy
   by_cases hq : u.number ≤ y.number
   ·simp only [MSb, reduceCtorEq, p1_cUnit_0, p1_cUnit_1, p1_cUnit_2, p1_cUnit_3, pA_cUnit, ce_cUnit, sp_cUnit, p1_cRig_0, p1_cRig_1, pA_cRig, ce_cRig, sp_cRig, hlq, h0', hi2, hia2, ho, hq]
   simp only [MSb, reduceCtorEq, p1_cUnit_0, p1_cUnit_1, p1_cUnit_2, p1_cUnit_3, pA_cUnit, ce_cUnit, sp_cUnit, p1_cRig_0, p1_cRig_1, pA_cRig, ce_cRig, sp_cRig, hlq, h0', hi2, hia2, ho, hq]
  case' inr =>
   have h0' : ¬ (0 : Int) < pre.length := by omega
   simp only [MSb, reduceCtorEq, h0', ho]
  all_goals
   try simp only [MSb, reduceCtorEq, p1_cUnit_0, p1_cUnit_1, p1_cUnit_2, p1_cUnit_3, pA_cUnit, ce_cUnit, sp_cUnit, p1_cRig_0, p1_cRig_1, pA_cRig, ce_cRig, sp_cRig, hlq, hPr]
   cases hp : (profOf u.profile r.library).2
   ·simp only [MSb, reduceCtorEq, p1_cProfile_0, p1_cProfile_1, p1_cProfile_2, pA_cProfile, ce_cProfile, sp_cProfile]
   have hsz := hsizes _ (profOf_mem _ _ hp)
   try simp only [MSb, reduceCtorEq, p1_cUnit_0, p1_cUnit_1, p1_cUnit_2, p1_cUnit_3, pA_cUnit, ce_cUnit, sp_cUnit, p1_cProfile_0, p1_cProfile_1, p1_cProfile_2, pA_cProfile, ce_cProfile, sp_cProfile, Within_eq]
   cases hu : withinB u.univ 1 64
   ·simp only [MSb, reduceCtorEq]
   cases ha : withinB u.address 1 512
   ·simp only [MSb, reduceCtorEq, p1_cUnit_0, p1_cUnit_1, p1_cUnit_2, p1_cUnit_3, pA_cUnit, ce_cUnit, sp_cUnit, Within_eq, ha]
   have ha' : 1 ≤ u.address ∧ u.address ≤ 512 := by simpa [withinB] using ha
   have hw1 : IntKind.i64.wrap (u.address + (profOf u.profile r.library).1.size) = u.address + (profOf u.profile r.library).1.size := wrap64 (by unfold inI; omega)
   have hw2 : IntKind.i64.wrap (u.address + (profOf u.profile r.library).1.size - 1) = lastU r.library u := wrap64 (by unfold inI; omega)
   have hlu : lastU r.library u = u.address + (profOf u.profile r.library).1.size - 1 := rfl
   by_cases h5 : 512 < lastU r.library u
   ·simp only [MSb, reduceCtorEq, p1_cUnit_0, p1_cUnit_1, p1_cUnit_2, p1_cUnit_3, pA_cUnit, ce_cUnit, sp_cUnit, p1_cProfile_0, p1_cProfile_1, p1_cProfile_2, pA_cProfile, ce_cProfile, sp_cProfile, Within_eq, ha, hw1, hw2, h5]
   obtain ⟨a, hae⟩ : ∃ a : Nat, u.address = a := ⟨u.address.toNat, by omega⟩
   obtain ⟨n, hne⟩ : ∃ n : Nat, (profOf u.profile r.library).1.size = n := ⟨(profOf u.profile r.library).1.size.toNat, by omega⟩
   have hfc := free_clash hP2 hP1 u a n hae (by omega) (by omega) (by omega)
   have hfree : m_fixture_slots_free [if u.univ ∈ vs then .op (σ.length + 1 + vs.idxOf u.univ) 0 else .np, .int .i64 (a : Int), .int .i64 (n : Int)] (usH σ vs f) = some (.bool (!clashU r.library u pre), usH σ vs f) := by
    by_cases hm : u.univ ∈ vs
    ·rw [if_pos hm, free_op (f u.univ) a n (by omega) (usH_box σ f hm), hfc]
    ·rw [if_neg hm, free_np a n (by unfold inI; omega) (by unfold inI; omega), ← hfc]
     have e : freeF (f u.univ) n a = true := (freeF_iff _ _ _).2 fun k h1 h2 => ⟨by omega, hP4 _ hm k⟩
     rw [e, show decide ((a : Int) + n - 1 ≤ 512) = true from decide_eq_true (by omega)]
   have htk := take_eq σ hP3 f u a n hae (by omega) (hP4 u.univ)
   simp only [MSb, reduceCtorEq, p1_cUnit_0, p1_cUnit_1, p1_cUnit_2, p1_cUnit_3, pA_cUnit, ce_cUnit, sp_cUnit, p1_cProfile_0, p1_cProfile_1, p1_cProfile_2, pA_cProfile, ce_cProfile, sp_cProfile, Within_eq, ha, hw1, hw2, h5, usH_look]
   rw [hae, hne]
   simp only [MSb, reduceCtorEq, hfree]
   cases hc : clashU r.library u pre
   ·simp only [MSb, reduceCtorEq, p1_cUnit_0, p1_cUnit_1, p1_cUnit_2, p1_cUnit_3, pA_cUnit, ce_cUnit, sp_cUnit, p1_cProfile_0, p1_cProfile_1, p1_cProfile_2, pA_cProfile, ce_cProfile, sp_cProfile, hne, htk, hi1, Int.toNat_natCast]
   ·simp only [MSb, reduceCtorEq]
 ·intro s _
  exact hend_lss _ _ _
 ·intro pre u rest s s' hl hP hb
  obtain ⟨vs, f⟩ := s
  obtain ⟨hP1, hP2, hP3, hP4⟩ := hP
  dsimp only at hP1 hP2 hP3 hP4 hb
  split at hb
  ·cases hb
  split at hb
  ·cases hb
  split at hb
  ·cases hb
  rename_i hp
  split at hb
  ·cases hb
  rename_i hw
  split at hb
  ·cases hb
  injection hb with hb
  subst hb
  simp only [not_or, Bool.not_eq_false, withinB, Bool.and_eq_true, decide_eq_true_eq] at hw hp
  have hsz := hsizes _ (profOf_mem _ _ (by simpa using hp))
  have hlu : lastU r.library u = u.address + (profOf u.profile r.library).1.size - 1 := rfl
  refine ⟨hP1.snoc ⟨hw.2.1.1, by omega, by omega⟩, hP2.snoc u u.address.toNat _ (by omega) (by omega), ?_, ?_⟩
  ·dsimp only
   split
   ·exact hP3
   ·rename_i hm
    rw [List.nodup_append]; exact ⟨hP3, by simp, fun x hx y hy e => hm (by simp at hy; rw [← hy, ← e]; exact hx)⟩
  ·intro v hv k
   dsimp only at hv ⊢
   have h1 : v ≠ u.univ ∧ v ∉ vs := by
    split at hv
    ·rename_i hm
     exact ⟨fun e => hv (e ▸ hm), hv⟩
    ·simp only [List.mem_append, List.mem_singleton, not_or] at hv
     exact ⟨hv.2, hv.1⟩
   unfold markF
   rw [if_neg (fun q => h1.1 q.1)]
   exact hP4 v h1.2 k
 ·intro s _; simp only [MSb, reduceCtorEq, fin_usH]
 ·intros; simp only [MSb, reduceCtorEq, fin_usH]
 ·refine (runP_state (chk := chkU r.library) ?_ ?_ (fun n => some (AV.int .i64 n, σ)) l [] _).trans ?_
  ·intro pre; rfl
  ·intro pre x rest s; rw [chkU]; simp only [el_ite, el_out, el_go]
  ·rfl
end Go.Proofs.Ytohbeolimnpehaa

/- Package fixture: the keys of a rig. -/
namespace Go.Proofs.Ytohbeolimnpehaa
set_option linter.unusedSectionVars false
set_option linter.unusedVariables false
set_option linter.unusedSimpArgs false
def unitKeys (lib : List ProfileD) (u : UnitD) : List KeyD := (profOf u.profile lib).1.params.map fun x => ⟨u.number, x.name⟩
def keysOf (r : RigD) : List KeyD := r.units.flatMap (unitKeys r.library)
theorem profileF_params {p : ProfileD} (h : profileF p = 0) : p.params.length ≤ 40 := by
 unfold profileF at h
 repeat' split at h
 all_goals first | (simp at h; done) | omega
theorem chkL_right : ∀ (l pre : List ProfileD), chkL pre l = 0 → ∀ p ∈ l, profileF p = 0
 | [], pre, h, p, hp => by simp at hp
 | q :: rest, pre, h, p, hp => by
  rw [chkL] at h
  by_cases e : profileF q = 0
  ·rw [if_pos e] at h
   by_cases e2 : memB q.name (pre.map (·.name)) = true
   ·rw [if_pos e2] at h; simp at h
   ·rw [if_neg e2] at h
    simp only [List.mem_cons] at hp
    rcases hp with rfl | hp
    ·exact e
    ·exact chkL_right rest _ h p hp
  ·rw [if_neg e] at h; exact absurd h e
theorem rigF_lib {r : RigD} (h : rigF r = 0) : libF r.library = 0 := by
 unfold rigF at h
 split at h
 ·assumption
 ·rename_i h2; exact absurd h h2
theorem libF_right {l : List ProfileD} (h : libF l = 0) : ∀ p ∈ l, profileF p = 0 := by
 unfold libF at h
 by_cases e : 60 < l.length
 ·rw [if_pos e] at h; simp at h
 ·rw [if_neg e] at h; exact chkL_right l [] h
theorem params_len {r : RigD} (h : rigF r = 0) (nm : ByteArray) : (profOf nm r.library).1.params.length ≤ 40 := by
 rw [profOf_find]
 cases hf : r.library.find? (fun x : ProfileD => decide (x.name = nm)) with
 | none => exact Nat.zero_le _
 | some p => exact profileF_params (libF_right (rigF_lib h) p (List.mem_of_find?_eq_some hf))
theorem unitKeys_len {r : RigD} (h : rigF r = 0) : ∀ (l : List UnitD), (l.flatMap (unitKeys r.library)).length ≤ l.length * 40
 | [] => by simp
 | u :: l => by
  have h1 := params_len h u.profile
  have h2 := unitKeys_len h l
  rw [List.flatMap_cons, List.length_append, List.length_cons, Nat.succ_mul]
  have h3 : (unitKeys r.library u).length = (profOf u.profile r.library).1.params.length := by simp [unitKeys]
  omega
theorem nnKeys (l : List KeyD) (n : Int) : A.nn (.t [(.s 2), .k]) (.tup [if l = [] then .nsl else sl 2 cKey l, .int .i64 n]) = .tup [sl 2 cKey l, .int .i64 n] := by
 show AV.tup [A.nn (.s 2) (if l = [] then .nsl else sl 2 cKey l), .int .i64 n] = _
 rw [nn_own]
theorem rigF_units {r : RigD} (h : rigF r = 0) : r.units.length ≤ 400 := by
 unfold rigF at h
 split at h
 ·split at h
  ·cases h
  ·omega
 ·rename_i h2; exact absurd h h2
theorem Keys_eq (r : RigD) (hok : okRig r) (σ : Heap) : m_fixture_Keys [.agg (cRig r)] σ = some (.tup [sl 2 cKey (if rigF r = 0 then keysOf r else []), .int .i64 (rigF r)], σ) := by
 by_cases hf : rigF r = 0
 ·refine wrap_eq rfl (v := .tup [if keysOf r = [] then .nsl else sl 2 cKey (keysOf r), .int .i64 0]) ?_ (by rw [if_pos hf, hf]; exact nnKeys _ _)
  show r_fixture_Keys (.agg (cRig r)) σ = _
  unfold r_fixture_Keys
  have hu := rigF_units hf
  have hlib := hok.1.2
  simp only [MSb, reduceCtorEq, p1_cRig_0, p1_cRig_1, pA_cRig, ce_cRig, sp_cRig, CheckRig_eq r hok, hf]
  refine (loop_pre (S := Unit) (R := Unit) r.units (fun pre u _ => (Rd.go () : Rd Unit Unit))
   (fun pre _ => [.lbx (cRig r), ownV σ.length 2 (pre.flatMap (unitKeys r.library)), .int .i64 (pre.length : Int)]) (fun pre _ => σ ++ ownB 2 cKey (pre.flatMap (unitKeys r.library)))
   (fun _ => (.exit 0, [.lbx (cRig r), ownV σ.length 2 (keysOf r), .int .i64 (r.units.length : Int)], σ ++ ownB 2 cKey (keysOf r))) (fun pre _ _ => (.ret, [], σ))
   (fun _ _ => True) () (fun _ => some (AV.tup [if keysOf r = [] then .nsl else sl 2 cKey (keysOf r), .int .i64 0], σ)) (fun _ => none) ?_ ?_ trivial (fun _ _ _ _ _ _ _ _ => trivial) ?_ ?_ (hσ := by simp [ownB_nil])).trans (run_go _ _ _ _)
  ·intro pre u rest s hl _
   have hx := pre_get hl
   have hlt := pre_lt hl
   have hi1 : IntKind.i64.wrap ((pre.length : Int) + 1) = (pre.length : Int) + 1 := wrap64 (by unfold inI; omega)
   have hlt' : (pre.length : Int) < (r.units.length : Int) := by omega
   have hia := iaddr_sl 4 cUnit r.units hx
   have hPr := profile_eq r.library hok.1.1 u.profile
   have hps := params_len hf u.profile
   have hkl := unitKeys_len hf pre
   have hsn : (pre ++ [u]).flatMap (unitKeys r.library) = pre.flatMap (unitKeys r.library) ++ unitKeys r.library u := by simp
   have hpre4 : pre.length ≤ 399 := by omega
   generalize hK : pre.flatMap (unitKeys r.library) = K at *
   generalize hq : (profOf u.profile r.library).1 = p at *
   simp only [MSb, reduceCtorEq, p1_cUnit_0, p1_cUnit_1, p1_cUnit_2, p1_cUnit_3, pA_cUnit, ce_cUnit, sp_cUnit, p1_cRig_0, p1_cRig_1, pA_cRig, ce_cRig, sp_cRig, hlt', hia, hPr, hq, p1_cProfile_0, p1_cProfile_1, p1_cProfile_2, pA_cProfile, ce_cProfile, sp_cProfile]
   refine (loop_pre (S := Unit) (R := Unit) p.params (fun pre u _ => (Rd.go () : Rd Unit Unit))
    (fun qre _ => [.lbx (cRig r), ownV σ.length 2 (K ++ qre.map fun x => (⟨u.number, x.name⟩ : KeyD)), .lbx (cUnit u), .int .i64 (qre.length : Int)]) (fun qre _ => σ ++ ownB 2 cKey (K ++ qre.map fun x => (⟨u.number, x.name⟩ : KeyD)))
    (fun _ => (.exit 2, [.lbx (cRig r), ownV σ.length 2 (K ++ unitKeys r.library u), .lbx (cUnit u), .int .i64 (p.params.length : Int)], σ ++ ownB 2 cKey (K ++ unitKeys r.library u))) (fun pre _ _ => (.ret, [], σ))
    (fun _ _ => True) () (fun _ => some (.normal, [.lbx (cRig r), ownV σ.length 2 (K ++ unitKeys r.library u), .int .i64 ((pre.length : Int) + 1)], σ ++ ownB 2 cKey (K ++ unitKeys r.library u))) (fun _ => none) ?_ ?_ trivial (fun _ _ _ _ _ _ _ _ => trivial) ?_ ?_ (hv := by simp) (hσ := by simp)).trans ((run_go _ _ _ _).trans ?_)
   ·intro qre x rest' s hl' _
    have gx := pre_get hl'
    have glt := pre_lt hl'
    have gi1 : IntKind.i64.wrap ((qre.length : Int) + 1) = (qre.length : Int) + 1 := wrap64 (by unfold inI; omega)
    have glt' : (qre.length : Int) < (p.params.length : Int) := by omega
    have gia := iaddr_sl 7 cParam p.params gx
    have hap := own_append (most := 140737488355328 / 24) (sz := 2) cKey (K ++ qre.map fun x => (⟨u.number, x.name⟩ : KeyD)) ⟨u.number, x.name⟩ σ (by
     rw [List.length_append, List.length_map]
     omega)
    have hsn' : (K ++ (qre ++ [x]).map fun x => (⟨u.number, x.name⟩ : KeyD)) = (K ++ qre.map fun x => (⟨u.number, x.name⟩ : KeyD)) ++ [⟨u.number, x.name⟩] := by simp
    clear hl gx glt hx hlt hkl hl'
    rw [hsn']
    have hch : AV.sl 2 (chunks 2 1 [AV.int .i64 u.number, AV.str x.name]) = .sl 2 [cKey ⟨u.number, x.name⟩] := rfl
    simp only [MSb, reduceCtorEq, p1_cParam_0, p1_cParam_1, p1_cParam_2, p1_cParam_3, p1_cParam_4, p1_cParam_5, p1_cParam_6, pA_cParam, ce_cParam, sp_cParam, p1_cUnit_0, p1_cUnit_1, p1_cUnit_2, p1_cUnit_3, pA_cUnit, ce_cUnit, sp_cUnit, glt', gia, gi1]
    show (A.append 2 _ _ (AV.sl 2 [cKey ⟨u.number, x.name⟩]) _).bind _ = _
    rw [hap]
    simp only [MSb, reduceCtorEq, gi1]
   ·intro s _
    refine (hend_lss _ _ _).trans ?_
    subst hq
    rfl
   ·intro s _; simp only [MSb, reduceCtorEq, hi1]
   ·intros; rename_i hb; cases hb
   ·rw [hsn]
  ·intro s _
   exact hend_lss _ _ _
  ·intro s _
   simp only [MSb, reduceCtorEq, fin_own2 fz_cKey]
  ·intros; rename_i hb; cases hb
 ·refine wrap_eq rfl (v := .tup [.nsl, .int .i64 (rigF r)]) ?_ (by rw [if_neg hf]; rfl)
  show r_fixture_Keys (.agg (cRig r)) σ = _
  unfold r_fixture_Keys
  simp only [MSb, reduceCtorEq, p1_cRig_0, p1_cRig_1, pA_cRig, ce_cRig, sp_cRig, CheckRig_eq r hok, hf]
end Go.Proofs.Ytohbeolimnpehaa

/- Package pick: the small functions. -/
namespace Go.Proofs.Ytohbeolimnpehaa
set_option linter.unusedSectionVars false
set_option linter.unusedVariables false
set_option linter.unusedSimpArgs false
theorem isLevelP_eq (n : Int) (σ : Heap) : m_pick_isLevel [.int .i64 n] σ = some (.bool (withinB n 0 65535), σ) := by
 refine wrap_eq rfl ?_ rfl
 show r_pick_isLevel (.int .i64 n) σ = _
 unfold r_pick_isLevel
 simp only [MSb, reduceCtorEq, Within_eq]
def blankB (s : ByteArray) : Bool := if s = ⟨#[]⟩ then true else titleB s
theorem blank_eq (s : ByteArray) (hs : okS s) (σ : Heap) : m_pick_blank [.str s] σ = some (.bool (blankB s), σ) := by
 refine wrap_eq rfl ?_ rfl
 show r_pick_blank (.str s) σ = _
 unfold r_pick_blank blankB
 by_cases h : s = ⟨#[]⟩
 ·simp only [MSb, reduceCtorEq, h]
 ·simp only [MSb, reduceCtorEq, h, Title_eq s hs]
end Go.Proofs.Ytohbeolimnpehaa

/- The reference of package fixture: the parameter of a key. -/
namespace Go.Proofs.Ytohbeolimnpehaa
set_option linter.unusedSectionVars false
set_option linter.unusedVariables false
set_option linter.unusedSimpArgs false
def zParam : ParamD := ⟨⟨#[]⟩, 0, 0, 0, 0, false, []⟩
def paramB (p : ProfileD) (nm : ByteArray) : ParamD × Bool := (p.params.find? fun x => decide (x.name = nm)).elim (zParam, false) fun x => (x, true)
def paramOf (r : RigD) (k : KeyD) : ParamD × Bool := (r.units.find? fun u => decide (u.number = k.unit)).elim (zParam, false) fun u => paramB (profOf u.profile r.library).1 k.param
theorem unit2_eq (r : RigD) (hl : r.units.length ≤ mxl) (n : Int) (σ : Heap) : m_R2_unit [.agg (cRig r), .int .i64 n] σ = some (.int .i64 (idxI (fun u : UnitD => decide (u.number = n)) r.units), σ) := by
 refine wrap_eq rfl ?_ rfl
 show r_R2_unit (.agg (cRig r)) (.int .i64 n) σ = _
 unfold r_R2_unit
 simp only [MSb, reduceCtorEq, p1_cRig_0, p1_cRig_1, pA_cRig, ce_cRig, sp_cRig]
 refine (loop_idx r.units (fun u => decide (u.number = n)) (fun i => [.int .i64 0, .int .i64 (i : Int)]) σ (.exit 0, [.int .i64 0, .int .i64 (r.units.length : Int)], σ) (fun i => (.ret, [.int .i64 (i : Int), .int .i64 (i : Int)], σ)) (some (AV.int .i64 (-1), σ)) (fun i => some (AV.int .i64 i, σ)) ?_ ?_ ?_ ?_).trans ?_
 ·intro i x hx
  obtain ⟨g1, g2, g3⟩ := iaddr_at 4 cUnit hx
  have g3 := g3 hl
  simp only [MSb, reduceCtorEq, p1_cUnit_0, p1_cUnit_1, p1_cUnit_2, p1_cUnit_3, pA_cUnit, ce_cUnit, sp_cUnit, g1, g2, g3]
  repeat' ((first | rw [gDp] | rw [gDb] | rw [cDp] | rw [cDnp] | rw [cDn] | rw [cDb]); split <;> try simp only [MSb, reduceCtorEq, *])
 ·exact hend_lss _ _ _
 ·simp only [MSb, reduceCtorEq]
 ·intro i; simp only [MSb, reduceCtorEq]
 ·split
  ·rename_i h; rw [h]
  ·rfl
theorem param2_eq (p : ProfileD) (hl : p.params.length ≤ mxl) (nm : ByteArray) (σ : Heap) : m_R2_param [.agg (cProfile p), .str nm] σ = some (.tup [.agg (cParam (paramB p nm).1), .bool (paramB p nm).2], σ) := by
 have key : ∃ w, r_R2_param (.agg (cProfile p)) (.str nm) σ = some (w, σ) ∧ A.nn (.t [(.a [.k, .k, .k, .k, .k, .k, (.s 3)]), .k]) w = .tup [.agg (cParam (paramB p nm).1), .bool (paramB p nm).2] := by
  refine ⟨(p.params.find? fun x => decide (x.name = nm)).elim (.tup [.agg [.str ⟨#[]⟩, .int .i64 0, .int .i64 0, .int .i64 0, .int .i64 0, .bool false, .nsl], .bool false]) (fun x => .tup [.agg (cParam x), .bool true]), ?_, ?_⟩
  ·unfold r_R2_param
   simp only [MSb, reduceCtorEq, p1_cProfile_0, p1_cProfile_1, p1_cProfile_2, pA_cProfile, ce_cProfile, sp_cProfile]
   refine (loop_find p.params (fun x => decide (x.name = nm)) (fun i => [.lbx [.str ⟨#[]⟩, .int .i64 0, .int .i64 0, .int .i64 0, .int .i64 0, .bool false, .nsl], .bool false, .int .i64 (i : Int)]) σ (.exit 0, [.lbx [.str ⟨#[]⟩, .int .i64 0, .int .i64 0, .int .i64 0, .int .i64 0, .bool false, .nsl], .bool false, .int .i64 (p.params.length : Int)], σ) (fun i x => (.ret, [.lbx (cParam x), .bool true, .int .i64 (i : Int)], σ))
    (some (AV.tup [.agg [.str ⟨#[]⟩, .int .i64 0, .int .i64 0, .int .i64 0, .int .i64 0, .bool false, .nsl], .bool false], σ)) (fun x => some (AV.tup [.agg (cParam x), .bool true], σ)) ?_ ?_ ?_ ?_).trans ?_
   ·intro i x hx
    obtain ⟨g1, g2, g3⟩ := iaddr_at 7 cParam hx
    have g3 := g3 hl
    simp only [MSb, reduceCtorEq, p1_cParam_0, p1_cParam_1, p1_cParam_2, p1_cParam_3, p1_cParam_4, p1_cParam_5, p1_cParam_6, pA_cParam, ce_cParam, sp_cParam, g1, g2, g3]
    repeat' ((first | rw [gDp] | rw [gDb] | rw [cDp] | rw [cDnp] | rw [cDn] | rw [cDb]); split <;> try simp only [MSb, reduceCtorEq, p1_cParam_0, p1_cParam_1, p1_cParam_2, p1_cParam_3, p1_cParam_4, p1_cParam_5, p1_cParam_6, pA_cParam, ce_cParam, sp_cParam, *])
    all_goals first | with_reducible rfl | (simp [*]; done) | (simp_all; done) | (simp_all; omega) | rfl
   ·exact hend_lss _ _ _
   ·simp only [MSb, reduceCtorEq]; rfl
   ·intro i x; simp only [MSb, reduceCtorEq, p1_cParam_0, p1_cParam_1, p1_cParam_2, p1_cParam_3, p1_cParam_4, p1_cParam_5, p1_cParam_6, pA_cParam, ce_cParam, sp_cParam]
   ·cases p.params.find? fun x => decide (x.name = nm) <;> rfl
  ·unfold paramB
   cases p.params.find? fun x => decide (x.name = nm) <;> rfl
 obtain ⟨w, h1, h2⟩ := key
 exact wrap_eq rfl h1 h2
theorem profOf_le {l : List ProfileD} (h : ∀ x ∈ l, okProfile x) (nm : ByteArray) : (profOf nm l).1.params.length ≤ mxl := by
 rw [profOf_find]
 cases hf : l.find? (fun x : ProfileD => decide (x.name = nm)) with
 | none => exact Nat.zero_le _
 | some p => exact (h p (List.mem_of_find?_eq_some hf)).2.2.1
theorem ParamOf2_eq (r : RigD) (hok : okRig r) (k : KeyD) (σ : Heap) : m_R2_ParamOf [.agg (cRig r), .agg (cKey k)] σ = some (.tup [.agg (cParam (paramOf r k).1), .bool (paramOf r k).2], σ) := by
 have key : ∃ w, r_R2_ParamOf (.agg (cRig r)) (.agg (cKey k)) σ = some (w, σ) ∧ A.nn (.t [(.a [.k, .k, .k, .k, .k, .k, (.s 3)]), .k]) w = .tup [.agg (cParam (paramOf r k).1), .bool (paramOf r k).2] := by
  unfold r_R2_ParamOf paramOf
  simp only [MSb, reduceCtorEq, p1_cRig_0, p1_cRig_1, pA_cRig, ce_cRig, sp_cRig, p1_cKey_0, p1_cKey_1, pA_cKey, ce_cKey, sp_cKey, unit2_eq r hok.2.1]
  rcases idxI_cases (fun u : UnitD => decide (u.number = k.unit)) r.units with ⟨h1, _, h3⟩ | ⟨j, x, h1, h2, h3, h4, _⟩
  ·refine ⟨.tup [.agg [.str ⟨#[]⟩, .int .i64 0, .int .i64 0, .int .i64 0, .int .i64 0, .bool false, .nsl], .bool false], ?_, ?_⟩
   ·rw [h1]
    simp only [MSb, reduceCtorEq, show ((-1 : Int) < 0) from by decide]
    rfl
   ·rw [h3]; rfl
  ·refine ⟨.tup [.agg (cParam (paramB (profOf x.profile r.library).1 k.param).1), .bool (paramB (profOf x.profile r.library).1 k.param).2], ?_, ?_⟩
   ·rw [h3]
    simp only [MSb, reduceCtorEq, p1_cRig_0, p1_cRig_1, pA_cRig, ce_cRig, sp_cRig, p1_cKey_0, p1_cKey_1, pA_cKey, ce_cKey, sp_cKey, p1_cUnit_0, p1_cUnit_1, p1_cUnit_2, p1_cUnit_3, pA_cUnit, ce_cUnit, sp_cUnit, p1_cProfile_0, p1_cProfile_1, p1_cProfile_2, pA_cProfile, ce_cProfile, sp_cProfile, p1_cParam_0, p1_cParam_1, p1_cParam_2, p1_cParam_3, p1_cParam_4, p1_cParam_5, p1_cParam_6, pA_cParam, ce_cParam, sp_cParam, show ¬ ((j : Int) < 0) from by omega, iaddr_sl 4 cUnit r.units h1, Profile2_eq _ hok.1.1, param2_eq _ (profOf_le hok.1.2 x.profile)]
   ·rw [h4]; rfl
 obtain ⟨w, h1, h2⟩ := key
 exact wrap_eq rfl h1 h2
end Go.Proofs.Ytohbeolimnpehaa

/- Typed runs, written by a program. -/
namespace Go.Proofs.Ytohbeolimnpehaa
set_option linter.unusedSectionVars false
set_option linter.unusedVariables false
set_option linter.unusedSimpArgs false
set_option maxRecDepth 100000
noncomputable def t_cue_isTime (a0 : Int) : Option Bool :=
 some (withinB a0 0 36000000)
theorem h_cue_isTime {a0 : Int} {σ : Heap} {r : Bool} (h : t_cue_isTime a0 = some r) : m_cue_isTime [(AV.int .i64 a0)] σ = some ((AV.bool r), σ) := by
 refine rf_wrap1 (f := r_cue_isTime) (y0 := (AV.int .i64 a0)) (enc := fun r : Bool => (AV.bool r)) (T := t_cue_isTime a0) rfl rfl ?_ r h
 unfold r_cue_isTime t_cue_isTime
 refine rf_s ((AV.bool (withinB a0 0 36000000)), σ) (Within_eq a0 0 36000000 σ) ?_
 exact rf_fin _ (fin_same _ _) ⟨rfl, rfl⟩

noncomputable def t_cue_compare (a0 : KeyD) (a1 : KeyD) : Option Int :=
 if ¬ (a0.unit = a1.unit) then
  if a0.unit < a1.unit then
   some (-1)
  else
   some 1
 else
  some (Lib.compareBytes a0.param.data.toList a1.param.data.toList)
theorem h_cue_compare {a0 : KeyD} { a1 : KeyD} {σ : Heap} {r : Int} (h : t_cue_compare a0 a1 = some r) : m_cue_compare [(AV.agg (cKey a0)), (AV.agg (cKey a1))] σ = some ((AV.int .i64 r), σ) := by
 refine rf_wrap2 (f := r_cue_compare) (y0 := (AV.agg (cKey a0))) (y1 := (AV.agg (cKey a1))) (enc := fun r : Int => (AV.int .i64 r)) (T := t_cue_compare a0 a1) rfl rfl ?_ r h
 unfold r_cue_compare t_cue_compare
 refine rf_s (cKey a0) rfl ?_
 refine rf_s (cKey a1) rfl ?_
 refine rf_s (AV.int .i64 a0.unit) rfl ?_
 refine rf_s (AV.int .i64 a1.unit) rfl ?_
 refine rf_s (AV.bool (decide (¬ (a0.unit = a1.unit)))) (aNe _ _ _) ?_
 refine rf_c (p := ¬ (a0.unit = a1.unit)) (fun c2 => ?_) (fun c2 => ?_)
 ·refine rf_s (AV.int .i64 a0.unit) rfl ?_
  refine rf_s (AV.int .i64 a1.unit) rfl ?_
  refine rf_s (AV.bool (decide (a0.unit < a1.unit))) rfl ?_
  refine rf_c (p := a0.unit < a1.unit) (fun c1 => ?_) (fun c1 => ?_)
  ·exact rf_fin _ (fin_same _ _) ⟨rfl, rfl⟩
  ·exact rf_fin _ (fin_same _ _) ⟨rfl, rfl⟩
 ·refine rf_s (AV.str a0.param) rfl ?_
  refine rf_s (AV.str a1.param) rfl ?_
  refine rf_s ((AV.int .i64 (Lib.compareBytes a0.param.data.toList a1.param.data.toList)), σ) (rfl) ?_
  exact rf_fin _ (fin_same _ _) ⟨rfl, rfl⟩

noncomputable def t_cue_checkMoves (a0 : (List MoveD)) : Option Int :=
 forE a0 (fun (i8 : Nat) e7 (s1 : Unit) => (show Option (Lr Unit Unit Int) from
   if (!(withinB e7.key.unit 1 9999)) = true then
    some (.ret 1)
   else
    (tq (okS e7.key.param) (nameB e7.key.param)).bind fun r9 =>
    if (!r9) = true then
     some (.ret 5)
    else
     if ((e7.release && (decide (¬ (e7.value = (⟨0, 0⟩ : ValueD))))) || ((decide (¬ (e7.value.level = 0))) && (decide (¬ (e7.value.preset = 0))))) = true then
      some (.ret 3)
     else
      if ((!(withinB e7.value.level 0 65535)) || (!(withinB e7.value.preset 0 999))) = true then
       some (.ret 1)
      else
       if ((!e7.timed) && ((decide (¬ (e7.delay = 0))) || (decide (¬ (e7.time = 0))))) = true then
        some (.ret 3)
       else
        if ((!((withinB e7.delay 0 36000000))) || (!((withinB e7.time 0 36000000)))) = true then
         some (.ret 1)
        else
         (if decide (0 < (i8 : Int)) = true then tIx a0 (IntKind.i64.wrap ((i8 : Int) - 1)) else some default).bind fun x10 =>
         (if decide (0 < (i8 : Int)) = true then t_cue_compare x10.key e7.key else some default).bind fun r11 =>
         if ((decide (0 < (i8 : Int))) && (decide (0 ≤ r11))) = true then
          some (.ret 7)
         else
          some (.go ()))) (fun s1 => some ()) () (fun b2 =>
  some 0) (fun b2 =>
  some b2)
theorem h_cue_checkMoves {a0 : (List MoveD)} {σ : Heap} {r : Int} (h : t_cue_checkMoves a0 = some r) : m_cue_checkMoves [(sl 8 cMove a0)] σ = some ((AV.int .i64 r), σ) := by
 refine rf_wrap1 (f := r_cue_checkMoves) (y0 := (sl 8 cMove a0)) (enc := fun r : Int => (AV.int .i64 r)) (T := t_cue_checkMoves a0) rfl rfl ?_ r h
 unfold r_cue_checkMoves t_cue_checkMoves
 refine rf_s (AV.int .i64 (a0.length : Int)) (lenS_sl _ _ _) ?_
 refine rf_for (B := Unit) (R := Int) (fun (i8 : Nat) (s1 : Unit) v w3 => v = [(AV.int .i64 0), (AV.int .i64 (i8 : Int))] ∧ σ = w3) (fun (b2 : Unit) (q : LS) => ∃ u2 u7, q = ((AX.exit 0), ([u2, u7] : List AV), σ)) (fun (b2 : Int) (q : LS) => ∃ u7, q = (AX.ret, ([(AV.int .i64 b2), u7] : List AV), σ)) ?_ ?_ ⟨rfl, rfl⟩ ?_ ?_
 ·intro hle7 i8 e7 s1 v w3 he7 hI
  obtain ⟨rfl, rfl⟩ := hI
  refine rf_s (AV.bool true) (ix_lt he7) ?_
  refine rf_ct ?_
  refine rf_s (AV.rp (cMove e7)) (ix_for he7) ?_
  refine rf_s (AV.agg (cMove e7)) rfl ?_
  refine rf_s (cMove e7) rfl ?_
  refine rf_s (cMove e7) (sp_cMove _ _ rfl) ?_
  refine rf_s (AV.int .i64 e7.key.unit) rfl ?_
  refine rf_s ((AV.bool (withinB e7.key.unit 1 9999)), σ) (Within_eq e7.key.unit 1 9999 σ) ?_
  refine rf_s (AV.bool (!(withinB e7.key.unit 1 9999))) rfl ?_
  refine rf_cb (c := (!(withinB e7.key.unit 1 9999))) (fun c18 => ?_) (fun c18 => ?_)
  ·exact rf_ret (rnd_ret (by simp) ⟨_, rfl⟩)
  ·refine rf_s (AV.str e7.key.param) rfl ?_
   refine rf_o (fun r9 : Bool => ((AV.bool r9), σ)) (fun r9 hr9 => (tq_of (e := fun r : Bool => ((AV.bool r), σ)) (fun hs => Name_eq e7.key.param hs σ)) hr9) (fun r9 hr9 => ?_)
   refine rf_s (AV.bool (!r9)) rfl ?_
   refine rf_cb (c := (!r9)) (fun c17 => ?_) (fun c17 => ?_)
   ·exact rf_ret (rnd_ret (by simp) ⟨_, rfl⟩)
   ·refine rf_s (AV.bool e7.release) rfl ?_
    refine rf_gt (AV.agg (cValue e7.value)) (fun hg => by
      exact rfl) ?_
    refine rf_gt (AV.agg (cValue (⟨0, 0⟩ : ValueD))) (fun hg => by
      exact rfl) ?_
    refine rf_gt (AV.bool (decide (¬ (e7.value = (⟨0, 0⟩ : ValueD))))) (fun hg => by
      first | exact (ne_Value _ _) | (simp only [hg, Bool.true_and, Bool.and_true, cond_true, hg]; first | done | exact (ne_Value _ _))) ?_
    refine rf_s (AV.bool (e7.release && (decide (¬ (e7.value = (⟨0, 0⟩ : ValueD)))))) (pk_and _ _) ?_
    refine rf_gf (AV.int .i64 e7.value.level) (fun hg => by
      exact rfl) ?_
    refine rf_gf (AV.bool (decide (¬ (e7.value.level = 0)))) (fun hg => by
      first | exact (aNe _ _ _) | (simp only [hg, Bool.true_and, Bool.and_true, cond_true, hg]; first | done | exact (aNe _ _ _))) ?_
    refine rf_gf (AV.bool (decide (¬ (e7.value.level = 0)))) (fun hg => by
      first | exact rfl | (simp only [hg, Bool.true_and, Bool.and_true, cond_true, hg]; first | done | exact rfl)) ?_
    refine rf_ggt (AV.int .i64 e7.value.preset) (fun hg => by
      exact rfl) ?_
    refine rf_ggt (AV.bool (decide (¬ (e7.value.preset = 0)))) (fun hg => by
      first | exact (aNe _ _ _) | (simp only [hg, Bool.true_and, Bool.and_true, cond_true, hg]; first | done | exact (aNe _ _ _))) ?_
    refine rf_gf (AV.bool ((decide (¬ (e7.value.level = 0))) && (decide (¬ (e7.value.preset = 0))))) (fun hg => by
      first | exact (pk_and _ _) | (simp only [hg, Bool.true_and, Bool.and_true, cond_true, hg]; first | done | exact (pk_and _ _))) ?_
    refine rf_s (AV.bool ((e7.release && (decide (¬ (e7.value = (⟨0, 0⟩ : ValueD))))) || ((decide (¬ (e7.value.level = 0))) && (decide (¬ (e7.value.preset = 0)))))) (pk_or _ _) ?_
    refine rf_cb (c := ((e7.release && (decide (¬ (e7.value = (⟨0, 0⟩ : ValueD))))) || ((decide (¬ (e7.value.level = 0))) && (decide (¬ (e7.value.preset = 0)))))) (fun c16 => ?_) (fun c16 => ?_)
    ·exact rf_ret (rnd_ret (by simp) ⟨_, rfl⟩)
    ·refine rf_s (AV.int .i64 e7.value.level) rfl ?_
     refine rf_s ((AV.bool (withinB e7.value.level 0 65535)), σ) (Within_eq e7.value.level 0 65535 σ) ?_
     refine rf_s (AV.bool (!(withinB e7.value.level 0 65535))) rfl ?_
     refine rf_gf (AV.int .i64 e7.value.preset) (fun hg => by
       exact rfl) ?_
     refine rf_gf (AV.bool (withinB e7.value.preset 0 999)) (fun hg => by
       first | exact (quiet_of (Within_eq e7.value.preset 0 999 σ)) | (simp only [hg, Bool.true_and, Bool.and_true, cond_true, hg]; first | done | exact (quiet_of (Within_eq e7.value.preset 0 999 σ)))) ?_
     refine rf_gf (AV.bool (!(withinB e7.value.preset 0 999))) (fun hg => by
       first | exact rfl | (simp only [hg, Bool.true_and, Bool.and_true, cond_true, hg]; first | done | exact rfl)) ?_
     refine rf_s (AV.bool ((!(withinB e7.value.level 0 65535)) || (!(withinB e7.value.preset 0 999)))) (pk_or _ _) ?_
     refine rf_cb (c := ((!(withinB e7.value.level 0 65535)) || (!(withinB e7.value.preset 0 999)))) (fun c15 => ?_) (fun c15 => ?_)
     ·exact rf_ret (rnd_ret (by simp) ⟨_, rfl⟩)
     ·refine rf_s (AV.bool e7.timed) rfl ?_
      refine rf_s (AV.bool (!e7.timed)) rfl ?_
      refine rf_gt (AV.int .i64 e7.delay) (fun hg => by
        exact rfl) ?_
      refine rf_gt (AV.bool (decide (¬ (e7.delay = 0)))) (fun hg => by
        first | exact (aNe _ _ _) | (simp only [hg, Bool.true_and, Bool.and_true, cond_true, hg]; first | done | exact (aNe _ _ _))) ?_
      refine rf_gt (AV.bool (decide (¬ (e7.delay = 0)))) (fun hg => by
        first | exact rfl | (simp only [hg, Bool.true_and, Bool.and_true, cond_true, hg]; first | done | exact rfl)) ?_
      refine rf_ggf (AV.int .i64 e7.time) (fun hg => by
        exact rfl) ?_
      refine rf_ggf (AV.bool (decide (¬ (e7.time = 0)))) (fun hg => by
        first | exact (aNe _ _ _) | (simp only [hg, Bool.true_and, Bool.and_true, cond_true, hg]; first | done | exact (aNe _ _ _))) ?_
      refine rf_gt (AV.bool ((decide (¬ (e7.delay = 0))) || (decide (¬ (e7.time = 0))))) (fun hg => by
        first | exact (pk_or _ _) | (simp only [hg, Bool.true_and, Bool.and_true, cond_true, hg]; first | done | exact (pk_or _ _))) ?_
      refine rf_s (AV.bool ((!e7.timed) && ((decide (¬ (e7.delay = 0))) || (decide (¬ (e7.time = 0)))))) (pk_and _ _) ?_
      refine rf_cb (c := ((!e7.timed) && ((decide (¬ (e7.delay = 0))) || (decide (¬ (e7.time = 0)))))) (fun c14 => ?_) (fun c14 => ?_)
      ·exact rf_ret (rnd_ret (by simp) ⟨_, rfl⟩)
      ·refine rf_s (AV.int .i64 e7.delay) rfl ?_
       refine rf_s ((AV.bool ((withinB e7.delay 0 36000000))), σ) (h_cue_isTime (σ := σ) (r := (withinB e7.delay 0 36000000)) rfl) ?_
       refine rf_s (AV.bool (!((withinB e7.delay 0 36000000)))) rfl ?_
       refine rf_gf (AV.int .i64 e7.time) (fun hg => by
         exact rfl) ?_
       refine rf_gf (AV.bool ((withinB e7.time 0 36000000))) (fun hg => by
         first | exact (quiet_of (h_cue_isTime (σ := σ) (r := (withinB e7.time 0 36000000)) rfl)) | (simp only [hg, Bool.true_and, Bool.and_true, cond_true, hg]; first | done | exact (quiet_of (h_cue_isTime (σ := σ) (r := (withinB e7.time 0 36000000)) rfl)))) ?_
       refine rf_gf (AV.bool (!((withinB e7.time 0 36000000)))) (fun hg => by
         first | exact rfl | (simp only [hg, Bool.true_and, Bool.and_true, cond_true, hg]; first | done | exact rfl)) ?_
       refine rf_s (AV.bool ((!((withinB e7.delay 0 36000000))) || (!((withinB e7.time 0 36000000))))) (pk_or _ _) ?_
       refine rf_cb (c := ((!((withinB e7.delay 0 36000000))) || (!((withinB e7.time 0 36000000))))) (fun c13 => ?_) (fun c13 => ?_)
       ·exact rf_ret (rnd_ret (by simp) ⟨_, rfl⟩)
       ·refine rf_s (AV.bool (decide (0 < (i8 : Int)))) rfl ?_
        refine rf_gt (sl 8 cMove a0) (fun hg => by
          exact rfl) ?_
        refine rf_gt (AV.int .i64 (i8 : Int)) (fun hg => by
          exact rfl) ?_
        refine rf_gt (AV.int .i64 (IntKind.i64.wrap ((i8 : Int) - 1))) (fun hg => by
          first | exact rfl | (simp only [hg, Bool.true_and, Bool.and_true, cond_true, hg]; first | done | exact rfl)) ?_
        refine rf_gto (ω := MoveD) (fun x10 => (AV.rp (cMove x10))) (fun hg x10 hx10 => by
          first | exact ix_at hx10 | (simp only [hg, Bool.true_and, Bool.and_true, cond_true, hg]; first | done | exact ix_at hx10)) (fun x10 hx10 => ?_)
        refine rf_gt (AV.rp (cMove x10)) (fun hg => by
          first | exact rfl | (simp only [hg, Bool.true_and, Bool.and_true, cond_true, hg]; first | done | exact rfl)) ?_
        refine rf_gt (AV.agg (cKey x10.key)) (fun hg => by
          first | exact rfl | (simp only [hg, Bool.true_and, Bool.and_true, cond_true, hg]; first | done | exact rfl)) ?_
        refine rf_gt (AV.agg (cKey e7.key)) (fun hg => by
          exact rfl) ?_
        refine rf_gto (ω := Int) (fun r11 => (AV.int .i64 r11)) (fun hg r11 hr11 => by
          first | exact (quiet_of (h_cue_compare hr11)) | (simp only [hg, Bool.true_and, Bool.and_true, cond_true, hg]; first | done | exact (quiet_of (h_cue_compare hr11)))) (fun r11 hr11 => ?_)
        refine rf_gt (AV.bool (decide (0 ≤ r11))) (fun hg => by
          first | exact rfl | (simp only [hg, Bool.true_and, Bool.and_true, cond_true, hg]; first | done | exact rfl)) ?_
        refine rf_s (AV.bool ((decide (0 < (i8 : Int))) && (decide (0 ≤ r11)))) (pk_and _ _) ?_
        refine rf_cb (c := ((decide (0 < (i8 : Int))) && (decide (0 ≤ r11)))) (fun c12 => ?_) (fun c12 => ?_)
        ·exact rf_ret (rnd_ret (by simp) ⟨_, rfl⟩)
        ·refine rf_s (AV.int .i64 ((i8 + 1 : Nat) : Int)) (ix_inc he7 hle7) ?_
         exact rf_ret (rnd_go ⟨rfl, rfl⟩)
 ·intro hl s1 v w3 hI
  obtain ⟨rfl, rfl⟩ := hI
  refine rf_s (AV.bool false) (ix_end _) ?_
  refine rf_cf ?_
  exact rf_ret ⟨by simp, ⟨_, _, rfl⟩⟩
 ·intro hl b2 q hq
  obtain ⟨u2, u7, rfl⟩ := hq
  refine rf_bt rfl ?_
  exact rf_fin _ (fin_same _ _) ⟨rfl, rfl⟩
 ·intro hl b2 q hq
  obtain ⟨u7, rfl⟩ := hq
  refine rf_bf rfl ?_
  refine rf_bt rfl ?_
  exact rf_fin _ (fin_same _ _) ⟨rfl, rfl⟩

noncomputable def t_cue_form (a0 : (List CueD)) : Option Int :=
 if 300 < (a0.length : Int) then
  some 2
 else
  forE a0 (fun (i8 : Nat) e7 (s1 : Int) => (show Option (Lr Int Int Int) from
    if (!(withinB e7.number 1 9999999)) = true then
     some (.ret 1)
    else
     (if decide (0 < (i8 : Int)) = true then tIx a0 (IntKind.i64.wrap ((i8 : Int) - 1)) else some default).bind fun x9 =>
     if ((decide (0 < (i8 : Int))) && (decide (e7.number ≤ x9.number))) = true then
      some (.ret 7)
     else
      (if decide (¬ (e7.title = (⟨#[]⟩ : ByteArray))) = true then tq (okS e7.title) (titleB e7.title) else some default).bind fun r10 =>
      if ((decide (¬ (e7.title = (⟨#[]⟩ : ByteArray)))) && (!r10)) = true then
       some (.ret 3)
      else
       if (((((!((withinB e7.delay 0 36000000))) || (!((withinB e7.up 0 36000000)))) || (!((withinB e7.down 0 36000000)))) || (!((withinB e7.other 0 36000000)))) || (!(withinB e7.follow (-1) 36000000))) = true then
        some (.ret 1)
       else
        if ¬ ((curveF e7.curve) = 0) then
         some (.ret (curveF e7.curve))
        else
         if 2000 < (e7.moves.length : Int) then
          some (.ret 2)
         else
          (t_cue_checkMoves e7.moves).bind fun r11 =>
          if ¬ (r11 = 0) then
           some (.ret r11)
          else
           some (.go (IntKind.i64.wrap (s1 + (e7.moves.length : Int)))))) (fun s1 => some s1) 0 (fun b2 =>
   some (if (decide (10000 < b2)) = true then 2 else 0)) (fun b2 =>
   some b2)
theorem h_cue_form {a0 : (List CueD)} {σ : Heap} {r : Int} (h : t_cue_form a0 = some r) : m_cue_form [(sl 11 cCue a0)] σ = some ((AV.int .i64 r), σ) := by
 refine rf_wrap1 (f := r_cue_form) (y0 := (sl 11 cCue a0)) (enc := fun r : Int => (AV.int .i64 r)) (T := t_cue_form a0) rfl rfl ?_ r h
 unfold r_cue_form t_cue_form
 refine rf_s (AV.int .i64 (a0.length : Int)) (lenS_sl _ _ _) ?_
 refine rf_s (AV.bool (decide (300 < (a0.length : Int)))) rfl ?_
 refine rf_c (p := 300 < (a0.length : Int)) (fun c19 => ?_) (fun c19 => ?_)
 ·exact rf_fin _ (fin_same _ _) ⟨rfl, rfl⟩
 ·refine rf_s (AV.int .i64 (a0.length : Int)) (lenS_sl _ _ _) ?_
  refine rf_for (B := Int) (R := Int) (fun (i8 : Nat) (s1 : Int) v w3 => v = [(AV.int .i64 0), (AV.int .i64 s1), (AV.int .i64 (i8 : Int))] ∧ σ = w3) (fun (b2 : Int) (q : LS) => ∃ u2 u13, q = ((AX.exit 0), ([u2, (AV.int .i64 b2), u13] : List AV), σ)) (fun (b2 : Int) (q : LS) => ∃ u3 u13, q = (AX.ret, ([(AV.int .i64 b2), u3, u13] : List AV), σ)) ?_ ?_ ⟨rfl, rfl⟩ ?_ ?_
  ·intro hle7 i8 e7 s1 v w3 he7 hI
   obtain ⟨rfl, rfl⟩ := hI
   refine rf_s (AV.bool true) (ix_lt he7) ?_
   refine rf_ct ?_
   refine rf_s (AV.rp (cCue e7)) (ix_for he7) ?_
   refine rf_s (AV.agg (cCue e7)) rfl ?_
   refine rf_s (cCue e7) rfl ?_
   refine rf_s (cCue e7) (sp_cCue _ _ rfl) ?_
   refine rf_s (AV.int .i64 e7.number) rfl ?_
   refine rf_s ((AV.bool (withinB e7.number 1 9999999)), σ) (Within_eq e7.number 1 9999999 σ) ?_
   refine rf_s (AV.bool (!(withinB e7.number 1 9999999))) rfl ?_
   refine rf_cb (c := (!(withinB e7.number 1 9999999))) (fun c18 => ?_) (fun c18 => ?_)
   ·exact rf_ret (rnd_ret (by simp) ⟨_, _, rfl⟩)
   ·refine rf_s (AV.bool (decide (0 < (i8 : Int)))) rfl ?_
    refine rf_gt (AV.int .i64 e7.number) (fun hg => by
      exact rfl) ?_
    refine rf_gt (sl 11 cCue a0) (fun hg => by
      exact rfl) ?_
    refine rf_gt (AV.int .i64 (i8 : Int)) (fun hg => by
      exact rfl) ?_
    refine rf_gt (AV.int .i64 (IntKind.i64.wrap ((i8 : Int) - 1))) (fun hg => by
      first | exact rfl | (simp only [hg, Bool.true_and, Bool.and_true, cond_true, hg]; first | done | exact rfl)) ?_
    refine rf_gto (ω := CueD) (fun x9 => (AV.rp (cCue x9))) (fun hg x9 hx9 => by
      first | exact ix_at hx9 | (simp only [hg, Bool.true_and, Bool.and_true, cond_true, hg]; first | done | exact ix_at hx9)) (fun x9 hx9 => ?_)
    refine rf_gt (AV.rp (cCue x9)) (fun hg => by
      first | exact rfl | (simp only [hg, Bool.true_and, Bool.and_true, cond_true, hg]; first | done | exact rfl)) ?_
    refine rf_gt (AV.int .i64 x9.number) (fun hg => by
      first | exact rfl | (simp only [hg, Bool.true_and, Bool.and_true, cond_true, hg]; first | done | exact rfl)) ?_
    refine rf_gt (AV.bool (decide (e7.number ≤ x9.number))) (fun hg => by
      first | exact rfl | (simp only [hg, Bool.true_and, Bool.and_true, cond_true, hg]; first | done | exact rfl)) ?_
    refine rf_s (AV.bool ((decide (0 < (i8 : Int))) && (decide (e7.number ≤ x9.number)))) (pk_and _ _) ?_
    refine rf_cb (c := ((decide (0 < (i8 : Int))) && (decide (e7.number ≤ x9.number)))) (fun c17 => ?_) (fun c17 => ?_)
    ·exact rf_ret (rnd_ret (by simp) ⟨_, _, rfl⟩)
    ·refine rf_s (AV.str e7.title) rfl ?_
     refine rf_s (AV.bool (decide (¬ (e7.title = (⟨#[]⟩ : ByteArray))))) (aNeZ _ _) ?_
     refine rf_gt (AV.str e7.title) (fun hg => by
       exact rfl) ?_
     refine rf_gto (ω := Bool) (fun r10 => (AV.bool r10)) (fun hg r10 hr10 => by
       first | exact (quiet_of ((tq_of (e := fun r : Bool => ((AV.bool r), σ)) (fun hs => Title_eq e7.title hs σ)) hr10)) | (simp only [hg, Bool.true_and, Bool.and_true, cond_true, hg]; first | done | exact (quiet_of ((tq_of (e := fun r : Bool => ((AV.bool r), σ)) (fun hs => Title_eq e7.title hs σ)) hr10)))) (fun r10 hr10 => ?_)
     refine rf_gt (AV.bool (!r10)) (fun hg => by
       first | exact rfl | (simp only [hg, Bool.true_and, Bool.and_true, cond_true, hg]; first | done | exact rfl)) ?_
     refine rf_s (AV.bool ((decide (¬ (e7.title = (⟨#[]⟩ : ByteArray)))) && (!r10))) (pk_and _ _) ?_
     refine rf_cb (c := ((decide (¬ (e7.title = (⟨#[]⟩ : ByteArray)))) && (!r10))) (fun c16 => ?_) (fun c16 => ?_)
     ·exact rf_ret (rnd_ret (by simp) ⟨_, _, rfl⟩)
     ·refine rf_s (AV.int .i64 e7.delay) rfl ?_
      refine rf_s ((AV.bool ((withinB e7.delay 0 36000000))), σ) (h_cue_isTime (σ := σ) (r := (withinB e7.delay 0 36000000)) rfl) ?_
      refine rf_s (AV.bool (!((withinB e7.delay 0 36000000)))) rfl ?_
      refine rf_gf (AV.int .i64 e7.up) (fun hg => by
        exact rfl) ?_
      refine rf_gf (AV.bool ((withinB e7.up 0 36000000))) (fun hg => by
        first | exact (quiet_of (h_cue_isTime (σ := σ) (r := (withinB e7.up 0 36000000)) rfl)) | (simp only [hg, Bool.true_and, Bool.and_true, cond_true, hg]; first | done | exact (quiet_of (h_cue_isTime (σ := σ) (r := (withinB e7.up 0 36000000)) rfl)))) ?_
      refine rf_gf (AV.bool (!((withinB e7.up 0 36000000)))) (fun hg => by
        first | exact rfl | (simp only [hg, Bool.true_and, Bool.and_true, cond_true, hg]; first | done | exact rfl)) ?_
      refine rf_s (AV.bool ((!((withinB e7.delay 0 36000000))) || (!((withinB e7.up 0 36000000))))) (pk_or _ _) ?_
      refine rf_gf (AV.int .i64 e7.down) (fun hg => by
        exact rfl) ?_
      refine rf_gf (AV.bool ((withinB e7.down 0 36000000))) (fun hg => by
        first | exact (quiet_of (h_cue_isTime (σ := σ) (r := (withinB e7.down 0 36000000)) rfl)) | (simp only [hg, Bool.true_and, Bool.and_true, cond_true, hg]; first | done | exact (quiet_of (h_cue_isTime (σ := σ) (r := (withinB e7.down 0 36000000)) rfl)))) ?_
      refine rf_gf (AV.bool (!((withinB e7.down 0 36000000)))) (fun hg => by
        first | exact rfl | (simp only [hg, Bool.true_and, Bool.and_true, cond_true, hg]; first | done | exact rfl)) ?_
      refine rf_s (AV.bool (((!((withinB e7.delay 0 36000000))) || (!((withinB e7.up 0 36000000)))) || (!((withinB e7.down 0 36000000))))) (pk_or _ _) ?_
      refine rf_gf (AV.int .i64 e7.other) (fun hg => by
        exact rfl) ?_
      refine rf_gf (AV.bool ((withinB e7.other 0 36000000))) (fun hg => by
        first | exact (quiet_of (h_cue_isTime (σ := σ) (r := (withinB e7.other 0 36000000)) rfl)) | (simp only [hg, Bool.true_and, Bool.and_true, cond_true, hg]; first | done | exact (quiet_of (h_cue_isTime (σ := σ) (r := (withinB e7.other 0 36000000)) rfl)))) ?_
      refine rf_gf (AV.bool (!((withinB e7.other 0 36000000)))) (fun hg => by
        first | exact rfl | (simp only [hg, Bool.true_and, Bool.and_true, cond_true, hg]; first | done | exact rfl)) ?_
      refine rf_s (AV.bool ((((!((withinB e7.delay 0 36000000))) || (!((withinB e7.up 0 36000000)))) || (!((withinB e7.down 0 36000000)))) || (!((withinB e7.other 0 36000000))))) (pk_or _ _) ?_
      refine rf_gf (AV.int .i64 e7.follow) (fun hg => by
        exact rfl) ?_
      refine rf_gf (AV.bool (withinB e7.follow (-1) 36000000)) (fun hg => by
        first | exact (quiet_of (Within_eq e7.follow (-1) 36000000 σ)) | (simp only [hg, Bool.true_and, Bool.and_true, cond_true, hg]; first | done | exact (quiet_of (Within_eq e7.follow (-1) 36000000 σ)))) ?_
      refine rf_gf (AV.bool (!(withinB e7.follow (-1) 36000000))) (fun hg => by
        first | exact rfl | (simp only [hg, Bool.true_and, Bool.and_true, cond_true, hg]; first | done | exact rfl)) ?_
      refine rf_s (AV.bool (((((!((withinB e7.delay 0 36000000))) || (!((withinB e7.up 0 36000000)))) || (!((withinB e7.down 0 36000000)))) || (!((withinB e7.other 0 36000000)))) || (!(withinB e7.follow (-1) 36000000)))) (pk_or _ _) ?_
      refine rf_cb (c := (((((!((withinB e7.delay 0 36000000))) || (!((withinB e7.up 0 36000000)))) || (!((withinB e7.down 0 36000000)))) || (!((withinB e7.other 0 36000000)))) || (!(withinB e7.follow (-1) 36000000)))) (fun c15 => ?_) (fun c15 => ?_)
      ·exact rf_ret (rnd_ret (by simp) ⟨_, _, rfl⟩)
      ·refine rf_s (AV.agg (cCurve e7.curve)) rfl ?_
       refine rf_s ((AV.int .i64 (curveF e7.curve)), σ) (CheckCurve_eq e7.curve σ) ?_
       refine rf_s (AV.bool (decide (¬ ((curveF e7.curve) = 0)))) (aNe _ _ _) ?_
       refine rf_c (p := ¬ ((curveF e7.curve) = 0)) (fun c14 => ?_) (fun c14 => ?_)
       ·exact rf_ret (rnd_ret (by simp) ⟨_, _, rfl⟩)
       ·refine rf_s (sl 8 cMove e7.moves) rfl ?_
        refine rf_s (AV.int .i64 (e7.moves.length : Int)) (lenS_sl _ _ _) ?_
        refine rf_s (AV.bool (decide (2000 < (e7.moves.length : Int)))) rfl ?_
        refine rf_c (p := 2000 < (e7.moves.length : Int)) (fun c13 => ?_) (fun c13 => ?_)
        ·exact rf_ret (rnd_ret (by simp) ⟨_, _, rfl⟩)
        ·refine rf_s (sl 8 cMove e7.moves) rfl ?_
         refine rf_o (fun r11 : Int => ((AV.int .i64 r11), σ)) (fun r11 hr11 => h_cue_checkMoves hr11) (fun r11 hr11 => ?_)
         refine rf_s (AV.bool (decide (¬ (r11 = 0)))) (aNe _ _ _) ?_
         refine rf_c (p := ¬ (r11 = 0)) (fun c12 => ?_) (fun c12 => ?_)
         ·exact rf_ret (rnd_ret (by simp) ⟨_, _, rfl⟩)
         ·refine rf_s (sl 8 cMove e7.moves) rfl ?_
          refine rf_s (AV.int .i64 (e7.moves.length : Int)) (lenS_sl _ _ _) ?_
          refine rf_s (AV.int .i64 (IntKind.i64.wrap (s1 + (e7.moves.length : Int)))) rfl ?_
          refine rf_s (AV.int .i64 ((i8 + 1 : Nat) : Int)) (ix_inc he7 hle7) ?_
          exact rf_ret (rnd_go ⟨rfl, rfl⟩)
  ·intro hl s1 v w3 hI
   obtain ⟨rfl, rfl⟩ := hI
   refine rf_s (AV.bool false) (ix_end _) ?_
   refine rf_cf ?_
   exact rf_ret ⟨by simp, ⟨_, _, rfl⟩⟩
  ·intro hl b2 q hq
   obtain ⟨u2, u13, rfl⟩ := hq
   refine rf_bt rfl ?_
   refine rf_s (AV.bool (decide (10000 < b2))) rfl ?_
   refine rf_s ((AV.int .i64 (if (decide (10000 < b2)) = true then 2 else 0)), σ) (When_eq (decide (10000 < b2)) 2 σ) ?_
   exact rf_fin _ (fin_same _ _) ⟨rfl, rfl⟩
  ·intro hl b2 q hq
   obtain ⟨u3, u13, rfl⟩ := hq
   refine rf_bf rfl ?_
   refine rf_bt rfl ?_
   exact rf_fin _ (fin_same _ _) ⟨rfl, rfl⟩

noncomputable def t_pick_keys (a0 : RigD) : Option (List (KeyD × Bool)) :=
 (tq (okRig a0) (((if rigF a0 = 0 then keysOf a0 else [] : List KeyD), rigF a0))).bind fun r1 =>
 forE r1.1 (fun (i11 : Nat) e10 (s4 : (List (KeyD × Bool))) => (show Option (Lr (List (KeyD × Bool)) (List (KeyD × Bool)) Unit) from
   some (.go (tupd e10 true s4)))) (fun s4 => some s4) ([] : List (KeyD × Bool)) (fun b5 =>
  some b5) (fun b5 =>
  none)
theorem h_pick_keys {a0 : RigD} {σ : Heap} {r : (List (KeyD × Bool))} (h : t_pick_keys a0 = some r) : m_pick_keys [(AV.agg (cRig a0))] σ = some ((fmE (fun x => (AV.agg (cKey x))) (fun x => (AV.bool x)) r), σ) := by
 refine rf_wrap1 (f := r_pick_keys) (y0 := (AV.agg (cRig a0))) (enc := fun r : (List (KeyD × Bool)) => (fmE (fun x => (AV.agg (cKey x))) (fun x => (AV.bool x)) r)) (T := t_pick_keys a0) rfl rfl ?_ r h
 unfold r_pick_keys t_pick_keys
 refine rf_s (cRig a0) rfl ?_
 refine rf_s (AV.agg (cRig a0)) rfl ?_
 refine rf_o (fun r1 : ((List KeyD) × Int) => ((AV.tup [(sl 2 cKey r1.1), (AV.int .i64 r1.2)]), σ)) (fun r1 hr1 => (tq_of (e := fun r : ((List KeyD) × Int) => ((AV.tup [(sl 2 cKey r.1), (AV.int .i64 r.2)]), σ)) (fun hs => Keys_eq a0 hs σ)) hr1) (fun r1 hr1 => ?_)
 refine rf_s (sl 2 cKey r1.1) rfl ?_
 refine rf_s (AV.int .i64 r1.2) rfl ?_
 have hp2 : Hp σ σ [] := hp_nil σ
 have hp3 : Hp σ (σ ++ [Blk.map []]) [((AV.om σ.length), (Ct.m (List.map (fun p => ((fun x => (AV.agg (cKey x))) p.1, (fun x => (AV.bool x)) p.2)) ([] : List (KeyD × Bool)))))] := hp_om hp2
 refine rf_s (AV.int .i64 (r1.1.length : Int)) (lenS_sl _ _ _) ?_
 refine rf_for (B := (List (KeyD × Bool))) (R := Unit) (fun (i11 : Nat) (s4 : (List (KeyD × Bool))) v w6 => v = [(AV.int .i64 (i11 : Int))] ∧ Hp σ w6 [((AV.om σ.length), (Ct.m (List.map (fun p => ((fun x => (AV.agg (cKey x))) p.1, (fun x => (AV.bool x)) p.2)) s4)))]) (fun (b5 : (List (KeyD × Bool))) (q : LS) => ∃ u16 w7, q = ((AX.exit 0), ([u16] : List AV), w7) ∧ Hp σ w7 [((AV.om σ.length), (Ct.m (List.map (fun p => ((fun x => (AV.agg (cKey x))) p.1, (fun x => (AV.bool x)) p.2)) b5)))]) (fun (b5 : Unit) (q : LS) => False) ?_ ?_ ⟨rfl, hp3⟩ ?_ ?_
 ·intro hle10 i11 e10 s4 v w6 he10 hI
  obtain ⟨rfl, hp8⟩ := hI
  refine rf_s (AV.bool true) (ix_lt he10) ?_
  refine rf_ct ?_
  refine rf_s (AV.rp (cKey e10)) (ix_for he10) ?_
  refine rf_s (AV.agg (cKey e10)) rfl ?_
  refine rf_s (cKey e10) rfl ?_
  refine rf_s (cKey e10) (sp_cKey _ _ rfl) ?_
  refine rf_s (AV.agg (cKey e10)) rfl ?_
  obtain ⟨w12, e14, hp13⟩ := hp_updT (ek := (.s [0, 2])) (eK := (fun x => (AV.agg (cKey x)))) (eV := (fun x => (AV.bool x))) hp8 0 rfl eqk_Key e10 true rfl
  change Hp σ w12 [((AV.om σ.length), (Ct.m (List.map (fun p => ((fun x => (AV.agg (cKey x))) p.1, (fun x => (AV.bool x)) p.2)) (tupd e10 true s4))))] at hp13
  refine rf_s w12 e14 ?_
  refine rf_s (AV.int .i64 ((i11 + 1 : Nat) : Int)) (ix_inc he10 hle10) ?_
  exact rf_ret (rnd_go ⟨rfl, hp13⟩)
 ·intro hl s4 v w6 hI
  obtain ⟨rfl, hp8⟩ := hI
  refine rf_s (AV.bool false) (ix_end _) ?_
  refine rf_cf ?_
  exact rf_ret ⟨by simp, ⟨_, _, rfl, hp8⟩⟩
 ·intro hl b5 q hq
  obtain ⟨u16, w7, rfl, hp9⟩ := hq
  refine rf_bt rfl ?_
  exact rf_fin _ (hp_fin hp9 (fzv_om hp9 (k := 0) rfl (by intro p hp; obtain ⟨x, _, rfl⟩ := List.mem_map.1 hp; exact ⟨(fz_agg (fz_cKey _)), (fz_bool _)⟩))) ⟨rfl, rfl⟩
 ·intro hl b5 q hq
  exact False.elim hq

noncomputable def t_pick_before (a0 : KeyD) (a1 : KeyD) : Option Bool :=
 if ¬ (a0.unit = a1.unit) then
  some (decide (a0.unit < a1.unit))
 else
  some (decide ((Lib.compareBytes a0.param.data.toList a1.param.data.toList) < 0))
theorem h_pick_before {a0 : KeyD} { a1 : KeyD} {σ : Heap} {r : Bool} (h : t_pick_before a0 a1 = some r) : m_pick_before [(AV.agg (cKey a0)), (AV.agg (cKey a1))] σ = some ((AV.bool r), σ) := by
 refine rf_wrap2 (f := r_pick_before) (y0 := (AV.agg (cKey a0))) (y1 := (AV.agg (cKey a1))) (enc := fun r : Bool => (AV.bool r)) (T := t_pick_before a0 a1) rfl rfl ?_ r h
 unfold r_pick_before t_pick_before
 refine rf_s (cKey a0) rfl ?_
 refine rf_s (cKey a1) rfl ?_
 refine rf_s (AV.int .i64 a0.unit) rfl ?_
 refine rf_s (AV.int .i64 a1.unit) rfl ?_
 refine rf_s (AV.bool (decide (¬ (a0.unit = a1.unit)))) (aNe _ _ _) ?_
 refine rf_c (p := ¬ (a0.unit = a1.unit)) (fun c1 => ?_) (fun c1 => ?_)
 ·refine rf_s (AV.int .i64 a0.unit) rfl ?_
  refine rf_s (AV.int .i64 a1.unit) rfl ?_
  refine rf_s (AV.bool (decide (a0.unit < a1.unit))) rfl ?_
  exact rf_fin _ (fin_same _ _) ⟨rfl, rfl⟩
 ·refine rf_s (AV.str a0.param) rfl ?_
  refine rf_s (AV.str a1.param) rfl ?_
  refine rf_s ((AV.int .i64 (Lib.compareBytes a0.param.data.toList a1.param.data.toList)), σ) (rfl) ?_
  refine rf_s (AV.bool (decide ((Lib.compareBytes a0.param.data.toList a1.param.data.toList) < 0))) rfl ?_
  exact rf_fin _ (fin_same _ _) ⟨rfl, rfl⟩

noncomputable def t_pick_CheckPresets (a0 : RigD) (a1 : (List PresetD)) : Option Int :=
 (tq (okRig a0) (rigF a0)).bind fun r1 =>
 (tq (([r1, (if (decide (200 < (a1.length : Int))) = true then 2 else 0)] : (List Int)).length ≤ mxl) ((([r1, (if (decide (200 < (a1.length : Int))) = true then 2 else 0)] : (List Int)).find? fun n => decide (¬ n = 0)).getD 0)).bind fun r2 =>
 if ¬ (r2 = 0) then
  some r2
 else
  (t_pick_keys a0).bind fun r3 =>
  forE a1 (fun (i11 : Nat) e10 (s4 : Unit) => (show Option (Lr Unit Unit Int) from
    if (!(withinB e10.number 1 999)) = true then
     some (.ret 1)
    else
     (if decide (0 < (i11 : Int)) = true then tIx a1 (IntKind.i64.wrap ((i11 : Int) - 1)) else some default).bind fun x12 =>
     if ((decide (0 < (i11 : Int))) && (decide (e10.number ≤ x12.number))) = true then
      some (.ret 7)
     else
      (tq (okS e10.title) (blankB e10.title)).bind fun r13 =>
      if (!r13) = true then
       some (.ret 3)
      else
       if 2000 < (e10.settings.length : Int) then
        some (.ret 2)
       else
        forE e10.settings (fun (i21 : Nat) e20 (s14 : Unit) => (show Option (Lr Unit Unit Int) from
          if (!((tfind e20.key r3).getD false)) = true then
           some (.ret 8)
          else
           if (!(withinB e20.level 0 65535)) = true then
            some (.ret 1)
           else
            (if decide (0 < (i21 : Int)) = true then tIx e10.settings (IntKind.i64.wrap ((i21 : Int) - 1)) else some default).bind fun x22 =>
            (if decide (0 < (i21 : Int)) = true then t_pick_before x22.key e20.key else some default).bind fun r23 =>
            if ((decide (0 < (i21 : Int))) && (!r23)) = true then
             some (.ret 7)
            else
             some (.go ()))) (fun s14 => some ()) () (fun b15 =>
         some (.go ())) (fun b15 =>
         some (.ret b15)))) (fun s4 => some ()) () (fun b5 =>
   some 0) (fun b5 =>
   some b5)
theorem h_pick_CheckPresets {a0 : RigD} { a1 : (List PresetD)} {σ : Heap} {r : Int} (h : t_pick_CheckPresets a0 a1 = some r) : m_pick_CheckPresets [(AV.agg (cRig a0)), (sl 3 cPreset a1)] σ = some ((AV.int .i64 r), σ) := by
 refine rf_wrap2 (f := r_pick_CheckPresets) (y0 := (AV.agg (cRig a0))) (y1 := (sl 3 cPreset a1)) (enc := fun r : Int => (AV.int .i64 r)) (T := t_pick_CheckPresets a0 a1) rfl rfl ?_ r h
 unfold r_pick_CheckPresets t_pick_CheckPresets
 refine rf_s (cRig a0) rfl ?_
 refine rf_s (AV.agg (cRig a0)) rfl ?_
 refine rf_o (fun r1 : Int => ((AV.int .i64 r1), σ)) (fun r1 hr1 => (tq_of (e := fun r : Int => ((AV.int .i64 r), σ)) (fun hs => CheckRig_eq a0 hs σ)) hr1) (fun r1 hr1 => ?_)
 refine rf_s (AV.int .i64 (a1.length : Int)) (lenS_sl _ _ _) ?_
 refine rf_s (AV.bool (decide (200 < (a1.length : Int)))) rfl ?_
 refine rf_s ((AV.int .i64 (if (decide (200 < (a1.length : Int))) = true then 2 else 0)), σ) (When_eq (decide (200 < (a1.length : Int))) 2 σ) ?_
 refine rf_s (sl 1 cInt ([r1, (if (decide (200 < (a1.length : Int))) = true then 2 else 0)] : (List Int))) rfl ?_
 refine rf_o (fun r2 : Int => ((AV.int .i64 r2), σ)) (fun r2 hr2 => (tq_of (e := fun r : Int => ((AV.int .i64 r), σ)) (fun hs => First_eq ([r1, (if (decide (200 < (a1.length : Int))) = true then 2 else 0)] : (List Int)) hs σ)) hr2) (fun r2 hr2 => ?_)
 refine rf_s (AV.bool (decide (¬ (r2 = 0)))) (aNe _ _ _) ?_
 refine rf_c (p := ¬ (r2 = 0)) (fun c31 => ?_) (fun c31 => ?_)
 ·exact rf_fin _ (fin_same _ _) ⟨rfl, rfl⟩
 ·refine rf_s (AV.agg (cRig a0)) rfl ?_
  refine rf_o (fun r3 : (List (KeyD × Bool)) => ((fmE (fun x => (AV.agg (cKey x))) (fun x => (AV.bool x)) r3), σ)) (fun r3 hr3 => h_pick_keys hr3) (fun r3 hr3 => ?_)
  refine rf_s (AV.int .i64 (a1.length : Int)) (lenS_sl _ _ _) ?_
  refine rf_for (B := Unit) (R := Int) (fun (i11 : Nat) (s4 : Unit) v w6 => ∃ u4, v = [u4, (AV.int .i64 (i11 : Int))] ∧ σ = w6) (fun (b5 : Unit) (q : LS) => ∃ u4 u26, q = ((AX.exit 0), ([u4, u26] : List AV), σ)) (fun (b5 : Int) (q : LS) => ∃ u26, q = (AX.ret, ([(AV.int .i64 b5), u26] : List AV), σ)) ?_ ?_ ⟨_, rfl, rfl⟩ ?_ ?_
  ·intro hle10 i11 e10 s4 v w6 he10 hI
   obtain ⟨u4, rfl, rfl⟩ := hI
   refine rf_s (AV.bool true) (ix_lt he10) ?_
   refine rf_ct ?_
   refine rf_s (AV.rp (cPreset e10)) (ix_for he10) ?_
   refine rf_s (AV.agg (cPreset e10)) rfl ?_
   refine rf_s (cPreset e10) rfl ?_
   refine rf_s (cPreset e10) (sp_cPreset _ _ rfl) ?_
   refine rf_s (AV.int .i64 e10.number) rfl ?_
   refine rf_s ((AV.bool (withinB e10.number 1 999)), σ) (Within_eq e10.number 1 999 σ) ?_
   refine rf_s (AV.bool (!(withinB e10.number 1 999))) rfl ?_
   refine rf_cb (c := (!(withinB e10.number 1 999))) (fun c30 => ?_) (fun c30 => ?_)
   ·exact rf_ret (rnd_ret (by simp) ⟨_, rfl⟩)
   ·refine rf_s (AV.bool (decide (0 < (i11 : Int)))) rfl ?_
    refine rf_gt (AV.int .i64 e10.number) (fun hg => by
      exact rfl) ?_
    refine rf_gt (sl 3 cPreset a1) (fun hg => by
      exact rfl) ?_
    refine rf_gt (AV.int .i64 (i11 : Int)) (fun hg => by
      exact rfl) ?_
    refine rf_gt (AV.int .i64 (IntKind.i64.wrap ((i11 : Int) - 1))) (fun hg => by
      first | exact rfl | (simp only [hg, Bool.true_and, Bool.and_true, cond_true, hg]; first | done | exact rfl)) ?_
    refine rf_gto (ω := PresetD) (fun x12 => (AV.rp (cPreset x12))) (fun hg x12 hx12 => by
      first | exact ix_at hx12 | (simp only [hg, Bool.true_and, Bool.and_true, cond_true, hg]; first | done | exact ix_at hx12)) (fun x12 hx12 => ?_)
    refine rf_gt (AV.rp (cPreset x12)) (fun hg => by
      first | exact rfl | (simp only [hg, Bool.true_and, Bool.and_true, cond_true, hg]; first | done | exact rfl)) ?_
    refine rf_gt (AV.int .i64 x12.number) (fun hg => by
      first | exact rfl | (simp only [hg, Bool.true_and, Bool.and_true, cond_true, hg]; first | done | exact rfl)) ?_
    refine rf_gt (AV.bool (decide (e10.number ≤ x12.number))) (fun hg => by
      first | exact rfl | (simp only [hg, Bool.true_and, Bool.and_true, cond_true, hg]; first | done | exact rfl)) ?_
    refine rf_s (AV.bool ((decide (0 < (i11 : Int))) && (decide (e10.number ≤ x12.number)))) (pk_and _ _) ?_
    refine rf_cb (c := ((decide (0 < (i11 : Int))) && (decide (e10.number ≤ x12.number)))) (fun c29 => ?_) (fun c29 => ?_)
    ·exact rf_ret (rnd_ret (by simp) ⟨_, rfl⟩)
    ·refine rf_s (AV.str e10.title) rfl ?_
     refine rf_o (fun r13 : Bool => ((AV.bool r13), σ)) (fun r13 hr13 => (tq_of (e := fun r : Bool => ((AV.bool r), σ)) (fun hs => blank_eq e10.title hs σ)) hr13) (fun r13 hr13 => ?_)
     refine rf_s (AV.bool (!r13)) rfl ?_
     refine rf_cb (c := (!r13)) (fun c28 => ?_) (fun c28 => ?_)
     ·exact rf_ret (rnd_ret (by simp) ⟨_, rfl⟩)
     ·refine rf_s (sl 3 cSetting e10.settings) rfl ?_
      refine rf_s (AV.int .i64 (e10.settings.length : Int)) (lenS_sl _ _ _) ?_
      refine rf_s (AV.bool (decide (2000 < (e10.settings.length : Int)))) rfl ?_
      refine rf_c (p := 2000 < (e10.settings.length : Int)) (fun c27 => ?_) (fun c27 => ?_)
      ·exact rf_ret (rnd_ret (by simp) ⟨_, rfl⟩)
      ·refine rf_s (sl 3 cSetting e10.settings) rfl ?_
       refine rf_s (AV.int .i64 (e10.settings.length : Int)) (lenS_sl _ _ _) ?_
       refine rf_for (B := Unit) (R := Int) (fun (i21 : Nat) (s14 : Unit) v w16 => ∃ u4, v = [u4, (AV.lbx (cPreset e10)), (AV.int .i64 (i21 : Int))] ∧ σ = w16) (fun (b15 : Unit) (q : LS) => ∃ u4 u8 u63, q = ((AX.exit 3), ([u4, u8, u63] : List AV), σ)) (fun (b15 : Int) (q : LS) => ∃ u8 u63, q = (AX.ret, ([(AV.int .i64 b15), u8, u63] : List AV), σ)) ?_ ?_ ⟨_, rfl, rfl⟩ ?_ ?_
       ·intro hle20 i21 e20 s14 v w16 he20 hI
        obtain ⟨u4, rfl, rfl⟩ := hI
        refine rf_s (AV.bool true) (ix_lt he20) ?_
        refine rf_ct ?_
        refine rf_s (AV.rp (cSetting e20)) (ix_for he20) ?_
        refine rf_s (AV.agg (cSetting e20)) rfl ?_
        refine rf_s (cSetting e20) rfl ?_
        refine rf_s (cSetting e20) (sp_cSetting _ _ rfl) ?_
        refine rf_s (AV.agg (cKey e20.key)) rfl ?_
        refine rf_s (AV.bool ((tfind e20.key r3).getD false)) (fm_lookT (ek := (.s [0, 2])) (eK := (fun x => (AV.agg (cKey x)))) (eV := (fun x => (AV.bool x))) eqk_Key e20.key false rfl) ?_
        refine rf_s (AV.bool (!((tfind e20.key r3).getD false))) rfl ?_
        refine rf_cb (c := (!((tfind e20.key r3).getD false))) (fun c26 => ?_) (fun c26 => ?_)
        ·exact rf_ret (rnd_ret (by simp) ⟨_, _, rfl⟩)
        ·refine rf_s (AV.int .i64 e20.level) rfl ?_
         refine rf_s ((AV.bool (withinB e20.level 0 65535)), σ) (isLevelP_eq e20.level σ) ?_
         refine rf_s (AV.bool (!(withinB e20.level 0 65535))) rfl ?_
         refine rf_cb (c := (!(withinB e20.level 0 65535))) (fun c25 => ?_) (fun c25 => ?_)
         ·exact rf_ret (rnd_ret (by simp) ⟨_, _, rfl⟩)
         ·refine rf_s (AV.bool (decide (0 < (i21 : Int)))) rfl ?_
          refine rf_s _ rfl ?_
          refine rf_gt (sl 3 cSetting e10.settings) (fun hg => by
            exact rfl) ?_
          refine rf_gt (AV.int .i64 (i21 : Int)) (fun hg => by
            exact rfl) ?_
          refine rf_gt (AV.int .i64 (IntKind.i64.wrap ((i21 : Int) - 1))) (fun hg => by
            first | exact rfl | (simp only [hg, Bool.true_and, Bool.and_true, cond_true, hg]; first | done | exact rfl)) ?_
          refine rf_gto (ω := SettingD) (fun x22 => (AV.rp (cSetting x22))) (fun hg x22 hx22 => by
            first | exact ix_at hx22 | (simp only [hg, Bool.true_and, Bool.and_true, cond_true, hg]; first | done | exact ix_at hx22)) (fun x22 hx22 => ?_)
          refine rf_gt (AV.rp (cSetting x22)) (fun hg => by
            first | exact rfl | (simp only [hg, Bool.true_and, Bool.and_true, cond_true, hg]; first | done | exact rfl)) ?_
          refine rf_gt (AV.agg (cKey x22.key)) (fun hg => by
            first | exact rfl | (simp only [hg, Bool.true_and, Bool.and_true, cond_true, hg]; first | done | exact rfl)) ?_
          refine rf_gt (AV.agg (cKey e20.key)) (fun hg => by
            exact rfl) ?_
          refine rf_gto (ω := Bool) (fun r23 => (AV.bool r23)) (fun hg r23 hr23 => by
            first | exact (quiet_of (h_pick_before hr23)) | (simp only [hg, Bool.true_and, Bool.and_true, cond_true, hg]; first | done | exact (quiet_of (h_pick_before hr23)))) (fun r23 hr23 => ?_)
          refine rf_gt (AV.bool (!r23)) (fun hg => by
            first | exact rfl | (simp only [hg, Bool.true_and, Bool.and_true, cond_true, hg]; first | done | exact rfl)) ?_
          refine rf_s (AV.bool ((decide (0 < (i21 : Int))) && (!r23))) (pk_and _ _) ?_
          refine rf_cb (c := ((decide (0 < (i21 : Int))) && (!r23))) (fun c24 => ?_) (fun c24 => ?_)
          ·exact rf_ret (rnd_ret (by simp) ⟨_, _, rfl⟩)
          ·refine rf_s (AV.int .i64 ((i21 + 1 : Nat) : Int)) (ix_inc he20 hle20) ?_
           exact rf_ret (rnd_go ⟨_, rfl, rfl⟩)
       ·intro hl s14 v w16 hI
        obtain ⟨u4, rfl, rfl⟩ := hI
        refine rf_s (AV.bool false) (ix_end _) ?_
        refine rf_cf ?_
        exact rf_ret ⟨by simp, ⟨_, _, _, rfl⟩⟩
       ·intro hl b15 q hq
        obtain ⟨u4, u8, u63, rfl⟩ := hq
        refine rf_bt rfl ?_
        refine rf_s (AV.int .i64 ((i11 + 1 : Nat) : Int)) (ix_inc he10 hle10) ?_
        exact rf_ret (rnd_go ⟨_, rfl, rfl⟩)
       ·intro hl b15 q hq
        obtain ⟨u8, u63, rfl⟩ := hq
        refine rf_bf rfl ?_
        refine rf_bt rfl ?_
        exact rf_ret (rnd_ret (by simp) ⟨_, rfl⟩)
  ·intro hl s4 v w6 hI
   obtain ⟨u4, rfl, rfl⟩ := hI
   refine rf_s (AV.bool false) (ix_end _) ?_
   refine rf_cf ?_
   exact rf_ret ⟨by simp, ⟨_, _, rfl⟩⟩
  ·intro hl b5 q hq
   obtain ⟨u4, u26, rfl⟩ := hq
   refine rf_bt rfl ?_
   exact rf_fin _ (fin_same _ _) ⟨rfl, rfl⟩
  ·intro hl b5 q hq
   obtain ⟨u26, rfl⟩ := hq
   refine rf_bf rfl ?_
   refine rf_bt rfl ?_
   exact rf_fin _ (fin_same _ _) ⟨rfl, rfl⟩

noncomputable def t_pick_Level (a0 : (List PresetD)) (a1 : KeyD) (a2 : ValueD) : Option (Int × Int) :=
 if ((decide (¬ (a2.level = 0))) && (decide (¬ (a2.preset = 0)))) = true then
  some (0, 3)
 else
  if (!(withinB a2.level 0 65535)) = true then
   some (0, 1)
  else
   if a2.preset = 0 then
    some (a2.level, 0)
   else
    forE a0 (fun (i8 : Nat) e7 (s1 : Unit) => (show Option (Lr Unit Unit Int) from
      if ¬ (e7.number = a2.preset) then
       some (.go ())
      else
       forE e7.settings (fun (i16 : Nat) e15 (s9 : Unit) => (show Option (Lr Unit Unit Int) from
         if e15.key = a1 then
          some (.ret e15.level)
         else
          some (.go ()))) (fun s9 => some ()) () (fun b10 =>
        some (.brk ())) (fun b10 =>
        some (.ret b10)))) (fun s1 => some ()) () (fun b2 =>
     some (0, 8)) (fun b2 =>
     some (b2, 0))
theorem h_pick_Level {a0 : (List PresetD)} { a1 : KeyD} { a2 : ValueD} {σ : Heap} {r : (Int × Int)} (h : t_pick_Level a0 a1 a2 = some r) : m_pick_Level [(sl 3 cPreset a0), (AV.agg (cKey a1)), (AV.agg (cValue a2))] σ = some ((AV.tup [(AV.int .i64 r.1), (AV.int .i64 r.2)]), σ) := by
 refine rf_wrap3 (f := r_pick_Level) (y0 := (sl 3 cPreset a0)) (y1 := (AV.agg (cKey a1))) (y2 := (AV.agg (cValue a2))) (enc := fun r : (Int × Int) => (AV.tup [(AV.int .i64 r.1), (AV.int .i64 r.2)])) (T := t_pick_Level a0 a1 a2) rfl rfl ?_ r h
 unfold r_pick_Level t_pick_Level
 refine rf_s (cKey a1) rfl ?_
 refine rf_s (cValue a2) rfl ?_
 refine rf_s (AV.int .i64 a2.level) rfl ?_
 refine rf_s (AV.bool (decide (¬ (a2.level = 0)))) (aNe _ _ _) ?_
 refine rf_gt (AV.int .i64 a2.preset) (fun hg => by
   exact rfl) ?_
 refine rf_gt (AV.bool (decide (¬ (a2.preset = 0)))) (fun hg => by
   first | exact (aNe _ _ _) | (simp only [hg, Bool.true_and, Bool.and_true, cond_true, hg]; first | done | exact (aNe _ _ _))) ?_
 refine rf_s (AV.bool ((decide (¬ (a2.level = 0))) && (decide (¬ (a2.preset = 0))))) (pk_and _ _) ?_
 refine rf_cb (c := ((decide (¬ (a2.level = 0))) && (decide (¬ (a2.preset = 0))))) (fun c21 => ?_) (fun c21 => ?_)
 ·exact rf_fin _ (fin_same _ _) ⟨rfl, rfl⟩
 ·refine rf_s (AV.int .i64 a2.level) rfl ?_
  refine rf_s ((AV.bool (withinB a2.level 0 65535)), σ) (isLevelP_eq a2.level σ) ?_
  refine rf_s (AV.bool (!(withinB a2.level 0 65535))) rfl ?_
  refine rf_cb (c := (!(withinB a2.level 0 65535))) (fun c20 => ?_) (fun c20 => ?_)
  ·exact rf_fin _ (fin_same _ _) ⟨rfl, rfl⟩
  ·refine rf_s (AV.int .i64 a2.preset) rfl ?_
   refine rf_s (AV.bool (decide (a2.preset = 0))) (aEq _ _ _) ?_
   refine rf_c (p := a2.preset = 0) (fun c19 => ?_) (fun c19 => ?_)
   ·refine rf_s (AV.int .i64 a2.level) rfl ?_
    exact rf_fin _ (fin_same _ _) ⟨rfl, rfl⟩
   ·refine rf_s (AV.int .i64 (a0.length : Int)) (lenS_sl _ _ _) ?_
    refine rf_for (B := Unit) (R := Int) (fun (i8 : Nat) (s1 : Unit) v w3 => v = [(AV.lbx (cKey a1)), (AV.lbx (cValue a2)), (AV.int .i64 0), (AV.int .i64 0), (AV.int .i64 (i8 : Int))] ∧ σ = w3) (fun (b2 : Unit) (q : LS) => ∃ u4 u5 u6 u7 u31, q = ((AX.exit 0), ([u4, u5, u6, u7, u31] : List AV), σ)) (fun (b2 : Int) (q : LS) => ∃ u4 u5 u31, q = (AX.ret, ([u4, u5, (AV.int .i64 b2), (AV.int .i64 0), u31] : List AV), σ)) ?_ ?_ ⟨rfl, rfl⟩ ?_ ?_
    ·intro hle7 i8 e7 s1 v w3 he7 hI
     obtain ⟨rfl, rfl⟩ := hI
     refine rf_s (AV.bool true) (ix_lt he7) ?_
     refine rf_ct ?_
     refine rf_s (AV.rp (cPreset e7)) (ix_for he7) ?_
     refine rf_s (AV.agg (cPreset e7)) rfl ?_
     refine rf_s (cPreset e7) rfl ?_
     refine rf_s (cPreset e7) (sp_cPreset _ _ rfl) ?_
     refine rf_s (AV.int .i64 e7.number) rfl ?_
     refine rf_s _ rfl ?_
     refine rf_s (AV.int .i64 a2.preset) rfl ?_
     refine rf_s (AV.bool (decide (¬ (e7.number = a2.preset)))) (aNe _ _ _) ?_
     refine rf_c (p := ¬ (e7.number = a2.preset)) (fun c18 => ?_) (fun c18 => ?_)
     ·refine rf_s (AV.int .i64 ((i8 + 1 : Nat) : Int)) (ix_inc he7 hle7) ?_
      exact rf_ret (rnd_go ⟨rfl, rfl⟩)
     ·refine rf_s (sl 3 cSetting e7.settings) rfl ?_
      refine rf_s (AV.int .i64 (e7.settings.length : Int)) (lenS_sl _ _ _) ?_
      refine rf_for (B := Unit) (R := Int) (fun (i16 : Nat) (s9 : Unit) v w11 => v = [(AV.lbx (cKey a1)), (AV.int .i64 0), (AV.int .i64 0), (AV.int .i64 (i16 : Int))] ∧ σ = w11) (fun (b10 : Unit) (q : LS) => ∃ u4 u6 u7 u43, q = ((AX.exit 2), ([u4, u6, u7, u43] : List AV), σ)) (fun (b10 : Int) (q : LS) => ∃ u4 u43, q = (AX.ret, ([u4, (AV.int .i64 b10), (AV.int .i64 0), u43] : List AV), σ)) ?_ ?_ ⟨rfl, rfl⟩ ?_ ?_
      ·intro hle15 i16 e15 s9 v w11 he15 hI
       obtain ⟨rfl, rfl⟩ := hI
       refine rf_s (AV.bool true) (ix_lt he15) ?_
       refine rf_ct ?_
       refine rf_s (AV.rp (cSetting e15)) (ix_for he15) ?_
       refine rf_s (AV.agg (cSetting e15)) rfl ?_
       refine rf_s (cSetting e15) rfl ?_
       refine rf_s (cSetting e15) (sp_cSetting _ _ rfl) ?_
       refine rf_s (AV.agg (cKey e15.key)) rfl ?_
       refine rf_s (AV.agg (cKey a1)) rfl ?_
       refine rf_s (AV.bool (decide (e15.key = a1))) (eq_Key _ _) ?_
       refine rf_c (p := e15.key = a1) (fun c17 => ?_) (fun c17 => ?_)
       ·refine rf_s (AV.int .i64 e15.level) rfl ?_
        exact rf_ret (rnd_ret (by simp) ⟨_, _, rfl⟩)
       ·refine rf_s (AV.int .i64 ((i16 + 1 : Nat) : Int)) (ix_inc he15 hle15) ?_
        exact rf_ret (rnd_go ⟨rfl, rfl⟩)
      ·intro hl s9 v w11 hI
       obtain ⟨rfl, rfl⟩ := hI
       refine rf_s (AV.bool false) (ix_end _) ?_
       refine rf_cf ?_
       exact rf_ret ⟨by simp, ⟨_, _, _, _, rfl⟩⟩
      ·intro hl b10 q hq
       obtain ⟨u4, u6, u7, u43, rfl⟩ := hq
       refine rf_bt rfl ?_
       exact rf_ret (rnd_brk (by simp) ⟨_, _, _, _, _, rfl⟩)
      ·intro hl b10 q hq
       obtain ⟨u4, u43, rfl⟩ := hq
       refine rf_bf rfl ?_
       refine rf_bt rfl ?_
       exact rf_ret (rnd_ret (by simp) ⟨_, _, _, rfl⟩)
    ·intro hl s1 v w3 hI
     obtain ⟨rfl, rfl⟩ := hI
     refine rf_s (AV.bool false) (ix_end _) ?_
     refine rf_cf ?_
     exact rf_ret ⟨by simp, ⟨_, _, _, _, _, rfl⟩⟩
    ·intro hl b2 q hq
     obtain ⟨u4, u5, u6, u7, u31, rfl⟩ := hq
     refine rf_bt rfl ?_
     exact rf_fin _ (fin_same _ _) ⟨rfl, rfl⟩
    ·intro hl b2 q hq
     obtain ⟨u4, u5, u31, rfl⟩ := hq
     refine rf_bf rfl ?_
     refine rf_bt rfl ?_
     exact rf_fin _ (fin_same _ _) ⟨rfl, rfl⟩

noncomputable def t_cue_CheckList (a0 : RigD) (a1 : (List PresetD)) (a2 : (List CueD)) : Option Int :=
 (t_pick_CheckPresets a0 a1).bind fun r1 =>
 (t_cue_form a2).bind fun r2 =>
 (tq (([r1, r2] : (List Int)).length ≤ mxl) ((([r1, r2] : (List Int)).find? fun n => decide (¬ n = 0)).getD 0)).bind fun r3 =>
 if ¬ (r3 = 0) then
  some r3
 else
  (tq (okRig a0) (((if rigF a0 = 0 then keysOf a0 else [] : List KeyD), rigF a0))).bind fun r4 =>
  forE r4.1 (fun (i14 : Nat) e13 (s7 : (List (KeyD × Bool))) => (show Option (Lr (List (KeyD × Bool)) (List (KeyD × Bool)) Unit) from
    some (.go (tupd e13 true s7)))) (fun s7 => some s7) ([] : List (KeyD × Bool)) (fun b8 =>
   forE a2 (fun (i25 : Nat) e24 (s18 : Unit) => (show Option (Lr Unit Unit Int) from
     forE e24.moves (fun (i33 : Nat) e32 (s26 : Unit) => (show Option (Lr Unit Unit Int) from
       if (!((tfind e32.key b8).getD false)) = true then
        some (.ret 8)
       else
        (t_pick_Level a1 e32.key e32.value).bind fun r34 =>
        if ¬ (r34.2 = 0) then
         some (.ret r34.2)
        else
         some (.go ()))) (fun s26 => some ()) () (fun b27 =>
      some (.go ())) (fun b27 =>
      some (.ret b27)))) (fun s18 => some ()) () (fun b19 =>
    some 0) (fun b19 =>
    some b19)) (fun b8 =>
   none)
theorem h_cue_CheckList {a0 : RigD} { a1 : (List PresetD)} { a2 : (List CueD)} {σ : Heap} {r : Int} (h : t_cue_CheckList a0 a1 a2 = some r) : m_cue_CheckList [(AV.agg (cRig a0)), (sl 3 cPreset a1), (sl 11 cCue a2)] σ = some ((AV.int .i64 r), σ) := by
 refine rf_wrap3 (f := r_cue_CheckList) (y0 := (AV.agg (cRig a0))) (y1 := (sl 3 cPreset a1)) (y2 := (sl 11 cCue a2)) (enc := fun r : Int => (AV.int .i64 r)) (T := t_cue_CheckList a0 a1 a2) rfl rfl ?_ r h
 unfold r_cue_CheckList t_cue_CheckList
 refine rf_s (cRig a0) rfl ?_
 refine rf_s (AV.agg (cRig a0)) rfl ?_
 refine rf_o (fun r1 : Int => ((AV.int .i64 r1), σ)) (fun r1 hr1 => h_pick_CheckPresets hr1) (fun r1 hr1 => ?_)
 refine rf_o (fun r2 : Int => ((AV.int .i64 r2), σ)) (fun r2 hr2 => h_cue_form hr2) (fun r2 hr2 => ?_)
 refine rf_s (sl 1 cInt ([r1, r2] : (List Int))) rfl ?_
 refine rf_o (fun r3 : Int => ((AV.int .i64 r3), σ)) (fun r3 hr3 => (tq_of (e := fun r : Int => ((AV.int .i64 r), σ)) (fun hs => First_eq ([r1, r2] : (List Int)) hs σ)) hr3) (fun r3 hr3 => ?_)
 refine rf_s (AV.bool (decide (¬ (r3 = 0)))) (aNe _ _ _) ?_
 refine rf_c (p := ¬ (r3 = 0)) (fun c37 => ?_) (fun c37 => ?_)
 ·exact rf_fin _ (fin_same _ _) ⟨rfl, rfl⟩
 ·refine rf_s (AV.agg (cRig a0)) rfl ?_
  refine rf_o (fun r4 : ((List KeyD) × Int) => ((AV.tup [(sl 2 cKey r4.1), (AV.int .i64 r4.2)]), σ)) (fun r4 hr4 => (tq_of (e := fun r : ((List KeyD) × Int) => ((AV.tup [(sl 2 cKey r.1), (AV.int .i64 r.2)]), σ)) (fun hs => Keys_eq a0 hs σ)) hr4) (fun r4 hr4 => ?_)
  refine rf_s (sl 2 cKey r4.1) rfl ?_
  refine rf_s (AV.int .i64 r4.2) rfl ?_
  have hp5 : Hp σ σ [] := hp_nil σ
  have hp6 : Hp σ (σ ++ [Blk.map []]) [((AV.om σ.length), (Ct.m (List.map (fun p => ((fun x => (AV.agg (cKey x))) p.1, (fun x => (AV.bool x)) p.2)) ([] : List (KeyD × Bool)))))] := hp_om hp5
  refine rf_s (AV.int .i64 (r4.1.length : Int)) (lenS_sl _ _ _) ?_
  refine rf_for (B := (List (KeyD × Bool))) (R := Unit) (fun (i14 : Nat) (s7 : (List (KeyD × Bool))) v w9 => v = [(AV.int .i64 (i14 : Int))] ∧ Hp σ w9 [((AV.om σ.length), (Ct.m (List.map (fun p => ((fun x => (AV.agg (cKey x))) p.1, (fun x => (AV.bool x)) p.2)) s7)))]) (fun (b8 : (List (KeyD × Bool))) (q : LS) => ∃ u37 w10, q = ((AX.exit 0), ([u37] : List AV), w10) ∧ Hp σ w10 [((AV.om σ.length), (Ct.m (List.map (fun p => ((fun x => (AV.agg (cKey x))) p.1, (fun x => (AV.bool x)) p.2)) b8)))]) (fun (b8 : Unit) (q : LS) => False) ?_ ?_ ⟨rfl, hp6⟩ ?_ ?_
  ·intro hle13 i14 e13 s7 v w9 he13 hI
   obtain ⟨rfl, hp11⟩ := hI
   refine rf_s (AV.bool true) (ix_lt he13) ?_
   refine rf_ct ?_
   refine rf_s (AV.rp (cKey e13)) (ix_for he13) ?_
   refine rf_s (AV.agg (cKey e13)) rfl ?_
   refine rf_s (cKey e13) rfl ?_
   refine rf_s (cKey e13) (sp_cKey _ _ rfl) ?_
   refine rf_s (AV.agg (cKey e13)) rfl ?_
   obtain ⟨w15, e17, hp16⟩ := hp_updT (ek := (.s [0, 2])) (eK := (fun x => (AV.agg (cKey x)))) (eV := (fun x => (AV.bool x))) hp11 0 rfl eqk_Key e13 true rfl
   change Hp σ w15 [((AV.om σ.length), (Ct.m (List.map (fun p => ((fun x => (AV.agg (cKey x))) p.1, (fun x => (AV.bool x)) p.2)) (tupd e13 true s7))))] at hp16
   refine rf_s w15 e17 ?_
   refine rf_s (AV.int .i64 ((i14 + 1 : Nat) : Int)) (ix_inc he13 hle13) ?_
   exact rf_ret (rnd_go ⟨rfl, hp16⟩)
  ·intro hl s7 v w9 hI
   obtain ⟨rfl, hp11⟩ := hI
   refine rf_s (AV.bool false) (ix_end _) ?_
   refine rf_cf ?_
   exact rf_ret ⟨by simp, ⟨_, _, rfl, hp11⟩⟩
  ·intro hl b8 q hq
   obtain ⟨u37, w10, rfl, hp12⟩ := hq
   refine rf_bt rfl ?_
   refine rf_s (AV.int .i64 (a2.length : Int)) (lenS_sl _ _ _) ?_
   refine rf_for (B := Unit) (R := Int) (fun (i25 : Nat) (s18 : Unit) v w20 => ∃ u6, v = [u6, (AV.int .i64 (i25 : Int))] ∧ Hp σ w20 [((AV.om σ.length), (Ct.m (List.map (fun p => ((fun x => (AV.agg (cKey x))) p.1, (fun x => (AV.bool x)) p.2)) b8)))]) (fun (b19 : Unit) (q : LS) => ∃ u6 u46 w21, q = ((AX.exit 2), ([u6, u46] : List AV), w21) ∧ Hp σ w21 [((AV.om σ.length), (Ct.m (List.map (fun p => ((fun x => (AV.agg (cKey x))) p.1, (fun x => (AV.bool x)) p.2)) b8)))]) (fun (b19 : Int) (q : LS) => ∃ u46 w21, q = (AX.ret, ([(AV.int .i64 b19), u46] : List AV), w21) ∧ Hp σ w21 []) ?_ ?_ ⟨_, rfl, hp12⟩ ?_ ?_
   ·intro hle24 i25 e24 s18 v w20 he24 hI
    obtain ⟨u6, rfl, hp22⟩ := hI
    refine rf_s (AV.bool true) (ix_lt he24) ?_
    refine rf_ct ?_
    refine rf_s (AV.rp (cCue e24)) (ix_for he24) ?_
    refine rf_s (AV.agg (cCue e24)) rfl ?_
    refine rf_s (cCue e24) rfl ?_
    refine rf_s (cCue e24) (sp_cCue _ _ rfl) ?_
    refine rf_s (sl 8 cMove e24.moves) rfl ?_
    refine rf_s (AV.int .i64 (e24.moves.length : Int)) (lenS_sl _ _ _) ?_
    refine rf_for (B := Unit) (R := Int) (fun (i33 : Nat) (s26 : Unit) v w28 => ∃ u6, v = [u6, (AV.int .i64 (i33 : Int))] ∧ Hp σ w28 [((AV.om σ.length), (Ct.m (List.map (fun p => ((fun x => (AV.agg (cKey x))) p.1, (fun x => (AV.bool x)) p.2)) b8)))]) (fun (b27 : Unit) (q : LS) => ∃ u6 u53 w29, q = ((AX.exit 4), ([u6, u53] : List AV), w29) ∧ Hp σ w29 [((AV.om σ.length), (Ct.m (List.map (fun p => ((fun x => (AV.agg (cKey x))) p.1, (fun x => (AV.bool x)) p.2)) b8)))]) (fun (b27 : Int) (q : LS) => ∃ u53 w29, q = (AX.ret, ([(AV.int .i64 b27), u53] : List AV), w29) ∧ Hp σ w29 []) ?_ ?_ ⟨_, rfl, hp22⟩ ?_ ?_
    ·intro hle32 i33 e32 s26 v w28 he32 hI
     obtain ⟨u6, rfl, hp30⟩ := hI
     refine rf_s (AV.bool true) (ix_lt he32) ?_
     refine rf_ct ?_
     refine rf_s (AV.rp (cMove e32)) (ix_for he32) ?_
     refine rf_s (AV.agg (cMove e32)) rfl ?_
     refine rf_s (cMove e32) rfl ?_
     refine rf_s (cMove e32) (sp_cMove _ _ rfl) ?_
     refine rf_s (AV.agg (cKey e32.key)) rfl ?_
     refine rf_s (AV.bool ((tfind e32.key b8).getD false)) (hp_lookT (ek := (.s [0, 2])) (eK := (fun x => (AV.agg (cKey x)))) (eV := (fun x => (AV.bool x))) hp30 0 rfl eqk_Key e32.key false rfl) ?_
     refine rf_s (AV.bool (!((tfind e32.key b8).getD false))) rfl ?_
     refine rf_cb (c := (!((tfind e32.key b8).getD false))) (fun c36 => ?_) (fun c36 => ?_)
     ·exact rf_ret (rnd_ret (by simp) ⟨_, _, rfl, (hp_weak hp30)⟩)
     ·refine rf_s (AV.agg (cKey e32.key)) rfl ?_
      refine rf_s (AV.agg (cValue e32.value)) rfl ?_
      refine rf_o (fun r34 : (Int × Int) => ((AV.tup [(AV.int .i64 r34.1), (AV.int .i64 r34.2)]), w28)) (fun r34 hr34 => h_pick_Level hr34) (fun r34 hr34 => ?_)
      refine rf_s (AV.int .i64 r34.1) rfl ?_
      refine rf_s (AV.int .i64 r34.2) rfl ?_
      refine rf_s (AV.bool (decide (¬ (r34.2 = 0)))) (aNe _ _ _) ?_
      refine rf_c (p := ¬ (r34.2 = 0)) (fun c35 => ?_) (fun c35 => ?_)
      ·exact rf_ret (rnd_ret (by simp) ⟨_, _, rfl, (hp_weak hp30)⟩)
      ·refine rf_s (AV.int .i64 ((i33 + 1 : Nat) : Int)) (ix_inc he32 hle32) ?_
       exact rf_ret (rnd_go ⟨_, rfl, hp30⟩)
    ·intro hl s26 v w28 hI
     obtain ⟨u6, rfl, hp30⟩ := hI
     refine rf_s (AV.bool false) (ix_end _) ?_
     refine rf_cf ?_
     exact rf_ret ⟨by simp, ⟨_, _, _, rfl, hp30⟩⟩
    ·intro hl b27 q hq
     obtain ⟨u6, u53, w29, rfl, hp31⟩ := hq
     refine rf_bt rfl ?_
     refine rf_s (AV.int .i64 ((i25 + 1 : Nat) : Int)) (ix_inc he24 hle24) ?_
     exact rf_ret (rnd_go ⟨_, rfl, hp31⟩)
    ·intro hl b27 q hq
     obtain ⟨u53, w29, rfl, hp31⟩ := hq
     refine rf_bf rfl ?_
     refine rf_bt rfl ?_
     exact rf_ret (rnd_ret (by simp) ⟨_, _, rfl, (hp_weak hp31)⟩)
   ·intro hl s18 v w20 hI
    obtain ⟨u6, rfl, hp22⟩ := hI
    refine rf_s (AV.bool false) (ix_end _) ?_
    refine rf_cf ?_
    exact rf_ret ⟨by simp, ⟨_, _, _, rfl, hp22⟩⟩
   ·intro hl b19 q hq
    obtain ⟨u6, u46, w21, rfl, hp23⟩ := hq
    refine rf_bt rfl ?_
    exact rf_fin _ (hp_fin hp23 (fzv_fz (fz_int _ _))) ⟨rfl, rfl⟩
   ·intro hl b19 q hq
    obtain ⟨u46, w21, rfl, hp23⟩ := hq
    refine rf_bf rfl ?_
    refine rf_bt rfl ?_
    exact rf_fin _ (hp_fin hp23 (fzv_fz (fz_int _ _))) ⟨rfl, rfl⟩
  ·intro hl b8 q hq
   exact False.elim hq

noncomputable def t_R4_PresetOf (a0 : (List PresetD)) (a1 : Int) : Option (PresetD × Bool) :=
 forE a0 (fun (i8 : Nat) e7 (s1 : Unit) => (show Option (Lr Unit Unit (PresetD × Bool)) from
   if e7.number = a1 then
    some (.ret (e7, true))
   else
    some (.go ()))) (fun s1 => some ()) () (fun b2 =>
  some ((⟨0, (⟨#[]⟩ : ByteArray), []⟩ : PresetD), false)) (fun b2 =>
  some (b2.1, b2.2))
theorem h_R4_PresetOf {a0 : (List PresetD)} { a1 : Int} {σ : Heap} {r : (PresetD × Bool)} (h : t_R4_PresetOf a0 a1 = some r) : m_R4_PresetOf [(sl 3 cPreset a0), (AV.int .i64 a1)] σ = some ((AV.tup [(AV.agg (cPreset r.1)), (AV.bool r.2)]), σ) := by
 refine rf_wrap2 (f := r_R4_PresetOf) (y0 := (sl 3 cPreset a0)) (y1 := (AV.int .i64 a1)) (enc := fun r : (PresetD × Bool) => (AV.tup [(AV.agg (cPreset r.1)), (AV.bool r.2)])) (T := t_R4_PresetOf a0 a1) rfl rfl ?_ r h
 unfold r_R4_PresetOf t_R4_PresetOf
 refine rf_s (AV.int .i64 (a0.length : Int)) (lenS_sl _ _ _) ?_
 refine rf_for (B := Unit) (R := (PresetD × Bool)) (fun (i8 : Nat) (s1 : Unit) v w3 => v = [(AV.lbx [(AV.int .i64 0), (AV.str (⟨#[]⟩ : ByteArray)), AV.nsl]), (AV.bool false), (AV.int .i64 (i8 : Int))] ∧ σ = w3) (fun (b2 : Unit) (q : LS) => ∃ u5 u10, q = ((AX.exit 0), ([(AV.lbx [(AV.int .i64 0), (AV.str (⟨#[]⟩ : ByteArray)), AV.nsl]), u5, u10] : List AV), σ)) (fun (b2 : (PresetD × Bool)) (q : LS) => ∃ u10, q = (AX.ret, ([(AV.lbx (cPreset b2.1)), (AV.bool b2.2), u10] : List AV), σ)) ?_ ?_ ⟨rfl, rfl⟩ ?_ ?_
 ·intro hle7 i8 e7 s1 v w3 he7 hI
  obtain ⟨rfl, rfl⟩ := hI
  refine rf_s (AV.bool true) (ix_lt he7) ?_
  refine rf_ct ?_
  refine rf_s (AV.rp (cPreset e7)) (ix_for he7) ?_
  refine rf_s (AV.agg (cPreset e7)) rfl ?_
  refine rf_s (cPreset e7) rfl ?_
  refine rf_s (cPreset e7) (sp_cPreset _ _ rfl) ?_
  refine rf_s (AV.int .i64 e7.number) rfl ?_
  refine rf_s (AV.bool (decide (e7.number = a1))) (aEq _ _ _) ?_
  refine rf_c (p := e7.number = a1) (fun c9 => ?_) (fun c9 => ?_)
  ·refine rf_s (AV.agg (cPreset e7)) rfl ?_
   refine rf_s _ rfl ?_
   refine rf_s (cPreset e7) rfl ?_
   refine rf_s (cPreset e7) (sp_cPreset _ _ rfl) ?_
   exact rf_ret (rnd_ret (by simp) ⟨_, rfl⟩)
  ·refine rf_s (AV.int .i64 ((i8 + 1 : Nat) : Int)) (ix_inc he7 hle7) ?_
   exact rf_ret (rnd_go ⟨rfl, rfl⟩)
 ·intro hl s1 v w3 hI
  obtain ⟨rfl, rfl⟩ := hI
  refine rf_s (AV.bool false) (ix_end _) ?_
  refine rf_cf ?_
  exact rf_ret ⟨by simp, ⟨_, _, rfl⟩⟩
 ·intro hl b2 q hq
  obtain ⟨u5, u10, rfl⟩ := hq
  refine rf_bt rfl ?_
  refine rf_s _ rfl ?_
  refine rf_s [(AV.int .i64 0), (AV.str (⟨#[]⟩ : ByteArray)), AV.nsl] rfl ?_
  refine rf_s [(AV.int .i64 0), (AV.str (⟨#[]⟩ : ByteArray)), AV.nsl] rfl ?_
  refine rf_s (AV.agg [(AV.int .i64 0), (AV.str (⟨#[]⟩ : ByteArray)), AV.nsl]) rfl ?_
  exact rf_fin _ (fin_same _ _) ⟨(nn_t (nn_t1 (nn_a (nn_t1 rfl (nn_t1 rfl (nn_t1 (by first | rfl | exact nn_eNil _ _) nn_t0)))) (nn_t1 rfl nn_t0))), rfl⟩
 ·intro hl b2 q hq
  obtain ⟨u10, rfl⟩ := hq
  refine rf_bf rfl ?_
  refine rf_bt rfl ?_
  refine rf_s (AV.agg (cPreset b2.1)) rfl ?_
  exact rf_fin _ (fin_same _ _) ⟨(nn_t (nn_t1 (nn_a rfl) (nn_t1 rfl nn_t0))), rfl⟩

noncomputable def t_R4_Before (a0 : KeyD) (a1 : KeyD) : Option Bool :=
 some ((decide (a0.unit < a1.unit)) || ((decide (a0.unit = a1.unit)) && (Op.bytesLess a0.param.toList a1.param.toList)))
theorem h_R4_Before {a0 : KeyD} { a1 : KeyD} {σ : Heap} {r : Bool} (h : t_R4_Before a0 a1 = some r) : m_R4_Before [(AV.agg (cKey a0)), (AV.agg (cKey a1))] σ = some ((AV.bool r), σ) := by
 refine rf_wrap2 (f := r_R4_Before) (y0 := (AV.agg (cKey a0))) (y1 := (AV.agg (cKey a1))) (enc := fun r : Bool => (AV.bool r)) (T := t_R4_Before a0 a1) rfl rfl ?_ r h
 unfold r_R4_Before t_R4_Before
 refine rf_s (cKey a0) rfl ?_
 refine rf_s (cKey a1) rfl ?_
 refine rf_s (AV.int .i64 a0.unit) rfl ?_
 refine rf_s (AV.int .i64 a1.unit) rfl ?_
 refine rf_s (AV.bool (decide (a0.unit < a1.unit))) rfl ?_
 refine rf_gf (AV.int .i64 a0.unit) (fun hg => by
   exact rfl) ?_
 refine rf_gf (AV.int .i64 a1.unit) (fun hg => by
   exact rfl) ?_
 refine rf_gf (AV.bool (decide (a0.unit = a1.unit))) (fun hg => by
   first | exact (aEq _ _ _) | (simp only [hg, Bool.true_and, Bool.and_true, cond_true, hg]; first | done | exact (aEq _ _ _))) ?_
 refine rf_gf (AV.bool (decide (a0.unit = a1.unit))) (fun hg => by
   first | exact rfl | (simp only [hg, Bool.true_and, Bool.and_true, cond_true, hg]; first | done | exact rfl)) ?_
 refine rf_ggt (AV.str a0.param) (fun hg => by
   exact rfl) ?_
 refine rf_ggt (AV.str a1.param) (fun hg => by
   exact rfl) ?_
 refine rf_ggt (AV.bool (Op.bytesLess a0.param.toList a1.param.toList)) (fun hg => by
   first | exact rfl | (simp only [hg, Bool.true_and, Bool.and_true, cond_true, hg]; first | done | exact rfl)) ?_
 refine rf_gf (AV.bool ((decide (a0.unit = a1.unit)) && (Op.bytesLess a0.param.toList a1.param.toList))) (fun hg => by
   first | exact (pk_and _ _) | (simp only [hg, Bool.true_and, Bool.and_true, cond_true, hg]; first | done | exact (pk_and _ _))) ?_
 refine rf_s (AV.bool ((decide (a0.unit < a1.unit)) || ((decide (a0.unit = a1.unit)) && (Op.bytesLess a0.param.toList a1.param.toList)))) (pk_or _ _) ?_
 exact rf_fin _ (fin_same _ _) ⟨rfl, rfl⟩

noncomputable def t_R4_CheckPresets (a0 : RigD) (a1 : (List PresetD)) : Option Int :=
 (tq (okRig a0) (rigF a0)).bind fun r1 =>
 if ¬ (r1 = 0) then
  some r1
 else
  if 200 < (a1.length : Int) then
   some 2
  else
   forE a1 (fun (i9 : Nat) e8 (s2 : Unit) => (show Option (Lr Unit Unit Int) from
     if (!(withinB e8.number 1 999)) = true then
      some (.ret 1)
     else
      (if decide (0 < (i9 : Int)) = true then tIx a1 (IntKind.i64.wrap ((i9 : Int) - 1)) else some default).bind fun x10 =>
      if ((decide (0 < (i9 : Int))) && (decide (e8.number ≤ x10.number))) = true then
       some (.ret 7)
      else
       (if decide (¬ (e8.title = (⟨#[]⟩ : ByteArray))) = true then tq (okS e8.title) (titleB e8.title) else some default).bind fun r11 =>
       if ((decide (¬ (e8.title = (⟨#[]⟩ : ByteArray)))) && (!r11)) = true then
        some (.ret 3)
       else
        if 2000 < (e8.settings.length : Int) then
         some (.ret 2)
        else
         forE e8.settings (fun (i19 : Nat) e18 (s12 : Unit) => (show Option (Lr Unit Unit Int) from
           (tq (okRig a0) (paramOf a0 e18.key)).bind fun r20 =>
           if (!r20.2) = true then
            some (.ret 8)
           else
            if (!(withinB e18.level 0 65535)) = true then
             some (.ret 1)
            else
             (if decide (0 < (i19 : Int)) = true then tIx e8.settings (IntKind.i64.wrap ((i19 : Int) - 1)) else some default).bind fun x21 =>
             if ((decide (0 < (i19 : Int))) && (!(((decide (x21.key.unit < e18.key.unit)) || ((decide (x21.key.unit = e18.key.unit)) && (Op.bytesLess x21.key.param.toList e18.key.param.toList)))))) = true then
              some (.ret 7)
             else
              some (.go ()))) (fun s12 => some ()) () (fun b13 =>
          some (.go ())) (fun b13 =>
          some (.ret b13)))) (fun s2 => some ()) () (fun b3 =>
    some 0) (fun b3 =>
    some b3)
theorem h_R4_CheckPresets {a0 : RigD} { a1 : (List PresetD)} {σ : Heap} {r : Int} (h : t_R4_CheckPresets a0 a1 = some r) : m_R4_CheckPresets [(AV.agg (cRig a0)), (sl 3 cPreset a1)] σ = some ((AV.int .i64 r), σ) := by
 refine rf_wrap2 (f := r_R4_CheckPresets) (y0 := (AV.agg (cRig a0))) (y1 := (sl 3 cPreset a1)) (enc := fun r : Int => (AV.int .i64 r)) (T := t_R4_CheckPresets a0 a1) rfl rfl ?_ r h
 unfold r_R4_CheckPresets t_R4_CheckPresets
 refine rf_s (cRig a0) rfl ?_
 refine rf_s (AV.agg (cRig a0)) rfl ?_
 refine rf_o (fun r1 : Int => ((AV.int .i64 r1), σ)) (fun r1 hr1 => (tq_of (e := fun r : Int => ((AV.int .i64 r), σ)) (fun hs => CheckRig2_eq a0 hs σ)) hr1) (fun r1 hr1 => ?_)
 refine rf_s (AV.bool (decide (¬ (r1 = 0)))) (aNe _ _ _) ?_
 refine rf_c (p := ¬ (r1 = 0)) (fun c30 => ?_) (fun c30 => ?_)
 ·exact rf_fin _ (fin_same _ _) ⟨rfl, rfl⟩
 ·refine rf_s (AV.int .i64 (a1.length : Int)) (lenS_sl _ _ _) ?_
  refine rf_s (AV.bool (decide (200 < (a1.length : Int)))) rfl ?_
  refine rf_c (p := 200 < (a1.length : Int)) (fun c29 => ?_) (fun c29 => ?_)
  ·exact rf_fin _ (fin_same _ _) ⟨rfl, rfl⟩
  ·refine rf_s (AV.int .i64 (a1.length : Int)) (lenS_sl _ _ _) ?_
   refine rf_for (B := Unit) (R := Int) (fun (i9 : Nat) (s2 : Unit) v w4 => ∃ u4, v = [(AV.lbx (cRig a0)), u4, (AV.int .i64 (i9 : Int))] ∧ σ = w4) (fun (b3 : Unit) (q : LS) => ∃ u2 u4 u22, q = ((AX.exit 0), ([u2, u4, u22] : List AV), σ)) (fun (b3 : Int) (q : LS) => ∃ u2 u22, q = (AX.ret, ([u2, (AV.int .i64 b3), u22] : List AV), σ)) ?_ ?_ ⟨_, rfl, rfl⟩ ?_ ?_
   ·intro hle8 i9 e8 s2 v w4 he8 hI
    obtain ⟨u4, rfl, rfl⟩ := hI
    refine rf_s (AV.bool true) (ix_lt he8) ?_
    refine rf_ct ?_
    refine rf_s (AV.rp (cPreset e8)) (ix_for he8) ?_
    refine rf_s (AV.agg (cPreset e8)) rfl ?_
    refine rf_s (cPreset e8) rfl ?_
    refine rf_s (cPreset e8) (sp_cPreset _ _ rfl) ?_
    refine rf_s (AV.int .i64 e8.number) rfl ?_
    refine rf_s ((AV.bool (withinB e8.number 1 999)), σ) (Within1_eq e8.number 1 999 σ) ?_
    refine rf_s (AV.bool (!(withinB e8.number 1 999))) rfl ?_
    refine rf_cb (c := (!(withinB e8.number 1 999))) (fun c28 => ?_) (fun c28 => ?_)
    ·exact rf_ret (rnd_ret (by simp) ⟨_, _, rfl⟩)
    ·refine rf_s (AV.bool (decide (0 < (i9 : Int)))) rfl ?_
     refine rf_gt (AV.int .i64 e8.number) (fun hg => by
       exact rfl) ?_
     refine rf_gt (sl 3 cPreset a1) (fun hg => by
       exact rfl) ?_
     refine rf_gt (AV.int .i64 (i9 : Int)) (fun hg => by
       exact rfl) ?_
     refine rf_gt (AV.int .i64 (IntKind.i64.wrap ((i9 : Int) - 1))) (fun hg => by
       first | exact rfl | (simp only [hg, Bool.true_and, Bool.and_true, cond_true, hg]; first | done | exact rfl)) ?_
     refine rf_gto (ω := PresetD) (fun x10 => (AV.rp (cPreset x10))) (fun hg x10 hx10 => by
       first | exact ix_at hx10 | (simp only [hg, Bool.true_and, Bool.and_true, cond_true, hg]; first | done | exact ix_at hx10)) (fun x10 hx10 => ?_)
     refine rf_gt (AV.rp (cPreset x10)) (fun hg => by
       first | exact rfl | (simp only [hg, Bool.true_and, Bool.and_true, cond_true, hg]; first | done | exact rfl)) ?_
     refine rf_gt (AV.int .i64 x10.number) (fun hg => by
       first | exact rfl | (simp only [hg, Bool.true_and, Bool.and_true, cond_true, hg]; first | done | exact rfl)) ?_
     refine rf_gt (AV.bool (decide (e8.number ≤ x10.number))) (fun hg => by
       first | exact rfl | (simp only [hg, Bool.true_and, Bool.and_true, cond_true, hg]; first | done | exact rfl)) ?_
     refine rf_s (AV.bool ((decide (0 < (i9 : Int))) && (decide (e8.number ≤ x10.number)))) (pk_and _ _) ?_
     refine rf_cb (c := ((decide (0 < (i9 : Int))) && (decide (e8.number ≤ x10.number)))) (fun c27 => ?_) (fun c27 => ?_)
     ·exact rf_ret (rnd_ret (by simp) ⟨_, _, rfl⟩)
     ·refine rf_s (AV.str e8.title) rfl ?_
      refine rf_s (AV.bool (decide (¬ (e8.title = (⟨#[]⟩ : ByteArray))))) (aNeZ _ _) ?_
      refine rf_gt (AV.str e8.title) (fun hg => by
        exact rfl) ?_
      refine rf_gto (ω := Bool) (fun r11 => (AV.bool r11)) (fun hg r11 hr11 => by
        first | exact (quiet_of ((tq_of (e := fun r : Bool => ((AV.bool r), σ)) (fun hs => IsTitle1_eq e8.title hs σ)) hr11)) | (simp only [hg, Bool.true_and, Bool.and_true, cond_true, hg]; first | done | exact (quiet_of ((tq_of (e := fun r : Bool => ((AV.bool r), σ)) (fun hs => IsTitle1_eq e8.title hs σ)) hr11)))) (fun r11 hr11 => ?_)
      refine rf_gt (AV.bool (!r11)) (fun hg => by
        first | exact rfl | (simp only [hg, Bool.true_and, Bool.and_true, cond_true, hg]; first | done | exact rfl)) ?_
      refine rf_s (AV.bool ((decide (¬ (e8.title = (⟨#[]⟩ : ByteArray)))) && (!r11))) (pk_and _ _) ?_
      refine rf_cb (c := ((decide (¬ (e8.title = (⟨#[]⟩ : ByteArray)))) && (!r11))) (fun c26 => ?_) (fun c26 => ?_)
      ·exact rf_ret (rnd_ret (by simp) ⟨_, _, rfl⟩)
      ·refine rf_s (sl 3 cSetting e8.settings) rfl ?_
       refine rf_s (AV.int .i64 (e8.settings.length : Int)) (lenS_sl _ _ _) ?_
       refine rf_s (AV.bool (decide (2000 < (e8.settings.length : Int)))) rfl ?_
       refine rf_c (p := 2000 < (e8.settings.length : Int)) (fun c25 => ?_) (fun c25 => ?_)
       ·exact rf_ret (rnd_ret (by simp) ⟨_, _, rfl⟩)
       ·refine rf_s (sl 3 cSetting e8.settings) rfl ?_
        refine rf_s (AV.int .i64 (e8.settings.length : Int)) (lenS_sl _ _ _) ?_
        refine rf_for (B := Unit) (R := Int) (fun (i19 : Nat) (s12 : Unit) v w14 => ∃ u4, v = [(AV.lbx (cRig a0)), u4, (AV.lbx (cPreset e8)), (AV.int .i64 (i19 : Int))] ∧ σ = w14) (fun (b13 : Unit) (q : LS) => ∃ u4 u7 u64, q = ((AX.exit 3), ([(AV.lbx (cRig a0)), u4, u7, u64] : List AV), σ)) (fun (b13 : Int) (q : LS) => ∃ u2 u7 u64, q = (AX.ret, ([u2, (AV.int .i64 b13), u7, u64] : List AV), σ)) ?_ ?_ ⟨_, rfl, rfl⟩ ?_ ?_
        ·intro hle18 i19 e18 s12 v w14 he18 hI
         obtain ⟨u4, rfl, rfl⟩ := hI
         refine rf_s (AV.bool true) (ix_lt he18) ?_
         refine rf_ct ?_
         refine rf_s (AV.rp (cSetting e18)) (ix_for he18) ?_
         refine rf_s (AV.agg (cSetting e18)) rfl ?_
         refine rf_s (cSetting e18) rfl ?_
         refine rf_s (cSetting e18) (sp_cSetting _ _ rfl) ?_
         refine rf_s (AV.agg (cRig a0)) rfl ?_
         refine rf_s (AV.agg (cKey e18.key)) rfl ?_
         refine rf_o (fun r20 : (ParamD × Bool) => ((AV.tup [(AV.agg (cParam r20.1)), (AV.bool r20.2)]), σ)) (fun r20 hr20 => (tq_of (e := fun r : (ParamD × Bool) => ((AV.tup [(AV.agg (cParam r.1)), (AV.bool r.2)]), σ)) (fun hs => ParamOf2_eq a0 hs e18.key σ)) hr20) (fun r20 hr20 => ?_)
         refine rf_s (AV.agg (cParam r20.1)) rfl ?_
         refine rf_s (AV.bool r20.2) rfl ?_
         refine rf_s (cParam r20.1) rfl ?_
         refine rf_s (cParam r20.1) (sp_cParam _ _ rfl) ?_
         refine rf_s (AV.bool (!r20.2)) rfl ?_
         refine rf_cb (c := (!r20.2)) (fun c24 => ?_) (fun c24 => ?_)
         ·exact rf_ret (rnd_ret (by simp) ⟨_, _, _, rfl⟩)
         ·refine rf_s (AV.int .i64 e18.level) rfl ?_
          refine rf_s ((AV.bool (withinB e18.level 0 65535)), σ) (IsLevel1_eq e18.level σ) ?_
          refine rf_s (AV.bool (!(withinB e18.level 0 65535))) rfl ?_
          refine rf_cb (c := (!(withinB e18.level 0 65535))) (fun c23 => ?_) (fun c23 => ?_)
          ·exact rf_ret (rnd_ret (by simp) ⟨_, _, _, rfl⟩)
          ·refine rf_s (AV.bool (decide (0 < (i19 : Int)))) rfl ?_
           refine rf_s _ rfl ?_
           refine rf_gt (sl 3 cSetting e8.settings) (fun hg => by
             exact rfl) ?_
           refine rf_gt (AV.int .i64 (i19 : Int)) (fun hg => by
             exact rfl) ?_
           refine rf_gt (AV.int .i64 (IntKind.i64.wrap ((i19 : Int) - 1))) (fun hg => by
             first | exact rfl | (simp only [hg, Bool.true_and, Bool.and_true, cond_true, hg]; first | done | exact rfl)) ?_
           refine rf_gto (ω := SettingD) (fun x21 => (AV.rp (cSetting x21))) (fun hg x21 hx21 => by
             first | exact ix_at hx21 | (simp only [hg, Bool.true_and, Bool.and_true, cond_true, hg]; first | done | exact ix_at hx21)) (fun x21 hx21 => ?_)
           refine rf_gt (AV.rp (cSetting x21)) (fun hg => by
             first | exact rfl | (simp only [hg, Bool.true_and, Bool.and_true, cond_true, hg]; first | done | exact rfl)) ?_
           refine rf_gt (AV.agg (cKey x21.key)) (fun hg => by
             first | exact rfl | (simp only [hg, Bool.true_and, Bool.and_true, cond_true, hg]; first | done | exact rfl)) ?_
           refine rf_gt (AV.agg (cKey e18.key)) (fun hg => by
             exact rfl) ?_
           refine rf_gt (AV.bool (((decide (x21.key.unit < e18.key.unit)) || ((decide (x21.key.unit = e18.key.unit)) && (Op.bytesLess x21.key.param.toList e18.key.param.toList))))) (fun hg => by
             first | exact (quiet_of (h_R4_Before (σ := σ) (r := ((decide (x21.key.unit < e18.key.unit)) || ((decide (x21.key.unit = e18.key.unit)) && (Op.bytesLess x21.key.param.toList e18.key.param.toList)))) rfl)) | (simp only [hg, Bool.true_and, Bool.and_true, cond_true, hg]; first | done | exact (quiet_of (h_R4_Before (σ := σ) (r := ((decide (x21.key.unit < e18.key.unit)) || ((decide (x21.key.unit = e18.key.unit)) && (Op.bytesLess x21.key.param.toList e18.key.param.toList)))) rfl)))) ?_
           refine rf_gt (AV.bool (!(((decide (x21.key.unit < e18.key.unit)) || ((decide (x21.key.unit = e18.key.unit)) && (Op.bytesLess x21.key.param.toList e18.key.param.toList)))))) (fun hg => by
             first | exact rfl | (simp only [hg, Bool.true_and, Bool.and_true, cond_true, hg]; first | done | exact rfl)) ?_
           refine rf_s (AV.bool ((decide (0 < (i19 : Int))) && (!(((decide (x21.key.unit < e18.key.unit)) || ((decide (x21.key.unit = e18.key.unit)) && (Op.bytesLess x21.key.param.toList e18.key.param.toList))))))) (pk_and _ _) ?_
           refine rf_cb (c := ((decide (0 < (i19 : Int))) && (!(((decide (x21.key.unit < e18.key.unit)) || ((decide (x21.key.unit = e18.key.unit)) && (Op.bytesLess x21.key.param.toList e18.key.param.toList))))))) (fun c22 => ?_) (fun c22 => ?_)
           ·exact rf_ret (rnd_ret (by simp) ⟨_, _, _, rfl⟩)
           ·refine rf_s (AV.int .i64 ((i19 + 1 : Nat) : Int)) (ix_inc he18 hle18) ?_
            exact rf_ret (rnd_go ⟨_, rfl, rfl⟩)
        ·intro hl s12 v w14 hI
         obtain ⟨u4, rfl, rfl⟩ := hI
         refine rf_s (AV.bool false) (ix_end _) ?_
         refine rf_cf ?_
         exact rf_ret ⟨by simp, ⟨_, _, _, rfl⟩⟩
        ·intro hl b13 q hq
         obtain ⟨u4, u7, u64, rfl⟩ := hq
         refine rf_bt rfl ?_
         refine rf_s (AV.int .i64 ((i9 + 1 : Nat) : Int)) (ix_inc he8 hle8) ?_
         exact rf_ret (rnd_go ⟨_, rfl, rfl⟩)
        ·intro hl b13 q hq
         obtain ⟨u2, u7, u64, rfl⟩ := hq
         refine rf_bf rfl ?_
         refine rf_bt rfl ?_
         exact rf_ret (rnd_ret (by simp) ⟨_, _, rfl⟩)
   ·intro hl s2 v w4 hI
    obtain ⟨u4, rfl, rfl⟩ := hI
    refine rf_s (AV.bool false) (ix_end _) ?_
    refine rf_cf ?_
    exact rf_ret ⟨by simp, ⟨_, _, _, rfl⟩⟩
   ·intro hl b3 q hq
    obtain ⟨u2, u4, u22, rfl⟩ := hq
    refine rf_bt rfl ?_
    exact rf_fin _ (fin_same _ _) ⟨rfl, rfl⟩
   ·intro hl b3 q hq
    obtain ⟨u2, u22, rfl⟩ := hq
    refine rf_bf rfl ?_
    refine rf_bt rfl ?_
    exact rf_fin _ (fin_same _ _) ⟨rfl, rfl⟩

noncomputable def t_R4_Level (a0 : (List PresetD)) (a1 : KeyD) (a2 : ValueD) : Option (Int × Int) :=
 if ((decide (¬ (a2.level = 0))) && (decide (¬ (a2.preset = 0)))) = true then
  some (0, 3)
 else
  if (!(withinB a2.level 0 65535)) = true then
   some (0, 1)
  else
   if a2.preset = 0 then
    some (a2.level, 0)
   else
    (t_R4_PresetOf a0 a2.preset).bind fun r1 =>
    if (!r1.2) = true then
     some (0, 8)
    else
     forE r1.1.settings (fun (i9 : Nat) e8 (s2 : Unit) => (show Option (Lr Unit Unit Int) from
       if e8.key = a1 then
        some (.ret e8.level)
       else
        some (.go ()))) (fun s2 => some ()) () (fun b3 =>
      some (0, 8)) (fun b3 =>
      some (b3, 0))
theorem h_R4_Level {a0 : (List PresetD)} { a1 : KeyD} { a2 : ValueD} {σ : Heap} {r : (Int × Int)} (h : t_R4_Level a0 a1 a2 = some r) : m_R4_Level [(sl 3 cPreset a0), (AV.agg (cKey a1)), (AV.agg (cValue a2))] σ = some ((AV.tup [(AV.int .i64 r.1), (AV.int .i64 r.2)]), σ) := by
 refine rf_wrap3 (f := r_R4_Level) (y0 := (sl 3 cPreset a0)) (y1 := (AV.agg (cKey a1))) (y2 := (AV.agg (cValue a2))) (enc := fun r : (Int × Int) => (AV.tup [(AV.int .i64 r.1), (AV.int .i64 r.2)])) (T := t_R4_Level a0 a1 a2) rfl rfl ?_ r h
 unfold r_R4_Level t_R4_Level
 refine rf_s (cKey a1) rfl ?_
 refine rf_s (cValue a2) rfl ?_
 refine rf_s (AV.int .i64 a2.level) rfl ?_
 refine rf_s (AV.bool (decide (¬ (a2.level = 0)))) (aNe _ _ _) ?_
 refine rf_gt (AV.int .i64 a2.preset) (fun hg => by
   exact rfl) ?_
 refine rf_gt (AV.bool (decide (¬ (a2.preset = 0)))) (fun hg => by
   first | exact (aNe _ _ _) | (simp only [hg, Bool.true_and, Bool.and_true, cond_true, hg]; first | done | exact (aNe _ _ _))) ?_
 refine rf_s (AV.bool ((decide (¬ (a2.level = 0))) && (decide (¬ (a2.preset = 0))))) (pk_and _ _) ?_
 refine rf_cb (c := ((decide (¬ (a2.level = 0))) && (decide (¬ (a2.preset = 0))))) (fun c14 => ?_) (fun c14 => ?_)
 ·exact rf_fin _ (fin_same _ _) ⟨rfl, rfl⟩
 ·refine rf_s (AV.int .i64 a2.level) rfl ?_
  refine rf_s ((AV.bool (withinB a2.level 0 65535)), σ) (IsLevel1_eq a2.level σ) ?_
  refine rf_s (AV.bool (!(withinB a2.level 0 65535))) rfl ?_
  refine rf_cb (c := (!(withinB a2.level 0 65535))) (fun c13 => ?_) (fun c13 => ?_)
  ·exact rf_fin _ (fin_same _ _) ⟨rfl, rfl⟩
  ·refine rf_s (AV.int .i64 a2.preset) rfl ?_
   refine rf_s (AV.bool (decide (a2.preset = 0))) (aEq _ _ _) ?_
   refine rf_c (p := a2.preset = 0) (fun c12 => ?_) (fun c12 => ?_)
   ·refine rf_s (AV.int .i64 a2.level) rfl ?_
    exact rf_fin _ (fin_same _ _) ⟨rfl, rfl⟩
   ·refine rf_s (AV.int .i64 a2.preset) rfl ?_
    refine rf_o (fun r1 : (PresetD × Bool) => ((AV.tup [(AV.agg (cPreset r1.1)), (AV.bool r1.2)]), σ)) (fun r1 hr1 => h_R4_PresetOf hr1) (fun r1 hr1 => ?_)
    refine rf_s (AV.agg (cPreset r1.1)) rfl ?_
    refine rf_s (AV.bool r1.2) rfl ?_
    refine rf_s (cPreset r1.1) rfl ?_
    refine rf_s (cPreset r1.1) (sp_cPreset _ _ rfl) ?_
    refine rf_s (AV.bool (!r1.2)) rfl ?_
    refine rf_cb (c := (!r1.2)) (fun c11 => ?_) (fun c11 => ?_)
    ·exact rf_fin _ (fin_same _ _) ⟨rfl, rfl⟩
    ·refine rf_s (sl 3 cSetting r1.1.settings) rfl ?_
     refine rf_s (AV.int .i64 (r1.1.settings.length : Int)) (lenS_sl _ _ _) ?_
     refine rf_for (B := Unit) (R := Int) (fun (i9 : Nat) (s2 : Unit) v w4 => v = [(AV.lbx (cKey a1)), (AV.int .i64 0), (AV.int .i64 0), (AV.int .i64 (i9 : Int))] ∧ σ = w4) (fun (b3 : Unit) (q : LS) => ∃ u4 u6 u7 u44, q = ((AX.exit 1), ([u4, u6, u7, u44] : List AV), σ)) (fun (b3 : Int) (q : LS) => ∃ u4 u44, q = (AX.ret, ([u4, (AV.int .i64 b3), (AV.int .i64 0), u44] : List AV), σ)) ?_ ?_ ⟨rfl, rfl⟩ ?_ ?_
     ·intro hle8 i9 e8 s2 v w4 he8 hI
      obtain ⟨rfl, rfl⟩ := hI
      refine rf_s (AV.bool true) (ix_lt he8) ?_
      refine rf_ct ?_
      refine rf_s (AV.rp (cSetting e8)) (ix_for he8) ?_
      refine rf_s (AV.agg (cSetting e8)) rfl ?_
      refine rf_s (cSetting e8) rfl ?_
      refine rf_s (cSetting e8) (sp_cSetting _ _ rfl) ?_
      refine rf_s (AV.agg (cKey e8.key)) rfl ?_
      refine rf_s (AV.agg (cKey a1)) rfl ?_
      refine rf_s (AV.bool (decide (e8.key = a1))) (eq_Key _ _) ?_
      refine rf_c (p := e8.key = a1) (fun c10 => ?_) (fun c10 => ?_)
      ·refine rf_s (AV.int .i64 e8.level) rfl ?_
       exact rf_ret (rnd_ret (by simp) ⟨_, _, rfl⟩)
      ·refine rf_s (AV.int .i64 ((i9 + 1 : Nat) : Int)) (ix_inc he8 hle8) ?_
       exact rf_ret (rnd_go ⟨rfl, rfl⟩)
     ·intro hl s2 v w4 hI
      obtain ⟨rfl, rfl⟩ := hI
      refine rf_s (AV.bool false) (ix_end _) ?_
      refine rf_cf ?_
      exact rf_ret ⟨by simp, ⟨_, _, _, _, rfl⟩⟩
     ·intro hl b3 q hq
      obtain ⟨u4, u6, u7, u44, rfl⟩ := hq
      refine rf_bt rfl ?_
      exact rf_fin _ (fin_same _ _) ⟨rfl, rfl⟩
     ·intro hl b3 q hq
      obtain ⟨u4, u44, rfl⟩ := hq
      refine rf_bf rfl ?_
      refine rf_bt rfl ?_
      exact rf_fin _ (fin_same _ _) ⟨rfl, rfl⟩

noncomputable def t_R5_checkMove (a0 : MoveD) (a1 : (List MoveD)) : Option Int :=
 if (!(withinB a0.key.unit 1 9999)) = true then
  some 1
 else
  (tq (okS a0.key.param) (nameB a0.key.param)).bind fun r1 =>
  if (!r1) = true then
   some 5
  else
   if ((a0.release && (decide (¬ (a0.value = (⟨0, 0⟩ : ValueD))))) || ((decide (¬ (a0.value.level = 0))) && (decide (¬ (a0.value.preset = 0))))) = true then
    some 3
   else
    if ((!(withinB a0.value.level 0 65535)) || (!(withinB a0.value.preset 0 999))) = true then
     some 1
    else
     if ((!a0.timed) && ((decide (¬ (a0.delay = 0))) || (decide (¬ (a0.time = 0))))) = true then
      some 3
     else
      if ((!(withinB a0.delay 0 36000000)) || (!(withinB a0.time 0 36000000))) = true then
       some 1
      else
       (if decide (0 < (a1.length : Int)) = true then tIx a1 (IntKind.i64.wrap ((a1.length : Int) - 1)) else some default).bind fun x2 =>
       if ((decide (0 < (a1.length : Int))) && (!(((decide (x2.key.unit < a0.key.unit)) || ((decide (x2.key.unit = a0.key.unit)) && (Op.bytesLess x2.key.param.toList a0.key.param.toList)))))) = true then
        some 7
       else
        some 0
theorem h_R5_checkMove {a0 : MoveD} { a1 : (List MoveD)} {σ : Heap} {r : Int} (h : t_R5_checkMove a0 a1 = some r) : m_R5_checkMove [(AV.agg (cMove a0)), (sl 8 cMove a1)] σ = some ((AV.int .i64 r), σ) := by
 refine rf_wrap2 (f := r_R5_checkMove) (y0 := (AV.agg (cMove a0))) (y1 := (sl 8 cMove a1)) (enc := fun r : Int => (AV.int .i64 r)) (T := t_R5_checkMove a0 a1) rfl rfl ?_ r h
 unfold r_R5_checkMove t_R5_checkMove
 refine rf_s (cMove a0) rfl ?_
 refine rf_s (AV.int .i64 a0.key.unit) rfl ?_
 refine rf_s ((AV.bool (withinB a0.key.unit 1 9999)), σ) (Within1_eq a0.key.unit 1 9999 σ) ?_
 refine rf_s (AV.bool (!(withinB a0.key.unit 1 9999))) rfl ?_
 refine rf_cb (c := (!(withinB a0.key.unit 1 9999))) (fun c9 => ?_) (fun c9 => ?_)
 ·exact rf_fin _ (fin_same _ _) ⟨rfl, rfl⟩
 ·refine rf_s (AV.str a0.key.param) rfl ?_
  refine rf_o (fun r1 : Bool => ((AV.bool r1), σ)) (fun r1 hr1 => (tq_of (e := fun r : Bool => ((AV.bool r), σ)) (fun hs => IsName1_eq a0.key.param hs σ)) hr1) (fun r1 hr1 => ?_)
  refine rf_s (AV.bool (!r1)) rfl ?_
  refine rf_cb (c := (!r1)) (fun c8 => ?_) (fun c8 => ?_)
  ·exact rf_fin _ (fin_same _ _) ⟨rfl, rfl⟩
  ·refine rf_s (AV.bool a0.release) rfl ?_
   refine rf_gt (AV.agg (cValue a0.value)) (fun hg => by
     exact rfl) ?_
   refine rf_gt (AV.agg (cValue (⟨0, 0⟩ : ValueD))) (fun hg => by
     exact rfl) ?_
   refine rf_gt (AV.bool (decide (¬ (a0.value = (⟨0, 0⟩ : ValueD))))) (fun hg => by
     first | exact (ne_Value _ _) | (simp only [hg, Bool.true_and, Bool.and_true, cond_true, hg]; first | done | exact (ne_Value _ _))) ?_
   refine rf_s (AV.bool (a0.release && (decide (¬ (a0.value = (⟨0, 0⟩ : ValueD)))))) (pk_and _ _) ?_
   refine rf_gf (AV.int .i64 a0.value.level) (fun hg => by
     exact rfl) ?_
   refine rf_gf (AV.bool (decide (¬ (a0.value.level = 0)))) (fun hg => by
     first | exact (aNe _ _ _) | (simp only [hg, Bool.true_and, Bool.and_true, cond_true, hg]; first | done | exact (aNe _ _ _))) ?_
   refine rf_gf (AV.bool (decide (¬ (a0.value.level = 0)))) (fun hg => by
     first | exact rfl | (simp only [hg, Bool.true_and, Bool.and_true, cond_true, hg]; first | done | exact rfl)) ?_
   refine rf_ggt (AV.int .i64 a0.value.preset) (fun hg => by
     exact rfl) ?_
   refine rf_ggt (AV.bool (decide (¬ (a0.value.preset = 0)))) (fun hg => by
     first | exact (aNe _ _ _) | (simp only [hg, Bool.true_and, Bool.and_true, cond_true, hg]; first | done | exact (aNe _ _ _))) ?_
   refine rf_gf (AV.bool ((decide (¬ (a0.value.level = 0))) && (decide (¬ (a0.value.preset = 0))))) (fun hg => by
     first | exact (pk_and _ _) | (simp only [hg, Bool.true_and, Bool.and_true, cond_true, hg]; first | done | exact (pk_and _ _))) ?_
   refine rf_s (AV.bool ((a0.release && (decide (¬ (a0.value = (⟨0, 0⟩ : ValueD))))) || ((decide (¬ (a0.value.level = 0))) && (decide (¬ (a0.value.preset = 0)))))) (pk_or _ _) ?_
   refine rf_cb (c := ((a0.release && (decide (¬ (a0.value = (⟨0, 0⟩ : ValueD))))) || ((decide (¬ (a0.value.level = 0))) && (decide (¬ (a0.value.preset = 0)))))) (fun c7 => ?_) (fun c7 => ?_)
   ·exact rf_fin _ (fin_same _ _) ⟨rfl, rfl⟩
   ·refine rf_s (AV.int .i64 a0.value.level) rfl ?_
    refine rf_s ((AV.bool (withinB a0.value.level 0 65535)), σ) (IsLevel1_eq a0.value.level σ) ?_
    refine rf_s (AV.bool (!(withinB a0.value.level 0 65535))) rfl ?_
    refine rf_gf (AV.int .i64 a0.value.preset) (fun hg => by
      exact rfl) ?_
    refine rf_gf (AV.bool (withinB a0.value.preset 0 999)) (fun hg => by
      first | exact (quiet_of (Within1_eq a0.value.preset 0 999 σ)) | (simp only [hg, Bool.true_and, Bool.and_true, cond_true, hg]; first | done | exact (quiet_of (Within1_eq a0.value.preset 0 999 σ)))) ?_
    refine rf_gf (AV.bool (!(withinB a0.value.preset 0 999))) (fun hg => by
      first | exact rfl | (simp only [hg, Bool.true_and, Bool.and_true, cond_true, hg]; first | done | exact rfl)) ?_
    refine rf_s (AV.bool ((!(withinB a0.value.level 0 65535)) || (!(withinB a0.value.preset 0 999)))) (pk_or _ _) ?_
    refine rf_cb (c := ((!(withinB a0.value.level 0 65535)) || (!(withinB a0.value.preset 0 999)))) (fun c6 => ?_) (fun c6 => ?_)
    ·exact rf_fin _ (fin_same _ _) ⟨rfl, rfl⟩
    ·refine rf_s (AV.bool a0.timed) rfl ?_
     refine rf_s (AV.bool (!a0.timed)) rfl ?_
     refine rf_gt (AV.int .i64 a0.delay) (fun hg => by
       exact rfl) ?_
     refine rf_gt (AV.bool (decide (¬ (a0.delay = 0)))) (fun hg => by
       first | exact (aNe _ _ _) | (simp only [hg, Bool.true_and, Bool.and_true, cond_true, hg]; first | done | exact (aNe _ _ _))) ?_
     refine rf_gt (AV.bool (decide (¬ (a0.delay = 0)))) (fun hg => by
       first | exact rfl | (simp only [hg, Bool.true_and, Bool.and_true, cond_true, hg]; first | done | exact rfl)) ?_
     refine rf_ggf (AV.int .i64 a0.time) (fun hg => by
       exact rfl) ?_
     refine rf_ggf (AV.bool (decide (¬ (a0.time = 0)))) (fun hg => by
       first | exact (aNe _ _ _) | (simp only [hg, Bool.true_and, Bool.and_true, cond_true, hg]; first | done | exact (aNe _ _ _))) ?_
     refine rf_gt (AV.bool ((decide (¬ (a0.delay = 0))) || (decide (¬ (a0.time = 0))))) (fun hg => by
       first | exact (pk_or _ _) | (simp only [hg, Bool.true_and, Bool.and_true, cond_true, hg]; first | done | exact (pk_or _ _))) ?_
     refine rf_s (AV.bool ((!a0.timed) && ((decide (¬ (a0.delay = 0))) || (decide (¬ (a0.time = 0)))))) (pk_and _ _) ?_
     refine rf_cb (c := ((!a0.timed) && ((decide (¬ (a0.delay = 0))) || (decide (¬ (a0.time = 0)))))) (fun c5 => ?_) (fun c5 => ?_)
     ·exact rf_fin _ (fin_same _ _) ⟨rfl, rfl⟩
     ·refine rf_s (AV.int .i64 a0.delay) rfl ?_
      refine rf_s ((AV.bool (withinB a0.delay 0 36000000)), σ) (IsTime1_eq a0.delay σ) ?_
      refine rf_s (AV.bool (!(withinB a0.delay 0 36000000))) rfl ?_
      refine rf_gf (AV.int .i64 a0.time) (fun hg => by
        exact rfl) ?_
      refine rf_gf (AV.bool (withinB a0.time 0 36000000)) (fun hg => by
        first | exact (quiet_of (IsTime1_eq a0.time σ)) | (simp only [hg, Bool.true_and, Bool.and_true, cond_true, hg]; first | done | exact (quiet_of (IsTime1_eq a0.time σ)))) ?_
      refine rf_gf (AV.bool (!(withinB a0.time 0 36000000))) (fun hg => by
        first | exact rfl | (simp only [hg, Bool.true_and, Bool.and_true, cond_true, hg]; first | done | exact rfl)) ?_
      refine rf_s (AV.bool ((!(withinB a0.delay 0 36000000)) || (!(withinB a0.time 0 36000000)))) (pk_or _ _) ?_
      refine rf_cb (c := ((!(withinB a0.delay 0 36000000)) || (!(withinB a0.time 0 36000000)))) (fun c4 => ?_) (fun c4 => ?_)
      ·exact rf_fin _ (fin_same _ _) ⟨rfl, rfl⟩
      ·refine rf_s (AV.int .i64 (a1.length : Int)) (lenS_sl _ _ _) ?_
       refine rf_s (AV.bool (decide (0 < (a1.length : Int)))) rfl ?_
       refine rf_gt (sl 8 cMove a1) (fun hg => by
         exact rfl) ?_
       refine rf_gt (sl 8 cMove a1) (fun hg => by
         exact rfl) ?_
       refine rf_gt (AV.int .i64 (a1.length : Int)) (fun hg => by
         first | exact (lenS_sl _ _ _) | (simp only [hg, Bool.true_and, Bool.and_true, cond_true, hg]; first | done | exact (lenS_sl _ _ _))) ?_
       refine rf_gt (AV.int .i64 (IntKind.i64.wrap ((a1.length : Int) - 1))) (fun hg => by
         first | exact rfl | (simp only [hg, Bool.true_and, Bool.and_true, cond_true, hg]; first | done | exact rfl)) ?_
       refine rf_gto (ω := MoveD) (fun x2 => (AV.rp (cMove x2))) (fun hg x2 hx2 => by
         first | exact ix_at hx2 | (simp only [hg, Bool.true_and, Bool.and_true, cond_true, hg]; first | done | exact ix_at hx2)) (fun x2 hx2 => ?_)
       refine rf_gt (AV.rp (cMove x2)) (fun hg => by
         first | exact rfl | (simp only [hg, Bool.true_and, Bool.and_true, cond_true, hg]; first | done | exact rfl)) ?_
       refine rf_gt (AV.agg (cKey x2.key)) (fun hg => by
         first | exact rfl | (simp only [hg, Bool.true_and, Bool.and_true, cond_true, hg]; first | done | exact rfl)) ?_
       refine rf_gt (AV.agg (cKey a0.key)) (fun hg => by
         exact rfl) ?_
       refine rf_gt (AV.bool (((decide (x2.key.unit < a0.key.unit)) || ((decide (x2.key.unit = a0.key.unit)) && (Op.bytesLess x2.key.param.toList a0.key.param.toList))))) (fun hg => by
         first | exact (quiet_of (h_R4_Before (σ := σ) (r := ((decide (x2.key.unit < a0.key.unit)) || ((decide (x2.key.unit = a0.key.unit)) && (Op.bytesLess x2.key.param.toList a0.key.param.toList)))) rfl)) | (simp only [hg, Bool.true_and, Bool.and_true, cond_true, hg]; first | done | exact (quiet_of (h_R4_Before (σ := σ) (r := ((decide (x2.key.unit < a0.key.unit)) || ((decide (x2.key.unit = a0.key.unit)) && (Op.bytesLess x2.key.param.toList a0.key.param.toList)))) rfl)))) ?_
       refine rf_gt (AV.bool (!(((decide (x2.key.unit < a0.key.unit)) || ((decide (x2.key.unit = a0.key.unit)) && (Op.bytesLess x2.key.param.toList a0.key.param.toList)))))) (fun hg => by
         first | exact rfl | (simp only [hg, Bool.true_and, Bool.and_true, cond_true, hg]; first | done | exact rfl)) ?_
       refine rf_s (AV.bool ((decide (0 < (a1.length : Int))) && (!(((decide (x2.key.unit < a0.key.unit)) || ((decide (x2.key.unit = a0.key.unit)) && (Op.bytesLess x2.key.param.toList a0.key.param.toList))))))) (pk_and _ _) ?_
       refine rf_cb (c := ((decide (0 < (a1.length : Int))) && (!(((decide (x2.key.unit < a0.key.unit)) || ((decide (x2.key.unit = a0.key.unit)) && (Op.bytesLess x2.key.param.toList a0.key.param.toList))))))) (fun c3 => ?_) (fun c3 => ?_)
       ·exact rf_fin _ (fin_same _ _) ⟨rfl, rfl⟩
       ·exact rf_fin _ (fin_same _ _) ⟨rfl, rfl⟩

noncomputable def t_R5_checkMoves (a0 : (List MoveD)) : Option Int :=
 if 2000 < (a0.length : Int) then
  some 2
 else
  forE a0 (fun (i8 : Nat) e7 (s1 : Unit) => (show Option (Lr Unit Unit Int) from
    (tSl a0 none (some (i8 : Int))).bind fun x9 =>
    (t_R5_checkMove e7 x9).bind fun r10 =>
    if ¬ (r10 = 0) then
     some (.ret r10)
    else
     some (.go ()))) (fun s1 => some ()) () (fun b2 =>
   some 0) (fun b2 =>
   some b2)
theorem h_R5_checkMoves {a0 : (List MoveD)} {σ : Heap} {r : Int} (h : t_R5_checkMoves a0 = some r) : m_R5_checkMoves [(sl 8 cMove a0)] σ = some ((AV.int .i64 r), σ) := by
 refine rf_wrap1 (f := r_R5_checkMoves) (y0 := (sl 8 cMove a0)) (enc := fun r : Int => (AV.int .i64 r)) (T := t_R5_checkMoves a0) rfl rfl ?_ r h
 unfold r_R5_checkMoves t_R5_checkMoves
 refine rf_s (AV.int .i64 (a0.length : Int)) (lenS_sl _ _ _) ?_
 refine rf_s (AV.bool (decide (2000 < (a0.length : Int)))) rfl ?_
 refine rf_c (p := 2000 < (a0.length : Int)) (fun c12 => ?_) (fun c12 => ?_)
 ·exact rf_fin _ (fin_same _ _) ⟨rfl, rfl⟩
 ·refine rf_s (AV.int .i64 (a0.length : Int)) (lenS_sl _ _ _) ?_
  refine rf_for (B := Unit) (R := Int) (fun (i8 : Nat) (s1 : Unit) v w3 => v = [(AV.int .i64 0), (AV.int .i64 (i8 : Int))] ∧ σ = w3) (fun (b2 : Unit) (q : LS) => ∃ u2 u11, q = ((AX.exit 0), ([u2, u11] : List AV), σ)) (fun (b2 : Int) (q : LS) => ∃ u11, q = (AX.ret, ([(AV.int .i64 b2), u11] : List AV), σ)) ?_ ?_ ⟨rfl, rfl⟩ ?_ ?_
  ·intro hle7 i8 e7 s1 v w3 he7 hI
   obtain ⟨rfl, rfl⟩ := hI
   refine rf_s (AV.bool true) (ix_lt he7) ?_
   refine rf_ct ?_
   refine rf_s (AV.rp (cMove e7)) (ix_for he7) ?_
   refine rf_s (AV.agg (cMove e7)) rfl ?_
   refine rf_s (cMove e7) rfl ?_
   refine rf_s (cMove e7) (sp_cMove _ _ rfl) ?_
   refine rf_s (AV.agg (cMove e7)) rfl ?_
   refine rf_o (fun x9 : (List MoveD) => (sl 8 cMove x9)) (fun x9 hx9 => (sls_at hx9)) (fun x9 hx9 => ?_)
   refine rf_o (fun r10 : Int => (AV.int .i64 r10)) (fun r10 hr10 => (quiet_of (h_R5_checkMove hr10))) (fun r10 hr10 => ?_)
   refine rf_s (AV.bool (decide (¬ (r10 = 0)))) (aNe _ _ _) ?_
   refine rf_c (p := ¬ (r10 = 0)) (fun c11 => ?_) (fun c11 => ?_)
   ·exact rf_ret (rnd_ret (by simp) ⟨_, rfl⟩)
   ·refine rf_s (AV.int .i64 ((i8 + 1 : Nat) : Int)) (ix_inc he7 hle7) ?_
    exact rf_ret (rnd_go ⟨rfl, rfl⟩)
  ·intro hl s1 v w3 hI
   obtain ⟨rfl, rfl⟩ := hI
   refine rf_s (AV.bool false) (ix_end _) ?_
   refine rf_cf ?_
   exact rf_ret ⟨by simp, ⟨_, _, rfl⟩⟩
  ·intro hl b2 q hq
   obtain ⟨u2, u11, rfl⟩ := hq
   refine rf_bt rfl ?_
   exact rf_fin _ (fin_same _ _) ⟨rfl, rfl⟩
  ·intro hl b2 q hq
   obtain ⟨u11, rfl⟩ := hq
   refine rf_bf rfl ?_
   refine rf_bt rfl ?_
   exact rf_fin _ (fin_same _ _) ⟨rfl, rfl⟩

noncomputable def t_R5_CheckForm (a0 : (List CueD)) : Option Int :=
 if 300 < (a0.length : Int) then
  some 2
 else
  forE a0 (fun (i8 : Nat) e7 (s1 : Int) => (show Option (Lr Int Int Int) from
    if (!(withinB e7.number 1 9999999)) = true then
     some (.ret 1)
    else
     (if decide (0 < (i8 : Int)) = true then tIx a0 (IntKind.i64.wrap ((i8 : Int) - 1)) else some default).bind fun x9 =>
     if ((decide (0 < (i8 : Int))) && (decide (e7.number ≤ x9.number))) = true then
      some (.ret 7)
     else
      (if decide (¬ (e7.title = (⟨#[]⟩ : ByteArray))) = true then tq (okS e7.title) (titleB e7.title) else some default).bind fun r10 =>
      if ((decide (¬ (e7.title = (⟨#[]⟩ : ByteArray)))) && (!r10)) = true then
       some (.ret 3)
      else
       if (((((!(withinB e7.delay 0 36000000)) || (!(withinB e7.up 0 36000000))) || (!(withinB e7.down 0 36000000))) || (!(withinB e7.other 0 36000000))) || (!(withinB e7.follow (-1) 36000000))) = true then
        some (.ret 1)
       else
        if ¬ ((curveF e7.curve) = 0) then
         some (.ret (curveF e7.curve))
        else
         (t_R5_checkMoves e7.moves).bind fun r11 =>
         if ¬ (r11 = 0) then
          some (.ret r11)
         else
          some (.go (IntKind.i64.wrap (s1 + (e7.moves.length : Int)))))) (fun s1 => some s1) 0 (fun b2 =>
   if 10000 < b2 then
    some 2
   else
    some 0) (fun b2 =>
   some b2)
theorem h_R5_CheckForm {a0 : (List CueD)} {σ : Heap} {r : Int} (h : t_R5_CheckForm a0 = some r) : m_R5_CheckForm [(sl 11 cCue a0)] σ = some ((AV.int .i64 r), σ) := by
 refine rf_wrap1 (f := r_R5_CheckForm) (y0 := (sl 11 cCue a0)) (enc := fun r : Int => (AV.int .i64 r)) (T := t_R5_CheckForm a0) rfl rfl ?_ r h
 unfold r_R5_CheckForm t_R5_CheckForm
 refine rf_s (AV.int .i64 (a0.length : Int)) (lenS_sl _ _ _) ?_
 refine rf_s (AV.bool (decide (300 < (a0.length : Int)))) rfl ?_
 refine rf_c (p := 300 < (a0.length : Int)) (fun c19 => ?_) (fun c19 => ?_)
 ·exact rf_fin _ (fin_same _ _) ⟨rfl, rfl⟩
 ·refine rf_s (AV.int .i64 (a0.length : Int)) (lenS_sl _ _ _) ?_
  refine rf_for (B := Int) (R := Int) (fun (i8 : Nat) (s1 : Int) v w3 => v = [(AV.int .i64 0), (AV.int .i64 s1), (AV.int .i64 (i8 : Int))] ∧ σ = w3) (fun (b2 : Int) (q : LS) => ∃ u2 u13, q = ((AX.exit 0), ([u2, (AV.int .i64 b2), u13] : List AV), σ)) (fun (b2 : Int) (q : LS) => ∃ u3 u13, q = (AX.ret, ([(AV.int .i64 b2), u3, u13] : List AV), σ)) ?_ ?_ ⟨rfl, rfl⟩ ?_ ?_
  ·intro hle7 i8 e7 s1 v w3 he7 hI
   obtain ⟨rfl, rfl⟩ := hI
   refine rf_s (AV.bool true) (ix_lt he7) ?_
   refine rf_ct ?_
   refine rf_s (AV.rp (cCue e7)) (ix_for he7) ?_
   refine rf_s (AV.agg (cCue e7)) rfl ?_
   refine rf_s (cCue e7) rfl ?_
   refine rf_s (cCue e7) (sp_cCue _ _ rfl) ?_
   refine rf_s (AV.int .i64 e7.number) rfl ?_
   refine rf_s ((AV.bool (withinB e7.number 1 9999999)), σ) (Within1_eq e7.number 1 9999999 σ) ?_
   refine rf_s (AV.bool (!(withinB e7.number 1 9999999))) rfl ?_
   refine rf_cb (c := (!(withinB e7.number 1 9999999))) (fun c17 => ?_) (fun c17 => ?_)
   ·exact rf_ret (rnd_ret (by simp) ⟨_, _, rfl⟩)
   ·refine rf_s (AV.bool (decide (0 < (i8 : Int)))) rfl ?_
    refine rf_gt (AV.int .i64 e7.number) (fun hg => by
      exact rfl) ?_
    refine rf_gt (sl 11 cCue a0) (fun hg => by
      exact rfl) ?_
    refine rf_gt (AV.int .i64 (i8 : Int)) (fun hg => by
      exact rfl) ?_
    refine rf_gt (AV.int .i64 (IntKind.i64.wrap ((i8 : Int) - 1))) (fun hg => by
      first | exact rfl | (simp only [hg, Bool.true_and, Bool.and_true, cond_true, hg]; first | done | exact rfl)) ?_
    refine rf_gto (ω := CueD) (fun x9 => (AV.rp (cCue x9))) (fun hg x9 hx9 => by
      first | exact ix_at hx9 | (simp only [hg, Bool.true_and, Bool.and_true, cond_true, hg]; first | done | exact ix_at hx9)) (fun x9 hx9 => ?_)
    refine rf_gt (AV.rp (cCue x9)) (fun hg => by
      first | exact rfl | (simp only [hg, Bool.true_and, Bool.and_true, cond_true, hg]; first | done | exact rfl)) ?_
    refine rf_gt (AV.int .i64 x9.number) (fun hg => by
      first | exact rfl | (simp only [hg, Bool.true_and, Bool.and_true, cond_true, hg]; first | done | exact rfl)) ?_
    refine rf_gt (AV.bool (decide (e7.number ≤ x9.number))) (fun hg => by
      first | exact rfl | (simp only [hg, Bool.true_and, Bool.and_true, cond_true, hg]; first | done | exact rfl)) ?_
    refine rf_s (AV.bool ((decide (0 < (i8 : Int))) && (decide (e7.number ≤ x9.number)))) (pk_and _ _) ?_
    refine rf_cb (c := ((decide (0 < (i8 : Int))) && (decide (e7.number ≤ x9.number)))) (fun c16 => ?_) (fun c16 => ?_)
    ·exact rf_ret (rnd_ret (by simp) ⟨_, _, rfl⟩)
    ·refine rf_s (AV.str e7.title) rfl ?_
     refine rf_s (AV.bool (decide (¬ (e7.title = (⟨#[]⟩ : ByteArray))))) (aNeZ _ _) ?_
     refine rf_gt (AV.str e7.title) (fun hg => by
       exact rfl) ?_
     refine rf_gto (ω := Bool) (fun r10 => (AV.bool r10)) (fun hg r10 hr10 => by
       first | exact (quiet_of ((tq_of (e := fun r : Bool => ((AV.bool r), σ)) (fun hs => IsTitle1_eq e7.title hs σ)) hr10)) | (simp only [hg, Bool.true_and, Bool.and_true, cond_true, hg]; first | done | exact (quiet_of ((tq_of (e := fun r : Bool => ((AV.bool r), σ)) (fun hs => IsTitle1_eq e7.title hs σ)) hr10)))) (fun r10 hr10 => ?_)
     refine rf_gt (AV.bool (!r10)) (fun hg => by
       first | exact rfl | (simp only [hg, Bool.true_and, Bool.and_true, cond_true, hg]; first | done | exact rfl)) ?_
     refine rf_s (AV.bool ((decide (¬ (e7.title = (⟨#[]⟩ : ByteArray)))) && (!r10))) (pk_and _ _) ?_
     refine rf_cb (c := ((decide (¬ (e7.title = (⟨#[]⟩ : ByteArray)))) && (!r10))) (fun c15 => ?_) (fun c15 => ?_)
     ·exact rf_ret (rnd_ret (by simp) ⟨_, _, rfl⟩)
     ·refine rf_s (AV.int .i64 e7.delay) rfl ?_
      refine rf_s ((AV.bool (withinB e7.delay 0 36000000)), σ) (IsTime1_eq e7.delay σ) ?_
      refine rf_s (AV.bool (!(withinB e7.delay 0 36000000))) rfl ?_
      refine rf_gf (AV.int .i64 e7.up) (fun hg => by
        exact rfl) ?_
      refine rf_gf (AV.bool (withinB e7.up 0 36000000)) (fun hg => by
        first | exact (quiet_of (IsTime1_eq e7.up σ)) | (simp only [hg, Bool.true_and, Bool.and_true, cond_true, hg]; first | done | exact (quiet_of (IsTime1_eq e7.up σ)))) ?_
      refine rf_gf (AV.bool (!(withinB e7.up 0 36000000))) (fun hg => by
        first | exact rfl | (simp only [hg, Bool.true_and, Bool.and_true, cond_true, hg]; first | done | exact rfl)) ?_
      refine rf_s (AV.bool ((!(withinB e7.delay 0 36000000)) || (!(withinB e7.up 0 36000000)))) (pk_or _ _) ?_
      refine rf_gf (AV.int .i64 e7.down) (fun hg => by
        exact rfl) ?_
      refine rf_gf (AV.bool (withinB e7.down 0 36000000)) (fun hg => by
        first | exact (quiet_of (IsTime1_eq e7.down σ)) | (simp only [hg, Bool.true_and, Bool.and_true, cond_true, hg]; first | done | exact (quiet_of (IsTime1_eq e7.down σ)))) ?_
      refine rf_gf (AV.bool (!(withinB e7.down 0 36000000))) (fun hg => by
        first | exact rfl | (simp only [hg, Bool.true_and, Bool.and_true, cond_true, hg]; first | done | exact rfl)) ?_
      refine rf_s (AV.bool (((!(withinB e7.delay 0 36000000)) || (!(withinB e7.up 0 36000000))) || (!(withinB e7.down 0 36000000)))) (pk_or _ _) ?_
      refine rf_gf (AV.int .i64 e7.other) (fun hg => by
        exact rfl) ?_
      refine rf_gf (AV.bool (withinB e7.other 0 36000000)) (fun hg => by
        first | exact (quiet_of (IsTime1_eq e7.other σ)) | (simp only [hg, Bool.true_and, Bool.and_true, cond_true, hg]; first | done | exact (quiet_of (IsTime1_eq e7.other σ)))) ?_
      refine rf_gf (AV.bool (!(withinB e7.other 0 36000000))) (fun hg => by
        first | exact rfl | (simp only [hg, Bool.true_and, Bool.and_true, cond_true, hg]; first | done | exact rfl)) ?_
      refine rf_s (AV.bool ((((!(withinB e7.delay 0 36000000)) || (!(withinB e7.up 0 36000000))) || (!(withinB e7.down 0 36000000))) || (!(withinB e7.other 0 36000000)))) (pk_or _ _) ?_
      refine rf_gf (AV.int .i64 e7.follow) (fun hg => by
        exact rfl) ?_
      refine rf_gf (AV.bool (withinB e7.follow (-1) 36000000)) (fun hg => by
        first | exact (quiet_of (Within1_eq e7.follow (-1) 36000000 σ)) | (simp only [hg, Bool.true_and, Bool.and_true, cond_true, hg]; first | done | exact (quiet_of (Within1_eq e7.follow (-1) 36000000 σ)))) ?_
      refine rf_gf (AV.bool (!(withinB e7.follow (-1) 36000000))) (fun hg => by
        first | exact rfl | (simp only [hg, Bool.true_and, Bool.and_true, cond_true, hg]; first | done | exact rfl)) ?_
      refine rf_s (AV.bool (((((!(withinB e7.delay 0 36000000)) || (!(withinB e7.up 0 36000000))) || (!(withinB e7.down 0 36000000))) || (!(withinB e7.other 0 36000000))) || (!(withinB e7.follow (-1) 36000000)))) (pk_or _ _) ?_
      refine rf_cb (c := (((((!(withinB e7.delay 0 36000000)) || (!(withinB e7.up 0 36000000))) || (!(withinB e7.down 0 36000000))) || (!(withinB e7.other 0 36000000))) || (!(withinB e7.follow (-1) 36000000)))) (fun c14 => ?_) (fun c14 => ?_)
      ·exact rf_ret (rnd_ret (by simp) ⟨_, _, rfl⟩)
      ·refine rf_s (AV.agg (cCurve e7.curve)) rfl ?_
       refine rf_s ((AV.int .i64 (curveF e7.curve)), σ) (CheckCurve1_eq e7.curve σ) ?_
       refine rf_s (AV.bool (decide (¬ ((curveF e7.curve) = 0)))) (aNe _ _ _) ?_
       refine rf_c (p := ¬ ((curveF e7.curve) = 0)) (fun c13 => ?_) (fun c13 => ?_)
       ·exact rf_ret (rnd_ret (by simp) ⟨_, _, rfl⟩)
       ·refine rf_s (sl 8 cMove e7.moves) rfl ?_
        refine rf_o (fun r11 : Int => ((AV.int .i64 r11), σ)) (fun r11 hr11 => h_R5_checkMoves hr11) (fun r11 hr11 => ?_)
        refine rf_s (AV.bool (decide (¬ (r11 = 0)))) (aNe _ _ _) ?_
        refine rf_c (p := ¬ (r11 = 0)) (fun c12 => ?_) (fun c12 => ?_)
        ·exact rf_ret (rnd_ret (by simp) ⟨_, _, rfl⟩)
        ·refine rf_s (sl 8 cMove e7.moves) rfl ?_
         refine rf_s (AV.int .i64 (e7.moves.length : Int)) (lenS_sl _ _ _) ?_
         refine rf_s (AV.int .i64 (IntKind.i64.wrap (s1 + (e7.moves.length : Int)))) rfl ?_
         refine rf_s (AV.int .i64 ((i8 + 1 : Nat) : Int)) (ix_inc he7 hle7) ?_
         exact rf_ret (rnd_go ⟨rfl, rfl⟩)
  ·intro hl s1 v w3 hI
   obtain ⟨rfl, rfl⟩ := hI
   refine rf_s (AV.bool false) (ix_end _) ?_
   refine rf_cf ?_
   exact rf_ret ⟨by simp, ⟨_, _, rfl⟩⟩
  ·intro hl b2 q hq
   obtain ⟨u2, u13, rfl⟩ := hq
   refine rf_bt rfl ?_
   refine rf_s (AV.bool (decide (10000 < b2))) rfl ?_
   refine rf_c (p := 10000 < b2) (fun c18 => ?_) (fun c18 => ?_)
   ·exact rf_fin _ (fin_same _ _) ⟨rfl, rfl⟩
   ·exact rf_fin _ (fin_same _ _) ⟨rfl, rfl⟩
  ·intro hl b2 q hq
   obtain ⟨u3, u13, rfl⟩ := hq
   refine rf_bf rfl ?_
   refine rf_bt rfl ?_
   exact rf_fin _ (fin_same _ _) ⟨rfl, rfl⟩

noncomputable def t_R5_CheckList (a0 : RigD) (a1 : (List PresetD)) (a2 : (List CueD)) : Option Int :=
 (t_R4_CheckPresets a0 a1).bind fun r1 =>
 if ¬ (r1 = 0) then
  some r1
 else
  (t_R5_CheckForm a2).bind fun r2 =>
  if ¬ (r2 = 0) then
   some r2
  else
   forE a2 (fun (i10 : Nat) e9 (s3 : Unit) => (show Option (Lr Unit Unit Int) from
     forE e9.moves (fun (i18 : Nat) e17 (s11 : Unit) => (show Option (Lr Unit Unit Int) from
       (tq (okRig a0) (paramOf a0 e17.key)).bind fun r19 =>
       if (!r19.2) = true then
        some (.ret 8)
       else
        (t_R4_Level a1 e17.key e17.value).bind fun r20 =>
        if ¬ (r20.2 = 0) then
         some (.ret r20.2)
        else
         some (.go ()))) (fun s11 => some ()) () (fun b12 =>
      some (.go ())) (fun b12 =>
      some (.ret b12)))) (fun s3 => some ()) () (fun b4 =>
    some 0) (fun b4 =>
    some b4)
theorem h_R5_CheckList {a0 : RigD} { a1 : (List PresetD)} { a2 : (List CueD)} {σ : Heap} {r : Int} (h : t_R5_CheckList a0 a1 a2 = some r) : m_R5_CheckList [(AV.agg (cRig a0)), (sl 3 cPreset a1), (sl 11 cCue a2)] σ = some ((AV.int .i64 r), σ) := by
 refine rf_wrap3 (f := r_R5_CheckList) (y0 := (AV.agg (cRig a0))) (y1 := (sl 3 cPreset a1)) (y2 := (sl 11 cCue a2)) (enc := fun r : Int => (AV.int .i64 r)) (T := t_R5_CheckList a0 a1 a2) rfl rfl ?_ r h
 unfold r_R5_CheckList t_R5_CheckList
 refine rf_s (cRig a0) rfl ?_
 refine rf_s (AV.agg (cRig a0)) rfl ?_
 refine rf_o (fun r1 : Int => ((AV.int .i64 r1), σ)) (fun r1 hr1 => h_R4_CheckPresets hr1) (fun r1 hr1 => ?_)
 refine rf_s (AV.bool (decide (¬ (r1 = 0)))) (aNe _ _ _) ?_
 refine rf_c (p := ¬ (r1 = 0)) (fun c24 => ?_) (fun c24 => ?_)
 ·exact rf_fin _ (fin_same _ _) ⟨rfl, rfl⟩
 ·refine rf_o (fun r2 : Int => ((AV.int .i64 r2), σ)) (fun r2 hr2 => h_R5_CheckForm hr2) (fun r2 hr2 => ?_)
  refine rf_s (AV.bool (decide (¬ (r2 = 0)))) (aNe _ _ _) ?_
  refine rf_c (p := ¬ (r2 = 0)) (fun c23 => ?_) (fun c23 => ?_)
  ·exact rf_fin _ (fin_same _ _) ⟨rfl, rfl⟩
  ·refine rf_s (AV.int .i64 (a2.length : Int)) (lenS_sl _ _ _) ?_
   refine rf_for (B := Unit) (R := Int) (fun (i10 : Nat) (s3 : Unit) v w5 => ∃ u6, v = [(AV.lbx (cRig a0)), u6, (AV.int .i64 (i10 : Int))] ∧ σ = w5) (fun (b4 : Unit) (q : LS) => ∃ u3 u6 u30, q = ((AX.exit 0), ([u3, u6, u30] : List AV), σ)) (fun (b4 : Int) (q : LS) => ∃ u3 u30, q = (AX.ret, ([u3, (AV.int .i64 b4), u30] : List AV), σ)) ?_ ?_ ⟨_, rfl, rfl⟩ ?_ ?_
   ·intro hle9 i10 e9 s3 v w5 he9 hI
    obtain ⟨u6, rfl, rfl⟩ := hI
    refine rf_s (AV.bool true) (ix_lt he9) ?_
    refine rf_ct ?_
    refine rf_s (AV.rp (cCue e9)) (ix_for he9) ?_
    refine rf_s (AV.agg (cCue e9)) rfl ?_
    refine rf_s (cCue e9) rfl ?_
    refine rf_s (cCue e9) (sp_cCue _ _ rfl) ?_
    refine rf_s (sl 8 cMove e9.moves) rfl ?_
    refine rf_s (AV.int .i64 (e9.moves.length : Int)) (lenS_sl _ _ _) ?_
    refine rf_for (B := Unit) (R := Int) (fun (i18 : Nat) (s11 : Unit) v w13 => ∃ u6, v = [(AV.lbx (cRig a0)), u6, (AV.int .i64 (i18 : Int))] ∧ σ = w13) (fun (b12 : Unit) (q : LS) => ∃ u6 u37, q = ((AX.exit 2), ([(AV.lbx (cRig a0)), u6, u37] : List AV), σ)) (fun (b12 : Int) (q : LS) => ∃ u3 u37, q = (AX.ret, ([u3, (AV.int .i64 b12), u37] : List AV), σ)) ?_ ?_ ⟨_, rfl, rfl⟩ ?_ ?_
    ·intro hle17 i18 e17 s11 v w13 he17 hI
     obtain ⟨u6, rfl, rfl⟩ := hI
     refine rf_s (AV.bool true) (ix_lt he17) ?_
     refine rf_ct ?_
     refine rf_s (AV.rp (cMove e17)) (ix_for he17) ?_
     refine rf_s (AV.agg (cMove e17)) rfl ?_
     refine rf_s (cMove e17) rfl ?_
     refine rf_s (cMove e17) (sp_cMove _ _ rfl) ?_
     refine rf_s (AV.agg (cRig a0)) rfl ?_
     refine rf_s (AV.agg (cKey e17.key)) rfl ?_
     refine rf_o (fun r19 : (ParamD × Bool) => ((AV.tup [(AV.agg (cParam r19.1)), (AV.bool r19.2)]), σ)) (fun r19 hr19 => (tq_of (e := fun r : (ParamD × Bool) => ((AV.tup [(AV.agg (cParam r.1)), (AV.bool r.2)]), σ)) (fun hs => ParamOf2_eq a0 hs e17.key σ)) hr19) (fun r19 hr19 => ?_)
     refine rf_s (AV.agg (cParam r19.1)) rfl ?_
     refine rf_s (AV.bool r19.2) rfl ?_
     refine rf_s (cParam r19.1) rfl ?_
     refine rf_s (cParam r19.1) (sp_cParam _ _ rfl) ?_
     refine rf_s (AV.bool (!r19.2)) rfl ?_
     refine rf_cb (c := (!r19.2)) (fun c22 => ?_) (fun c22 => ?_)
     ·exact rf_ret (rnd_ret (by simp) ⟨_, _, rfl⟩)
     ·refine rf_s (AV.agg (cKey e17.key)) rfl ?_
      refine rf_s (AV.agg (cValue e17.value)) rfl ?_
      refine rf_o (fun r20 : (Int × Int) => ((AV.tup [(AV.int .i64 r20.1), (AV.int .i64 r20.2)]), σ)) (fun r20 hr20 => h_R4_Level hr20) (fun r20 hr20 => ?_)
      refine rf_s (AV.int .i64 r20.1) rfl ?_
      refine rf_s (AV.int .i64 r20.2) rfl ?_
      refine rf_s (AV.bool (decide (¬ (r20.2 = 0)))) (aNe _ _ _) ?_
      refine rf_c (p := ¬ (r20.2 = 0)) (fun c21 => ?_) (fun c21 => ?_)
      ·exact rf_ret (rnd_ret (by simp) ⟨_, _, rfl⟩)
      ·refine rf_s (AV.int .i64 ((i18 + 1 : Nat) : Int)) (ix_inc he17 hle17) ?_
       exact rf_ret (rnd_go ⟨_, rfl, rfl⟩)
    ·intro hl s11 v w13 hI
     obtain ⟨u6, rfl, rfl⟩ := hI
     refine rf_s (AV.bool false) (ix_end _) ?_
     refine rf_cf ?_
     exact rf_ret ⟨by simp, ⟨_, _, rfl⟩⟩
    ·intro hl b12 q hq
     obtain ⟨u6, u37, rfl⟩ := hq
     refine rf_bt rfl ?_
     refine rf_s (AV.int .i64 ((i10 + 1 : Nat) : Int)) (ix_inc he9 hle9) ?_
     exact rf_ret (rnd_go ⟨_, rfl, rfl⟩)
    ·intro hl b12 q hq
     obtain ⟨u3, u37, rfl⟩ := hq
     refine rf_bf rfl ?_
     refine rf_bt rfl ?_
     exact rf_ret (rnd_ret (by simp) ⟨_, _, rfl⟩)
   ·intro hl s3 v w5 hI
    obtain ⟨u6, rfl, rfl⟩ := hI
    refine rf_s (AV.bool false) (ix_end _) ?_
    refine rf_cf ?_
    exact rf_ret ⟨by simp, ⟨_, _, _, rfl⟩⟩
   ·intro hl b4 q hq
    obtain ⟨u3, u6, u30, rfl⟩ := hq
    refine rf_bt rfl ?_
    exact rf_fin _ (fin_same _ _) ⟨rfl, rfl⟩
   ·intro hl b4 q hq
    obtain ⟨u3, u30, rfl⟩ := hq
    refine rf_bf rfl ?_
    refine rf_bt rfl ?_
    exact rf_fin _ (fin_same _ _) ⟨rfl, rfl⟩
end Go.Proofs.Ytohbeolimnpehaa

/- What the functions of the package compute: written by a program from their code; that it is what the code does is shown elsewhere. -/
namespace Go.Proofs.Ytohbeolimnpehaa
set_option linter.unusedSectionVars false
set_option linter.unusedSimpArgs false
set_option linter.unusedVariables false
set_option maxRecDepth 100000
noncomputable def r_R6_ListOf (a0 a1 : AV) (σ : Heap) : Option (AV × Heap) :=
 (A.lenS a0).bind fun x1 =>
 (A.loop (fun v2 s3 =>
   (A.lss (v2.getD 2 AV.undef) x1).bind fun x4 =>
   A.cond x4 (
    (A.iaddr 2 a0 (v2.getD 2 AV.undef)).bind fun x5 =>
    ((A.deref x5 s3).bind fun c6 => A.partA 0 2 c6).bind fun x7 =>
    (A.cells 2 x7).bind fun c8 =>
    (A.splice 0 c8 [(AV.int .i64 0), AV.nsl]).bind fun c9 =>
    (A.part1 0 c9).bind fun x10 =>
    (A.eql .i x10 a1).bind fun x11 =>
    A.cond x11 (
     (A.partA 0 2 c9).bind fun x12 =>
     (A.lb (v2.getD 0 AV.undef)).bind fun c15 =>
     (A.cells 2 x12).bind fun c13 =>
     (A.splice 0 c13 c15).bind fun c14 =>
     some (AX.ret, [(AV.lbx c14), (AV.bool true), (v2.getD 2 AV.undef)], s3)) (
     (A.add (v2.getD 2 AV.undef) (AV.int .i64 1)).bind fun x16 =>
     some (AX.normal, [(v2.getD 0 AV.undef), (v2.getD 1 AV.undef), x16], s3))) (
    some (AX.exit 0, [(v2.getD 0 AV.undef), (v2.getD 1 AV.undef), (v2.getD 2 AV.undef)], s3))) [(AV.lbx [(AV.int .i64 0), AV.nsl]), (AV.bool false), (AV.int .i64 0)] σ).bind fun r17 =>
 bif r17.1 == AX.exit 0 then (
  (A.lb (r17.2.1.getD 0 AV.undef)).bind fun c20 =>
  (A.cells 2 (AV.agg [(AV.int .i64 0), AV.nsl])).bind fun c18 =>
  (A.splice 0 c18 c20).bind fun c19 =>
  (A.partA 0 2 c19).bind fun x21 =>
  A.fin σ (AV.tup [x21, (AV.bool false)]) r17.2.2) else
 bif r17.1 == AX.ret then (
  ((A.lb (r17.2.1.getD 0 AV.undef)).bind fun c23 => A.partA 0 2 c23).bind fun x22 =>
  A.fin σ (AV.tup [x22, (r17.2.1.getD 1 AV.undef)]) r17.2.2) else
 none
noncomputable def m_R6_ListOf : List AV → Heap → Option (AV × Heap) := A.wrap true [(.s 2)] (.t [(.a [.k, (.e 11 [.k, .k, .k, .k, .k, .k, .k, (.s 2), .k, .k, (.s 8)])]), .k]) (A.ar2 r_R6_ListOf)
noncomputable def r_R6_CheckSetup (a0 : AV) (σ : Heap) : Option (AV × Heap) :=
 (A.cells 5 a0).bind fun c1 =>
 (A.partA 0 2 c1).bind fun x2 =>
 (A.part1 2 c1).bind fun x3 =>
 (m_R4_CheckPresets [x2, x3] σ).bind fun r4 =>
 (A.neq .i r4.1 (AV.int .i64 0)).bind fun x5 =>
 A.cond x5 (
  A.fin σ r4.1 r4.2) (
  (A.part1 3 c1).bind fun x6 =>
  (A.lenS x6).bind fun x7 =>
  (A.gtr x7 (AV.int .i64 30)).bind fun x8 =>
  A.cond x8 (
   A.fin σ (AV.int .i64 2) r4.2) (
   (A.part1 3 c1).bind fun x9 =>
   (A.lenS x9).bind fun x10 =>
   (A.loop (fun v11 s12 =>
     (A.lss (v11.getD 2 AV.undef) x10).bind fun x13 =>
     A.cond x13 (
      (A.iaddr 2 x9 (v11.getD 2 AV.undef)).bind fun x14 =>
      ((A.deref x14 s12).bind fun c15 => A.partA 0 2 c15).bind fun x16 =>
      (A.cells 2 x16).bind fun c17 =>
      (A.splice 0 c17 [(AV.int .i64 0), AV.nsl]).bind fun c18 =>
      (A.part1 0 c18).bind fun x19 =>
      (m_R1_Within [x19, (AV.int .i64 1), (AV.int .i64 999)] s12).bind fun r20 =>
      (A.not r20.1).bind fun x21 =>
      A.cond x21 (
       some (AX.ret, [(v11.getD 0 AV.undef), (AV.int .i64 1), (v11.getD 2 AV.undef)], r20.2)) (
       (A.gtr (v11.getD 2 AV.undef) (AV.int .i64 0)).bind fun x22 =>
       (A.guard x22 true (A.part1 0 c18) (some (AV.tup []))).bind fun x23 =>
       ((A.lb (v11.getD 0 AV.undef)).bind fun _ => some (3)).bind fun p24 =>
              (A.guard x22 true ((A.lb (v11.getD 0 AV.undef)).bind fun c25 => A.part1 p24 c25) (some (AV.tup []))).bind fun x26 =>
       (A.guard x22 true (some (v11.getD 2 AV.undef)) (some (AV.tup []))).bind fun x27 =>
       (A.guard x22 true (A.sub x27 (AV.int .i64 1)) (some (AV.tup []))).bind fun x28 =>
       (A.guard x22 true (A.iaddr 2 x26 x28) (some (AV.tup []))).bind fun x29 =>
       (A.guard x22 true (A.faddr 0 x29) (some (AV.tup []))).bind fun x30 =>
       (A.guard x22 true ((A.deref x30 r20.2).bind fun c31 => A.part1 0 c31) (some (AV.tup []))).bind fun x32 =>
       (A.guard x22 true (A.leq x23 x32) (some (AV.tup []))).bind fun x33 =>
       (A.pick x22 x33 (AV.bool false)).bind fun x34 =>
       A.cond x34 (
        some (AX.ret, [(v11.getD 0 AV.undef), (AV.int .i64 7), (v11.getD 2 AV.undef)], r20.2)) (
        ((A.lb (v11.getD 0 AV.undef)).bind fun _ => some (0)).bind fun p35 =>
        ((A.lb (v11.getD 0 AV.undef)).bind fun c36 => A.partA p35 2 c36).bind fun x37 =>
        ((A.lb (v11.getD 0 AV.undef)).bind fun _ => some (2)).bind fun p38 =>
        ((A.lb (v11.getD 0 AV.undef)).bind fun c39 => A.part1 p38 c39).bind fun x40 =>
        (A.part1 1 c18).bind fun x41 =>
        (m_R5_CheckList [x37, x40, x41] r20.2).bind fun r42 =>
        (A.neq .i r42.1 (AV.int .i64 0)).bind fun x43 =>
        A.cond x43 (
         some (AX.ret, [(v11.getD 0 AV.undef), r42.1, (v11.getD 2 AV.undef)], r42.2)) (
         (A.add (v11.getD 2 AV.undef) (AV.int .i64 1)).bind fun x44 =>
         some (AX.normal, [(v11.getD 0 AV.undef), (v11.getD 1 AV.undef), x44], r42.2))))) (
      some (AX.exit 0, [(v11.getD 0 AV.undef), (v11.getD 1 AV.undef), (v11.getD 2 AV.undef)], s12))) [(AV.lbx c1), (AV.int .i64 0), (AV.int .i64 0)] r4.2).bind fun r45 =>
   bif r45.1 == AX.exit 0 then (
    ((A.lb (r45.2.1.getD 0 AV.undef)).bind fun _ => some (4)).bind fun p46 =>
    ((A.lb (r45.2.1.getD 0 AV.undef)).bind fun c47 => A.part1 p46 c47).bind fun x48 =>
    (A.lenS x48).bind fun x49 =>
    (A.gtr x49 (AV.int .i64 40)).bind fun x50 =>
    A.cond x50 (
     A.fin σ (AV.int .i64 2) r45.2.2) (
     ((A.lb (r45.2.1.getD 0 AV.undef)).bind fun _ => some (4)).bind fun p51 =>
     ((A.lb (r45.2.1.getD 0 AV.undef)).bind fun c52 => A.part1 p51 c52).bind fun x53 =>
     (A.lenS x53).bind fun x54 =>
     (A.loop (fun v55 s56 =>
       (A.lss (v55.getD 2 AV.undef) x54).bind fun x57 =>
       A.cond x57 (
        (A.iaddr 3 x53 (v55.getD 2 AV.undef)).bind fun x58 =>
        ((A.deref x58 s56).bind fun c59 => A.partA 0 3 c59).bind fun x60 =>
        (A.cells 3 x60).bind fun c61 =>
        (A.splice 0 c61 [(AV.int .i64 0), (AV.int .i64 0), (AV.int .i64 0)]).bind fun c62 =>
        ((A.lb (v55.getD 0 AV.undef)).bind fun _ => some (3)).bind fun p63 =>
        ((A.lb (v55.getD 0 AV.undef)).bind fun c64 => A.part1 p63 c64).bind fun x65 =>
        (A.part1 1 c62).bind fun x66 =>
        (m_R6_ListOf [x65, x66] s56).bind fun r67 =>
        (A.ext 0 r67.1).bind fun x68 =>
        (A.ext 1 r67.1).bind fun x69 =>
        (A.cells 2 x68).bind fun c70 =>
        (A.splice 0 c70 [(AV.int .i64 0), AV.nsl]).bind fun c71 =>
        (A.part1 0 c62).bind fun x72 =>
        (m_R1_Within [x72, (AV.int .i64 1), (AV.int .i64 40)] r67.2).bind fun r73 =>
        (A.not r73.1).bind fun x74 =>
        A.cond x74 (
         some (AX.ret, [(v55.getD 0 AV.undef), (AV.int .i64 1), (v55.getD 2 AV.undef)], r73.2)) (
         (A.gtr (v55.getD 2 AV.undef) (AV.int .i64 0)).bind fun x75 =>
         (A.guard x75 true (A.part1 0 c62) (some (AV.tup []))).bind fun x76 =>
         ((A.lb (v55.getD 0 AV.undef)).bind fun _ => some (4)).bind fun p77 =>
                  (A.guard x75 true ((A.lb (v55.getD 0 AV.undef)).bind fun c78 => A.part1 p77 c78) (some (AV.tup []))).bind fun x79 =>
         (A.guard x75 true (some (v55.getD 2 AV.undef)) (some (AV.tup []))).bind fun x80 =>
         (A.guard x75 true (A.sub x80 (AV.int .i64 1)) (some (AV.tup []))).bind fun x81 =>
         (A.guard x75 true (A.iaddr 3 x79 x81) (some (AV.tup []))).bind fun x82 =>
         (A.guard x75 true (A.faddr 0 x82) (some (AV.tup []))).bind fun x83 =>
         (A.guard x75 true ((A.deref x83 r73.2).bind fun c84 => A.part1 0 c84) (some (AV.tup []))).bind fun x85 =>
         (A.guard x75 true (A.leq x76 x85) (some (AV.tup []))).bind fun x86 =>
         (A.pick x75 x86 (AV.bool false)).bind fun x87 =>
         A.cond x87 (
          some (AX.ret, [(v55.getD 0 AV.undef), (AV.int .i64 7), (v55.getD 2 AV.undef)], r73.2)) (
          (A.not x69).bind fun x88 =>
          A.cond x88 (
           some (AX.ret, [(v55.getD 0 AV.undef), (AV.int .i64 8), (v55.getD 2 AV.undef)], r73.2)) (
           (A.part1 2 c62).bind fun x89 =>
           (m_R1_Within [x89, (AV.int .i64 0), (AV.int .i64 100)] r73.2).bind fun r90 =>
           (A.not r90.1).bind fun x91 =>
           A.cond x91 (
            some (AX.ret, [(v55.getD 0 AV.undef), (AV.int .i64 1), (v55.getD 2 AV.undef)], r90.2)) (
            (A.add (v55.getD 2 AV.undef) (AV.int .i64 1)).bind fun x92 =>
            some (AX.normal, [(v55.getD 0 AV.undef), (v55.getD 1 AV.undef), x92], r90.2)))))) (
        some (AX.exit 3, [(v55.getD 0 AV.undef), (v55.getD 1 AV.undef), (v55.getD 2 AV.undef)], s56))) [(r45.2.1.getD 0 AV.undef), (r45.2.1.getD 1 AV.undef), (AV.int .i64 0)] r45.2.2).bind fun r93 =>
     bif r93.1 == AX.exit 3 then (
      A.fin σ (AV.int .i64 0) r93.2.2) else
     bif r93.1 == AX.ret then (
      A.fin σ (r93.2.1.getD 1 AV.undef) r93.2.2) else
     none)) else
   bif r45.1 == AX.ret then (
    A.fin σ (r45.2.1.getD 1 AV.undef) r45.2.2) else
   none))
noncomputable def m_R6_CheckSetup : List AV → Heap → Option (AV × Heap) := A.wrap true [(.a [(.s 3), (.s 4), (.s 3), (.s 2), (.s 3)])] .k (A.ar1 r_R6_CheckSetup)
noncomputable def r_R6_ActionForm (a0 : AV) (σ : Heap) : Option (AV × Heap) :=
 (A.cells 5 a0).bind fun c1 =>
 (A.part1 1 c1).bind fun x2 =>
 (m_R1_Within [x2, (AV.int .i64 1), (AV.int .i64 9)] σ).bind fun r3 =>
 (A.not r3.1).bind fun x4 =>
 A.cond x4 (
  A.fin σ (AV.int .i64 4) r3.2) (
  (A.part1 1 c1).bind fun x5 =>
  (A.eql .i x5 (AV.int .i64 8)).bind fun x6 =>
  (A.guard x6 false (A.part1 1 c1) (some (AV.tup []))).bind fun x7 =>
  (A.guard x6 false (A.eql .i x7 (AV.int .i64 9)) (some (AV.tup []))).bind fun x8 =>
  (A.pick x6 (AV.bool true) x8).bind fun x9 =>
  (A.part1 1 c1).bind fun x10 =>
  (A.geq x10 (AV.int .i64 6)).bind fun x11 =>
  (A.guard x9 true (A.part1 2 c1) (some (AV.tup []))).bind fun x12 =>
  (A.guard x9 true (A.neq .i x12 (AV.int .i64 0)) (some (AV.tup []))).bind fun x13 =>
  (A.pick x9 x13 (AV.bool false)).bind fun x14 =>
  (A.guard x14 false (A.part1 1 c1) (some (AV.tup []))).bind fun x15 =>
  (A.guard x14 false (A.neq .i x15 (AV.int .i64 3)) (some (AV.tup []))).bind fun x16 =>
  (A.guard x14 false (some x16) (some (AV.tup []))).bind fun x17 =>
  (A.guard x17 true (A.part1 3 c1) (some (AV.tup []))).bind fun x18 =>
  (A.guard x17 true (A.neq .i x18 (AV.int .i64 0)) (some (AV.tup []))).bind fun x19 =>
  (A.guard x14 false (A.pick x17 x19 (AV.bool false)) (some (AV.tup []))).bind fun x20 =>
  (A.pick x14 (AV.bool true) x20).bind fun x21 =>
  (A.guard x21 false (some x11) (some (AV.tup []))).bind fun x22 =>
  (A.guard x21 false (A.not x22) (some (AV.tup []))).bind fun x23 =>
  (A.guard x21 false (some x23) (some (AV.tup []))).bind fun x24 =>
  (A.guard x24 true (A.part1 4 c1) (some (AV.tup []))).bind fun x25 =>
  (A.guard x24 true (A.neq .i x25 (AV.int .i64 0)) (some (AV.tup []))).bind fun x26 =>
  (A.guard x21 false (A.pick x24 x26 (AV.bool false)) (some (AV.tup []))).bind fun x27 =>
  (A.pick x21 (AV.bool true) x27).bind fun x28 =>
  A.cond x28 (
   A.fin σ (AV.int .i64 3) r3.2) (
   A.fin σ (AV.int .i64 0) r3.2))
noncomputable def m_R6_ActionForm : List AV → Heap → Option (AV × Heap) := A.wrap true [] .k (A.ar1 r_R6_ActionForm)
noncomputable def r_R6_LevelForm (a0 : AV) (σ : Heap) : Option (AV × Heap) :=
 (A.cells 5 a0).bind fun c1 =>
 (A.part1 1 c1).bind fun x2 =>
 (A.eql .i x2 (AV.int .i64 7)).bind fun x3 =>
 (A.guard x3 false (A.part1 1 c1) (some (AV.tup []))).bind fun x4 =>
 (A.guard x3 false (A.eql .i x4 (AV.int .i64 8)) (some (AV.tup []))).bind fun x5 =>
 (A.pick x3 (AV.bool true) x5).bind fun x6 =>
 (A.guard x6 true (A.part1 4 c1) (some (AV.tup []))).bind fun x7 =>
 (A.guard x6 true (A.quiet (m_R1_IsLevel [x7] σ) σ) (some (AV.tup []))).bind fun x8 =>
 (A.guard x6 true (A.not x8) (some (AV.tup []))).bind fun x9 =>
 (A.pick x6 x9 (AV.bool false)).bind fun x10 =>
 A.cond x10 (
  A.fin σ (AV.int .i64 1) σ) (
  (A.part1 1 c1).bind fun x11 =>
  (A.eql .i x11 (AV.int .i64 6)).bind fun x12 =>
  (A.guard x12 true (A.part1 4 c1) (some (AV.tup []))).bind fun x13 =>
  (A.guard x12 true (A.quiet (m_R1_IsTime [x13] σ) σ) (some (AV.tup []))).bind fun x14 =>
  (A.guard x12 true (A.not x14) (some (AV.tup []))).bind fun x15 =>
  (A.pick x12 x15 (AV.bool false)).bind fun x16 =>
  A.cond x16 (
   A.fin σ (AV.int .i64 1) σ) (
   (A.part1 1 c1).bind fun x17 =>
   (A.eql .i x17 (AV.int .i64 9)).bind fun x18 =>
   (A.guard x18 true (A.part1 4 c1) (some (AV.tup []))).bind fun x19 =>
   (A.guard x18 true (A.quiet (m_R1_Within [x19, (AV.int .i64 0), (AV.int .i64 1)] σ) σ) (some (AV.tup []))).bind fun x20 =>
   (A.guard x18 true (A.not x20) (some (AV.tup []))).bind fun x21 =>
   (A.pick x18 x21 (AV.bool false)).bind fun x22 =>
   A.cond x22 (
    A.fin σ (AV.int .i64 1) σ) (
    A.fin σ (AV.int .i64 0) σ)))
noncomputable def m_R6_LevelForm : List AV → Heap → Option (AV × Heap) := A.wrap true [] .k (A.ar1 r_R6_LevelForm)
end Go.Proofs.Ytohbeolimnpehaa

/- What the functions of the package compute: written by a program from their code; that it is what the code does is shown elsewhere. -/
namespace Go.Proofs.Ytohbeolimnpehaa
set_option linter.unusedSectionVars false
set_option linter.unusedSimpArgs false
set_option linter.unusedVariables false
set_option maxRecDepth 100000
noncomputable def r_play_list_fn1 (a0 a1 : AV) (σ : Heap) : Option (AV × Heap) :=
 (A.cells 2 a0).bind fun c1 =>
 (A.part1 0 c1).bind fun x2 =>
 ((A.deref a1 σ).bind fun c3 => A.part1 0 c3).bind fun x4 =>
 (A.eql .i x2 x4).bind fun x5 =>
 A.fin σ x5 σ
noncomputable def m_play_list_fn1 : List AV → Heap → Option (AV × Heap) := A.wrap true [(.a [.k, (.s 11)])] .k (A.ar2 r_play_list_fn1)
noncomputable def r_play_list (a0 a1 : AV) (σ : Heap) : Option (AV × Heap) :=
 (A.cells 5 a0).bind fun c1 =>
 (((A.cell a1).bind fun v => some [v]).bind fun cs => some (AV.rp cs)).bind fun x2 =>
 (A.part1 3 c1).bind fun x3 =>
 (m_slices_IndexFunc_api_List (A.tab (fun _ _ => none) [(127, m_play_list_fn1), (127, m_play_list_fn1)]) [x3, (AV.fn 127 [x2])] σ).bind fun r4 =>
 (A.lss r4.1 (AV.int .i64 0)).bind fun x5 =>
 A.cond x5 (
  (A.cells 2 (AV.agg [(AV.int .i64 0), AV.nsl])).bind fun c6 =>
  (A.splice 0 c6 [(AV.int .i64 0), AV.nsl]).bind fun c7 =>
  (A.partA 0 2 c7).bind fun x8 =>
  A.fin σ (AV.tup [x8, (AV.bool false)]) r4.2) (
  (A.part1 3 c1).bind fun x9 =>
  (A.iaddr 2 x9 r4.1).bind fun x10 =>
  ((A.deref x10 r4.2).bind fun c11 => A.partA 0 2 c11).bind fun x12 =>
  (A.cells 2 x12).bind fun c13 =>
  (A.splice 0 c13 [(AV.int .i64 0), AV.nsl]).bind fun c14 =>
  (A.partA 0 2 c14).bind fun x15 =>
  A.fin σ (AV.tup [x15, (AV.bool true)]) r4.2)
noncomputable def m_play_list : List AV → Heap → Option (AV × Heap) := A.wrap true [(.a [(.s 3), (.s 4), (.s 3), (.s 2), (.s 3)])] (.t [(.a [.k, (.e 11 [.k, .k, .k, .k, .k, .k, .k, (.s 2), .k, .k, (.s 8)])]), .k]) (A.ar2 r_play_list)
noncomputable def r_play_CheckSetup (a0 : AV) (σ : Heap) : Option (AV × Heap) :=
 (A.cells 5 a0).bind fun c1 =>
 (A.partA 0 2 c1).bind fun x2 =>
 (A.part1 2 c1).bind fun x3 =>
 (A.quiet (m_pick_CheckPresets [x2, x3] σ) σ).bind fun x4 =>
 (A.part1 3 c1).bind fun x5 =>
 (A.lenS x5).bind fun x6 =>
 (A.gtr x6 (AV.int .i64 30)).bind fun x7 =>
 (A.quiet (m_word_When [x7, (AV.int .i64 2)] σ) σ).bind fun x8 =>
 ((((A.cell x4).bind fun v => some [v]).bind fun c9 => (A.splice 0 c9 [(AV.int .i64 0), (AV.int .i64 0)]).bind fun c10 => ((A.cell x8).bind fun v => some [v]).bind fun c11 => (A.splice 1 c11 c10).bind fun c12 => some c12).bind fun cs => some (AV.sl 1 (chunks 1 2 cs))).bind fun x13 =>
 (A.quiet (m_word_First [x13] σ) σ).bind fun x14 =>
 (A.neq .i x14 (AV.int .i64 0)).bind fun x15 =>
 A.cond x15 (
  A.fin σ x14 σ) (
  (A.part1 3 c1).bind fun x16 =>
  (A.lenS x16).bind fun x17 =>
  (A.loop (fun v18 s19 =>
    (A.lss (v18.getD 2 AV.undef) x17).bind fun x20 =>
    A.cond x20 (
     (A.iaddr 2 x16 (v18.getD 2 AV.undef)).bind fun x21 =>
     ((A.deref x21 s19).bind fun c22 => A.partA 0 2 c22).bind fun x23 =>
     (A.cells 2 x23).bind fun c24 =>
     (A.splice 0 c24 [(AV.int .i64 0), AV.nsl]).bind fun c25 =>
     (A.part1 0 c25).bind fun x26 =>
     (m_word_Within [x26, (AV.int .i64 1), (AV.int .i64 999)] s19).bind fun r27 =>
     (A.not r27.1).bind fun x28 =>
     A.cond x28 (
      some (AX.ret, [(v18.getD 0 AV.undef), (AV.int .i64 1), (v18.getD 2 AV.undef)], r27.2)) (
      (A.gtr (v18.getD 2 AV.undef) (AV.int .i64 0)).bind fun x29 =>
      (A.guard x29 true (A.part1 0 c25) (some (AV.tup []))).bind fun x30 =>
      ((A.lb (v18.getD 0 AV.undef)).bind fun _ => some (3)).bind fun p31 =>
            (A.guard x29 true ((A.lb (v18.getD 0 AV.undef)).bind fun c32 => A.part1 p31 c32) (some (AV.tup []))).bind fun x33 =>
      (A.guard x29 true (some (v18.getD 2 AV.undef)) (some (AV.tup []))).bind fun x34 =>
      (A.guard x29 true (A.sub x34 (AV.int .i64 1)) (some (AV.tup []))).bind fun x35 =>
      (A.guard x29 true (A.iaddr 2 x33 x35) (some (AV.tup []))).bind fun x36 =>
      (A.guard x29 true (A.faddr 0 x36) (some (AV.tup []))).bind fun x37 =>
      (A.guard x29 true ((A.deref x37 r27.2).bind fun c38 => A.part1 0 c38) (some (AV.tup []))).bind fun x39 =>
      (A.guard x29 true (A.leq x30 x39) (some (AV.tup []))).bind fun x40 =>
      (A.pick x29 x40 (AV.bool false)).bind fun x41 =>
      A.cond x41 (
       some (AX.ret, [(v18.getD 0 AV.undef), (AV.int .i64 7), (v18.getD 2 AV.undef)], r27.2)) (
       ((A.lb (v18.getD 0 AV.undef)).bind fun _ => some (0)).bind fun p42 =>
       ((A.lb (v18.getD 0 AV.undef)).bind fun c43 => A.partA p42 2 c43).bind fun x44 =>
       ((A.lb (v18.getD 0 AV.undef)).bind fun _ => some (2)).bind fun p45 =>
       ((A.lb (v18.getD 0 AV.undef)).bind fun c46 => A.part1 p45 c46).bind fun x47 =>
       (A.part1 1 c25).bind fun x48 =>
       (m_cue_CheckList [x44, x47, x48] r27.2).bind fun r49 =>
       (A.neq .i r49.1 (AV.int .i64 0)).bind fun x50 =>
       A.cond x50 (
        some (AX.ret, [(v18.getD 0 AV.undef), r49.1, (v18.getD 2 AV.undef)], r49.2)) (
        (A.add (v18.getD 2 AV.undef) (AV.int .i64 1)).bind fun x51 =>
        some (AX.normal, [(v18.getD 0 AV.undef), (v18.getD 1 AV.undef), x51], r49.2))))) (
     some (AX.exit 0, [(v18.getD 0 AV.undef), (v18.getD 1 AV.undef), (v18.getD 2 AV.undef)], s19))) [(AV.lbx c1), (AV.int .i64 0), (AV.int .i64 0)] σ).bind fun r52 =>
  bif r52.1 == AX.exit 0 then (
   ((A.lb (r52.2.1.getD 0 AV.undef)).bind fun _ => some (4)).bind fun p53 =>
   ((A.lb (r52.2.1.getD 0 AV.undef)).bind fun c54 => A.part1 p53 c54).bind fun x55 =>
   (A.lenS x55).bind fun x56 =>
   (A.gtr x56 (AV.int .i64 40)).bind fun x57 =>
   A.cond x57 (
    A.fin σ (AV.int .i64 2) r52.2.2) (
    ((A.lb (r52.2.1.getD 0 AV.undef)).bind fun _ => some (4)).bind fun p58 =>
    ((A.lb (r52.2.1.getD 0 AV.undef)).bind fun c59 => A.part1 p58 c59).bind fun x60 =>
    (A.lenS x60).bind fun x61 =>
    (A.loop (fun v62 s63 =>
      (A.lss (v62.getD 2 AV.undef) x61).bind fun x64 =>
      A.cond x64 (
       (A.iaddr 3 x60 (v62.getD 2 AV.undef)).bind fun x65 =>
       ((A.deref x65 s63).bind fun c66 => A.partA 0 3 c66).bind fun x67 =>
       (A.cells 3 x67).bind fun c68 =>
       (A.splice 0 c68 [(AV.int .i64 0), (AV.int .i64 0), (AV.int .i64 0)]).bind fun c69 =>
       (A.part1 0 c69).bind fun x70 =>
       (m_word_Within [x70, (AV.int .i64 1), (AV.int .i64 40)] s63).bind fun r71 =>
       (A.not r71.1).bind fun x72 =>
       A.cond x72 (
        some (AX.ret, [(v62.getD 0 AV.undef), (AV.int .i64 1), (v62.getD 2 AV.undef)], r71.2)) (
        (A.gtr (v62.getD 2 AV.undef) (AV.int .i64 0)).bind fun x73 =>
        (A.guard x73 true (A.part1 0 c69) (some (AV.tup []))).bind fun x74 =>
        ((A.lb (v62.getD 0 AV.undef)).bind fun _ => some (4)).bind fun p75 =>
                (A.guard x73 true ((A.lb (v62.getD 0 AV.undef)).bind fun c76 => A.part1 p75 c76) (some (AV.tup []))).bind fun x77 =>
        (A.guard x73 true (some (v62.getD 2 AV.undef)) (some (AV.tup []))).bind fun x78 =>
        (A.guard x73 true (A.sub x78 (AV.int .i64 1)) (some (AV.tup []))).bind fun x79 =>
        (A.guard x73 true (A.iaddr 3 x77 x79) (some (AV.tup []))).bind fun x80 =>
        (A.guard x73 true (A.faddr 0 x80) (some (AV.tup []))).bind fun x81 =>
        (A.guard x73 true ((A.deref x81 r71.2).bind fun c82 => A.part1 0 c82) (some (AV.tup []))).bind fun x83 =>
        (A.guard x73 true (A.leq x74 x83) (some (AV.tup []))).bind fun x84 =>
        (A.pick x73 x84 (AV.bool false)).bind fun x85 =>
        A.cond x85 (
         some (AX.ret, [(v62.getD 0 AV.undef), (AV.int .i64 7), (v62.getD 2 AV.undef)], r71.2)) (
         ((A.lb (v62.getD 0 AV.undef)).bind fun c86 => A.partA 0 5 c86).bind fun x87 =>
         (A.part1 1 c69).bind fun x88 =>
         (m_play_list [x87, x88] r71.2).bind fun r89 =>
         (A.ext 0 r89.1).bind fun x90 =>
         (A.ext 1 r89.1).bind fun x91 =>
         (A.cells 2 x90).bind fun c92 =>
         (A.splice 0 c92 [(AV.int .i64 0), AV.nsl]).bind fun c93 =>
         (A.not x91).bind fun x94 =>
         A.cond x94 (
          some (AX.ret, [(v62.getD 0 AV.undef), (AV.int .i64 8), (v62.getD 2 AV.undef)], r89.2)) (
          (A.part1 2 c69).bind fun x95 =>
          (m_word_Within [x95, (AV.int .i64 0), (AV.int .i64 100)] r89.2).bind fun r96 =>
          (A.not r96.1).bind fun x97 =>
          A.cond x97 (
           some (AX.ret, [(v62.getD 0 AV.undef), (AV.int .i64 1), (v62.getD 2 AV.undef)], r96.2)) (
           (A.add (v62.getD 2 AV.undef) (AV.int .i64 1)).bind fun x98 =>
           some (AX.normal, [(v62.getD 0 AV.undef), (v62.getD 1 AV.undef), x98], r96.2)))))) (
       some (AX.exit 2, [(v62.getD 0 AV.undef), (v62.getD 1 AV.undef), (v62.getD 2 AV.undef)], s63))) [(r52.2.1.getD 0 AV.undef), (r52.2.1.getD 1 AV.undef), (AV.int .i64 0)] r52.2.2).bind fun r99 =>
    bif r99.1 == AX.exit 2 then (
     A.fin σ (AV.int .i64 0) r99.2.2) else
    bif r99.1 == AX.ret then (
     A.fin σ (r99.2.1.getD 1 AV.undef) r99.2.2) else
    none)) else
  bif r52.1 == AX.ret then (
   A.fin σ (r52.2.1.getD 1 AV.undef) r52.2.2) else
  none)
noncomputable def m_play_CheckSetup : List AV → Heap → Option (AV × Heap) := A.wrap true [(.a [(.s 3), (.s 4), (.s 3), (.s 2), (.s 3)])] .k (A.ar1 r_play_CheckSetup)
noncomputable def r_play_CheckFields (a0 : AV) (σ : Heap) : Option (AV × Heap) :=
 (A.cells 5 a0).bind fun c1 =>
 (A.part1 1 c1).bind fun x2 =>
 (m_word_Within [x2, (AV.int .i64 1), (AV.int .i64 9)] σ).bind fun r3 =>
 (A.not r3.1).bind fun x4 =>
 A.cond x4 (
  A.fin σ (AV.int .i64 4) r3.2) (
  (A.part1 1 c1).bind fun x5 =>
  (A.eql .i x5 (AV.int .i64 8)).bind fun x6 =>
  (A.guard x6 false (A.part1 1 c1) (some (AV.tup []))).bind fun x7 =>
  (A.guard x6 false (A.eql .i x7 (AV.int .i64 9)) (some (AV.tup []))).bind fun x8 =>
  (A.pick x6 (AV.bool true) x8).bind fun x9 =>
  (A.guard x9 false (A.part1 1 c1) (some (AV.tup []))).bind fun x10 =>
  (A.guard x9 false (A.eql .i x10 (AV.int .i64 6)) (some (AV.tup []))).bind fun x11 =>
  (A.pick x9 (AV.bool true) x11).bind fun x12 =>
  (A.guard x12 false (A.part1 1 c1) (some (AV.tup []))).bind fun x13 =>
  (A.guard x12 false (A.eql .i x13 (AV.int .i64 7)) (some (AV.tup []))).bind fun x14 =>
  (A.pick x12 (AV.bool true) x14).bind fun x15 =>
  (A.guard x9 true (A.part1 2 c1) (some (AV.tup []))).bind fun x16 =>
  (A.guard x9 true (A.neq .i x16 (AV.int .i64 0)) (some (AV.tup []))).bind fun x17 =>
  (A.pick x9 x17 (AV.bool false)).bind fun x18 =>
  (A.guard x18 false (A.part1 1 c1) (some (AV.tup []))).bind fun x19 =>
  (A.guard x18 false (A.neq .i x19 (AV.int .i64 3)) (some (AV.tup []))).bind fun x20 =>
  (A.guard x18 false (some x20) (some (AV.tup []))).bind fun x21 =>
  (A.guard x21 true (A.part1 3 c1) (some (AV.tup []))).bind fun x22 =>
  (A.guard x21 true (A.neq .i x22 (AV.int .i64 0)) (some (AV.tup []))).bind fun x23 =>
  (A.guard x18 false (A.pick x21 x23 (AV.bool false)) (some (AV.tup []))).bind fun x24 =>
  (A.pick x18 (AV.bool true) x24).bind fun x25 =>
  (A.guard x25 false (some x15) (some (AV.tup []))).bind fun x26 =>
  (A.guard x25 false (A.not x26) (some (AV.tup []))).bind fun x27 =>
  (A.guard x25 false (some x27) (some (AV.tup []))).bind fun x28 =>
  (A.guard x28 true (A.part1 4 c1) (some (AV.tup []))).bind fun x29 =>
  (A.guard x28 true (A.neq .i x29 (AV.int .i64 0)) (some (AV.tup []))).bind fun x30 =>
  (A.guard x25 false (A.pick x28 x30 (AV.bool false)) (some (AV.tup []))).bind fun x31 =>
  (A.pick x25 (AV.bool true) x31).bind fun x32 =>
  A.cond x32 (
   A.fin σ (AV.int .i64 3) r3.2) (
   A.fin σ (AV.int .i64 0) r3.2))
noncomputable def m_play_CheckFields : List AV → Heap → Option (AV × Heap) := A.wrap true [] .k (A.ar1 r_play_CheckFields)
noncomputable def r_play_CheckRanges_fn1 (a0 a1 : AV) (σ : Heap) : Option (AV × Heap) :=
 (A.cells 3 a0).bind fun c1 =>
 (A.part1 0 c1).bind fun x2 =>
 (A.faddr 2 a1).bind fun x3 =>
 ((A.deref x3 σ).bind fun c4 => A.part1 0 c4).bind fun x5 =>
 (A.eql .i x2 x5).bind fun x6 =>
 A.fin σ x6 σ
noncomputable def m_play_CheckRanges_fn1 : List AV → Heap → Option (AV × Heap) := A.wrap true [] .k (A.ar2 r_play_CheckRanges_fn1)
noncomputable def r_play_CheckRanges (a0 a1 : AV) (σ : Heap) : Option (AV × Heap) :=
 (A.cells 5 a0).bind fun c1 =>
 ((A.cells 5 a1).bind fun cs => some (AV.rp cs)).bind fun x2 =>
 (A.faddr 1 x2).bind fun x3 =>
 ((A.deref x3 σ).bind fun c4 => A.part1 0 c4).bind fun x5 =>
 (A.eql .i x5 (AV.int .i64 8)).bind fun x6 =>
 (A.guard x6 false (A.faddr 1 x2) (some (AV.tup []))).bind fun x7 =>
 (A.guard x6 false ((A.deref x7 σ).bind fun c8 => A.part1 0 c8) (some (AV.tup []))).bind fun x9 =>
 (A.guard x6 false (A.eql .i x9 (AV.int .i64 9)) (some (AV.tup []))).bind fun x10 =>
 (A.pick x6 (AV.bool true) x10).bind fun x11 =>
 (A.not x11).bind fun x12 =>
 (A.guard x12 true (A.part1 4 c1) (some (AV.tup []))).bind fun x13 =>
 (A.guard x12 true (some (AV.fn 152 [x2])) (some (AV.tup []))).bind fun x14 =>
 (A.guard x12 true (A.quiet (m_slices_ContainsFunc_api_Playback (A.tab (fun _ _ => none) [(152, m_play_CheckRanges_fn1), (152, m_play_CheckRanges_fn1)]) [x13, x14] σ) σ) (some (AV.tup []))).bind fun x15 =>
 (A.guard x12 true (A.not x15) (some (AV.tup []))).bind fun x16 =>
 (A.pick x12 x16 (AV.bool false)).bind fun x17 =>
 A.cond x17 (
  A.fin σ (AV.int .i64 8) σ) (
  (A.faddr 1 x2).bind fun x18 =>
  ((A.deref x18 σ).bind fun c19 => A.part1 0 c19).bind fun x20 =>
  (A.eql .i x20 (AV.int .i64 6)).bind fun x21 =>
  (A.cond x21 (
   some ([(AV.int .i64 36000000)], σ)) (
   (A.eql .i x20 (AV.int .i64 9)).bind fun x23 =>
   (A.cond x23 (
    some ([(AV.int .i64 1)], σ)) (
    some ([(AV.int .i64 65535)], σ))).bind fun r24 =>
   some ([(r24.1.getD 0 AV.undef)], r24.2))).bind fun r22 =>
  (A.faddr 4 x2).bind fun x25 =>
  ((A.deref x25 r22.2).bind fun c26 => A.part1 0 c26).bind fun x27 =>
  (m_word_Within [x27, (AV.int .i64 0), (r22.1.getD 0 AV.undef)] r22.2).bind fun r28 =>
  (A.not r28.1).bind fun x29 =>
  (m_word_When [x29, (AV.int .i64 1)] r28.2).bind fun r30 =>
  A.fin σ r30.1 r30.2)
noncomputable def m_play_CheckRanges : List AV → Heap → Option (AV × Heap) := A.wrap true [(.a [(.s 3), (.s 4), (.s 3), (.s 2), (.s 3)])] .k (A.ar2 r_play_CheckRanges)
end Go.Proofs.Ytohbeolimnpehaa

/- Typed runs, written by a program. -/
namespace Go.Proofs.Ytohbeolimnpehaa
set_option linter.unusedSectionVars false
set_option linter.unusedVariables false
set_option linter.unusedSimpArgs false
set_option maxRecDepth 100000
noncomputable def t_play_list_fn1 (a0 : ListD) (a1 : Int) : Option Bool :=
 some (decide (a0.number = a1))
theorem h_play_list_fn1 {a0 : ListD} { a1 : Int} {σ : Heap} {r : Bool} (h : t_play_list_fn1 a0 a1 = some r) : m_play_list_fn1 [(AV.agg (cList a0)), (AV.rp [(AV.int .i64 a1)])] σ = some ((AV.bool r), σ) := by
 refine rf_wrap2 (f := r_play_list_fn1) (y0 := (AV.agg (cList a0))) (y1 := (AV.rp [(AV.int .i64 a1)])) (enc := fun r : Bool => (AV.bool r)) (T := t_play_list_fn1 a0 a1) rfl rfl ?_ r h
 unfold r_play_list_fn1 t_play_list_fn1
 refine rf_s (cList a0) rfl ?_
 refine rf_s (AV.int .i64 a0.number) rfl ?_
 refine rf_s (AV.int .i64 a1) rfl ?_
 refine rf_s (AV.bool (decide (a0.number = a1))) (aEq _ _ _) ?_
 exact rf_fin _ (fin_same _ _) ⟨rfl, rfl⟩

noncomputable def t_play_list (a0 : SetupD) (a1 : Int) : Option (ListD × Bool) :=
 (tq (a0.lists.length ≤ mxl) (idxI (fun x => (decide (x.number = a1))) a0.lists)).bind fun r1 =>
 if r1 < 0 then
  some ((⟨0, []⟩ : ListD), false)
 else
  (tIx a0.lists r1).bind fun x2 =>
  some (x2, true)
theorem h_play_list {a0 : SetupD} { a1 : Int} {σ : Heap} {r : (ListD × Bool)} (h : t_play_list a0 a1 = some r) : m_play_list [(AV.agg (cSetup a0)), (AV.int .i64 a1)] σ = some ((AV.tup [(AV.agg (cList r.1)), (AV.bool r.2)]), σ) := by
 refine rf_wrap2 (f := r_play_list) (y0 := (AV.agg (cSetup a0))) (y1 := (AV.int .i64 a1)) (enc := fun r : (ListD × Bool) => (AV.tup [(AV.agg (cList r.1)), (AV.bool r.2)])) (T := t_play_list a0 a1) rfl rfl ?_ r h
 unfold r_play_list t_play_list
 refine rf_s (cSetup a0) rfl ?_
 refine rf_s (AV.rp [(AV.int .i64 a1)]) rfl ?_
 refine rf_s (sl 2 cList a0.lists) rfl ?_
 refine rf_o (fun r1 : Int => ((AV.int .i64 r1), σ)) (fun r1 hr1 => (tq_of (e := fun r : Int => ((AV.int .i64 r), σ)) (fun hs => m_slices_IndexFunc_api_List_eq _ a0.lists hs _ _ (fun x => (decide (x.number = a1))) σ (fun x hx => h_play_list_fn1 (σ := σ) (r := (decide (x.number = a1))) rfl))) hr1) (fun r1 hr1 => ?_)
 refine rf_s (AV.bool (decide (r1 < 0))) rfl ?_
 refine rf_c (p := r1 < 0) (fun c3 => ?_) (fun c3 => ?_)
 ·refine rf_s [(AV.int .i64 0), AV.nsl] rfl ?_
  refine rf_s [(AV.int .i64 0), AV.nsl] rfl ?_
  refine rf_s (AV.agg [(AV.int .i64 0), AV.nsl]) rfl ?_
  exact rf_fin _ (fin_same _ _) ⟨(nn_t (nn_t1 (nn_a (nn_t1 rfl (nn_t1 (by first | rfl | exact nn_eNil _ _) nn_t0))) (nn_t1 rfl nn_t0))), rfl⟩
 ·refine rf_s (sl 2 cList a0.lists) rfl ?_
  refine rf_o (fun x2 : ListD => (AV.rp (cList x2))) (fun x2 hx2 => ix_at hx2) (fun x2 hx2 => ?_)
  refine rf_s (AV.agg (cList x2)) rfl ?_
  refine rf_s (cList x2) rfl ?_
  refine rf_s (cList x2) (sp_cList _ _ rfl) ?_
  refine rf_s (AV.agg (cList x2)) rfl ?_
  exact rf_fin _ (fin_same _ _) ⟨(nn_t (nn_t1 (nn_a (nn_t1 rfl (nn_t1 (nn_e (fun _ => rfl) _) nn_t0))) (nn_t1 rfl nn_t0))), rfl⟩

noncomputable def t_play_CheckSetup (a0 : SetupD) : Option Int :=
 (t_pick_CheckPresets a0.rig a0.presets).bind fun r1 =>
 (tq (([r1, (if (decide (30 < (a0.lists.length : Int))) = true then 2 else 0)] : (List Int)).length ≤ mxl) ((([r1, (if (decide (30 < (a0.lists.length : Int))) = true then 2 else 0)] : (List Int)).find? fun n => decide (¬ n = 0)).getD 0)).bind fun r2 =>
 if ¬ (r2 = 0) then
  some r2
 else
  forE a0.lists (fun (i10 : Nat) e9 (s3 : Unit) => (show Option (Lr Unit Unit Int) from
    if (!(withinB e9.number 1 999)) = true then
     some (.ret 1)
    else
     (if decide (0 < (i10 : Int)) = true then tIx a0.lists (IntKind.i64.wrap ((i10 : Int) - 1)) else some default).bind fun x11 =>
     if ((decide (0 < (i10 : Int))) && (decide (e9.number ≤ x11.number))) = true then
      some (.ret 7)
     else
      (t_cue_CheckList a0.rig a0.presets e9.cues).bind fun r12 =>
      if ¬ (r12 = 0) then
       some (.ret r12)
      else
       some (.go ()))) (fun s3 => some ()) () (fun b4 =>
   if 40 < (a0.playbacks.length : Int) then
    some 2
   else
    forE a0.playbacks (fun (i23 : Nat) e22 (s16 : Unit) => (show Option (Lr Unit Unit Int) from
      if (!(withinB e22.number 1 40)) = true then
       some (.ret 1)
      else
       (if decide (0 < (i23 : Int)) = true then tIx a0.playbacks (IntKind.i64.wrap ((i23 : Int) - 1)) else some default).bind fun x24 =>
       if ((decide (0 < (i23 : Int))) && (decide (e22.number ≤ x24.number))) = true then
        some (.ret 7)
       else
        (t_play_list a0 e22.list).bind fun r25 =>
        if (!r25.2) = true then
         some (.ret 8)
        else
         if (!(withinB e22.priority 0 100)) = true then
          some (.ret 1)
         else
          some (.go ()))) (fun s16 => some ()) () (fun b17 =>
     some 0) (fun b17 =>
     some b17)) (fun b4 =>
   some b4)
theorem h_play_CheckSetup {a0 : SetupD} {σ : Heap} {r : Int} (h : t_play_CheckSetup a0 = some r) : m_play_CheckSetup [(AV.agg (cSetup a0))] σ = some ((AV.int .i64 r), σ) := by
 refine rf_wrap1 (f := r_play_CheckSetup) (y0 := (AV.agg (cSetup a0))) (enc := fun r : Int => (AV.int .i64 r)) (T := t_play_CheckSetup a0) rfl rfl ?_ r h
 unfold r_play_CheckSetup t_play_CheckSetup
 refine rf_s (cSetup a0) rfl ?_
 refine rf_s (AV.agg (cRig a0.rig)) rfl ?_
 refine rf_s (sl 3 cPreset a0.presets) rfl ?_
 refine rf_o (fun r1 : Int => (AV.int .i64 r1)) (fun r1 hr1 => (quiet_of (h_pick_CheckPresets hr1))) (fun r1 hr1 => ?_)
 refine rf_s (sl 2 cList a0.lists) rfl ?_
 refine rf_s (AV.int .i64 (a0.lists.length : Int)) (lenS_sl _ _ _) ?_
 refine rf_s (AV.bool (decide (30 < (a0.lists.length : Int)))) rfl ?_
 refine rf_s (AV.int .i64 (if (decide (30 < (a0.lists.length : Int))) = true then 2 else 0)) (quiet_of (When_eq (decide (30 < (a0.lists.length : Int))) 2 σ)) ?_
 refine rf_s (sl 1 cInt ([r1, (if (decide (30 < (a0.lists.length : Int))) = true then 2 else 0)] : (List Int))) rfl ?_
 refine rf_o (fun r2 : Int => (AV.int .i64 r2)) (fun r2 hr2 => (quiet_of ((tq_of (e := fun r : Int => ((AV.int .i64 r), σ)) (fun hs => First_eq ([r1, (if (decide (30 < (a0.lists.length : Int))) = true then 2 else 0)] : (List Int)) hs σ)) hr2))) (fun r2 hr2 => ?_)
 refine rf_s (AV.bool (decide (¬ (r2 = 0)))) (aNe _ _ _) ?_
 refine rf_c (p := ¬ (r2 = 0)) (fun c31 => ?_) (fun c31 => ?_)
 ·exact rf_fin _ (fin_same _ _) ⟨rfl, rfl⟩
 ·refine rf_s (sl 2 cList a0.lists) rfl ?_
  refine rf_s (AV.int .i64 (a0.lists.length : Int)) (lenS_sl _ _ _) ?_
  refine rf_for (B := Unit) (R := Int) (fun (i10 : Nat) (s3 : Unit) v w5 => v = [(AV.lbx (cSetup a0)), (AV.int .i64 0), (AV.int .i64 (i10 : Int))] ∧ σ = w5) (fun (b4 : Unit) (q : LS) => ∃ u2 u29, q = ((AX.exit 0), ([(AV.lbx (cSetup a0)), u2, u29] : List AV), σ)) (fun (b4 : Int) (q : LS) => ∃ u1 u29, q = (AX.ret, ([u1, (AV.int .i64 b4), u29] : List AV), σ)) ?_ ?_ ⟨rfl, rfl⟩ ?_ ?_
  ·intro hle9 i10 e9 s3 v w5 he9 hI
   obtain ⟨rfl, rfl⟩ := hI
   refine rf_s (AV.bool true) (ix_lt he9) ?_
   refine rf_ct ?_
   refine rf_s (AV.rp (cList e9)) (ix_for he9) ?_
   refine rf_s (AV.agg (cList e9)) rfl ?_
   refine rf_s (cList e9) rfl ?_
   refine rf_s (cList e9) (sp_cList _ _ rfl) ?_
   refine rf_s (AV.int .i64 e9.number) rfl ?_
   refine rf_s ((AV.bool (withinB e9.number 1 999)), σ) (Within_eq e9.number 1 999 σ) ?_
   refine rf_s (AV.bool (!(withinB e9.number 1 999))) rfl ?_
   refine rf_cb (c := (!(withinB e9.number 1 999))) (fun c15 => ?_) (fun c15 => ?_)
   ·exact rf_ret (rnd_ret (by simp) ⟨_, _, rfl⟩)
   ·refine rf_s (AV.bool (decide (0 < (i10 : Int)))) rfl ?_
    refine rf_gt (AV.int .i64 e9.number) (fun hg => by
      exact rfl) ?_
    refine rf_s _ rfl ?_
    refine rf_gt (sl 2 cList a0.lists) (fun hg => by
      exact rfl) ?_
    refine rf_gt (AV.int .i64 (i10 : Int)) (fun hg => by
      exact rfl) ?_
    refine rf_gt (AV.int .i64 (IntKind.i64.wrap ((i10 : Int) - 1))) (fun hg => by
      first | exact rfl | (simp only [hg, Bool.true_and, Bool.and_true, cond_true, hg]; first | done | exact rfl)) ?_
    refine rf_gto (ω := ListD) (fun x11 => (AV.rp (cList x11))) (fun hg x11 hx11 => by
      first | exact ix_at hx11 | (simp only [hg, Bool.true_and, Bool.and_true, cond_true, hg]; first | done | exact ix_at hx11)) (fun x11 hx11 => ?_)
    refine rf_gt (AV.rp (cList x11)) (fun hg => by
      first | exact rfl | (simp only [hg, Bool.true_and, Bool.and_true, cond_true, hg]; first | done | exact rfl)) ?_
    refine rf_gt (AV.int .i64 x11.number) (fun hg => by
      first | exact rfl | (simp only [hg, Bool.true_and, Bool.and_true, cond_true, hg]; first | done | exact rfl)) ?_
    refine rf_gt (AV.bool (decide (e9.number ≤ x11.number))) (fun hg => by
      first | exact rfl | (simp only [hg, Bool.true_and, Bool.and_true, cond_true, hg]; first | done | exact rfl)) ?_
    refine rf_s (AV.bool ((decide (0 < (i10 : Int))) && (decide (e9.number ≤ x11.number)))) (pk_and _ _) ?_
    refine rf_cb (c := ((decide (0 < (i10 : Int))) && (decide (e9.number ≤ x11.number)))) (fun c14 => ?_) (fun c14 => ?_)
    ·exact rf_ret (rnd_ret (by simp) ⟨_, _, rfl⟩)
    ·refine rf_s _ rfl ?_
     refine rf_s (AV.agg (cRig a0.rig)) rfl ?_
     refine rf_s _ rfl ?_
     refine rf_s (sl 3 cPreset a0.presets) rfl ?_
     refine rf_s (sl 11 cCue e9.cues) rfl ?_
     refine rf_o (fun r12 : Int => ((AV.int .i64 r12), σ)) (fun r12 hr12 => h_cue_CheckList hr12) (fun r12 hr12 => ?_)
     refine rf_s (AV.bool (decide (¬ (r12 = 0)))) (aNe _ _ _) ?_
     refine rf_c (p := ¬ (r12 = 0)) (fun c13 => ?_) (fun c13 => ?_)
     ·exact rf_ret (rnd_ret (by simp) ⟨_, _, rfl⟩)
     ·refine rf_s (AV.int .i64 ((i10 + 1 : Nat) : Int)) (ix_inc he9 hle9) ?_
      exact rf_ret (rnd_go ⟨rfl, rfl⟩)
  ·intro hl s3 v w5 hI
   obtain ⟨rfl, rfl⟩ := hI
   refine rf_s (AV.bool false) (ix_end _) ?_
   refine rf_cf ?_
   exact rf_ret ⟨by simp, ⟨_, _, rfl⟩⟩
  ·intro hl b4 q hq
   obtain ⟨u2, u29, rfl⟩ := hq
   refine rf_bt rfl ?_
   refine rf_s _ rfl ?_
   refine rf_s (sl 3 cPlayback a0.playbacks) rfl ?_
   refine rf_s (AV.int .i64 (a0.playbacks.length : Int)) (lenS_sl _ _ _) ?_
   refine rf_s (AV.bool (decide (40 < (a0.playbacks.length : Int)))) rfl ?_
   refine rf_c (p := 40 < (a0.playbacks.length : Int)) (fun c30 => ?_) (fun c30 => ?_)
   ·exact rf_fin _ (fin_same _ _) ⟨rfl, rfl⟩
   ·refine rf_s _ rfl ?_
    refine rf_s (sl 3 cPlayback a0.playbacks) rfl ?_
    refine rf_s (AV.int .i64 (a0.playbacks.length : Int)) (lenS_sl _ _ _) ?_
    refine rf_for (B := Unit) (R := Int) (fun (i23 : Nat) (s16 : Unit) v w18 => ∃ u2, v = [(AV.lbx (cSetup a0)), u2, (AV.int .i64 (i23 : Int))] ∧ σ = w18) (fun (b17 : Unit) (q : LS) => ∃ u1 u2 u70, q = ((AX.exit 2), ([u1, u2, u70] : List AV), σ)) (fun (b17 : Int) (q : LS) => ∃ u1 u70, q = (AX.ret, ([u1, (AV.int .i64 b17), u70] : List AV), σ)) ?_ ?_ ⟨_, rfl, rfl⟩ ?_ ?_
    ·intro hle22 i23 e22 s16 v w18 he22 hI
     obtain ⟨u2, rfl, rfl⟩ := hI
     refine rf_s (AV.bool true) (ix_lt he22) ?_
     refine rf_ct ?_
     refine rf_s (AV.rp (cPlayback e22)) (ix_for he22) ?_
     refine rf_s (AV.agg (cPlayback e22)) rfl ?_
     refine rf_s (cPlayback e22) rfl ?_
     refine rf_s (cPlayback e22) (sp_cPlayback _ _ rfl) ?_
     refine rf_s (AV.int .i64 e22.number) rfl ?_
     refine rf_s ((AV.bool (withinB e22.number 1 40)), σ) (Within_eq e22.number 1 40 σ) ?_
     refine rf_s (AV.bool (!(withinB e22.number 1 40))) rfl ?_
     refine rf_cb (c := (!(withinB e22.number 1 40))) (fun c29 => ?_) (fun c29 => ?_)
     ·exact rf_ret (rnd_ret (by simp) ⟨_, _, rfl⟩)
     ·refine rf_s (AV.bool (decide (0 < (i23 : Int)))) rfl ?_
      refine rf_gt (AV.int .i64 e22.number) (fun hg => by
        exact rfl) ?_
      refine rf_s _ rfl ?_
      refine rf_gt (sl 3 cPlayback a0.playbacks) (fun hg => by
        exact rfl) ?_
      refine rf_gt (AV.int .i64 (i23 : Int)) (fun hg => by
        exact rfl) ?_
      refine rf_gt (AV.int .i64 (IntKind.i64.wrap ((i23 : Int) - 1))) (fun hg => by
        first | exact rfl | (simp only [hg, Bool.true_and, Bool.and_true, cond_true, hg]; first | done | exact rfl)) ?_
      refine rf_gto (ω := PlaybackD) (fun x24 => (AV.rp (cPlayback x24))) (fun hg x24 hx24 => by
        first | exact ix_at hx24 | (simp only [hg, Bool.true_and, Bool.and_true, cond_true, hg]; first | done | exact ix_at hx24)) (fun x24 hx24 => ?_)
      refine rf_gt (AV.rp (cPlayback x24)) (fun hg => by
        first | exact rfl | (simp only [hg, Bool.true_and, Bool.and_true, cond_true, hg]; first | done | exact rfl)) ?_
      refine rf_gt (AV.int .i64 x24.number) (fun hg => by
        first | exact rfl | (simp only [hg, Bool.true_and, Bool.and_true, cond_true, hg]; first | done | exact rfl)) ?_
      refine rf_gt (AV.bool (decide (e22.number ≤ x24.number))) (fun hg => by
        first | exact rfl | (simp only [hg, Bool.true_and, Bool.and_true, cond_true, hg]; first | done | exact rfl)) ?_
      refine rf_s (AV.bool ((decide (0 < (i23 : Int))) && (decide (e22.number ≤ x24.number)))) (pk_and _ _) ?_
      refine rf_cb (c := ((decide (0 < (i23 : Int))) && (decide (e22.number ≤ x24.number)))) (fun c28 => ?_) (fun c28 => ?_)
      ·exact rf_ret (rnd_ret (by simp) ⟨_, _, rfl⟩)
      ·refine rf_s (AV.agg (cSetup a0)) rfl ?_
       refine rf_s (AV.int .i64 e22.list) rfl ?_
       refine rf_o (fun r25 : (ListD × Bool) => ((AV.tup [(AV.agg (cList r25.1)), (AV.bool r25.2)]), σ)) (fun r25 hr25 => h_play_list hr25) (fun r25 hr25 => ?_)
       refine rf_s (AV.agg (cList r25.1)) rfl ?_
       refine rf_s (AV.bool r25.2) rfl ?_
       refine rf_s (cList r25.1) rfl ?_
       refine rf_s (cList r25.1) (sp_cList _ _ rfl) ?_
       refine rf_s (AV.bool (!r25.2)) rfl ?_
       refine rf_cb (c := (!r25.2)) (fun c27 => ?_) (fun c27 => ?_)
       ·exact rf_ret (rnd_ret (by simp) ⟨_, _, rfl⟩)
       ·refine rf_s (AV.int .i64 e22.priority) rfl ?_
        refine rf_s ((AV.bool (withinB e22.priority 0 100)), σ) (Within_eq e22.priority 0 100 σ) ?_
        refine rf_s (AV.bool (!(withinB e22.priority 0 100))) rfl ?_
        refine rf_cb (c := (!(withinB e22.priority 0 100))) (fun c26 => ?_) (fun c26 => ?_)
        ·exact rf_ret (rnd_ret (by simp) ⟨_, _, rfl⟩)
        ·refine rf_s (AV.int .i64 ((i23 + 1 : Nat) : Int)) (ix_inc he22 hle22) ?_
         exact rf_ret (rnd_go ⟨_, rfl, rfl⟩)
    ·intro hl s16 v w18 hI
     obtain ⟨u2, rfl, rfl⟩ := hI
     refine rf_s (AV.bool false) (ix_end _) ?_
     refine rf_cf ?_
     exact rf_ret ⟨by simp, ⟨_, _, _, rfl⟩⟩
    ·intro hl b17 q hq
     obtain ⟨u1, u2, u70, rfl⟩ := hq
     refine rf_bt rfl ?_
     exact rf_fin _ (fin_same _ _) ⟨rfl, rfl⟩
    ·intro hl b17 q hq
     obtain ⟨u1, u70, rfl⟩ := hq
     refine rf_bf rfl ?_
     refine rf_bt rfl ?_
     exact rf_fin _ (fin_same _ _) ⟨rfl, rfl⟩
  ·intro hl b4 q hq
   obtain ⟨u1, u29, rfl⟩ := hq
   refine rf_bf rfl ?_
   refine rf_bt rfl ?_
   exact rf_fin _ (fin_same _ _) ⟨rfl, rfl⟩

noncomputable def t_R6_ListOf (a0 : (List ListD)) (a1 : Int) : Option (ListD × Bool) :=
 forE a0 (fun (i8 : Nat) e7 (s1 : Unit) => (show Option (Lr Unit Unit (ListD × Bool)) from
   if e7.number = a1 then
    some (.ret (e7, true))
   else
    some (.go ()))) (fun s1 => some ()) () (fun b2 =>
  some ((⟨0, []⟩ : ListD), false)) (fun b2 =>
  some (b2.1, b2.2))
theorem h_R6_ListOf {a0 : (List ListD)} { a1 : Int} {σ : Heap} {r : (ListD × Bool)} (h : t_R6_ListOf a0 a1 = some r) : m_R6_ListOf [(sl 2 cList a0), (AV.int .i64 a1)] σ = some ((AV.tup [(AV.agg (cList r.1)), (AV.bool r.2)]), σ) := by
 refine rf_wrap2 (f := r_R6_ListOf) (y0 := (sl 2 cList a0)) (y1 := (AV.int .i64 a1)) (enc := fun r : (ListD × Bool) => (AV.tup [(AV.agg (cList r.1)), (AV.bool r.2)])) (T := t_R6_ListOf a0 a1) rfl rfl ?_ r h
 unfold r_R6_ListOf t_R6_ListOf
 refine rf_s (AV.int .i64 (a0.length : Int)) (lenS_sl _ _ _) ?_
 refine rf_for (B := Unit) (R := (ListD × Bool)) (fun (i8 : Nat) (s1 : Unit) v w3 => v = [(AV.lbx [(AV.int .i64 0), AV.nsl]), (AV.bool false), (AV.int .i64 (i8 : Int))] ∧ σ = w3) (fun (b2 : Unit) (q : LS) => ∃ u5 u10, q = ((AX.exit 0), ([(AV.lbx [(AV.int .i64 0), AV.nsl]), u5, u10] : List AV), σ)) (fun (b2 : (ListD × Bool)) (q : LS) => ∃ u10, q = (AX.ret, ([(AV.lbx (cList b2.1)), (AV.bool b2.2), u10] : List AV), σ)) ?_ ?_ ⟨rfl, rfl⟩ ?_ ?_
 ·intro hle7 i8 e7 s1 v w3 he7 hI
  obtain ⟨rfl, rfl⟩ := hI
  refine rf_s (AV.bool true) (ix_lt he7) ?_
  refine rf_ct ?_
  refine rf_s (AV.rp (cList e7)) (ix_for he7) ?_
  refine rf_s (AV.agg (cList e7)) rfl ?_
  refine rf_s (cList e7) rfl ?_
  refine rf_s (cList e7) (sp_cList _ _ rfl) ?_
  refine rf_s (AV.int .i64 e7.number) rfl ?_
  refine rf_s (AV.bool (decide (e7.number = a1))) (aEq _ _ _) ?_
  refine rf_c (p := e7.number = a1) (fun c9 => ?_) (fun c9 => ?_)
  ·refine rf_s (AV.agg (cList e7)) rfl ?_
   refine rf_s _ rfl ?_
   refine rf_s (cList e7) rfl ?_
   refine rf_s (cList e7) (sp_cList _ _ rfl) ?_
   exact rf_ret (rnd_ret (by simp) ⟨_, rfl⟩)
  ·refine rf_s (AV.int .i64 ((i8 + 1 : Nat) : Int)) (ix_inc he7 hle7) ?_
   exact rf_ret (rnd_go ⟨rfl, rfl⟩)
 ·intro hl s1 v w3 hI
  obtain ⟨rfl, rfl⟩ := hI
  refine rf_s (AV.bool false) (ix_end _) ?_
  refine rf_cf ?_
  exact rf_ret ⟨by simp, ⟨_, _, rfl⟩⟩
 ·intro hl b2 q hq
  obtain ⟨u5, u10, rfl⟩ := hq
  refine rf_bt rfl ?_
  refine rf_s _ rfl ?_
  refine rf_s [(AV.int .i64 0), AV.nsl] rfl ?_
  refine rf_s [(AV.int .i64 0), AV.nsl] rfl ?_
  refine rf_s (AV.agg [(AV.int .i64 0), AV.nsl]) rfl ?_
  exact rf_fin _ (fin_same _ _) ⟨(nn_t (nn_t1 (nn_a (nn_t1 rfl (nn_t1 (by first | rfl | exact nn_eNil _ _) nn_t0))) (nn_t1 rfl nn_t0))), rfl⟩
 ·intro hl b2 q hq
  obtain ⟨u10, rfl⟩ := hq
  refine rf_bf rfl ?_
  refine rf_bt rfl ?_
  refine rf_s (AV.agg (cList b2.1)) rfl ?_
  exact rf_fin _ (fin_same _ _) ⟨(nn_t (nn_t1 (nn_a (nn_t1 rfl (nn_t1 (nn_e (fun _ => rfl) _) nn_t0))) (nn_t1 rfl nn_t0))), rfl⟩

noncomputable def t_R6_CheckSetup (a0 : SetupD) : Option Int :=
 (t_R4_CheckPresets a0.rig a0.presets).bind fun r1 =>
 if ¬ (r1 = 0) then
  some r1
 else
  if 30 < (a0.lists.length : Int) then
   some 2
  else
   forE a0.lists (fun (i9 : Nat) e8 (s2 : Unit) => (show Option (Lr Unit Unit Int) from
     if (!(withinB e8.number 1 999)) = true then
      some (.ret 1)
     else
      (if decide (0 < (i9 : Int)) = true then tIx a0.lists (IntKind.i64.wrap ((i9 : Int) - 1)) else some default).bind fun x10 =>
      if ((decide (0 < (i9 : Int))) && (decide (e8.number ≤ x10.number))) = true then
       some (.ret 7)
      else
       (t_R5_CheckList a0.rig a0.presets e8.cues).bind fun r11 =>
       if ¬ (r11 = 0) then
        some (.ret r11)
       else
        some (.go ()))) (fun s2 => some ()) () (fun b3 =>
    if 40 < (a0.playbacks.length : Int) then
     some 2
    else
     forE a0.playbacks (fun (i22 : Nat) e21 (s15 : Unit) => (show Option (Lr Unit Unit Int) from
       (t_R6_ListOf a0.lists e21.list).bind fun r23 =>
       if (!(withinB e21.number 1 40)) = true then
        some (.ret 1)
       else
        (if decide (0 < (i22 : Int)) = true then tIx a0.playbacks (IntKind.i64.wrap ((i22 : Int) - 1)) else some default).bind fun x24 =>
        if ((decide (0 < (i22 : Int))) && (decide (e21.number ≤ x24.number))) = true then
         some (.ret 7)
        else
         if (!r23.2) = true then
          some (.ret 8)
         else
          if (!(withinB e21.priority 0 100)) = true then
           some (.ret 1)
          else
           some (.go ()))) (fun s15 => some ()) () (fun b16 =>
      some 0) (fun b16 =>
      some b16)) (fun b3 =>
    some b3)
theorem h_R6_CheckSetup {a0 : SetupD} {σ : Heap} {r : Int} (h : t_R6_CheckSetup a0 = some r) : m_R6_CheckSetup [(AV.agg (cSetup a0))] σ = some ((AV.int .i64 r), σ) := by
 refine rf_wrap1 (f := r_R6_CheckSetup) (y0 := (AV.agg (cSetup a0))) (enc := fun r : Int => (AV.int .i64 r)) (T := t_R6_CheckSetup a0) rfl rfl ?_ r h
 unfold r_R6_CheckSetup t_R6_CheckSetup
 refine rf_s (cSetup a0) rfl ?_
 refine rf_s (AV.agg (cRig a0.rig)) rfl ?_
 refine rf_s (sl 3 cPreset a0.presets) rfl ?_
 refine rf_o (fun r1 : Int => ((AV.int .i64 r1), σ)) (fun r1 hr1 => h_R4_CheckPresets hr1) (fun r1 hr1 => ?_)
 refine rf_s (AV.bool (decide (¬ (r1 = 0)))) (aNe _ _ _) ?_
 refine rf_c (p := ¬ (r1 = 0)) (fun c31 => ?_) (fun c31 => ?_)
 ·exact rf_fin _ (fin_same _ _) ⟨rfl, rfl⟩
 ·refine rf_s (sl 2 cList a0.lists) rfl ?_
  refine rf_s (AV.int .i64 (a0.lists.length : Int)) (lenS_sl _ _ _) ?_
  refine rf_s (AV.bool (decide (30 < (a0.lists.length : Int)))) rfl ?_
  refine rf_c (p := 30 < (a0.lists.length : Int)) (fun c30 => ?_) (fun c30 => ?_)
  ·exact rf_fin _ (fin_same _ _) ⟨rfl, rfl⟩
  ·refine rf_s (sl 2 cList a0.lists) rfl ?_
   refine rf_s (AV.int .i64 (a0.lists.length : Int)) (lenS_sl _ _ _) ?_
   refine rf_for (B := Unit) (R := Int) (fun (i9 : Nat) (s2 : Unit) v w4 => v = [(AV.lbx (cSetup a0)), (AV.int .i64 0), (AV.int .i64 (i9 : Int))] ∧ σ = w4) (fun (b3 : Unit) (q : LS) => ∃ u2 u26, q = ((AX.exit 0), ([(AV.lbx (cSetup a0)), u2, u26] : List AV), σ)) (fun (b3 : Int) (q : LS) => ∃ u1 u26, q = (AX.ret, ([u1, (AV.int .i64 b3), u26] : List AV), σ)) ?_ ?_ ⟨rfl, rfl⟩ ?_ ?_
   ·intro hle8 i9 e8 s2 v w4 he8 hI
    obtain ⟨rfl, rfl⟩ := hI
    refine rf_s (AV.bool true) (ix_lt he8) ?_
    refine rf_ct ?_
    refine rf_s (AV.rp (cList e8)) (ix_for he8) ?_
    refine rf_s (AV.agg (cList e8)) rfl ?_
    refine rf_s (cList e8) rfl ?_
    refine rf_s (cList e8) (sp_cList _ _ rfl) ?_
    refine rf_s (AV.int .i64 e8.number) rfl ?_
    refine rf_s ((AV.bool (withinB e8.number 1 999)), σ) (Within1_eq e8.number 1 999 σ) ?_
    refine rf_s (AV.bool (!(withinB e8.number 1 999))) rfl ?_
    refine rf_cb (c := (!(withinB e8.number 1 999))) (fun c14 => ?_) (fun c14 => ?_)
    ·exact rf_ret (rnd_ret (by simp) ⟨_, _, rfl⟩)
    ·refine rf_s (AV.bool (decide (0 < (i9 : Int)))) rfl ?_
     refine rf_gt (AV.int .i64 e8.number) (fun hg => by
       exact rfl) ?_
     refine rf_s _ rfl ?_
     refine rf_gt (sl 2 cList a0.lists) (fun hg => by
       exact rfl) ?_
     refine rf_gt (AV.int .i64 (i9 : Int)) (fun hg => by
       exact rfl) ?_
     refine rf_gt (AV.int .i64 (IntKind.i64.wrap ((i9 : Int) - 1))) (fun hg => by
       first | exact rfl | (simp only [hg, Bool.true_and, Bool.and_true, cond_true, hg]; first | done | exact rfl)) ?_
     refine rf_gto (ω := ListD) (fun x10 => (AV.rp (cList x10))) (fun hg x10 hx10 => by
       first | exact ix_at hx10 | (simp only [hg, Bool.true_and, Bool.and_true, cond_true, hg]; first | done | exact ix_at hx10)) (fun x10 hx10 => ?_)
     refine rf_gt (AV.rp (cList x10)) (fun hg => by
       first | exact rfl | (simp only [hg, Bool.true_and, Bool.and_true, cond_true, hg]; first | done | exact rfl)) ?_
     refine rf_gt (AV.int .i64 x10.number) (fun hg => by
       first | exact rfl | (simp only [hg, Bool.true_and, Bool.and_true, cond_true, hg]; first | done | exact rfl)) ?_
     refine rf_gt (AV.bool (decide (e8.number ≤ x10.number))) (fun hg => by
       first | exact rfl | (simp only [hg, Bool.true_and, Bool.and_true, cond_true, hg]; first | done | exact rfl)) ?_
     refine rf_s (AV.bool ((decide (0 < (i9 : Int))) && (decide (e8.number ≤ x10.number)))) (pk_and _ _) ?_
     refine rf_cb (c := ((decide (0 < (i9 : Int))) && (decide (e8.number ≤ x10.number)))) (fun c13 => ?_) (fun c13 => ?_)
     ·exact rf_ret (rnd_ret (by simp) ⟨_, _, rfl⟩)
     ·refine rf_s _ rfl ?_
      refine rf_s (AV.agg (cRig a0.rig)) rfl ?_
      refine rf_s _ rfl ?_
      refine rf_s (sl 3 cPreset a0.presets) rfl ?_
      refine rf_s (sl 11 cCue e8.cues) rfl ?_
      refine rf_o (fun r11 : Int => ((AV.int .i64 r11), σ)) (fun r11 hr11 => h_R5_CheckList hr11) (fun r11 hr11 => ?_)
      refine rf_s (AV.bool (decide (¬ (r11 = 0)))) (aNe _ _ _) ?_
      refine rf_c (p := ¬ (r11 = 0)) (fun c12 => ?_) (fun c12 => ?_)
      ·exact rf_ret (rnd_ret (by simp) ⟨_, _, rfl⟩)
      ·refine rf_s (AV.int .i64 ((i9 + 1 : Nat) : Int)) (ix_inc he8 hle8) ?_
       exact rf_ret (rnd_go ⟨rfl, rfl⟩)
   ·intro hl s2 v w4 hI
    obtain ⟨rfl, rfl⟩ := hI
    refine rf_s (AV.bool false) (ix_end _) ?_
    refine rf_cf ?_
    exact rf_ret ⟨by simp, ⟨_, _, rfl⟩⟩
   ·intro hl b3 q hq
    obtain ⟨u2, u26, rfl⟩ := hq
    refine rf_bt rfl ?_
    refine rf_s _ rfl ?_
    refine rf_s (sl 3 cPlayback a0.playbacks) rfl ?_
    refine rf_s (AV.int .i64 (a0.playbacks.length : Int)) (lenS_sl _ _ _) ?_
    refine rf_s (AV.bool (decide (40 < (a0.playbacks.length : Int)))) rfl ?_
    refine rf_c (p := 40 < (a0.playbacks.length : Int)) (fun c29 => ?_) (fun c29 => ?_)
    ·exact rf_fin _ (fin_same _ _) ⟨rfl, rfl⟩
    ·refine rf_s _ rfl ?_
     refine rf_s (sl 3 cPlayback a0.playbacks) rfl ?_
     refine rf_s (AV.int .i64 (a0.playbacks.length : Int)) (lenS_sl _ _ _) ?_
     refine rf_for (B := Unit) (R := Int) (fun (i22 : Nat) (s15 : Unit) v w17 => ∃ u2, v = [(AV.lbx (cSetup a0)), u2, (AV.int .i64 (i22 : Int))] ∧ σ = w17) (fun (b16 : Unit) (q : LS) => ∃ u1 u2 u69, q = ((AX.exit 3), ([u1, u2, u69] : List AV), σ)) (fun (b16 : Int) (q : LS) => ∃ u1 u69, q = (AX.ret, ([u1, (AV.int .i64 b16), u69] : List AV), σ)) ?_ ?_ ⟨_, rfl, rfl⟩ ?_ ?_
     ·intro hle21 i22 e21 s15 v w17 he21 hI
      obtain ⟨u2, rfl, rfl⟩ := hI
      refine rf_s (AV.bool true) (ix_lt he21) ?_
      refine rf_ct ?_
      refine rf_s (AV.rp (cPlayback e21)) (ix_for he21) ?_
      refine rf_s (AV.agg (cPlayback e21)) rfl ?_
      refine rf_s (cPlayback e21) rfl ?_
      refine rf_s (cPlayback e21) (sp_cPlayback _ _ rfl) ?_
      refine rf_s _ rfl ?_
      refine rf_s (sl 2 cList a0.lists) rfl ?_
      refine rf_s (AV.int .i64 e21.list) rfl ?_
      refine rf_o (fun r23 : (ListD × Bool) => ((AV.tup [(AV.agg (cList r23.1)), (AV.bool r23.2)]), σ)) (fun r23 hr23 => h_R6_ListOf hr23) (fun r23 hr23 => ?_)
      refine rf_s (AV.agg (cList r23.1)) rfl ?_
      refine rf_s (AV.bool r23.2) rfl ?_
      refine rf_s (cList r23.1) rfl ?_
      refine rf_s (cList r23.1) (sp_cList _ _ rfl) ?_
      refine rf_s (AV.int .i64 e21.number) rfl ?_
      refine rf_s ((AV.bool (withinB e21.number 1 40)), σ) (Within1_eq e21.number 1 40 σ) ?_
      refine rf_s (AV.bool (!(withinB e21.number 1 40))) rfl ?_
      refine rf_cb (c := (!(withinB e21.number 1 40))) (fun c28 => ?_) (fun c28 => ?_)
      ·exact rf_ret (rnd_ret (by simp) ⟨_, _, rfl⟩)
      ·refine rf_s (AV.bool (decide (0 < (i22 : Int)))) rfl ?_
       refine rf_gt (AV.int .i64 e21.number) (fun hg => by
         exact rfl) ?_
       refine rf_s _ rfl ?_
       refine rf_gt (sl 3 cPlayback a0.playbacks) (fun hg => by
         exact rfl) ?_
       refine rf_gt (AV.int .i64 (i22 : Int)) (fun hg => by
         exact rfl) ?_
       refine rf_gt (AV.int .i64 (IntKind.i64.wrap ((i22 : Int) - 1))) (fun hg => by
         first | exact rfl | (simp only [hg, Bool.true_and, Bool.and_true, cond_true, hg]; first | done | exact rfl)) ?_
       refine rf_gto (ω := PlaybackD) (fun x24 => (AV.rp (cPlayback x24))) (fun hg x24 hx24 => by
         first | exact ix_at hx24 | (simp only [hg, Bool.true_and, Bool.and_true, cond_true, hg]; first | done | exact ix_at hx24)) (fun x24 hx24 => ?_)
       refine rf_gt (AV.rp (cPlayback x24)) (fun hg => by
         first | exact rfl | (simp only [hg, Bool.true_and, Bool.and_true, cond_true, hg]; first | done | exact rfl)) ?_
       refine rf_gt (AV.int .i64 x24.number) (fun hg => by
         first | exact rfl | (simp only [hg, Bool.true_and, Bool.and_true, cond_true, hg]; first | done | exact rfl)) ?_
       refine rf_gt (AV.bool (decide (e21.number ≤ x24.number))) (fun hg => by
         first | exact rfl | (simp only [hg, Bool.true_and, Bool.and_true, cond_true, hg]; first | done | exact rfl)) ?_
       refine rf_s (AV.bool ((decide (0 < (i22 : Int))) && (decide (e21.number ≤ x24.number)))) (pk_and _ _) ?_
       refine rf_cb (c := ((decide (0 < (i22 : Int))) && (decide (e21.number ≤ x24.number)))) (fun c27 => ?_) (fun c27 => ?_)
       ·exact rf_ret (rnd_ret (by simp) ⟨_, _, rfl⟩)
       ·refine rf_s (AV.bool (!r23.2)) rfl ?_
        refine rf_cb (c := (!r23.2)) (fun c26 => ?_) (fun c26 => ?_)
        ·exact rf_ret (rnd_ret (by simp) ⟨_, _, rfl⟩)
        ·refine rf_s (AV.int .i64 e21.priority) rfl ?_
         refine rf_s ((AV.bool (withinB e21.priority 0 100)), σ) (Within1_eq e21.priority 0 100 σ) ?_
         refine rf_s (AV.bool (!(withinB e21.priority 0 100))) rfl ?_
         refine rf_cb (c := (!(withinB e21.priority 0 100))) (fun c25 => ?_) (fun c25 => ?_)
         ·exact rf_ret (rnd_ret (by simp) ⟨_, _, rfl⟩)
         ·refine rf_s (AV.int .i64 ((i22 + 1 : Nat) : Int)) (ix_inc he21 hle21) ?_
          exact rf_ret (rnd_go ⟨_, rfl, rfl⟩)
     ·intro hl s15 v w17 hI
      obtain ⟨u2, rfl, rfl⟩ := hI
      refine rf_s (AV.bool false) (ix_end _) ?_
      refine rf_cf ?_
      exact rf_ret ⟨by simp, ⟨_, _, _, rfl⟩⟩
     ·intro hl b16 q hq
      obtain ⟨u1, u2, u69, rfl⟩ := hq
      refine rf_bt rfl ?_
      exact rf_fin _ (fin_same _ _) ⟨rfl, rfl⟩
     ·intro hl b16 q hq
      obtain ⟨u1, u69, rfl⟩ := hq
      refine rf_bf rfl ?_
      refine rf_bt rfl ?_
      exact rf_fin _ (fin_same _ _) ⟨rfl, rfl⟩
   ·intro hl b3 q hq
    obtain ⟨u1, u26, rfl⟩ := hq
    refine rf_bf rfl ?_
    refine rf_bt rfl ?_
    exact rf_fin _ (fin_same _ _) ⟨rfl, rfl⟩
end Go.Proofs.Ytohbeolimnpehaa

/- What the checks of rigs, presets, lists and setups say, and that the typed runs say it. -/
namespace Go.Proofs.Ytohbeolimnpehaa
set_option linter.unusedSectionVars false
set_option linter.unusedVariables false
set_option linter.unusedSimpArgs false
/-! ### Maps -/
section
variable {κ ν : Type} [DecidableEq κ]
theorem tfind_tupd (k a : κ) (v : ν) : ∀ (l : List (κ × ν)), tfind k (tupd a v l) = if k = a then some v else tfind k l
 | [] => by simp [tupd, tfind]
 | (b, w) :: l => by
  rw [tupd]
  by_cases h : a = b
  ·subst h
   rw [if_pos rfl, tfind, tfind]
   split <;> rfl
  ·rw [if_neg h, tfind, tfind, tfind_tupd k a v l]
   by_cases h2 : k = b
   ·subst h2; rw [if_pos rfl, if_pos rfl, if_neg (fun e => h e.symm)]
   ·rw [if_neg h2, if_neg h2]
theorem tfind_set (k : κ) : ∀ (l : List κ) (s : List (κ × Bool)), (tfind k (l.foldl (fun s x => tupd x true s) s)).getD false = (decide (k ∈ l) || (tfind k s).getD false)
 | [], s => by simp
 | x :: l, s => by
  rw [List.foldl_cons, tfind_set k l, tfind_tupd]
  by_cases h : k = x
  ·simp [h]
  ·simp [h]
end
/-! ### Rigs -/
theorem sorted_snoc {l : List Int} {n : Int} (h : l.Pairwise (· < ·)) (k : ordB l n = false) : (l ++ [n]).Pairwise (· < ·) := by
 rw [List.pairwise_append]
 refine ⟨h, by simp, fun a ha b hb => ?_⟩
 simp at hb
 subst hb
 unfold ordB at k
 cases hl : l.getLast? with
 | none => rw [List.getLast?_eq_none_iff] at hl; subst hl; simp at ha
 | some m =>
  rw [hl] at k
  simp at k
  obtain ⟨ys, rfl⟩ := List.getLast?_eq_some_iff.1 hl
  rw [List.pairwise_append] at h
  rcases List.mem_append.1 ha with ha | ha
  ·have := h.2.2 a ha m (by simp); omega
  ·simp at ha; omega
theorem chkU_sorted {lib : List ProfileD} : ∀ (rest pre : List UnitD), chkU lib pre rest = 0 → (pre.map (·.number)).Pairwise (· < ·) → ((pre ++ rest).map (·.number)).Pairwise (· < ·)
 | [], pre, _, h => by simpa using h
 | u :: rest, pre, hc, h => by
  rw [chkU] at hc
  split at hc
  ·cases hc
  split at hc
  ·cases hc
  rename_i ho
  split at hc
  ·cases hc
  split at hc
  ·cases hc
  split at hc
  ·cases hc
  have := chkU_sorted rest (pre ++ [u]) hc (by rw [List.map_append]; exact sorted_snoc h (by simpa using ho))
  simpa using this
theorem rigF_sorted {r : RigD} (h : rigF r = 0) : (r.units.map (·.number)).Pairwise (· < ·) := by
 unfold rigF at h
 split at h
 ·split at h
  ·cases h
  ·simpa using chkU_sorted r.units [] h (by simp)
 ·rename_i h2; exact absurd h h2
theorem paramB_mem (p : ProfileD) (nm : ByteArray) : (paramB p nm).2 = true ↔ ∃ x ∈ p.params, x.name = nm := by
 unfold paramB
 cases h : p.params.find? fun x => decide (x.name = nm) with
 | none =>
  simp only [Option.elim_none, Bool.false_eq_true, false_iff]
  rintro ⟨x, hx, e⟩
  have := List.find?_eq_none.1 h x hx
  simp [e] at this
 | some x =>
  simp only [Option.elim_some, true_iff]
  exact ⟨x, List.mem_of_find?_eq_some h, by simpa using List.find?_some h⟩
theorem uniq_unit {l : List UnitD} (h : (l.map (·.number)).Pairwise (· < ·)) {u v : UnitD} (hu : u ∈ l) (hv : v ∈ l) (e : u.number = v.number) : u = v := by
 induction l with
 | nil => simp at hu
 | cons x l ih =>
  rw [List.map_cons, List.pairwise_cons] at h
  rcases List.mem_cons.1 hu with hu1 | hu1 <;> rcases List.mem_cons.1 hv with hv1 | hv1
  ·rw [hu1, hv1]
  ·have := h.1 v.number (List.mem_map.2 ⟨v, hv1, rfl⟩); rw [← hu1] at this; omega
  ·have := h.1 u.number (List.mem_map.2 ⟨u, hu1, rfl⟩); rw [← hv1] at this; omega
  ·exact ih h.2 hu1 hv1
/-- Has a right rig a key? -/
def hasK (r : RigD) (k : KeyD) : Bool := (paramOf r k).2
theorem hasK_mem {r : RigD} (h : rigF r = 0) (k : KeyD) : hasK r k = decide (k ∈ keysOf r) := by
 rw [Bool.eq_iff_iff, decide_eq_true_iff]
 unfold hasK paramOf keysOf
 rw [List.mem_flatMap]
 cases hf : r.units.find? fun u => decide (u.number = k.unit) with
 | none =>
  simp only [Option.elim_none, Bool.false_eq_true, false_iff]
  rintro ⟨u, hu, hk⟩
  obtain ⟨x, _, rfl⟩ := List.mem_map.1 hk
  have := List.find?_eq_none.1 hf u hu
  simp at this
 | some u =>
  have hu := List.mem_of_find?_eq_some hf
  have hn : u.number = k.unit := by simpa using List.find?_some hf
  simp only [Option.elim_some, paramB_mem]
  constructor
  ·rintro ⟨x, hx, e⟩
   exact ⟨u, hu, List.mem_map.2 ⟨x, hx, by rw [hn, e]⟩⟩
  ·rintro ⟨v, hv, hk⟩
   obtain ⟨x, hx, rfl⟩ := List.mem_map.1 hk
   obtain rfl := uniq_unit (rigF_sorted h) hu hv hn
   exact ⟨x, hx, rfl⟩
theorem keys_len {r : RigD} (h : rigF r = 0) : (keysOf r).length ≤ 16000 := by
 have h1 := unitKeys_len h r.units
 have h2 := rigF_units h
 show (r.units.flatMap (unitKeys r.library)).length ≤ _
 omega
/-! ### Presets -/
theorem ite_pure {α : Type} {p : Prop} [Decidable p] (a b : α) : (if p then some a else some b) = some (if p then a else b) := by split <;> rfl
theorem bind_ite2 {α β : Type} {p : Prop} [Decidable p] (a b : α) (f : α → Option β) : (if p then some a else some b).bind f = f (if p then a else b) := by split <;> rfl
theorem before_eq (a b : KeyD) : t_pick_before a b = some (ltK a b) := by
 unfold t_pick_before ltK
 by_cases h : a.unit = b.unit
 ·simp [h, toList_d, cmpB_lt]
 ·by_cases h2 : a.unit < b.unit <;> simp [h, h2]
theorem compare_eq (a b : KeyD) : t_cue_compare a b = some (cmpK a b) := by
 unfold t_cue_compare cmpK
 by_cases h : a.unit = b.unit
 ·simp [h]
 ·by_cases h2 : a.unit < b.unit <;> simp [h, h2]
def settF (has : KeyD → Bool) (l : List SettingD) (i : Nat) (x : SettingD) : Int :=
 if (!has x.key) = true then 8
 else if (!(withinB x.level 0 65535)) = true then 1
 else if (decide (0 < (i : Int)) && !ltK (pv l i).key x.key) = true then 7 else 0
def presetF (has : KeyD → Bool) (l : List PresetD) (i : Nat) (p : PresetD) : Int :=
 if (!(withinB p.number 1 999)) = true then 1
 else if (decide (0 < (i : Int)) && decide (p.number ≤ (pv l i).number)) = true then 7
 else if (!(blankB p.title)) = true then 3
 else if 2000 < (p.settings.length : Int) then 2
 else chkE (settF has p.settings) p.settings 0
def presetsF (r : RigD) (l : List PresetD) : Int :=
 if ¬ (rigF r = 0) then rigF r else if 200 < (l.length : Int) then 2 else chkE (presetF (hasK r) l) l 0
theorem guard_before (c : Bool) (a b : KeyD) : (c && !(if c = true then ltK a b else (default : Bool))) = (c && !ltK a b) := by cases c <;> rfl
theorem guard_cmp (c : Bool) (a b : KeyD) : (c && decide (0 ≤ (if c = true then cmpK a b else (default : Int)))) = (c && !ltK a b) := by
 cases c
 ·rfl
 ·simp only [if_true, Bool.true_and]; exact cmpK_ge a b
theorem guard_title (s : ByteArray) : (decide (¬ (s = (⟨#[]⟩ : ByteArray))) && !(if decide (¬ (s = (⟨#[]⟩ : ByteArray))) = true then titleB s else (default : Bool))) = !blankB s := by
 unfold blankB
 by_cases h : s = ⟨#[]⟩ <;> simp [h]
theorem CheckPresets_t (r : RigD) (l : List PresetD) (hr : okRig r) (hl : okL okPreset l) : t_pick_CheckPresets r l = some (presetsF r l) := by
 unfold t_pick_CheckPresets presetsF
 simp only [tq_pos hr, Option.bind_some]
 rw [tq_pos (by show 2 ≤ mxl; unfold mxl; omega)]
 simp only [find2, Option.bind_some]
 by_cases h0 : rigF r = 0
 case neg => simp [h0]
 by_cases h1 : 200 < (l.length : Int)
 ·simp [h0, h1]
 have hk : t_pick_keys r = some ((keysOf r).foldl (fun s x => tupd x true s) []) := by
  unfold t_pick_keys
  have := keys_len h0
  simp only [tq_pos hr, Option.bind_some, h0, if_true]
  rw [forE_fold (fun s x => tupd x true s) (fun _ _ => True) (by unfold mxl; omega) trivial (fun _ _ _ _ _ => trivial) (fun _ _ _ _ _ => rfl)]
  rfl
 simp only [h0, h1, not_true_eq_false, if_false, decide_false, Bool.false_eq_true, hk, Option.bind_some]
 have has : ∀ k, (tfind k ((keysOf r).foldl (fun s x => tupd x true s) [])).getD false = hasK r k := by
  intro k; rw [tfind_set, hasK_mem h0]; simp [tfind]
 rw [forE_chk (f := presetF (hasK r) l) hl.1 ?_]
 ·split
  ·rename_i h; rw [h]
  ·rfl
 intro i p hp
 have hpm := hl.2 p (List.mem_of_getElem? hp)
 obtain ⟨_, ht, hs⟩ := hpm
 simp only [prev_at hp hl.1, Option.bind_some, tq_pos ht, has]
 rw [forE_chk (f := settF (hasK r) p.settings) hs.1 ?_]
 ·unfold presetF
  repeat first | exact elim_ret _ | exact go_ret | refine ite_ret (by decide) ?_
 intro j x hx
 simp only [prev_at hx hs.1, Option.bind_some, before_eq, bind_ite2, guard_before]
 unfold settF
 repeat first | exact go_ret | refine ite_ret (by decide) ?_
theorem CheckPresets4_t (r : RigD) (l : List PresetD) (hr : okRig r) (hl : okL okPreset l) : t_R4_CheckPresets r l = some (presetsF r l) := by
 unfold t_R4_CheckPresets presetsF
 simp only [tq_pos hr, Option.bind_some]
 by_cases h0 : rigF r = 0
 case neg => simp [h0]
 by_cases h1 : 200 < (l.length : Int)
 ·simp [h0, h1]
 simp only [h0, h1, not_true_eq_false, if_false]
 rw [forE_chk (f := presetF (hasK r) l) hl.1 ?_]
 ·split
  ·rename_i h; rw [h]
  ·rfl
 intro i p hp
 have hpm := hl.2 p (List.mem_of_getElem? hp)
 obtain ⟨_, ht, hs⟩ := hpm
 simp only [prev_at hp hl.1, Option.bind_some, tq_pos ht, bind_ite2, guard_title]
 rw [forE_chk (f := settF (hasK r) p.settings) hs.1 ?_]
 ·unfold presetF
  repeat first | exact elim_ret _ | exact go_ret | refine ite_ret (by decide) ?_
 intro j x hx
 simp only [prev_at hx hs.1, Option.bind_some]
 unfold settF ltK hasK
 repeat first | exact go_ret | refine ite_ret (by decide) ?_
/-! ### The level of a value -/
def presetOf (l : List PresetD) (n : Int) : PresetD × Bool := match l.find? fun p => decide (p.number = n) with | some p => (p, true) | none => (⟨0, ⟨#[]⟩, []⟩, false)
def levelOf (l : List PresetD) (k : KeyD) (v : ValueD) : Int × Int :=
 if (decide (¬ (v.level = 0)) && decide (¬ (v.preset = 0))) = true then (0, 3)
 else if (!(withinB v.level 0 65535)) = true then (0, 1)
 else if v.preset = 0 then (v.level, 0)
 else match l.find? fun p => decide (p.number = v.preset) with
  | none => (0, 8)
  | some p => match p.settings.find? fun s => decide (s.key = k) with | none => (0, 8) | some s => (s.level, 0)
theorem PresetOf_t (l : List PresetD) (hl : l.length ≤ mxl) (n : Int) : t_R4_PresetOf l n = some (presetOf l n) := by
 unfold t_R4_PresetOf presetOf
 rw [forE_find (p := fun p => decide (p.number = n)) (r := fun p => (p, true)) hl (by intro i x _; simp only [decide_eq_true_eq, ite_pure])]
 cases l.find? fun p => decide (p.number = n) <;> rfl
theorem Level4_t (l : List PresetD) (hl : okL okPreset l) (k : KeyD) (v : ValueD) : t_R4_Level l k v = some (levelOf l k v) := by
 unfold t_R4_Level levelOf
 simp only [PresetOf_t l hl.1, Option.bind_some]
 split
 ·rfl
 split
 ·rfl
 split
 ·rfl
 unfold presetOf
 cases hf : l.find? fun p => decide (p.number = v.preset) with
 | none => rfl
 | some p =>
  have hp := hl.2 p (List.mem_of_find?_eq_some hf)
  simp only [Bool.not_true, Bool.false_eq_true, if_false]
  rw [forE_find (p := fun s => decide (s.key = k)) (r := fun s => s.level) hp.2.2.1 (by intro i x _; simp only [decide_eq_true_eq, ite_pure])]
  cases p.settings.find? fun s => decide (s.key = k) <;> rfl
/-- A loop that looks for an element, and may leave at it. -/
theorem forE_find2 {α γ R : Type} {p : α → Bool} {l : List α} {body : Nat → α → Unit → Option (Lr Unit Unit R)} {r : α → Option R} {fin : Unit → Option Unit} {s : Unit} {K1 : Unit → Option γ} {K2 : R → Option γ} (hl : l.length ≤ mxl) (hb : ∀ i x, l[i]? = some x → body i x () = if p x = true then some (match r x with | some q => .ret q | none => .brk ()) else some (.go ())) (hf : fin () = some () := by rfl) : forE l body fin s K1 K2 = match l.find? p with | some x => (match r x with | some q => K2 q | none => K1 ()) | none => K1 () := by
 rw [forE_le hl]
 have key : ∀ (rest pre : List α), l = pre ++ rest → forL body fin rest pre.length () = some (match rest.find? p with | some x => (match r x with | some q => .inr q | none => .inl ()) | none => .inl ()) := by
  intro rest
  induction rest with
  | nil => intro pre _; simp [forL, hf]
  | cons x rest ih =>
   intro pre hp
   rw [forL, hb pre.length x (by rw [hp]; simp), List.find?_cons]
   cases h : p x
   ·simp only [Bool.false_eq_true, if_false, Option.bind_some]
    have := ih (pre ++ [x]) (by simpa using hp)
    simpa using this
   ·simp only [if_true, Option.bind_some]
    cases r x <;> rfl
 have k := key l [] rfl
 rw [List.length_nil] at k
 rw [show s = () from rfl, k, Option.bind_some]
 cases l.find? p with
 | none => rfl
 | some x =>
  simp only
  cases r x <;> rfl
theorem Level_t (l : List PresetD) (hl : okL okPreset l) (k : KeyD) (v : ValueD) : t_pick_Level l k v = some (levelOf l k v) := by
 unfold t_pick_Level levelOf
 split
 ·rfl
 split
 ·rfl
 split
 ·rfl
 rw [forE_find2 (p := fun p => decide (p.number = v.preset)) (r := fun p => (p.settings.find? fun s => decide (s.key = k)).map (·.level)) hl.1 ?_]
 ·cases hf : l.find? fun p => decide (p.number = v.preset) with
  | none => rfl
  | some p =>
   simp only
   cases p.settings.find? fun s => decide (s.key = k) <;> rfl
 intro i p hp
 have hpm := hl.2 p (List.mem_of_getElem? hp)
 by_cases hn : p.number = v.preset
 ·simp only [hn, not_true_eq_false, if_false, decide_true, if_true]
  rw [forE_find (p := fun s => decide (s.key = k)) (r := fun s => s.level) hpm.2.2.1 (by intro i x _; simp only [decide_eq_true_eq, ite_pure])]
  cases p.settings.find? fun s => decide (s.key = k) <;> rfl
 ·simp [hn]
/-! ### Lists of cues -/
def moveF (l : List MoveD) (i : Nat) (m : MoveD) : Int :=
 if (!(withinB m.key.unit 1 9999)) = true then 1
 else if (!(nameB m.key.param)) = true then 5
 else if ((m.release && (decide (¬ (m.value = (⟨0, 0⟩ : ValueD))))) || ((decide (¬ (m.value.level = 0))) && (decide (¬ (m.value.preset = 0))))) = true then 3
 else if ((!(withinB m.value.level 0 65535)) || (!(withinB m.value.preset 0 999))) = true then 1
 else if ((!m.timed) && ((decide (¬ (m.delay = 0))) || (decide (¬ (m.time = 0))))) = true then 3
 else if ((!(withinB m.delay 0 36000000)) || (!(withinB m.time 0 36000000))) = true then 1
 else if (decide (0 < (i : Int)) && !ltK (pv l i).key m.key) = true then 7 else 0
def movesF (l : List MoveD) : Int := chkE (moveF l) l 0
theorem checkMoves_t (l : List MoveD) (hl : okL okMove l) : t_cue_checkMoves l = some (movesF l) := by
 unfold t_cue_checkMoves movesF
 rw [forE_chk (f := moveF l) hl.1 ?_]
 ·split
  ·rename_i h; rw [h]
  ·rfl
 intro i m hm
 have hmm := hl.2 m (List.mem_of_getElem? hm)
 simp only [prev_at hm hl.1, Option.bind_some, tq_pos hmm.1.2, compare_eq, bind_ite2, guard_cmp]
 unfold moveF
 repeat first | exact go_ret | refine ite_ret (by decide) ?_
theorem checkMove5_t (l : List MoveD) (hl : okL okMove l) (i : Nat) (m : MoveD) (hm : l[i]? = some m) : t_R5_checkMove m (l.take i) = some (moveF l i m) := by
 have hmm := hl.2 m (List.mem_of_getElem? hm)
 have hi := (List.getElem?_eq_some_iff.1 hm).1
 have e : ((l.take i).length : Int) = (i : Int) := by simp; omega
 unfold t_R5_checkMove moveF
 simp only [tq_pos hmm.1.2, Option.bind_some]
 have := last_at hm hl.1
 rw [e] at this
 simp only [e, this, Option.bind_some, ite_pure]
 rfl
theorem checkMoves5_t (l : List MoveD) (hl : okL okMove l) : t_R5_checkMoves l = some (if 2000 < (l.length : Int) then 2 else movesF l) := by
 unfold t_R5_checkMoves movesF
 split
 ·rfl
 rw [forE_chk (f := moveF l) hl.1 ?_]
 ·split
  ·rename_i h; rw [h]
  ·rfl
 intro i m hm
 have hi := (List.getElem?_eq_some_iff.1 hm).1
 simp only [tSl_pre (Nat.le_of_lt hi), Option.bind_some, checkMove5_t l hl i m hm]
 by_cases h : moveF l i m = 0 <;> simp [h]
def cueF (l : List CueD) (i : Nat) (c : CueD) : Int :=
 if (!(withinB c.number 1 9999999)) = true then 1
 else if (decide (0 < (i : Int)) && decide (c.number ≤ (pv l i).number)) = true then 7
 else if (!(blankB c.title)) = true then 3
 else if (((((!(withinB c.delay 0 36000000)) || (!(withinB c.up 0 36000000))) || (!(withinB c.down 0 36000000))) || (!(withinB c.other 0 36000000))) || (!(withinB c.follow (-1) 36000000))) = true then 1
 else if ¬ (curveF c.curve = 0) then curveF c.curve
 else if 2000 < (c.moves.length : Int) then 2
 else movesF c.moves
def manyF (l : List CueD) : Int := l.foldl (fun s c => IntKind.i64.wrap (s + (c.moves.length : Int))) 0
def formF (l : List CueD) : Int :=
 if 300 < (l.length : Int) then 2 else if ¬ (chkE (cueF l) l 0 = 0) then chkE (cueF l) l 0 else if 10000 < manyF l then 2 else 0
/-- A loop that checks and counts. -/
theorem forE_chkS {α γ S B : Type} {f : Nat → α → Int} {g : S → α → S} {l : List α} {body : Nat → α → S → Option (Lr S B Int)} {fin : S → Option B} {s : S} {K1 : B → Option γ} {K2 : Int → Option γ} (hl : l.length ≤ mxl) (hb : ∀ i x s, l[i]? = some x → body i x s = some (if f i x = 0 then .go (g s x) else .ret (f i x))) : forE l body fin s K1 K2 = if chkE f l 0 = 0 then (fin (l.foldl g s)).bind K1 else K2 (chkE f l 0) := by
 rw [forE_le hl]
 have key : ∀ (rest pre : List α) (s : S), l = pre ++ rest → forL body fin rest pre.length s = if chkE f rest pre.length = 0 then (fin (rest.foldl g s)).map .inl else some (.inr (chkE f rest pre.length)) := by
  intro rest
  induction rest with
  | nil => intro pre s _; simp [forL, chkE]
  | cons x rest ih =>
   intro pre s hp
   rw [forL, hb pre.length x s (by rw [hp]; simp), Option.bind_some, chkE]
   by_cases h : f pre.length x = 0
   ·simp only [h, if_true]
    have := ih (pre ++ [x]) (g s x) (by simpa using hp)
    simpa using this
   ·simp only [h, if_false]
 have k := key l [] s rfl
 rw [List.length_nil] at k
 rw [k]
 split
 ·cases fin (l.foldl g s) <;> rfl
 ·rfl
theorem ite_retS {S B : Type} {p : Prop} [Decidable p] {k f : Int} {t : S} {Y : Option (Lr S B Int)} (hk : k ≠ 0) (h : Y = some (if f = 0 then .go t else .ret f)) : (if p then some (.ret k) else Y) = some (if (if p then k else f) = 0 then .go t else .ret (if p then k else f)) := by
 by_cases hp : p
 ·simp [hp, hk]
 ·simp [hp, h]
theorem ite_retvS {S B : Type} {k f : Int} {t : S} {Y : Option (Lr S B Int)} (h : Y = some (if f = 0 then .go t else .ret f)) : (if ¬ (k = 0) then some (.ret k) else Y) = some (if (if ¬ (k = 0) then k else f) = 0 then .go t else .ret (if ¬ (k = 0) then k else f)) := by
 by_cases hp : k = 0
 ·simp [hp, h]
 ·simp [hp]
theorem ite_lastS {S B : Type} {k : Int} {t : S} : (if ¬ (k = 0) then some (.ret k) else some (.go t) : Option (Lr S B Int)) = some (if k = 0 then .go t else .ret k) := by
 by_cases hp : k = 0 <;> simp [hp]
theorem form_t (l : List CueD) (hl : okL okCue l) : t_cue_form l = some (formF l) := by
 unfold t_cue_form formF
 split
 ·rfl
 rw [forE_chkS (f := cueF l) (g := fun s c => IntKind.i64.wrap (s + (c.moves.length : Int))) hl.1 ?_]
 ·show (if chkE (cueF l) l 0 = 0 then some (if decide (10000 < manyF l) = true then (2 : Int) else 0) else some (chkE (cueF l) l 0)) = _
  by_cases h : chkE (cueF l) l 0 = 0
  ·by_cases h2 : 10000 < manyF l <;> simp [h, h2]
  ·simp [h]
 intro i c s hc
 obtain ⟨_, ht, _, _, _, _, _, _, hm⟩ := hl.2 c (List.mem_of_getElem? hc)
 simp only [prev_at hc hl.1, Option.bind_some, tq_pos ht, checkMoves_t _ hm, bind_ite2, guard_title]
 unfold cueF
 repeat first | exact ite_lastS | refine ite_retS (by decide) ?_ | refine ite_retvS ?_
theorem CheckForm5_t (l : List CueD) (hl : okL okCue l) : t_R5_CheckForm l = some (formF l) := by
 unfold t_R5_CheckForm formF
 split
 ·rfl
 rw [forE_chkS (f := cueF l) (g := fun s c => IntKind.i64.wrap (s + (c.moves.length : Int))) hl.1 ?_]
 ·show (if chkE (cueF l) l 0 = 0 then (if 10000 < manyF l then some (2 : Int) else some 0) else some (chkE (cueF l) l 0)) = _
  by_cases h : chkE (cueF l) l 0 = 0
  ·by_cases h2 : 10000 < manyF l <;> simp [h, h2]
  ·simp [h]
 intro i c s hc
 obtain ⟨_, ht, _, _, _, _, _, _, hm⟩ := hl.2 c (List.mem_of_getElem? hc)
 simp only [prev_at hc hl.1, Option.bind_some, tq_pos ht, checkMoves5_t _ hm, bind_ite2, guard_title]
 unfold cueF
 repeat first | exact ite_lastS | refine ite_retS (by decide) ?_ | refine ite_retvS ?_
def useF (r : RigD) (presets : List PresetD) (m : MoveD) : Int :=
 if (!hasK r m.key) = true then 8 else (levelOf presets m.key m.value).2
def usesF (r : RigD) (presets : List PresetD) (l : List CueD) : Int := chkE (fun _ c => chkE (fun _ m => useF r presets m) c.moves 0) l 0
def listF (r : RigD) (presets : List PresetD) (l : List CueD) : Int :=
 if ¬ (presetsF r presets = 0) then presetsF r presets else if ¬ (formF l = 0) then formF l else usesF r presets l
theorem presetsF_rig {r : RigD} {l : List PresetD} (h : presetsF r l = 0) : rigF r = 0 := by
 unfold presetsF at h
 by_cases h0 : rigF r = 0
 ·exact h0
 ·rw [if_pos h0] at h; exact h
theorem okCue_moves {c : CueD} (h : okCue c) : okL okMove c.moves := by
 obtain ⟨_, _, _, _, _, _, _, _, hm⟩ := h; exact hm
theorem CheckList_t (r : RigD) (presets : List PresetD) (l : List CueD) (hr : okRig r) (hp : okL okPreset presets) (hl : okL okCue l) : t_cue_CheckList r presets l = some (listF r presets l) := by
 unfold t_cue_CheckList listF
 simp only [CheckPresets_t r presets hr hp, form_t l hl, Option.bind_some]
 rw [tq_pos (by show 2 ≤ mxl; unfold mxl; omega)]
 simp only [find2, Option.bind_some]
 by_cases h0 : presetsF r presets = 0
 case neg => simp [h0]
 by_cases h1 : formF l = 0
 case neg => simp [h0, h1]
 have hrig := presetsF_rig h0
 have hkl := keys_len hrig
 simp only [h0, h1, not_true_eq_false, if_false, tq_pos hr, Option.bind_some, hrig, if_true]
 rw [forE_fold (fun s x => tupd x true s) (fun _ _ => True) (by unfold mxl; omega) trivial (fun _ _ _ _ _ => trivial) (fun _ _ _ _ _ => rfl)]
 simp only [Option.bind_some]
 have has : ∀ k, (tfind k ((keysOf r).foldl (fun s x => tupd x true s) [])).getD false = hasK r k := by
  intro k; rw [tfind_set, hasK_mem hrig]; simp [tfind]
 rw [forE_chk (f := fun _ c => chkE (fun _ m => useF r presets m) c.moves 0) hl.1 ?_]
 ·show (if usesF r presets l = 0 then some (0 : Int) else some (usesF r presets l)) = _
  split
  ·rename_i h; rw [h]
  ·rfl
 intro i c hc
 rw [forE_chk (f := fun _ m => useF r presets m) (okCue_moves (hl.2 c (List.mem_of_getElem? hc))).1 ?_]
 ·exact elim_ret _
 intro j m hm
 simp only [has, Level_t presets hp, Option.bind_some]
 unfold useF
 repeat first | exact ite_lastS | refine ite_ret (by decide) ?_
theorem CheckList5_t (r : RigD) (presets : List PresetD) (l : List CueD) (hr : okRig r) (hp : okL okPreset presets) (hl : okL okCue l) : t_R5_CheckList r presets l = some (listF r presets l) := by
 unfold t_R5_CheckList listF
 simp only [CheckPresets4_t r presets hr hp, CheckForm5_t l hl, Option.bind_some]
 by_cases h0 : presetsF r presets = 0
 case neg => simp [h0]
 by_cases h1 : formF l = 0
 case neg => simp [h0, h1]
 simp only [h0, h1, not_true_eq_false, if_false]
 rw [forE_chk (f := fun _ c => chkE (fun _ m => useF r presets m) c.moves 0) hl.1 ?_]
 ·show (if usesF r presets l = 0 then some (0 : Int) else some (usesF r presets l)) = _
  split
  ·rename_i h; rw [h]
  ·rfl
 intro i c hc
 rw [forE_chk (f := fun _ m => useF r presets m) (okCue_moves (hl.2 c (List.mem_of_getElem? hc))).1 ?_]
 ·exact elim_ret _
 intro j m hm
 simp only [tq_pos hr, Level4_t presets hp, Option.bind_some]
 unfold useF hasK
 repeat first | exact ite_lastS | refine ite_ret (by decide) ?_
/-! ### Setups -/
def listOf (l : List ListD) (n : Int) : ListD × Bool := match l.find? fun x => decide (x.number = n) with | some x => (x, true) | none => (⟨0, []⟩, false)
theorem list_t (s : SetupD) (hl : s.lists.length ≤ mxl) (n : Int) : t_play_list s n = some (listOf s.lists n) := by
 unfold t_play_list listOf
 rw [tq_pos hl, Option.bind_some]
 rcases idxI_cases (fun x : ListD => decide (x.number = n)) s.lists with ⟨h1, _, h3⟩ | ⟨k, x, h1, h2, h3, h4, _⟩
 ·rw [h1, h3]; rfl
 ·rw [h3, h4, if_neg (by omega), tIx_get (x := x) (by omega) (by simpa using h1)]; rfl
theorem ListOf6_t (l : List ListD) (hl : l.length ≤ mxl) (n : Int) : t_R6_ListOf l n = some (listOf l n) := by
 unfold t_R6_ListOf listOf
 rw [forE_find (p := fun p => decide (p.number = n)) (r := fun p => (p, true)) hl (by intro i x _; simp only [decide_eq_true_eq, ite_pure])]
 cases l.find? fun p => decide (p.number = n) <;> rfl
def listEF (s : SetupD) (i : Nat) (x : ListD) : Int :=
 if (!(withinB x.number 1 999)) = true then 1
 else if (decide (0 < (i : Int)) && decide (x.number ≤ (pv s.lists i).number)) = true then 7
 else listF s.rig s.presets x.cues
def playF (s : SetupD) (i : Nat) (p : PlaybackD) : Int :=
 if (!(withinB p.number 1 40)) = true then 1
 else if (decide (0 < (i : Int)) && decide (p.number ≤ (pv s.playbacks i).number)) = true then 7
 else if (!(listOf s.lists p.list).2) = true then 8
 else if (!(withinB p.priority 0 100)) = true then 1 else 0
def setupF (s : SetupD) : Int :=
 if ¬ (presetsF s.rig s.presets = 0) then presetsF s.rig s.presets
 else if 30 < (s.lists.length : Int) then 2
 else if ¬ (chkE (listEF s) s.lists 0 = 0) then chkE (listEF s) s.lists 0
 else if 40 < (s.playbacks.length : Int) then 2
 else chkE (playF s) s.playbacks 0
theorem CheckSetup_t (s : SetupD) (hs : okSetup s) : t_play_CheckSetup s = some (setupF s) := by
 obtain ⟨hr, hp, hl, hb⟩ := hs
 unfold t_play_CheckSetup setupF
 simp only [CheckPresets_t _ _ hr hp, Option.bind_some]
 rw [tq_pos (by show 2 ≤ mxl; unfold mxl; omega)]
 simp only [find2, Option.bind_some]
 by_cases h0 : presetsF s.rig s.presets = 0
 case neg => simp [h0]
 by_cases h1 : 30 < (s.lists.length : Int)
 ·simp [h0, h1]
 simp only [h0, h1, not_true_eq_false, if_false, decide_false, Bool.false_eq_true]
 rw [forE_chk (f := listEF s) hl.1 ?_]
 ·by_cases h2 : chkE (listEF s) s.lists 0 = 0
  case neg => simp [h2]
  simp only [h2, if_true, not_true_eq_false, if_false]
  split
  ·rfl
  rw [forE_chk (f := playF s) hb.1 ?_]
  ·split
   ·rename_i h; rw [h]
   ·rfl
  intro i p hpp
  simp only [prev_at hpp hb.1, Option.bind_some, list_t s hl.1]
  unfold playF
  repeat first | exact go_ret | refine ite_ret (by decide) ?_
 intro i x hx
 simp only [prev_at hx hl.1, Option.bind_some, CheckList_t _ _ _ hr hp (hl.2 x (List.mem_of_getElem? hx)).2]
 unfold listEF
 repeat first | exact ite_lastS | refine ite_ret (by decide) ?_
theorem CheckSetup6_t (s : SetupD) (hs : okSetup s) : t_R6_CheckSetup s = some (setupF s) := by
 obtain ⟨hr, hp, hl, hb⟩ := hs
 unfold t_R6_CheckSetup setupF
 simp only [CheckPresets4_t _ _ hr hp, Option.bind_some]
 by_cases h0 : presetsF s.rig s.presets = 0
 case neg => simp [h0]
 by_cases h1 : 30 < (s.lists.length : Int)
 ·simp [h0, h1]
 simp only [h0, h1, not_true_eq_false, if_false]
 rw [forE_chk (f := listEF s) hl.1 ?_]
 ·by_cases h2 : chkE (listEF s) s.lists 0 = 0
  case neg => simp [h2]
  simp only [h2, if_true, not_true_eq_false, if_false]
  split
  ·rfl
  rw [forE_chk (f := playF s) hb.1 ?_]
  ·split
   ·rename_i h; rw [h]
   ·rfl
  intro i p hpp
  simp only [prev_at hpp hb.1, Option.bind_some, ListOf6_t s.lists hl.1]
  unfold playF
  repeat first | exact go_ret | refine ite_ret (by decide) ?_
 intro i x hx
 simp only [prev_at hx hl.1, Option.bind_some, CheckList5_t _ _ _ hr hp (hl.2 x (List.mem_of_getElem? hx)).2]
 unfold listEF
 repeat first | exact ite_lastS | refine ite_ret (by decide) ?_
end Go.Proofs.Ytohbeolimnpehaa

/- What the functions of the package compute: written by a program from their code; that it is what the code does is shown elsewhere. -/
namespace Go.Proofs.Ytohbeolimnpehaa
set_option linter.unusedSectionVars false
set_option linter.unusedSimpArgs false
set_option linter.unusedVariables false
set_option maxRecDepth 100000
noncomputable def r_stamp_speed (a0 : AV) (σ : Heap) : Option (AV × Heap) :=
 (A.eql .i a0 (AV.int .i64 24)).bind fun x1 =>
 (A.cond x1 (
  some ([x1], σ)) (
  (A.eql .i a0 (AV.int .i64 25)).bind fun x3 =>
  (A.cond x3 (
   some ([x3], σ)) (
   (A.eql .i a0 (AV.int .i64 30)).bind fun x5 =>
   some ([x5], σ))).bind fun r4 =>
  some ([(r4.1.getD 0 AV.undef)], r4.2))).bind fun r2 =>
 A.cond (r2.1.getD 0 AV.undef) (
  A.fin σ (AV.tup [a0, (AV.int .i64 1), (AV.bool true)]) r2.2) (
  (A.eql .i a0 (AV.int .i64 29)).bind fun x6 =>
  A.cond x6 (
   A.fin σ (AV.tup [(AV.int .i64 30000), (AV.int .i64 1001), (AV.bool true)]) r2.2) (
   A.fin σ (AV.tup [(AV.int .i64 0), (AV.int .i64 0), (AV.bool false)]) r2.2))
noncomputable def m_stamp_speed : List AV → Heap → Option (AV × Heap) := A.wrap true [] .k (A.ar1 r_stamp_speed)
noncomputable def r_stamp_mode (a0 : AV) (σ : Heap) : Option (AV × Heap) :=
 (m_stamp_speed [a0] σ).bind fun r1 =>
 (A.ext 0 r1.1).bind fun x2 =>
 (A.ext 1 r1.1).bind fun x3 =>
 (A.ext 2 r1.1).bind fun x4 =>
 (A.not x4).bind fun x5 =>
 (m_word_When [x5, (AV.int .i64 16)] r1.2).bind fun r6 =>
 A.fin σ r6.1 r6.2
noncomputable def m_stamp_mode : List AV → Heap → Option (AV × Heap) := A.wrap true [] .k (A.ar1 r_stamp_mode)
noncomputable def r_stamp_day (a0 : AV) (σ : Heap) : Option (AV × Heap) :=
 (A.eql .i a0 (AV.int .i64 29)).bind fun x1 =>
 A.cond x1 (
  A.fin σ (AV.int .i64 2589408) σ) (
  (A.mul (AV.int .i64 86400) a0).bind fun x2 =>
  A.fin σ x2 σ)
noncomputable def m_stamp_day : List AV → Heap → Option (AV × Heap) := A.wrap true [] .k (A.ar1 r_stamp_day)
noncomputable def r_stamp_cuesOf (a0 a1 : AV) (σ : Heap) : Option (AV × Heap) :=
 (A.cells 5 a0).bind fun c1 =>
 (A.part1 4 c1).bind fun x2 =>
 (A.lenS x2).bind fun x3 =>
 (A.loop (fun v4 s5 =>
   (A.lss (v4.getD 2 AV.undef) x3).bind fun x6 =>
   A.cond x6 (
    (A.iaddr 3 x2 (v4.getD 2 AV.undef)).bind fun x7 =>
    ((A.deref x7 s5).bind fun c8 => A.partA 0 3 c8).bind fun x9 =>
    (A.cells 3 x9).bind fun c10 =>
    (A.splice 0 c10 [(AV.int .i64 0), (AV.int .i64 0), (AV.int .i64 0)]).bind fun c11 =>
    ((A.lb (v4.getD 0 AV.undef)).bind fun _ => some (3)).bind fun p12 =>
    ((A.lb (v4.getD 0 AV.undef)).bind fun c13 => A.part1 p12 c13).bind fun x14 =>
    (A.lenS x14).bind fun x15 =>
    (A.loop (fun v16 s17 =>
      (A.lss (v16.getD 3 AV.undef) x15).bind fun x18 =>
      A.cond x18 (
       (A.iaddr 2 x14 (v16.getD 3 AV.undef)).bind fun x19 =>
       ((A.deref x19 s17).bind fun c20 => A.partA 0 2 c20).bind fun x21 =>
       (A.cells 2 x21).bind fun c22 =>
       (A.splice 0 c22 [(AV.int .i64 0), AV.nsl]).bind fun c23 =>
       ((A.lb (v16.getD 2 AV.undef)).bind fun _ => some (0)).bind fun p24 =>
       ((A.lb (v16.getD 2 AV.undef)).bind fun c25 => A.part1 p24 c25).bind fun x26 =>
       (A.eql .i x26 a1).bind fun x27 =>
       (A.guard x27 true (A.part1 0 c23) (some (AV.tup []))).bind fun x28 =>
       ((A.lb (v16.getD 2 AV.undef)).bind fun _ => some (1)).bind fun p29 =>
              (A.guard x27 true ((A.lb (v16.getD 2 AV.undef)).bind fun c30 => A.part1 p29 c30) (some (AV.tup []))).bind fun x31 =>
       (A.guard x27 true (A.eql .i x28 x31) (some (AV.tup []))).bind fun x32 =>
       (A.pick x27 x32 (AV.bool false)).bind fun x33 =>
       A.cond x33 (
        (A.part1 1 c23).bind fun x34 =>
        some (AX.ret, [(v16.getD 0 AV.undef), x34, (v16.getD 2 AV.undef), (v16.getD 3 AV.undef)], s17)) (
        (A.add (v16.getD 3 AV.undef) (AV.int .i64 1)).bind fun x35 =>
        some (AX.normal, [(v16.getD 0 AV.undef), (v16.getD 1 AV.undef), (v16.getD 2 AV.undef), x35], s17))) (
       some (AX.exit 2, [(v16.getD 0 AV.undef), (v16.getD 1 AV.undef), (v16.getD 2 AV.undef), (v16.getD 3 AV.undef)], s17))) [(v4.getD 0 AV.undef), (v4.getD 1 AV.undef), (AV.lbx c11), (AV.int .i64 0)] s5).bind fun r36 =>
    bif r36.1 == AX.exit 2 then (
     (A.add (v4.getD 2 AV.undef) (AV.int .i64 1)).bind fun x37 =>
     some (AX.normal, [(r36.2.1.getD 0 AV.undef), (r36.2.1.getD 1 AV.undef), x37], r36.2.2)) else
    bif r36.1 == AX.ret then (
     some (AX.ret, [(r36.2.1.getD 0 AV.undef), (r36.2.1.getD 1 AV.undef), (v4.getD 2 AV.undef)], r36.2.2)) else
    none) (
    some (AX.exit 0, [(v4.getD 0 AV.undef), (v4.getD 1 AV.undef), (v4.getD 2 AV.undef)], s5))) [(AV.lbx c1), AV.nsl, (AV.int .i64 0)] σ).bind fun r38 =>
 bif r38.1 == AX.exit 0 then (
  A.fin σ AV.nsl r38.2.2) else
 bif r38.1 == AX.ret then (
  A.fin σ (r38.2.1.getD 1 AV.undef) r38.2.2) else
 none
noncomputable def m_stamp_cuesOf : List AV → Heap → Option (AV × Heap) := A.wrap true [(.a [(.s 3), (.s 4), (.s 3), (.s 2), (.s 3)])] (.e 11 [.k, .k, .k, .k, .k, .k, .k, (.s 2), .k, .k, (.s 8)]) (A.ar2 r_stamp_cuesOf)
noncomputable def r_stamp_CheckEvents_fn1 (a0 a1 : AV) (σ : Heap) : Option (AV × Heap) :=
 (A.cells 11 a0).bind fun c1 =>
 (A.part1 0 c1).bind fun x2 =>
 (A.faddr 3 a1).bind fun x3 =>
 ((A.deref x3 σ).bind fun c4 => A.part1 0 c4).bind fun x5 =>
 (A.eql .i x2 x5).bind fun x6 =>
 A.fin σ x6 σ
noncomputable def m_stamp_CheckEvents_fn1 : List AV → Heap → Option (AV × Heap) := A.wrap true [(.a [.k, .k, .k, .k, .k, .k, .k, (.s 2), .k, .k, (.s 8)])] .k (A.ar2 r_stamp_CheckEvents_fn1)
noncomputable def r_stamp_CheckEvents (a0 a1 a2 : AV) (σ : Heap) : Option (AV × Heap) :=
 (A.cells 5 a0).bind fun c1 =>
 (A.partA 0 5 c1).bind fun x2 =>
 (m_play_CheckSetup [x2] σ).bind fun r3 =>
 (m_stamp_mode [a1] r3.2).bind fun r4 =>
 (A.lenS a2).bind fun x5 =>
 (A.gtr x5 (AV.int .i64 2000)).bind fun x6 =>
 (m_word_When [x6, (AV.int .i64 2)] r4.2).bind fun r7 =>
 ((((A.cell r3.1).bind fun v => some [v]).bind fun c8 => (A.splice 0 c8 [(AV.int .i64 0), (AV.int .i64 0), (AV.int .i64 0)]).bind fun c9 => ((A.cell r4.1).bind fun v => some [v]).bind fun c10 => (A.splice 1 c10 c9).bind fun c11 => ((A.cell r7.1).bind fun v => some [v]).bind fun c12 => (A.splice 2 c12 c11).bind fun c13 => some c13).bind fun cs => some (AV.sl 1 (chunks 1 3 cs))).bind fun x14 =>
 (m_word_First [x14] r7.2).bind fun r15 =>
 (A.neq .i r15.1 (AV.int .i64 0)).bind fun x16 =>
 A.cond x16 (
  A.fin σ r15.1 r15.2) (
  (A.lenS a2).bind fun x17 =>
  (A.loop (fun v18 s19 =>
    (A.lss (v18.getD 2 AV.undef) x17).bind fun x20 =>
    A.cond x20 (
     (A.iaddr 6 a2 (v18.getD 2 AV.undef)).bind fun x21 =>
     ((A.deref x21 s19).bind fun c22 => A.partA 0 6 c22).bind fun x23 =>
     (A.cells 6 x23).bind fun c24 =>
     (A.splice 0 c24 [(AV.int .i64 0), (AV.int .i64 0), (AV.int .i64 0), (AV.int .i64 0), (AV.int .i64 0), (AV.int .i64 0)]).bind fun c25 =>
     (A.partA 1 5 c25).bind fun x26 =>
     (A.cells 5 x26).bind fun c27 =>
     (A.storeAt (AV.op s19.length 0) c27 (s19 ++ [Blk.box [(AV.int .i64 0), (AV.int .i64 0), (AV.int .i64 0), (AV.int .i64 0), (AV.int .i64 0)]])).bind fun c28 =>
     (A.part1 0 c25).bind fun x29 =>
     (A.quiet (m_stamp_day [a1] c28) c28).bind fun x30 =>
     (A.sub x30 (AV.int .i64 1)).bind fun x31 =>
     (A.quiet (m_word_Within [x29, (AV.int .i64 0), x31] c28) c28).bind fun x32 =>
     (A.not x32).bind fun x33 =>
     (A.quiet (m_word_When [x33, (AV.int .i64 1)] c28) c28).bind fun x34 =>
     (A.gtr (v18.getD 2 AV.undef) (AV.int .i64 0)).bind fun x35 =>
     (A.guard x35 true (A.part1 0 c25) (some (AV.tup []))).bind fun x36 =>
     (A.guard x35 true (some a2) (some (AV.tup []))).bind fun x37 =>
     (A.guard x35 true (some (v18.getD 2 AV.undef)) (some (AV.tup []))).bind fun x38 =>
     (A.guard x35 true (A.sub x38 (AV.int .i64 1)) (some (AV.tup []))).bind fun x39 =>
     (A.guard x35 true (A.iaddr 6 x37 x39) (some (AV.tup []))).bind fun x40 =>
     (A.guard x35 true (A.faddr 0 x40) (some (AV.tup []))).bind fun x41 =>
     (A.guard x35 true ((A.deref x41 c28).bind fun c42 => A.part1 0 c42) (some (AV.tup []))).bind fun x43 =>
     (A.guard x35 true (A.lss x36 x43) (some (AV.tup []))).bind fun x44 =>
     (A.pick x35 x44 (AV.bool false)).bind fun x45 =>
     (A.quiet (m_word_When [x45, (AV.int .i64 7)] c28) c28).bind fun x46 =>
     ((((A.cell x34).bind fun v => some [v]).bind fun c47 => (A.splice 0 c47 [(AV.int .i64 0), (AV.int .i64 0)]).bind fun c48 => ((A.cell x46).bind fun v => some [v]).bind fun c49 => (A.splice 1 c49 c48).bind fun c50 => some c50).bind fun cs => some (AV.sl 1 (chunks 1 2 cs))).bind fun x51 =>
     (A.quiet (m_word_First [x51] c28) c28).bind fun x52 =>
     ((A.deref (AV.op s19.length 0) c28).bind fun c53 => A.partA 0 5 c53).bind fun x54 =>
     (A.quiet (m_play_CheckFields [x54] c28) c28).bind fun x55 =>
     (A.faddr 0 (AV.op s19.length 0)).bind fun x56 =>
     ((A.deref x56 c28).bind fun c57 => A.part1 0 c57).bind fun x58 =>
     (A.neq .i x58 (AV.int .i64 0)).bind fun x59 =>
     (A.quiet (m_word_When [x59, (AV.int .i64 3)] c28) c28).bind fun x60 =>
     ((A.lb (v18.getD 0 AV.undef)).bind fun c61 => A.partA 0 5 c61).bind fun x62 =>
     ((A.deref (AV.op s19.length 0) c28).bind fun c63 => A.partA 0 5 c63).bind fun x64 =>
     (A.quiet (m_play_CheckRanges [x62, x64] c28) c28).bind fun x65 =>
     ((((A.cell x52).bind fun v => some [v]).bind fun c66 => (A.splice 0 c66 [(AV.int .i64 0), (AV.int .i64 0), (AV.int .i64 0), (AV.int .i64 0)]).bind fun c67 => ((A.cell x55).bind fun v => some [v]).bind fun c68 => (A.splice 1 c68 c67).bind fun c69 => ((A.cell x60).bind fun v => some [v]).bind fun c70 => (A.splice 2 c70 c69).bind fun c71 => ((A.cell x65).bind fun v => some [v]).bind fun c72 => (A.splice 3 c72 c71).bind fun c73 => some c73).bind fun cs => some (AV.sl 1 (chunks 1 4 cs))).bind fun x74 =>
     (A.quiet (m_word_First [x74] c28) c28).bind fun x75 =>
     (A.neq .i x75 (AV.int .i64 0)).bind fun x76 =>
     A.cond x76 (
      some (AX.ret, [(v18.getD 0 AV.undef), x75, (v18.getD 2 AV.undef)], c28)) (
      (A.faddr 1 (AV.op s19.length 0)).bind fun x77 =>
      ((A.deref x77 c28).bind fun c78 => A.part1 0 c78).bind fun x79 =>
      (A.eql .i x79 (AV.int .i64 3)).bind fun x80 =>
      (A.guard x80 true ((A.lb (v18.getD 0 AV.undef)).bind fun c81 => A.partA 0 5 c81) (some (AV.tup []))).bind fun x82 =>
      (A.guard x80 true (A.faddr 2 (AV.op s19.length 0)) (some (AV.tup []))).bind fun x83 =>
      (A.guard x80 true ((A.deref x83 c28).bind fun c84 => A.part1 0 c84) (some (AV.tup []))).bind fun x85 =>
      (A.guard x80 true (A.quiet (m_stamp_cuesOf [x82, x85] c28) c28) (some (AV.tup []))).bind fun x86 =>
      (A.guard x80 true (some (AV.fn 157 [(AV.op s19.length 0)])) (some (AV.tup []))).bind fun x87 =>
      (A.guard x80 true (A.quiet (m_slices_ContainsFunc_api_Cue (A.tab (fun _ _ => none) [(157, m_stamp_CheckEvents_fn1), (157, m_stamp_CheckEvents_fn1)]) [x86, x87] c28) c28) (some (AV.tup []))).bind fun x88 =>
      (A.guard x80 true (A.not x88) (some (AV.tup []))).bind fun x89 =>
      (A.pick x80 x89 (AV.bool false)).bind fun x90 =>
      A.cond x90 (
       some (AX.ret, [(v18.getD 0 AV.undef), (AV.int .i64 8), (v18.getD 2 AV.undef)], c28)) (
       (A.add (v18.getD 2 AV.undef) (AV.int .i64 1)).bind fun x91 =>
       some (AX.normal, [(v18.getD 0 AV.undef), (v18.getD 1 AV.undef), x91], c28)))) (
     some (AX.exit 0, [(v18.getD 0 AV.undef), (v18.getD 1 AV.undef), (v18.getD 2 AV.undef)], s19))) [(AV.lbx c1), (AV.int .i64 0), (AV.int .i64 0)] r15.2).bind fun r92 =>
  bif r92.1 == AX.exit 0 then (
   A.fin σ (AV.int .i64 0) r92.2.2) else
  bif r92.1 == AX.ret then (
   A.fin σ (r92.2.1.getD 1 AV.undef) r92.2.2) else
  none)
noncomputable def m_stamp_CheckEvents : List AV → Heap → Option (AV × Heap) := A.wrap true [(.a [(.s 3), (.s 4), (.s 3), (.s 2), (.s 3)]), .k, (.s 6)] .k (A.ar3 r_stamp_CheckEvents)
noncomputable def r_stamp_due (a0 a1 a2 a3 a4 : AV) (σ : Heap) : Option (AV × Heap) :=
 (A.cells 5 a0).bind fun c1 =>
 (A.partA 0 5 c1).bind fun x2 =>
 (m_stamp_CheckEvents [x2, a1, a2] σ).bind fun r3 =>
 (A.leq (AV.int .i64 0) a3).bind fun x4 =>
 (A.guard x4 true (some a3) (some (AV.tup []))).bind fun x5 =>
 (A.guard x4 true (some a4) (some (AV.tup []))).bind fun x6 =>
 (A.guard x4 true (A.leq x5 x6) (some (AV.tup []))).bind fun x7 =>
 (A.pick x4 x7 (AV.bool false)).bind fun x8 =>
 (A.guard x8 true (some a4) (some (AV.tup []))).bind fun x9 =>
 (A.guard x8 true (some a1) (some (AV.tup []))).bind fun x10 =>
 (A.guard x8 true (A.quiet (m_stamp_day [x10] r3.2) r3.2) (some (AV.tup []))).bind fun x11 =>
 (A.guard x8 true (A.leq x9 x11) (some (AV.tup []))).bind fun x12 =>
 (A.pick x8 x12 (AV.bool false)).bind fun x13 =>
 (A.not x13).bind fun x14 =>
 (m_word_When [x14, (AV.int .i64 1)] r3.2).bind fun r15 =>
 ((((A.cell r3.1).bind fun v => some [v]).bind fun c16 => (A.splice 0 c16 [(AV.int .i64 0), (AV.int .i64 0)]).bind fun c17 => ((A.cell r15.1).bind fun v => some [v]).bind fun c18 => (A.splice 1 c18 c17).bind fun c19 => some c19).bind fun cs => some (AV.sl 1 (chunks 1 2 cs))).bind fun x20 =>
 (m_word_First [x20] r15.2).bind fun r21 =>
 (A.neq .i r21.1 (AV.int .i64 0)).bind fun x22 =>
 A.cond x22 (
  A.fin σ (AV.tup [AV.nsl, r21.1]) r21.2) (
  (A.lenS a2).bind fun x23 =>
  (A.loop (fun v24 s25 =>
    (A.lss (v24.getD 1 AV.undef) x23).bind fun x26 =>
    A.cond x26 (
     (A.iaddr 6 a2 (v24.getD 1 AV.undef)).bind fun x27 =>
     ((A.deref x27 s25).bind fun c28 => A.partA 0 6 c28).bind fun x29 =>
     (A.cells 6 x29).bind fun c30 =>
     (A.splice 0 c30 [(AV.int .i64 0), (AV.int .i64 0), (AV.int .i64 0), (AV.int .i64 0), (AV.int .i64 0), (AV.int .i64 0)]).bind fun c31 =>
     (A.part1 0 c31).bind fun x32 =>
     (A.leq a3 x32).bind fun x33 =>
     (A.guard x33 true (A.part1 0 c31) (some (AV.tup []))).bind fun x34 =>
     (A.guard x33 true (some a4) (some (AV.tup []))).bind fun x35 =>
     (A.guard x33 true (A.lss x34 x35) (some (AV.tup []))).bind fun x36 =>
     (A.pick x33 x36 (AV.bool false)).bind fun x37 =>
     (A.cond x37 (
      (A.partA 0 6 c31).bind fun x39 =>
      (((A.cells 6 x39).bind fun c40 => (A.splice 0 c40 [(AV.int .i64 0), (AV.int .i64 0), (AV.int .i64 0), (AV.int .i64 0), (AV.int .i64 0), (AV.int .i64 0)]).bind fun c41 => some c41).bind fun cs => some (AV.sl 6 (chunks 6 1 cs))).bind fun x42 =>
      (A.append 6 (140737488355328 / 48) (v24.getD 0 AV.undef) x42 s25).bind fun r43 =>
      some ([r43.1], r43.2)) (
      some ([(v24.getD 0 AV.undef)], s25))).bind fun r38 =>
     (A.add (v24.getD 1 AV.undef) (AV.int .i64 1)).bind fun x44 =>
     some (AX.normal, [(r38.1.getD 0 AV.undef), x44], r38.2)) (
     some (AX.exit 0, [(v24.getD 0 AV.undef), (v24.getD 1 AV.undef)], s25))) [AV.nsl, (AV.int .i64 0)] r21.2).bind fun r45 =>
  bif r45.1 == AX.exit 0 then (
   A.fin σ (AV.tup [(r45.2.1.getD 0 AV.undef), (AV.int .i64 0)]) r45.2.2) else
  none)
noncomputable def m_stamp_due : List AV → Heap → Option (AV × Heap) := A.wrap true [(.a [(.s 3), (.s 4), (.s 3), (.s 2), (.s 3)]), .k, (.s 6)] (.t [(.s 6), .k]) (A.ar5 r_stamp_due)
noncomputable def r_stamp_Due (a0 a1 a2 a3 a4 : AV) (σ : Heap) : Option (AV × Heap) :=
 (A.cells 5 a0).bind fun c1 =>
 (A.partA 0 5 c1).bind fun x2 =>
 (m_stamp_due [x2, a1, a2, a3, a4] σ).bind fun r3 =>
 (A.ext 0 r3.1).bind fun x4 =>
 (A.ext 1 r3.1).bind fun x5 =>
 A.fin σ (AV.tup [x4, x5]) r3.2
noncomputable def m_stamp_Due : List AV → Heap → Option (AV × Heap) := A.wrap true [(.a [(.s 3), (.s 4), (.s 3), (.s 2), (.s 3)]), .k, (.s 6)] (.t [(.s 6), .k]) (A.ar5 r_stamp_Due)
end Go.Proofs.Ytohbeolimnpehaa

/- What the functions of the package compute: written by a program from their code; that it is what the code does is shown elsewhere. -/
namespace Go.Proofs.Ytohbeolimnpehaa
set_option linter.unusedSectionVars false
set_option linter.unusedSimpArgs false
set_option linter.unusedVariables false
set_option maxRecDepth 100000
noncomputable def r_R8_counted (a0 : AV) (σ : Heap) : Option (AV × Heap) :=
 (A.eql .i a0 (AV.int .i64 24)).bind fun x1 =>
 (A.cond x1 (
  some ([x1], σ)) (
  (A.eql .i a0 (AV.int .i64 25)).bind fun x3 =>
  (A.cond x3 (
   some ([x3], σ)) (
   (A.eql .i a0 (AV.int .i64 30)).bind fun x5 =>
   some ([x5], σ))).bind fun r4 =>
  some ([(r4.1.getD 0 AV.undef)], r4.2))).bind fun r2 =>
 A.cond (r2.1.getD 0 AV.undef) (
  A.fin σ a0 r2.2) (
  (A.eql .i a0 (AV.int .i64 29)).bind fun x6 =>
  A.cond x6 (
   A.fin σ (AV.int .i64 30) r2.2) (
   A.fin σ (AV.int .i64 0) r2.2))
noncomputable def m_R8_counted : List AV → Heap → Option (AV × Heap) := A.wrap true [] .k (A.ar1 r_R8_counted)
noncomputable def r_R8_minute (a0 a1 : AV) (σ : Heap) : Option (AV × Heap) :=
 (m_R8_counted [a0] σ).bind fun r1 =>
 (A.mul (AV.int .i64 60) r1.1).bind fun x2 =>
 (A.eql .i a0 (AV.int .i64 29)).bind fun x3 =>
 (A.guard x3 true (some a1) (some (AV.tup []))).bind fun x4 =>
 (A.guard x3 true (A.rem x4 (AV.int .i64 10)) (some (AV.tup []))).bind fun x5 =>
 (A.guard x3 true (A.neq .i x5 (AV.int .i64 0)) (some (AV.tup []))).bind fun x6 =>
 (A.pick x3 x6 (AV.bool false)).bind fun x7 =>
 (A.cond x7 (
  (A.sub x2 (AV.int .i64 2)).bind fun x9 =>
  some ([x9], r1.2)) (
  some ([x2], r1.2))).bind fun r8 =>
 A.fin σ (r8.1.getD 0 AV.undef) r8.2
noncomputable def m_R8_minute : List AV → Heap → Option (AV × Heap) := A.wrap true [] .k (A.ar2 r_R8_minute)
noncomputable def r_R8_day (a0 : AV) (σ : Heap) : Option (AV × Heap) :=
 (A.loop (fun v1 s2 =>
   (A.lss (v1.getD 1 AV.undef) (AV.int .i64 1440)).bind fun x3 =>
   A.cond x3 (
    (m_R8_minute [a0, (v1.getD 1 AV.undef)] s2).bind fun r4 =>
    (A.add (v1.getD 0 AV.undef) r4.1).bind fun x5 =>
    (A.add (v1.getD 1 AV.undef) (AV.int .i64 1)).bind fun x6 =>
    some (AX.normal, [x5, x6], r4.2)) (
    some (AX.exit 0, [(v1.getD 0 AV.undef), (v1.getD 1 AV.undef)], s2))) [(AV.int .i64 0), (AV.int .i64 0)] σ).bind fun r7 =>
 bif r7.1 == AX.exit 0 then (
  A.fin σ (r7.2.1.getD 0 AV.undef) r7.2.2) else
 none
noncomputable def m_R8_day : List AV → Heap → Option (AV × Heap) := A.wrap true [] .k (A.ar1 r_R8_day)
noncomputable def r_R8_playbackOf (a0 a1 : AV) (σ : Heap) : Option (AV × Heap) :=
 (A.cells 5 a0).bind fun c1 =>
 (A.part1 4 c1).bind fun x2 =>
 (A.lenS x2).bind fun x3 =>
 (A.loop (fun v4 s5 =>
   (A.lss (v4.getD 2 AV.undef) x3).bind fun x6 =>
   A.cond x6 (
    (A.iaddr 3 x2 (v4.getD 2 AV.undef)).bind fun x7 =>
    ((A.deref x7 s5).bind fun c8 => A.partA 0 3 c8).bind fun x9 =>
    (A.cells 3 x9).bind fun c10 =>
    (A.splice 0 c10 [(AV.int .i64 0), (AV.int .i64 0), (AV.int .i64 0)]).bind fun c11 =>
    (A.part1 0 c11).bind fun x12 =>
    (A.eql .i x12 a1).bind fun x13 =>
    A.cond x13 (
     (A.partA 0 3 c11).bind fun x14 =>
     (A.lb (v4.getD 0 AV.undef)).bind fun c17 =>
     (A.cells 3 x14).bind fun c15 =>
     (A.splice 0 c15 c17).bind fun c16 =>
     some (AX.ret, [(AV.lbx c16), (AV.bool true), (v4.getD 2 AV.undef)], s5)) (
     (A.add (v4.getD 2 AV.undef) (AV.int .i64 1)).bind fun x18 =>
     some (AX.normal, [(v4.getD 0 AV.undef), (v4.getD 1 AV.undef), x18], s5))) (
    some (AX.exit 0, [(v4.getD 0 AV.undef), (v4.getD 1 AV.undef), (v4.getD 2 AV.undef)], s5))) [(AV.lbx [(AV.int .i64 0), (AV.int .i64 0), (AV.int .i64 0)]), (AV.bool false), (AV.int .i64 0)] σ).bind fun r19 =>
 bif r19.1 == AX.exit 0 then (
  (A.lb (r19.2.1.getD 0 AV.undef)).bind fun c22 =>
  (A.cells 3 (AV.agg [(AV.int .i64 0), (AV.int .i64 0), (AV.int .i64 0)])).bind fun c20 =>
  (A.splice 0 c20 c22).bind fun c21 =>
  (A.partA 0 3 c21).bind fun x23 =>
  A.fin σ (AV.tup [x23, (AV.bool false)]) r19.2.2) else
 bif r19.1 == AX.ret then (
  ((A.lb (r19.2.1.getD 0 AV.undef)).bind fun c25 => A.partA 0 3 c25).bind fun x24 =>
  A.fin σ (AV.tup [x24, (r19.2.1.getD 1 AV.undef)]) r19.2.2) else
 none
noncomputable def m_R8_playbackOf : List AV → Heap → Option (AV × Heap) := A.wrap true [(.a [(.s 3), (.s 4), (.s 3), (.s 2), (.s 3)])] .k (A.ar2 r_R8_playbackOf)
noncomputable def r_R8_checkAction (a0 a1 : AV) (σ : Heap) : Option (AV × Heap) :=
 (A.cells 5 a0).bind fun c1 =>
 (A.cells 5 a1).bind fun c2 =>
 (A.partA 0 5 c2).bind fun x3 =>
 (m_R6_ActionForm [x3] σ).bind fun r4 =>
 (A.eql .i r4.1 (AV.int .i64 4)).bind fun x5 =>
 A.cond x5 (
  A.fin σ r4.1 r4.2) (
  (A.partA 0 5 c2).bind fun x6 =>
  (m_R6_ActionForm [x6] r4.2).bind fun r7 =>
  (A.neq .i r7.1 (AV.int .i64 0)).bind fun x8 =>
  (A.guard x8 false (A.part1 0 c2) (some (AV.tup []))).bind fun x9 =>
  (A.guard x8 false (A.neq .i x9 (AV.int .i64 0)) (some (AV.tup []))).bind fun x10 =>
  (A.pick x8 (AV.bool true) x10).bind fun x11 =>
  A.cond x11 (
   A.fin σ (AV.int .i64 3) r7.2) (
   (A.partA 0 5 c1).bind fun x12 =>
   (A.part1 2 c2).bind fun x13 =>
   (m_R8_playbackOf [x12, x13] r7.2).bind fun r14 =>
   (A.ext 0 r14.1).bind fun x15 =>
   (A.ext 1 r14.1).bind fun x16 =>
   (A.cells 3 x15).bind fun c17 =>
   (A.splice 0 c17 [(AV.int .i64 0), (AV.int .i64 0), (AV.int .i64 0)]).bind fun c18 =>
   (A.part1 1 c2).bind fun x19 =>
   (A.lss x19 (AV.int .i64 8)).bind fun x20 =>
   (A.guard x20 true (some x16) (some (AV.tup []))).bind fun x21 =>
   (A.guard x20 true (A.not x21) (some (AV.tup []))).bind fun x22 =>
   (A.pick x20 x22 (AV.bool false)).bind fun x23 =>
   A.cond x23 (
    A.fin σ (AV.int .i64 8) r14.2) (
    (A.partA 0 5 c2).bind fun x24 =>
    (m_R6_LevelForm [x24] r14.2).bind fun r25 =>
    (A.neq .i r25.1 (AV.int .i64 0)).bind fun x26 =>
    A.cond x26 (
     A.fin σ r25.1 r25.2) (
     (A.part1 1 c2).bind fun x27 =>
     (A.eql .i x27 (AV.int .i64 3)).bind fun x28 =>
     A.cond x28 (
      (A.part1 3 c1).bind fun x29 =>
      (A.part1 1 c18).bind fun x30 =>
      (m_R6_ListOf [x29, x30] r25.2).bind fun r31 =>
      (A.ext 0 r31.1).bind fun x32 =>
      (A.ext 1 r31.1).bind fun x33 =>
      (A.cells 2 x32).bind fun c34 =>
      (A.splice 0 c34 [(AV.int .i64 0), AV.nsl]).bind fun c35 =>
      (A.part1 1 c35).bind fun x36 =>
      (A.part1 3 c2).bind fun x37 =>
      (m_R5_At [x36, x37] r31.2).bind fun r38 =>
      (A.lss r38.1 (AV.int .i64 0)).bind fun x39 =>
      A.cond x39 (
       A.fin σ (AV.int .i64 8) r38.2) (
       A.fin σ (AV.int .i64 0) r38.2)) (
      A.fin σ (AV.int .i64 0) r25.2)))))
noncomputable def m_R8_checkAction : List AV → Heap → Option (AV × Heap) := A.wrap true [(.a [(.s 3), (.s 4), (.s 3), (.s 2), (.s 3)])] .k (A.ar2 r_R8_checkAction)
noncomputable def r_R8_CheckEvents (a0 a1 a2 : AV) (σ : Heap) : Option (AV × Heap) :=
 (A.cells 5 a0).bind fun c1 =>
 (A.partA 0 5 c1).bind fun x2 =>
 (m_R6_CheckSetup [x2] σ).bind fun r3 =>
 (A.neq .i r3.1 (AV.int .i64 0)).bind fun x4 =>
 A.cond x4 (
  A.fin σ r3.1 r3.2) (
  (m_R8_counted [a1] r3.2).bind fun r5 =>
  (A.eql .i r5.1 (AV.int .i64 0)).bind fun x6 =>
  A.cond x6 (
   A.fin σ (AV.int .i64 16) r5.2) (
   (A.lenS a2).bind fun x7 =>
   (A.gtr x7 (AV.int .i64 2000)).bind fun x8 =>
   A.cond x8 (
    A.fin σ (AV.int .i64 2) r5.2) (
    (A.lenS a2).bind fun x9 =>
    (A.loop (fun v10 s11 =>
      (A.lss (v10.getD 2 AV.undef) x9).bind fun x12 =>
      A.cond x12 (
       (A.iaddr 6 a2 (v10.getD 2 AV.undef)).bind fun x13 =>
       ((A.deref x13 s11).bind fun c14 => A.partA 0 6 c14).bind fun x15 =>
       (A.cells 6 x15).bind fun c16 =>
       (A.splice 0 c16 [(AV.int .i64 0), (AV.int .i64 0), (AV.int .i64 0), (AV.int .i64 0), (AV.int .i64 0), (AV.int .i64 0)]).bind fun c17 =>
       (A.part1 0 c17).bind fun x18 =>
       (A.quiet (m_R8_day [a1] s11) s11).bind fun x19 =>
       (A.sub x19 (AV.int .i64 1)).bind fun x20 =>
       (A.quiet (m_R1_Within [x18, (AV.int .i64 0), x20] s11) s11).bind fun x21 =>
       (A.not x21).bind fun x22 =>
       A.cond x22 (
        some (AX.ret, [(v10.getD 0 AV.undef), (AV.int .i64 1), (v10.getD 2 AV.undef)], s11)) (
        (A.gtr (v10.getD 2 AV.undef) (AV.int .i64 0)).bind fun x23 =>
        (A.guard x23 true (A.part1 0 c17) (some (AV.tup []))).bind fun x24 =>
        (A.guard x23 true (some a2) (some (AV.tup []))).bind fun x25 =>
        (A.guard x23 true (some (v10.getD 2 AV.undef)) (some (AV.tup []))).bind fun x26 =>
        (A.guard x23 true (A.sub x26 (AV.int .i64 1)) (some (AV.tup []))).bind fun x27 =>
        (A.guard x23 true (A.iaddr 6 x25 x27) (some (AV.tup []))).bind fun x28 =>
        (A.guard x23 true (A.faddr 0 x28) (some (AV.tup []))).bind fun x29 =>
        (A.guard x23 true ((A.deref x29 s11).bind fun c30 => A.part1 0 c30) (some (AV.tup []))).bind fun x31 =>
        (A.guard x23 true (A.lss x24 x31) (some (AV.tup []))).bind fun x32 =>
        (A.pick x23 x32 (AV.bool false)).bind fun x33 =>
        A.cond x33 (
         some (AX.ret, [(v10.getD 0 AV.undef), (AV.int .i64 7), (v10.getD 2 AV.undef)], s11)) (
         ((A.lb (v10.getD 0 AV.undef)).bind fun c34 => A.partA 0 5 c34).bind fun x35 =>
         (A.partA 1 5 c17).bind fun x36 =>
         (m_R8_checkAction [x35, x36] s11).bind fun r37 =>
         (A.neq .i r37.1 (AV.int .i64 0)).bind fun x38 =>
         A.cond x38 (
          some (AX.ret, [(v10.getD 0 AV.undef), r37.1, (v10.getD 2 AV.undef)], r37.2)) (
          (A.add (v10.getD 2 AV.undef) (AV.int .i64 1)).bind fun x39 =>
          some (AX.normal, [(v10.getD 0 AV.undef), (v10.getD 1 AV.undef), x39], r37.2))))) (
       some (AX.exit 1, [(v10.getD 0 AV.undef), (v10.getD 1 AV.undef), (v10.getD 2 AV.undef)], s11))) [(AV.lbx c1), (AV.int .i64 0), (AV.int .i64 0)] r5.2).bind fun r40 =>
    bif r40.1 == AX.exit 1 then (
     A.fin σ (AV.int .i64 0) r40.2.2) else
    bif r40.1 == AX.ret then (
     A.fin σ (r40.2.1.getD 1 AV.undef) r40.2.2) else
    none)))
noncomputable def m_R8_CheckEvents : List AV → Heap → Option (AV × Heap) := A.wrap true [(.a [(.s 3), (.s 4), (.s 3), (.s 2), (.s 3)]), .k, (.s 6)] .k (A.ar3 r_R8_CheckEvents)
noncomputable def r_R8_Due (a0 a1 a2 a3 a4 : AV) (σ : Heap) : Option (AV × Heap) :=
 (A.cells 5 a0).bind fun c1 =>
 (A.partA 0 5 c1).bind fun x2 =>
 (m_R8_CheckEvents [x2, a1, a2] σ).bind fun r3 =>
 (A.neq .i r3.1 (AV.int .i64 0)).bind fun x4 =>
 A.cond x4 (
  A.fin σ (AV.tup [AV.nsl, r3.1]) r3.2) (
  (A.lss a3 (AV.int .i64 0)).bind fun x5 =>
  (A.guard x5 false (some a3) (some (AV.tup []))).bind fun x6 =>
  (A.guard x5 false (some a4) (some (AV.tup []))).bind fun x7 =>
  (A.guard x5 false (A.gtr x6 x7) (some (AV.tup []))).bind fun x8 =>
  (A.pick x5 (AV.bool true) x8).bind fun x9 =>
  (A.guard x9 false (some a4) (some (AV.tup []))).bind fun x10 =>
  (A.guard x9 false (some a1) (some (AV.tup []))).bind fun x11 =>
  (A.guard x9 false (A.quiet (m_R8_day [x11] r3.2) r3.2) (some (AV.tup []))).bind fun x12 =>
  (A.guard x9 false (A.gtr x10 x12) (some (AV.tup []))).bind fun x13 =>
  (A.pick x9 (AV.bool true) x13).bind fun x14 =>
  A.cond x14 (
   A.fin σ (AV.tup [AV.nsl, (AV.int .i64 1)]) r3.2) (
   (A.lenS a2).bind fun x15 =>
   (A.loop (fun v16 s17 =>
     (A.lss (v16.getD 1 AV.undef) x15).bind fun x18 =>
     A.cond x18 (
      (A.iaddr 6 a2 (v16.getD 1 AV.undef)).bind fun x19 =>
      ((A.deref x19 s17).bind fun c20 => A.partA 0 6 c20).bind fun x21 =>
      (A.cells 6 x21).bind fun c22 =>
      (A.splice 0 c22 [(AV.int .i64 0), (AV.int .i64 0), (AV.int .i64 0), (AV.int .i64 0), (AV.int .i64 0), (AV.int .i64 0)]).bind fun c23 =>
      (A.part1 0 c23).bind fun x24 =>
      (A.geq x24 a3).bind fun x25 =>
      (A.guard x25 true (A.part1 0 c23) (some (AV.tup []))).bind fun x26 =>
      (A.guard x25 true (some a4) (some (AV.tup []))).bind fun x27 =>
      (A.guard x25 true (A.lss x26 x27) (some (AV.tup []))).bind fun x28 =>
      (A.pick x25 x28 (AV.bool false)).bind fun x29 =>
      (A.cond x29 (
       (A.partA 0 6 c23).bind fun x31 =>
       (((A.cells 6 x31).bind fun c32 => (A.splice 0 c32 [(AV.int .i64 0), (AV.int .i64 0), (AV.int .i64 0), (AV.int .i64 0), (AV.int .i64 0), (AV.int .i64 0)]).bind fun c33 => some c33).bind fun cs => some (AV.sl 6 (chunks 6 1 cs))).bind fun x34 =>
       (A.append 6 (140737488355328 / 48) (v16.getD 0 AV.undef) x34 s17).bind fun r35 =>
       some ([r35.1], r35.2)) (
       some ([(v16.getD 0 AV.undef)], s17))).bind fun r30 =>
      (A.add (v16.getD 1 AV.undef) (AV.int .i64 1)).bind fun x36 =>
      some (AX.normal, [(r30.1.getD 0 AV.undef), x36], r30.2)) (
      some (AX.exit 0, [(v16.getD 0 AV.undef), (v16.getD 1 AV.undef)], s17))) [AV.nsl, (AV.int .i64 0)] r3.2).bind fun r37 =>
   bif r37.1 == AX.exit 0 then (
    A.fin σ (AV.tup [(r37.2.1.getD 0 AV.undef), (AV.int .i64 0)]) r37.2.2) else
   none))
noncomputable def m_R8_Due : List AV → Heap → Option (AV × Heap) := A.wrap true [(.a [(.s 3), (.s 4), (.s 3), (.s 2), (.s 3)]), .k, (.s 6)] (.t [(.s 6), .k]) (A.ar5 r_R8_Due)
end Go.Proofs.Ytohbeolimnpehaa

