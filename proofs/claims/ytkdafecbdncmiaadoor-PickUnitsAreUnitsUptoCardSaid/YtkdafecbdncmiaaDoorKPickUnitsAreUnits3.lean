/- Parts of the proof of PickUnitsAreUnits, in order. -/
import Derived.Orders
import Derived.Below
import Derived.WalkKit
import Derived.Test.YtkdafecbdncmiaaDoorRows
import Derived.Lib.LaidTab
import Derived.Lib.ItoaNum
import Derived.KernelRfl
import Derived.Laws.StructEq
import Derived.Laws.Append
import Derived.Laws.AppendOwn
import Derived.Lib.Bytealg
import Derived.Sort.Defs
import Derived.Lib.BitFns
import Derived.Lib.Strings
import Derived.Test.YtkdafecbdncmiaaDoorShelf
import Derived.Test.YtkdafecbdncmiaaDoorKPickUnitsAreUnits2
namespace Go.Proofs.YtkdafecbdncmiaaDoor
set_option linter.unusedSectionVars false
open Go.RowKit
set_option linter.unusedVariables false
set_option linter.unusedSimpArgs false
section
variable {X : Fx} {z : Z} {s : AS} {a : Act} {w w' : World} {E : List Pl} {pb : Nat → Option Nat}
def resM (tmps : Array Value) : ResultVar → Sem Value
 | .tmp t => pure (tmps.getD t undef)
 | .cell a t => do loadVar t (← asAddr (tmps.getD a undef))
theorem resA_run (h : St X z s a w E pb) {R : Type} : ∀ (rs : List ResultVar) (k : List AV → Option R) (r : R), resA X s rs k = some r → ∃ vs avs, (rs.mapM (resM a.tmps)).run X.P w = .ok vs w ∧ RepL (ctx z w E pb) avs vs ∧ k avs = some r
 | [], k, r, hk => ⟨[], [], by simp, by simp [RepL], hk⟩
 | .tmp t :: rs, k, r, hk => by
  simp only [resA] at hk
  obtain ⟨vs, avs, h1, h2, h3⟩ := resA_run h rs _ r hk
  refine ⟨a.tmps.getD t undef :: vs, ev X s (.tmp t) :: avs, ?_, by simp only [RepL]; exact ⟨_, _, rfl, ev_rep h (.tmp t), h2⟩, h3⟩
  simp only [List.mapM_cons, Sem.run_bind, resM, Sem.run_pure, Result.andThen_ok, h1]
 | .cell q t :: rs, k, r, hk => by
  simp only [resA] at hk
  have fin : ∀ (v : Value) (av : AV), (resM a.tmps (.cell q t)).run X.P w = .ok v w → Rep (ctx z w E pb) av v → resA X s rs (fun vs => k (av :: vs)) = some r → ∃ vs avs, ((ResultVar.cell q t :: rs).mapM (resM a.tmps)).run X.P w = .ok vs w ∧ RepL (ctx z w E pb) avs vs ∧ k avs = some r := by
   intro v av hv hr hk
   obtain ⟨vs, avs, h1, h2, h3⟩ := resA_run h rs _ r hk
   refine ⟨v :: vs, av :: avs, ?_, by simp only [RepL]; exact ⟨_, _, rfl, hr, h2⟩, h3⟩
   simp only [List.mapM_cons, Sem.run_bind, hv, Sem.run_pure, Result.andThen_ok, h1]
  split at hk
  ·rename_i b off hp
   obtain ⟨av, e1, e2⟩ := Option.bind_eq_some_iff.1 hk
   obtain ⟨cs, e3, e4⟩ := Option.bind_eq_some_iff.1 e1
   obtain ⟨n, k1, k2, k3, k4⟩ := place_rep h (tag := none) trivial hp e3
   obtain ⟨v, j1, j2⟩ := partT_load (c := ctx z w E pb) w X rfl k3.2 e4
   rw [Nat.zero_add] at j1
   simp only [Act.eval] at k2
   exact fin v av (by simp [resM, k2, asAddr, j1]) j2 e2
  ·obtain ⟨av, e1, e2⟩ := Option.bind_eq_some_iff.1 hk
   obtain ⟨cs, e3, e4⟩ := Option.bind_eq_some_iff.1 e1
   obtain ⟨b, off, k2, k3⟩ := deref_rep h.heap e3 (ev_rep h (.tmp q))
   obtain ⟨v, j1, j2⟩ := partT_load (c := ctx z w E pb) w X rfl k3 e4
   rw [Nat.add_zero] at j1
   simp only [Act.eval] at k2
   exact fin v av (by simp [resM, k2, asAddr, j1]) j2 e2
theorem results_run {P : Program} {fn : Func} {tmps : Array Value} {vs : List Value} (h : (fn.results.toList.mapM (resM tmps)).run P w = .ok vs w) : ∃ v, (results fn tmps).run P w = .ok v w ∧ ∀ (c : RC) (avs : List AV), RepL c avs vs → Rep c (one avs) v := by
 have e : results fn tmps = (do let vs ← fn.results.mapM (resM tmps); pure (if h : vs.size = 1 then vs[0] else .tuple vs)) := by
  unfold results
  congr 1
 have hm : (fn.results.mapM (resM tmps)).run P w = .ok vs.toArray w := by
  rw [Array.mapM_eq_mapM_toList, Sem.run_map, h]; rfl
 have hrun : (results fn tmps).run P w = .ok (if h : vs.toArray.size = 1 then vs.toArray[0] else .tuple vs.toArray) w := by
  rw [e, Sem.run_bind, hm]; rfl
 refine ⟨_, hrun, fun c avs r => ?_⟩
 match avs, vs, r with
 | [x], [v], r => simp only [RepL] at r; obtain ⟨v', _, e', r1, rfl⟩ := r; injection e' with e1 _; subst e1; simpa [one] using r1
 | [], [], r => simp only [one, Rep]; exact ⟨#[], by simp, by simp [RepL]⟩
 | x :: y :: xs, v :: u :: us, r => simp only [one, Rep]; exact ⟨(v :: u :: us).toArray, by simp, by simpa using r⟩
 | [_], _ :: _ :: _, r => exact absurd r.length (by simp)
 | _ :: _ :: _, [_], r => exact absurd r.length (by simp)
 | [], _ :: _, r => exact absurd r.length (by simp)
 | _ :: _, [], r => exact absurd r.length (by simp)
end
section
variable {c c' : RC} {σ : Heap} {n : Nat}
structure Cold (c c' : RC) (σ : Heap) (n : Nat) : Prop where
 w : c'.w = c.w
 nm : c'.nm = c.nm
 X : ∀ b, c'.X b → c.X b
 E : ∀ (id : Nat) (p : Pl), id < n → c.E[id]? = some p → c'.E[id]? = some p
 heap : HeapRel c σ
 cold : ∀ (id : Nat) (p : Pl), n ≤ id → c.E[id]? = some p → ¬ c'.X p.b
theorem frzL_len (d : Nat) : ∀ (l l' : List AV), A.frzL σ n d l = some l' → l'.length = l.length
 | [], l', e => by simp only [A.frzL] at e; injection e with e; subst e; rfl
 | x :: l, l', e => by
  simp only [A.frzL] at e
  obtain ⟨y, h1, h2⟩ := Option.bind_eq_some_iff.1 e
  obtain ⟨l2, h3, rfl⟩ := Option.map_eq_some_iff.1 h2
  simp [frzL_len d l l2 h3]
theorem frzLL_len (d : Nat) : ∀ (l l' : List (List AV)), A.frzLL σ n d l = some l' → l'.length = l.length
 | [], l', e => by simp only [A.frzLL] at e; injection e with e; subst e; rfl
 | x :: l, l', e => by
  simp only [A.frzLL] at e
  obtain ⟨y, h1, h2⟩ := Option.bind_eq_some_iff.1 e
  obtain ⟨l2, h3, rfl⟩ := Option.map_eq_some_iff.1 h2
  simp [frzLL_len d l l2 h3]
theorem frzLL_eq (d : Nat) : ∀ (l : List (List AV)), A.frzLL' σ n d l = A.frzLL σ n d l
 | [] => by simp [A.frzLL, A.frzLL']
 | x :: l => by simp [A.frzLL, A.frzLL', frzLL_eq d l]
def isOwn : AV → Bool
 | .os .. => true
 | .op .. => true
 | .oe .. => true
 | .om .. => true
 | _ => false
theorem frzL_eq (d : Nat) : ∀ (l : List AV), A.frzL' σ n d l = A.frzL σ n d l
 | [] => by simp [A.frzL, A.frzL']
 | x :: l => by simp [A.frzL, A.frzL', frzL_eq d l]
theorem frzM_eq (d : Nat) : ∀ (l : List (AV × AV)), A.frzM' σ n d l = A.frzM σ n d l
 | [] => by simp [A.frzM, A.frzM']
 | (k, v) :: l => by simp [A.frzM, A.frzM', frzM_eq d l]
theorem frz_key (d : Nat) (m : Int) (s : ByteArray) : A.frz σ n d (.agg [.int .i64 m, .str s]) = some (.agg [.int .i64 m, .str s]) := by
 cases d <;> simp [A.frz, A.frzL]
theorem frzM_keys {d : Nat} : ∀ {es es' : List (AV × AV)}, (∀ p ∈ es, ∃ m s, p.1 = .agg [.int .i64 m, .str s]) → A.frzM σ n d es = some es' → es'.map (·.1) = es.map (·.1)
 | [], es', _, h => by simp only [A.frzM] at h; injection h with h; subst h; rfl
 | (k, v) :: r, es', hk, h => by
  simp only [A.frzM] at h
  obtain ⟨m, s, e⟩ := hk (k, v) List.mem_cons_self
  simp only at e
  subst e
  rw [frz_key] at h
  simp only [Option.bind_some] at h
  obtain ⟨v', h1, h2⟩ := Option.bind_eq_some_iff.1 h
  obtain ⟨r', h3, rfl⟩ := Option.map_eq_some_iff.1 h2
  simp only [List.map_cons, frzM_keys (fun p hp => hk p (List.mem_cons_of_mem _ hp)) h3]
theorem frzM_dist {d : Nat} {es es' : List (AV × AV)} (hd : DistK es) (h : A.frzM σ n d es = some es') : DistK es' := by
 have e := frzM_keys hd.1 h
 refine ⟨fun p hp => ?_, by rw [e]; exact hd.2⟩
 have : p.1 ∈ es.map (·.1) := by rw [← e]; exact List.mem_map_of_mem hp
 obtain ⟨q, hq, e2⟩ := List.mem_map.1 this
 rw [← e2]
 exact hd.1 q hq
mutual
theorem frz_rep (h : Cold c c' σ n) (d : Nat) (hos : ∀ av av' v, isOwn av = true → A.frz σ n d av = some av' → Rep c av v → Rep c' av' v) : ∀ (av av' : AV) (v : Value), A.frz σ n d av = some av' → Rep c av v → Rep c' av' v
 | .undef, av', v, e, r => by cases d <;> simp [A.frz] at e
 | .int k m, av', v, e, r => by
  have : av' = .int k m := by cases d <;> simpa [A.frz] using e.symm
  subst this; simpa [Rep] using r
 | .bool b, av', v, e, r => by
  have : av' = .bool b := by cases d <;> simpa [A.frz] using e.symm
  subst this; simpa [Rep] using r
 | .str s, av', v, e, r => by
  have : av' = .str s := by cases d <;> simpa [A.frz] using e.symm
  subst this; simpa [Rep] using r
 | .nsl, av', v, e, r => by
  have : av' = .nsl := by cases d <;> simpa [A.frz] using e.symm
  subst this; simpa [Rep] using r
 | .ez, av', v, e, r => by
  have : av' = .ez := by cases d <;> simpa [A.frz] using e.symm
  subst this; simpa [Rep] using r
 | .np, av', v, e, r => by
  have : av' = .np := by cases d <;> simpa [A.frz] using e.symm
  subst this; simpa [Rep] using r
 | .nm, av', v, e, r => by
  have : av' = .nm := by cases d <;> simpa [A.frz] using e.symm
  subst this; simpa [Rep] using r
 | .nfn, av', v, e, r => by
  have : av' = .nfn := by cases d <;> simpa [A.frz] using e.symm
  subst this; simpa [Rep] using r
 | .agg cs, av', v, e, r => by
  have e' : (A.frzL σ n d cs).map .agg = some av' := by cases d <;> simpa [A.frz] using e
  obtain ⟨cs', h1, rfl⟩ := Option.map_eq_some_iff.1 e'
  simp only [Rep] at r ⊢
  obtain ⟨vs, e, r1, r2⟩ := r
  exact ⟨vs, e, frzL_rep h d hos cs cs' _ h1 r1, r2⟩
 | .tup cs, av', v, e, r => by
  have e' : (A.frzL σ n d cs).map .tup = some av' := by cases d <;> simpa [A.frz] using e
  obtain ⟨cs', h1, rfl⟩ := Option.map_eq_some_iff.1 e'
  simp only [Rep] at r ⊢
  obtain ⟨vs, e, r1⟩ := r
  exact ⟨vs, e, frzL_rep h d hos cs cs' _ h1 r1⟩
 | .sl sz es, av', v, e, r => by
  have e' : (A.frzLL σ n d es).map (.sl sz) = some av' := by cases d <;> simpa [A.frz] using e
  obtain ⟨es', h1, rfl⟩ := Option.map_eq_some_iff.1 e'
  simp only [Rep] at r ⊢
  obtain ⟨q, cap, e, k1, k2, r⟩ := r
  have hl : es'.length = es.length := frzLL_len d es es' h1
  refine ⟨q, cap, by rw [hl]; exact e, by rw [hl]; exact k1, k2, ?_⟩
  rcases r with r | ⟨b, off, e2, hb, hx, r⟩
  ·left; subst r; simpa using hl
  ·right; exact ⟨b, off, e2, by rw [h.w]; exact hb, fun k => hx (h.X b k), frzE_rep h d hos sz b es es' off h1 r⟩
 | .rp cs, av', v, e, r => by
  have e' : (A.frzL σ n d cs).map .rp = some av' := by cases d <;> simpa [A.frz] using e
  obtain ⟨cs', h1, rfl⟩ := Option.map_eq_some_iff.1 e'
  simp only [Rep] at r ⊢
  obtain ⟨b, off, e2, hb, hx, r⟩ := r
  exact ⟨b, off, e2, by rw [h.w]; exact hb, fun k => hx (h.X b k), frzC_rep h d hos b cs cs' off h1 r⟩
 | .fm es, av', v, e, r => by
  have e' : (A.frzM σ n d es).map .fm = some av' := by cases d <;> simpa [A.frz] using e
  obtain ⟨es', h1, rfl⟩ := Option.map_eq_some_iff.1 e'
  simp only [Rep] at r ⊢
  obtain ⟨b, e2, hb, hx, ents, clock, k1, kw, l, k2, k3⟩ := r
  exact ⟨b, e2, by rw [h.w]; exact hb, fun k => hx (h.X b k), ents, clock, by rw [h.w]; exact k1, kw, l, frzM_rep h d hos es es' _ h1 k2, k3.imp_right fun q => ⟨q.1, frzM_dist q.2 h1⟩⟩
 | .op id off, av', v, e, r => hos _ av' v rfl e r
 | .oe id g i off, av', v, e, r => hos _ av' v rfl e r
 | .om id, av', v, e, r => hos _ av' v rfl e r
 | .fn f cs, av', v, e, r => by
  have e' : (A.frzL σ n d cs).map (.fn f) = some av' := by cases d <;> simpa [A.frz] using e
  obtain ⟨cs', h1, rfl⟩ := Option.map_eq_some_iff.1 e'
  simp only [Rep] at r ⊢
  obtain ⟨g, vs, e, k, r1⟩ := r
  exact ⟨g, vs, e, by rw [h.nm]; exact k, frzL_rep h d hos cs cs' _ h1 r1⟩
 | .lbx cs, av', v, e, r => by cases d <;> simp [A.frz] at e
 | .os id g sz off len, av', v, e, r => hos _ av' v rfl e r
theorem frzL_rep (h : Cold c c' σ n) (d : Nat) (hos : ∀ av av' v, isOwn av = true → A.frz σ n d av = some av' → Rep c av v → Rep c' av' v) : ∀ (l l' : List AV) (vs : List Value), A.frzL σ n d l = some l' → RepL c l vs → RepL c' l' vs
 | [], l', vs, e, r => by simp only [A.frzL] at e; injection e with e; subst e; simpa [RepL] using r
 | x :: l, l', vs, e, r => by
  simp only [A.frzL] at e
  obtain ⟨y, h1, h2⟩ := Option.bind_eq_some_iff.1 e
  obtain ⟨l2, h3, rfl⟩ := Option.map_eq_some_iff.1 h2
  simp only [RepL] at r ⊢
  obtain ⟨v, vs', e, r1, r2⟩ := r
  exact ⟨v, vs', e, frz_rep h d hos x y v h1 r1, frzL_rep h d hos l l2 vs' h3 r2⟩
theorem frzM_rep (h : Cold c c' σ n) (d : Nat) (hos : ∀ av av' v, isOwn av = true → A.frz σ n d av = some av' → Rep c av v → Rep c' av' v) : ∀ (l l' : List (AV × AV)) (es : List MapEntry), A.frzM σ n d l = some l' → RepM c l es → RepM c' l' es
 | [], l', es, e, r => by simp only [A.frzM] at e; injection e with e; subst e; simpa [RepM] using r
 | (k, v) :: l, l', es, e, r => by
  simp only [A.frzM] at e
  obtain ⟨k', h1, h2⟩ := Option.bind_eq_some_iff.1 e
  obtain ⟨v', h3, h4⟩ := Option.bind_eq_some_iff.1 h2
  obtain ⟨l2, h5, rfl⟩ := Option.map_eq_some_iff.1 h4
  simp only [RepM] at r ⊢
  obtain ⟨x, es', e, r1, r2, r3⟩ := r
  exact ⟨x, es', e, frz_rep h d hos k k' _ h1 r1, frz_rep h d hos v v' _ h3 r2, frzM_rep h d hos l l2 es' h5 r3⟩
theorem frzC_rep (h : Cold c c' σ n) (d : Nat) (hos : ∀ av av' v, isOwn av = true → A.frz σ n d av = some av' → Rep c av v → Rep c' av' v) (b : Nat) : ∀ (l l' : List AV) (off : Nat), A.frzL σ n d l = some l' → RepCs c b off l → RepCs c' b off l'
 | [], l', off, e, r => by simp only [A.frzL] at e; injection e with e; subst e; simp [RepCs]
 | x :: l, l', off, e, r => by
  simp only [A.frzL] at e
  obtain ⟨y, h1, h2⟩ := Option.bind_eq_some_iff.1 e
  obtain ⟨l2, h3, rfl⟩ := Option.map_eq_some_iff.1 h2
  simp only [RepCs] at r ⊢
  obtain ⟨⟨v, e1, e2, r1⟩, r2⟩ := r
  exact ⟨⟨v, by rw [h.w]; exact e1, e2, frz_rep h d hos x y v h1 r1⟩, frzC_rep h d hos b l l2 (off + 1) h3 r2⟩
theorem frzE_rep (h : Cold c c' σ n) (d : Nat) (hos : ∀ av av' v, isOwn av = true → A.frz σ n d av = some av' → Rep c av v → Rep c' av' v) (sz b : Nat) : ∀ (l l' : List (List AV)) (off : Nat), A.frzLL σ n d l = some l' → RepEs c sz b off l → RepEs c' sz b off l'
 | [], l', off, e, r => by simp only [A.frzLL] at e; injection e with e; subst e; simp [RepEs]
 | x :: l, l', off, e, r => by
  simp only [A.frzLL] at e
  obtain ⟨y, h1, h2⟩ := Option.bind_eq_some_iff.1 e
  obtain ⟨l2, h3, rfl⟩ := Option.map_eq_some_iff.1 h2
  simp only [RepEs] at r ⊢
  exact ⟨by rw [frzL_len d x y h1]; exact r.1, frzC_rep h d hos b x y off h1 r.2.1, frzE_rep h d hos sz b l l2 (off + sz) h3 r.2.2⟩
end
structure Eld (c0 c c' : RC) : Prop where
 w : c'.w = c.w
 nm : c'.nm = c.nm
 X : ∀ b, c'.X b → c.X b
 E : ∀ (id : Nat) (p0 p : Pl), c0.E[id]? = some p0 → c.E[id]? = some p → c'.E[id]? = some p
mutual
theorem eld_rep {c0 c c' : RC} (h : Eld c0 c c') : ∀ (av : AV) (v0 v : Value), Rep c0 av v0 → Rep c av v → Rep c' av v
 | .undef, v0, v, r0, r => by simp [Rep]
 | .int k m, v0, v, r0, r => by simpa [Rep] using r
 | .bool b, v0, v, r0, r => by simpa [Rep] using r
 | .str s, v0, v, r0, r => by simpa [Rep] using r
 | .nsl, v0, v, r0, r => by simpa [Rep] using r
 | .ez, v0, v, r0, r => by simpa [Rep] using r
 | .np, v0, v, r0, r => by simpa [Rep] using r
 | .nm, v0, v, r0, r => by simpa [Rep] using r
 | .fm es, v0, v, r0, r => by
  simp only [Rep] at r0 r ⊢
  obtain ⟨_, _, _, _, _, _, _, _, _, r0, _⟩ := r0
  obtain ⟨b, e, hb, hx, ents, clock, k1, kw, l, k2, k3⟩ := r
  exact ⟨b, e, by rw [h.w]; exact hb, fun k => hx (h.X b k), ents, clock, by rw [h.w]; exact k1, kw, l, eldM_rep h es _ _ r0 k2, k3⟩
 | .nfn, v0, v, r0, r => by simpa [Rep] using r
 | .agg cs, v0, v, r0, r => by
  simp only [Rep] at r0 r ⊢
  obtain ⟨vs0, _, r01, _⟩ := r0
  obtain ⟨vs, e, r1, r2⟩ := r
  exact ⟨vs, e, eldL_rep h cs _ _ r01 r1, r2⟩
 | .tup cs, v0, v, r0, r => by
  simp only [Rep] at r0 r ⊢
  obtain ⟨vs0, _, r01⟩ := r0
  obtain ⟨vs, e, r1⟩ := r
  exact ⟨vs, e, eldL_rep h cs _ _ r01 r1⟩
 | .sl sz es, v0, v, r0, r => by
  simp only [Rep] at r0 r ⊢
  obtain ⟨_, _, _, _, _, r0⟩ := r0
  obtain ⟨q, cap, e, k1, k2, r⟩ := r
  refine ⟨q, cap, e, k1, k2, ?_⟩
  rcases r with r | ⟨b, off, e2, hb, hx, r⟩
  ·exact .inl r
  ·rcases r0 with r0 | ⟨b0, off0, _, _, _, r0⟩
   ·exact .inl r0
   ·exact .inr ⟨b, off, e2, by rw [h.w]; exact hb, fun k => hx (h.X b k), eldE_rep h sz b0 b es off0 off r0 r⟩
 | .rp cs, v0, v, r0, r => by
  simp only [Rep] at r0 r ⊢
  obtain ⟨b0, off0, _, _, _, r0⟩ := r0
  obtain ⟨b, off, e2, hb, hx, r⟩ := r
  exact ⟨b, off, e2, by rw [h.w]; exact hb, fun k => hx (h.X b k), eldC_rep h b0 b cs off0 off r0 r⟩
 | .op id off, v0, v, r0, r => by
  simp only [Rep] at r0 r ⊢
  obtain ⟨p0, e0, _⟩ := r0
  obtain ⟨p, e1, e2, e3⟩ := r
  exact ⟨p, h.E id p0 p e0 e1, e2, e3⟩
 | .oe id g i off, v0, v, r0, r => by
  simp only [Rep] at r0 r ⊢
  obtain ⟨_, p0, e0, _⟩ := r0
  obtain ⟨hg, p, e1, e2⟩ := r
  exact ⟨hg, p, h.E id p0 p e0 e1, e2⟩
 | .os id g sz off len, v0, v, r0, r => by
  simp only [Rep] at r0 r ⊢
  obtain ⟨_, p0, e0, _⟩ := r0
  obtain ⟨hg, p, e1, e2⟩ := r
  exact ⟨hg, p, h.E id p0 p e0 e1, e2⟩
 | .om id, v0, v, r0, r => by
  simp only [Rep] at r0 r ⊢
  obtain ⟨p0, e0, _⟩ := r0
  obtain ⟨p, e1, e2, e3⟩ := r
  exact ⟨p, h.E id p0 p e0 e1, e2, e3⟩
 | .fn f cs, v0, v, r0, r => by
  simp only [Rep] at r0 r ⊢
  obtain ⟨_, _, _, _, r0⟩ := r0
  obtain ⟨g, vs, e1, e2, r⟩ := r
  exact ⟨g, vs, e1, by rw [h.nm]; exact e2, eldL_rep h cs _ _ r0 r⟩
 | .lbx cs, v0, v, r0, r => by simp [Rep] at r
theorem eldL_rep {c0 c c' : RC} (h : Eld c0 c c') : ∀ (l : List AV) (vs0 vs : List Value), RepL c0 l vs0 → RepL c l vs → RepL c' l vs
 | [], vs0, vs, r0, r => by simpa [RepL] using r
 | x :: l, vs0, vs, r0, r => by
  simp only [RepL] at r0 r ⊢
  obtain ⟨v0, us0, _, r01, r02⟩ := r0
  obtain ⟨v, us, e, r1, r2⟩ := r
  exact ⟨v, us, e, eld_rep h x _ _ r01 r1, eldL_rep h l _ _ r02 r2⟩
theorem eldM_rep {c0 c c' : RC} (h : Eld c0 c c') : ∀ (l : List (AV × AV)) (es0 es : List MapEntry), RepM c0 l es0 → RepM c l es → RepM c' l es
 | [], es0, es, r0, r => by simpa [RepM] using r
 | (k, v) :: l, es0, es, r0, r => by
  simp only [RepM] at r0 r ⊢
  obtain ⟨e0, es0', _, k1, k2, k3⟩ := r0
  obtain ⟨e, es', e1, j1, j2, j3⟩ := r
  exact ⟨e, es', e1, eld_rep h k _ _ k1 j1, eld_rep h v _ _ k2 j2, eldM_rep h l es0' es' k3 j3⟩
theorem eldC_rep {c0 c c' : RC} (h : Eld c0 c c') (b0 b : Nat) : ∀ (l : List AV) (off0 off : Nat), RepCs c0 b0 off0 l → RepCs c b off l → RepCs c' b off l
 | [], off0, off, r0, r => by simp [RepCs]
 | x :: l, off0, off, r0, r => by
  simp only [RepCs] at r0 r ⊢
  obtain ⟨⟨v0, _, _, r01⟩, r02⟩ := r0
  obtain ⟨⟨v, e1, e2, r1⟩, r2⟩ := r
  exact ⟨⟨v, by rw [h.w]; exact e1, e2, eld_rep h x _ _ r01 r1⟩, eldC_rep h b0 b l _ _ r02 r2⟩
theorem eldE_rep {c0 c c' : RC} (h : Eld c0 c c') (sz b0 b : Nat) : ∀ (l : List (List AV)) (off0 off : Nat), RepEs c0 sz b0 off0 l → RepEs c sz b off l → RepEs c' sz b off l
 | [], off0, off, r0, r => by simp [RepEs]
 | x :: l, off0, off, r0, r => by
  simp only [RepEs] at r0 r ⊢
  exact ⟨r.1, eldC_rep h b0 b x _ _ r0.2.1 r.2.1, eldE_rep h sz b0 b l _ _ r0.2.2 r.2.2⟩
end
theorem eldB_rep {c0 c c' : RC} (h : Eld c0 c c') {p0 p : Pl} {x : Blk} (k0 : BlkAt c0 p0 x) (k : BlkAt c p x) : BlkAt c' p x := by
 cases x with
 | box cs =>
  obtain ⟨h1, ⟨⟨arr, t, h2, h3⟩, h4⟩⟩ := k
  exact ⟨h1, ⟨arr, t, by rw [h.w]; exact h2, h3⟩, eldC_rep h _ _ cs _ _ k0.2.2 h4⟩
 | arr g sz es =>
  obtain ⟨h1, h2, h3, h4, ⟨arr, t, h5, h6⟩, h7, h8, h9⟩ := k
  obtain ⟨_, _, _, _, _, _, k8, _⟩ := k0
  exact ⟨h1, h2, h3, h4, ⟨arr, t, by rw [h.w]; exact h5, h6⟩, h7, eldE_rep h sz _ _ es _ _ k8 h8, fun arr t fz e => h9 arr t fz (by rw [← h.w]; exact e)⟩
 | arrF g sz es =>
  obtain ⟨h1, h2, h3, h4, ⟨arr, t, h5, h6⟩, h7, h8, h9⟩ := k
  obtain ⟨_, _, _, _, _, _, k8, _⟩ := k0
  exact ⟨h1, h2, h3, h4, ⟨arr, t, by rw [h.w]; exact h5, h6⟩, h7, eldE_rep h sz _ _ es _ _ k8 h8, fun arr t fz e => h9 arr t fz (by rw [← h.w]; exact e)⟩
 | map es =>
  obtain ⟨h1, ents, clock, h2, hw, h3⟩ := k
  obtain ⟨_, _, _, _, _, k3⟩ := k0
  exact ⟨h1, ents, clock, by rw [h.w]; exact h2, hw, eldM_rep h es _ _ k3 h3⟩
 | it cur left =>
  obtain ⟨h1, h2⟩ := k
  obtain ⟨_, k2⟩ := k0
  refine ⟨h1, ?_⟩
  rcases h2 with ⟨h2, h2', since, seen, last, h3⟩ | ⟨m, seen, ents, clock, h3, h4, h5, h6, h7, h8, h9⟩
  ·exact .inl ⟨h2, h2', since, seen, last, by rw [h.w]; exact h3⟩
  ·rcases k2 with ⟨q1, q2, _⟩ | ⟨m0, seen0, ents0, clock0, q3, q4, q5, q6, q7, q8, q9⟩
   ·refine .inr ⟨m, seen, ents, clock, by rw [h.w]; exact h3, by rw [h.w]; exact h4, fun k => h5 (h.X m k), by rw [h.w]; exact h6, h7, by rw [q2] at h8 ⊢; exact h8, .inl q1⟩
   ·refine .inr ⟨m, seen, ents, clock, by rw [h.w]; exact h3, by rw [h.w]; exact h4, fun k => h5 (h.X m k), by rw [h.w]; exact h6, h7, (by obtain ⟨l0, q8, _⟩ := q8; obtain ⟨l, h8, hp⟩ := h8; exact ⟨l, eldM_rep h left _ _ q8 h8, hp⟩), ?_⟩
    rcases h9 with h9 | ⟨kk, v, e, e1, e2, e3, e4, e5⟩
    ·exact .inl h9
    ·rcases q9 with q9 | ⟨kk', v', e', f1, f2, f3, f4, f5⟩
     ·exact .inl q9
     ·rw [e1] at f1
      simp only [List.cons.injEq, Prod.mk.injEq, and_true] at f1
      obtain ⟨rfl, rfl⟩ := f1
      exact .inr ⟨_, _, e, e1, e2, e3, eld_rep h _ _ _ f4 e4, eld_rep h _ _ _ f5 e5⟩
def genB : Blk → Nat
 | .arr g _ _ => g
 | .arrF g _ _ => g
 | _ => 0
theorem blk_gen {c : RC} {p : Pl} {x : Blk} (k : BlkAt c p x) : p.g = genB x := by cases x <;> exact k.1
theorem eldRows {c0 c c' : RC} (h : Eld c0 c c') (sz b : Nat) : ∀ (l : List (List AV)) (off : Nat), (∀ y ∈ l, ∃ b0 o0, RepCs c0 b0 o0 y) → RepEs c sz b off l → RepEs c' sz b off l
 | [], off, h0, r => by simp [RepEs]
 | x :: l, off, h0, r => by
  simp only [RepEs] at r ⊢
  obtain ⟨b0, o0, k⟩ := h0 x (by simp)
  exact ⟨r.1, eldC_rep h b0 b x _ _ k r.2.1, eldRows h sz b l _ (fun y hy => h0 y (by simp [hy])) r.2.2⟩
theorem rows_rep {c : RC} : ∀ {args : List AV} {vs : List Value}, RepL c args vs → ∀ y ∈ A.rowsOf args, ∃ b0 o0, RepCs c b0 o0 y
 | [], _, _, y, hy => by simp [A.rowsOf] at hy
 | a :: args, vs, h, y, hy => by
  simp only [RepL] at h
  obtain ⟨v, vs', rfl, h1, h2⟩ := h
  simp only [A.rowsOf, List.mem_append] at hy
  rcases hy with hy | hy
  ·cases a <;> simp only [List.not_mem_nil] at hy
   rename_i sz es
   simp only [Rep] at h1
   obtain ⟨a, cap, rfl, _, _, h3⟩ := h1
   rcases h3 with h3 | ⟨b, off, _, _, _, h4⟩
   ·rw [h3] at hy; cases hy
   ·obtain ⟨i, hi⟩ := List.mem_iff_getElem?.1 hy
    exact ⟨_, _, (RepEs.nth h4 hi).2⟩
  ·exact rows_rep h2 y hy
theorem frz_all (h : Cold c c' σ n) : ∀ (d : Nat) (av av' : AV) (v : Value), A.frz σ n d av = some av' → Rep c av v → Rep c' av' v
 | 0 => frz_rep h 0 (fun av av' v ho e r => by cases av <;> first | (simp [A.frz] at e; done) | (simp [isOwn] at ho; done))
 | d + 1 => frz_rep h (d + 1) (fun av av' v ho e r => match av, ho, e, r with
  | .op id off, _, e, r => by
   simp only [A.frz] at e
   simp only [Rep] at r
   obtain ⟨p, h1, h2, rfl⟩ := r
   split at e
   ·rename_i hlt
    injection e with e; subst e
    simp only [Rep]
    exact ⟨p, h.E id p hlt h1, h2, rfl⟩
   ·rename_i hge
    split at e
    ·rename_i cs hs
     obtain ⟨cs', e1, rfl⟩ := Option.map_eq_some_iff.1 e
     rw [frzL_eq] at e1
     obtain ⟨j1, ⟨⟨arr, t, j2, j3⟩, j4⟩⟩ := h.heap.blk id p _ h1 hs
     simp only [Rep]
     refine ⟨p.b, off, rfl, by rw [h.w]; exact (Array.getElem?_eq_some_iff.1 j2).1, h.cold id p (by omega) h1, ?_⟩
     have j5 := j4.drop off
     rw [Nat.zero_add] at j5
     exact frzC_rep h d (fun av av' v _ e r => frz_all h d _ _ _ e r) p.b _ cs' _ e1 j5
    ·cases e
  | .oe id g i off, _, e, r => by
   simp only [A.frz] at e
   simp only [Rep] at r
   obtain ⟨hg, p, h1, h2, a, rfl, h3⟩ := r
   split at e
   ·rename_i hlt
    injection e with e; subst e
    simp only [Rep]
    exact ⟨hg, p, h.E id p hlt h1, h2, a, rfl, h3⟩
   ·rename_i hge
    split at e
    ·rename_i g' sz' es hs
     split at e
     ·rename_i hc
      subst hc
      split at e
      ·rename_i el hel
       obtain ⟨cs', e1, rfl⟩ := Option.map_eq_some_iff.1 e
       rw [frzL_eq] at e1
       obtain ⟨j1, j2, j3, j4, ⟨arr, bt, j5, j6⟩, j7, j8, j9⟩ := h.heap.blk id p _ h1 hs
       have ha := h3 j1.symm
       subst ha
       simp only [Rep]
       refine ⟨p.b, _, rfl, by rw [h.w]; exact (Array.getElem?_eq_some_iff.1 j5).1, h.cold id p (by omega) h1, ?_⟩
       rw [j3]
       have j9 := (j8.nth hel).2.drop off
       exact frzC_rep h d (fun av av' v _ e r => frz_all h d _ _ _ e r) p.b _ cs' _ e1 j9
      ·cases e
     ·cases e
    ·cases e
  | .om id, _, e, r => by
   simp only [A.frz] at e
   simp only [Rep] at r
   obtain ⟨p, h1, h2, rfl⟩ := r
   split at e
   ·rename_i hlt
    injection e with e; subst e
    simp only [Rep]
    exact ⟨p, h.E id p hlt h1, h2, rfl⟩
   ·rename_i hge
    split at e
    ·rename_i es hs
     obtain ⟨es', e1, rfl⟩ := Option.map_eq_some_iff.1 e
     rw [frzM_eq] at e1
     obtain ⟨j1, ents, clock, j2, jw, j3⟩ := h.heap.blk id p _ h1 hs
     simp only [Rep]
     exact ⟨p.b, rfl, by rw [h.w]; exact (Array.getElem?_eq_some_iff.1 j2).1, h.cold id p (by omega) h1, ents, clock, by rw [h.w]; exact j2, jw, _, frzM_rep h d (fun av av' v _ e r => frz_all h d _ _ _ e r) _ es' _ e1 j3, .inl rfl⟩
    ·cases e
  | .os id g sz off len, _, e, r => by
   simp only [A.frz] at e
   simp only [Rep] at r
   obtain ⟨hg, p, h1, h2, q, cap, rfl, h3, r⟩ := r
   split at e
   ·rename_i hlt
    injection e with e; subst e
    simp only [Rep]
    exact ⟨hg, p, h.E id p hlt h1, h2, q, cap, rfl, h3, r⟩
   ·rename_i hge
    split at e
    ·rename_i g' sz' es hs
     split at e
     ·rename_i hc
      obtain ⟨rfl, rfl, hle⟩ := hc
      obtain ⟨es', e1, rfl⟩ := Option.map_eq_some_iff.1 e
      rw [frzLL_eq] at e1
      obtain ⟨j1, j2, j3, j4, ⟨arr, bt, j5, j6⟩, j7, j8, j9⟩ := h.heap.blk id p _ h1 hs
      obtain ⟨k1, k2, k3⟩ := r j1.symm
      have hl := frzLL_len d _ _ e1
      have hl2 : ((es.drop off).take len).length = len := by simp; omega
      simp only [Rep]
      refine ⟨some q, cap, by rw [hl, hl2], by rw [hl, hl2]; exact h3, j4, ?_⟩
      by_cases hz : len = 0
      ·left; apply List.eq_nil_of_length_eq_zero; rw [hl, hl2, hz]
      ·right
       have hq : q = ⟨p.b, p.base + off * p.sz, none⟩ := by
        rcases k2 with k2 | k2
        ·omega
        ·exact k2
       refine ⟨p.b, p.base + off * p.sz, by rw [hq], by rw [h.w]; exact (Array.getElem?_eq_some_iff.1 j5).1, h.cold id p (by omega) h1, ?_⟩
       refine frzE_rep h d (fun av av' v _ e r => frz_all h d _ _ _ e r) sz p.b _ es' _ e1 ?_
       rw [j3]
       exact (j8.drop off).take len
     ·cases e
    ·cases e)
end
section
variable {c c' : RC} {σ : Heap} {n : Nat}
theorem perm_rep2 {es es' : List (AV × AV)} (hp : es.Perm es') : ∀ {l : List MapEntry}, RepM c es l → ∃ l', RepM c es' l' ∧ l'.Perm l := by
 induction hp with
 | nil => intro l h; exact ⟨l, h, .refl _⟩
 | cons x _ ih =>
  intro l h
  obtain ⟨e, l1, rfl, h2, h3, h4⟩ := h
  obtain ⟨l', k1, k2⟩ := ih h4
  exact ⟨e :: l', ⟨_, _, rfl, h2, h3, k1⟩, k2.cons e⟩
 | swap x y l0 =>
  intro l h
  obtain ⟨e, l1, rfl, h2, h3, e', l2, rfl, h4, h5, h6⟩ := h
  exact ⟨e' :: e :: l2, ⟨_, _, rfl, h4, h5, _, _, rfl, h2, h3, h6⟩, .swap _ _ _⟩
 | trans _ _ ih1 ih2 =>
  intro l h
  obtain ⟨l1, k1, k2⟩ := ih1 h
  obtain ⟨l2, k3, k4⟩ := ih2 k1
  exact ⟨l2, k3, k4.trans k2⟩
theorem canM_spec (es : List (AV × AV)) : (A.canM es).Perm es := Classical.choose_spec (p := fun l : List (AV × AV) => l.Perm es) ⟨es, .refl _⟩
theorem can_rep {x : AV} {v : Value} (r : Rep c x v) : Rep c (A.can x) v := by
 cases x <;> try exact r
 case fm es =>
  unfold A.can
  simp only
  split
  ·rename_i hd
   simp only [Rep] at r ⊢
   obtain ⟨b, e, hb, hx, ents, clock, k1, kw, l, k2, k3⟩ := r
   have hp := canM_spec es
   obtain ⟨l', j1, j2⟩ := perm_rep2 hp.symm k2
   refine ⟨b, e, hb, hx, ents, clock, k1, kw, l', j1, .inr ⟨?_, ?_⟩⟩
   ·rcases k3 with rfl | ⟨k3, _⟩
    ·exact j2
    ·exact j2.trans k3
   ·exact ⟨fun p hp' => hd.1 p (hp.mem_iff.1 hp'), (hp.map _).nodup_iff.2 hd.2⟩
  ·exact r
theorem canCs_rep {b : Nat} : ∀ {l : List AV} {off : Nat}, RepCs c b off l → RepCs c b off (l.map A.can)
 | [], off, _ => by simp [RepCs]
 | x :: l, off, r => by
  simp only [List.map_cons, RepCs] at r ⊢
  obtain ⟨⟨v, h1, h2, h3⟩, h4⟩ := r
  exact ⟨⟨v, h1, h2, can_rep h3⟩, canCs_rep h4⟩
theorem canEs_rep {sz b : Nat} : ∀ {l : List (List AV)} {off : Nat}, RepEs c sz b off l → RepEs c sz b off (l.map (·.map A.can))
 | [], off, _ => by simp [RepEs]
 | x :: l, off, r => by
  simp only [List.map_cons, RepEs, List.length_map] at r ⊢
  exact ⟨r.1, canCs_rep r.2.1, canEs_rep r.2.2⟩
theorem frzB_rep (h : Cold c c' σ n) {p : Pl} {x x' : Blk} (e : A.frzB σ n x = some x') (k : BlkAt c p x) : BlkAt c' p x' := by
 have hos : ∀ av av' v, isOwn av = true → A.frz σ n 8 av = some av' → Rep c av v → Rep c' av' v := fun av av' v _ e r => frz_all h 8 _ _ _ e r
 cases x with
 | box cs =>
  obtain ⟨cs', e1, rfl⟩ := Option.map_eq_some_iff.1 e
  obtain ⟨h1, ⟨⟨arr, t, h2, h3⟩, h4⟩⟩ := k
  exact ⟨h1, ⟨arr, t, by rw [h.w]; exact h2, by rw [List.length_map, frzL_len 8 _ _ e1]; exact h3⟩, canCs_rep (frzC_rep h 8 hos _ _ _ _ e1 h4)⟩
 | arr g sz es =>
  obtain ⟨es', e1, rfl⟩ := Option.map_eq_some_iff.1 e
  obtain ⟨h1, h2, h3, h4, ⟨arr, t, h5, h6⟩, h7, h8, h9⟩ := k
  exact ⟨h1, h2, h3, h4, ⟨arr, t, by rw [h.w]; exact h5, h6⟩, by rw [List.length_map, frzLL_len 8 _ _ e1]; exact h7, canEs_rep (frzE_rep h 8 hos _ _ _ _ _ e1 h8), fun arr t fz e => h9 arr t fz (by rw [← h.w]; exact e)⟩
 | arrF g sz es =>
  obtain ⟨es', e1, rfl⟩ := Option.map_eq_some_iff.1 e
  obtain ⟨h1, h2, h3, h4, ⟨arr, t, h5, h6⟩, h7, h8, h9⟩ := k
  exact ⟨h1, h2, h3, h4, ⟨arr, t, by rw [h.w]; exact h5, h6⟩, by rw [List.length_map, frzLL_len 8 _ _ e1]; exact h7, canEs_rep (frzE_rep h 8 hos _ _ _ _ _ e1 h8), fun arr t fz e => h9 arr t fz (by rw [← h.w]; exact e)⟩
 | map es =>
  obtain ⟨es', e1, rfl⟩ := Option.map_eq_some_iff.1 e
  obtain ⟨h1, ents, clock, h2, hwf, h3⟩ := k
  exact ⟨h1, ents, clock, by rw [h.w]; exact h2, hwf, frzM_rep h 8 hos _ _ _ e1 h3⟩
 | it cur left => cases e
theorem frzBs_nth {n : Nat} : ∀ {τ0 τ1 τ : Heap}, A.frzBs σ n τ0 τ1 = some τ → τ.length = τ0.length ∧ τ0.length ≤ τ1.length ∧ ∀ (i : Nat) x, τ[i]? = some x → ∃ b b', τ0[i]? = some b ∧ τ1[i]? = some b' ∧ ((b' = b ∧ x = b) ∨ A.frzB σ n b' = some x)
 | [], τ1, τ, h => by simp only [A.frzBs] at h; injection h with h; subst h; simp
 | _ :: _, [], τ, h => by simp [A.frzBs] at h
 | b :: r, b' :: r', τ, h => by
  simp only [A.frzBs] at h
  obtain ⟨y, h1, h2⟩ := Option.bind_eq_some_iff.1 h
  obtain ⟨τ', h3, rfl⟩ := Option.map_eq_some_iff.1 h2
  obtain ⟨k1, k2, k3⟩ := frzBs_nth h3
  refine ⟨by simp [k1], by simp; omega, fun i x hi => ?_⟩
  cases i with
  | zero =>
   simp only [List.getElem?_cons_zero, Option.some.injEq] at hi
   subst hi
   refine ⟨b, b', rfl, rfl, ?_⟩
   split at h1
   ·rename_i e
    injection h1 with h1
    exact .inl ⟨e, h1.symm⟩
   ·exact .inr h1
  | succ i => exact k3 i x hi
end
section
variable {X : Fx}
def Back.Ok : Back → Prop
 | .N g => ∀ c a v, Rep c a v → Rep c (g a) v
 | _ => True
theorem runA_sound (hs : Snd X) {f : FuncId} {fn : Func} {keep : Back} (hkeep : keep.Ok) {ann : Ann} {args : List AV} {σ σ' : Heap} {r : AV} (hf : X.P.funcs[f]? = some fn) (hcall : ∀ aas w, (callFunc f aas).run X.P w = .ok (.enter f aas) w)
  (hr : runA X keep ann fn args σ = some (r, σ')) : ACalls X.P X.nm f args σ r σ' := by
 refine .inl ⟨f, hcall, fun z vs hnm hlt hh ha => ?_⟩
 unfold runA at hr
 cases hb : fn.body with
 | none => rw [hb] at hr; cases hr
 | some c =>
  rw [hb] at hr
  simp only at hr
  cases hc : (Nat.ble args.length fn.ntmps && X.n == fn.ntmps)
  ·rw [hc] at hr; cases hr
  ·rw [hc] at hr
   simp only [Bool.not_true, cond_false] at hr
   simp only [Bool.and_eq_true, beq_iff_eq] at hc
   obtain ⟨hc1, hc2⟩ := hc
   have hle : args.length ≤ fn.ntmps := Nat.le_of_ble_eq_true hc1
   have hal := ha.length
   have hal' : args.length = vs.size := by simpa using hal
   have hst : St X z ⟨args ++ List.replicate (fn.ntmps - args.length) (.tup []), fun _ => none, σ⟩ { tmps := vs ++ Array.replicate (fn.ntmps - vs.size) undef, defers := [] } z.w z.E nopb := by
    have hslot : ∀ i av, (args ++ List.replicate (fn.ntmps - args.length) (.tup []))[i]? = some av → Rep (ctx z z.w z.E nopb) av ((vs ++ Array.replicate (fn.ntmps - vs.size) undef).getD i undef) := by
     intro i av hi
     by_cases hlt' : i < args.length
     ·rw [List.getElem?_append_left hlt'] at hi
      obtain ⟨v, k1, k2⟩ := ha.nth hi
      have : (vs ++ Array.replicate (fn.ntmps - vs.size) undef).getD i undef = v := by
       rw [Array.getD_eq_getD_getElem?, Array.getElem?_append_left (by omega), ← Array.getElem?_toList, k1]; rfl
      rw [this]; exact k2
     ·rw [List.getElem?_append_right (by omega)] at hi
      have hm := List.mem_of_getElem? hi
      rw [List.mem_replicate] at hm
      rw [hm.2]
      have : (vs ++ Array.replicate (fn.ntmps - vs.size) undef).getD i undef = undef := by
       rw [Array.getD_eq_getD_getElem?, Array.getElem?_append_right (by omega), Array.getElem?_replicate]
       split <;> rfl
      rw [this]
      simp only [Rep]; exact ⟨#[], rfl, by simp [RepL]⟩
    refine ⟨by simp; omega, by simp; omega, fun i av hi => Slot.of (hslot i av hi), fun i cs hi => ?_, (fun t p hp => by cases hp), (fun i b hb => by cases hb), (fun i j b hb => by cases hb), hh, rfl, ?_, hnm.symm⟩
    ·have := hslot i _ hi; simp [Rep] at this
    ·exact ⟨rfl, rfl, rfl, Nat.le_refl _, fun _ _ _ => rfl, fun i p hp => .inr ⟨p, hp, rfl⟩, fun i p hp => ⟨p, hp, .inl rfl⟩, hlt, fun p hp => hh.lt hp⟩
   refine calls_of_wp hf hb (exec_wp hs c ann _ _ _ _ _ _ _ _ hr hst fun e s' a' w' E' pb' h' _ hk => ?_)
   have hno : Ext (ctx z w' E' pb') (ctx z w' E' nopb) := Ext.same rfl rfl (fun b k => by
    rcases k with k | k | ⟨i, k⟩
    ·exact .inl k
    ·exact .inr (.inl k)
    ·cases k) rfl
   have finF : ∀ (x : AV) (v : Value) (r : AV) (σ' : Heap), Rep (ctx z w' E' pb') x v → A.fin σ x s'.σ = some (r, σ') → ∃ E'', Out z w' E'' ∧ HeapRel (ctx z w' E'' nopb) σ' ∧ Rep (ctx z w' E'' nopb) r v := by
     intro x v r σ' rv k3
     unfold A.fin at k3
     split at k3
     ·rename_i he
      simp only [Option.some.injEq, Prod.mk.injEq] at k3
      obtain ⟨rfl, rfl⟩ := k3
      exact ⟨E', h'.out, by rw [← he]; exact h'.heap.mono hno rfl (fun p hp => rfl), Rep.mono hno _ _ rv⟩
     ·split at k3
      ·rename_i he
       obtain ⟨r', k6, k7⟩ := Option.map_eq_some_iff.1 k3
       simp only [Prod.mk.injEq] at k7
       obtain ⟨rfl, rfl⟩ := k7
       have hlen := h'.heap.len
       simp only [ctx] at hlen
       have hzl : z.E.length = σ.length := hh.len
       have hle2 : σ.length ≤ s'.σ.length := by
        have := congrArg List.length he
        simp at this; omega
       have htk : ∀ (id : Nat) (p : Pl), id < σ.length → E'[id]? = some p → (E'.take σ.length)[id]? = some p := fun id p hlt' hp => by rw [List.getElem?_take_of_lt hlt']; exact hp
       have htk2 : ∀ (id : Nat) (p : Pl), (E'.take σ.length)[id]? = some p → id < σ.length ∧ E'[id]? = some p := fun id p hp => by
        rw [List.getElem?_take] at hp
        split at hp
        ·exact ⟨by assumption, hp⟩
        ·cases hp
       have hcold : Cold (ctx z w' E' pb') (ctx z w' (E'.take σ.length) nopb) s'.σ σ.length := by
        refine ⟨rfl, rfl, fun b k => ?_, htk, h'.heap, fun id p hge hp k => ?_⟩
        ·rcases k with k | ⟨p, hp, k⟩ | ⟨i, k⟩
         ·exact .inl k
         ·exact .inr (.inl ⟨p, List.mem_of_mem_take hp, k⟩)
         ·cases k
        ·rcases k with k | ⟨q, hq, k⟩ | ⟨i, k⟩
         ·have hb := hlt _ k
          rcases h'.out.fresh' id p hp with e | ⟨q, hq, _⟩
          ·omega
          ·rw [List.getElem?_eq_none (by omega)] at hq; cases hq
         ·obtain ⟨j, hj, rfl⟩ := List.mem_iff_getElem.1 hq
          obtain ⟨h1, h2⟩ := htk2 j _ (List.getElem?_eq_getElem hj)
          have := h'.heap.inj j id _ p h2 hp k
          omega
         ·cases k
       have heq : ∀ (id : Nat), id < σ.length → σ[id]? = s'.σ[id]? := fun id hlt' => by
        have h1 : (List.take σ.length s'.σ)[id]? = s'.σ[id]? := List.getElem?_take_of_lt hlt'
        rw [he] at h1; exact h1
       have held : Eld (ctx z z.w z.E nopb) (ctx z w' E' pb') (ctx z w' (E'.take σ.length) nopb) :=
        ⟨rfl, rfl, hcold.X, fun id p0 p e0 e1 => htk id p (by have := (List.getElem?_eq_some_iff.1 e0).1; simp only [ctx] at this; omega) e1⟩
       refine ⟨E'.take σ.length, ?_, ?_, frz_all hcold 8 _ _ _ k6 rv⟩
       ·have o := h'.out
        exact ⟨o.os, o.tape, o.output, o.size, o.stay, fun i p hp => o.fresh' i p (htk2 i p hp).2, fun i p hp => by
         obtain ⟨p', m1, m2⟩ := o.env i p hp
         exact ⟨p', htk i p' (by have := (List.getElem?_eq_some_iff.1 hp).1; omega) m1, m2⟩, o.lt, o.mine⟩
       ·refine ⟨by simp only [ctx, List.length_take]; omega, fun i j p q hp hq e => h'.heap.inj i j p q (htk2 i p hp).2 (htk2 j q hq).2 e, fun i p x hp hx => ?_⟩
        obtain ⟨hi, hp2⟩ := htk2 i p hp
        have hz0 : z.E[i]? = some z.E[i] := List.getElem?_eq_getElem (by omega)
        exact eldB_rep held (hh.blk i _ x hz0 hx) (h'.heap.blk i p x hp2 (by rw [← heq i hi]; exact hx))
      ·cases k3
   have finG : ∀ (x : AV) (v : Value) (r : AV) (σ' : Heap), Rep (ctx z w' E' pb') x v → A.finG σ x s'.σ = some (r, σ') → ∃ E'', Out z w' E'' ∧ HeapRel (ctx z w' E'' nopb) σ' ∧ Rep (ctx z w' E'' nopb) r v := by
     intro x v r σ' rv k3
     unfold A.finG at k3
     obtain ⟨τ, q0, k4⟩ := Option.bind_eq_some_iff.1 k3
     obtain ⟨r', k6, k7⟩ := Option.map_eq_some_iff.1 k4
     simp only [Prod.mk.injEq] at k7
     obtain ⟨rfl, rfl⟩ := k7
     obtain ⟨q1, hle2, q3⟩ := frzBs_nth q0
     have hlen := h'.heap.len
     simp only [ctx] at hlen
     have hzl : z.E.length = σ.length := hh.len
     have htk : ∀ (id : Nat) (p : Pl), id < σ.length → E'[id]? = some p → (E'.take σ.length)[id]? = some p := fun id p hlt' hp => by rw [List.getElem?_take_of_lt hlt']; exact hp
     have htk2 : ∀ (id : Nat) (p : Pl), (E'.take σ.length)[id]? = some p → id < σ.length ∧ E'[id]? = some p := fun id p hp => by
      rw [List.getElem?_take] at hp
      split at hp
      ·exact ⟨by assumption, hp⟩
      ·cases hp
     have hcold : Cold (ctx z w' E' pb') (ctx z w' (E'.take σ.length) nopb) s'.σ σ.length := by
      refine ⟨rfl, rfl, fun b k => ?_, htk, h'.heap, fun id p hge hp k => ?_⟩
      ·rcases k with k | ⟨p, hp, k⟩ | ⟨i, k⟩
       ·exact .inl k
       ·exact .inr (.inl ⟨p, List.mem_of_mem_take hp, k⟩)
       ·cases k
      ·rcases k with k | ⟨q, hq, k⟩ | ⟨i, k⟩
       ·have hb := hlt _ k
        rcases h'.out.fresh' id p hp with e | ⟨q, hq, _⟩
        ·omega
        ·rw [List.getElem?_eq_none (by omega)] at hq; cases hq
       ·obtain ⟨j, hj, rfl⟩ := List.mem_iff_getElem.1 hq
        obtain ⟨h1, h2⟩ := htk2 j _ (List.getElem?_eq_getElem hj)
        have := h'.heap.inj j id _ p h2 hp k
        omega
       ·cases k
     have held : Eld (ctx z z.w z.E nopb) (ctx z w' E' pb') (ctx z w' (E'.take σ.length) nopb) :=
      ⟨rfl, rfl, hcold.X, fun id p0 p e0 e1 => htk id p (by have := (List.getElem?_eq_some_iff.1 e0).1; simp only [ctx] at this; omega) e1⟩
     refine ⟨E'.take σ.length, ?_, ?_, frz_all hcold 8 _ _ _ k6 rv⟩
     ·have o := h'.out
      exact ⟨o.os, o.tape, o.output, o.size, o.stay, fun i p hp => o.fresh' i p (htk2 i p hp).2, fun i p hp => by
       obtain ⟨p', m1, m2⟩ := o.env i p hp
       exact ⟨p', htk i p' (by have := (List.getElem?_eq_some_iff.1 hp).1; omega) m1, m2⟩, o.lt, o.mine⟩
     ·refine ⟨by simp only [ctx, List.length_take]; omega, fun i j p q hp hq e => h'.heap.inj i j p q (htk2 i p hp).2 (htk2 j q hq).2 e, fun i p x hp hx => ?_⟩
      obtain ⟨hi, hp2⟩ := htk2 i p hp
      obtain ⟨b, b', m1, m2, m3⟩ := q3 i x hx
      rcases m3 with ⟨rfl, rfl⟩ | m3
      ·have hz0 : z.E[i]? = some z.E[i] := List.getElem?_eq_getElem (by omega)
       exact eldB_rep held (hh.blk i _ x hz0 m1) (h'.heap.blk i p x hp2 m2)
      ·exact frzB_rep hcold m3 (h'.heap.blk i p b' hp2 m2)
   have done : ∀ (hk : resA X s' fn.results.toList (fun vs => keep.run args σ (one vs) s'.σ) = some (r, σ')),
     a'.defers = [] ∧ ∃ v, (results fn a'.tmps).run X.P w' = .ok v w' ∧ ∃ v' E', Ending.returned v = .returned v' ∧ Out z w' E' ∧ HeapRel (ctx z w' E' nopb) σ' ∧ Rep (ctx z w' E' nopb) r v' := by
    intro hk
    refine ⟨h'.defers, ?_⟩
    obtain ⟨us, avs, k1, k2, k3⟩ := resA_run h' _ _ _ hk
    obtain ⟨v, k4, k5⟩ := results_run k1
    have rv := k5 _ _ k2
    refine ⟨v, k4, v, ?_⟩
    have kept : ∃ E', Ending.returned v = .returned v ∧ Out z w' E' ∧ HeapRel (ctx z w' E' nopb) s'.σ ∧ Rep (ctx z w' E' nopb) (one avs) v :=
     ⟨E', rfl, h'.out, h'.heap.mono hno rfl (fun p hp => rfl), Rep.mono hno _ _ rv⟩
    cases keep with
    | K =>
     simp only [Back.run, Option.some.injEq, Prod.mk.injEq] at k3
     obtain ⟨rfl, rfl⟩ := k3
     exact kept
    | F =>
     obtain ⟨E'', q1, q2, q3⟩ := finF _ _ _ _ rv k3
     exact ⟨E'', rfl, q1, q2, q3⟩
    | G =>
     obtain ⟨E'', q1, q2, q3⟩ := finG _ _ _ _ rv k3
     exact ⟨E'', rfl, q1, q2, q3⟩
    | N g =>
     simp only [Back.run] at k3
     obtain ⟨⟨r0, σ0⟩, k6, k7⟩ := Option.map_eq_some_iff.1 k3
     simp only [Prod.mk.injEq] at k7
     obtain ⟨rfl, rfl⟩ := k7
     obtain ⟨E'', q1, q2, q3⟩ := finF _ _ _ _ rv k6
     exact ⟨E'', rfl, q1, q2, hkeep _ _ _ q3⟩
    | R =>
     simp only [Back.run] at k3
     obtain ⟨x, hx⟩ : ∃ x, x = one avs := ⟨_, rfl⟩
     rw [← hx] at rv k3 kept
     unfold A.renew at k3
     split at k3
     ·rename_i id g sz off len
      split at k3
      ·rename_i g' sz' es hs'
       split at k3
       ·rename_i hc
        obtain ⟨rfl, rfl, hle, hlt2⟩ := hc
        simp only [Rep] at rv
        obtain ⟨hg, p, e1, e2, qa, cp, rfl, hcap, rx⟩ := rv
        obtain ⟨j1, j2, j3, j4, ⟨arr, bt, j5, j6⟩, j7, j8, j9⟩ := h'.heap.blk id p _ e1 hs'
        obtain ⟨q1, q2, q3⟩ := rx j1.symm
        have hid : id < E'.length := (List.getElem?_eq_some_iff.1 e1).1
        have hdl : ((es.drop off).take len).length = len := by simp; omega
        have hmul : (off + len) * sz ≤ es.length * sz := Nat.mul_le_mul_right _ hle
        rw [Nat.add_mul] at hmul
        split at k3
        ·simp only [Option.some.injEq, Prod.mk.injEq] at k3
         obtain ⟨rfl, rfl⟩ := k3
         have hmv := h'.move (id := id) (p := p) (p' := ⟨p.b, p.base + off * sz, A.gen args + 1, sz, p.csz⟩) (w' := w') (blk := .arr (A.gen args + 1) sz ((es.drop off).take len)) e1
          ⟨by omega, by show p.g < A.gen args + 1; omega⟩ rfl rfl rfl (Nat.le_refl _) (fun b _ _ => rfl) (.inl rfl) (fun hx => by
           refine ⟨rfl, by show 0 < A.gen args + 1; omega, rfl, j4, ⟨arr, bt, j5, j6⟩, ?_, ?_, j9⟩
           ·rw [hdl]; show p.base + off * sz + len * sz ≤ p.csz; omega
           ·exact RepEs.mono hx sz p.b rfl _ _ ((j8.drop off).take len))
         have hno2 : Ext (ctx z w' (E'.set id ⟨p.b, p.base + off * sz, A.gen args + 1, sz, p.csz⟩) pb') (ctx z w' (E'.set id ⟨p.b, p.base + off * sz, A.gen args + 1, sz, p.csz⟩) nopb) := Ext.same rfl rfl (fun b k => by
          rcases k with k | k | ⟨i, k⟩
          ·exact .inl k
          ·exact .inr (.inl k)
          ·cases k) rfl
         refine ⟨_, rfl, hmv.1.out, hmv.1.heap.mono hno2 rfl (fun p hp => rfl), ?_⟩
         simp only [Rep]
         refine ⟨by omega, ⟨p.b, p.base + off * sz, A.gen args + 1, sz, p.csz⟩, by simp [ctx, hid], Nat.le_refl _, qa, cp, rfl, hcap, fun _ => ⟨rfl, ?_, ?_⟩⟩
         ·rcases q2 with q2 | q2
          ·exact .inl q2
          ·exact .inr (by rw [q2, q1]; simp)
         ·simp only [Nat.zero_add]
          rw [q1, Nat.add_mul] at q3; omega
        ·unfold A.merge at k3
         split at k3
         ·rename_i id0 g0 sz00 off0 len0 rest _ _ _
          split at k3
          ·rename_i g1 sz1 es1 hs0
           split at k3
           ·rename_i hcond
            obtain ⟨hidn, hlenn, rfl, hg1, hsame, hF, hseg⟩ := hcond
            simp only [Option.some.injEq, Prod.mk.injEq] at k3
            obtain ⟨rfl, rfl⟩ := k3
            have hzl : z.E.length = σ.length := hh.len
            have hEl : E'.length = s'.σ.length := h'.heap.len
            have hid0 : id0 < σ.length := (List.getElem?_eq_some_iff.1 hs0).1
            obtain ⟨pz, hpz⟩ : ∃ pz, z.E[id0]? = some pz := ⟨_, List.getElem?_eq_getElem (by omega)⟩
            obtain ⟨y1, y2, y3, y4, y5, y6, y7, y8⟩ := hh.blk id0 pz _ hpz hs0
            obtain ⟨p'', hp''⟩ : ∃ p'' : Pl, p'' = ⟨p.b, p.base + off * sz1, A.gen (.os id0 g0 sz00 off0 len0 :: rest) + 1, sz1, p.csz⟩ := ⟨_, rfl⟩
            have hne : id ≠ id0 := by omega
            have hgen0 : ∀ (j : Nat) (q p2 : Pl), j ≠ id0 → z.E[j]? = some q → E'[j]? = some p2 → p2 = q := by
             intro j q p2 hj hq hp2
             have hjl : j < σ.length := by rw [← hzl]; exact (List.getElem?_eq_some_iff.1 hq).1
             obtain ⟨p3, m1, m2⟩ := h'.out.env j q hq
             rw [hp2] at m1; injection m1 with m1; subst m1
             rcases m2 with m2 | ⟨m2, m3⟩
             ·exact m2
             ·have hsj := hsame j hjl hj
              have hx0 : σ[j]? = some σ[j] := List.getElem?_eq_getElem hjl
              have u1 := blk_gen (hh.blk j q _ hq hx0)
              have u2 := blk_gen (h'.heap.blk j p2 _ hp2 (by rw [hsj]; exact hx0))
              omega
            have hp0 : ∃ p0, E'[id0]? = some p0 := ⟨_, List.getElem?_eq_getElem (by omega)⟩
            obtain ⟨p0, hp0⟩ := hp0
            have hp0g : p0.g = g1 := blk_gen (h'.heap.blk id0 p0 _ hp0 hF)
            have hfr : z.w.heap.size ≤ p.b := by
             rcases h'.out.fresh' id p e1 with k | ⟨q, hq, _⟩
             ·exact k
             ·rw [List.getElem?_eq_none (by omega)] at hq; cases hq
            have hm : p ∈ E' := List.mem_of_getElem? e1
            have hx : Ext (ctx z w' E' pb') (ctx z w' (E'.set id0 p'') nopb) := by
             refine ⟨Nat.le_refl _, fun b hb hn => ⟨rfl, ?_⟩, fun j q hq => ?_, rfl⟩
             ·rintro (k | ⟨q, hq, k⟩ | ⟨i, k⟩)
              ·exact hn (.inl k)
              ·rcases List.mem_or_eq_of_mem_set hq with hq | hq
               ·exact hn (.inr (.inl ⟨q, hq, k⟩))
               ·exact hn (.inr (.inl ⟨p, hm, by rw [← k, hq, hp'']⟩))
              ·cases k
             ·by_cases e : id0 = j
              ·subst e
               simp only [ctx] at hq
               rw [hp0] at hq; injection hq with hq; subst hq
               exact ⟨p'', by simp only [ctx]; rw [List.getElem?_set_self (List.getElem?_eq_some_iff.1 hp0).1], .inr ⟨by omega, by rw [hp'']; show p0.g < A.gen (.os id0 g0 sz00 off0 len0 :: rest) + 1; omega⟩⟩
              ·exact ⟨q, by simp only [ctx] at hq ⊢; rw [List.getElem?_set_ne e]; exact hq, .inl rfl⟩
            have hE2 : ∀ (j : Nat) (q : Pl), (z.E.set id0 p'')[j]? = some q → (j = id0 ∧ q = p'') ∨ (j ≠ id0 ∧ z.E[j]? = some q) := fun j q hq => by
             by_cases e : id0 = j
             ·subst e; rw [List.getElem?_set_self (List.getElem?_eq_some_iff.1 hpz).1] at hq; injection hq with hq; exact .inl ⟨rfl, hq.symm⟩
             ·rw [List.getElem?_set_ne e] at hq; exact .inr ⟨fun e' => e e'.symm, hq⟩
            have hE3 : ∀ (j : Nat) (q : Pl), j ≠ id0 → z.E[j]? = some q → E'[j]? = some q := fun j q hj hq => by
             have hjl : j < z.E.length := (List.getElem?_eq_some_iff.1 hq).1
             obtain ⟨p3, m1, _⟩ := h'.out.env j q hq
             rw [m1, hgen0 j q p3 hj hq m1]
            have held : Eld (ctx z z.w z.E nopb) (ctx z w' (E'.set id0 p'') nopb) (ctx z w' (z.E.set id0 p'') nopb) := by
             refine ⟨rfl, rfl, fun b k => ?_, fun j q0 q hq0 hq => ?_⟩
             ·rcases k with k | ⟨q, hq, k⟩ | ⟨i, k⟩
              ·exact .inl k
              ·obtain ⟨j, hj⟩ := List.mem_iff_getElem?.1 hq
               rcases hE2 j q hj with ⟨e3, e4⟩ | ⟨e3, e4⟩
               ·subst e3; exact .inr (.inl ⟨q, List.mem_of_getElem? (i := j) (by rw [List.getElem?_set_self (List.getElem?_eq_some_iff.1 hp0).1, e4]), k⟩)
               ·exact .inr (.inl ⟨q, List.mem_of_getElem? (i := j) (by rw [List.getElem?_set_ne (fun e => e3 e.symm)]; exact hE3 j q e3 e4), k⟩)
              ·cases k
             ·simp only [ctx] at hq0 hq ⊢
              by_cases e : id0 = j
              ·subst e
               rw [List.getElem?_set_self (List.getElem?_eq_some_iff.1 hp0).1] at hq
               rw [List.getElem?_set_self (List.getElem?_eq_some_iff.1 hpz).1]; exact hq
              ·rw [List.getElem?_set_ne e] at hq ⊢
               rw [hgen0 j q0 q (fun e' => e e'.symm) hq0 hq]; exact hq0
            refine ⟨z.E.set id0 p'', rfl, ?_, ?_, ?_⟩
            ·have o := h'.out
             refine ⟨o.os, o.tape, o.output, o.size, o.stay, fun j q hq => ?_, fun j q hq => ?_, o.lt, o.mine⟩
             ·rcases hE2 j q hq with ⟨e3, e4⟩ | ⟨e3, e4⟩
              ·left; rw [e4, hp'']; exact hfr
              ·exact .inr ⟨q, e4, rfl⟩
             ·by_cases e : id0 = j
              ·subst e
               rw [hpz] at hq; injection hq with hq; subst hq
               exact ⟨p'', List.getElem?_set_self (List.getElem?_eq_some_iff.1 hpz).1, .inr ⟨by omega, by rw [hp'']; show pz.g < A.gen (.os id0 g0 sz00 off0 len0 :: rest) + 1; omega⟩⟩
              ·exact ⟨q, by rw [List.getElem?_set_ne e]; exact hq, .inl rfl⟩
            ·refine ⟨by simp [ctx, hzl], fun i j q r hq hr he => ?_, fun i q x hq hxx => ?_⟩
             ·have hlt0 : ∀ (j : Nat) (q : Pl), z.E[j]? = some q → q.b < z.w.heap.size := fun j q hq => hh.lt (p := q) (List.mem_of_getElem? hq)
              rcases hE2 i q hq with ⟨e3, e4⟩ | ⟨e3, e4⟩ <;> rcases hE2 j r hr with ⟨e5, e6⟩ | ⟨e5, e6⟩
              ·rw [e3, e5]
              ·have := hlt0 j r e6; rw [e4, hp''] at he; simp only at he; omega
              ·have := hlt0 i q e4; rw [e6, hp''] at he; simp only at he; omega
              ·exact hh.inj i j q r e4 e6 he
             ·rcases hE2 i q hq with ⟨e3, e4⟩ | ⟨e3, e4⟩
              ·subst e3
               rw [List.getElem?_set_self hid0] at hxx
               injection hxx with hxx
               subst hxx; subst e4; subst hp''
               refine ⟨rfl, Nat.succ_pos _, rfl, j4, ⟨arr, bt, j5, j6⟩, ?_, ?_, j9⟩
               ·rw [hdl]; show p.base + off * sz1 + len * sz1 ≤ p.csz; omega
               ·refine eldRows held sz1 p.b _ _ (fun y hy => ?_) (RepEs.mono hx sz1 p.b rfl _ _ ((j8.drop off).take len))
                rcases hseg y hy with k | k
                ·obtain ⟨i, hi⟩ := List.mem_iff_getElem?.1 k
                 exact ⟨_, _, (RepEs.nth y7 hi).2⟩
                ·exact rows_rep ha y k
              ·rw [List.getElem?_set_ne (fun e => e3 e.symm)] at hxx
               have hil : i < σ.length := (List.getElem?_eq_some_iff.1 hxx).1
               exact eldB_rep held (hh.blk i q x e4 hxx) ((h'.heap.blk i q x (hE3 i q e3 e4) (by rw [hsame i hil e3]; exact hxx)).mono hx rfl)
            ·simp only [Rep]
             refine ⟨Nat.succ_pos _, p'', by simp only [ctx]; exact List.getElem?_set_self (List.getElem?_eq_some_iff.1 hpz).1, by rw [hp'']; exact Nat.le_refl _, qa, cp, by rw [hdl], by rw [hdl]; exact hcap, fun _ => ⟨by rw [hp''], ?_, ?_⟩⟩
             ·rcases q2 with q2 | q2
              ·exact .inl q2
              ·exact .inr (by rw [q2, q1, hp'']; simp)
             ·rw [hp'']
              simp only [Nat.zero_add]
              rw [q1, Nat.add_mul] at q3; omega
           ·cases k3
          ·cases k3
         ·cases k3
       ·cases k3
      ·cases k3
     ·simp only [Option.some.injEq, Prod.mk.injEq] at k3
      obtain ⟨rfl, rfl⟩ := k3
      exact kept
     ·simp only [Option.some.injEq, Prod.mk.injEq] at k3
      obtain ⟨rfl, rfl⟩ := k3
      exact kept
     ·simp only [Option.some.injEq, Prod.mk.injEq] at k3
      obtain ⟨rfl, rfl⟩ := k3
      exact kept
     ·cases k3
   cases e with
   | normal => exact done hk
   | ret => exact done hk
   | exit i => cases hk
end
end Go.Proofs.YtkdafecbdncmiaaDoor

namespace Go.Proofs.YtkdafecbdncmiaaDoor
set_option linter.unusedSectionVars false
open Go.RowKit
set_option linter.unusedVariables false
set_option linter.unusedSimpArgs false

inductive Sh where
 | k
 | s (sz : Nat)
 | e (sz : Nat) (l : List Sh)
 | a (l : List Sh)
 | t (l : List Sh)
 | p (l : List Sh)
namespace A
set_option linter.unusedSectionVars false
mutual
def nn : Sh → AV → AV
 | .k, v => v
 | .s sz, v => match v with | .nsl => .sl sz [] | .ez => .sl sz [] | v => v
 | .e sz l, v => match v with | .nsl => .sl sz [] | .ez => .sl sz [] | .sl sz' es => .sl sz' (es.map (nnL l)) | v => v
 | .a l, v => match v with | .agg cs => .agg (nnL l cs) | v => v
 | .t l, v => match v with | .tup vs => .tup (nnL l vs) | v => v
 | .p l, v => match v with | .rp cs => .rp (nnL l cs) | v => v
def nnL : List Sh → List AV → List AV
 | [], vs => vs
 | s :: ss, vs => match vs with | [] => [] | v :: vs => nn s v :: nnL ss vs
end
def own1 : AV → Bool
 | .os .. => true
 | .op .. => true
 | .oe .. => true
 | .om .. => true
 | _ => false
def own : AV → Bool
 | .agg cs => cs.any own1
 | v => own1 v
def scal1 : AV → Bool
 | .int .. => true
 | .bool .. => true
 | .str .. => true
 | .np => true
 | .nsl => true
 | .ez => true
 | .nm => true
 | .nfn => true
 | .sl _ [] => true
 | _ => false
def scal2 : AV → Bool
 | .agg cs => cs.all scal1
 | v => scal1 v
def scal : AV → Bool
 | .tup vs => vs.all scal2
 | v => scal2 v
def fresh (v : AV) : Bool := match v with
 | .os .. => true
 | .om _ => true
 | v => scal2 v
def freshT : AV → Bool
 | .tup vs => vs.all fresh
 | v => fresh v
def freshB : Blk → Bool
 | .box cs => cs.all scal1
 | .arr _ _ es => es.all fun e => e.all scal1
 | .map es => es.all fun p => scal2 p.1 && scal2 p.2
 | _ => false
def shift (n : Nat) (v : AV) : AV := match v with
 | .os id g sz off len => .os (id + n) g sz off len
 | .om id => .om (id + n)
 | v => v
def shiftT (n : Nat) : AV → AV
 | .tup vs => .tup (vs.map (shift n))
 | v => shift n v
noncomputable def wrap (ro : Bool) (ain : List Sh) (rout : Sh) (r : List AV → Heap → Option (AV × Heap)) (args : List AV) (σ : Heap) : Option (AV × Heap) :=
 bif ro && args.any own then
  (frzL σ 0 8 args).bind fun args => (r (nnL ain args) []).bind fun q => bif freshT (nn rout q.1) && q.2.all freshB then some (shiftT σ.length (nn rout q.1), σ ++ q.2) else none
 else (r (nnL ain args) σ).map fun q => (nn rout q.1, q.2)
noncomputable def finC (sh : Sh) (m : List AV → Heap → Option (AV × Heap)) (args : List AV) (σ : Heap) : Option (AV × Heap) := (m args σ).bind fun p => (fin σ p.1 p.2).map fun q => (nn sh q.1, q.2)
noncomputable def cloneZ (m : List AV → Heap → Option (AV × Heap)) (args : List AV) (σ : Heap) : Option (AV × Heap) := match args with
 | [.sl _ []] => some (.ez, σ)
 | [.nsl] => some (.ez, σ)
 | [.ez] => some (.ez, σ)
 | [.os _ _ _ _ 0] => some (.ez, σ)
 | _ => m args σ
end A

def Sound (P : Program) (nm : List Nat) (f : FuncId) (m : List AV → Heap → Option (AV × Heap)) : Prop := ∀ args σ r σ', m args σ = some (r, σ') → ACalls P nm f args σ r σ'
section
variable {P : Program} {nm : List Nat} {f : FuncId} {c c' : RC}
theorem nsl_sl {v : Value} (sz : Nat) (hsz : 0 < sz) (h : Rep c .nsl v) : Rep c (.sl sz []) v := by
 simp only [Rep] at h ⊢
 subst h
 exact ⟨none, 0, rfl, Nat.le_refl _, hsz, .inl trivial⟩
theorem ez_sl {v : Value} (sz : Nat) (hsz : 0 < sz) (h : Rep c .ez v) : Rep c (.sl sz []) v := by
 simp only [Rep] at h ⊢
 obtain ⟨a, rfl⟩ := h
 exact ⟨a, 0, rfl, Nat.le_refl _, hsz, .inl trivial⟩
mutual
def Sh.ok : Sh → Bool
 | .k => true
 | .s sz => Nat.blt 0 sz
 | .e sz l => Nat.blt 0 sz && Sh.okL l
 | .a l => Sh.okL l
 | .t l => Sh.okL l
 | .p l => Sh.okL l
def Sh.okL : List Sh → Bool
 | [] => true
 | x :: l => x.ok && Sh.okL l
end
theorem nnL_len : ∀ (l : List Sh) (cs : List AV), (A.nnL l cs).length = cs.length
 | [], cs => by simp [A.nnL]
 | _ :: _, [] => by simp [A.nnL]
 | o :: l, v :: cs => by simp [A.nnL, nnL_len l cs]
mutual
theorem nn_rep : ∀ (s : Sh) (a : AV) (v : Value), s.ok = true → Rep c a v → Rep c (A.nn s a) v
 | .k, a, v, _, h => by simpa [A.nn] using h
 | .s sz, a, v, ho, h => by
  cases a <;> simp only [A.nn] <;> first | exact h | exact nsl_sl sz (by simpa [Sh.ok] using ho) h | exact ez_sl sz (by simpa [Sh.ok] using ho) h
 | .e sz l, a, v, ho, h => by
  simp only [Sh.ok, Bool.and_eq_true] at ho
  cases a <;> simp only [A.nn] <;> first | exact h | exact nsl_sl sz (by simpa using ho.1) h | exact ez_sl sz (by simpa using ho.1) h | skip
  simp only [Rep] at h ⊢
  obtain ⟨a, cap, e, h1, h2, h3⟩ := h
  refine ⟨a, cap, by rw [List.length_map]; exact e, by rw [List.length_map]; exact h1, h2, ?_⟩
  rcases h3 with h3 | ⟨b, off, e1, e2, e3, e4⟩
  ·left; rw [h3]; rfl
  ·right; exact ⟨b, off, e1, e2, e3, nnL_es l ho.2 _ _ e4⟩
 | .a l, a, v, ho, h => by
  simp only [Sh.ok] at ho
  cases a <;> simp only [A.nn] <;> first | exact h | skip
  simp only [Rep] at h ⊢
  obtain ⟨vs, e, h1, h2⟩ := h
  exact ⟨vs, e, nnL_rep l _ _ ho h1, h2⟩
 | .t ss, a, v, ho, h => by
  simp only [Sh.ok] at ho
  cases a <;> simp only [A.nn] <;> first | exact h | skip
  simp only [Rep] at h ⊢
  obtain ⟨vs, e, h1⟩ := h
  exact ⟨vs, e, nnL_rep ss _ _ ho h1⟩
 | .p l, a, v, ho, h => by
  simp only [Sh.ok] at ho
  cases a <;> simp only [A.nn] <;> first | exact h | skip
  simp only [Rep] at h ⊢
  obtain ⟨b, off, e, h1, h2, h3⟩ := h
  exact ⟨b, off, e, h1, h2, nnL_cs l _ _ ho h3⟩
theorem nnL_rep : ∀ (ss : List Sh) (l : List AV) (vs : List Value), Sh.okL ss = true → RepL c l vs → RepL c (A.nnL ss l) vs
 | [], l, vs, _, h => by simpa [A.nnL] using h
 | _ :: _, [], vs, _, h => by simpa [A.nnL] using h
 | s :: ss, a :: l, vs, ho, h => by
  simp only [Sh.okL, Bool.and_eq_true] at ho
  simp only [A.nnL, RepL] at h ⊢
  obtain ⟨v, vs', e, h1, h2⟩ := h
  exact ⟨v, vs', e, nn_rep s a v ho.1 h1, nnL_rep ss l vs' ho.2 h2⟩
theorem nnL_cs {b : Nat} : ∀ (l : List Sh) (cs : List AV) (off : Nat), Sh.okL l = true → RepCs c b off cs → RepCs c b off (A.nnL l cs)
 | [], cs, off, _, h => by simpa [A.nnL] using h
 | _ :: _, [], off, _, h => by simpa [A.nnL] using h
 | o :: l, a :: cs, off, ho, h => by
  simp only [Sh.okL, Bool.and_eq_true] at ho
  simp only [A.nnL, RepCs] at h ⊢
  obtain ⟨⟨v, h1, h2, h3⟩, h4⟩ := h
  exact ⟨⟨v, h1, h2, nn_rep o a v ho.1 h3⟩, nnL_cs l cs (off + 1) ho.2 h4⟩
theorem nnL_es {sz b : Nat} (l : List Sh) (hl : Sh.okL l = true) : ∀ (es : List (List AV)) (off : Nat), RepEs c sz b off es → RepEs c sz b off (es.map (A.nnL l))
 | [], off, h => by simp [RepEs]
 | e :: es, off, h => by
  simp only [List.map_cons, RepEs] at h ⊢
  exact ⟨by rw [nnL_len]; exact h.1, nnL_cs l e off hl h.2.1, nnL_es l hl es _ h.2.2⟩
end
theorem scal1_rep : ∀ {a : AV} {v : Value}, A.scal1 a = true → Rep c a v → Rep c' a v := by
 intro a v h r
 cases a <;> simp only [A.scal1] at h <;> first | (cases h; done) | skip
 case sl sz es =>
  cases es with
  | nil =>
   simp only [Rep] at r ⊢
   obtain ⟨q, cap, e, h1, h2, _⟩ := r
   exact ⟨q, cap, e, h1, h2, .inl trivial⟩
  | cons _ _ => simp at h
 all_goals simpa [Rep] using r
theorem scal1L_rep : ∀ {l : List AV} {vs : List Value}, l.all A.scal1 = true → RepL c l vs → RepL c' l vs
 | [], vs, _, r => by simpa [RepL] using r
 | a :: l, vs, h, r => by
  simp only [List.all_cons, Bool.and_eq_true] at h
  simp only [RepL] at r ⊢
  obtain ⟨v, vs', e, h1, h2⟩ := r
  exact ⟨v, vs', e, scal1_rep h.1 h1, scal1L_rep h.2 h2⟩
theorem scal2_rep {a : AV} {v : Value} (h : A.scal2 a = true) (r : Rep c a v) : Rep c' a v := by
 unfold A.scal2 at h
 split at h
 ·simp only [Rep] at r ⊢
  obtain ⟨vs, e, h1, h2⟩ := r
  exact ⟨vs, e, scal1L_rep h h1, h2⟩
 ·exact scal1_rep h r
theorem ACalls.conv {args args' : List AV} {σ σ' : Heap} {r r' : AV} (h : ACalls P nm f args' σ r σ') (ha : ∀ c vs, RepL c args vs → RepL c args' vs) (hr : ∀ c v, Rep c r v → Rep c r' v) : ACalls P nm f args σ r' σ' := by
 rcases h with ⟨g, h1, h2⟩ | h
 ·refine .inl ⟨g, h1, fun z vs e1 e2 e3 e4 => (h2 z vs e1 e2 e3 (ha _ _ e4)).mono ?_⟩
  rintro e w' ⟨v, E', k1, k2, k3, k4⟩
  exact ⟨v, E', k1, k2, k3, hr _ _ k4⟩
 ·refine .inr fun z vs e1 e2 e3 e4 => ?_
  obtain ⟨v, w', E', k1, k2, k3, k4⟩ := h z vs e1 e2 e3 (ha _ _ e4)
  exact ⟨v, w', E', k1, k2, k3, hr _ _ k4⟩
theorem shift_rep {z0 z : Z} {w' : World} {E' : List Pl} {n : Nat} (hn : n = z.E.length) {a : AV} {v : Value} (h : A.fresh a = true) (r : Rep (ctx z0 w' E' nopb) a v) : Rep (ctx z w' (z.E ++ E') nopb) (A.shift n a) v := by
 have key : ∀ (id : Nat) (p : Pl), E'[id]? = some p → (z.E ++ E')[id + n]? = some p := fun id p hp => by
  rw [List.getElem?_append_right (by omega), hn, Nat.add_sub_cancel]; exact hp
 unfold A.fresh at h
 unfold A.shift
 split at h
 ·simp only [Rep] at r ⊢
  obtain ⟨hg, p, h1, h2, r⟩ := r
  exact ⟨hg, p, key _ _ h1, h2, r⟩
 ·simp only [Rep] at r ⊢
  obtain ⟨p, h1, h2, r⟩ := r
  exact ⟨p, key _ _ h1, h2, r⟩
 ·exact scal2_rep h r
theorem shiftT_rep' {z0 z : Z} {w' : World} {E' : List Pl} {n : Nat} (hn : n = z.E.length) {vs : List AV} {v : Value} (h : vs.all A.fresh = true) (r : Rep (ctx z0 w' E' nopb) (.tup vs) v) : Rep (ctx z w' (z.E ++ E') nopb) (A.shiftT n (.tup vs)) v := by
 simp only [Rep, A.shiftT] at r ⊢
 obtain ⟨us, rfl, r⟩ := r
 refine ⟨us, rfl, ?_⟩
 generalize us.toList = us' at r ⊢
 induction vs generalizing us' with
 | nil => simpa [RepL] using r
 | cons x l ih =>
  simp only [List.all_cons, Bool.and_eq_true] at h
  simp only [RepL, List.map_cons] at r ⊢
  obtain ⟨v, vs', e, h1, h2⟩ := r
  exact ⟨v, vs', e, shift_rep hn h.1 h1, ih h.2 _ h2⟩
theorem shiftT_rep {z0 z : Z} {w' : World} {E' : List Pl} {n : Nat} (hn : n = z.E.length) {a : AV} {v : Value} (h : A.freshT a = true) (r : Rep (ctx z0 w' E' nopb) a v) : Rep (ctx z w' (z.E ++ E') nopb) (A.shiftT n a) v := by
 by_cases ht : ∃ vs, a = .tup vs
 ·obtain ⟨vs, rfl⟩ := ht
  exact shiftT_rep' hn h r
 ·have e1 : A.freshT a = A.fresh a := by cases a <;> first | rfl | exact absurd ⟨_, rfl⟩ ht
  have e2 : A.shiftT n a = A.shift n a := by cases a <;> first | rfl | exact absurd ⟨_, rfl⟩ ht
  rw [e1] at h
  rw [e2]
  exact shift_rep hn h r
theorem scal1Cs_rep {b : Nat} : ∀ {l : List AV} {off : Nat}, l.all A.scal1 = true → c'.w = c.w → RepCs c b off l → RepCs c' b off l
 | [], off, _, _, _ => by simp [RepCs]
 | a :: l, off, h, hw, r => by
  simp only [List.all_cons, Bool.and_eq_true] at h
  simp only [RepCs] at r ⊢
  obtain ⟨⟨v, h1, h2, h3⟩, h4⟩ := r
  exact ⟨⟨v, by rw [hw]; exact h1, h2, scal1_rep h.1 h3⟩, scal1Cs_rep h.2 hw h4⟩
theorem scal1Es_rep {sz b : Nat} : ∀ {l : List (List AV)} {off : Nat}, (l.all fun e => e.all A.scal1) = true → c'.w = c.w → RepEs c sz b off l → RepEs c' sz b off l
 | [], off, _, _, _ => by simp [RepEs]
 | a :: l, off, h, hw, r => by
  simp only [List.all_cons, Bool.and_eq_true] at h
  simp only [RepEs] at r ⊢
  obtain ⟨h1, h2, h3⟩ := r
  exact ⟨h1, scal1Cs_rep h.1 hw h2, scal1Es_rep h.2 hw h3⟩
theorem scal2M_rep : ∀ {l : List (AV × AV)} {es : List MapEntry}, (l.all fun p => A.scal2 p.1 && A.scal2 p.2) = true → RepM c l es → RepM c' l es
 | [], es, _, r => by simpa [RepM] using r
 | (k, v) :: l, es, h, r => by
  simp only [List.all_cons, Bool.and_eq_true] at h
  simp only [RepM] at r ⊢
  obtain ⟨e, es', h1, h2, h3, h4⟩ := r
  exact ⟨e, es', h1, scal2_rep h.1.1 h2, scal2_rep h.1.2 h3, scal2M_rep h.2 h4⟩
theorem freshB_rep {p : Pl} {x : Blk} (h : A.freshB x = true) (hw : c'.w = c.w) (r : BlkAt c p x) : BlkAt c' p x := by
 cases x with
 | box cs =>
  obtain ⟨h1, ⟨⟨arr, t, h2, h3⟩, h4⟩⟩ := r
  exact ⟨h1, ⟨arr, t, by rw [hw]; exact h2, h3⟩, scal1Cs_rep h hw h4⟩
 | arr g sz es =>
  obtain ⟨h1, h2, h3, h4, ⟨arr, t, h5, h6⟩, h7, h8, h9⟩ := r
  exact ⟨h1, h2, h3, h4, ⟨arr, t, by rw [hw]; exact h5, h6⟩, h7, scal1Es_rep h hw h8, fun arr t fz e => h9 arr t fz (by rw [← hw]; exact e)⟩
 | map es =>
  obtain ⟨h1, ents, clock, h2, hwf, h3⟩ := r
  exact ⟨h1, ents, clock, by rw [hw]; exact h2, hwf, scal2M_rep h h3⟩
 | arrF g sz es => cases h
 | it cur left => cases h
theorem lent_out {z : Z} {σ σ' : Heap} {r : AV} {v : Value} {w' : World} {E' : List Pl} (e2 : ZLt z) (hh : HeapRel (ctx z z.w z.E nopb) σ) (hv : A.freshT r = true) (hb : σ'.all A.freshB = true)
  (k2 : Out ⟨z.w, [], fun _ => False, z.nm⟩ w' E') (k3 : HeapRel (ctx ⟨z.w, [], fun _ => False, z.nm⟩ w' E' nopb) σ') (k4 : Rep (ctx ⟨z.w, [], fun _ => False, z.nm⟩ w' E' nopb) r v) :
  ∃ E'', Out z w' E'' ∧ HeapRel (ctx z w' E'' nopb) (σ ++ σ') ∧ Rep (ctx z w' E'' nopb) (A.shiftT σ.length r) v := by
 have hlen : z.E.length = σ.length := hh.len
 have hlen' : E'.length = σ'.length := k3.len
 have hst : ∀ b, b < z.w.heap.size → w'.heap[b]? = z.w.heap[b]? := fun b hb => k2.stay b hb (fun p hp => by cases hp)
 have hlt : ∀ p ∈ z.E, p.b < z.w.heap.size := fun p hp => hh.lt hp
 have hfr : ∀ p ∈ E', z.w.heap.size ≤ p.b := fun p hp => by
  rcases k2.fresh p hp with k | ⟨q, hq, _⟩
  ·exact k
  ·cases hq
 have hx : Ext (ctx z z.w z.E nopb) (ctx z w' (z.E ++ E') nopb) := by
  refine ⟨k2.size, fun b hb hn => ⟨hst b hb, ?_⟩, fun i p hp => ⟨p, ?_, .inl rfl⟩, rfl⟩
  ·rintro (k | ⟨p, hp, k⟩ | ⟨i, k⟩)
   ·exact hn (.inl k)
   ·rcases List.mem_append.1 hp with hp | hp
    ·exact hn (.inr (.inl ⟨p, hp, k⟩))
    ·have := hfr p hp; simp only [ctx] at hb; omega
   ·cases k
  ·simp only [ctx] at hp ⊢
   rw [List.getElem?_append_left (List.getElem?_eq_some_iff.1 hp).1]; exact hp
 have key : ∀ (i : Nat) (p : Pl), (z.E ++ E')[i]? = some p → (i < z.E.length ∧ z.E[i]? = some p) ∨ (z.E.length ≤ i ∧ E'[i - z.E.length]? = some p) := fun i p hp => by
  by_cases hi : i < z.E.length
  ·rw [List.getElem?_append_left hi] at hp; exact .inl ⟨hi, hp⟩
  ·rw [List.getElem?_append_right (by omega)] at hp; exact .inr ⟨by omega, hp⟩
 refine ⟨z.E ++ E', ⟨k2.os, k2.tape, k2.output, k2.size, fun b hb _ => hst b hb, fun i p hp => ?_, fun i p hp => ⟨p, ?_, .inl rfl⟩, e2, hlt⟩, ⟨by simp [ctx, hlen, hlen'], fun i j p q hp hq e => ?_, fun i p x hp hxx => ?_⟩, shiftT_rep hlen.symm hv k4⟩
 ·rcases key i p hp with ⟨_, k⟩ | ⟨_, k⟩
  ·exact .inr ⟨p, k, rfl⟩
  ·exact .inl (hfr p (List.mem_of_getElem? k))
 ·rw [List.getElem?_append_left (List.getElem?_eq_some_iff.1 hp).1]; exact hp
 ·simp only [ctx] at hp hq
  rcases key i p hp with ⟨i1, k⟩ | ⟨i1, k⟩ <;> rcases key j q hq with ⟨j1, m⟩ | ⟨j1, m⟩
  ·exact hh.inj i j p q k m e
  ·have := hlt p (List.mem_of_getElem? k); have := hfr q (List.mem_of_getElem? m); omega
  ·have := hlt q (List.mem_of_getElem? m); have := hfr p (List.mem_of_getElem? k); omega
  ·have := k3.inj _ _ p q k m e; omega
 ·simp only [ctx] at hp
  rcases key i p hp with ⟨i1, k⟩ | ⟨i1, k⟩
  ·rw [List.getElem?_append_left (by omega)] at hxx
   exact (hh.blk i p x k hxx).mono hx (hst _ (hlt p (List.mem_of_getElem? k)))
  ·rw [List.getElem?_append_right (by omega), ← hlen] at hxx
   exact freshB_rep (c := ctx ⟨z.w, [], fun _ => False, z.nm⟩ w' E' nopb) (List.all_eq_true.1 hb x (List.mem_of_getElem? hxx)) rfl (k3.blk _ p x k hxx)
theorem ACalls.lent {args args' : List AV} {σ σ' : Heap} {r : AV} (h : ACalls P nm f args' [] r σ') (ha : A.frzL σ 0 8 args = some args') (hv : A.freshT r = true) (hb : σ'.all A.freshB = true) : ACalls P nm f args σ (A.shiftT σ.length r) (σ ++ σ') := by
 have hX : ∀ (z : Z) b, ¬ (ctx ⟨z.w, [], fun _ => False, z.nm⟩ z.w [] nopb).X b := by
  rintro z b (k | ⟨p, hp, _⟩ | ⟨i, k⟩)
  ·exact k.elim
  ·cases hp
  ·cases k
 have hcold : ∀ (z : Z), HeapRel (ctx z z.w z.E nopb) σ → Cold (ctx z z.w z.E nopb) (ctx ⟨z.w, [], fun _ => False, z.nm⟩ z.w [] nopb) σ 0 := fun z hh =>
  ⟨rfl, rfl, fun b k => (hX z b k).elim, fun id p k => absurd k (Nat.not_lt_zero _), hh, fun id p _ _ => hX z _⟩
 have h0 : ∀ (z : Z), HeapRel (ctx ⟨z.w, [], fun _ => False, z.nm⟩ z.w [] nopb) [] := fun z => by
  refine ⟨rfl, fun i j p q hp => ?_, fun i p x hp => ?_⟩
  ·simp [ctx] at hp
  ·simp [ctx] at hp
 rcases h with ⟨g, h1, h2⟩ | h2
 ·refine .inl ⟨g, h1, fun z vs e1 e2 hh e4 => ?_⟩
  have ha' : RepL (ctx ⟨z.w, [], fun _ => False, z.nm⟩ z.w [] nopb) args' vs.toList := frzL_rep (hcold z hh) 8 (fun av av' v _ e r => frz_all (hcold z hh) 8 _ _ _ e r) _ _ _ ha e4
  refine (h2 ⟨z.w, [], fun _ => False, z.nm⟩ vs e1 e2.none (h0 z) ha').mono ?_
  rintro e w' ⟨v, E', k1, k2, k3, k4⟩
  obtain ⟨E'', q1, q2, q3⟩ := lent_out e2 hh hv hb k2 k3 k4
  exact ⟨v, E'', k1, q1, q2, q3⟩
 ·refine .inr fun z vs e1 e2 hh e4 => ?_
  have ha' : RepL (ctx ⟨z.w, [], fun _ => False, z.nm⟩ z.w [] nopb) args' vs.toList := frzL_rep (hcold z hh) 8 (fun av av' v _ e r => frz_all (hcold z hh) 8 _ _ _ e r) _ _ _ ha e4
  obtain ⟨v, w', E', k1, k2, k3, k4⟩ := h2 ⟨z.w, [], fun _ => False, z.nm⟩ vs e1 e2.none (h0 z) ha'
  obtain ⟨E'', q1, q2, q3⟩ := lent_out e2 hh hv hb k2 k3 k4
  exact ⟨v, w', E'', k1, q1, q2, q3⟩
theorem fin_out {z : Z} {w' : World} {E' : List Pl} {σ σ1 σ' : Heap} {x r : AV} {v : Value} (hh : HeapRel (ctx z z.w z.E nopb) σ) (hlt : ZLt z) (ho : Out z w' E') (hr : HeapRel (ctx z w' E' nopb) σ1) (rv : Rep (ctx z w' E' nopb) x v) (k3 : A.fin σ x σ1 = some (r, σ')) :
  ∃ E'', Out z w' E'' ∧ HeapRel (ctx z w' E'' nopb) σ' ∧ Rep (ctx z w' E'' nopb) r v := by
 unfold A.fin at k3
 split at k3
 ·rename_i he
  simp only [Option.some.injEq, Prod.mk.injEq] at k3
  obtain ⟨rfl, rfl⟩ := k3
  exact ⟨E', ho, by rw [← he]; exact hr, rv⟩
 ·split at k3
  ·rename_i he
   obtain ⟨r', k6, k7⟩ := Option.map_eq_some_iff.1 k3
   simp only [Prod.mk.injEq] at k7
   obtain ⟨rfl, rfl⟩ := k7
   have hlen := hr.len
   simp only [ctx] at hlen
   have hzl : z.E.length = σ.length := hh.len
   have hle2 : σ.length ≤ σ1.length := by
    have := congrArg List.length he
    simp at this; omega
   have htk : ∀ (id : Nat) (p : Pl), id < σ.length → E'[id]? = some p → (E'.take σ.length)[id]? = some p := fun id p hlt' hp => by rw [List.getElem?_take_of_lt hlt']; exact hp
   have htk2 : ∀ (id : Nat) (p : Pl), (E'.take σ.length)[id]? = some p → id < σ.length ∧ E'[id]? = some p := fun id p hp => by
    rw [List.getElem?_take] at hp
    split at hp
    ·exact ⟨by assumption, hp⟩
    ·cases hp
   have hcold : Cold (ctx z w' E' nopb) (ctx z w' (E'.take σ.length) nopb) σ1 σ.length := by
    refine ⟨rfl, rfl, fun b k => ?_, htk, hr, fun id p hge hp k => ?_⟩
    ·rcases k with k | ⟨p, hp, k⟩ | ⟨i, k⟩
     ·exact .inl k
     ·exact .inr (.inl ⟨p, List.mem_of_mem_take hp, k⟩)
     ·cases k
    ·rcases k with k | ⟨q, hq, k⟩ | ⟨i, k⟩
     ·have hb := hlt _ k
      rcases ho.fresh' id p hp with e | ⟨q, hq, _⟩
      ·omega
      ·rw [List.getElem?_eq_none (by omega)] at hq; cases hq
     ·obtain ⟨j, hj, rfl⟩ := List.mem_iff_getElem.1 hq
      obtain ⟨h1, h2⟩ := htk2 j _ (List.getElem?_eq_getElem hj)
      have := hr.inj j id _ p h2 hp k
      omega
     ·cases k
   have heq : ∀ (id : Nat), id < σ.length → σ[id]? = σ1[id]? := fun id hlt' => by
    have h1 : (List.take σ.length σ1)[id]? = σ1[id]? := List.getElem?_take_of_lt hlt'
    rw [he] at h1; exact h1
   have held : Eld (ctx z z.w z.E nopb) (ctx z w' E' nopb) (ctx z w' (E'.take σ.length) nopb) :=
    ⟨rfl, rfl, hcold.X, fun id p0 p e0 e1 => htk id p (by have := (List.getElem?_eq_some_iff.1 e0).1; simp only [ctx] at this; omega) e1⟩
   refine ⟨E'.take σ.length, ?_, ?_, frz_all hcold 8 _ _ _ k6 rv⟩
   ·have o := ho
    exact ⟨o.os, o.tape, o.output, o.size, o.stay, fun i p hp => o.fresh' i p (htk2 i p hp).2, fun i p hp => by
     obtain ⟨p', m1, m2⟩ := o.env i p hp
     exact ⟨p', htk i p' (by have := (List.getElem?_eq_some_iff.1 hp).1; omega) m1, m2⟩, o.lt, o.mine⟩
   ·refine ⟨by simp only [ctx, List.length_take]; omega, fun i j p q hp hq e => hr.inj i j p q (htk2 i p hp).2 (htk2 j q hq).2 e, fun i p x hp hx => ?_⟩
    obtain ⟨hi, hp2⟩ := htk2 i p hp
    have hz0 : z.E[i]? = some z.E[i] := List.getElem?_eq_getElem (by omega)
    exact eldB_rep held (hh.blk i _ x hz0 hx) (hr.blk i p x hp2 (by rw [← heq i hi]; exact hx))
  ·cases k3
theorem Sound.finC {m : List AV → Heap → Option (AV × Heap)} (h : Sound P nm f m) (sh : Sh) (hs : sh.ok = true) : Sound P nm f (A.finC sh m) := by
 intro args σ r σ' e
 unfold A.finC at e
 obtain ⟨⟨x, σ1⟩, e1, e2⟩ := Option.bind_eq_some_iff.1 e
 obtain ⟨⟨y, σ2⟩, e3, e4⟩ := Option.map_eq_some_iff.1 e2
 simp only [Prod.mk.injEq] at e4
 obtain ⟨rfl, rfl⟩ := e4
 rcases h _ _ _ _ e1 with ⟨g, h1, h2⟩ | h2
 ·refine .inl ⟨g, h1, fun z vs k1 k2 hh k4 => ?_⟩
  refine (h2 z vs k1 k2 hh k4).mono ?_
  rintro e w' ⟨v, E', q1, q2, q3, q4⟩
  obtain ⟨E'', p1, p2, p3⟩ := fin_out hh k2 q2 q3 q4 e3
  exact ⟨v, E'', q1, p1, p2, nn_rep _ _ _ hs p3⟩
 ·refine .inr fun z vs k1 k2 hh k4 => ?_
  obtain ⟨v, w', E', q1, q2, q3, q4⟩ := h2 z vs k1 k2 hh k4
  obtain ⟨E'', p1, p2, p3⟩ := fin_out hh k2 q2 q3 q4 e3
  exact ⟨v, w', E'', q1, p1, p2, nn_rep _ _ _ hs p3⟩
theorem Sound.wrap {r : List AV → Heap → Option (AV × Heap)} (h : Sound P nm f r) (ro : Bool) (ain : List Sh) (rout : Sh) (hi : Sh.okL ain = true) (ho : rout.ok = true) : Sound P nm f (A.wrap ro ain rout r) := by
 intro args σ v σ' e
 unfold A.wrap at e
 cases hc : (ro && args.any A.own)
 ·rw [hc] at e
  simp only [cond_false] at e
  obtain ⟨q, e1, e2⟩ := Option.map_eq_some_iff.1 e
  injection e2 with e2 e3
  subst e2 e3
  exact (h _ _ _ _ e1).conv (fun c vs k => nnL_rep _ _ _ hi k) (fun c v k => nn_rep _ _ _ ho k)
 ·rw [hc] at e
  simp only [cond_true] at e
  obtain ⟨args', e1, e2⟩ := Option.bind_eq_some_iff.1 e
  obtain ⟨q, e3, e4⟩ := Option.bind_eq_some_iff.1 e2
  obtain ⟨q1, q2⟩ := q
  simp only at e4
  cases hs : (A.freshT (A.nn rout q1) && q2.all A.freshB)
  ·rw [hs] at e4; cases e4
  ·rw [hs] at e4
   simp only [cond_true, Option.some.injEq, Prod.mk.injEq] at e4
   obtain ⟨rfl, rfl⟩ := e4
   simp only [Bool.and_eq_true] at hs
   exact ((h _ _ _ _ e3).conv (args := args') (fun c vs k => nnL_rep _ _ _ hi k) (fun c v k => nn_rep _ _ _ ho k)).lent e1 hs.1 hs.2
end
theorem Snd.of {X : Fx} {t : List (FuncId × (List AV → Heap → Option (AV × Heap)))} (hc : X.call = A.tab (fun _ _ => none) t) (ht : ∀ p ∈ t, Sound X.P X.nm p.1 p.2) (hd : ∀ f, Sound X.P X.nm f (X.dyn (X.nm.getD f 0))) : Snd X := by
 refine ⟨fun f args σ r σ' h => ?_, fun f => hd f⟩
 rw [hc] at h
 clear hc
 induction t with
 | nil => cases h
 | cons p t ih =>
  obtain ⟨m, x⟩ := p
  simp only [A.tab] at h
  cases hm : (f == m)
  ·rw [hm] at h; exact ih (fun p hp => ht p (List.mem_cons_of_mem _ hp)) h
  ·rw [hm] at h
   have : f = m := by simpa using hm
   subst this
   exact ht (f, x) (List.mem_cons_self) _ _ _ _ h
theorem Sound.none {P : Program} {nm : List Nat} {f : FuncId} : Sound P nm f (fun _ _ => Option.none) := fun _ _ _ _ h => by cases h
theorem All.nil {P : Program} {nm : List Nat} : ∀ p ∈ ([] : List (FuncId × (List AV → Heap → Option (AV × Heap)))), Sound P nm p.1 p.2 := fun _ h => by cases h
theorem All.cons {P : Program} {nm : List Nat} {f : FuncId} {m : List AV → Heap → Option (AV × Heap)} {l : List (FuncId × (List AV → Heap → Option (AV × Heap)))} (h : Sound P nm f m) (t : ∀ p ∈ l, Sound P nm p.1 p.2) : ∀ p ∈ (f, m) :: l, Sound P nm p.1 p.2 :=
 fun p hp => by rcases List.mem_cons.1 hp with rfl | hp; exact h; exact t p hp
theorem DAll.nil {P : Program} {nm : List Nat} : ∀ p ∈ ([] : List (Nat × (List AV → Heap → Option (AV × Heap)))), ∀ f, nm.getD f 0 = p.1 → Sound P nm f p.2 := fun _ h => by cases h
theorem DAll.cons {P : Program} {nm : List Nat} {k : Nat} {m : List AV → Heap → Option (AV × Heap)} {l : List (Nat × (List AV → Heap → Option (AV × Heap)))} (h : ∀ f, nm.getD f 0 = k → Sound P nm f m) (t : ∀ p ∈ l, ∀ f, nm.getD f 0 = p.1 → Sound P nm f p.2) : ∀ p ∈ (k, m) :: l, ∀ f, nm.getD f 0 = p.1 → Sound P nm f p.2 :=
 fun p hp => by rcases List.mem_cons.1 hp with rfl | hp; exact h; exact t p hp
theorem dyn_of {P : Program} {nm : List Nat} {t : List (Nat × (List AV → Heap → Option (AV × Heap)))} (ht : ∀ p ∈ t, ∀ f, nm.getD f 0 = p.1 → Sound P nm f p.2) (f : FuncId) : Sound P nm f (A.tab (fun _ _ => Option.none) t (nm.getD f 0)) := by
 induction t with
 | nil => exact Sound.none
 | cons p t ih =>
  obtain ⟨k, x⟩ := p
  simp only [A.tab]
  cases hm : (nm.getD f 0 == k)
  ·exact ih (fun p hp => ht p (List.mem_cons_of_mem _ hp))
  ·exact ht (k, x) List.mem_cons_self f (by simpa using hm)
theorem nm_one {nm : List Nat} {k g : Nat} (h : (nm.zipIdx.filter fun p => p.1 == k) = [(k, g)]) (hk : (0 == k) = false) {f : Nat} (hf : nm.getD f 0 = k) : f = g := by
 have hlt : f < nm.length := by
  rcases Nat.lt_or_ge f nm.length with e | e
  ·exact e
  ·simp only [List.getD, List.getElem?_eq_none e, Option.getD_none] at hf; subst hf; simp at hk
 have : (k, f) ∈ nm.zipIdx.filter fun p => p.1 == k := by
  refine List.mem_filter.2 ⟨List.mem_iff_getElem?.2 ⟨f, ?_⟩, by simp⟩
  simp only [List.getD] at hf
  rw [List.getElem?_eq_getElem hlt] at hf
  simp [List.getElem?_eq_getElem hlt, ← hf]
 rw [h] at this
 simpa using this
theorem nm_sound {P : Program} {nm : List Nat} {k g : Nat} {m : List AV → Heap → Option (AV × Heap)} (hs : Sound P nm g m) (h : (nm.zipIdx.filter fun p => p.1 == k) = [(k, g)]) (hk : (0 == k) = false) : ∀ f, nm.getD f 0 = k → Sound P nm f m :=
 fun f hf => by have e := nm_one h hk hf; subst e; exact hs
def fuel (F : (Nat → List AV → Heap → Option (AV × Heap)) → List (Nat × (List AV → Heap → Option (AV × Heap)))) : Nat → Nat → List AV → Heap → Option (AV × Heap)
 | 0, _ => fun _ _ => none
 | n + 1, k => A.tab (fun _ _ => none) (F (fuel F n)) k
theorem fuel_sound {P : Program} {nm : List Nat} {F : (Nat → List AV → Heap → Option (AV × Heap)) → List (Nat × (List AV → Heap → Option (AV × Heap)))}
  (h : ∀ rec, (∀ f, Sound P nm f (rec (nm.getD f 0))) → ∀ p ∈ F rec, ∀ f, nm.getD f 0 = p.1 → Sound P nm f p.2) : ∀ n f, Sound P nm f (fuel F n (nm.getD f 0))
 | 0, f => Sound.none
 | n + 1, f => dyn_of (h (fuel F n) (fuel_sound h n)) f
namespace A
set_option linter.unusedSectionVars false
def ar1 (f : AV → Heap → Option (AV × Heap)) : List AV → Heap → Option (AV × Heap)
 | [x0], σ => f x0 σ
 | _, _ => none
def ar2 (f : AV → AV → Heap → Option (AV × Heap)) : List AV → Heap → Option (AV × Heap)
 | [x0, x1], σ => f x0 x1 σ
 | _, _ => none
def ar3 (f : AV → AV → AV → Heap → Option (AV × Heap)) : List AV → Heap → Option (AV × Heap)
 | [x0, x1, x2], σ => f x0 x1 x2 σ
 | _, _ => none
def ar4 (f : AV → AV → AV → AV → Heap → Option (AV × Heap)) : List AV → Heap → Option (AV × Heap)
 | [x0, x1, x2, x3], σ => f x0 x1 x2 x3 σ
 | _, _ => none
def ar5 (f : AV → AV → AV → AV → AV → Heap → Option (AV × Heap)) : List AV → Heap → Option (AV × Heap)
 | [x0, x1, x2, x3, x4], σ => f x0 x1 x2 x3 x4 σ
 | _, _ => none
def ar6 (f : AV → AV → AV → AV → AV → AV → Heap → Option (AV × Heap)) : List AV → Heap → Option (AV × Heap)
 | [x0, x1, x2, x3, x4, x5], σ => f x0 x1 x2 x3 x4 x5 σ
 | _, _ => none
def ar7 (f : AV → AV → AV → AV → AV → AV → AV → Heap → Option (AV × Heap)) : List AV → Heap → Option (AV × Heap)
 | [x0, x1, x2, x3, x4, x5, x6], σ => f x0 x1 x2 x3 x4 x5 x6 σ
 | _, _ => none
end A
section
variable {X : Fx} {f : FuncId} {fn : Func} {ann : Ann}
theorem Sound.runL {m : List AV → Heap → Option (AV × Heap)} (keep : Back) (hkeep : keep.Ok) (hs : Snd X) (hf : X.P.funcs[f]? = some fn) (hc : ∀ aas w, (callFunc f aas).run X.P w = .ok (.enter f aas) w) (he : ∀ args (σ : Heap) r, m args σ = some r → runA X keep ann fn args σ = some r) : Sound X.P X.nm f m :=
 fun args σ r σ' h => runA_sound hs hkeep hf hc (he args σ (r, σ') h)
theorem Sound.run1 {m : AV → Heap → Option (AV × Heap)} (keep : Back) (hkeep : keep.Ok) (hs : Snd X) (hf : X.P.funcs[f]? = some fn) (hc : ∀ aas w, (callFunc f aas).run X.P w = .ok (.enter f aas) w) (he : ∀ (x0 : AV) (σ : Heap), runA X keep ann fn [x0] σ = m x0 σ) : Sound X.P X.nm f (A.ar1 m) := by
 intro args σ r σ' h
 unfold A.ar1 at h
 split at h
 ·exact runA_sound hs hkeep hf hc ((he _ _).trans h)
 ·cases h
theorem Sound.run2 {m : AV → AV → Heap → Option (AV × Heap)} (keep : Back) (hkeep : keep.Ok) (hs : Snd X) (hf : X.P.funcs[f]? = some fn) (hc : ∀ aas w, (callFunc f aas).run X.P w = .ok (.enter f aas) w) (he : ∀ (x0 x1 : AV) (σ : Heap), runA X keep ann fn [x0, x1] σ = m x0 x1 σ) : Sound X.P X.nm f (A.ar2 m) := by
 intro args σ r σ' h
 unfold A.ar2 at h
 split at h
 ·exact runA_sound hs hkeep hf hc ((he _ _ _).trans h)
 ·cases h
theorem Sound.run3 {m : AV → AV → AV → Heap → Option (AV × Heap)} (keep : Back) (hkeep : keep.Ok) (hs : Snd X) (hf : X.P.funcs[f]? = some fn) (hc : ∀ aas w, (callFunc f aas).run X.P w = .ok (.enter f aas) w) (he : ∀ (x0 x1 x2 : AV) (σ : Heap), runA X keep ann fn [x0, x1, x2] σ = m x0 x1 x2 σ) : Sound X.P X.nm f (A.ar3 m) := by
 intro args σ r σ' h
 unfold A.ar3 at h
 split at h
 ·exact runA_sound hs hkeep hf hc ((he _ _ _ _).trans h)
 ·cases h
theorem Sound.run4 {m : AV → AV → AV → AV → Heap → Option (AV × Heap)} (keep : Back) (hkeep : keep.Ok) (hs : Snd X) (hf : X.P.funcs[f]? = some fn) (hc : ∀ aas w, (callFunc f aas).run X.P w = .ok (.enter f aas) w) (he : ∀ (x0 x1 x2 x3 : AV) (σ : Heap), runA X keep ann fn [x0, x1, x2, x3] σ = m x0 x1 x2 x3 σ) : Sound X.P X.nm f (A.ar4 m) := by
 intro args σ r σ' h
 unfold A.ar4 at h
 split at h
 ·exact runA_sound hs hkeep hf hc ((he _ _ _ _ _).trans h)
 ·cases h
theorem Sound.run5 {m : AV → AV → AV → AV → AV → Heap → Option (AV × Heap)} (keep : Back) (hkeep : keep.Ok) (hs : Snd X) (hf : X.P.funcs[f]? = some fn) (hc : ∀ aas w, (callFunc f aas).run X.P w = .ok (.enter f aas) w) (he : ∀ (x0 x1 x2 x3 x4 : AV) (σ : Heap), runA X keep ann fn [x0, x1, x2, x3, x4] σ = m x0 x1 x2 x3 x4 σ) : Sound X.P X.nm f (A.ar5 m) := by
 intro args σ r σ' h
 unfold A.ar5 at h
 split at h
 ·exact runA_sound hs hkeep hf hc ((he _ _ _ _ _ _).trans h)
 ·cases h
theorem Sound.run6 {m : AV → AV → AV → AV → AV → AV → Heap → Option (AV × Heap)} (keep : Back) (hkeep : keep.Ok) (hs : Snd X) (hf : X.P.funcs[f]? = some fn) (hc : ∀ aas w, (callFunc f aas).run X.P w = .ok (.enter f aas) w) (he : ∀ (x0 x1 x2 x3 x4 x5 : AV) (σ : Heap), runA X keep ann fn [x0, x1, x2, x3, x4, x5] σ = m x0 x1 x2 x3 x4 x5 σ) : Sound X.P X.nm f (A.ar6 m) := by
 intro args σ r σ' h
 unfold A.ar6 at h
 split at h
 ·exact runA_sound hs hkeep hf hc ((he _ _ _ _ _ _ _).trans h)
 ·cases h
theorem Sound.run7 {m : AV → AV → AV → AV → AV → AV → AV → Heap → Option (AV × Heap)} (keep : Back) (hkeep : keep.Ok) (hs : Snd X) (hf : X.P.funcs[f]? = some fn) (hc : ∀ aas w, (callFunc f aas).run X.P w = .ok (.enter f aas) w) (he : ∀ (x0 x1 x2 x3 x4 x5 x6 : AV) (σ : Heap), runA X keep ann fn [x0, x1, x2, x3, x4, x5, x6] σ = m x0 x1 x2 x3 x4 x5 x6 σ) : Sound X.P X.nm f (A.ar7 m) := by
 intro args σ r σ' h
 unfold A.ar7 at h
 split at h
 ·exact runA_sound hs hkeep hf hc ((he _ _ _ _ _ _ _ _).trans h)
 ·cases h
end
end Go.Proofs.YtkdafecbdncmiaaDoor

namespace Go.Proofs.YtkdafecbdncmiaaDoor
set_option linter.unusedSectionVars false
set_option linter.unusedSimpArgs false
set_option linter.unusedVariables false
set_option maxRecDepth 100000
noncomputable def nmT : List Nat := [0, 0, 0, 468, 473, 0, 0, 463, 467, 39, 49, 458, 53, 471, 469, 472, 36, 35, 0, 0, 500, 462, 466, 37, 38, 46, 48, 14, 139, 44, 74, 76, 79, 52, 470, 490, 475, 0, 476, 487, 492, 498, 493, 495, 499, 0, 461, 465, 1, 4, 47, 69, 13, 71, 73, 2, 138, 42, 43, 41, 75, 454, 456, 457, 77, 78, 474, 489, 477, 491, 497, 494, 0, 464, 63, 66, 67, 68, 70, 72, 0, 40, 455, 9, 0, 488, 0, 496, 0, 0, 62, 65, 64, 0, 0, 0, 0, 0, 0, 0, 59, 60, 61, 0, 0, 0, 0, 257, 0, 0, 0, 58, 0, 0, 0, 0, 0, 0, 0, 0, 0, 0, 0, 479, 478, 480, 483, 482, 0, 0, 0, 0, 486, 481, 0, 0, 0, 0, 0, 0, 0, 0, 0, 484, 485, 0, 0, 0, 0, 0, 0, 0, 0, 0, 0, 0, 0, 0, 0, 0, 0, 0, 0, 0, 0, 0, 0, 0, 0, 0, 0, 0, 0, 0, 0, 0, 0]
section
variable {l : List (FuncId × (List AV → Heap → Option (AV × Heap)))} {f : FuncId} {fn : Func} {ro : Bool} {ain : List Sh} {rout : Sh}
noncomputable def fxT (l : List (FuncId × (List AV → Heap → Option (AV × Heap)))) (L : List Nat) (n : Nat) : Fx := ⟨Tryd.prog, nmT, A.tab (fun _ _ => none) l, fun _ _ _ => none, L, [], n, []⟩
theorem q1 {m : AV → Heap → Option (AV × Heap)} (L : List Nat) (n : Nat) (ann : Ann) (h : ∀ p ∈ l, Sound Tryd.prog nmT p.1 p.2) (hf : Tryd.prog.funcs[f]? = some fn) (hc : ∀ aas w, (callFunc f aas).run Tryd.prog w = .ok (.enter f aas) w) (he : ∀ (x0 : AV) (σ : Heap), runA (fxT l L n) .F ann fn [x0] σ = m x0 σ) (hi : Sh.okL ain = true) (ho : rout.ok = true) : Sound Tryd.prog nmT f (A.wrap ro ain rout (A.ar1 m)) := Sound.wrap (Sound.run1 .F trivial (Snd.of rfl h fun _ => Sound.none) hf hc he) _ _ _ hi ho
theorem q2 {m : AV → AV → Heap → Option (AV × Heap)} (L : List Nat) (n : Nat) (ann : Ann) (h : ∀ p ∈ l, Sound Tryd.prog nmT p.1 p.2) (hf : Tryd.prog.funcs[f]? = some fn) (hc : ∀ aas w, (callFunc f aas).run Tryd.prog w = .ok (.enter f aas) w) (he : ∀ (x0 x1 : AV) (σ : Heap), runA (fxT l L n) .F ann fn [x0, x1] σ = m x0 x1 σ) (hi : Sh.okL ain = true) (ho : rout.ok = true) : Sound Tryd.prog nmT f (A.wrap ro ain rout (A.ar2 m)) := Sound.wrap (Sound.run2 .F trivial (Snd.of rfl h fun _ => Sound.none) hf hc he) _ _ _ hi ho
theorem q3 {m : AV → AV → AV → Heap → Option (AV × Heap)} (L : List Nat) (n : Nat) (ann : Ann) (h : ∀ p ∈ l, Sound Tryd.prog nmT p.1 p.2) (hf : Tryd.prog.funcs[f]? = some fn) (hc : ∀ aas w, (callFunc f aas).run Tryd.prog w = .ok (.enter f aas) w) (he : ∀ (x0 x1 x2 : AV) (σ : Heap), runA (fxT l L n) .F ann fn [x0, x1, x2] σ = m x0 x1 x2 σ) (hi : Sh.okL ain = true) (ho : rout.ok = true) : Sound Tryd.prog nmT f (A.wrap ro ain rout (A.ar3 m)) := Sound.wrap (Sound.run3 .F trivial (Snd.of rfl h fun _ => Sound.none) hf hc he) _ _ _ hi ho
theorem q4 {m : AV → AV → AV → AV → Heap → Option (AV × Heap)} (L : List Nat) (n : Nat) (ann : Ann) (h : ∀ p ∈ l, Sound Tryd.prog nmT p.1 p.2) (hf : Tryd.prog.funcs[f]? = some fn) (hc : ∀ aas w, (callFunc f aas).run Tryd.prog w = .ok (.enter f aas) w) (he : ∀ (x0 x1 x2 x3 : AV) (σ : Heap), runA (fxT l L n) .F ann fn [x0, x1, x2, x3] σ = m x0 x1 x2 x3 σ) (hi : Sh.okL ain = true) (ho : rout.ok = true) : Sound Tryd.prog nmT f (A.wrap ro ain rout (A.ar4 m)) := Sound.wrap (Sound.run4 .F trivial (Snd.of rfl h fun _ => Sound.none) hf hc he) _ _ _ hi ho
theorem q5 {m : AV → AV → AV → AV → AV → Heap → Option (AV × Heap)} (L : List Nat) (n : Nat) (ann : Ann) (h : ∀ p ∈ l, Sound Tryd.prog nmT p.1 p.2) (hf : Tryd.prog.funcs[f]? = some fn) (hc : ∀ aas w, (callFunc f aas).run Tryd.prog w = .ok (.enter f aas) w) (he : ∀ (x0 x1 x2 x3 x4 : AV) (σ : Heap), runA (fxT l L n) .F ann fn [x0, x1, x2, x3, x4] σ = m x0 x1 x2 x3 x4 σ) (hi : Sh.okL ain = true) (ho : rout.ok = true) : Sound Tryd.prog nmT f (A.wrap ro ain rout (A.ar5 m)) := Sound.wrap (Sound.run5 .F trivial (Snd.of rfl h fun _ => Sound.none) hf hc he) _ _ _ hi ho
theorem q6 {m : AV → AV → AV → AV → AV → AV → Heap → Option (AV × Heap)} (L : List Nat) (n : Nat) (ann : Ann) (h : ∀ p ∈ l, Sound Tryd.prog nmT p.1 p.2) (hf : Tryd.prog.funcs[f]? = some fn) (hc : ∀ aas w, (callFunc f aas).run Tryd.prog w = .ok (.enter f aas) w) (he : ∀ (x0 x1 x2 x3 x4 x5 : AV) (σ : Heap), runA (fxT l L n) .F ann fn [x0, x1, x2, x3, x4, x5] σ = m x0 x1 x2 x3 x4 x5 σ) (hi : Sh.okL ain = true) (ho : rout.ok = true) : Sound Tryd.prog nmT f (A.wrap ro ain rout (A.ar6 m)) := Sound.wrap (Sound.run6 .F trivial (Snd.of rfl h fun _ => Sound.none) hf hc he) _ _ _ hi ho
theorem q7 {m : AV → AV → AV → AV → AV → AV → AV → Heap → Option (AV × Heap)} (L : List Nat) (n : Nat) (ann : Ann) (h : ∀ p ∈ l, Sound Tryd.prog nmT p.1 p.2) (hf : Tryd.prog.funcs[f]? = some fn) (hc : ∀ aas w, (callFunc f aas).run Tryd.prog w = .ok (.enter f aas) w) (he : ∀ (x0 x1 x2 x3 x4 x5 x6 : AV) (σ : Heap), runA (fxT l L n) .F ann fn [x0, x1, x2, x3, x4, x5, x6] σ = m x0 x1 x2 x3 x4 x5 x6 σ) (hi : Sh.okL ain = true) (ho : rout.ok = true) : Sound Tryd.prog nmT f (A.wrap ro ain rout (A.ar7 m)) := Sound.wrap (Sound.run7 .F trivial (Snd.of rfl h fun _ => Sound.none) hf hc he) _ _ _ hi ho
end
end Go.Proofs.YtkdafecbdncmiaaDoor

namespace Go.Proofs.YtkdafecbdncmiaaDoor
set_option linter.unusedSectionVars false
set_option linter.unusedVariables false
set_option linter.unusedSimpArgs false
abbrev inI (n : Int) : Prop := -9223372036854775808 ≤ n ∧ n ≤ 9223372036854775807
abbrev mxl : Nat := 9223372036854775807
def memB {κ : Type} [DecidableEq κ] (k : κ) (S : List κ) : Bool := S.any fun x => decide (x = k)
theorem memB_iff {κ : Type} [DecidableEq κ] {k : κ} {S : List κ} : memB k S = true ↔ k ∈ S := by
 simp only [memB, List.any_eq_true, decide_eq_true_eq]
 exact ⟨fun ⟨x, h, e⟩ => e ▸ h, fun h => ⟨k, h, rfl⟩⟩
theorem memB_false {κ : Type} [DecidableEq κ] {k : κ} {S : List κ} : memB k S = false ↔ k ∉ S := by
 rw [← memB_iff]; simp
def cInt (n : Int) : List AV := [.int .i64 n]
def cStr (s : ByteArray) : List AV := [.str s]
def sl {α : Type} (sz : Nat) (c : α → List AV) (l : List α) : AV := .sl sz (l.map c)
def okL {α : Type} (p : α → Prop) (l : List α) : Prop := l.length ≤ mxl ∧ ∀ x ∈ l, p x
def okS (s : ByteArray) : Prop := s.size ≤ mxl
theorem p1_cInt (n : Int) : A.part1 0 (cInt n) = some (.int .i64 n) := rfl
theorem p1_cStr (s : ByteArray) : A.part1 0 (cStr s) = some (.str s) := rfl

structure PointD where
 time : Int
 way : Int
deriving DecidableEq
structure CurveD where
 kind : Int
 points : (List PointD)
structure FadeD where
 frm : Int
 to : Int
 start : Int
 delay : Int
 time : Int
 curve : CurveD
structure ChangeD where
 time : Int
 level : Int
deriving DecidableEq
structure RangeD where
 low : Int
 high : Int
 name : ByteArray
deriving DecidableEq
def cRange (x : RangeD) : List AV := [.int .i64 x.low, .int .i64 x.high, .str x.name]
theorem cRange_len (x : RangeD) : (cRange x).length = 3 := rfl
def okRange (x : RangeD) : Prop := inI x.low ∧ inI x.high ∧ okS x.name
theorem p1_cRange_0 (x : RangeD) : A.part1 0 (cRange x) = some (.int .i64 x.low) := rfl
theorem p1_cRange_1 (x : RangeD) : A.part1 1 (cRange x) = some (.int .i64 x.high) := rfl
theorem p1_cRange_2 (x : RangeD) : A.part1 2 (cRange x) = some (.str x.name) := rfl
theorem pA_cRange (x : RangeD) : A.partA 0 3 (cRange x) = some (.agg (cRange x)) := rfl
theorem ce_cRange (x : RangeD) : A.cells 3 (.agg (cRange x)) = some (cRange x) := rfl
theorem sp_cRange (x : RangeD) (l : List AV) (h : l.length = 3) : A.splice 0 (cRange x) l = some (cRange x) := by
 simp [A.splice, cRange_len, h]
structure ParamD where
 name : ByteArray
 group : Int
 att : Int
 fine : Int
 default : Int
 snap : Bool
 ranges : (List RangeD)
def cParam (x : ParamD) : List AV := [.str x.name, .int .i64 x.group, .int .i64 x.att, .int .i64 x.fine, .int .i64 x.default, .bool x.snap, sl 3 cRange x.ranges]
theorem cParam_len (x : ParamD) : (cParam x).length = 7 := rfl
def okParam (x : ParamD) : Prop := okS x.name ∧ inI x.group ∧ inI x.att ∧ inI x.fine ∧ inI x.default ∧ (okL okRange) x.ranges
theorem p1_cParam_0 (x : ParamD) : A.part1 0 (cParam x) = some (.str x.name) := rfl
theorem p1_cParam_1 (x : ParamD) : A.part1 1 (cParam x) = some (.int .i64 x.group) := rfl
theorem p1_cParam_2 (x : ParamD) : A.part1 2 (cParam x) = some (.int .i64 x.att) := rfl
theorem p1_cParam_3 (x : ParamD) : A.part1 3 (cParam x) = some (.int .i64 x.fine) := rfl
theorem p1_cParam_4 (x : ParamD) : A.part1 4 (cParam x) = some (.int .i64 x.default) := rfl
theorem p1_cParam_5 (x : ParamD) : A.part1 5 (cParam x) = some (.bool x.snap) := rfl
theorem p1_cParam_6 (x : ParamD) : A.part1 6 (cParam x) = some (sl 3 cRange x.ranges) := rfl
theorem pA_cParam (x : ParamD) : A.partA 0 7 (cParam x) = some (.agg (cParam x)) := rfl
theorem ce_cParam (x : ParamD) : A.cells 7 (.agg (cParam x)) = some (cParam x) := rfl
theorem sp_cParam (x : ParamD) (l : List AV) (h : l.length = 7) : A.splice 0 (cParam x) l = some (cParam x) := by
 simp [A.splice, cParam_len, h]
structure ProfileD where
 name : ByteArray
 size : Int
 params : (List ParamD)
def cProfile (x : ProfileD) : List AV := [.str x.name, .int .i64 x.size, sl 7 cParam x.params]
theorem cProfile_len (x : ProfileD) : (cProfile x).length = 3 := rfl
def okProfile (x : ProfileD) : Prop := okS x.name ∧ inI x.size ∧ (okL okParam) x.params
theorem p1_cProfile_0 (x : ProfileD) : A.part1 0 (cProfile x) = some (.str x.name) := rfl
theorem p1_cProfile_1 (x : ProfileD) : A.part1 1 (cProfile x) = some (.int .i64 x.size) := rfl
theorem p1_cProfile_2 (x : ProfileD) : A.part1 2 (cProfile x) = some (sl 7 cParam x.params) := rfl
theorem pA_cProfile (x : ProfileD) : A.partA 0 3 (cProfile x) = some (.agg (cProfile x)) := rfl
theorem ce_cProfile (x : ProfileD) : A.cells 3 (.agg (cProfile x)) = some (cProfile x) := rfl
theorem sp_cProfile (x : ProfileD) (l : List AV) (h : l.length = 3) : A.splice 0 (cProfile x) l = some (cProfile x) := by
 simp [A.splice, cProfile_len, h]
structure UnitD where
 number : Int
 profile : ByteArray
 univ : Int
 address : Int
deriving DecidableEq
def cUnit (x : UnitD) : List AV := [.int .i64 x.number, .str x.profile, .int .i64 x.univ, .int .i64 x.address]
theorem cUnit_len (x : UnitD) : (cUnit x).length = 4 := rfl
def okUnit (x : UnitD) : Prop := inI x.number ∧ okS x.profile ∧ inI x.univ ∧ inI x.address
theorem p1_cUnit_0 (x : UnitD) : A.part1 0 (cUnit x) = some (.int .i64 x.number) := rfl
theorem p1_cUnit_1 (x : UnitD) : A.part1 1 (cUnit x) = some (.str x.profile) := rfl
theorem p1_cUnit_2 (x : UnitD) : A.part1 2 (cUnit x) = some (.int .i64 x.univ) := rfl
theorem p1_cUnit_3 (x : UnitD) : A.part1 3 (cUnit x) = some (.int .i64 x.address) := rfl
theorem pA_cUnit (x : UnitD) : A.partA 0 4 (cUnit x) = some (.agg (cUnit x)) := rfl
theorem ce_cUnit (x : UnitD) : A.cells 4 (.agg (cUnit x)) = some (cUnit x) := rfl
theorem sp_cUnit (x : UnitD) (l : List AV) (h : l.length = 4) : A.splice 0 (cUnit x) l = some (cUnit x) := by
 simp [A.splice, cUnit_len, h]
structure RigD where
 library : (List ProfileD)
 units : (List UnitD)
def cRig (x : RigD) : List AV := [sl 3 cProfile x.library, sl 4 cUnit x.units]
theorem cRig_len (x : RigD) : (cRig x).length = 2 := rfl
def okRig (x : RigD) : Prop := (okL okProfile) x.library ∧ (okL okUnit) x.units
theorem p1_cRig_0 (x : RigD) : A.part1 0 (cRig x) = some (sl 3 cProfile x.library) := rfl
theorem p1_cRig_1 (x : RigD) : A.part1 1 (cRig x) = some (sl 4 cUnit x.units) := rfl
theorem pA_cRig (x : RigD) : A.partA 0 2 (cRig x) = some (.agg (cRig x)) := rfl
theorem ce_cRig (x : RigD) : A.cells 2 (.agg (cRig x)) = some (cRig x) := rfl
theorem sp_cRig (x : RigD) (l : List AV) (h : l.length = 2) : A.splice 0 (cRig x) l = some (cRig x) := by
 simp [A.splice, cRig_len, h]
structure KeyD where
 unit : Int
 param : ByteArray
deriving DecidableEq
def cKey (x : KeyD) : List AV := [.int .i64 x.unit, .str x.param]
theorem cKey_len (x : KeyD) : (cKey x).length = 2 := rfl
def okKey (x : KeyD) : Prop := inI x.unit ∧ okS x.param
theorem sp_cKey (x : KeyD) (l : List AV) (h : l.length = 2) : A.splice 0 (cKey x) l = some (cKey x) := by
 simp [A.splice, cKey_len, h]
structure SettingD where
 key : KeyD
 level : Int
deriving DecidableEq
def cSetting (x : SettingD) : List AV := [.int .i64 x.key.unit, .str x.key.param, .int .i64 x.level]
theorem cSetting_len (x : SettingD) : (cSetting x).length = 3 := rfl
def okSetting (x : SettingD) : Prop := okKey x.key ∧ inI x.level
theorem p1_cSetting_0 (x : SettingD) : A.part1 0 (cSetting x) = some (.int .i64 x.key.unit) := rfl
theorem pA_cSetting (x : SettingD) : A.partA 0 3 (cSetting x) = some (.agg (cSetting x)) := rfl
theorem ce_cSetting (x : SettingD) : A.cells 3 (.agg (cSetting x)) = some (cSetting x) := rfl
theorem sp_cSetting (x : SettingD) (l : List AV) (h : l.length = 3) : A.splice 0 (cSetting x) l = some (cSetting x) := by
 simp [A.splice, cSetting_len, h]
structure PresetD where
 number : Int
 title : ByteArray
 settings : (List SettingD)
def cPreset (x : PresetD) : List AV := [.int .i64 x.number, .str x.title, sl 3 cSetting x.settings]
theorem cPreset_len (x : PresetD) : (cPreset x).length = 3 := rfl
def okPreset (x : PresetD) : Prop := inI x.number ∧ okS x.title ∧ (okL okSetting) x.settings
theorem p1_cPreset_0 (x : PresetD) : A.part1 0 (cPreset x) = some (.int .i64 x.number) := rfl
theorem p1_cPreset_2 (x : PresetD) : A.part1 2 (cPreset x) = some (sl 3 cSetting x.settings) := rfl
theorem pA_cPreset (x : PresetD) : A.partA 0 3 (cPreset x) = some (.agg (cPreset x)) := rfl
theorem ce_cPreset (x : PresetD) : A.cells 3 (.agg (cPreset x)) = some (cPreset x) := rfl
theorem sp_cPreset (x : PresetD) (l : List AV) (h : l.length = 3) : A.splice 0 (cPreset x) l = some (cPreset x) := by
 simp [A.splice, cPreset_len, h]
structure FanD where
 corners : (List Int)
 block : Int
 wings : Int
structure ValueD where
 level : Int
 preset : Int
deriving DecidableEq
structure MoveD where
 key : KeyD
 value : ValueD
 release : Bool
 timed : Bool
 delay : Int
 time : Int
deriving DecidableEq
structure CueD where
 number : Int
 title : ByteArray
 delay : Int
 up : Int
 down : Int
 other : Int
 curve : CurveD
 block : Bool
 follow : Int
 moves : (List MoveD)
structure EntryD where
 key : KeyD
 value : ValueD
 cue : Int
deriving DecidableEq
structure MarkD where
 unit : Int
 frm : Int
 to : Int
deriving DecidableEq
structure ListD where
 number : Int
 cues : (List CueD)
structure PlaybackD where
 number : Int
 list : Int
 priority : Int
deriving DecidableEq
structure SetupD where
 rig : RigD
 presets : (List PresetD)
 lists : (List ListD)
 playbacks : (List PlaybackD)
structure ActionD where
 time : Int
 kind : Int
 playback : Int
 cue : Int
 level : Int
deriving DecidableEq
structure EventD where
 att : Int
 action : ActionD
deriving DecidableEq
structure StampD where
 hours : Int
 minutes : Int
 seconds : Int
 frames : Int
deriving DecidableEq
structure RunD where
 key : KeyD
 fade : FadeD
 claim : Int
 ending : Bool
structure StandingD where
 playback : Int
 cue : Int
 fader : Int
 paused : Bool
 follow : Int
 runs : (List RunD)
structure EffectStepD where
 level : Int
 hold : Int
 fade : Int
deriving DecidableEq
structure EffectD where
 form : Int
 low : Int
 high : Int
 cycle : Int
 width : Int
 spread : Int
 back : Bool
 relative : Bool
 steps : (List EffectStepD)
structure RateD where
 time : Int
 percent : Int
deriving DecidableEq
structure RunningD where
 effect : EffectD
 keys : (List KeyD)
 start : Int
 rates : (List RateD)
 inn : Int
 fin : Int
 out : Int
end Go.Proofs.YtkdafecbdncmiaaDoor

namespace Go.Proofs.YtkdafecbdncmiaaDoor
set_option linter.unusedSectionVars false
set_option linter.unusedSimpArgs false
set_option linter.unusedVariables false
def m_strings_Compare : List AV → Heap → Option (AV × Heap) := A.ar2 fun a b σ => match a, b with
 | .str a, .str b => some (.int .i64 (Lib.compareBytes a.data.toList b.data.toList), σ)
 | _, _ => none
end Go.Proofs.YtkdafecbdncmiaaDoor

namespace Go.Proofs.YtkdafecbdncmiaaDoor
set_option linter.unusedSectionVars false
set_option linter.unusedSimpArgs false
set_option linter.unusedVariables false
set_option maxRecDepth 100000
noncomputable def r_slices_IndexFunc_api_Profile (dyn : Nat → List AV → Heap → Option (AV × Heap)) (a0 a1 : AV) (σ : Heap) : Option (AV × Heap) :=
 (A.lenS a0).bind fun x1 =>
 (A.loop (fun v2 s3 =>
   (A.lss (v2.getD 1 AV.undef) x1).bind fun x5 =>
   A.cond x5 (
    (A.iaddr 3 a0 (v2.getD 1 AV.undef)).bind fun x6 =>
    ((A.deref x6 s3).bind fun c7 => A.partA 0 3 c7).bind fun x8 =>
    (A.callv dyn a1 [x8] s3).bind fun r9 =>
    A.cond r9.1 (
     some (AX.ret, [(v2.getD 1 AV.undef), (v2.getD 1 AV.undef)], r9.2)) (
     (A.add (v2.getD 1 AV.undef) (AV.int .i64 1)).bind fun x10 =>
     some (AX.normal, [(v2.getD 0 AV.undef), x10], r9.2))) (
    some (AX.exit 0, [(v2.getD 0 AV.undef), (v2.getD 1 AV.undef)], s3))) [(AV.int .i64 0), (AV.int .i64 0)] σ).bind fun r11 =>
 bif r11.1 == AX.exit 0 then (
  A.fin σ (AV.int .i64 (-1)) r11.2.2) else
 bif r11.1 == AX.ret then (
  A.fin σ (r11.2.1.getD 0 AV.undef) r11.2.2) else
 none
noncomputable def m_slices_IndexFunc_api_Profile (dyn : Nat → List AV → Heap → Option (AV × Heap)) : List AV → Heap → Option (AV × Heap) := A.wrap true [(.s 3)] .k (A.ar2 (r_slices_IndexFunc_api_Profile dyn))
noncomputable def r_slices_Index_int (a0 a1 : AV) (σ : Heap) : Option (AV × Heap) :=
 (A.lenS a0).bind fun x1 =>
 (A.loop (fun v2 s3 =>
   (A.lss (v2.getD 1 AV.undef) x1).bind fun x5 =>
   A.cond x5 (
    (A.iaddr 1 a0 (v2.getD 1 AV.undef)).bind fun x6 =>
    ((A.deref x6 s3).bind fun c7 => A.part1 0 c7).bind fun x8 =>
    (A.eql .i a1 x8).bind fun x9 =>
    A.cond x9 (
     some (AX.ret, [(v2.getD 1 AV.undef), (v2.getD 1 AV.undef)], s3)) (
     (A.add (v2.getD 1 AV.undef) (AV.int .i64 1)).bind fun x10 =>
     some (AX.normal, [(v2.getD 0 AV.undef), x10], s3))) (
    some (AX.exit 0, [(v2.getD 0 AV.undef), (v2.getD 1 AV.undef)], s3))) [(AV.int .i64 0), (AV.int .i64 0)] σ).bind fun r11 =>
 bif r11.1 == AX.exit 0 then (
  A.fin σ (AV.int .i64 (-1)) r11.2.2) else
 bif r11.1 == AX.ret then (
  A.fin σ (r11.2.1.getD 0 AV.undef) r11.2.2) else
 none
noncomputable def m_slices_Index_int : List AV → Heap → Option (AV × Heap) := A.wrap true [(.s 1)] .k (A.ar2 r_slices_Index_int)
noncomputable def r_slices_Contains_int (a0 a1 : AV) (σ : Heap) : Option (AV × Heap) :=
 (m_slices_Index_int [a0, a1] σ).bind fun r1 =>
 (A.geq r1.1 (AV.int .i64 0)).bind fun x2 =>
 A.fin σ x2 r1.2
noncomputable def m_slices_Contains_int : List AV → Heap → Option (AV × Heap) := A.wrap true [(.s 1)] .k (A.ar2 r_slices_Contains_int)
noncomputable def r_slices_IndexFunc_int (dyn : Nat → List AV → Heap → Option (AV × Heap)) (a0 a1 : AV) (σ : Heap) : Option (AV × Heap) :=
 (A.lenS a0).bind fun x1 =>
 (A.loop (fun v2 s3 =>
   (A.lss (v2.getD 1 AV.undef) x1).bind fun x5 =>
   A.cond x5 (
    (A.iaddr 1 a0 (v2.getD 1 AV.undef)).bind fun x6 =>
    ((A.deref x6 s3).bind fun c7 => A.part1 0 c7).bind fun x8 =>
    (A.callv dyn a1 [x8] s3).bind fun r9 =>
    A.cond r9.1 (
     some (AX.ret, [(v2.getD 1 AV.undef), (v2.getD 1 AV.undef)], r9.2)) (
     (A.add (v2.getD 1 AV.undef) (AV.int .i64 1)).bind fun x10 =>
     some (AX.normal, [(v2.getD 0 AV.undef), x10], r9.2))) (
    some (AX.exit 0, [(v2.getD 0 AV.undef), (v2.getD 1 AV.undef)], s3))) [(AV.int .i64 0), (AV.int .i64 0)] σ).bind fun r11 =>
 bif r11.1 == AX.exit 0 then (
  A.fin σ (AV.int .i64 (-1)) r11.2.2) else
 bif r11.1 == AX.ret then (
  A.fin σ (r11.2.1.getD 0 AV.undef) r11.2.2) else
 none
noncomputable def m_slices_IndexFunc_int (dyn : Nat → List AV → Heap → Option (AV × Heap)) : List AV → Heap → Option (AV × Heap) := A.wrap true [(.s 1)] .k (A.ar2 (r_slices_IndexFunc_int dyn))
noncomputable def r_slices_Equal_int (a0 a1 : AV) (σ : Heap) : Option (AV × Heap) :=
 (A.lenS a0).bind fun x1 =>
 (A.lenS a1).bind fun x2 =>
 (A.neq .i x1 x2).bind fun x3 =>
 A.cond x3 (
  A.fin σ (AV.bool false) σ) (
  (A.lenS a0).bind fun x4 =>
  (A.loop (fun v5 s6 =>
    (A.lss (v5.getD 1 AV.undef) x4).bind fun x8 =>
    A.cond x8 (
     (A.iaddr 1 a0 (v5.getD 1 AV.undef)).bind fun x9 =>
     ((A.deref x9 s6).bind fun c10 => A.part1 0 c10).bind fun x11 =>
     (A.iaddr 1 a1 (v5.getD 1 AV.undef)).bind fun x12 =>
     ((A.deref x12 s6).bind fun c13 => A.part1 0 c13).bind fun x14 =>
     (A.neq .i x11 x14).bind fun x15 =>
     A.cond x15 (
      some (AX.ret, [(AV.bool false), (v5.getD 1 AV.undef)], s6)) (
      (A.add (v5.getD 1 AV.undef) (AV.int .i64 1)).bind fun x16 =>
      some (AX.normal, [(v5.getD 0 AV.undef), x16], s6))) (
     some (AX.exit 0, [(v5.getD 0 AV.undef), (v5.getD 1 AV.undef)], s6))) [(AV.bool false), (AV.int .i64 0)] σ).bind fun r17 =>
  bif r17.1 == AX.exit 0 then (
   A.fin σ (AV.bool true) r17.2.2) else
  bif r17.1 == AX.ret then (
   A.fin σ (r17.2.1.getD 0 AV.undef) r17.2.2) else
  none)
noncomputable def m_slices_Equal_int : List AV → Heap → Option (AV × Heap) := A.wrap true [(.s 1), (.s 1)] .k (A.ar2 r_slices_Equal_int)
noncomputable def r_slices_Reverse_int (a0 : AV) (σ : Heap) : Option (AV × Heap) :=
 (A.lenS a0).bind fun x1 =>
 (A.sub x1 (AV.int .i64 1)).bind fun x2 =>
 (A.loop (fun v3 s4 =>
   (A.lss (v3.getD 0 AV.undef) (v3.getD 1 AV.undef)).bind fun x6 =>
   A.cond x6 (
    (A.iaddr 1 a0 (v3.getD 1 AV.undef)).bind fun x7 =>
    ((A.deref x7 s4).bind fun c8 => A.part1 0 c8).bind fun x9 =>
    (A.iaddr 1 a0 (v3.getD 0 AV.undef)).bind fun x10 =>
    ((A.deref x10 s4).bind fun c11 => A.part1 0 c11).bind fun x12 =>
    (A.iaddr 1 a0 (v3.getD 0 AV.undef)).bind fun x13 =>
    ((A.cell x9).bind fun v => some [v]).bind fun c14 =>
    (A.storeAt x13 c14 s4).bind fun c15 =>
    (A.iaddr 1 a0 (v3.getD 1 AV.undef)).bind fun x16 =>
    ((A.cell x12).bind fun v => some [v]).bind fun c17 =>
    (A.storeAt x16 c17 c15).bind fun c18 =>
    (A.add (v3.getD 0 AV.undef) (AV.int .i64 1)).bind fun x19 =>
    (A.sub (v3.getD 1 AV.undef) (AV.int .i64 1)).bind fun x20 =>
    some (AX.normal, [x19, x20], c18)) (
    some (AX.exit 0, [(v3.getD 0 AV.undef), (v3.getD 1 AV.undef)], s4))) [(AV.int .i64 0), x2] σ).bind fun r21 =>
 bif r21.1 == AX.exit 0 then (
  some ((AV.tup []), r21.2.2)) else
 none
noncomputable def m_slices_Reverse_int : List AV → Heap → Option (AV × Heap) := A.wrap false [] .k (A.ar1 r_slices_Reverse_int)
noncomputable def r_slices_Clone_int (a0 : AV) (σ : Heap) : Option (AV × Heap) :=
 (A.eqN a0 AV.nsl).bind fun x1 =>
 A.cond x1 (
  some (AV.nsl, σ)) (
  (A.append 1 (140737488355328 / 8) AV.ez a0 σ).bind fun r2 =>
  some (r2.1, r2.2))
noncomputable def m_slices_Clone_int : List AV → Heap → Option (AV × Heap) := A.cloneZ (A.wrap true [(.s 1)] .k (A.ar1 r_slices_Clone_int))
noncomputable def r_slices_Grow_int (a0 a1 : AV) (σ : Heap) : Option (AV × Heap) :=
 (A.lss a1 (AV.int .i64 0)).bind fun x1 =>
 (A.cond x1 (
  ((none : Option AV)).bind fun x3 =>
  some (([] : List AV), σ)) (
  some (([] : List AV), σ))).bind fun r2 =>
 A.capM (A.capN a0) (fun x4 =>
  (A.lenS a0).bind fun x5 =>
  (A.sub x4 x5).bind fun x6 =>
  (A.sub a1 x6).bind fun x7 =>
  (A.gtr x7 (AV.int .i64 0)).bind fun x8 =>
  (A.cond x8 (
   A.capM (A.capN a0) (fun x10 =>
    (A.sliceS 1 a0 none (some x10) r2.2).bind fun x11 =>
    (A.appendZ 1 (140737488355328 / 8) [(AV.int .i64 0)] x11 x7 r2.2).bind fun r12 =>
    (A.lenS a0).bind fun x13 =>
    (A.sliceS 1 r12.1 none (some x13) r12.2).bind fun x14 =>
    some ([x14], r12.2)) (A.capU a0 r2.2 fun n15 s16 =>
    (A.sliceS 1 a0 none (some (AV.int .i64 n15)) s16).bind fun x17 =>
    (A.appendZ 1 (140737488355328 / 8) [(AV.int .i64 0)] x17 x7 s16).bind fun r18 =>
    (A.lenS a0).bind fun x19 =>
    (A.sliceS 1 r18.1 none (some x19) r18.2).bind fun x20 =>
    some ([x20], r18.2))) (
   some ([a0], r2.2))).bind fun r9 =>
  some ((r9.1.getD 0 AV.undef), r9.2)) (A.capU a0 r2.2 fun n21 s22 =>
  (A.lenS a0).bind fun x23 =>
  (A.sub (AV.int .i64 n21) x23).bind fun x24 =>
  (A.sub a1 x24).bind fun x25 =>
  (A.gtr x25 (AV.int .i64 0)).bind fun x26 =>
  (A.cond x26 (
   A.capM (A.capN a0) (fun x28 =>
    (A.sliceS 1 a0 none (some x28) s22).bind fun x29 =>
    (A.appendZ 1 (140737488355328 / 8) [(AV.int .i64 0)] x29 x25 s22).bind fun r30 =>
    (A.lenS a0).bind fun x31 =>
    (A.sliceS 1 r30.1 none (some x31) r30.2).bind fun x32 =>
    some ([x32], r30.2)) (A.capU a0 s22 fun n33 s34 =>
    (A.sliceS 1 a0 none (some (AV.int .i64 n33)) s34).bind fun x35 =>
    (A.appendZ 1 (140737488355328 / 8) [(AV.int .i64 0)] x35 x25 s34).bind fun r36 =>
    (A.lenS a0).bind fun x37 =>
    (A.sliceS 1 r36.1 none (some x37) r36.2).bind fun x38 =>
    some ([x38], r36.2))) (
   some ([a0], s22))).bind fun r27 =>
  some ((r27.1.getD 0 AV.undef), r27.2))
noncomputable def m_slices_Grow_int : List AV → Heap → Option (AV × Heap) := A.wrap false [] .k (A.ar2 r_slices_Grow_int)
noncomputable def r_slices_Concat_int (a0 : AV) (σ : Heap) : Option (AV × Heap) :=
 (A.lenS a0).bind fun x1 =>
 (A.loop (fun v2 s3 =>
   (A.lss (v2.getD 1 AV.undef) x1).bind fun x5 =>
   A.cond x5 (
    (A.iaddr 1 a0 (v2.getD 1 AV.undef)).bind fun x6 =>
    ((A.deref x6 s3).bind fun c7 => A.part1 0 c7).bind fun x8 =>
    (A.lenS x8).bind fun x9 =>
    (A.add (v2.getD 0 AV.undef) x9).bind fun x10 =>
    (A.lss x10 (AV.int .i64 0)).bind fun x11 =>
    (A.cond x11 (
     ((none : Option AV)).bind fun x13 =>
     some (([] : List AV), s3)) (
     some (([] : List AV), s3))).bind fun r12 =>
    (A.add (v2.getD 1 AV.undef) (AV.int .i64 1)).bind fun x14 =>
    some (AX.normal, [x10, x14], r12.2)) (
    some (AX.exit 0, [(v2.getD 0 AV.undef), (v2.getD 1 AV.undef)], s3))) [(AV.int .i64 0), (AV.int .i64 0)] σ).bind fun r15 =>
 bif r15.1 == AX.exit 0 then (
  (m_slices_Grow_int [AV.nsl, (r15.2.1.getD 0 AV.undef)] r15.2.2).bind fun r16 =>
  (A.lenS a0).bind fun x17 =>
  (A.loop (fun v18 s19 =>
    (A.lss (v18.getD 1 AV.undef) x17).bind fun x21 =>
    A.cond x21 (
     (A.iaddr 1 a0 (v18.getD 1 AV.undef)).bind fun x22 =>
     ((A.deref x22 s19).bind fun c23 => A.part1 0 c23).bind fun x24 =>
     (A.append 1 (140737488355328 / 8) (v18.getD 0 AV.undef) x24 s19).bind fun r25 =>
     (A.add (v18.getD 1 AV.undef) (AV.int .i64 1)).bind fun x26 =>
     some (AX.normal, [r25.1, x26], r25.2)) (
     some (AX.exit 2, [(v18.getD 0 AV.undef), (v18.getD 1 AV.undef)], s19))) [r16.1, (AV.int .i64 0)] r16.2).bind fun r27 =>
  bif r27.1 == AX.exit 2 then (
   some ((r27.2.1.getD 0 AV.undef), r27.2.2)) else
  none) else
 none
noncomputable def m_slices_Concat_int : List AV → Heap → Option (AV × Heap) := A.wrap true [(.s 1)] .k (A.ar1 r_slices_Concat_int)
noncomputable def r_slices_DeleteFunc_int (dyn : Nat → List AV → Heap → Option (AV × Heap)) (a0 a1 : AV) (σ : Heap) : Option (AV × Heap) :=
 (m_slices_IndexFunc_int dyn [a0, a1] σ).bind fun r1 =>
 (A.eql .i r1.1 (AV.int .i64 (-1))).bind fun x2 =>
 A.cond x2 (
  A.renew [a0, a1] σ a0 r1.2) (
  (A.add r1.1 (AV.int .i64 1)).bind fun x3 =>
  (A.loop (fun v4 s5 =>
    (A.lenS a0).bind fun x7 =>
    (A.lss (v4.getD 1 AV.undef) x7).bind fun x8 =>
    A.cond x8 (
     (A.iaddr 1 a0 (v4.getD 1 AV.undef)).bind fun x9 =>
     ((A.deref x9 s5).bind fun c10 => A.part1 0 c10).bind fun x11 =>
     (A.callv dyn a1 [x11] s5).bind fun r12 =>
     (A.not r12.1).bind fun x13 =>
     (A.cond x13 (
      (A.iaddr 1 a0 (v4.getD 0 AV.undef)).bind fun x15 =>
      ((A.cell x11).bind fun v => some [v]).bind fun c16 =>
      (A.storeAt x15 c16 r12.2).bind fun c17 =>
      (A.add (v4.getD 0 AV.undef) (AV.int .i64 1)).bind fun x18 =>
      some ([x18], c17)) (
      some ([(v4.getD 0 AV.undef)], r12.2))).bind fun r14 =>
     (A.add (v4.getD 1 AV.undef) (AV.int .i64 1)).bind fun x19 =>
     some (AX.normal, [(r14.1.getD 0 AV.undef), x19], r14.2)) (
     some (AX.exit 0, [(v4.getD 0 AV.undef), (v4.getD 1 AV.undef)], s5))) [r1.1, x3] r1.2).bind fun r20 =>
  bif r20.1 == AX.exit 0 then (
   (A.sliceS 1 a0 (some (r20.2.1.getD 0 AV.undef)) none r20.2.2).bind fun x21 =>
   (A.clearS 1 [(AV.int .i64 0)] x21 r20.2.2).bind fun h22 =>
   (A.sliceS 1 a0 none (some (r20.2.1.getD 0 AV.undef)) h22).bind fun x23 =>
   A.renew [a0, a1] σ x23 h22) else
  none)
noncomputable def m_slices_DeleteFunc_int (dyn : Nat → List AV → Heap → Option (AV × Heap)) : List AV → Heap → Option (AV × Heap) := A.wrap false [] .k (A.ar2 (r_slices_DeleteFunc_int dyn))
noncomputable def r_slices_IndexFunc_api_Unit (dyn : Nat → List AV → Heap → Option (AV × Heap)) (a0 a1 : AV) (σ : Heap) : Option (AV × Heap) :=
 (A.lenS a0).bind fun x1 =>
 (A.loop (fun v2 s3 =>
   (A.lss (v2.getD 1 AV.undef) x1).bind fun x5 =>
   A.cond x5 (
    (A.iaddr 4 a0 (v2.getD 1 AV.undef)).bind fun x6 =>
    ((A.deref x6 s3).bind fun c7 => A.partA 0 4 c7).bind fun x8 =>
    (A.callv dyn a1 [x8] s3).bind fun r9 =>
    A.cond r9.1 (
     some (AX.ret, [(v2.getD 1 AV.undef), (v2.getD 1 AV.undef)], r9.2)) (
     (A.add (v2.getD 1 AV.undef) (AV.int .i64 1)).bind fun x10 =>
     some (AX.normal, [(v2.getD 0 AV.undef), x10], r9.2))) (
    some (AX.exit 0, [(v2.getD 0 AV.undef), (v2.getD 1 AV.undef)], s3))) [(AV.int .i64 0), (AV.int .i64 0)] σ).bind fun r11 =>
 bif r11.1 == AX.exit 0 then (
  A.fin σ (AV.int .i64 (-1)) r11.2.2) else
 bif r11.1 == AX.ret then (
  A.fin σ (r11.2.1.getD 0 AV.undef) r11.2.2) else
 none
noncomputable def m_slices_IndexFunc_api_Unit (dyn : Nat → List AV → Heap → Option (AV × Heap)) : List AV → Heap → Option (AV × Heap) := A.wrap true [(.s 4)] .k (A.ar2 (r_slices_IndexFunc_api_Unit dyn))
noncomputable def r_slices_ContainsFunc_api_Unit (dyn : Nat → List AV → Heap → Option (AV × Heap)) (a0 a1 : AV) (σ : Heap) : Option (AV × Heap) :=
 (m_slices_IndexFunc_api_Unit dyn [a0, a1] σ).bind fun r1 =>
 (A.geq r1.1 (AV.int .i64 0)).bind fun x2 =>
 A.fin σ x2 r1.2
noncomputable def m_slices_ContainsFunc_api_Unit (dyn : Nat → List AV → Heap → Option (AV × Heap)) : List AV → Heap → Option (AV × Heap) := A.wrap true [(.s 4)] .k (A.ar2 (r_slices_ContainsFunc_api_Unit dyn))
end Go.Proofs.YtkdafecbdncmiaaDoor

namespace Go.Proofs.YtkdafecbdncmiaaDoor
set_option linter.unusedSectionVars false
set_option linter.unusedSimpArgs false
set_option linter.unusedVariables false
def itoaB (n : Int) : ByteArray := ⟨(Lib.itoa n).toArray⟩
def m_strconv_Itoa : List AV → Heap → Option (AV × Heap) := A.ar1 fun a σ => match a with
 | .int .i64 n => if -9223372036854775808 ≤ n ∧ n ≤ 9223372036854775807 then some (.str (itoaB n), σ) else none
 | _ => none
theorem Itoa_eq (n : Int) (h : inI n) (σ : Heap) : m_strconv_Itoa [.int .i64 n] σ = some (.str (itoaB n), σ) := if_pos h
end Go.Proofs.YtkdafecbdncmiaaDoor

namespace Go.Proofs.YtkdafecbdncmiaaDoor
set_option linter.unusedSectionVars false
set_option linter.unusedSimpArgs false
set_option linter.unusedVariables false
set_option maxRecDepth 100000
noncomputable def r_word_Row (a0 : AV) (σ : Heap) : Option (AV × Heap) :=
 (A.lenZ a0).bind fun x1 =>
 (A.loop (fun v2 s3 =>
   (A.lss (v2.getD 1 AV.undef) x1).bind fun x5 =>
   A.cond x5 (
    (A.sidx a0 (v2.getD 1 AV.undef)).bind fun x6 =>
    (A.geq x6 (AV.int .u8 97)).bind fun x7 =>
    (A.guard x7 true (some x6) (some (AV.tup []))).bind fun x8 =>
    (A.guard x7 true (A.leq x8 (AV.int .u8 122)) (some (AV.tup []))).bind fun x9 =>
    (A.pick x7 x9 (AV.bool false)).bind fun x10 =>
    (A.guard x10 false (some x6) (some (AV.tup []))).bind fun x11 =>
    (A.guard x10 false (A.geq x11 (AV.int .u8 48)) (some (AV.tup []))).bind fun x12 =>
    (A.guard x10 false (some x12) (some (AV.tup []))).bind fun x13 =>
    (A.guard x13 true (some x6) (some (AV.tup []))).bind fun x14 =>
    (A.guard x13 true (A.leq x14 (AV.int .u8 57)) (some (AV.tup []))).bind fun x15 =>
    (A.guard x10 false (A.pick x13 x15 (AV.bool false)) (some (AV.tup []))).bind fun x16 =>
    (A.pick x10 (AV.bool true) x16).bind fun x17 =>
    (A.guard x17 false (some x6) (some (AV.tup []))).bind fun x18 =>
    (A.guard x17 false (A.eql .i x18 (AV.int .u8 45)) (some (AV.tup []))).bind fun x19 =>
    (A.pick x17 (AV.bool true) x19).bind fun x20 =>
    (A.not x20).bind fun x21 =>
    A.cond x21 (
     some (AX.ret, [(AV.bool false), (v2.getD 1 AV.undef)], s3)) (
     (A.add (v2.getD 1 AV.undef) (AV.int .i64 1)).bind fun x22 =>
     some (AX.normal, [(v2.getD 0 AV.undef), x22], s3))) (
    some (AX.exit 0, [(v2.getD 0 AV.undef), (v2.getD 1 AV.undef)], s3))) [(AV.bool false), (AV.int .i64 0)] σ).bind fun r23 =>
 bif r23.1 == AX.exit 0 then (
  (A.neq .z a0 (AV.str ⟨#[]⟩)).bind fun x24 =>
  A.fin σ x24 r23.2.2) else
 bif r23.1 == AX.ret then (
  A.fin σ (r23.2.1.getD 0 AV.undef) r23.2.2) else
 none
noncomputable def m_word_Row : List AV → Heap → Option (AV × Heap) := A.wrap true [] .k (A.ar1 r_word_Row)
noncomputable def r_word_Name (a0 : AV) (σ : Heap) : Option (AV × Heap) :=
 (m_word_Row [a0] σ).bind fun r1 =>
 (A.guard r1.1 true (some a0) (some (AV.tup []))).bind fun x2 =>
 (A.guard r1.1 true (A.lenZ x2) (some (AV.tup []))).bind fun x3 =>
 (A.guard r1.1 true (A.leq x3 (AV.int .i64 20)) (some (AV.tup []))).bind fun x4 =>
 (A.pick r1.1 x4 (AV.bool false)).bind fun x5 =>
 (A.guard x5 true (some a0) (some (AV.tup []))).bind fun x6 =>
 (A.guard x5 true (A.sidx x6 (AV.int .i64 0)) (some (AV.tup []))).bind fun x7 =>
 (A.guard x5 true (A.geq x7 (AV.int .u8 97)) (some (AV.tup []))).bind fun x8 =>
 (A.pick x5 x8 (AV.bool false)).bind fun x9 =>
 (A.guard x9 true (some a0) (some (AV.tup []))).bind fun x10 =>
 (A.guard x9 true (A.sidx x10 (AV.int .i64 0)) (some (AV.tup []))).bind fun x11 =>
 (A.guard x9 true (A.leq x11 (AV.int .u8 122)) (some (AV.tup []))).bind fun x12 =>
 (A.pick x9 x12 (AV.bool false)).bind fun x13 =>
 A.fin σ x13 r1.2
noncomputable def m_word_Name : List AV → Heap → Option (AV × Heap) := A.wrap true [] .k (A.ar1 r_word_Name)
noncomputable def r_word_Within (a0 a1 a2 : AV) (σ : Heap) : Option (AV × Heap) :=
 (A.geq a0 a1).bind fun x1 =>
 (A.guard x1 true (some a0) (some (AV.tup []))).bind fun x2 =>
 (A.guard x1 true (some a2) (some (AV.tup []))).bind fun x3 =>
 (A.guard x1 true (A.leq x2 x3) (some (AV.tup []))).bind fun x4 =>
 (A.pick x1 x4 (AV.bool false)).bind fun x5 =>
 A.fin σ x5 σ
noncomputable def m_word_Within : List AV → Heap → Option (AV × Heap) := A.wrap true [] .k (A.ar3 r_word_Within)
noncomputable def r_word_When (a0 a1 : AV) (σ : Heap) : Option (AV × Heap) :=
 A.cond a0 (
  A.fin σ a1 σ) (
  A.fin σ (AV.int .i64 0) σ)
noncomputable def m_word_When : List AV → Heap → Option (AV × Heap) := A.wrap true [] .k (A.ar2 r_word_When)
noncomputable def r_word_First (a0 : AV) (σ : Heap) : Option (AV × Heap) :=
 (A.lenS a0).bind fun x1 =>
 (A.loop (fun v2 s3 =>
   (A.lss (v2.getD 1 AV.undef) x1).bind fun x5 =>
   A.cond x5 (
    (A.iaddr 1 a0 (v2.getD 1 AV.undef)).bind fun x6 =>
    ((A.deref x6 s3).bind fun c7 => A.part1 0 c7).bind fun x8 =>
    (A.neq .i x8 (AV.int .i64 0)).bind fun x9 =>
    A.cond x9 (
     some (AX.ret, [x8, (v2.getD 1 AV.undef)], s3)) (
     (A.add (v2.getD 1 AV.undef) (AV.int .i64 1)).bind fun x10 =>
     some (AX.normal, [(v2.getD 0 AV.undef), x10], s3))) (
    some (AX.exit 0, [(v2.getD 0 AV.undef), (v2.getD 1 AV.undef)], s3))) [(AV.int .i64 0), (AV.int .i64 0)] σ).bind fun r11 =>
 bif r11.1 == AX.exit 0 then (
  A.fin σ (AV.int .i64 0) r11.2.2) else
 bif r11.1 == AX.ret then (
  A.fin σ (r11.2.1.getD 0 AV.undef) r11.2.2) else
 none
noncomputable def m_word_First : List AV → Heap → Option (AV × Heap) := A.wrap true [(.s 1)] .k (A.ar1 r_word_First)
noncomputable def r_word_Title (a0 : AV) (σ : Heap) : Option (AV × Heap) :=
 (A.lenZ a0).bind fun x1 =>
 (A.loop (fun v2 s3 =>
   (A.lss (v2.getD 1 AV.undef) x1).bind fun x5 =>
   A.cond x5 (
    (A.sidx a0 (v2.getD 1 AV.undef)).bind fun x6 =>
    (A.lss x6 (AV.int .u8 32)).bind fun x7 =>
    (A.guard x7 false (some a0) (some (AV.tup []))).bind fun x8 =>
    (A.guard x7 false (some (v2.getD 1 AV.undef)) (some (AV.tup []))).bind fun x9 =>
    (A.guard x7 false (A.sidx x8 x9) (some (AV.tup []))).bind fun x10 =>
    (A.guard x7 false (A.gtr x10 (AV.int .u8 126)) (some (AV.tup []))).bind fun x11 =>
    (A.pick x7 (AV.bool true) x11).bind fun x12 =>
    A.cond x12 (
     some (AX.ret, [(AV.bool false), (v2.getD 1 AV.undef)], s3)) (
     (A.add (v2.getD 1 AV.undef) (AV.int .i64 1)).bind fun x13 =>
     some (AX.normal, [(v2.getD 0 AV.undef), x13], s3))) (
    some (AX.exit 0, [(v2.getD 0 AV.undef), (v2.getD 1 AV.undef)], s3))) [(AV.bool false), (AV.int .i64 0)] σ).bind fun r14 =>
 bif r14.1 == AX.exit 0 then (
  (A.neq .z a0 (AV.str ⟨#[]⟩)).bind fun x15 =>
  (A.guard x15 true (some a0) (some (AV.tup []))).bind fun x16 =>
  (A.guard x15 true (A.lenZ x16) (some (AV.tup []))).bind fun x17 =>
  (A.guard x15 true (A.leq x17 (AV.int .i64 60)) (some (AV.tup []))).bind fun x18 =>
  (A.pick x15 x18 (AV.bool false)).bind fun x19 =>
  (A.guard x19 true (some a0) (some (AV.tup []))).bind fun x20 =>
  (A.guard x19 true (A.sidx x20 (AV.int .i64 0)) (some (AV.tup []))).bind fun x21 =>
  (A.guard x19 true (A.neq .i x21 (AV.int .u8 32)) (some (AV.tup []))).bind fun x22 =>
  (A.pick x19 x22 (AV.bool false)).bind fun x23 =>
  (A.guard x23 true (some a0) (some (AV.tup []))).bind fun x24 =>
  (A.guard x23 true (some a0) (some (AV.tup []))).bind fun x25 =>
  (A.guard x23 true (A.lenZ x25) (some (AV.tup []))).bind fun x26 =>
  (A.guard x23 true (A.sub x26 (AV.int .i64 1)) (some (AV.tup []))).bind fun x27 =>
  (A.guard x23 true (A.sidx x24 x27) (some (AV.tup []))).bind fun x28 =>
  (A.guard x23 true (A.neq .i x28 (AV.int .u8 32)) (some (AV.tup []))).bind fun x29 =>
  (A.pick x23 x29 (AV.bool false)).bind fun x30 =>
  A.fin σ x30 r14.2.2) else
 bif r14.1 == AX.ret then (
  A.fin σ (r14.2.1.getD 0 AV.undef) r14.2.2) else
 none
noncomputable def m_word_Title : List AV → Heap → Option (AV × Heap) := A.wrap true [] .k (A.ar1 r_word_Title)
end Go.Proofs.YtkdafecbdncmiaaDoor

namespace Go.Proofs.YtkdafecbdncmiaaDoor
set_option linter.unusedSectionVars false
set_option linter.unusedSimpArgs false
set_option linter.unusedVariables false
set_option maxRecDepth 100000
noncomputable def r_fixture_isLevel (a0 : AV) (σ : Heap) : Option (AV × Heap) :=
 (m_word_Within [a0, (AV.int .i64 0), (AV.int .i64 65535)] σ).bind fun r1 =>
 A.fin σ r1.1 r1.2
noncomputable def m_fixture_isLevel : List AV → Heap → Option (AV × Heap) := A.wrap true [] .k (A.ar1 r_fixture_isLevel)
noncomputable def r_fixture_checkRanges (a0 : AV) (σ : Heap) : Option (AV × Heap) :=
 (A.lenS a0).bind fun x1 =>
 (A.gtr x1 (AV.int .i64 30)).bind fun x2 =>
 A.cond x2 (
  A.fin σ (AV.int .i64 2) σ) (
  (A.lenS a0).bind fun x3 =>
  (A.loop (fun v4 s5 =>
    (A.lss (v4.getD 1 AV.undef) x3).bind fun x7 =>
    A.cond x7 (
     (A.iaddr 3 a0 (v4.getD 1 AV.undef)).bind fun x8 =>
     ((A.deref x8 s5).bind fun c9 => A.partA 0 3 c9).bind fun x10 =>
     (A.cells 3 x10).bind fun c11 =>
     (A.splice 0 c11 [(AV.int .i64 0), (AV.int .i64 0), (AV.str ⟨#[]⟩)]).bind fun c12 =>
     (A.part1 0 c12).bind fun x13 =>
     (m_fixture_isLevel [x13] s5).bind fun r14 =>
     (A.not r14.1).bind fun x15 =>
     (A.guard x15 false (A.part1 1 c12) (some (AV.tup []))).bind fun x16 =>
     (A.guard x15 false (A.quiet (m_fixture_isLevel [x16] r14.2) r14.2) (some (AV.tup []))).bind fun x17 =>
     (A.guard x15 false (A.not x17) (some (AV.tup []))).bind fun x18 =>
     (A.pick x15 (AV.bool true) x18).bind fun x19 =>
     (A.guard x19 false (A.part1 0 c12) (some (AV.tup []))).bind fun x20 =>
     (A.guard x19 false (A.part1 1 c12) (some (AV.tup []))).bind fun x21 =>
     (A.guard x19 false (A.gtr x20 x21) (some (AV.tup []))).bind fun x22 =>
     (A.pick x19 (AV.bool true) x22).bind fun x23 =>
     A.cond x23 (
      some (AX.ret, [(AV.int .i64 1), (v4.getD 1 AV.undef)], r14.2)) (
      (A.gtr (v4.getD 1 AV.undef) (AV.int .i64 0)).bind fun x24 =>
      (A.guard x24 true (A.part1 0 c12) (some (AV.tup []))).bind fun x25 =>
      (A.guard x24 true (some a0) (some (AV.tup []))).bind fun x26 =>
      (A.guard x24 true (some (v4.getD 1 AV.undef)) (some (AV.tup []))).bind fun x27 =>
      (A.guard x24 true (A.sub x27 (AV.int .i64 1)) (some (AV.tup []))).bind fun x28 =>
      (A.guard x24 true (A.iaddr 3 x26 x28) (some (AV.tup []))).bind fun x29 =>
      (A.guard x24 true (A.faddr 1 x29) (some (AV.tup []))).bind fun x30 =>
      (A.guard x24 true ((A.deref x30 r14.2).bind fun c31 => A.part1 0 c31) (some (AV.tup []))).bind fun x32 =>
      (A.guard x24 true (A.leq x25 x32) (some (AV.tup []))).bind fun x33 =>
      (A.pick x24 x33 (AV.bool false)).bind fun x34 =>
      A.cond x34 (
       some (AX.ret, [(AV.int .i64 7), (v4.getD 1 AV.undef)], r14.2)) (
       (A.part1 2 c12).bind fun x35 =>
       (m_word_Name [x35] r14.2).bind fun r36 =>
       (A.not r36.1).bind fun x37 =>
       A.cond x37 (
        some (AX.ret, [(AV.int .i64 5), (v4.getD 1 AV.undef)], r36.2)) (
        (A.part1 2 c12).bind fun x38 =>
        (A.look .z (AV.om σ.length) x38 (AV.bool false) r36.2).bind fun x39 =>
        A.cond x39 (
         some (AX.ret, [(AV.int .i64 6), (v4.getD 1 AV.undef)], r36.2)) (
         (A.part1 2 c12).bind fun x40 =>
         (A.mupd .z (AV.om σ.length) x40 (AV.bool true) r36.2).bind fun h41 =>
         (A.add (v4.getD 1 AV.undef) (AV.int .i64 1)).bind fun x42 =>
         some (AX.normal, [(v4.getD 0 AV.undef), x42], h41)))))) (
     some (AX.exit 0, [(v4.getD 0 AV.undef), (v4.getD 1 AV.undef)], s5))) [(AV.int .i64 0), (AV.int .i64 0)] (σ ++ [Blk.map []])).bind fun r43 =>
  bif r43.1 == AX.exit 0 then (
   A.fin σ (AV.int .i64 0) r43.2.2) else
  bif r43.1 == AX.ret then (
   A.fin σ (r43.2.1.getD 0 AV.undef) r43.2.2) else
  none)
noncomputable def m_fixture_checkRanges : List AV → Heap → Option (AV × Heap) := A.wrap true [(.s 3)] .k (A.ar1 r_fixture_checkRanges)
noncomputable def r_fixture_CheckProfile (a0 : AV) (σ : Heap) : Option (AV × Heap) :=
 (A.cells 3 a0).bind fun c1 =>
 (A.part1 0 c1).bind fun x2 =>
 (m_word_Name [x2] σ).bind fun r3 =>
 (A.not r3.1).bind fun x4 =>
 A.cond x4 (
  A.fin σ (AV.int .i64 5) r3.2) (
  (A.part1 1 c1).bind fun x5 =>
  (m_word_Within [x5, (AV.int .i64 1), (AV.int .i64 512)] r3.2).bind fun r6 =>
  (A.not r6.1).bind fun x7 =>
  A.cond x7 (
   A.fin σ (AV.int .i64 1) r6.2) (
   (A.part1 2 c1).bind fun x8 =>
   (A.lenS x8).bind fun x9 =>
   (A.eql .i x9 (AV.int .i64 0)).bind fun x10 =>
   A.cond x10 (
    A.fin σ (AV.int .i64 8) r6.2) (
    (A.part1 2 c1).bind fun x11 =>
    (A.lenS x11).bind fun x12 =>
    (A.gtr x12 (AV.int .i64 40)).bind fun x13 =>
    A.cond x13 (
     A.fin σ (AV.int .i64 2) r6.2) (
     (A.part1 2 c1).bind fun x14 =>
     (A.lenS x14).bind fun x15 =>
     (A.loop (fun v16 s17 =>
       (A.lss (v16.getD 2 AV.undef) x15).bind fun x19 =>
       A.cond x19 (
        (A.iaddr 7 x14 (v16.getD 2 AV.undef)).bind fun x20 =>
        ((A.deref x20 s17).bind fun c21 => A.partA 0 7 c21).bind fun x22 =>
        (A.cells 7 x22).bind fun c23 =>
        (A.splice 0 c23 [(AV.str ⟨#[]⟩), (AV.int .i64 0), (AV.int .i64 0), (AV.int .i64 0), (AV.int .i64 0), (AV.bool false), AV.nsl]).bind fun c24 =>
        (A.part1 0 c24).bind fun x25 =>
        (m_word_Name [x25] s17).bind fun r26 =>
        (A.not r26.1).bind fun x27 =>
        A.cond x27 (
         some (AX.ret, [(v16.getD 0 AV.undef), (AV.int .i64 5), (v16.getD 2 AV.undef)], r26.2)) (
         (A.part1 0 c24).bind fun x28 =>
         (A.look .z (AV.om r6.2.length) x28 (AV.bool false) r26.2).bind fun x29 =>
         A.cond x29 (
          some (AX.ret, [(v16.getD 0 AV.undef), (AV.int .i64 6), (v16.getD 2 AV.undef)], r26.2)) (
          (A.part1 1 c24).bind fun x30 =>
          (m_word_Within [x30, (AV.int .i64 1), (AV.int .i64 4)] r26.2).bind fun r31 =>
          (A.not r31.1).bind fun x32 =>
          A.cond x32 (
           some (AX.ret, [(v16.getD 0 AV.undef), (AV.int .i64 4), (v16.getD 2 AV.undef)], r31.2)) (
           (A.part1 2 c24).bind fun x33 =>
           ((A.lb (v16.getD 0 AV.undef)).bind fun _ => some (1)).bind fun p34 =>
           ((A.lb (v16.getD 0 AV.undef)).bind fun c35 => A.part1 p34 c35).bind fun x36 =>
           (m_word_Within [x33, (AV.int .i64 1), x36] r31.2).bind fun r37 =>
           (A.not r37.1).bind fun x38 =>
           (A.guard x38 false (A.part1 3 c24) (some (AV.tup []))).bind fun x39 =>
           ((A.lb (v16.getD 0 AV.undef)).bind fun _ => some (1)).bind fun p40 =>
                      (A.guard x38 false ((A.lb (v16.getD 0 AV.undef)).bind fun c41 => A.part1 p40 c41) (some (AV.tup []))).bind fun x42 =>
           (A.guard x38 false (A.quiet (m_word_Within [x39, (AV.int .i64 0), x42] r37.2) r37.2) (some (AV.tup []))).bind fun x43 =>
           (A.guard x38 false (A.not x43) (some (AV.tup []))).bind fun x44 =>
           (A.pick x38 (AV.bool true) x44).bind fun x45 =>
           (A.guard x45 false (A.part1 4 c24) (some (AV.tup []))).bind fun x46 =>
           (A.guard x45 false (A.quiet (m_fixture_isLevel [x46] r37.2) r37.2) (some (AV.tup []))).bind fun x47 =>
           (A.guard x45 false (A.not x47) (some (AV.tup []))).bind fun x48 =>
           (A.pick x45 (AV.bool true) x48).bind fun x49 =>
           A.cond x49 (
            some (AX.ret, [(v16.getD 0 AV.undef), (AV.int .i64 1), (v16.getD 2 AV.undef)], r37.2)) (
            (A.part1 2 c24).bind fun x50 =>
            (A.part1 3 c24).bind fun x51 =>
            (A.eql .i x50 x51).bind fun x52 =>
            (A.guard x52 false (some (AV.om (r6.2 ++ [Blk.map []]).length)) (some (AV.tup []))).bind fun x53 =>
            (A.guard x52 false (A.part1 2 c24) (some (AV.tup []))).bind fun x54 =>
            (A.guard x52 false (A.look .i x53 x54 (AV.bool false) r37.2) (some (AV.tup []))).bind fun x55 =>
            (A.pick x52 (AV.bool true) x55).bind fun x56 =>
            (A.guard x56 false (A.part1 3 c24) (some (AV.tup []))).bind fun x57 =>
            (A.guard x56 false (A.gtr x57 (AV.int .i64 0)) (some (AV.tup []))).bind fun x58 =>
            (A.guard x56 false (some x58) (some (AV.tup []))).bind fun x59 =>
            (A.guard x59 true (some (AV.om (r6.2 ++ [Blk.map []]).length)) (some (AV.tup []))).bind fun x60 =>
            (A.guard x59 true (A.part1 3 c24) (some (AV.tup []))).bind fun x61 =>
            (A.guard x59 true (A.look .i x60 x61 (AV.bool false) r37.2) (some (AV.tup []))).bind fun x62 =>
            (A.guard x56 false (A.pick x59 x62 (AV.bool false)) (some (AV.tup []))).bind fun x63 =>
            (A.pick x56 (AV.bool true) x63).bind fun x64 =>
            A.cond x64 (
             some (AX.ret, [(v16.getD 0 AV.undef), (AV.int .i64 12), (v16.getD 2 AV.undef)], r37.2)) (
             (A.part1 6 c24).bind fun x65 =>
             (m_fixture_checkRanges [x65] r37.2).bind fun r66 =>
             (A.neq .i r66.1 (AV.int .i64 0)).bind fun x67 =>
             A.cond x67 (
              some (AX.ret, [(v16.getD 0 AV.undef), r66.1, (v16.getD 2 AV.undef)], r66.2)) (
              (A.part1 0 c24).bind fun x68 =>
              (A.part1 2 c24).bind fun x69 =>
              (A.mupd .z (AV.om r6.2.length) x68 (AV.bool true) r66.2).bind fun h70 =>
              (A.mupd .i (AV.om (r6.2 ++ [Blk.map []]).length) x69 (AV.bool true) h70).bind fun h71 =>
              (A.part1 3 c24).bind fun x72 =>
              (A.gtr x72 (AV.int .i64 0)).bind fun x73 =>
              (A.cond x73 (
               (A.part1 3 c24).bind fun x75 =>
               (A.mupd .i (AV.om (r6.2 ++ [Blk.map []]).length) x75 (AV.bool true) h71).bind fun h76 =>
               some ([(v16.getD 0 AV.undef)], h76)) (
               some ([(v16.getD 0 AV.undef)], h71))).bind fun r74 =>
              (A.add (v16.getD 2 AV.undef) (AV.int .i64 1)).bind fun x77 =>
              some (AX.normal, [(r74.1.getD 0 AV.undef), (v16.getD 1 AV.undef), x77], r74.2)))))))) (
        some (AX.exit 1, [(v16.getD 0 AV.undef), (v16.getD 1 AV.undef), (v16.getD 2 AV.undef)], s17))) [(AV.lbx c1), (AV.int .i64 0), (AV.int .i64 0)] ((r6.2 ++ [Blk.map []]) ++ [Blk.map []])).bind fun r78 =>
     bif r78.1 == AX.exit 1 then (
      A.fin σ (AV.int .i64 0) r78.2.2) else
     bif r78.1 == AX.ret then (
      A.fin σ (r78.2.1.getD 1 AV.undef) r78.2.2) else
     none))))
noncomputable def m_fixture_CheckProfile : List AV → Heap → Option (AV × Heap) := A.wrap true [(.a [.k, .k, (.s 7)])] .k (A.ar1 r_fixture_CheckProfile)
noncomputable def r_fixture_CheckLibrary (a0 : AV) (σ : Heap) : Option (AV × Heap) :=
 (A.lenS a0).bind fun x1 =>
 (A.gtr x1 (AV.int .i64 60)).bind fun x2 =>
 A.cond x2 (
  A.fin σ (AV.int .i64 2) σ) (
  (A.lenS a0).bind fun x3 =>
  (A.loop (fun v4 s5 =>
    (A.lss (v4.getD 1 AV.undef) x3).bind fun x7 =>
    A.cond x7 (
     (A.iaddr 3 a0 (v4.getD 1 AV.undef)).bind fun x8 =>
     ((A.deref x8 s5).bind fun c9 => A.partA 0 3 c9).bind fun x10 =>
     (A.cells 3 x10).bind fun c11 =>
     (A.splice 0 c11 [(AV.str ⟨#[]⟩), (AV.int .i64 0), AV.nsl]).bind fun c12 =>
     (A.partA 0 3 c12).bind fun x13 =>
     (m_fixture_CheckProfile [x13] s5).bind fun r14 =>
     (A.neq .i r14.1 (AV.int .i64 0)).bind fun x15 =>
     A.cond x15 (
      some (AX.ret, [r14.1, (v4.getD 1 AV.undef)], r14.2)) (
      (A.part1 0 c12).bind fun x16 =>
      (A.look .z (AV.om σ.length) x16 (AV.bool false) r14.2).bind fun x17 =>
      A.cond x17 (
       some (AX.ret, [(AV.int .i64 6), (v4.getD 1 AV.undef)], r14.2)) (
       (A.part1 0 c12).bind fun x18 =>
       (A.mupd .z (AV.om σ.length) x18 (AV.bool true) r14.2).bind fun h19 =>
       (A.add (v4.getD 1 AV.undef) (AV.int .i64 1)).bind fun x20 =>
       some (AX.normal, [(v4.getD 0 AV.undef), x20], h19)))) (
     some (AX.exit 0, [(v4.getD 0 AV.undef), (v4.getD 1 AV.undef)], s5))) [(AV.int .i64 0), (AV.int .i64 0)] (σ ++ [Blk.map []])).bind fun r21 =>
  bif r21.1 == AX.exit 0 then (
   A.fin σ (AV.int .i64 0) r21.2.2) else
  bif r21.1 == AX.ret then (
   A.fin σ (r21.2.1.getD 0 AV.undef) r21.2.2) else
  none)
noncomputable def m_fixture_CheckLibrary : List AV → Heap → Option (AV × Heap) := A.wrap true [(.s 3)] .k (A.ar1 r_fixture_CheckLibrary)
noncomputable def r_fixture_profile_fn1 (a0 a1 : AV) (σ : Heap) : Option (AV × Heap) :=
 (A.cells 3 a0).bind fun c1 =>
 (A.part1 0 c1).bind fun x2 =>
 ((A.deref a1 σ).bind fun c3 => A.part1 0 c3).bind fun x4 =>
 (A.eql .z x2 x4).bind fun x5 =>
 A.fin σ x5 σ
noncomputable def m_fixture_profile_fn1 : List AV → Heap → Option (AV × Heap) := A.wrap true [(.a [.k, .k, (.s 7)])] .k (A.ar2 r_fixture_profile_fn1)
noncomputable def r_fixture_profile (a0 a1 : AV) (σ : Heap) : Option (AV × Heap) :=
 (((A.cell a1).bind fun v => some [v]).bind fun cs => some (AV.rp cs)).bind fun x1 =>
 (m_slices_IndexFunc_api_Profile (A.tab (fun _ _ => none) [(64, m_fixture_profile_fn1)]) [a0, (AV.fn 64 [x1])] σ).bind fun r2 =>
 (A.lss r2.1 (AV.int .i64 0)).bind fun x3 =>
 A.cond x3 (
  (A.cells 3 (AV.agg [(AV.str ⟨#[]⟩), (AV.int .i64 0), AV.nsl])).bind fun c4 =>
  (A.splice 0 c4 [(AV.str ⟨#[]⟩), (AV.int .i64 0), AV.nsl]).bind fun c5 =>
  (A.partA 0 3 c5).bind fun x6 =>
  A.fin σ (AV.tup [x6, (AV.bool false)]) r2.2) (
  (A.iaddr 3 a0 r2.1).bind fun x7 =>
  ((A.deref x7 r2.2).bind fun c8 => A.partA 0 3 c8).bind fun x9 =>
  (A.cells 3 x9).bind fun c10 =>
  (A.splice 0 c10 [(AV.str ⟨#[]⟩), (AV.int .i64 0), AV.nsl]).bind fun c11 =>
  (A.partA 0 3 c11).bind fun x12 =>
  A.fin σ (AV.tup [x12, (AV.bool true)]) r2.2)
noncomputable def m_fixture_profile : List AV → Heap → Option (AV × Heap) := A.wrap true [(.s 3)] (.t [(.a [.k, .k, (.e 7 [.k, .k, .k, .k, .k, .k, (.s 3)])]), .k]) (A.ar2 r_fixture_profile)
noncomputable def r_fixture_slots_free (a0 a1 a2 : AV) (σ : Heap) : Option (AV × Heap) :=
 (A.eql .p a0 AV.np).bind fun x1 =>
 A.cond x1 (
  (A.add a1 a2).bind fun x2 =>
  (A.sub x2 (AV.int .i64 1)).bind fun x3 =>
  (A.leq x3 (AV.int .i64 512)).bind fun x4 =>
  A.fin σ x4 σ) (
  (A.loop (fun v5 s6 =>
    (A.add a1 a2).bind fun x8 =>
    (A.lss (v5.getD 1 AV.undef) x8).bind fun x9 =>
    A.cond x9 (
     (A.gtr (v5.getD 1 AV.undef) (AV.int .i64 512)).bind fun x10 =>
     (A.guard x10 false (some a0) (some (AV.tup []))).bind fun x11 =>
     (A.guard x10 false (some (v5.getD 1 AV.undef)) (some (AV.tup []))).bind fun x12 =>
     (A.guard x10 false (A.nilck x11) (some (AV.tup []))).bind fun x13 =>
     (A.guard x10 false (A.aaddr 513 1 x13 x12) (some (AV.tup []))).bind fun x14 =>
     (A.guard x10 false ((A.deref x14 s6).bind fun c15 => A.part1 0 c15) (some (AV.tup []))).bind fun x16 =>
     (A.pick x10 (AV.bool true) x16).bind fun x17 =>
     A.cond x17 (
      some (AX.ret, [(AV.bool false), (v5.getD 1 AV.undef)], s6)) (
      (A.add (v5.getD 1 AV.undef) (AV.int .i64 1)).bind fun x18 =>
      some (AX.normal, [(v5.getD 0 AV.undef), x18], s6))) (
     some (AX.exit 0, [(v5.getD 0 AV.undef), (v5.getD 1 AV.undef)], s6))) [(AV.bool false), a1] σ).bind fun r19 =>
  bif r19.1 == AX.exit 0 then (
   A.fin σ (AV.bool true) r19.2.2) else
  bif r19.1 == AX.ret then (
   A.fin σ (r19.2.1.getD 0 AV.undef) r19.2.2) else
  none)
noncomputable def m_fixture_slots_free : List AV → Heap → Option (AV × Heap) := A.wrap true [] .k (A.ar3 r_fixture_slots_free)
noncomputable def r_fixture_take (a0 a1 a2 : AV) (σ : Heap) : Option (AV × Heap) :=
 (A.cells 4 a1).bind fun c1 =>
 (A.part1 2 c1).bind fun x2 =>
 (A.look .i a0 x2 AV.np σ).bind fun x3 =>
 (A.eql .p x3 AV.np).bind fun x4 =>
 (A.cond x4 (
  (A.part1 2 c1).bind fun x6 =>
  (A.mupd .i a0 x6 (AV.op σ.length 0) (σ ++ [Blk.box (List.replicate 513 (AV.bool false))])).bind fun h7 =>
  some ([(AV.lbx c1)], h7)) (
  some ([(AV.lbx c1)], σ))).bind fun r5 =>
 ((A.lb (r5.1.getD 0 AV.undef)).bind fun _ => some (3)).bind fun p8 =>
 ((A.lb (r5.1.getD 0 AV.undef)).bind fun c9 => A.part1 p8 c9).bind fun x10 =>
 (A.loop (fun v11 s12 =>
   ((A.lb (v11.getD 0 AV.undef)).bind fun _ => some (3)).bind fun p14 =>
   ((A.lb (v11.getD 0 AV.undef)).bind fun c15 => A.part1 p14 c15).bind fun x16 =>
   (A.add x16 a2).bind fun x17 =>
   (A.lss (v11.getD 1 AV.undef) x17).bind fun x18 =>
   A.cond x18 (
    ((A.lb (v11.getD 0 AV.undef)).bind fun _ => some (2)).bind fun p19 =>
    ((A.lb (v11.getD 0 AV.undef)).bind fun c20 => A.part1 p19 c20).bind fun x21 =>
    (A.look .i a0 x21 AV.np s12).bind fun x22 =>
    (A.nilck x22).bind fun x23 =>
    (A.aaddr 513 1 x23 (v11.getD 1 AV.undef)).bind fun x24 =>
    ((A.cell (AV.bool true)).bind fun v => some [v]).bind fun c25 =>
    (A.storeAt x24 c25 s12).bind fun c26 =>
    (A.add (v11.getD 1 AV.undef) (AV.int .i64 1)).bind fun x27 =>
    some (AX.normal, [(v11.getD 0 AV.undef), x27], c26)) (
    some (AX.exit 0, [(v11.getD 0 AV.undef), (v11.getD 1 AV.undef)], s12))) [(r5.1.getD 0 AV.undef), x10] r5.2).bind fun r28 =>
 bif r28.1 == AX.exit 0 then (
  some ((AV.tup []), r28.2.2)) else
 none
noncomputable def m_fixture_take : List AV → Heap → Option (AV × Heap) := A.wrap false [] .k (A.ar3 r_fixture_take)
noncomputable def r_fixture_CheckRig (a0 : AV) (σ : Heap) : Option (AV × Heap) :=
 (A.cells 2 a0).bind fun c1 =>
 (A.part1 0 c1).bind fun x2 =>
 (m_fixture_CheckLibrary [x2] σ).bind fun r3 =>
 (A.neq .i r3.1 (AV.int .i64 0)).bind fun x4 =>
 A.cond x4 (
  A.fin σ r3.1 r3.2) (
  (A.part1 1 c1).bind fun x5 =>
  (A.lenS x5).bind fun x6 =>
  (A.gtr x6 (AV.int .i64 400)).bind fun x7 =>
  A.cond x7 (
   A.fin σ (AV.int .i64 2) r3.2) (
   (A.part1 1 c1).bind fun x8 =>
   (A.lenS x8).bind fun x9 =>
   (A.loop (fun v10 s11 =>
     (A.lss (v10.getD 2 AV.undef) x9).bind fun x13 =>
     A.cond x13 (
      (A.iaddr 4 x8 (v10.getD 2 AV.undef)).bind fun x14 =>
      ((A.deref x14 s11).bind fun c15 => A.partA 0 4 c15).bind fun x16 =>
      (A.cells 4 x16).bind fun c17 =>
      (A.splice 0 c17 [(AV.int .i64 0), (AV.str ⟨#[]⟩), (AV.int .i64 0), (AV.int .i64 0)]).bind fun c18 =>
      (A.part1 0 c18).bind fun x19 =>
      (m_word_Within [x19, (AV.int .i64 1), (AV.int .i64 9999)] s11).bind fun r20 =>
      (A.not r20.1).bind fun x21 =>
      A.cond x21 (
       some (AX.ret, [(v10.getD 0 AV.undef), (AV.int .i64 1), (v10.getD 2 AV.undef)], r20.2)) (
       (A.gtr (v10.getD 2 AV.undef) (AV.int .i64 0)).bind fun x22 =>
       (A.guard x22 true (A.part1 0 c18) (some (AV.tup []))).bind fun x23 =>
       ((A.lb (v10.getD 0 AV.undef)).bind fun _ => some (1)).bind fun p24 =>
              (A.guard x22 true ((A.lb (v10.getD 0 AV.undef)).bind fun c25 => A.part1 p24 c25) (some (AV.tup []))).bind fun x26 =>
       (A.guard x22 true (some (v10.getD 2 AV.undef)) (some (AV.tup []))).bind fun x27 =>
       (A.guard x22 true (A.sub x27 (AV.int .i64 1)) (some (AV.tup []))).bind fun x28 =>
       (A.guard x22 true (A.iaddr 4 x26 x28) (some (AV.tup []))).bind fun x29 =>
       (A.guard x22 true (A.faddr 0 x29) (some (AV.tup []))).bind fun x30 =>
       (A.guard x22 true ((A.deref x30 r20.2).bind fun c31 => A.part1 0 c31) (some (AV.tup []))).bind fun x32 =>
       (A.guard x22 true (A.leq x23 x32) (some (AV.tup []))).bind fun x33 =>
       (A.pick x22 x33 (AV.bool false)).bind fun x34 =>
       A.cond x34 (
        some (AX.ret, [(v10.getD 0 AV.undef), (AV.int .i64 7), (v10.getD 2 AV.undef)], r20.2)) (
        ((A.lb (v10.getD 0 AV.undef)).bind fun _ => some (0)).bind fun p35 =>
        ((A.lb (v10.getD 0 AV.undef)).bind fun c36 => A.part1 p35 c36).bind fun x37 =>
        (A.part1 1 c18).bind fun x38 =>
        (m_fixture_profile [x37, x38] r20.2).bind fun r39 =>
        (A.ext 0 r39.1).bind fun x40 =>
        (A.ext 1 r39.1).bind fun x41 =>
        (A.cells 3 x40).bind fun c42 =>
        (A.splice 0 c42 [(AV.str ⟨#[]⟩), (AV.int .i64 0), AV.nsl]).bind fun c43 =>
        (A.not x41).bind fun x44 =>
        A.cond x44 (
         some (AX.ret, [(v10.getD 0 AV.undef), (AV.int .i64 5), (v10.getD 2 AV.undef)], r39.2)) (
         (A.part1 2 c18).bind fun x45 =>
         (m_word_Within [x45, (AV.int .i64 1), (AV.int .i64 64)] r39.2).bind fun r46 =>
         (A.not r46.1).bind fun x47 =>
         (A.guard x47 false (A.part1 3 c18) (some (AV.tup []))).bind fun x48 =>
         (A.guard x47 false (A.quiet (m_word_Within [x48, (AV.int .i64 1), (AV.int .i64 512)] r46.2) r46.2) (some (AV.tup []))).bind fun x49 =>
         (A.guard x47 false (A.not x49) (some (AV.tup []))).bind fun x50 =>
         (A.pick x47 (AV.bool true) x50).bind fun x51 =>
         (A.guard x51 false (A.part1 3 c18) (some (AV.tup []))).bind fun x52 =>
         (A.guard x51 false (A.part1 1 c43) (some (AV.tup []))).bind fun x53 =>
         (A.guard x51 false (A.add x52 x53) (some (AV.tup []))).bind fun x54 =>
         (A.guard x51 false (A.sub x54 (AV.int .i64 1)) (some (AV.tup []))).bind fun x55 =>
         (A.guard x51 false (A.gtr x55 (AV.int .i64 512)) (some (AV.tup []))).bind fun x56 =>
         (A.pick x51 (AV.bool true) x56).bind fun x57 =>
         A.cond x57 (
          some (AX.ret, [(v10.getD 0 AV.undef), (AV.int .i64 1), (v10.getD 2 AV.undef)], r46.2)) (
          (A.part1 2 c18).bind fun x58 =>
          (A.look .i (AV.om r3.2.length) x58 AV.np r46.2).bind fun x59 =>
          (A.part1 3 c18).bind fun x60 =>
          (A.part1 1 c43).bind fun x61 =>
          (m_fixture_slots_free [x59, x60, x61] r46.2).bind fun r62 =>
          (A.not r62.1).bind fun x63 =>
          A.cond x63 (
           some (AX.ret, [(v10.getD 0 AV.undef), (AV.int .i64 12), (v10.getD 2 AV.undef)], r62.2)) (
           (A.partA 0 4 c18).bind fun x64 =>
           (A.part1 1 c43).bind fun x65 =>
           (m_fixture_take [(AV.om r3.2.length), x64, x65] r62.2).bind fun r66 =>
           (A.add (v10.getD 2 AV.undef) (AV.int .i64 1)).bind fun x67 =>
           some (AX.normal, [(v10.getD 0 AV.undef), (v10.getD 1 AV.undef), x67], r66.2))))))) (
      some (AX.exit 0, [(v10.getD 0 AV.undef), (v10.getD 1 AV.undef), (v10.getD 2 AV.undef)], s11))) [(AV.lbx c1), (AV.int .i64 0), (AV.int .i64 0)] (r3.2 ++ [Blk.map []])).bind fun r68 =>
   bif r68.1 == AX.exit 0 then (
    A.fin σ (AV.int .i64 0) r68.2.2) else
   bif r68.1 == AX.ret then (
    A.fin σ (r68.2.1.getD 1 AV.undef) r68.2.2) else
   none))
noncomputable def m_fixture_CheckRig : List AV → Heap → Option (AV × Heap) := A.wrap true [(.a [(.s 3), (.s 4)])] .k (A.ar1 r_fixture_CheckRig)
noncomputable def r_fixture_Keys (a0 : AV) (σ : Heap) : Option (AV × Heap) :=
 (A.cells 2 a0).bind fun c1 =>
 (A.partA 0 2 c1).bind fun x2 =>
 (m_fixture_CheckRig [x2] σ).bind fun r3 =>
 (A.neq .i r3.1 (AV.int .i64 0)).bind fun x4 =>
 A.cond x4 (
  A.fin σ (AV.tup [AV.nsl, r3.1]) r3.2) (
  (A.part1 1 c1).bind fun x5 =>
  (A.lenS x5).bind fun x6 =>
  (A.loop (fun v7 s8 =>
    (A.lss (v7.getD 2 AV.undef) x6).bind fun x10 =>
    A.cond x10 (
     (A.iaddr 4 x5 (v7.getD 2 AV.undef)).bind fun x11 =>
     ((A.deref x11 s8).bind fun c12 => A.partA 0 4 c12).bind fun x13 =>
     (A.cells 4 x13).bind fun c14 =>
     (A.splice 0 c14 [(AV.int .i64 0), (AV.str ⟨#[]⟩), (AV.int .i64 0), (AV.int .i64 0)]).bind fun c15 =>
     ((A.lb (v7.getD 0 AV.undef)).bind fun _ => some (0)).bind fun p16 =>
     ((A.lb (v7.getD 0 AV.undef)).bind fun c17 => A.part1 p16 c17).bind fun x18 =>
     (A.part1 1 c15).bind fun x19 =>
     (m_fixture_profile [x18, x19] s8).bind fun r20 =>
     (A.ext 0 r20.1).bind fun x21 =>
     (A.ext 1 r20.1).bind fun x22 =>
     (A.cells 3 x21).bind fun c23 =>
     (A.splice 0 c23 [(AV.str ⟨#[]⟩), (AV.int .i64 0), AV.nsl]).bind fun c24 =>
     (A.part1 2 c24).bind fun x25 =>
     (A.lenS x25).bind fun x26 =>
     (A.loop (fun v27 s28 =>
       (A.lss (v27.getD 3 AV.undef) x26).bind fun x30 =>
       A.cond x30 (
        (A.iaddr 7 x25 (v27.getD 3 AV.undef)).bind fun x31 =>
        ((A.deref x31 s28).bind fun c32 => A.partA 0 7 c32).bind fun x33 =>
        (A.cells 7 x33).bind fun c34 =>
        (A.splice 0 c34 [(AV.str ⟨#[]⟩), (AV.int .i64 0), (AV.int .i64 0), (AV.int .i64 0), (AV.int .i64 0), (AV.bool false), AV.nsl]).bind fun c35 =>
        ((A.lb (v27.getD 2 AV.undef)).bind fun _ => some (0)).bind fun p36 =>
        ((A.lb (v27.getD 2 AV.undef)).bind fun c37 => A.part1 p36 c37).bind fun x38 =>
        (A.part1 0 c35).bind fun x39 =>
        ((((A.cell x38).bind fun v => some [v]).bind fun c40 => (A.splice 0 c40 [(AV.int .i64 0), (AV.str ⟨#[]⟩)]).bind fun c41 => ((A.cell x39).bind fun v => some [v]).bind fun c42 => (A.splice 1 c42 c41).bind fun c43 => some c43).bind fun cs => some (AV.agg cs)).bind fun x44 =>
        (((A.cells 2 x44).bind fun c45 => (A.splice 0 c45 [(AV.int .i64 0), (AV.str ⟨#[]⟩)]).bind fun c46 => some c46).bind fun cs => some (AV.sl 2 (chunks 2 1 cs))).bind fun x47 =>
        (A.append 2 (140737488355328 / 24) (v27.getD 1 AV.undef) x47 s28).bind fun r48 =>
        (A.add (v27.getD 3 AV.undef) (AV.int .i64 1)).bind fun x49 =>
        some (AX.normal, [(v27.getD 0 AV.undef), r48.1, (v27.getD 2 AV.undef), x49], r48.2)) (
        some (AX.exit 2, [(v27.getD 0 AV.undef), (v27.getD 1 AV.undef), (v27.getD 2 AV.undef), (v27.getD 3 AV.undef)], s28))) [(v7.getD 0 AV.undef), (v7.getD 1 AV.undef), (AV.lbx c15), (AV.int .i64 0)] r20.2).bind fun r50 =>
     bif r50.1 == AX.exit 2 then (
      (A.add (v7.getD 2 AV.undef) (AV.int .i64 1)).bind fun x51 =>
      some (AX.normal, [(r50.2.1.getD 0 AV.undef), (r50.2.1.getD 1 AV.undef), x51], r50.2.2)) else
     none) (
     some (AX.exit 0, [(v7.getD 0 AV.undef), (v7.getD 1 AV.undef), (v7.getD 2 AV.undef)], s8))) [(AV.lbx c1), AV.nsl, (AV.int .i64 0)] r3.2).bind fun r52 =>
  bif r52.1 == AX.exit 0 then (
   A.fin σ (AV.tup [(r52.2.1.getD 1 AV.undef), (AV.int .i64 0)]) r52.2.2) else
  none)
noncomputable def m_fixture_Keys : List AV → Heap → Option (AV × Heap) := A.wrap true [(.a [(.s 3), (.s 4)])] (.t [(.s 2), .k]) (A.ar1 r_fixture_Keys)
end Go.Proofs.YtkdafecbdncmiaaDoor

namespace Go.Proofs.YtkdafecbdncmiaaDoor
set_option linter.unusedSectionVars false
set_option linter.unusedSimpArgs false
set_option linter.unusedVariables false
set_option maxRecDepth 100000
noncomputable def r_pick_keys (a0 : AV) (σ : Heap) : Option (AV × Heap) :=
 (A.cells 2 a0).bind fun c1 =>
 (A.partA 0 2 c1).bind fun x2 =>
 (m_fixture_Keys [x2] σ).bind fun r3 =>
 (A.ext 0 r3.1).bind fun x4 =>
 (A.ext 1 r3.1).bind fun x5 =>
 (A.lenS x4).bind fun x6 =>
 (A.loop (fun v7 s8 =>
   (A.lss (v7.getD 0 AV.undef) x6).bind fun x10 =>
   A.cond x10 (
    (A.iaddr 2 x4 (v7.getD 0 AV.undef)).bind fun x11 =>
    ((A.deref x11 s8).bind fun c12 => A.partA 0 2 c12).bind fun x13 =>
    (A.cells 2 x13).bind fun c14 =>
    (A.splice 0 c14 [(AV.int .i64 0), (AV.str ⟨#[]⟩)]).bind fun c15 =>
    (A.partA 0 2 c15).bind fun x16 =>
    (A.mupd (.s [0, 2]) (AV.om r3.2.length) x16 (AV.bool true) s8).bind fun h17 =>
    (A.add (v7.getD 0 AV.undef) (AV.int .i64 1)).bind fun x18 =>
    some (AX.normal, [x18], h17)) (
    some (AX.exit 0, [(v7.getD 0 AV.undef)], s8))) [(AV.int .i64 0)] (r3.2 ++ [Blk.map []])).bind fun r19 =>
 bif r19.1 == AX.exit 0 then (
  A.fin σ (AV.om r3.2.length) r19.2.2) else
 none
noncomputable def m_pick_keys : List AV → Heap → Option (AV × Heap) := A.wrap true [(.a [(.s 3), (.s 4)])] .k (A.ar1 r_pick_keys)
noncomputable def r_pick_blank (a0 : AV) (σ : Heap) : Option (AV × Heap) :=
 (A.eql .z a0 (AV.str ⟨#[]⟩)).bind fun x1 =>
 (A.guard x1 false (some a0) (some (AV.tup []))).bind fun x2 =>
 (A.guard x1 false (A.quiet (m_word_Title [x2] σ) σ) (some (AV.tup []))).bind fun x3 =>
 (A.pick x1 (AV.bool true) x3).bind fun x4 =>
 A.fin σ x4 σ
noncomputable def m_pick_blank : List AV → Heap → Option (AV × Heap) := A.wrap true [] .k (A.ar1 r_pick_blank)
noncomputable def r_pick_isLevel (a0 : AV) (σ : Heap) : Option (AV × Heap) :=
 (m_word_Within [a0, (AV.int .i64 0), (AV.int .i64 65535)] σ).bind fun r1 =>
 A.fin σ r1.1 r1.2
noncomputable def m_pick_isLevel : List AV → Heap → Option (AV × Heap) := A.wrap true [] .k (A.ar1 r_pick_isLevel)
noncomputable def r_pick_before (a0 a1 : AV) (σ : Heap) : Option (AV × Heap) :=
 (A.cells 2 a0).bind fun c1 =>
 (A.cells 2 a1).bind fun c2 =>
 (A.part1 0 c1).bind fun x3 =>
 (A.part1 0 c2).bind fun x4 =>
 (A.neq .i x3 x4).bind fun x5 =>
 A.cond x5 (
  (A.part1 0 c1).bind fun x6 =>
  (A.part1 0 c2).bind fun x7 =>
  (A.lss x6 x7).bind fun x8 =>
  A.fin σ x8 σ) (
  (A.part1 1 c1).bind fun x9 =>
  (A.part1 1 c2).bind fun x10 =>
  (m_strings_Compare [x9, x10] σ).bind fun r11 =>
  (A.lss r11.1 (AV.int .i64 0)).bind fun x12 =>
  A.fin σ x12 r11.2)
noncomputable def m_pick_before : List AV → Heap → Option (AV × Heap) := A.wrap true [] .k (A.ar2 r_pick_before)
noncomputable def r_pick_CheckPresets (a0 a1 : AV) (σ : Heap) : Option (AV × Heap) :=
 (A.cells 2 a0).bind fun c1 =>
 (A.partA 0 2 c1).bind fun x2 =>
 (m_fixture_CheckRig [x2] σ).bind fun r3 =>
 (A.lenS a1).bind fun x4 =>
 (A.gtr x4 (AV.int .i64 200)).bind fun x5 =>
 (m_word_When [x5, (AV.int .i64 2)] r3.2).bind fun r6 =>
 ((((A.cell r3.1).bind fun v => some [v]).bind fun c7 => (A.splice 0 c7 [(AV.int .i64 0), (AV.int .i64 0)]).bind fun c8 => ((A.cell r6.1).bind fun v => some [v]).bind fun c9 => (A.splice 1 c9 c8).bind fun c10 => some c10).bind fun cs => some (AV.sl 1 (chunks 1 2 cs))).bind fun x11 =>
 (m_word_First [x11] r6.2).bind fun r12 =>
 (A.neq .i r12.1 (AV.int .i64 0)).bind fun x13 =>
 A.cond x13 (
  A.fin σ r12.1 r12.2) (
  (A.partA 0 2 c1).bind fun x14 =>
  (m_pick_keys [x14] r12.2).bind fun r15 =>
  (A.lenS a1).bind fun x16 =>
  (A.loop (fun v17 s18 =>
    (A.lss (v17.getD 1 AV.undef) x16).bind fun x20 =>
    A.cond x20 (
     (A.iaddr 3 a1 (v17.getD 1 AV.undef)).bind fun x21 =>
     ((A.deref x21 s18).bind fun c22 => A.partA 0 3 c22).bind fun x23 =>
     (A.cells 3 x23).bind fun c24 =>
     (A.splice 0 c24 [(AV.int .i64 0), (AV.str ⟨#[]⟩), AV.nsl]).bind fun c25 =>
     (A.part1 0 c25).bind fun x26 =>
     (m_word_Within [x26, (AV.int .i64 1), (AV.int .i64 999)] s18).bind fun r27 =>
     (A.not r27.1).bind fun x28 =>
     A.cond x28 (
      some (AX.ret, [(AV.int .i64 1), (v17.getD 1 AV.undef)], r27.2)) (
      (A.gtr (v17.getD 1 AV.undef) (AV.int .i64 0)).bind fun x29 =>
      (A.guard x29 true (A.part1 0 c25) (some (AV.tup []))).bind fun x30 =>
      (A.guard x29 true (some a1) (some (AV.tup []))).bind fun x31 =>
      (A.guard x29 true (some (v17.getD 1 AV.undef)) (some (AV.tup []))).bind fun x32 =>
      (A.guard x29 true (A.sub x32 (AV.int .i64 1)) (some (AV.tup []))).bind fun x33 =>
      (A.guard x29 true (A.iaddr 3 x31 x33) (some (AV.tup []))).bind fun x34 =>
      (A.guard x29 true (A.faddr 0 x34) (some (AV.tup []))).bind fun x35 =>
      (A.guard x29 true ((A.deref x35 r27.2).bind fun c36 => A.part1 0 c36) (some (AV.tup []))).bind fun x37 =>
      (A.guard x29 true (A.leq x30 x37) (some (AV.tup []))).bind fun x38 =>
      (A.pick x29 x38 (AV.bool false)).bind fun x39 =>
      A.cond x39 (
       some (AX.ret, [(AV.int .i64 7), (v17.getD 1 AV.undef)], r27.2)) (
       (A.part1 1 c25).bind fun x40 =>
       (m_pick_blank [x40] r27.2).bind fun r41 =>
       (A.not r41.1).bind fun x42 =>
       A.cond x42 (
        some (AX.ret, [(AV.int .i64 3), (v17.getD 1 AV.undef)], r41.2)) (
        (A.part1 2 c25).bind fun x43 =>
        (A.lenS x43).bind fun x44 =>
        (A.gtr x44 (AV.int .i64 2000)).bind fun x45 =>
        A.cond x45 (
         some (AX.ret, [(AV.int .i64 2), (v17.getD 1 AV.undef)], r41.2)) (
         (A.part1 2 c25).bind fun x46 =>
         (A.lenS x46).bind fun x47 =>
         (A.loop (fun v48 s49 =>
           (A.lss (v48.getD 2 AV.undef) x47).bind fun x51 =>
           A.cond x51 (
            (A.iaddr 3 x46 (v48.getD 2 AV.undef)).bind fun x52 =>
            ((A.deref x52 s49).bind fun c53 => A.partA 0 3 c53).bind fun x54 =>
            (A.cells 3 x54).bind fun c55 =>
            (A.splice 0 c55 [(AV.int .i64 0), (AV.str ⟨#[]⟩), (AV.int .i64 0)]).bind fun c56 =>
            (A.partA 0 2 c56).bind fun x57 =>
            (A.look (.s [0, 2]) r15.1 x57 (AV.bool false) s49).bind fun x58 =>
            (A.not x58).bind fun x59 =>
            A.cond x59 (
             some (AX.ret, [(AV.int .i64 8), (v48.getD 1 AV.undef), (v48.getD 2 AV.undef)], s49)) (
             (A.part1 2 c56).bind fun x60 =>
             (m_pick_isLevel [x60] s49).bind fun r61 =>
             (A.not r61.1).bind fun x62 =>
             A.cond x62 (
              some (AX.ret, [(AV.int .i64 1), (v48.getD 1 AV.undef), (v48.getD 2 AV.undef)], r61.2)) (
              (A.gtr (v48.getD 2 AV.undef) (AV.int .i64 0)).bind fun x63 =>
              ((A.lb (v48.getD 1 AV.undef)).bind fun _ => some (2)).bind fun p64 =>
                            (A.guard x63 true ((A.lb (v48.getD 1 AV.undef)).bind fun c65 => A.part1 p64 c65) (some (AV.tup []))).bind fun x66 =>
              (A.guard x63 true (some (v48.getD 2 AV.undef)) (some (AV.tup []))).bind fun x67 =>
              (A.guard x63 true (A.sub x67 (AV.int .i64 1)) (some (AV.tup []))).bind fun x68 =>
              (A.guard x63 true (A.iaddr 3 x66 x68) (some (AV.tup []))).bind fun x69 =>
              (A.guard x63 true (A.faddr 0 x69) (some (AV.tup []))).bind fun x70 =>
              (A.guard x63 true ((A.deref x70 r61.2).bind fun c71 => A.partA 0 2 c71) (some (AV.tup []))).bind fun x72 =>
              (A.guard x63 true (A.partA 0 2 c56) (some (AV.tup []))).bind fun x73 =>
              (A.guard x63 true (A.quiet (m_pick_before [x72, x73] r61.2) r61.2) (some (AV.tup []))).bind fun x74 =>
              (A.guard x63 true (A.not x74) (some (AV.tup []))).bind fun x75 =>
              (A.pick x63 x75 (AV.bool false)).bind fun x76 =>
              A.cond x76 (
               some (AX.ret, [(AV.int .i64 7), (v48.getD 1 AV.undef), (v48.getD 2 AV.undef)], r61.2)) (
               (A.add (v48.getD 2 AV.undef) (AV.int .i64 1)).bind fun x77 =>
               some (AX.normal, [(v48.getD 0 AV.undef), (v48.getD 1 AV.undef), x77], r61.2))))) (
            some (AX.exit 3, [(v48.getD 0 AV.undef), (v48.getD 1 AV.undef), (v48.getD 2 AV.undef)], s49))) [(v17.getD 0 AV.undef), (AV.lbx c25), (AV.int .i64 0)] r41.2).bind fun r78 =>
         bif r78.1 == AX.exit 3 then (
          (A.add (v17.getD 1 AV.undef) (AV.int .i64 1)).bind fun x79 =>
          some (AX.normal, [(r78.2.1.getD 0 AV.undef), x79], r78.2.2)) else
         bif r78.1 == AX.ret then (
          some (AX.ret, [(r78.2.1.getD 0 AV.undef), (v17.getD 1 AV.undef)], r78.2.2)) else
         none))))) (
     some (AX.exit 0, [(v17.getD 0 AV.undef), (v17.getD 1 AV.undef)], s18))) [(AV.int .i64 0), (AV.int .i64 0)] r15.2).bind fun r80 =>
  bif r80.1 == AX.exit 0 then (
   A.fin σ (AV.int .i64 0) r80.2.2) else
  bif r80.1 == AX.ret then (
   A.fin σ (r80.2.1.getD 0 AV.undef) r80.2.2) else
  none)
noncomputable def m_pick_CheckPresets : List AV → Heap → Option (AV × Heap) := A.wrap true [(.a [(.s 3), (.s 4)]), (.s 3)] .k (A.ar2 r_pick_CheckPresets)
noncomputable def r_pick_size (rec : Nat → List AV → Heap → Option (AV × Heap)) (a0 : AV) (σ : Heap) : Option (AV × Heap) :=
 (A.cells 4 a0).bind fun c1 =>
 (A.part1 3 c1).bind fun x2 =>
 (A.lenS x2).bind fun x3 =>
 (A.loop (fun v4 s5 =>
   (A.lss (v4.getD 2 AV.undef) x3).bind fun x7 =>
   A.cond x7 (
    (A.iaddr 4 x2 (v4.getD 2 AV.undef)).bind fun x8 =>
    ((A.deref x8 s5).bind fun c9 => A.partA 0 4 c9).bind fun x10 =>
    (A.cells 4 x10).bind fun c11 =>
    (A.splice 0 c11 [(AV.int .i64 0), (AV.int .i64 0), (AV.int .i64 0), AV.nsl]).bind fun c12 =>
    (A.partA 0 4 c12).bind fun x13 =>
    (rec 37 [x13] s5).bind fun r14 =>
    (A.ext 0 r14.1).bind fun x15 =>
    (A.ext 1 r14.1).bind fun x16 =>
    (A.add (v4.getD 0 AV.undef) x15).bind fun x17 =>
    (A.add x16 (AV.int .i64 1)).bind fun x18 =>
    (A.max (v4.getD 1 AV.undef) x18).bind fun x19 =>
    (A.add (v4.getD 2 AV.undef) (AV.int .i64 1)).bind fun x20 =>
    some (AX.normal, [x17, x19, x20], r14.2)) (
    some (AX.exit 0, [(v4.getD 0 AV.undef), (v4.getD 1 AV.undef), (v4.getD 2 AV.undef)], s5))) [(AV.int .i64 1), (AV.int .i64 1), (AV.int .i64 0)] σ).bind fun r21 =>
 bif r21.1 == AX.exit 0 then (
  A.fin σ (AV.tup [(r21.2.1.getD 0 AV.undef), (r21.2.1.getD 1 AV.undef)]) r21.2.2) else
 none
noncomputable def R_pick_size (rec : Nat → List AV → Heap → Option (AV × Heap)) : List (Nat × (List AV → Heap → Option (AV × Heap))) := [(37, A.wrap true [(.a [.k, .k, .k, (.s 4)])] .k (A.ar1 (r_pick_size rec)))]
noncomputable def m_pick_size : List AV → Heap → Option (AV × Heap) := fuel (R_pick_size) 2000000 37
noncomputable def r_pick_check (rec : Nat → List AV → Heap → Option (AV × Heap)) (a0 : AV) (σ : Heap) : Option (AV × Heap) :=
 (A.cells 4 a0).bind fun c1 =>
 (A.part1 0 c1).bind fun x2 =>
 (A.eql .i x2 (AV.int .i64 1)).bind fun x3 =>
 A.cond x3 (
  (A.part1 3 c1).bind fun x4 =>
  (A.lenS x4).bind fun x5 =>
  (A.neq .i x5 (AV.int .i64 0)).bind fun x6 =>
  (A.part1 0 c1).bind fun x7 =>
  (A.eql .i x7 (AV.int .i64 4)).bind fun x8 =>
  (A.cond x8 (
   (A.part1 3 c1).bind fun x10 =>
   (A.lenS x10).bind fun x11 =>
   (A.lss x11 (AV.int .i64 2)).bind fun x12 =>
   some ([(AV.lbx c1), x12], σ)) (
   some ([(AV.lbx c1), x6], σ))).bind fun r9 =>
  (A.guard (r9.1.getD 1 AV.undef) false (some (AV.bool true)) (some (AV.tup []))).bind fun x13 =>
  (A.guard (r9.1.getD 1 AV.undef) false (A.not x13) (some (AV.tup []))).bind fun x14 =>
  (A.guard (r9.1.getD 1 AV.undef) false (some x14) (some (AV.tup []))).bind fun x15 =>
  ((A.lb (r9.1.getD 0 AV.undef)).bind fun _ => some (1)).bind fun p16 =>
    (A.guard x15 true ((A.lb (r9.1.getD 0 AV.undef)).bind fun c17 => A.part1 p16 c17) (some (AV.tup []))).bind fun x18 =>
  (A.guard x15 true (A.neq .i x18 (AV.int .i64 0)) (some (AV.tup []))).bind fun x19 =>
  (A.guard (r9.1.getD 1 AV.undef) false (A.pick x15 x19 (AV.bool false)) (some (AV.tup []))).bind fun x20 =>
  (A.pick (r9.1.getD 1 AV.undef) (AV.bool true) x20).bind fun x21 =>
  (A.guard x21 false (some (AV.bool true)) (some (AV.tup []))).bind fun x22 =>
  (A.guard x21 false (A.not x22) (some (AV.tup []))).bind fun x23 =>
  (A.guard x21 false (some x23) (some (AV.tup []))).bind fun x24 =>
  ((A.lb (r9.1.getD 0 AV.undef)).bind fun _ => some (2)).bind fun p25 =>
    (A.guard x24 true ((A.lb (r9.1.getD 0 AV.undef)).bind fun c26 => A.part1 p25 c26) (some (AV.tup []))).bind fun x27 =>
  (A.guard x24 true (A.neq .i x27 (AV.int .i64 0)) (some (AV.tup []))).bind fun x28 =>
  (A.guard x21 false (A.pick x24 x28 (AV.bool false)) (some (AV.tup []))).bind fun x29 =>
  (A.pick x21 (AV.bool true) x29).bind fun x30 =>
  A.cond x30 (
   A.fin σ (AV.int .i64 3) r9.2) (
   ((A.lb (r9.1.getD 0 AV.undef)).bind fun _ => some (0)).bind fun p31 =>
   ((A.lb (r9.1.getD 0 AV.undef)).bind fun c32 => A.part1 p31 c32).bind fun x33 =>
   (A.eql .i x33 (AV.int .i64 2)).bind fun x34 =>
   (A.cond x34 (
    some ([(r9.1.getD 0 AV.undef), (AV.int .i64 999)], r9.2)) (
    (A.eql .i x33 (AV.int .i64 3)).bind fun x36 =>
    (A.cond x36 (
     some ([(r9.1.getD 0 AV.undef), (AV.int .i64 999)], r9.2)) (
     some ([(r9.1.getD 0 AV.undef), (AV.int .i64 9999)], r9.2))).bind fun r37 =>
    some ([(r37.1.getD 0 AV.undef), (r37.1.getD 1 AV.undef)], r37.2))).bind fun r35 =>
   ((A.lb (r35.1.getD 0 AV.undef)).bind fun _ => some (1)).bind fun p38 =>
      (A.guard (AV.bool true) true ((A.lb (r35.1.getD 0 AV.undef)).bind fun c39 => A.part1 p38 c39) (some (AV.tup []))).bind fun x40 =>
   (A.guard (AV.bool true) true (some (r35.1.getD 1 AV.undef)) (some (AV.tup []))).bind fun x41 =>
   (A.guard (AV.bool true) true (A.quiet (m_word_Within [x40, (AV.int .i64 1), x41] r35.2) r35.2) (some (AV.tup []))).bind fun x42 =>
   (A.guard (AV.bool true) true (A.not x42) (some (AV.tup []))).bind fun x43 =>
   (A.pick (AV.bool true) x43 (AV.bool false)).bind fun x44 =>
   (A.guard x44 false (some (AV.bool true)) (some (AV.tup []))).bind fun x45 =>
   (A.guard x44 false (some x45) (some (AV.tup []))).bind fun x46 =>
   ((A.lb (r35.1.getD 0 AV.undef)).bind fun _ => some (2)).bind fun p47 =>
      (A.guard x46 true ((A.lb (r35.1.getD 0 AV.undef)).bind fun c48 => A.part1 p47 c48) (some (AV.tup []))).bind fun x49 =>
   (A.guard x46 true (some (r35.1.getD 1 AV.undef)) (some (AV.tup []))).bind fun x50 =>
   (A.guard x46 true (A.quiet (m_word_Within [x49, (AV.int .i64 1), x50] r35.2) r35.2) (some (AV.tup []))).bind fun x51 =>
   (A.guard x46 true (A.not x51) (some (AV.tup []))).bind fun x52 =>
   (A.guard x44 false (A.pick x46 x52 (AV.bool false)) (some (AV.tup []))).bind fun x53 =>
   (A.pick x44 (AV.bool true) x53).bind fun x54 =>
   A.cond x54 (
    A.fin σ (AV.int .i64 1) r35.2) (
    ((A.lb (r35.1.getD 0 AV.undef)).bind fun _ => some (3)).bind fun p55 =>
    ((A.lb (r35.1.getD 0 AV.undef)).bind fun c56 => A.part1 p55 c56).bind fun x57 =>
    (A.lenS x57).bind fun x58 =>
    (A.loop (fun v59 s60 =>
      (A.lss (v59.getD 1 AV.undef) x58).bind fun x62 =>
      A.cond x62 (
       (A.iaddr 4 x57 (v59.getD 1 AV.undef)).bind fun x63 =>
       ((A.deref x63 s60).bind fun c64 => A.partA 0 4 c64).bind fun x65 =>
       (A.cells 4 x65).bind fun c66 =>
       (A.splice 0 c66 [(AV.int .i64 0), (AV.int .i64 0), (AV.int .i64 0), AV.nsl]).bind fun c67 =>
       (A.partA 0 4 c67).bind fun x68 =>
       (rec 38 [x68] s60).bind fun r69 =>
       (A.neq .i r69.1 (AV.int .i64 0)).bind fun x70 =>
       A.cond x70 (
        some (AX.ret, [r69.1, (v59.getD 1 AV.undef)], r69.2)) (
        (A.add (v59.getD 1 AV.undef) (AV.int .i64 1)).bind fun x71 =>
        some (AX.normal, [(v59.getD 0 AV.undef), x71], r69.2))) (
       some (AX.exit 2, [(v59.getD 0 AV.undef), (v59.getD 1 AV.undef)], s60))) [(AV.int .i64 0), (AV.int .i64 0)] r35.2).bind fun r72 =>
    bif r72.1 == AX.exit 2 then (
     A.fin σ (AV.int .i64 0) r72.2.2) else
    bif r72.1 == AX.ret then (
     A.fin σ (r72.2.1.getD 0 AV.undef) r72.2.2) else
    none))) (
  (A.eql .i x2 (AV.int .i64 2)).bind fun x73 =>
  (A.cond x73 (
   some ([(AV.lbx c1), x73], σ)) (
   (A.eql .i x2 (AV.int .i64 3)).bind fun x75 =>
   some ([(AV.lbx c1), x75], σ))).bind fun r74 =>
  A.cond (r74.1.getD 1 AV.undef) (
   ((A.lb (r74.1.getD 0 AV.undef)).bind fun _ => some (3)).bind fun p76 =>
   ((A.lb (r74.1.getD 0 AV.undef)).bind fun c77 => A.part1 p76 c77).bind fun x78 =>
   (A.lenS x78).bind fun x79 =>
   (A.neq .i x79 (AV.int .i64 0)).bind fun x80 =>
   ((A.lb (r74.1.getD 0 AV.undef)).bind fun _ => some (0)).bind fun p81 =>
   ((A.lb (r74.1.getD 0 AV.undef)).bind fun c82 => A.part1 p81 c82).bind fun x83 =>
   (A.eql .i x83 (AV.int .i64 4)).bind fun x84 =>
   (A.cond x84 (
    ((A.lb (r74.1.getD 0 AV.undef)).bind fun _ => some (3)).bind fun p86 =>
    ((A.lb (r74.1.getD 0 AV.undef)).bind fun c87 => A.part1 p86 c87).bind fun x88 =>
    (A.lenS x88).bind fun x89 =>
    (A.lss x89 (AV.int .i64 2)).bind fun x90 =>
    some ([(r74.1.getD 0 AV.undef), x90], r74.2)) (
    some ([(r74.1.getD 0 AV.undef), x80], r74.2))).bind fun r85 =>
   (A.guard (r85.1.getD 1 AV.undef) false (some (AV.bool true)) (some (AV.tup []))).bind fun x91 =>
   (A.guard (r85.1.getD 1 AV.undef) false (A.not x91) (some (AV.tup []))).bind fun x92 =>
   (A.guard (r85.1.getD 1 AV.undef) false (some x92) (some (AV.tup []))).bind fun x93 =>
   ((A.lb (r85.1.getD 0 AV.undef)).bind fun _ => some (1)).bind fun p94 =>
      (A.guard x93 true ((A.lb (r85.1.getD 0 AV.undef)).bind fun c95 => A.part1 p94 c95) (some (AV.tup []))).bind fun x96 =>
   (A.guard x93 true (A.neq .i x96 (AV.int .i64 0)) (some (AV.tup []))).bind fun x97 =>
   (A.guard (r85.1.getD 1 AV.undef) false (A.pick x93 x97 (AV.bool false)) (some (AV.tup []))).bind fun x98 =>
   (A.pick (r85.1.getD 1 AV.undef) (AV.bool true) x98).bind fun x99 =>
   (A.guard x99 false (some (AV.bool false)) (some (AV.tup []))).bind fun x100 =>
   (A.guard x99 false (A.not x100) (some (AV.tup []))).bind fun x101 =>
   (A.guard x99 false (some x101) (some (AV.tup []))).bind fun x102 =>
   ((A.lb (r85.1.getD 0 AV.undef)).bind fun _ => some (2)).bind fun p103 =>
      (A.guard x102 true ((A.lb (r85.1.getD 0 AV.undef)).bind fun c104 => A.part1 p103 c104) (some (AV.tup []))).bind fun x105 =>
   (A.guard x102 true (A.neq .i x105 (AV.int .i64 0)) (some (AV.tup []))).bind fun x106 =>
   (A.guard x99 false (A.pick x102 x106 (AV.bool false)) (some (AV.tup []))).bind fun x107 =>
   (A.pick x99 (AV.bool true) x107).bind fun x108 =>
   A.cond x108 (
    A.fin σ (AV.int .i64 3) r85.2) (
    ((A.lb (r85.1.getD 0 AV.undef)).bind fun _ => some (0)).bind fun p109 =>
    ((A.lb (r85.1.getD 0 AV.undef)).bind fun c110 => A.part1 p109 c110).bind fun x111 =>
    (A.eql .i x111 (AV.int .i64 2)).bind fun x112 =>
    (A.cond x112 (
     some ([(r85.1.getD 0 AV.undef), (AV.int .i64 999)], r85.2)) (
     (A.eql .i x111 (AV.int .i64 3)).bind fun x114 =>
     (A.cond x114 (
      some ([(r85.1.getD 0 AV.undef), (AV.int .i64 999)], r85.2)) (
      some ([(r85.1.getD 0 AV.undef), (AV.int .i64 9999)], r85.2))).bind fun r115 =>
     some ([(r115.1.getD 0 AV.undef), (r115.1.getD 1 AV.undef)], r115.2))).bind fun r113 =>
    ((A.lb (r113.1.getD 0 AV.undef)).bind fun _ => some (1)).bind fun p116 =>
        (A.guard (AV.bool true) true ((A.lb (r113.1.getD 0 AV.undef)).bind fun c117 => A.part1 p116 c117) (some (AV.tup []))).bind fun x118 =>
    (A.guard (AV.bool true) true (some (r113.1.getD 1 AV.undef)) (some (AV.tup []))).bind fun x119 =>
    (A.guard (AV.bool true) true (A.quiet (m_word_Within [x118, (AV.int .i64 1), x119] r113.2) r113.2) (some (AV.tup []))).bind fun x120 =>
    (A.guard (AV.bool true) true (A.not x120) (some (AV.tup []))).bind fun x121 =>
    (A.pick (AV.bool true) x121 (AV.bool false)).bind fun x122 =>
    (A.guard x122 false (some (AV.bool false)) (some (AV.tup []))).bind fun x123 =>
    (A.guard x122 false (some x123) (some (AV.tup []))).bind fun x124 =>
    ((A.lb (r113.1.getD 0 AV.undef)).bind fun _ => some (2)).bind fun p125 =>
        (A.guard x124 true ((A.lb (r113.1.getD 0 AV.undef)).bind fun c126 => A.part1 p125 c126) (some (AV.tup []))).bind fun x127 =>
    (A.guard x124 true (some (r113.1.getD 1 AV.undef)) (some (AV.tup []))).bind fun x128 =>
    (A.guard x124 true (A.quiet (m_word_Within [x127, (AV.int .i64 1), x128] r113.2) r113.2) (some (AV.tup []))).bind fun x129 =>
    (A.guard x124 true (A.not x129) (some (AV.tup []))).bind fun x130 =>
    (A.guard x122 false (A.pick x124 x130 (AV.bool false)) (some (AV.tup []))).bind fun x131 =>
    (A.pick x122 (AV.bool true) x131).bind fun x132 =>
    A.cond x132 (
     A.fin σ (AV.int .i64 1) r113.2) (
     ((A.lb (r113.1.getD 0 AV.undef)).bind fun _ => some (3)).bind fun p133 =>
     ((A.lb (r113.1.getD 0 AV.undef)).bind fun c134 => A.part1 p133 c134).bind fun x135 =>
     (A.lenS x135).bind fun x136 =>
     (A.loop (fun v137 s138 =>
       (A.lss (v137.getD 1 AV.undef) x136).bind fun x140 =>
       A.cond x140 (
        (A.iaddr 4 x135 (v137.getD 1 AV.undef)).bind fun x141 =>
        ((A.deref x141 s138).bind fun c142 => A.partA 0 4 c142).bind fun x143 =>
        (A.cells 4 x143).bind fun c144 =>
        (A.splice 0 c144 [(AV.int .i64 0), (AV.int .i64 0), (AV.int .i64 0), AV.nsl]).bind fun c145 =>
        (A.partA 0 4 c145).bind fun x146 =>
        (rec 38 [x146] s138).bind fun r147 =>
        (A.neq .i r147.1 (AV.int .i64 0)).bind fun x148 =>
        A.cond x148 (
         some (AX.ret, [r147.1, (v137.getD 1 AV.undef)], r147.2)) (
         (A.add (v137.getD 1 AV.undef) (AV.int .i64 1)).bind fun x149 =>
         some (AX.normal, [(v137.getD 0 AV.undef), x149], r147.2))) (
        some (AX.exit 2, [(v137.getD 0 AV.undef), (v137.getD 1 AV.undef)], s138))) [(AV.int .i64 0), (AV.int .i64 0)] r113.2).bind fun r150 =>
     bif r150.1 == AX.exit 2 then (
      A.fin σ (AV.int .i64 0) r150.2.2) else
     bif r150.1 == AX.ret then (
      A.fin σ (r150.2.1.getD 0 AV.undef) r150.2.2) else
     none))) (
   (A.eql .i x2 (AV.int .i64 4)).bind fun x151 =>
   (A.cond x151 (
    some ([(r74.1.getD 0 AV.undef), x151], r74.2)) (
    (A.eql .i x2 (AV.int .i64 5)).bind fun x153 =>
    some ([(r74.1.getD 0 AV.undef), x153], r74.2))).bind fun r152 =>
   A.cond (r152.1.getD 1 AV.undef) (
    ((A.lb (r152.1.getD 0 AV.undef)).bind fun _ => some (3)).bind fun p154 =>
    ((A.lb (r152.1.getD 0 AV.undef)).bind fun c155 => A.part1 p154 c155).bind fun x156 =>
    (A.lenS x156).bind fun x157 =>
    (A.neq .i x157 (AV.int .i64 2)).bind fun x158 =>
    ((A.lb (r152.1.getD 0 AV.undef)).bind fun _ => some (0)).bind fun p159 =>
    ((A.lb (r152.1.getD 0 AV.undef)).bind fun c160 => A.part1 p159 c160).bind fun x161 =>
    (A.eql .i x161 (AV.int .i64 4)).bind fun x162 =>
    (A.cond x162 (
     ((A.lb (r152.1.getD 0 AV.undef)).bind fun _ => some (3)).bind fun p164 =>
     ((A.lb (r152.1.getD 0 AV.undef)).bind fun c165 => A.part1 p164 c165).bind fun x166 =>
     (A.lenS x166).bind fun x167 =>
     (A.lss x167 (AV.int .i64 2)).bind fun x168 =>
     some ([(r152.1.getD 0 AV.undef), x168], r152.2)) (
     some ([(r152.1.getD 0 AV.undef), x158], r152.2))).bind fun r163 =>
    (A.guard (r163.1.getD 1 AV.undef) false (some (AV.bool false)) (some (AV.tup []))).bind fun x169 =>
    (A.guard (r163.1.getD 1 AV.undef) false (A.not x169) (some (AV.tup []))).bind fun x170 =>
    (A.guard (r163.1.getD 1 AV.undef) false (some x170) (some (AV.tup []))).bind fun x171 =>
    ((A.lb (r163.1.getD 0 AV.undef)).bind fun _ => some (1)).bind fun p172 =>
        (A.guard x171 true ((A.lb (r163.1.getD 0 AV.undef)).bind fun c173 => A.part1 p172 c173) (some (AV.tup []))).bind fun x174 =>
    (A.guard x171 true (A.neq .i x174 (AV.int .i64 0)) (some (AV.tup []))).bind fun x175 =>
    (A.guard (r163.1.getD 1 AV.undef) false (A.pick x171 x175 (AV.bool false)) (some (AV.tup []))).bind fun x176 =>
    (A.pick (r163.1.getD 1 AV.undef) (AV.bool true) x176).bind fun x177 =>
    (A.guard x177 false (some (AV.bool false)) (some (AV.tup []))).bind fun x178 =>
    (A.guard x177 false (A.not x178) (some (AV.tup []))).bind fun x179 =>
    (A.guard x177 false (some x179) (some (AV.tup []))).bind fun x180 =>
    ((A.lb (r163.1.getD 0 AV.undef)).bind fun _ => some (2)).bind fun p181 =>
        (A.guard x180 true ((A.lb (r163.1.getD 0 AV.undef)).bind fun c182 => A.part1 p181 c182) (some (AV.tup []))).bind fun x183 =>
    (A.guard x180 true (A.neq .i x183 (AV.int .i64 0)) (some (AV.tup []))).bind fun x184 =>
    (A.guard x177 false (A.pick x180 x184 (AV.bool false)) (some (AV.tup []))).bind fun x185 =>
    (A.pick x177 (AV.bool true) x185).bind fun x186 =>
    A.cond x186 (
     A.fin σ (AV.int .i64 3) r163.2) (
     ((A.lb (r163.1.getD 0 AV.undef)).bind fun _ => some (0)).bind fun p187 =>
     ((A.lb (r163.1.getD 0 AV.undef)).bind fun c188 => A.part1 p187 c188).bind fun x189 =>
     (A.eql .i x189 (AV.int .i64 2)).bind fun x190 =>
     (A.cond x190 (
      some ([(r163.1.getD 0 AV.undef), (AV.int .i64 999)], r163.2)) (
      (A.eql .i x189 (AV.int .i64 3)).bind fun x192 =>
      (A.cond x192 (
       some ([(r163.1.getD 0 AV.undef), (AV.int .i64 999)], r163.2)) (
       some ([(r163.1.getD 0 AV.undef), (AV.int .i64 9999)], r163.2))).bind fun r193 =>
      some ([(r193.1.getD 0 AV.undef), (r193.1.getD 1 AV.undef)], r193.2))).bind fun r191 =>
     ((A.lb (r191.1.getD 0 AV.undef)).bind fun _ => some (1)).bind fun p194 =>
          (A.guard (AV.bool false) true ((A.lb (r191.1.getD 0 AV.undef)).bind fun c195 => A.part1 p194 c195) (some (AV.tup []))).bind fun x196 =>
     (A.guard (AV.bool false) true (some (r191.1.getD 1 AV.undef)) (some (AV.tup []))).bind fun x197 =>
     (A.guard (AV.bool false) true (A.quiet (m_word_Within [x196, (AV.int .i64 1), x197] r191.2) r191.2) (some (AV.tup []))).bind fun x198 =>
     (A.guard (AV.bool false) true (A.not x198) (some (AV.tup []))).bind fun x199 =>
     (A.pick (AV.bool false) x199 (AV.bool false)).bind fun x200 =>
     (A.guard x200 false (some (AV.bool false)) (some (AV.tup []))).bind fun x201 =>
     (A.guard x200 false (some x201) (some (AV.tup []))).bind fun x202 =>
     ((A.lb (r191.1.getD 0 AV.undef)).bind fun _ => some (2)).bind fun p203 =>
          (A.guard x202 true ((A.lb (r191.1.getD 0 AV.undef)).bind fun c204 => A.part1 p203 c204) (some (AV.tup []))).bind fun x205 =>
     (A.guard x202 true (some (r191.1.getD 1 AV.undef)) (some (AV.tup []))).bind fun x206 =>
     (A.guard x202 true (A.quiet (m_word_Within [x205, (AV.int .i64 1), x206] r191.2) r191.2) (some (AV.tup []))).bind fun x207 =>
     (A.guard x202 true (A.not x207) (some (AV.tup []))).bind fun x208 =>
     (A.guard x200 false (A.pick x202 x208 (AV.bool false)) (some (AV.tup []))).bind fun x209 =>
     (A.pick x200 (AV.bool true) x209).bind fun x210 =>
     A.cond x210 (
      A.fin σ (AV.int .i64 1) r191.2) (
      ((A.lb (r191.1.getD 0 AV.undef)).bind fun _ => some (3)).bind fun p211 =>
      ((A.lb (r191.1.getD 0 AV.undef)).bind fun c212 => A.part1 p211 c212).bind fun x213 =>
      (A.lenS x213).bind fun x214 =>
      (A.loop (fun v215 s216 =>
        (A.lss (v215.getD 1 AV.undef) x214).bind fun x218 =>
        A.cond x218 (
         (A.iaddr 4 x213 (v215.getD 1 AV.undef)).bind fun x219 =>
         ((A.deref x219 s216).bind fun c220 => A.partA 0 4 c220).bind fun x221 =>
         (A.cells 4 x221).bind fun c222 =>
         (A.splice 0 c222 [(AV.int .i64 0), (AV.int .i64 0), (AV.int .i64 0), AV.nsl]).bind fun c223 =>
         (A.partA 0 4 c223).bind fun x224 =>
         (rec 38 [x224] s216).bind fun r225 =>
         (A.neq .i r225.1 (AV.int .i64 0)).bind fun x226 =>
         A.cond x226 (
          some (AX.ret, [r225.1, (v215.getD 1 AV.undef)], r225.2)) (
          (A.add (v215.getD 1 AV.undef) (AV.int .i64 1)).bind fun x227 =>
          some (AX.normal, [(v215.getD 0 AV.undef), x227], r225.2))) (
         some (AX.exit 2, [(v215.getD 0 AV.undef), (v215.getD 1 AV.undef)], s216))) [(AV.int .i64 0), (AV.int .i64 0)] r191.2).bind fun r228 =>
      bif r228.1 == AX.exit 2 then (
       A.fin σ (AV.int .i64 0) r228.2.2) else
      bif r228.1 == AX.ret then (
       A.fin σ (r228.2.1.getD 0 AV.undef) r228.2.2) else
      none))) (
    (A.eql .i x2 (AV.int .i64 6)).bind fun x229 =>
    (A.cond x229 (
     some ([(r152.1.getD 0 AV.undef), x229], r152.2)) (
     (A.eql .i x2 (AV.int .i64 7)).bind fun x231 =>
     (A.cond x231 (
      some ([(r152.1.getD 0 AV.undef), x231], r152.2)) (
      (A.eql .i x2 (AV.int .i64 8)).bind fun x233 =>
      some ([(r152.1.getD 0 AV.undef), x233], r152.2))).bind fun r232 =>
     some ([(r232.1.getD 0 AV.undef), (r232.1.getD 1 AV.undef)], r232.2))).bind fun r230 =>
    A.cond (r230.1.getD 1 AV.undef) (
     ((A.lb (r230.1.getD 0 AV.undef)).bind fun _ => some (3)).bind fun p234 =>
     ((A.lb (r230.1.getD 0 AV.undef)).bind fun c235 => A.part1 p234 c235).bind fun x236 =>
     (A.lenS x236).bind fun x237 =>
     (A.neq .i x237 (AV.int .i64 1)).bind fun x238 =>
     ((A.lb (r230.1.getD 0 AV.undef)).bind fun _ => some (0)).bind fun p239 =>
     ((A.lb (r230.1.getD 0 AV.undef)).bind fun c240 => A.part1 p239 c240).bind fun x241 =>
     (A.eql .i x241 (AV.int .i64 4)).bind fun x242 =>
     (A.cond x242 (
      ((A.lb (r230.1.getD 0 AV.undef)).bind fun _ => some (3)).bind fun p244 =>
      ((A.lb (r230.1.getD 0 AV.undef)).bind fun c245 => A.part1 p244 c245).bind fun x246 =>
      (A.lenS x246).bind fun x247 =>
      (A.lss x247 (AV.int .i64 2)).bind fun x248 =>
      some ([(r230.1.getD 0 AV.undef), x248], r230.2)) (
      some ([(r230.1.getD 0 AV.undef), x238], r230.2))).bind fun r243 =>
     (A.guard (r243.1.getD 1 AV.undef) false (some (AV.bool false)) (some (AV.tup []))).bind fun x249 =>
     (A.guard (r243.1.getD 1 AV.undef) false (A.not x249) (some (AV.tup []))).bind fun x250 =>
     (A.guard (r243.1.getD 1 AV.undef) false (some x250) (some (AV.tup []))).bind fun x251 =>
     ((A.lb (r243.1.getD 0 AV.undef)).bind fun _ => some (1)).bind fun p252 =>
          (A.guard x251 true ((A.lb (r243.1.getD 0 AV.undef)).bind fun c253 => A.part1 p252 c253) (some (AV.tup []))).bind fun x254 =>
     (A.guard x251 true (A.neq .i x254 (AV.int .i64 0)) (some (AV.tup []))).bind fun x255 =>
     (A.guard (r243.1.getD 1 AV.undef) false (A.pick x251 x255 (AV.bool false)) (some (AV.tup []))).bind fun x256 =>
     (A.pick (r243.1.getD 1 AV.undef) (AV.bool true) x256).bind fun x257 =>
     (A.guard x257 false (some (AV.bool false)) (some (AV.tup []))).bind fun x258 =>
     (A.guard x257 false (A.not x258) (some (AV.tup []))).bind fun x259 =>
     (A.guard x257 false (some x259) (some (AV.tup []))).bind fun x260 =>
     ((A.lb (r243.1.getD 0 AV.undef)).bind fun _ => some (2)).bind fun p261 =>
          (A.guard x260 true ((A.lb (r243.1.getD 0 AV.undef)).bind fun c262 => A.part1 p261 c262) (some (AV.tup []))).bind fun x263 =>
     (A.guard x260 true (A.neq .i x263 (AV.int .i64 0)) (some (AV.tup []))).bind fun x264 =>
     (A.guard x257 false (A.pick x260 x264 (AV.bool false)) (some (AV.tup []))).bind fun x265 =>
     (A.pick x257 (AV.bool true) x265).bind fun x266 =>
     A.cond x266 (
      A.fin σ (AV.int .i64 3) r243.2) (
      ((A.lb (r243.1.getD 0 AV.undef)).bind fun _ => some (0)).bind fun p267 =>
      ((A.lb (r243.1.getD 0 AV.undef)).bind fun c268 => A.part1 p267 c268).bind fun x269 =>
      (A.eql .i x269 (AV.int .i64 2)).bind fun x270 =>
      (A.cond x270 (
       some ([(r243.1.getD 0 AV.undef), (AV.int .i64 999)], r243.2)) (
       (A.eql .i x269 (AV.int .i64 3)).bind fun x272 =>
       (A.cond x272 (
        some ([(r243.1.getD 0 AV.undef), (AV.int .i64 999)], r243.2)) (
        some ([(r243.1.getD 0 AV.undef), (AV.int .i64 9999)], r243.2))).bind fun r273 =>
       some ([(r273.1.getD 0 AV.undef), (r273.1.getD 1 AV.undef)], r273.2))).bind fun r271 =>
      ((A.lb (r271.1.getD 0 AV.undef)).bind fun _ => some (1)).bind fun p274 =>
            (A.guard (AV.bool false) true ((A.lb (r271.1.getD 0 AV.undef)).bind fun c275 => A.part1 p274 c275) (some (AV.tup []))).bind fun x276 =>
      (A.guard (AV.bool false) true (some (r271.1.getD 1 AV.undef)) (some (AV.tup []))).bind fun x277 =>
      (A.guard (AV.bool false) true (A.quiet (m_word_Within [x276, (AV.int .i64 1), x277] r271.2) r271.2) (some (AV.tup []))).bind fun x278 =>
      (A.guard (AV.bool false) true (A.not x278) (some (AV.tup []))).bind fun x279 =>
      (A.pick (AV.bool false) x279 (AV.bool false)).bind fun x280 =>
      (A.guard x280 false (some (AV.bool false)) (some (AV.tup []))).bind fun x281 =>
      (A.guard x280 false (some x281) (some (AV.tup []))).bind fun x282 =>
      ((A.lb (r271.1.getD 0 AV.undef)).bind fun _ => some (2)).bind fun p283 =>
            (A.guard x282 true ((A.lb (r271.1.getD 0 AV.undef)).bind fun c284 => A.part1 p283 c284) (some (AV.tup []))).bind fun x285 =>
      (A.guard x282 true (some (r271.1.getD 1 AV.undef)) (some (AV.tup []))).bind fun x286 =>
      (A.guard x282 true (A.quiet (m_word_Within [x285, (AV.int .i64 1), x286] r271.2) r271.2) (some (AV.tup []))).bind fun x287 =>
      (A.guard x282 true (A.not x287) (some (AV.tup []))).bind fun x288 =>
      (A.guard x280 false (A.pick x282 x288 (AV.bool false)) (some (AV.tup []))).bind fun x289 =>
      (A.pick x280 (AV.bool true) x289).bind fun x290 =>
      A.cond x290 (
       A.fin σ (AV.int .i64 1) r271.2) (
       ((A.lb (r271.1.getD 0 AV.undef)).bind fun _ => some (3)).bind fun p291 =>
       ((A.lb (r271.1.getD 0 AV.undef)).bind fun c292 => A.part1 p291 c292).bind fun x293 =>
       (A.lenS x293).bind fun x294 =>
       (A.loop (fun v295 s296 =>
         (A.lss (v295.getD 1 AV.undef) x294).bind fun x298 =>
         A.cond x298 (
          (A.iaddr 4 x293 (v295.getD 1 AV.undef)).bind fun x299 =>
          ((A.deref x299 s296).bind fun c300 => A.partA 0 4 c300).bind fun x301 =>
          (A.cells 4 x301).bind fun c302 =>
          (A.splice 0 c302 [(AV.int .i64 0), (AV.int .i64 0), (AV.int .i64 0), AV.nsl]).bind fun c303 =>
          (A.partA 0 4 c303).bind fun x304 =>
          (rec 38 [x304] s296).bind fun r305 =>
          (A.neq .i r305.1 (AV.int .i64 0)).bind fun x306 =>
          A.cond x306 (
           some (AX.ret, [r305.1, (v295.getD 1 AV.undef)], r305.2)) (
           (A.add (v295.getD 1 AV.undef) (AV.int .i64 1)).bind fun x307 =>
           some (AX.normal, [(v295.getD 0 AV.undef), x307], r305.2))) (
          some (AX.exit 2, [(v295.getD 0 AV.undef), (v295.getD 1 AV.undef)], s296))) [(AV.int .i64 0), (AV.int .i64 0)] r271.2).bind fun r308 =>
       bif r308.1 == AX.exit 2 then (
        A.fin σ (AV.int .i64 0) r308.2.2) else
       bif r308.1 == AX.ret then (
        A.fin σ (r308.2.1.getD 0 AV.undef) r308.2.2) else
       none))) (
     (A.eql .i x2 (AV.int .i64 9)).bind fun x309 =>
     A.cond x309 (
      ((A.lb (r230.1.getD 0 AV.undef)).bind fun _ => some (3)).bind fun p310 =>
      ((A.lb (r230.1.getD 0 AV.undef)).bind fun c311 => A.part1 p310 c311).bind fun x312 =>
      (A.lenS x312).bind fun x313 =>
      (A.neq .i x313 (AV.int .i64 1)).bind fun x314 =>
      ((A.lb (r230.1.getD 0 AV.undef)).bind fun _ => some (0)).bind fun p315 =>
      ((A.lb (r230.1.getD 0 AV.undef)).bind fun c316 => A.part1 p315 c316).bind fun x317 =>
      (A.eql .i x317 (AV.int .i64 4)).bind fun x318 =>
      (A.cond x318 (
       ((A.lb (r230.1.getD 0 AV.undef)).bind fun _ => some (3)).bind fun p320 =>
       ((A.lb (r230.1.getD 0 AV.undef)).bind fun c321 => A.part1 p320 c321).bind fun x322 =>
       (A.lenS x322).bind fun x323 =>
       (A.lss x323 (AV.int .i64 2)).bind fun x324 =>
       some ([(r230.1.getD 0 AV.undef), x324], r230.2)) (
       some ([(r230.1.getD 0 AV.undef), x314], r230.2))).bind fun r319 =>
      (A.guard (r319.1.getD 1 AV.undef) false (some (AV.bool true)) (some (AV.tup []))).bind fun x325 =>
      (A.guard (r319.1.getD 1 AV.undef) false (A.not x325) (some (AV.tup []))).bind fun x326 =>
      (A.guard (r319.1.getD 1 AV.undef) false (some x326) (some (AV.tup []))).bind fun x327 =>
      ((A.lb (r319.1.getD 0 AV.undef)).bind fun _ => some (1)).bind fun p328 =>
            (A.guard x327 true ((A.lb (r319.1.getD 0 AV.undef)).bind fun c329 => A.part1 p328 c329) (some (AV.tup []))).bind fun x330 =>
      (A.guard x327 true (A.neq .i x330 (AV.int .i64 0)) (some (AV.tup []))).bind fun x331 =>
      (A.guard (r319.1.getD 1 AV.undef) false (A.pick x327 x331 (AV.bool false)) (some (AV.tup []))).bind fun x332 =>
      (A.pick (r319.1.getD 1 AV.undef) (AV.bool true) x332).bind fun x333 =>
      (A.guard x333 false (some (AV.bool true)) (some (AV.tup []))).bind fun x334 =>
      (A.guard x333 false (A.not x334) (some (AV.tup []))).bind fun x335 =>
      (A.guard x333 false (some x335) (some (AV.tup []))).bind fun x336 =>
      ((A.lb (r319.1.getD 0 AV.undef)).bind fun _ => some (2)).bind fun p337 =>
            (A.guard x336 true ((A.lb (r319.1.getD 0 AV.undef)).bind fun c338 => A.part1 p337 c338) (some (AV.tup []))).bind fun x339 =>
      (A.guard x336 true (A.neq .i x339 (AV.int .i64 0)) (some (AV.tup []))).bind fun x340 =>
      (A.guard x333 false (A.pick x336 x340 (AV.bool false)) (some (AV.tup []))).bind fun x341 =>
      (A.pick x333 (AV.bool true) x341).bind fun x342 =>
      A.cond x342 (
       A.fin σ (AV.int .i64 3) r319.2) (
       ((A.lb (r319.1.getD 0 AV.undef)).bind fun _ => some (0)).bind fun p343 =>
       ((A.lb (r319.1.getD 0 AV.undef)).bind fun c344 => A.part1 p343 c344).bind fun x345 =>
       (A.eql .i x345 (AV.int .i64 2)).bind fun x346 =>
       (A.cond x346 (
        some ([(r319.1.getD 0 AV.undef), (AV.int .i64 999)], r319.2)) (
        (A.eql .i x345 (AV.int .i64 3)).bind fun x348 =>
        (A.cond x348 (
         some ([(r319.1.getD 0 AV.undef), (AV.int .i64 999)], r319.2)) (
         some ([(r319.1.getD 0 AV.undef), (AV.int .i64 9999)], r319.2))).bind fun r349 =>
        some ([(r349.1.getD 0 AV.undef), (r349.1.getD 1 AV.undef)], r349.2))).bind fun r347 =>
       ((A.lb (r347.1.getD 0 AV.undef)).bind fun _ => some (1)).bind fun p350 =>
              (A.guard (AV.bool true) true ((A.lb (r347.1.getD 0 AV.undef)).bind fun c351 => A.part1 p350 c351) (some (AV.tup []))).bind fun x352 =>
       (A.guard (AV.bool true) true (some (r347.1.getD 1 AV.undef)) (some (AV.tup []))).bind fun x353 =>
       (A.guard (AV.bool true) true (A.quiet (m_word_Within [x352, (AV.int .i64 1), x353] r347.2) r347.2) (some (AV.tup []))).bind fun x354 =>
       (A.guard (AV.bool true) true (A.not x354) (some (AV.tup []))).bind fun x355 =>
       (A.pick (AV.bool true) x355 (AV.bool false)).bind fun x356 =>
       (A.guard x356 false (some (AV.bool true)) (some (AV.tup []))).bind fun x357 =>
       (A.guard x356 false (some x357) (some (AV.tup []))).bind fun x358 =>
       ((A.lb (r347.1.getD 0 AV.undef)).bind fun _ => some (2)).bind fun p359 =>
              (A.guard x358 true ((A.lb (r347.1.getD 0 AV.undef)).bind fun c360 => A.part1 p359 c360) (some (AV.tup []))).bind fun x361 =>
       (A.guard x358 true (some (r347.1.getD 1 AV.undef)) (some (AV.tup []))).bind fun x362 =>
       (A.guard x358 true (A.quiet (m_word_Within [x361, (AV.int .i64 1), x362] r347.2) r347.2) (some (AV.tup []))).bind fun x363 =>
       (A.guard x358 true (A.not x363) (some (AV.tup []))).bind fun x364 =>
       (A.guard x356 false (A.pick x358 x364 (AV.bool false)) (some (AV.tup []))).bind fun x365 =>
       (A.pick x356 (AV.bool true) x365).bind fun x366 =>
       A.cond x366 (
        A.fin σ (AV.int .i64 1) r347.2) (
        ((A.lb (r347.1.getD 0 AV.undef)).bind fun _ => some (3)).bind fun p367 =>
        ((A.lb (r347.1.getD 0 AV.undef)).bind fun c368 => A.part1 p367 c368).bind fun x369 =>
        (A.lenS x369).bind fun x370 =>
        (A.loop (fun v371 s372 =>
          (A.lss (v371.getD 1 AV.undef) x370).bind fun x374 =>
          A.cond x374 (
           (A.iaddr 4 x369 (v371.getD 1 AV.undef)).bind fun x375 =>
           ((A.deref x375 s372).bind fun c376 => A.partA 0 4 c376).bind fun x377 =>
           (A.cells 4 x377).bind fun c378 =>
           (A.splice 0 c378 [(AV.int .i64 0), (AV.int .i64 0), (AV.int .i64 0), AV.nsl]).bind fun c379 =>
           (A.partA 0 4 c379).bind fun x380 =>
           (rec 38 [x380] s372).bind fun r381 =>
           (A.neq .i r381.1 (AV.int .i64 0)).bind fun x382 =>
           A.cond x382 (
            some (AX.ret, [r381.1, (v371.getD 1 AV.undef)], r381.2)) (
            (A.add (v371.getD 1 AV.undef) (AV.int .i64 1)).bind fun x383 =>
            some (AX.normal, [(v371.getD 0 AV.undef), x383], r381.2))) (
           some (AX.exit 2, [(v371.getD 0 AV.undef), (v371.getD 1 AV.undef)], s372))) [(AV.int .i64 0), (AV.int .i64 0)] r347.2).bind fun r384 =>
        bif r384.1 == AX.exit 2 then (
         A.fin σ (AV.int .i64 0) r384.2.2) else
        bif r384.1 == AX.ret then (
         A.fin σ (r384.2.1.getD 0 AV.undef) r384.2.2) else
        none))) (
      A.fin σ (AV.int .i64 4) r230.2)))))
noncomputable def R_pick_check (rec : Nat → List AV → Heap → Option (AV × Heap)) : List (Nat × (List AV → Heap → Option (AV × Heap))) := [(38, A.wrap true [(.a [.k, .k, .k, (.s 4)])] .k (A.ar1 (r_pick_check rec)))]
noncomputable def m_pick_check : List AV → Heap → Option (AV × Heap) := fuel (R_pick_check) 2000000 38
noncomputable def r_pick_Check (a0 : AV) (σ : Heap) : Option (AV × Heap) :=
 (A.cells 4 a0).bind fun c1 =>
 (A.partA 0 4 c1).bind fun x2 =>
 (m_pick_size [x2] σ).bind fun r3 =>
 (A.ext 0 r3.1).bind fun x4 =>
 (A.ext 1 r3.1).bind fun x5 =>
 (A.gtr x4 (AV.int .i64 200)).bind fun x6 =>
 (A.guard x6 false (some x5) (some (AV.tup []))).bind fun x7 =>
 (A.guard x6 false (A.gtr x7 (AV.int .i64 12)) (some (AV.tup []))).bind fun x8 =>
 (A.pick x6 (AV.bool true) x8).bind fun x9 =>
 A.cond x9 (
  A.fin σ (AV.int .i64 2) r3.2) (
  (A.partA 0 4 c1).bind fun x10 =>
  (m_pick_check [x10] r3.2).bind fun r11 =>
  A.fin σ r11.1 r11.2)
noncomputable def m_pick_Check : List AV → Heap → Option (AV × Heap) := A.wrap true [(.a [.k, .k, .k, (.s 4)])] .k (A.ar1 r_pick_Check)
noncomputable def r_pick_uses_fn1 (a0 a1 a2 a3 : AV) (σ : Heap) : Option (AV × Heap) :=
 (A.eql .i a0 (AV.int .i64 2)).bind fun x1 =>
 (A.cond x1 (
  ((A.deref a2 σ).bind fun c3 => A.part1 0 c3).bind fun x4 =>
  (A.faddr 0 a3).bind fun x5 =>
  ((A.deref x5 σ).bind fun c6 => A.part1 0 c6).bind fun x7 =>
  ((A.deref a2 σ).bind fun c8 => A.part1 0 c8).bind fun x9 =>
  (A.faddr 0 a3).bind fun x10 =>
  ((A.deref x10 σ).bind fun c11 => A.part1 0 c11).bind fun x12 =>
  (A.look .i x9 x12 AV.nsl σ).bind fun x13 =>
  ((((A.cell a1).bind fun v => some [v]).bind fun c14 => (A.splice 0 c14 [(AV.int .i64 0)]).bind fun c15 => some c15).bind fun cs => some (AV.sl 1 (chunks 1 1 cs))).bind fun x16 =>
  (A.append 1 (140737488355328 / 8) x13 x16 σ).bind fun r17 =>
  (A.mupd .i x4 x7 r17.1 r17.2).bind fun h18 =>
  some (([] : List AV), h18)) (
  some (([] : List AV), σ))).bind fun r2 =>
 some ((AV.tup []), r2.2)
noncomputable def b_pick_uses_fn1 (a0 a1 a2 a3 : AV) (σ : Heap) : Option (AV × Heap) := match a1, a2, a3 with | .int i1 o1, .op i2 o2, .op i3 o3 => r_pick_uses_fn1 a0 (.int i1 o1) (.op i2 o2) (.op i3 o3) σ | _, _, _ => none
noncomputable def m_pick_uses_fn1 : List AV → Heap → Option (AV × Heap) := A.wrap false [] .k (A.ar4 b_pick_uses_fn1)
noncomputable def r_pick_names (rec : Nat → List AV → Heap → Option (AV × Heap)) (dyn : Nat → List AV → Heap → Option (AV × Heap)) (a0 a1 : AV) (σ : Heap) : Option (AV × Heap) :=
 (A.cells 4 a0).bind fun c1 =>
 (A.part1 0 c1).bind fun x2 =>
 (A.eql .i x2 (AV.int .i64 2)).bind fun x3 =>
 (A.guard x3 false (A.part1 0 c1) (some (AV.tup []))).bind fun x4 =>
 (A.guard x3 false (A.eql .i x4 (AV.int .i64 3)) (some (AV.tup []))).bind fun x5 =>
 (A.pick x3 (AV.bool true) x5).bind fun x6 =>
 (A.cond x6 (
  (A.part1 0 c1).bind fun x8 =>
  (A.part1 1 c1).bind fun x9 =>
  (A.callv dyn a1 [x8, x9] σ).bind fun r10 =>
  some ([(AV.lbx c1)], r10.2)) (
  some ([(AV.lbx c1)], σ))).bind fun r7 =>
 ((A.lb (r7.1.getD 0 AV.undef)).bind fun _ => some (3)).bind fun p11 =>
 ((A.lb (r7.1.getD 0 AV.undef)).bind fun c12 => A.part1 p11 c12).bind fun x13 =>
 (A.lenS x13).bind fun x14 =>
 (A.loop (fun v15 s16 =>
   (A.lss (v15.getD 0 AV.undef) x14).bind fun x18 =>
   A.cond x18 (
    (A.iaddr 4 x13 (v15.getD 0 AV.undef)).bind fun x19 =>
    ((A.deref x19 s16).bind fun c20 => A.partA 0 4 c20).bind fun x21 =>
    (A.cells 4 x21).bind fun c22 =>
    (A.splice 0 c22 [(AV.int .i64 0), (AV.int .i64 0), (AV.int .i64 0), AV.nsl]).bind fun c23 =>
    (A.partA 0 4 c23).bind fun x24 =>
    (rec 41 [x24, a1] s16).bind fun r25 =>
    (A.add (v15.getD 0 AV.undef) (AV.int .i64 1)).bind fun x26 =>
    some (AX.normal, [x26], r25.2)) (
    some (AX.exit 0, [(v15.getD 0 AV.undef)], s16))) [(AV.int .i64 0)] r7.2).bind fun r27 =>
 bif r27.1 == AX.exit 0 then (
  some ((AV.tup []), r27.2.2)) else
 none
noncomputable def R_pick_names (dyn : Nat → List AV → Heap → Option (AV × Heap)) (rec : Nat → List AV → Heap → Option (AV × Heap)) : List (Nat × (List AV → Heap → Option (AV × Heap))) := [(41, A.wrap false [] .k (A.ar2 (r_pick_names rec dyn)))]
noncomputable def m_pick_names (dyn : Nat → List AV → Heap → Option (AV × Heap)) : List AV → Heap → Option (AV × Heap) := fuel (R_pick_names dyn) 2000000 41
noncomputable def r_pick_uses (a0 : AV) (σ : Heap) : Option (AV × Heap) :=
 ((A.cell (AV.om σ.length)).bind fun v => some [v]).bind fun c1 =>
 (A.storeAt (AV.op (σ ++ [Blk.map []]).length 0) c1 ((σ ++ [Blk.map []]) ++ [Blk.box [AV.nm]])).bind fun c2 =>
 (A.lenS a0).bind fun x3 =>
 (A.loop (fun v4 s5 =>
   (A.lss (v4.getD 0 AV.undef) x3).bind fun x7 =>
   A.cond x7 (
    (A.iaddr 5 a0 (v4.getD 0 AV.undef)).bind fun x8 =>
    ((A.deref x8 s5).bind fun c9 => A.partA 0 5 c9).bind fun x10 =>
    (A.cells 5 x10).bind fun c11 =>
    (A.storeAt (AV.op s5.length 0) c11 (s5 ++ [Blk.box [(AV.int .i64 0), (AV.int .i64 0), (AV.int .i64 0), (AV.int .i64 0), AV.nsl]])).bind fun c12 =>
    ((A.deref (AV.op (σ ++ [Blk.map []]).length 0) c12).bind fun c13 => A.part1 0 c13).bind fun x14 =>
    (A.faddr 0 (AV.op s5.length 0)).bind fun x15 =>
    ((A.deref x15 c12).bind fun c16 => A.part1 0 c16).bind fun x17 =>
    (A.mupd .i x14 x17 AV.nsl c12).bind fun h18 =>
    (A.faddr 1 (AV.op s5.length 0)).bind fun x19 =>
    ((A.deref x19 h18).bind fun c20 => A.partA 0 4 c20).bind fun x21 =>
    (m_pick_names (A.tab (fun _ _ => none) [(40, m_pick_uses_fn1)]) [x21, (AV.fn 40 [(AV.op (σ ++ [Blk.map []]).length 0), (AV.op s5.length 0)])] h18).bind fun r22 =>
    (A.add (v4.getD 0 AV.undef) (AV.int .i64 1)).bind fun x23 =>
    some (AX.normal, [x23], r22.2)) (
    some (AX.exit 0, [(v4.getD 0 AV.undef)], s5))) [(AV.int .i64 0)] c2).bind fun r24 =>
 bif r24.1 == AX.exit 0 then (
  ((A.deref (AV.op (σ ++ [Blk.map []]).length 0) r24.2.2).bind fun c25 => A.part1 0 c25).bind fun x26 =>
  A.fin σ x26 r24.2.2) else
 none
noncomputable def m_pick_uses : List AV → Heap → Option (AV × Heap) := A.wrap true [(.s 5)] .k (A.ar1 r_pick_uses)
noncomputable def r_pick_reach (a0 a1 : AV) (σ : Heap) : Option (AV × Heap) :=
 ((((A.cell a1).bind fun v => some [v]).bind fun c1 => (A.splice 0 c1 [(AV.int .i64 0)]).bind fun c2 => some c2).bind fun cs => some (AV.sl 1 (chunks 1 1 cs))).bind fun x3 => A.litK x3 fun z4 es5 =>
 (A.loop (fun v6 s7 =>
   (A.lenS (v6.getD 0 AV.undef)).bind fun x9 =>
   (A.gtr x9 (AV.int .i64 0)).bind fun x10 =>
   A.cond x10 (
    (A.lenS (v6.getD 0 AV.undef)).bind fun x11 =>
    (A.sub x11 (AV.int .i64 1)).bind fun x12 =>
    (A.iaddr 1 (v6.getD 0 AV.undef) x12).bind fun x13 =>
    ((A.deref x13 s7).bind fun c14 => A.part1 0 c14).bind fun x15 =>
    (A.lenS (v6.getD 0 AV.undef)).bind fun x16 =>
    (A.sub x16 (AV.int .i64 1)).bind fun x17 =>
    (A.sliceS 1 (v6.getD 0 AV.undef) none (some x17) s7).bind fun x18 =>
    (A.look .i a0 x15 AV.nsl s7).bind fun x19 =>
    (A.lenS x19).bind fun x20 =>
    (A.loop (fun v21 s22 =>
      (A.lss (v21.getD 1 AV.undef) x20).bind fun x24 =>
      A.cond x24 (
       (A.iaddr 1 x19 (v21.getD 1 AV.undef)).bind fun x25 =>
       ((A.deref x25 s22).bind fun c26 => A.part1 0 c26).bind fun x27 =>
       (A.look .i (AV.om σ.length) x27 (AV.bool false) s22).bind fun x28 =>
       (A.not x28).bind fun x29 =>
       (A.cond x29 (
        (A.mupd .i (AV.om σ.length) x27 (AV.bool true) s22).bind fun h31 =>
        ((((A.cell x27).bind fun v => some [v]).bind fun c32 => (A.splice 0 c32 [(AV.int .i64 0)]).bind fun c33 => some c33).bind fun cs => some (AV.sl 1 (chunks 1 1 cs))).bind fun x34 =>
        (A.append 1 (140737488355328 / 8) (v21.getD 0 AV.undef) x34 h31).bind fun r35 =>
        some ([r35.1], r35.2)) (
        some ([(v21.getD 0 AV.undef)], s22))).bind fun r30 =>
       (A.add (v21.getD 1 AV.undef) (AV.int .i64 1)).bind fun x36 =>
       some (AX.normal, [(r30.1.getD 0 AV.undef), x36], r30.2)) (
       some (AX.exit 2, [(v21.getD 0 AV.undef), (v21.getD 1 AV.undef)], s22))) [x18, (AV.int .i64 0)] s7).bind fun r37 =>
    bif r37.1 == AX.exit 2 then (
     some (AX.normal, [(r37.2.1.getD 0 AV.undef)], r37.2.2)) else
    none) (
    some (AX.exit 0, [(v6.getD 0 AV.undef)], s7))) [(AV.os (σ ++ [Blk.map []]).length es5.length z4 0 es5.length)] ((σ ++ [Blk.map []]) ++ [Blk.arr es5.length z4 es5])).bind fun r38 =>
 bif r38.1 == AX.exit 0 then (
  A.fin σ (AV.om σ.length) r38.2.2) else
 none
noncomputable def m_pick_reach : List AV → Heap → Option (AV × Heap) := A.wrap true [] .k (A.ar2 r_pick_reach)
noncomputable def r_pick_CheckGroups (a0 : AV) (σ : Heap) : Option (AV × Heap) :=
 (A.lenS a0).bind fun x1 =>
 (A.gtr x1 (AV.int .i64 200)).bind fun x2 =>
 A.cond x2 (
  A.fin σ (AV.int .i64 2) σ) (
  (A.lenS a0).bind fun x3 =>
  (A.loop (fun v4 s5 =>
    (A.lss (v4.getD 1 AV.undef) x3).bind fun x7 =>
    A.cond x7 (
     (A.iaddr 5 a0 (v4.getD 1 AV.undef)).bind fun x8 =>
     ((A.deref x8 s5).bind fun c9 => A.partA 0 5 c9).bind fun x10 =>
     (A.cells 5 x10).bind fun c11 =>
     (A.splice 0 c11 [(AV.int .i64 0), (AV.int .i64 0), (AV.int .i64 0), (AV.int .i64 0), AV.nsl]).bind fun c12 =>
     (A.part1 0 c12).bind fun x13 =>
     (m_word_Within [x13, (AV.int .i64 1), (AV.int .i64 999)] s5).bind fun r14 =>
     (A.not r14.1).bind fun x15 =>
     A.cond x15 (
      some (AX.ret, [(AV.int .i64 1), (v4.getD 1 AV.undef)], r14.2)) (
      (A.gtr (v4.getD 1 AV.undef) (AV.int .i64 0)).bind fun x16 =>
      (A.guard x16 true (A.part1 0 c12) (some (AV.tup []))).bind fun x17 =>
      (A.guard x16 true (some a0) (some (AV.tup []))).bind fun x18 =>
      (A.guard x16 true (some (v4.getD 1 AV.undef)) (some (AV.tup []))).bind fun x19 =>
      (A.guard x16 true (A.sub x19 (AV.int .i64 1)) (some (AV.tup []))).bind fun x20 =>
      (A.guard x16 true (A.iaddr 5 x18 x20) (some (AV.tup []))).bind fun x21 =>
      (A.guard x16 true (A.faddr 0 x21) (some (AV.tup []))).bind fun x22 =>
      (A.guard x16 true ((A.deref x22 r14.2).bind fun c23 => A.part1 0 c23) (some (AV.tup []))).bind fun x24 =>
      (A.guard x16 true (A.leq x17 x24) (some (AV.tup []))).bind fun x25 =>
      (A.pick x16 x25 (AV.bool false)).bind fun x26 =>
      A.cond x26 (
       some (AX.ret, [(AV.int .i64 7), (v4.getD 1 AV.undef)], r14.2)) (
       (A.partA 1 4 c12).bind fun x27 =>
       (m_pick_Check [x27] r14.2).bind fun r28 =>
       (A.neq .i r28.1 (AV.int .i64 0)).bind fun x29 =>
       A.cond x29 (
        some (AX.ret, [r28.1, (v4.getD 1 AV.undef)], r28.2)) (
        (A.add (v4.getD 1 AV.undef) (AV.int .i64 1)).bind fun x30 =>
        some (AX.normal, [(v4.getD 0 AV.undef), x30], r28.2))))) (
     some (AX.exit 0, [(v4.getD 0 AV.undef), (v4.getD 1 AV.undef)], s5))) [(AV.int .i64 0), (AV.int .i64 0)] σ).bind fun r31 =>
  bif r31.1 == AX.exit 0 then (
   (m_pick_uses [a0] r31.2.2).bind fun r32 =>
   (A.lenS a0).bind fun x33 =>
   (A.loop (fun v34 s35 =>
     (A.lss (v34.getD 1 AV.undef) x33).bind fun x37 =>
     A.cond x37 (
      (A.iaddr 5 a0 (v34.getD 1 AV.undef)).bind fun x38 =>
      ((A.deref x38 s35).bind fun c39 => A.partA 0 5 c39).bind fun x40 =>
      (A.cells 5 x40).bind fun c41 =>
      (A.splice 0 c41 [(AV.int .i64 0), (AV.int .i64 0), (AV.int .i64 0), (AV.int .i64 0), AV.nsl]).bind fun c42 =>
      (A.part1 0 c42).bind fun x43 =>
      (A.look .i r32.1 x43 AV.nsl s35).bind fun x44 =>
      (A.lenS x44).bind fun x45 =>
      (A.loop (fun v46 s47 =>
        (A.lss (v46.getD 1 AV.undef) x45).bind fun x49 =>
        A.cond x49 (
         (A.iaddr 1 x44 (v46.getD 1 AV.undef)).bind fun x50 =>
         ((A.deref x50 s47).bind fun c51 => A.part1 0 c51).bind fun x52 =>
         (A.lookOk .i r32.1 x52 AV.nsl s47).bind fun x53 =>
         (A.ext 0 x53).bind fun x54 =>
         (A.ext 1 x53).bind fun x55 =>
         (A.not x55).bind fun x56 =>
         A.cond x56 (
          some (AX.ret, [(AV.int .i64 8), (v46.getD 1 AV.undef)], s47)) (
          (A.add (v46.getD 1 AV.undef) (AV.int .i64 1)).bind fun x57 =>
          some (AX.normal, [(v46.getD 0 AV.undef), x57], s47))) (
         some (AX.exit 4, [(v46.getD 0 AV.undef), (v46.getD 1 AV.undef)], s47))) [(v34.getD 0 AV.undef), (AV.int .i64 0)] s35).bind fun r58 =>
      bif r58.1 == AX.exit 4 then (
       (A.add (v34.getD 1 AV.undef) (AV.int .i64 1)).bind fun x59 =>
       some (AX.normal, [(r58.2.1.getD 0 AV.undef), x59], r58.2.2)) else
      bif r58.1 == AX.ret then (
       some (AX.ret, [(r58.2.1.getD 0 AV.undef), (v34.getD 1 AV.undef)], r58.2.2)) else
      none) (
      some (AX.exit 2, [(v34.getD 0 AV.undef), (v34.getD 1 AV.undef)], s35))) [(r31.2.1.getD 0 AV.undef), (AV.int .i64 0)] r32.2).bind fun r60 =>
   bif r60.1 == AX.exit 2 then (
    (A.lenS a0).bind fun x61 =>
    (A.loop (fun v62 s63 =>
      (A.lss (v62.getD 1 AV.undef) x61).bind fun x65 =>
      A.cond x65 (
       (A.iaddr 5 a0 (v62.getD 1 AV.undef)).bind fun x66 =>
       ((A.deref x66 s63).bind fun c67 => A.partA 0 5 c67).bind fun x68 =>
       (A.cells 5 x68).bind fun c69 =>
       (A.splice 0 c69 [(AV.int .i64 0), (AV.int .i64 0), (AV.int .i64 0), (AV.int .i64 0), AV.nsl]).bind fun c70 =>
       (A.part1 0 c70).bind fun x71 =>
       (A.quiet (m_pick_reach [r32.1, x71] s63) s63).bind fun x72 =>
       (A.part1 0 c70).bind fun x73 =>
       (A.look .i x72 x73 (AV.bool false) s63).bind fun x74 =>
       A.cond x74 (
        some (AX.ret, [(AV.int .i64 11), (v62.getD 1 AV.undef)], s63)) (
        (A.add (v62.getD 1 AV.undef) (AV.int .i64 1)).bind fun x75 =>
        some (AX.normal, [(v62.getD 0 AV.undef), x75], s63))) (
       some (AX.exit 6, [(v62.getD 0 AV.undef), (v62.getD 1 AV.undef)], s63))) [(r60.2.1.getD 0 AV.undef), (AV.int .i64 0)] r60.2.2).bind fun r76 =>
    bif r76.1 == AX.exit 6 then (
     A.fin σ (AV.int .i64 0) r76.2.2) else
    bif r76.1 == AX.ret then (
     A.fin σ (r76.2.1.getD 0 AV.undef) r76.2.2) else
    none) else
   bif r60.1 == AX.ret then (
    A.fin σ (r60.2.1.getD 0 AV.undef) r60.2.2) else
   none) else
  bif r31.1 == AX.ret then (
   A.fin σ (r31.2.1.getD 0 AV.undef) r31.2.2) else
  none)
noncomputable def m_pick_CheckGroups : List AV → Heap → Option (AV × Heap) := A.wrap true [(.s 5)] .k (A.ar1 r_pick_CheckGroups)
noncomputable def r_pick_once (a0 : AV) (σ : Heap) : Option (AV × Heap) :=
 (A.lenS a0).bind fun x1 =>
 (A.loop (fun v2 s3 =>
   (A.lss (v2.getD 1 AV.undef) x1).bind fun x5 =>
   A.cond x5 (
    (A.iaddr 1 a0 (v2.getD 1 AV.undef)).bind fun x6 =>
    ((A.deref x6 s3).bind fun c7 => A.part1 0 c7).bind fun x8 =>
    (A.look .i (AV.om σ.length) x8 (AV.bool false) s3).bind fun x9 =>
    (A.not x9).bind fun x10 =>
    (A.cond x10 (
     (A.mupd .i (AV.om σ.length) x8 (AV.bool true) s3).bind fun h12 =>
     ((((A.cell x8).bind fun v => some [v]).bind fun c13 => (A.splice 0 c13 [(AV.int .i64 0)]).bind fun c14 => some c14).bind fun cs => some (AV.sl 1 (chunks 1 1 cs))).bind fun x15 =>
     (A.append 1 (140737488355328 / 8) (v2.getD 0 AV.undef) x15 h12).bind fun r16 =>
     some ([r16.1], r16.2)) (
     some ([(v2.getD 0 AV.undef)], s3))).bind fun r11 =>
    (A.add (v2.getD 1 AV.undef) (AV.int .i64 1)).bind fun x17 =>
    some (AX.normal, [(r11.1.getD 0 AV.undef), x17], r11.2)) (
    some (AX.exit 0, [(v2.getD 0 AV.undef), (v2.getD 1 AV.undef)], s3))) [AV.nsl, (AV.int .i64 0)] (σ ++ [Blk.map []])).bind fun r18 =>
 bif r18.1 == AX.exit 0 then (
  some ((r18.2.1.getD 0 AV.undef), r18.2.2)) else
 none
noncomputable def m_pick_once : List AV → Heap → Option (AV × Heap) := A.wrap true [(.s 1)] .k (A.ar1 r_pick_once)
noncomputable def r_pick_finder_missing (rec : Nat → List AV → Heap → Option (AV × Heap)) (a0 a1 a2 : AV) (σ : Heap) : Option (AV × Heap) :=
 (((A.cell a0).bind fun v => some [v]).bind fun cs => some (AV.rp cs)).bind fun x1 =>
 (A.cells 4 a1).bind fun c2 =>
 (((A.cell a2).bind fun v => some [v]).bind fun cs => some (AV.rp cs)).bind fun x3 =>
 ((A.cell (AV.bool false)).bind fun v => some [v]).bind fun c4 =>
 (A.storeAt (AV.op σ.length 0) c4 (σ ++ [Blk.box [(AV.bool false)]])).bind fun c5 =>
 (A.partA 0 4 c2).bind fun x6 =>
 (m_pick_names (A.tab (fun _ _ => none) [(75, rec 75)]) [x6, (AV.fn 75 [(AV.op σ.length 0), x1, x3])] c5).bind fun r7 =>
 ((A.deref (AV.op σ.length 0) r7.2).bind fun c8 => A.part1 0 c8).bind fun x9 =>
 some (x9, r7.2)
noncomputable def r_pick_finder_missing_fn1 (rec : Nat → List AV → Heap → Option (AV × Heap)) (a0 a1 a2 a3 a4 : AV) (σ : Heap) : Option (AV × Heap) :=
 ((A.deref a2 σ).bind fun c1 => A.part1 0 c1).bind fun x2 =>
 A.cond x2 (
  some ((AV.tup []), σ)) (
  (A.eql .i a0 (AV.int .i64 3)).bind fun x3 =>
  A.cond x3 (
   ((A.deref a3 σ).bind fun c4 => A.part1 0 c4).bind fun x5 =>
   (A.nilck x5).bind fun x6 =>
   (A.faddr 2 x6).bind fun x7 =>
   ((A.deref x7 σ).bind fun c8 => A.part1 0 c8).bind fun x9 =>
   (A.lookOk .i x9 a1 AV.nsl σ).bind fun x10 =>
   (A.ext 0 x10).bind fun x11 =>
   (A.ext 1 x10).bind fun x12 =>
   (A.not x12).bind fun x13 =>
   ((A.cell x13).bind fun v => some [v]).bind fun c14 =>
   (A.storeAt a2 c14 σ).bind fun c15 =>
   some ((AV.tup []), c15)) (
   ((A.deref a3 σ).bind fun c16 => A.part1 0 c16).bind fun x17 =>
   (A.nilck x17).bind fun x18 =>
   (A.faddr 1 x18).bind fun x19 =>
   ((A.deref x19 σ).bind fun c20 => A.part1 0 c20).bind fun x21 =>
   (A.lookOk .i x21 a1 (AV.agg [(AV.int .i64 0), (AV.int .i64 0), (AV.int .i64 0), AV.nsl]) σ).bind fun x22 =>
   (A.ext 0 x22).bind fun x23 =>
   (A.ext 1 x22).bind fun x24 =>
   (A.cells 4 x23).bind fun c25 =>
   (A.splice 0 c25 [(AV.int .i64 0), (AV.int .i64 0), (AV.int .i64 0), AV.nsl]).bind fun c26 =>
   (A.not x24).bind fun x27 =>
   (A.cond x27 (
    ((A.cell (AV.bool true)).bind fun v => some [v]).bind fun c29 =>
    (A.storeAt a2 c29 σ).bind fun c30 =>
    some (([] : List AV), c30)) (
    ((A.deref a4 σ).bind fun c31 => A.part1 0 c31).bind fun x32 =>
    (A.look .i x32 a1 (AV.bool false) σ).bind fun x33 =>
    (A.not x33).bind fun x34 =>
    (A.cond x34 (
     ((A.deref a4 σ).bind fun c36 => A.part1 0 c36).bind fun x37 =>
     (A.mupd .i x37 a1 (AV.bool true) σ).bind fun h38 =>
     ((A.deref a3 h38).bind fun c39 => A.part1 0 c39).bind fun x40 =>
     (A.partA 0 4 c26).bind fun x41 =>
     ((A.deref a4 h38).bind fun c42 => A.part1 0 c42).bind fun x43 =>
     (rec 76 [x40, x41, x43] h38).bind fun r44 =>
     ((A.cell r44.1).bind fun v => some [v]).bind fun c45 =>
     (A.storeAt a2 c45 r44.2).bind fun c46 =>
     some (([] : List AV), c46)) (
     some (([] : List AV), σ))).bind fun r35 =>
    some (([] : List AV), r35.2))).bind fun r28 =>
   some ((AV.tup []), r28.2)))
noncomputable def R_pick_finder_missing (rec : Nat → List AV → Heap → Option (AV × Heap)) : List (Nat × (List AV → Heap → Option (AV × Heap))) := [(76, A.wrap false [] .k (A.ar3 (r_pick_finder_missing rec))), (75, A.wrap false [] .k (A.ar5 (r_pick_finder_missing_fn1 rec)))]
noncomputable def m_pick_finder_missing : List AV → Heap → Option (AV × Heap) := fuel (R_pick_finder_missing) 2000000 76
noncomputable def r_pick_finder_find_fn1 (a0 a1 : AV) (σ : Heap) : Option (AV × Heap) :=
 ((A.deref a1 σ).bind fun c1 => A.part1 0 c1).bind fun x2 =>
 (A.look .i x2 a0 (AV.bool false) σ).bind fun x3 =>
 A.fin σ x3 σ
noncomputable def m_pick_finder_find_fn1 : List AV → Heap → Option (AV × Heap) := A.wrap true [] .k (A.ar2 r_pick_finder_find_fn1)
noncomputable def r_pick_every (a0 a1 a2 : AV) (σ : Heap) : Option (AV × Heap) :=
 (A.sub a2 (AV.int .i64 1)).bind fun x1 =>
 (A.loop (fun v2 s3 =>
   (A.lenS a0).bind fun x5 =>
   (A.lss (v2.getD 1 AV.undef) x5).bind fun x6 =>
   A.cond x6 (
    (A.iaddr 1 a0 (v2.getD 1 AV.undef)).bind fun x7 =>
    ((A.deref x7 s3).bind fun c8 => A.part1 0 c8).bind fun x9 =>
    ((((A.cell x9).bind fun v => some [v]).bind fun c10 => (A.splice 0 c10 [(AV.int .i64 0)]).bind fun c11 => some c11).bind fun cs => some (AV.sl 1 (chunks 1 1 cs))).bind fun x12 =>
    (A.append 1 (140737488355328 / 8) (v2.getD 0 AV.undef) x12 s3).bind fun r13 =>
    (A.add (v2.getD 1 AV.undef) a1).bind fun x14 =>
    some (AX.normal, [r13.1, x14], r13.2)) (
    some (AX.exit 0, [(v2.getD 0 AV.undef), (v2.getD 1 AV.undef)], s3))) [AV.nsl, x1] σ).bind fun r15 =>
 bif r15.1 == AX.exit 0 then (
  some ((r15.2.1.getD 0 AV.undef), r15.2.2)) else
 none
noncomputable def m_pick_every : List AV → Heap → Option (AV × Heap) := A.wrap true [(.s 1)] .k (A.ar3 r_pick_every)
noncomputable def r_pick_finder_find (rec : Nat → List AV → Heap → Option (AV × Heap)) (a0 a1 : AV) (σ : Heap) : Option (AV × Heap) :=
 (A.cells 4 a1).bind fun c1 =>
 (A.part1 3 c1).bind fun x2 =>
 (A.lenS x2).bind fun x3 =>
 (A.loop (fun v4 s5 =>
   (A.lss (v4.getD 2 AV.undef) x3).bind fun x7 =>
   A.cond x7 (
    (A.iaddr 4 x2 (v4.getD 2 AV.undef)).bind fun x8 =>
    ((A.deref x8 s5).bind fun c9 => A.partA 0 4 c9).bind fun x10 =>
    (A.cells 4 x10).bind fun c11 =>
    (A.splice 0 c11 [(AV.int .i64 0), (AV.int .i64 0), (AV.int .i64 0), AV.nsl]).bind fun c12 =>
    (A.partA 0 4 c12).bind fun x13 =>
    (rec 79 [a0, x13] s5).bind fun r14 =>
    ((((A.cell r14.1).bind fun v => some [v]).bind fun c15 => (A.splice 0 c15 [AV.nsl]).bind fun c16 => some c16).bind fun cs => some (AV.sl 1 (chunks 1 1 cs))).bind fun x17 =>
    (A.append 1 (140737488355328 / 24) (v4.getD 1 AV.undef) x17 r14.2).bind fun r18 =>
    (A.add (v4.getD 2 AV.undef) (AV.int .i64 1)).bind fun x19 =>
    some (AX.normal, [(v4.getD 0 AV.undef), r18.1, x19], r18.2)) (
    some (AX.exit 0, [(v4.getD 0 AV.undef), (v4.getD 1 AV.undef), (v4.getD 2 AV.undef)], s5))) [(AV.lbx c1), AV.nsl, (AV.int .i64 0)] σ).bind fun r20 =>
 bif r20.1 == AX.exit 0 then (
  ((A.lb (r20.2.1.getD 0 AV.undef)).bind fun _ => some (0)).bind fun p21 =>
  ((A.lb (r20.2.1.getD 0 AV.undef)).bind fun c22 => A.part1 p21 c22).bind fun x23 =>
  (A.eql .i x23 (AV.int .i64 1)).bind fun x24 =>
  A.cond x24 (
   ((A.lb (r20.2.1.getD 0 AV.undef)).bind fun _ => some (1)).bind fun p25 =>
   ((A.lb (r20.2.1.getD 0 AV.undef)).bind fun c26 => A.part1 p25 c26).bind fun x27 =>
   ((A.lb (r20.2.1.getD 0 AV.undef)).bind fun _ => some (2)).bind fun p28 =>
   ((A.lb (r20.2.1.getD 0 AV.undef)).bind fun c29 => A.part1 p28 c29).bind fun x30 =>
   (A.min x27 x30).bind fun x31 =>
   ((A.lb (r20.2.1.getD 0 AV.undef)).bind fun _ => some (1)).bind fun p32 =>
   ((A.lb (r20.2.1.getD 0 AV.undef)).bind fun c33 => A.part1 p32 c33).bind fun x34 =>
   ((A.lb (r20.2.1.getD 0 AV.undef)).bind fun _ => some (2)).bind fun p35 =>
   ((A.lb (r20.2.1.getD 0 AV.undef)).bind fun c36 => A.part1 p35 c36).bind fun x37 =>
   (A.max x34 x37).bind fun x38 =>
   (A.nilck a0).bind fun x39 =>
   (A.faddr 0 x39).bind fun x40 =>
   ((A.deref x40 r20.2.2).bind fun c41 => A.part1 0 c41).bind fun x42 =>
   (A.lenS x42).bind fun x43 =>
   (A.loop (fun v44 s45 =>
     (A.lss (v44.getD 2 AV.undef) x43).bind fun x47 =>
     A.cond x47 (
      (A.iaddr 1 x42 (v44.getD 2 AV.undef)).bind fun x48 =>
      ((A.deref x48 s45).bind fun c49 => A.part1 0 c49).bind fun x50 =>
      (A.leq x31 x50).bind fun x51 =>
      (A.guard x51 true (some x50) (some (AV.tup []))).bind fun x52 =>
      (A.guard x51 true (some x38) (some (AV.tup []))).bind fun x53 =>
      (A.guard x51 true (A.leq x52 x53) (some (AV.tup []))).bind fun x54 =>
      (A.pick x51 x54 (AV.bool false)).bind fun x55 =>
      (A.cond x55 (
       ((((A.cell x50).bind fun v => some [v]).bind fun c57 => (A.splice 0 c57 [(AV.int .i64 0)]).bind fun c58 => some c58).bind fun cs => some (AV.sl 1 (chunks 1 1 cs))).bind fun x59 =>
       (A.append 1 (140737488355328 / 8) (v44.getD 1 AV.undef) x59 s45).bind fun r60 =>
       some ([(v44.getD 0 AV.undef), r60.1], r60.2)) (
       some ([(v44.getD 0 AV.undef), (v44.getD 1 AV.undef)], s45))).bind fun r56 =>
      (A.add (v44.getD 2 AV.undef) (AV.int .i64 1)).bind fun x61 =>
      some (AX.normal, [(r56.1.getD 0 AV.undef), (r56.1.getD 1 AV.undef), x61], r56.2)) (
      some (AX.exit 3, [(v44.getD 0 AV.undef), (v44.getD 1 AV.undef), (v44.getD 2 AV.undef)], s45))) [(r20.2.1.getD 0 AV.undef), AV.nsl, (AV.int .i64 0)] r20.2.2).bind fun r62 =>
   bif r62.1 == AX.exit 3 then (
    ((A.lb (r62.2.1.getD 0 AV.undef)).bind fun _ => some (1)).bind fun p63 =>
    ((A.lb (r62.2.1.getD 0 AV.undef)).bind fun c64 => A.part1 p63 c64).bind fun x65 =>
    ((A.lb (r62.2.1.getD 0 AV.undef)).bind fun _ => some (2)).bind fun p66 =>
    ((A.lb (r62.2.1.getD 0 AV.undef)).bind fun c67 => A.part1 p66 c67).bind fun x68 =>
    (A.gtr x65 x68).bind fun x69 =>
    (A.cond x69 (
     (m_slices_Reverse_int [(r62.2.1.getD 1 AV.undef)] r62.2.2).bind fun r71 =>
     some (([] : List AV), r71.2)) (
     some (([] : List AV), r62.2.2))).bind fun r70 =>
    some ((r62.2.1.getD 1 AV.undef), r70.2)) else
   none) (
   (A.eql .i x23 (AV.int .i64 2)).bind fun x72 =>
   A.cond x72 (
    (A.nilck a0).bind fun x73 =>
    (A.faddr 3 x73).bind fun x74 =>
    ((A.deref x74 r20.2.2).bind fun c75 => A.part1 0 c75).bind fun x76 =>
    ((A.lb (r20.2.1.getD 0 AV.undef)).bind fun _ => some (1)).bind fun p77 =>
    ((A.lb (r20.2.1.getD 0 AV.undef)).bind fun c78 => A.part1 p77 c78).bind fun x79 =>
    (A.lookOk .i x76 x79 AV.nsl r20.2.2).bind fun x80 =>
    (A.ext 0 x80).bind fun x81 =>
    (A.ext 1 x80).bind fun x82 =>
    (A.not x82).bind fun x83 =>
    (A.cond x83 (
     (A.nilck a0).bind fun x85 =>
     (A.faddr 1 x85).bind fun x86 =>
     ((A.deref x86 r20.2.2).bind fun c87 => A.part1 0 c87).bind fun x88 =>
     ((A.lb (r20.2.1.getD 0 AV.undef)).bind fun _ => some (1)).bind fun p89 =>
     ((A.lb (r20.2.1.getD 0 AV.undef)).bind fun c90 => A.part1 p89 c90).bind fun x91 =>
     (A.look .i x88 x91 (AV.agg [(AV.int .i64 0), (AV.int .i64 0), (AV.int .i64 0), AV.nsl]) r20.2.2).bind fun x92 =>
     (rec 79 [a0, x92] r20.2.2).bind fun r93 =>
     (A.nilck a0).bind fun x94 =>
     (A.faddr 3 x94).bind fun x95 =>
     ((A.deref x95 r93.2).bind fun c96 => A.part1 0 c96).bind fun x97 =>
     ((A.lb (r20.2.1.getD 0 AV.undef)).bind fun _ => some (1)).bind fun p98 =>
     ((A.lb (r20.2.1.getD 0 AV.undef)).bind fun c99 => A.part1 p98 c99).bind fun x100 =>
     (A.mupd .i x97 x100 r93.1 r93.2).bind fun h101 =>
     some ([r93.1], h101)) (
     some ([x81], r20.2.2))).bind fun r84 =>
    (m_slices_Clone_int [(r84.1.getD 0 AV.undef)] r84.2).bind fun r102 =>
    some (r102.1, r102.2)) (
    (A.eql .i x23 (AV.int .i64 3)).bind fun x103 =>
    A.cond x103 (
     (A.nilck a0).bind fun x104 =>
     (A.faddr 2 x104).bind fun x105 =>
     ((A.deref x105 r20.2.2).bind fun c106 => A.part1 0 c106).bind fun x107 =>
     ((A.lb (r20.2.1.getD 0 AV.undef)).bind fun _ => some (1)).bind fun p108 =>
     ((A.lb (r20.2.1.getD 0 AV.undef)).bind fun c109 => A.part1 p108 c109).bind fun x110 =>
     (A.look .i x107 x110 AV.nsl r20.2.2).bind fun x111 =>
     (m_slices_Clone_int [x111] r20.2.2).bind fun r112 =>
     some (r112.1, r112.2)) (
     (A.eql .i x23 (AV.int .i64 4)).bind fun x113 =>
     A.cond x113 (
      (m_slices_Concat_int [(r20.2.1.getD 1 AV.undef)] r20.2.2).bind fun r114 =>
      (m_pick_once [r114.1] r114.2).bind fun r115 =>
      some (r115.1, r115.2)) (
      (A.eql .i x23 (AV.int .i64 5)).bind fun x116 =>
      A.cond x116 (
       ((A.cell (AV.om r20.2.2.length)).bind fun v => some [v]).bind fun c117 =>
       (A.storeAt (AV.op (r20.2.2 ++ [Blk.map []]).length 0) c117 ((r20.2.2 ++ [Blk.map []]) ++ [Blk.box [AV.nm]])).bind fun c118 =>
       (A.iaddr 1 (r20.2.1.getD 1 AV.undef) (AV.int .i64 1)).bind fun x119 =>
       ((A.deref x119 c118).bind fun c120 => A.part1 0 c120).bind fun x121 =>
       (A.lenS x121).bind fun x122 =>
       (A.loop (fun v123 s124 =>
         (A.lss (v123.getD 0 AV.undef) x122).bind fun x126 =>
         A.cond x126 (
          (A.iaddr 1 x121 (v123.getD 0 AV.undef)).bind fun x127 =>
          ((A.deref x127 s124).bind fun c128 => A.part1 0 c128).bind fun x129 =>
          ((A.deref (AV.op (r20.2.2 ++ [Blk.map []]).length 0) s124).bind fun c130 => A.part1 0 c130).bind fun x131 =>
          (A.mupd .i x131 x129 (AV.bool true) s124).bind fun h132 =>
          (A.add (v123.getD 0 AV.undef) (AV.int .i64 1)).bind fun x133 =>
          some (AX.normal, [x133], h132)) (
          some (AX.exit 5, [(v123.getD 0 AV.undef)], s124))) [(AV.int .i64 0)] c118).bind fun r134 =>
       bif r134.1 == AX.exit 5 then (
        (A.iaddr 1 (r20.2.1.getD 1 AV.undef) (AV.int .i64 0)).bind fun x135 =>
        ((A.deref x135 r134.2.2).bind fun c136 => A.part1 0 c136).bind fun x137 =>
        (m_slices_DeleteFunc_int (A.tab (fun _ _ => none) [(77, m_pick_finder_find_fn1)]) [x137, (AV.fn 77 [(AV.op (r20.2.2 ++ [Blk.map []]).length 0)])] r134.2.2).bind fun r138 =>
        some (r138.1, r138.2)) else
       none) (
       (A.eql .i x23 (AV.int .i64 6)).bind fun x139 =>
       A.cond x139 (
        (A.iaddr 1 (r20.2.1.getD 1 AV.undef) (AV.int .i64 0)).bind fun x140 =>
        ((A.deref x140 r20.2.2).bind fun c141 => A.part1 0 c141).bind fun x142 =>
        (m_pick_every [x142, (AV.int .i64 2), (AV.int .i64 1)] r20.2.2).bind fun r143 =>
        some (r143.1, r143.2)) (
        (A.eql .i x23 (AV.int .i64 7)).bind fun x144 =>
        A.cond x144 (
         (A.iaddr 1 (r20.2.1.getD 1 AV.undef) (AV.int .i64 0)).bind fun x145 =>
         ((A.deref x145 r20.2.2).bind fun c146 => A.part1 0 c146).bind fun x147 =>
         (m_pick_every [x147, (AV.int .i64 2), (AV.int .i64 2)] r20.2.2).bind fun r148 =>
         some (r148.1, r148.2)) (
         (A.eql .i x23 (AV.int .i64 8)).bind fun x149 =>
         A.cond x149 (
          (A.iaddr 1 (r20.2.1.getD 1 AV.undef) (AV.int .i64 0)).bind fun x150 =>
          ((A.deref x150 r20.2.2).bind fun c151 => A.part1 0 c151).bind fun x152 =>
          (m_slices_Reverse_int [x152] r20.2.2).bind fun r153 =>
          (A.iaddr 1 (r20.2.1.getD 1 AV.undef) (AV.int .i64 0)).bind fun x154 =>
          ((A.deref x154 r153.2).bind fun c155 => A.part1 0 c155).bind fun x156 =>
          some (x156, r153.2)) (
          (A.iaddr 1 (r20.2.1.getD 1 AV.undef) (AV.int .i64 0)).bind fun x157 =>
          ((A.deref x157 r20.2.2).bind fun c158 => A.part1 0 c158).bind fun x159 =>
          ((A.lb (r20.2.1.getD 0 AV.undef)).bind fun _ => some (1)).bind fun p160 =>
          ((A.lb (r20.2.1.getD 0 AV.undef)).bind fun c161 => A.part1 p160 c161).bind fun x162 =>
          ((A.lb (r20.2.1.getD 0 AV.undef)).bind fun _ => some (2)).bind fun p163 =>
          ((A.lb (r20.2.1.getD 0 AV.undef)).bind fun c164 => A.part1 p163 c164).bind fun x165 =>
          (m_pick_every [x159, x162, x165] r20.2.2).bind fun r166 =>
          some (r166.1, r166.2)))))))))) else
 none
noncomputable def R_pick_finder_find (rec : Nat → List AV → Heap → Option (AV × Heap)) : List (Nat × (List AV → Heap → Option (AV × Heap))) := [(79, A.wrap false [] .k (A.ar2 (r_pick_finder_find rec)))]
noncomputable def m_pick_finder_find : List AV → Heap → Option (AV × Heap) := fuel (R_pick_finder_find) 2000000 79
noncomputable def r_pick_Units (a0 a1 a2 a3 : AV) (σ : Heap) : Option (AV × Heap) :=
 (A.cells 2 a0).bind fun c1 =>
 (A.cells 4 a3).bind fun c2 =>
 (A.partA 0 2 c1).bind fun x3 =>
 (A.quiet (m_pick_CheckPresets [x3, a2] σ) σ).bind fun x4 =>
 (A.quiet (m_pick_CheckGroups [a1] σ) σ).bind fun x5 =>
 (A.partA 0 4 c2).bind fun x6 =>
 (A.quiet (m_pick_Check [x6] σ) σ).bind fun x7 =>
 ((((A.cell x4).bind fun v => some [v]).bind fun c8 => (A.splice 0 c8 [(AV.int .i64 0), (AV.int .i64 0), (AV.int .i64 0)]).bind fun c9 => ((A.cell x5).bind fun v => some [v]).bind fun c10 => (A.splice 1 c10 c9).bind fun c11 => ((A.cell x7).bind fun v => some [v]).bind fun c12 => (A.splice 2 c12 c11).bind fun c13 => some c13).bind fun cs => some (AV.sl 1 (chunks 1 3 cs))).bind fun x14 =>
 (A.quiet (m_word_First [x14] σ) σ).bind fun x15 =>
 (A.neq .i x15 (AV.int .i64 0)).bind fun x16 =>
 A.cond x16 (
  some ((AV.tup [AV.nsl, x15]), σ)) (
  ((((A.cell (AV.om σ.length)).bind fun v => some [v]).bind fun c17 => (A.splice 1 c17 [AV.nsl, AV.nm, AV.nm, AV.nm]).bind fun c18 => ((A.cell (AV.om (σ ++ [Blk.map []]).length)).bind fun v => some [v]).bind fun c19 => (A.splice 2 c19 c18).bind fun c20 => ((A.cell (AV.om ((σ ++ [Blk.map []]) ++ [Blk.map []]).length)).bind fun v => some [v]).bind fun c21 => (A.splice 3 c21 c20).bind fun c22 => some c22).bind fun cs => some (AV.agg cs)).bind fun x23 =>
  (A.cells 4 x23).bind fun c24 =>
  (A.part1 1 c1).bind fun x25 =>
  (A.lenS x25).bind fun x26 =>
  (A.loop (fun v27 s28 =>
    (A.lss (v27.getD 1 AV.undef) x26).bind fun x30 =>
    A.cond x30 (
     (A.iaddr 4 x25 (v27.getD 1 AV.undef)).bind fun x31 =>
     ((A.deref x31 s28).bind fun c32 => A.partA 0 4 c32).bind fun x33 =>
     (A.cells 4 x33).bind fun c34 =>
     (A.splice 0 c34 [(AV.int .i64 0), (AV.str ⟨#[]⟩), (AV.int .i64 0), (AV.int .i64 0)]).bind fun c35 =>
     (A.nilck (AV.op (((σ ++ [Blk.map []]) ++ [Blk.map []]) ++ [Blk.map []]).length 0)).bind fun x36 =>
     (A.faddr 0 x36).bind fun x37 =>
     ((A.deref x37 s28).bind fun c38 => A.part1 0 c38).bind fun x39 =>
     (A.part1 0 c35).bind fun x40 =>
     ((((A.cell x40).bind fun v => some [v]).bind fun c41 => (A.splice 0 c41 [(AV.int .i64 0)]).bind fun c42 => some c42).bind fun cs => some (AV.sl 1 (chunks 1 1 cs))).bind fun x43 =>
     (A.append 1 (140737488355328 / 8) x39 x43 s28).bind fun r44 =>
     (A.nilck (AV.op (((σ ++ [Blk.map []]) ++ [Blk.map []]) ++ [Blk.map []]).length 0)).bind fun x45 =>
     (A.faddr 0 x45).bind fun x46 =>
     ((A.cell r44.1).bind fun v => some [v]).bind fun c47 =>
     (A.storeAt x46 c47 r44.2).bind fun c48 =>
     (A.add (v27.getD 1 AV.undef) (AV.int .i64 1)).bind fun x49 =>
     some (AX.normal, [(v27.getD 0 AV.undef), x49], c48)) (
     some (AX.exit 0, [(v27.getD 0 AV.undef), (v27.getD 1 AV.undef)], s28))) [(AV.lbx c2), (AV.int .i64 0)] ((((σ ++ [Blk.map []]) ++ [Blk.map []]) ++ [Blk.map []]) ++ [Blk.box c24])).bind fun r50 =>
  bif r50.1 == AX.exit 0 then (
   (A.lenS a1).bind fun x51 =>
   (A.loop (fun v52 s53 =>
     (A.lss (v52.getD 1 AV.undef) x51).bind fun x55 =>
     A.cond x55 (
      (A.iaddr 5 a1 (v52.getD 1 AV.undef)).bind fun x56 =>
      ((A.deref x56 s53).bind fun c57 => A.partA 0 5 c57).bind fun x58 =>
      (A.cells 5 x58).bind fun c59 =>
      (A.splice 0 c59 [(AV.int .i64 0), (AV.int .i64 0), (AV.int .i64 0), (AV.int .i64 0), AV.nsl]).bind fun c60 =>
      (A.nilck (AV.op (((σ ++ [Blk.map []]) ++ [Blk.map []]) ++ [Blk.map []]).length 0)).bind fun x61 =>
      (A.faddr 1 x61).bind fun x62 =>
      ((A.deref x62 s53).bind fun c63 => A.part1 0 c63).bind fun x64 =>
      (A.part1 0 c60).bind fun x65 =>
      (A.partA 1 4 c60).bind fun x66 =>
      (A.mupd .i x64 x65 x66 s53).bind fun h67 =>
      (A.add (v52.getD 1 AV.undef) (AV.int .i64 1)).bind fun x68 =>
      some (AX.normal, [(v52.getD 0 AV.undef), x68], h67)) (
      some (AX.exit 2, [(v52.getD 0 AV.undef), (v52.getD 1 AV.undef)], s53))) [(r50.2.1.getD 0 AV.undef), (AV.int .i64 0)] r50.2.2).bind fun r69 =>
   bif r69.1 == AX.exit 2 then (
    (A.lenS a2).bind fun x70 =>
    (A.loop (fun v71 s72 =>
      (A.lss (v71.getD 1 AV.undef) x70).bind fun x74 =>
      A.cond x74 (
       (A.iaddr 3 a2 (v71.getD 1 AV.undef)).bind fun x75 =>
       ((A.deref x75 s72).bind fun c76 => A.partA 0 3 c76).bind fun x77 =>
       (A.cells 3 x77).bind fun c78 =>
       (A.splice 0 c78 [(AV.int .i64 0), (AV.str ⟨#[]⟩), AV.nsl]).bind fun c79 =>
       (A.part1 2 c79).bind fun x80 =>
       (A.lenS x80).bind fun x81 =>
       (A.loop (fun v82 s83 =>
         (A.lss (v82.getD 3 AV.undef) x81).bind fun x85 =>
         A.cond x85 (
          (A.iaddr 3 x80 (v82.getD 3 AV.undef)).bind fun x86 =>
          ((A.deref x86 s83).bind fun c87 => A.partA 0 3 c87).bind fun x88 =>
          (A.cells 3 x88).bind fun c89 =>
          (A.splice 0 c89 [(AV.int .i64 0), (AV.str ⟨#[]⟩), (AV.int .i64 0)]).bind fun c90 =>
          (A.part1 0 c90).bind fun x91 =>
          ((((A.cell x91).bind fun v => some [v]).bind fun c92 => (A.splice 0 c92 [(AV.int .i64 0)]).bind fun c93 => some c93).bind fun cs => some (AV.sl 1 (chunks 1 1 cs))).bind fun x94 =>
          (A.append 1 (140737488355328 / 8) (v82.getD 2 AV.undef) x94 s83).bind fun r95 =>
          (A.add (v82.getD 3 AV.undef) (AV.int .i64 1)).bind fun x96 =>
          some (AX.normal, [(v82.getD 0 AV.undef), (v82.getD 1 AV.undef), r95.1, x96], r95.2)) (
          some (AX.exit 6, [(v82.getD 0 AV.undef), (v82.getD 1 AV.undef), (v82.getD 2 AV.undef), (v82.getD 3 AV.undef)], s83))) [(v71.getD 0 AV.undef), (AV.lbx c79), AV.nsl, (AV.int .i64 0)] s72).bind fun r97 =>
       bif r97.1 == AX.exit 6 then (
        (A.nilck (AV.op (((σ ++ [Blk.map []]) ++ [Blk.map []]) ++ [Blk.map []]).length 0)).bind fun x98 =>
        (A.faddr 2 x98).bind fun x99 =>
        ((A.deref x99 r97.2.2).bind fun c100 => A.part1 0 c100).bind fun x101 =>
        ((A.lb (r97.2.1.getD 1 AV.undef)).bind fun _ => some (0)).bind fun p102 =>
        ((A.lb (r97.2.1.getD 1 AV.undef)).bind fun c103 => A.part1 p102 c103).bind fun x104 =>
        (A.quiet ((A.finC (.s 1) m_pick_once) [(r97.2.1.getD 2 AV.undef)] r97.2.2) r97.2.2).bind fun x105 =>
        (A.mupd .i x101 x104 x105 r97.2.2).bind fun h106 =>
        (A.add (v71.getD 1 AV.undef) (AV.int .i64 1)).bind fun x107 =>
        some (AX.normal, [(r97.2.1.getD 0 AV.undef), x107], h106)) else
       none) (
       some (AX.exit 4, [(v71.getD 0 AV.undef), (v71.getD 1 AV.undef)], s72))) [(r69.2.1.getD 0 AV.undef), (AV.int .i64 0)] r69.2.2).bind fun r108 =>
    bif r108.1 == AX.exit 4 then (
     ((A.lb (r108.2.1.getD 0 AV.undef)).bind fun c109 => A.partA 0 4 c109).bind fun x110 =>
     (m_pick_finder_missing [(AV.op (((σ ++ [Blk.map []]) ++ [Blk.map []]) ++ [Blk.map []]).length 0), x110, (AV.om r108.2.2.length)] (r108.2.2 ++ [Blk.map []])).bind fun r111 =>
     A.cond r111.1 (
      some ((AV.tup [AV.nsl, (AV.int .i64 8)]), r111.2)) (
      ((A.lb (r108.2.1.getD 0 AV.undef)).bind fun c112 => A.partA 0 4 c112).bind fun x113 =>
      (m_pick_finder_find [(AV.op (((σ ++ [Blk.map []]) ++ [Blk.map []]) ++ [Blk.map []]).length 0), x113] r111.2).bind fun r114 =>
      some ((AV.tup [r114.1, (AV.int .i64 0)]), r114.2))) else
    none) else
   none) else
  none)
noncomputable def m_pick_Units : List AV → Heap → Option (AV × Heap) := A.wrap true [(.a [(.s 3), (.s 4)]), (.s 5), (.s 3), (.a [.k, .k, .k, (.s 4)])] .k (A.ar4 r_pick_Units)
noncomputable def r_pick_text (rec : Nat → List AV → Heap → Option (AV × Heap)) (a0 : AV) (σ : Heap) : Option (AV × Heap) :=
 (A.cells 4 a0).bind fun c1 =>
 (A.part1 1 c1).bind fun x2 =>
 (A.quiet (m_strconv_Itoa [x2] σ) σ).bind fun x3 =>
 (A.part1 2 c1).bind fun x4 =>
 (A.quiet (m_strconv_Itoa [x4] σ) σ).bind fun x5 =>
 (A.part1 0 c1).bind fun x6 =>
 (A.eql .i x6 (AV.int .i64 1)).bind fun x7 =>
 A.cond x7 (
  (A.eql .z x3 x5).bind fun x8 =>
  A.cond x8 (
   A.fin σ x3 σ) (
   (A.add x3 (AV.str ⟨#[32, 116, 104, 114, 117, 32]⟩)).bind fun x9 =>
   (A.add x9 x5).bind fun x10 =>
   A.fin σ x10 σ)) (
  (A.eql .i x6 (AV.int .i64 2)).bind fun x11 =>
  A.cond x11 (
   (A.add (AV.str ⟨#[103, 114, 111, 117, 112, 32]⟩) x3).bind fun x12 =>
   A.fin σ x12 σ) (
   (A.eql .i x6 (AV.int .i64 3)).bind fun x13 =>
   A.cond x13 (
    (A.add (AV.str ⟨#[112, 114, 101, 115, 101, 116, 32]⟩) x3).bind fun x14 =>
    A.fin σ x14 σ) (
    (A.eql .i x6 (AV.int .i64 6)).bind fun x15 =>
    A.cond x15 (
     (A.part1 3 c1).bind fun x16 =>
     (A.iaddr 4 x16 (AV.int .i64 0)).bind fun x17 =>
     ((A.deref x17 σ).bind fun c18 => A.partA 0 4 c18).bind fun x19 =>
     (rec 461 [x19] σ).bind fun r20 =>
     (A.add (AV.str ⟨#[111, 100, 100, 32]⟩) r20.1).bind fun x21 =>
     A.fin σ x21 r20.2) (
     (A.eql .i x6 (AV.int .i64 7)).bind fun x22 =>
     A.cond x22 (
      (A.part1 3 c1).bind fun x23 =>
      (A.iaddr 4 x23 (AV.int .i64 0)).bind fun x24 =>
      ((A.deref x24 σ).bind fun c25 => A.partA 0 4 c25).bind fun x26 =>
      (rec 461 [x26] σ).bind fun r27 =>
      (A.add (AV.str ⟨#[101, 118, 101, 110, 32]⟩) r27.1).bind fun x28 =>
      A.fin σ x28 r27.2) (
      (A.eql .i x6 (AV.int .i64 8)).bind fun x29 =>
      A.cond x29 (
       (A.part1 3 c1).bind fun x30 =>
       (A.iaddr 4 x30 (AV.int .i64 0)).bind fun x31 =>
       ((A.deref x31 σ).bind fun c32 => A.partA 0 4 c32).bind fun x33 =>
       (rec 461 [x33] σ).bind fun r34 =>
       (A.add (AV.str ⟨#[98, 97, 99, 107, 32]⟩) r34.1).bind fun x35 =>
       A.fin σ x35 r34.2) (
       (A.eql .i x6 (AV.int .i64 9)).bind fun x36 =>
       A.cond x36 (
        (A.add (AV.str ⟨#[101, 118, 101, 114, 121, 32]⟩) x3).bind fun x37 =>
        (A.add x37 (AV.str ⟨#[32, 102, 114, 111, 109, 32]⟩)).bind fun x38 =>
        (A.add x38 x5).bind fun x39 =>
        (A.add x39 (AV.str ⟨#[32]⟩)).bind fun x40 =>
        (A.part1 3 c1).bind fun x41 =>
        (A.iaddr 4 x41 (AV.int .i64 0)).bind fun x42 =>
        ((A.deref x42 σ).bind fun c43 => A.partA 0 4 c43).bind fun x44 =>
        (rec 461 [x44] σ).bind fun r45 =>
        (A.add x40 r45.1).bind fun x46 =>
        A.fin σ x46 r45.2) (
        (A.part1 3 c1).bind fun x47 =>
        (A.iaddr 4 x47 (AV.int .i64 0)).bind fun x48 =>
        ((A.deref x48 σ).bind fun c49 => A.partA 0 4 c49).bind fun x50 =>
        (A.cells 4 x50).bind fun c51 =>
        (A.splice 0 c51 [(AV.int .i64 0), (AV.int .i64 0), (AV.int .i64 0), AV.nsl]).bind fun c52 =>
        (A.partA 0 4 c52).bind fun x53 =>
        (rec 461 [x53] σ).bind fun r54 =>
        (A.part1 0 c1).bind fun x55 =>
        (A.eql .i x55 (AV.int .i64 5)).bind fun x56 =>
        (A.cond x56 (
         some ([(AV.lbx c1), (AV.str ⟨#[32, 45, 32]⟩), (AV.lbx c52)], r54.2)) (
         some ([(AV.lbx c1), (AV.str ⟨#[32, 43, 32]⟩), (AV.lbx c52)], r54.2))).bind fun r57 =>
        ((A.lb (r57.1.getD 2 AV.undef)).bind fun _ => some (0)).bind fun p58 =>
        ((A.lb (r57.1.getD 2 AV.undef)).bind fun c59 => A.part1 p58 c59).bind fun x60 =>
        (A.eql .i x60 (AV.int .i64 5)).bind fun x61 =>
        ((A.lb (r57.1.getD 0 AV.undef)).bind fun _ => some (0)).bind fun p62 =>
                (A.guard x61 false ((A.lb (r57.1.getD 0 AV.undef)).bind fun c63 => A.part1 p62 c63) (some (AV.tup []))).bind fun x64 =>
        (A.guard x61 false (A.eql .i x64 (AV.int .i64 5)) (some (AV.tup []))).bind fun x65 =>
        (A.pick x61 (AV.bool true) x65).bind fun x66 =>
        (A.cond x66 (
         ((A.lb (r57.1.getD 2 AV.undef)).bind fun c68 => A.partA 0 4 c68).bind fun x69 =>
         (rec 462 [x69] r57.2).bind fun r70 =>
         some ([(r57.1.getD 0 AV.undef), r70.1], r70.2)) (
         some ([(r57.1.getD 0 AV.undef), r54.1], r57.2))).bind fun r67 =>
        ((A.lb (r67.1.getD 0 AV.undef)).bind fun _ => some (3)).bind fun p71 =>
        ((A.lb (r67.1.getD 0 AV.undef)).bind fun c72 => A.part1 p71 c72).bind fun x73 =>
        (A.sliceS 4 x73 (some (AV.int .i64 1)) none r67.2).bind fun x74 =>
        (A.lenS x74).bind fun x75 =>
        (A.loop (fun v76 s77 =>
          (A.lss (v76.getD 1 AV.undef) x75).bind fun x79 =>
          A.cond x79 (
           (A.iaddr 4 x74 (v76.getD 1 AV.undef)).bind fun x80 =>
           ((A.deref x80 s77).bind fun c81 => A.partA 0 4 c81).bind fun x82 =>
           (A.cells 4 x82).bind fun c83 =>
           (A.splice 0 c83 [(AV.int .i64 0), (AV.int .i64 0), (AV.int .i64 0), AV.nsl]).bind fun c84 =>
           (A.partA 0 4 c84).bind fun x85 =>
           (rec 461 [x85] s77).bind fun r86 =>
           (A.add (r57.1.getD 1 AV.undef) r86.1).bind fun x87 =>
           (A.add (v76.getD 0 AV.undef) x87).bind fun x88 =>
           (A.add (v76.getD 1 AV.undef) (AV.int .i64 1)).bind fun x89 =>
           some (AX.normal, [x88, x89], r86.2)) (
           some (AX.exit 1, [(v76.getD 0 AV.undef), (v76.getD 1 AV.undef)], s77))) [(r67.1.getD 1 AV.undef), (AV.int .i64 0)] r67.2).bind fun r90 =>
        bif r90.1 == AX.exit 1 then (
         A.fin σ (r90.2.1.getD 0 AV.undef) r90.2.2) else
        none)))))))
noncomputable def r_pick_arg (rec : Nat → List AV → Heap → Option (AV × Heap)) (a0 : AV) (σ : Heap) : Option (AV × Heap) :=
 (A.cells 4 a0).bind fun c1 =>
 (A.part1 0 c1).bind fun x2 =>
 (A.eql .i x2 (AV.int .i64 4)).bind fun x3 =>
 (A.guard x3 false (A.part1 0 c1) (some (AV.tup []))).bind fun x4 =>
 (A.guard x3 false (A.eql .i x4 (AV.int .i64 5)) (some (AV.tup []))).bind fun x5 =>
 (A.pick x3 (AV.bool true) x5).bind fun x6 =>
 A.cond x6 (
  (A.partA 0 4 c1).bind fun x7 =>
  (rec 462 [x7] σ).bind fun r8 =>
  (A.add (AV.str ⟨#[40]⟩) r8.1).bind fun x9 =>
  (A.add x9 (AV.str ⟨#[41]⟩)).bind fun x10 =>
  A.fin σ x10 r8.2) (
  (A.partA 0 4 c1).bind fun x11 =>
  (rec 462 [x11] σ).bind fun r12 =>
  A.fin σ r12.1 r12.2)
noncomputable def R_pick_text (rec : Nat → List AV → Heap → Option (AV × Heap)) : List (Nat × (List AV → Heap → Option (AV × Heap))) := [(462, A.wrap true [(.a [.k, .k, .k, (.s 4)])] .k (A.ar1 (r_pick_text rec))), (461, A.wrap true [(.a [.k, .k, .k, (.s 4)])] .k (A.ar1 (r_pick_arg rec)))]
noncomputable def m_pick_text : List AV → Heap → Option (AV × Heap) := fuel (R_pick_text) 2000000 462
noncomputable def r_pick_Print (a0 : AV) (σ : Heap) : Option (AV × Heap) :=
 (A.cells 4 a0).bind fun c1 =>
 (A.partA 0 4 c1).bind fun x2 =>
 (m_pick_Check [x2] σ).bind fun r3 =>
 (A.neq .i r3.1 (AV.int .i64 0)).bind fun x4 =>
 A.cond x4 (
  A.fin σ (AV.tup [(AV.str ⟨#[]⟩), r3.1]) r3.2) (
  (A.partA 0 4 c1).bind fun x5 =>
  (m_pick_text [x5] r3.2).bind fun r6 =>
  (A.lenZ r6.1).bind fun x7 =>
  (A.gtr x7 (AV.int .i64 4000)).bind fun x8 =>
  A.cond x8 (
   A.fin σ (AV.tup [(AV.str ⟨#[]⟩), (AV.int .i64 2)]) r6.2) (
   A.fin σ (AV.tup [r6.1, (AV.int .i64 0)]) r6.2))
noncomputable def m_pick_Print : List AV → Heap → Option (AV × Heap) := A.wrap true [(.a [.k, .k, .k, (.s 4)])] .k (A.ar1 r_pick_Print)
end Go.Proofs.YtkdafecbdncmiaaDoor

namespace Go.Proofs.YtkdafecbdncmiaaDoor
set_option linter.unusedSectionVars false
set_option linter.unusedSimpArgs false
set_option linter.unusedVariables false
set_option maxRecDepth 100000
noncomputable def r_W4_PickUnitsAreUnits_fn1 (a0 a1 : AV) (σ : Heap) : Option (AV × Heap) :=
 (A.cells 4 a0).bind fun c1 =>
 (A.part1 0 c1).bind fun x2 =>
 ((A.deref a1 σ).bind fun c3 => A.part1 0 c3).bind fun x4 =>
 (A.eql .i x2 x4).bind fun x5 =>
 A.fin σ x5 σ
noncomputable def m_W4_PickUnitsAreUnits_fn1 : List AV → Heap → Option (AV × Heap) := A.wrap true [] .k (A.ar2 r_W4_PickUnitsAreUnits_fn1)
noncomputable def r_W4_PickUnitsAreUnits_fn2 (a0 a1 a2 a3 a4 : AV) (σ : Heap) : Option (AV × Heap) :=
 ((A.deref a1 σ).bind fun c1 => A.partA 0 2 c1).bind fun x2 =>
 ((A.deref a2 σ).bind fun c3 => A.part1 0 c3).bind fun x4 =>
 ((A.deref a3 σ).bind fun c5 => A.part1 0 c5).bind fun x6 =>
 ((A.deref a4 σ).bind fun c7 => A.partA 0 4 c7).bind fun x8 =>
 (((A.cells 4 x8).bind fun c9 => (A.splice 0 c9 [(AV.int .i64 0), (AV.int .i64 0), (AV.int .i64 0), AV.nsl]).bind fun c10 => some c10).bind fun cs => some (AV.sl 4 (chunks 4 1 cs))).bind fun x11 =>
 ((((A.cell a0).bind fun v => some [v]).bind fun c12 => (A.splice 0 c12 [(AV.int .i64 0), (AV.int .i64 0), (AV.int .i64 0), AV.nsl]).bind fun c13 => ((A.cell x11).bind fun v => some [v]).bind fun c14 => (A.splice 3 c14 c13).bind fun c15 => some c15).bind fun cs => some (AV.agg cs)).bind fun x16 =>
 (m_pick_Units [x2, x4, x6, x16] σ).bind fun r17 =>
 (A.ext 0 r17.1).bind fun x18 =>
 (A.ext 1 r17.1).bind fun x19 =>
 (A.eql .i x19 (AV.int .i64 0)).bind fun x20 =>
 some ((AV.tup [x18, x20]), r17.2)
noncomputable def m_W4_PickUnitsAreUnits_fn2 : List AV → Heap → Option (AV × Heap) := A.wrap true [] .k (A.ar5 r_W4_PickUnitsAreUnits_fn2)
noncomputable def r_W4_PickUnitsAreUnits (a0 a1 a2 a3 : AV) (σ : Heap) : Option (AV × Heap) :=
 ((A.cells 2 a0).bind fun cs => some (AV.rp cs)).bind fun x1 =>
 (((A.cell a1).bind fun v => some [v]).bind fun cs => some (AV.rp cs)).bind fun x2 =>
 (((A.cell a2).bind fun v => some [v]).bind fun cs => some (AV.rp cs)).bind fun x3 =>
 ((A.cells 4 a3).bind fun cs => some (AV.rp cs)).bind fun x4 =>
 ((A.deref x1 σ).bind fun c5 => A.partA 0 2 c5).bind fun x6 =>
 ((A.deref x2 σ).bind fun c7 => A.part1 0 c7).bind fun x8 =>
 ((A.deref x3 σ).bind fun c9 => A.part1 0 c9).bind fun x10 =>
 ((A.deref x4 σ).bind fun c11 => A.partA 0 4 c11).bind fun x12 =>
 ((A.finC (.t [(.s 1), .k]) m_pick_Units) [x6, x8, x10, x12] σ).bind fun r13 =>
 (A.ext 0 r13.1).bind fun x14 =>
 (A.ext 1 r13.1).bind fun x15 =>
 ((((A.cell (AV.int .i64 1)).bind fun v => some [v]).bind fun c16 => (A.splice 0 c16 [(AV.int .i64 0), (AV.int .i64 0), (AV.int .i64 0), AV.nsl]).bind fun c17 => ((A.cell (AV.int .i64 1)).bind fun v => some [v]).bind fun c18 => (A.splice 1 c18 c17).bind fun c19 => ((A.cell (AV.int .i64 2)).bind fun v => some [v]).bind fun c20 => (A.splice 2 c20 c19).bind fun c21 => some c21).bind fun cs => some (AV.agg cs)).bind fun x22 =>
 (m_pick_Print [x22] r13.2).bind fun r23 =>
 (A.ext 0 r23.1).bind fun x24 =>
 (A.ext 1 r23.1).bind fun x25 =>
 (A.neq .z x24 (AV.str ⟨#[49, 32, 116, 104, 114, 117, 32, 50]⟩)).bind fun x26 =>
 (A.guard x26 false (some x25) (some (AV.tup []))).bind fun x27 =>
 (A.guard x26 false (A.neq .i x27 (AV.int .i64 0)) (some (AV.tup []))).bind fun x28 =>
 (A.pick x26 (AV.bool true) x28).bind fun x29 =>
 A.cond x29 (
  A.fin σ (AV.bool false) r23.2) (
  (A.neq .i x15 (AV.int .i64 0)).bind fun x30 =>
  A.cond x30 (
   (A.lenS x14).bind fun x31 =>
   (A.eql .i x31 (AV.int .i64 0)).bind fun x32 =>
   A.fin σ x32 r23.2) (
   (A.lenS x14).bind fun x33 =>
   (A.loop (fun v34 s35 =>
     (A.lss (v34.getD 1 AV.undef) x33).bind fun x37 =>
     A.cond x37 (
      (A.iaddr 1 x14 (v34.getD 1 AV.undef)).bind fun x38 =>
      ((A.deref x38 s35).bind fun c39 => A.part1 0 c39).bind fun x40 =>
      ((A.cell x40).bind fun v => some [v]).bind fun c41 =>
      (A.storeAt (AV.op s35.length 0) c41 (s35 ++ [Blk.box [(AV.int .i64 0)]])).bind fun c42 =>
      (A.sliceS 1 x14 none (some (v34.getD 1 AV.undef)) c42).bind fun x43 =>
      ((A.deref (AV.op s35.length 0) c42).bind fun c44 => A.part1 0 c44).bind fun x45 =>
      (A.quiet (m_slices_Contains_int [x43, x45] c42) c42).bind fun x46 =>
      (A.guard x46 false (A.faddr 1 x1) (some (AV.tup []))).bind fun x47 =>
      (A.guard x46 false ((A.deref x47 c42).bind fun c48 => A.part1 0 c48) (some (AV.tup []))).bind fun x49 =>
      (A.guard x46 false (some (AV.fn 469 [(AV.op s35.length 0)])) (some (AV.tup []))).bind fun x50 =>
      (A.guard x46 false (A.quiet (m_slices_ContainsFunc_api_Unit (A.tab (fun _ _ => none) [(469, m_W4_PickUnitsAreUnits_fn1), (472, m_W4_PickUnitsAreUnits_fn2)]) [x49, x50] c42) c42) (some (AV.tup []))).bind fun x51 =>
      (A.guard x46 false (A.not x51) (some (AV.tup []))).bind fun x52 =>
      (A.pick x46 (AV.bool true) x52).bind fun x53 =>
      A.cond x53 (
       some (AX.ret, [(AV.bool false), (v34.getD 1 AV.undef)], c42)) (
       (A.add (v34.getD 1 AV.undef) (AV.int .i64 1)).bind fun x54 =>
       some (AX.normal, [(v34.getD 0 AV.undef), x54], c42))) (
      some (AX.exit 0, [(v34.getD 0 AV.undef), (v34.getD 1 AV.undef)], s35))) [(AV.bool false), (AV.int .i64 0)] r23.2).bind fun r55 =>
   bif r55.1 == AX.exit 0 then (
    (A.callv (A.tab (fun _ _ => none) [(469, m_W4_PickUnitsAreUnits_fn1), (472, m_W4_PickUnitsAreUnits_fn2)]) (AV.fn 472 [x1, x2, x3, x4]) [(AV.int .i64 6)] r55.2.2).bind fun r56 =>
    (A.ext 0 r56.1).bind fun x57 =>
    (A.ext 1 r56.1).bind fun x58 =>
    (A.callv (A.tab (fun _ _ => none) [(469, m_W4_PickUnitsAreUnits_fn1), (472, m_W4_PickUnitsAreUnits_fn2)]) (AV.fn 472 [x1, x2, x3, x4]) [(AV.int .i64 7)] r56.2).bind fun r59 =>
    (A.ext 0 r59.1).bind fun x60 =>
    (A.ext 1 r59.1).bind fun x61 =>
    (A.callv (A.tab (fun _ _ => none) [(469, m_W4_PickUnitsAreUnits_fn1), (472, m_W4_PickUnitsAreUnits_fn2)]) (AV.fn 472 [x1, x2, x3, x4]) [(AV.int .i64 8)] r59.2).bind fun r62 =>
    (A.ext 0 r62.1).bind fun x63 =>
    (A.ext 1 r62.1).bind fun x64 =>
    (A.not x58).bind fun x65 =>
    (A.guard x65 false (some x61) (some (AV.tup []))).bind fun x66 =>
    (A.guard x65 false (A.not x66) (some (AV.tup []))).bind fun x67 =>
    (A.pick x65 (AV.bool true) x67).bind fun x68 =>
    (A.guard x68 false (some x64) (some (AV.tup []))).bind fun x69 =>
    (A.guard x68 false (A.not x69) (some (AV.tup []))).bind fun x70 =>
    (A.pick x68 (AV.bool true) x70).bind fun x71 =>
    A.cond x71 (
     (A.lenS x57).bind fun x72 =>
     (A.eql .i x72 (AV.int .i64 0)).bind fun x73 =>
     (A.guard x73 true (some x60) (some (AV.tup []))).bind fun x74 =>
     (A.guard x73 true (A.lenS x74) (some (AV.tup []))).bind fun x75 =>
     (A.guard x73 true (A.eql .i x75 (AV.int .i64 0)) (some (AV.tup []))).bind fun x76 =>
     (A.pick x73 x76 (AV.bool false)).bind fun x77 =>
     (A.guard x77 true (some x63) (some (AV.tup []))).bind fun x78 =>
     (A.guard x77 true (A.lenS x78) (some (AV.tup []))).bind fun x79 =>
     (A.guard x77 true (A.eql .i x79 (AV.int .i64 0)) (some (AV.tup []))).bind fun x80 =>
     (A.pick x77 x80 (AV.bool false)).bind fun x81 =>
     A.fin σ x81 r62.2) (
     (A.lenS x14).bind fun x82 =>
     (A.loop (fun v83 s84 =>
       (A.lss (v83.getD 1 AV.undef) x82).bind fun x86 =>
       A.cond x86 (
        (A.rem (v83.getD 1 AV.undef) (AV.int .i64 2)).bind fun x87 =>
        (A.eql .i x87 (AV.int .i64 0)).bind fun x88 =>
        (A.guard x88 true (some (v83.getD 1 AV.undef)) (some (AV.tup []))).bind fun x89 =>
        (A.guard x88 true (A.quo x89 (AV.int .i64 2)) (some (AV.tup []))).bind fun x90 =>
        (A.guard x88 true (some x57) (some (AV.tup []))).bind fun x91 =>
        (A.guard x88 true (A.lenS x91) (some (AV.tup []))).bind fun x92 =>
        (A.guard x88 true (A.lss x90 x92) (some (AV.tup []))).bind fun x93 =>
        (A.pick x88 x93 (AV.bool false)).bind fun x94 =>
        (A.cond x94 (
         (A.quo (v83.getD 1 AV.undef) (AV.int .i64 2)).bind fun x96 =>
         (A.iaddr 1 x57 x96).bind fun x97 =>
         ((A.deref x97 s84).bind fun c98 => A.part1 0 c98).bind fun x99 =>
         ((((A.cell x99).bind fun v => some [v]).bind fun c100 => (A.splice 0 c100 [(AV.int .i64 0)]).bind fun c101 => some c101).bind fun cs => some (AV.sl 1 (chunks 1 1 cs))).bind fun x102 =>
         (A.append 1 (140737488355328 / 8) (v83.getD 0 AV.undef) x102 s84).bind fun r103 =>
         some ([r103.1], r103.2)) (
         (A.rem (v83.getD 1 AV.undef) (AV.int .i64 2)).bind fun x104 =>
         (A.eql .i x104 (AV.int .i64 1)).bind fun x105 =>
         (A.guard x105 true (some (v83.getD 1 AV.undef)) (some (AV.tup []))).bind fun x106 =>
         (A.guard x105 true (A.quo x106 (AV.int .i64 2)) (some (AV.tup []))).bind fun x107 =>
         (A.guard x105 true (some x60) (some (AV.tup []))).bind fun x108 =>
         (A.guard x105 true (A.lenS x108) (some (AV.tup []))).bind fun x109 =>
         (A.guard x105 true (A.lss x107 x109) (some (AV.tup []))).bind fun x110 =>
         (A.pick x105 x110 (AV.bool false)).bind fun x111 =>
         (A.cond x111 (
          (A.quo (v83.getD 1 AV.undef) (AV.int .i64 2)).bind fun x113 =>
          (A.iaddr 1 x60 x113).bind fun x114 =>
          ((A.deref x114 s84).bind fun c115 => A.part1 0 c115).bind fun x116 =>
          ((((A.cell x116).bind fun v => some [v]).bind fun c117 => (A.splice 0 c117 [(AV.int .i64 0)]).bind fun c118 => some c118).bind fun cs => some (AV.sl 1 (chunks 1 1 cs))).bind fun x119 =>
          (A.append 1 (140737488355328 / 8) (v83.getD 0 AV.undef) x119 s84).bind fun r120 =>
          some ([r120.1], r120.2)) (
          some ([(v83.getD 0 AV.undef)], s84))).bind fun r112 =>
         some ([(r112.1.getD 0 AV.undef)], r112.2))).bind fun r95 =>
        (A.add (v83.getD 1 AV.undef) (AV.int .i64 1)).bind fun x121 =>
        some (AX.normal, [(r95.1.getD 0 AV.undef), x121], r95.2)) (
        some (AX.exit 2, [(v83.getD 0 AV.undef), (v83.getD 1 AV.undef)], s84))) [AV.nsl, (AV.int .i64 0)] r62.2).bind fun r122 =>
     bif r122.1 == AX.exit 2 then (
      (m_slices_Reverse_int [x63] r122.2.2).bind fun r123 =>
      (m_slices_Equal_int [(r122.2.1.getD 0 AV.undef), x14] r123.2).bind fun r124 =>
      (A.guard r124.1 true (some x63) (some (AV.tup []))).bind fun x125 =>
      (A.guard r124.1 true (some x14) (some (AV.tup []))).bind fun x126 =>
      (A.guard r124.1 true (A.quiet (m_slices_Equal_int [x125, x126] r124.2) r124.2) (some (AV.tup []))).bind fun x127 =>
      (A.pick r124.1 x127 (AV.bool false)).bind fun x128 =>
      (A.guard x128 true (some x57) (some (AV.tup []))).bind fun x129 =>
      (A.guard x128 true (A.lenS x129) (some (AV.tup []))).bind fun x130 =>
      (A.guard x128 true (some x60) (some (AV.tup []))).bind fun x131 =>
      (A.guard x128 true (A.lenS x131) (some (AV.tup []))).bind fun x132 =>
      (A.guard x128 true (A.add x130 x132) (some (AV.tup []))).bind fun x133 =>
      (A.guard x128 true (some x14) (some (AV.tup []))).bind fun x134 =>
      (A.guard x128 true (A.lenS x134) (some (AV.tup []))).bind fun x135 =>
      (A.guard x128 true (A.eql .i x133 x135) (some (AV.tup []))).bind fun x136 =>
      (A.pick x128 x136 (AV.bool false)).bind fun x137 =>
      A.fin σ x137 r124.2) else
     none)) else
   bif r55.1 == AX.ret then (
    A.fin σ (r55.2.1.getD 0 AV.undef) r55.2.2) else
   none))
noncomputable def m_W4_PickUnitsAreUnits : List AV → Heap → Option (AV × Heap) := A.wrap true [(.a [(.s 3), (.s 4)]), (.s 5), (.s 3), (.a [.k, .k, .k, (.s 4)])] .k (A.ar4 r_W4_PickUnitsAreUnits)
end Go.Proofs.YtkdafecbdncmiaaDoor

namespace Go.Proofs.YtkdafecbdncmiaaDoor
set_option linter.unusedSectionVars false
set_option linter.unusedSimpArgs false
open Go.RowKit
set_option linter.unusedVariables false
theorem ACalls.same {P : Program} {nm : List Nat} {f : FuncId} {args : List AV} {σ : Heap} {r : AV} (hc : ∀ us w, (callFunc f us).run P w = .ok (.enter f us) w)
  (h : ∀ (c : RC) (vs : Array Value) (w : World), RepL c args vs.toList → Calls P f vs w fun e w' => ∃ v, e = .returned v ∧ Below w.heap.size w w' ∧ ∀ c', Rep c' r v) : ACalls P nm f args σ r σ := by
 refine .inl ⟨f, hc, fun z vs e1 e2 hh ha => (h _ vs z.w ha).mono ?_⟩
 rintro e w' ⟨v, k1, k2, k3⟩
 have ho : Out z z.w z.E := ⟨rfl, rfl, rfl, Nat.le_refl _, fun _ _ _ => rfl, fun i p hp => .inr ⟨p, hp, rfl⟩, fun i p hp => ⟨p, hp, .inl rfl⟩, e2, fun p hp => hh.lt hp⟩
 exact ⟨v, z.E, k1, ho.grow k2, hh.mono (grow_ext k2) rfl (fun p hp => k2.block _ (hh.lt hp)), k3 _⟩
theorem repL1 {c : RC} {a : AV} {vs : Array Value} (h : RepL c [a] vs.toList) : ∃ v, vs = #[v] ∧ Rep c a v := by
 simp only [RepL] at h
 obtain ⟨v, vs', e, h1, e2⟩ := h
 refine ⟨v, ?_, h1⟩
 subst e2
 cases vs; simp at e; simp [e]
theorem repL2 {c : RC} {a b : AV} {vs : Array Value} (h : RepL c [a, b] vs.toList) : ∃ v u, vs = #[v, u] ∧ Rep c a v ∧ Rep c b u := by
 simp only [RepL] at h
 obtain ⟨v, vs', e, h1, u, vs2, e2, h2, e3⟩ := h
 refine ⟨v, u, ?_, h1, h2⟩
 subst e3; subst e2
 cases vs; simp at e; simp [e]
theorem s_strings_Compare : Sound Tryd.prog nmT 80 m_strings_Compare := by
 intro args σ r σ' h
 unfold m_strings_Compare A.ar2 at h
 split at h
 ·simp only at h
  split at h
  ·simp only [Option.some.injEq, Prod.mk.injEq] at h
   obtain ⟨rfl, rfl⟩ := h
   refine ACalls.same Tryd.call80 fun c vs w hr => ?_
   obtain ⟨v, u, rfl, h1, h2⟩ := repL2 hr
   simp only [Rep] at h1 h2
   subst h1 h2
   refine (Tryd.strings_Compare _ _ w).mono ?_
   rintro e w' ⟨rfl, rfl⟩
   exact ⟨_, rfl, Below.refl _ _, fun c' => by simp [Rep]⟩
  ·cases h
 ·cases h
end Go.Proofs.YtkdafecbdncmiaaDoor

namespace Go.Proofs.YtkdafecbdncmiaaDoor
set_option linter.unusedSectionVars false
set_option linter.unusedSimpArgs false
open Go.RowKit
set_option maxRecDepth 100000
set_option linter.unusedVariables false
theorem clone_sound {P : Program} {nm : List Nat} {f : FuncId} {m0 : List AV → Heap → Option (AV × Heap)} (h0 : Sound P nm f m0) (hc : ∀ us w, (callFunc f us).run P w = .ok (.enter f us) w)
  (hz : ∀ a cap w, Calls P f #[.slice a 0 cap] w fun e w' => ∃ q, e = .returned (.slice q 0 0) ∧ Below w.heap.size w w') : Sound P nm f (A.cloneZ m0) := by
 intro args σ r σ' h
 unfold A.cloneZ at h
 split at h
 ·simp only [Option.some.injEq, Prod.mk.injEq] at h
  obtain ⟨rfl, rfl⟩ := h
  refine ACalls.same hc fun c vs w hr => ?_
  obtain ⟨v, rfl, h1⟩ := repL1 hr
  simp only [Rep] at h1
  obtain ⟨a, cap, rfl, _⟩ := h1
  refine (hz _ _ w).mono ?_
  rintro e w' ⟨q, rfl, hb⟩
  exact ⟨_, rfl, hb, fun c' => by simp [Rep]⟩
 ·simp only [Option.some.injEq, Prod.mk.injEq] at h
  obtain ⟨rfl, rfl⟩ := h
  refine ACalls.same hc fun c vs w hr => ?_
  obtain ⟨v, rfl, h1⟩ := repL1 hr
  simp only [Rep] at h1
  subst h1
  refine (hz _ _ w).mono ?_
  rintro e w' ⟨q, rfl, hb⟩
  exact ⟨_, rfl, hb, fun c' => by simp [Rep]⟩
 ·simp only [Option.some.injEq, Prod.mk.injEq] at h
  obtain ⟨rfl, rfl⟩ := h
  refine ACalls.same hc fun c vs w hr => ?_
  obtain ⟨v, rfl, h1⟩ := repL1 hr
  simp only [Rep] at h1
  obtain ⟨a, rfl⟩ := h1
  refine (hz _ _ w).mono ?_
  rintro e w' ⟨q, rfl, hb⟩
  exact ⟨_, rfl, hb, fun c' => by simp [Rep]⟩
 ·simp only [Option.some.injEq, Prod.mk.injEq] at h
  obtain ⟨rfl, rfl⟩ := h
  refine ACalls.same hc fun c vs w hr => ?_
  obtain ⟨v, rfl, h1⟩ := repL1 hr
  simp only [Rep] at h1
  obtain ⟨_, p, _, _, a, cap, rfl, _⟩ := h1
  refine (hz _ _ w).mono ?_
  rintro e w' ⟨q, rfl, hb⟩
  exact ⟨_, rfl, hb, fun c' => by simp [Rep]⟩
 ·exact h0 _ _ _ _ h
theorem nil_run {P : Program} {t e : TypeId} (ht : P.underlying t = some (.slice e)) (a : Option Addr) (n m : Nat) (w : World) : Sem.run P (binOp .eql t (.slice a n m) (.slice none 0 0)) w = .ok (.bool a.isNone) w := by
 simp [binOp, show (Op.equal t (.slice a n m) (.slice none 0 0)).run P w = .ok a.isNone w from sl_nil w 9999 t a n m ht]
theorem cz_int (a : Option Addr) (cap : Nat) (w : World) : Calls Tryd.prog 61 #[.slice a 0 cap] w fun e w' => ∃ q, e = .returned (.slice q 0 0) ∧ Below w.heap.size w w' := by
 go_enter Tryd.func61, Tryd.ntmps61
 cases a
 ·go_wp2_with (simp only [nil_run (Tryd.underlying36), Option.isNone_none, Result.andThen_ok])
  go_ret
  exact ⟨_, rfl, Below.refl _ _⟩
 ·go_wp2_with (simp only [nil_run (Tryd.underlying36), Option.isNone_some, Result.andThen_ok])
  go_ret
  exact ⟨_, rfl, (Below.refl _ _).alloc (Nat.le_refl _) _⟩
end Go.Proofs.YtkdafecbdncmiaaDoor

namespace Go.Proofs.YtkdafecbdncmiaaDoor
set_option linter.unusedSectionVars false
set_option linter.unusedSimpArgs false
open Go.RowKit Go.Sort
set_option linter.unusedVariables false
theorem ACalls.tab {P : Program} {nm : List Nat} {f : FuncId} {args : List AV} {σ : Heap} {r : AV} (hc : ∀ us w, (callFunc f us).run P w = .ok (.enter f us) w)
  (h : ∀ (c : RC) (vs : Array Value) (w : World) (free : Nat → Prop), tabOk w free → RepL c args vs.toList → Calls P f vs w fun e w' => ∃ v, e = .returned v ∧ Below w.heap.size w w' ∧ ∀ c', Rep c' r v) : ACalls P nm f args σ r σ := by
 refine .inl ⟨f, hc, fun z vs e1 e2 hh ha => (h _ vs z.w _ e2.tab ha).mono ?_⟩
 rintro e w' ⟨v, k1, k2, k3⟩
 have ho : Out z z.w z.E := ⟨rfl, rfl, rfl, Nat.le_refl _, fun _ _ _ => rfl, fun i p hp => .inr ⟨p, hp, rfl⟩, fun i p hp => ⟨p, hp, .inl rfl⟩, e2, fun p hp => hh.lt hp⟩
 exact ⟨v, z.E, k1, ho.grow k2, hh.mono (grow_ext k2) rfl (fun p hp => k2.block _ (hh.lt hp)), k3 _⟩
theorem s_strconv_Itoa : Sound Tryd.prog nmT 45 m_strconv_Itoa := by
 intro args σ r σ' h
 unfold m_strconv_Itoa A.ar1 at h
 split at h
 ·simp only at h
  split at h
  ·split at h
   ·rename_i hb
    simp only [Option.some.injEq, Prod.mk.injEq] at h
    obtain ⟨rfl, rfl⟩ := h
    refine ACalls.tab Tryd.call45 fun c vs w free ht hr => ?_
    obtain ⟨v, rfl, h1⟩ := repL1 hr
    simp only [Rep] at h1
    subst h1
    refine (Tryd.strconv_Itoa _ hb.1 hb.2 w ht.1).mono ?_
    rintro e w' ⟨rfl, j, os, rfl⟩
    exact ⟨_, rfl, ⟨rfl, rfl, rfl, by simp [grow, World.drewN], fun k hk => by simp [grow, World.drewN, Array.getElem?_append, hk]⟩, fun c' => by simp [Rep, itoaB]⟩
   ·cases h
  ·cases h
 ·cases h
end Go.Proofs.YtkdafecbdncmiaaDoor

