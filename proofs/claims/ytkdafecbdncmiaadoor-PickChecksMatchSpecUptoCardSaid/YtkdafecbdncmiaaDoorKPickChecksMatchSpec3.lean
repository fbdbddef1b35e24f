/- Parts of the proof of PickChecksMatchSpec, in order. -/
import Derived.Orders
import Derived.Below
import Derived.WalkKit
import Derived.Test.YtkdafecbdncmiaaDoorRows
import Derived.Lib.LaidTab
import Derived.Lib.ItoaNum
import Derived.KernelRfl
import Derived.Laws.StructEq
import Derived.Laws.Append
import Derived.Laws.AppendOwn
import Derived.Lib.Bytealg
import Derived.Sort.Defs
import Derived.Lib.BitFns
import Derived.Lib.Strings
import Derived.Test.YtkdafecbdncmiaaDoorShelf
import Derived.IntWalk
import Derived.Test.YtkdafecbdncmiaaDoorKPickChecksMatchSpec2
namespace Go.Proofs.YtkdafecbdncmiaaDoor
set_option linter.unusedSectionVars false
open Go.RowKit
set_option linter.unusedVariables false
set_option linter.unusedSimpArgs false
section
variable {X : Fx} {z : Z} {s : AS} {a : Act} {w w' : World} {E : List Pl} {pb : Nat → Option Nat}
def resM (tmps : Array Value) : ResultVar → Sem Value
 | .tmp t => pure (tmps.getD t undef)
 | .cell a t => do loadVar t (← asAddr (tmps.getD a undef))
theorem resA_run (h : St X z s a w E pb) {R : Type} : ∀ (rs : List ResultVar) (k : List AV → Option R) (r : R), resA X s rs k = some r → ∃ vs avs, (rs.mapM (resM a.tmps)).run X.P w = .ok vs w ∧ RepL (ctx z w E pb) avs vs ∧ k avs = some r
 | [], k, r, hk => ⟨[], [], by simp, by simp [RepL], hk⟩
 | .tmp t :: rs, k, r, hk => by
  simp only [resA] at hk
  obtain ⟨vs, avs, h1, h2, h3⟩ := resA_run h rs _ r hk
  refine ⟨a.tmps.getD t undef :: vs, ev X s (.tmp t) :: avs, ?_, by simp only [RepL]; exact ⟨_, _, rfl, ev_rep h (.tmp t), h2⟩, h3⟩
  simp only [List.mapM_cons, Sem.run_bind, resM, Sem.run_pure, Result.andThen_ok, h1]
 | .cell q t :: rs, k, r, hk => by
  simp only [resA] at hk
  have fin : ∀ (v : Value) (av : AV), (resM a.tmps (.cell q t)).run X.P w = .ok v w → Rep (ctx z w E pb) av v → resA X s rs (fun vs => k (av :: vs)) = some r → ∃ vs avs, ((ResultVar.cell q t :: rs).mapM (resM a.tmps)).run X.P w = .ok vs w ∧ RepL (ctx z w E pb) avs vs ∧ k avs = some r := by
   intro v av hv hr hk
   obtain ⟨vs, avs, h1, h2, h3⟩ := resA_run h rs _ r hk
   refine ⟨v :: vs, av :: avs, ?_, by simp only [RepL]; exact ⟨_, _, rfl, hr, h2⟩, h3⟩
   simp only [List.mapM_cons, Sem.run_bind, hv, Sem.run_pure, Result.andThen_ok, h1]
  split at hk
  ·rename_i b off hp
   obtain ⟨av, e1, e2⟩ := Option.bind_eq_some_iff.1 hk
   obtain ⟨cs, e3, e4⟩ := Option.bind_eq_some_iff.1 e1
   obtain ⟨n, k1, k2, k3, k4⟩ := place_rep h (tag := none) trivial hp e3
   obtain ⟨v, j1, j2⟩ := partT_load (c := ctx z w E pb) w X rfl k3.2 e4
   rw [Nat.zero_add] at j1
   simp only [Act.eval] at k2
   exact fin v av (by simp [resM, k2, asAddr, j1]) j2 e2
  ·obtain ⟨av, e1, e2⟩ := Option.bind_eq_some_iff.1 hk
   obtain ⟨cs, e3, e4⟩ := Option.bind_eq_some_iff.1 e1
   obtain ⟨b, off, k2, k3⟩ := deref_rep h.heap e3 (ev_rep h (.tmp q))
   obtain ⟨v, j1, j2⟩ := partT_load (c := ctx z w E pb) w X rfl k3 e4
   rw [Nat.add_zero] at j1
   simp only [Act.eval] at k2
   exact fin v av (by simp [resM, k2, asAddr, j1]) j2 e2
theorem results_run {P : Program} {fn : Func} {tmps : Array Value} {vs : List Value} (h : (fn.results.toList.mapM (resM tmps)).run P w = .ok vs w) : ∃ v, (results fn tmps).run P w = .ok v w ∧ ∀ (c : RC) (avs : List AV), RepL c avs vs → Rep c (one avs) v := by
 have e : results fn tmps = (do let vs ← fn.results.mapM (resM tmps); pure (if h : vs.size = 1 then vs[0] else .tuple vs)) := by
  unfold results
  congr 1
 have hm : (fn.results.mapM (resM tmps)).run P w = .ok vs.toArray w := by
  rw [Array.mapM_eq_mapM_toList, Sem.run_map, h]; rfl
 have hrun : (results fn tmps).run P w = .ok (if h : vs.toArray.size = 1 then vs.toArray[0] else .tuple vs.toArray) w := by
  rw [e, Sem.run_bind, hm]; rfl
 refine ⟨_, hrun, fun c avs r => ?_⟩
 match avs, vs, r with
 | [x], [v], r => simp only [RepL] at r; obtain ⟨v', _, e', r1, rfl⟩ := r; injection e' with e1 _; subst e1; simpa [one] using r1
 | [], [], r => simp only [one, Rep]; exact ⟨#[], by simp, by simp [RepL]⟩
 | x :: y :: xs, v :: u :: us, r => simp only [one, Rep]; exact ⟨(v :: u :: us).toArray, by simp, by simpa using r⟩
 | [_], _ :: _ :: _, r => exact absurd r.length (by simp)
 | _ :: _ :: _, [_], r => exact absurd r.length (by simp)
 | [], _ :: _, r => exact absurd r.length (by simp)
 | _ :: _, [], r => exact absurd r.length (by simp)
end
section
variable {c c' : RC} {σ : Heap} {n : Nat}
structure Cold (c c' : RC) (σ : Heap) (n : Nat) : Prop where
 w : c'.w = c.w
 nm : c'.nm = c.nm
 X : ∀ b, c'.X b → c.X b
 E : ∀ (id : Nat) (p : Pl), id < n → c.E[id]? = some p → c'.E[id]? = some p
 heap : HeapRel c σ
 cold : ∀ (id : Nat) (p : Pl), n ≤ id → c.E[id]? = some p → ¬ c'.X p.b
theorem frzL_len (d : Nat) : ∀ (l l' : List AV), A.frzL σ n d l = some l' → l'.length = l.length
 | [], l', e => by simp only [A.frzL] at e; injection e with e; subst e; rfl
 | x :: l, l', e => by
  simp only [A.frzL] at e
  obtain ⟨y, h1, h2⟩ := Option.bind_eq_some_iff.1 e
  obtain ⟨l2, h3, rfl⟩ := Option.map_eq_some_iff.1 h2
  simp [frzL_len d l l2 h3]
theorem frzLL_len (d : Nat) : ∀ (l l' : List (List AV)), A.frzLL σ n d l = some l' → l'.length = l.length
 | [], l', e => by simp only [A.frzLL] at e; injection e with e; subst e; rfl
 | x :: l, l', e => by
  simp only [A.frzLL] at e
  obtain ⟨y, h1, h2⟩ := Option.bind_eq_some_iff.1 e
  obtain ⟨l2, h3, rfl⟩ := Option.map_eq_some_iff.1 h2
  simp [frzLL_len d l l2 h3]
theorem frzLL_eq (d : Nat) : ∀ (l : List (List AV)), A.frzLL' σ n d l = A.frzLL σ n d l
 | [] => by simp [A.frzLL, A.frzLL']
 | x :: l => by simp [A.frzLL, A.frzLL', frzLL_eq d l]
def isOwn : AV → Bool
 | .os .. => true
 | .op .. => true
 | .oe .. => true
 | .om .. => true
 | _ => false
theorem frzL_eq (d : Nat) : ∀ (l : List AV), A.frzL' σ n d l = A.frzL σ n d l
 | [] => by simp [A.frzL, A.frzL']
 | x :: l => by simp [A.frzL, A.frzL', frzL_eq d l]
theorem frzM_eq (d : Nat) : ∀ (l : List (AV × AV)), A.frzM' σ n d l = A.frzM σ n d l
 | [] => by simp [A.frzM, A.frzM']
 | (k, v) :: l => by simp [A.frzM, A.frzM', frzM_eq d l]
theorem frz_key (d : Nat) (m : Int) (s : ByteArray) : A.frz σ n d (.agg [.int .i64 m, .str s]) = some (.agg [.int .i64 m, .str s]) := by
 cases d <;> simp [A.frz, A.frzL]
theorem frzM_keys {d : Nat} : ∀ {es es' : List (AV × AV)}, (∀ p ∈ es, ∃ m s, p.1 = .agg [.int .i64 m, .str s]) → A.frzM σ n d es = some es' → es'.map (·.1) = es.map (·.1)
 | [], es', _, h => by simp only [A.frzM] at h; injection h with h; subst h; rfl
 | (k, v) :: r, es', hk, h => by
  simp only [A.frzM] at h
  obtain ⟨m, s, e⟩ := hk (k, v) List.mem_cons_self
  simp only at e
  subst e
  rw [frz_key] at h
  simp only [Option.bind_some] at h
  obtain ⟨v', h1, h2⟩ := Option.bind_eq_some_iff.1 h
  obtain ⟨r', h3, rfl⟩ := Option.map_eq_some_iff.1 h2
  simp only [List.map_cons, frzM_keys (fun p hp => hk p (List.mem_cons_of_mem _ hp)) h3]
theorem frzM_dist {d : Nat} {es es' : List (AV × AV)} (hd : DistK es) (h : A.frzM σ n d es = some es') : DistK es' := by
 have e := frzM_keys hd.1 h
 refine ⟨fun p hp => ?_, by rw [e]; exact hd.2⟩
 have : p.1 ∈ es.map (·.1) := by rw [← e]; exact List.mem_map_of_mem hp
 obtain ⟨q, hq, e2⟩ := List.mem_map.1 this
 rw [← e2]
 exact hd.1 q hq
mutual
theorem frz_rep (h : Cold c c' σ n) (d : Nat) (hos : ∀ av av' v, isOwn av = true → A.frz σ n d av = some av' → Rep c av v → Rep c' av' v) : ∀ (av av' : AV) (v : Value), A.frz σ n d av = some av' → Rep c av v → Rep c' av' v
 | .undef, av', v, e, r => by cases d <;> simp [A.frz] at e
 | .int k m, av', v, e, r => by
  have : av' = .int k m := by cases d <;> simpa [A.frz] using e.symm
  subst this; simpa [Rep] using r
 | .bool b, av', v, e, r => by
  have : av' = .bool b := by cases d <;> simpa [A.frz] using e.symm
  subst this; simpa [Rep] using r
 | .str s, av', v, e, r => by
  have : av' = .str s := by cases d <;> simpa [A.frz] using e.symm
  subst this; simpa [Rep] using r
 | .nsl, av', v, e, r => by
  have : av' = .nsl := by cases d <;> simpa [A.frz] using e.symm
  subst this; simpa [Rep] using r
 | .ez, av', v, e, r => by
  have : av' = .ez := by cases d <;> simpa [A.frz] using e.symm
  subst this; simpa [Rep] using r
 | .np, av', v, e, r => by
  have : av' = .np := by cases d <;> simpa [A.frz] using e.symm
  subst this; simpa [Rep] using r
 | .nm, av', v, e, r => by
  have : av' = .nm := by cases d <;> simpa [A.frz] using e.symm
  subst this; simpa [Rep] using r
 | .nfn, av', v, e, r => by
  have : av' = .nfn := by cases d <;> simpa [A.frz] using e.symm
  subst this; simpa [Rep] using r
 | .agg cs, av', v, e, r => by
  have e' : (A.frzL σ n d cs).map .agg = some av' := by cases d <;> simpa [A.frz] using e
  obtain ⟨cs', h1, rfl⟩ := Option.map_eq_some_iff.1 e'
  simp only [Rep] at r ⊢
  obtain ⟨vs, e, r1, r2⟩ := r
  exact ⟨vs, e, frzL_rep h d hos cs cs' _ h1 r1, r2⟩
 | .tup cs, av', v, e, r => by
  have e' : (A.frzL σ n d cs).map .tup = some av' := by cases d <;> simpa [A.frz] using e
  obtain ⟨cs', h1, rfl⟩ := Option.map_eq_some_iff.1 e'
  simp only [Rep] at r ⊢
  obtain ⟨vs, e, r1⟩ := r
  exact ⟨vs, e, frzL_rep h d hos cs cs' _ h1 r1⟩
 | .sl sz es, av', v, e, r => by
  have e' : (A.frzLL σ n d es).map (.sl sz) = some av' := by cases d <;> simpa [A.frz] using e
  obtain ⟨es', h1, rfl⟩ := Option.map_eq_some_iff.1 e'
  simp only [Rep] at r ⊢
  obtain ⟨q, cap, e, k1, k2, r⟩ := r
  have hl : es'.length = es.length := frzLL_len d es es' h1
  refine ⟨q, cap, by rw [hl]; exact e, by rw [hl]; exact k1, k2, ?_⟩
  rcases r with r | ⟨b, off, e2, hb, hx, r⟩
  ·left; subst r; simpa using hl
  ·right; exact ⟨b, off, e2, by rw [h.w]; exact hb, fun k => hx (h.X b k), frzE_rep h d hos sz b es es' off h1 r⟩
 | .rp cs, av', v, e, r => by
  have e' : (A.frzL σ n d cs).map .rp = some av' := by cases d <;> simpa [A.frz] using e
  obtain ⟨cs', h1, rfl⟩ := Option.map_eq_some_iff.1 e'
  simp only [Rep] at r ⊢
  obtain ⟨b, off, e2, hb, hx, r⟩ := r
  exact ⟨b, off, e2, by rw [h.w]; exact hb, fun k => hx (h.X b k), frzC_rep h d hos b cs cs' off h1 r⟩
 | .fm es, av', v, e, r => by
  have e' : (A.frzM σ n d es).map .fm = some av' := by cases d <;> simpa [A.frz] using e
  obtain ⟨es', h1, rfl⟩ := Option.map_eq_some_iff.1 e'
  simp only [Rep] at r ⊢
  obtain ⟨b, e2, hb, hx, ents, clock, k1, kw, l, k2, k3⟩ := r
  exact ⟨b, e2, by rw [h.w]; exact hb, fun k => hx (h.X b k), ents, clock, by rw [h.w]; exact k1, kw, l, frzM_rep h d hos es es' _ h1 k2, k3.imp_right fun q => ⟨q.1, frzM_dist q.2 h1⟩⟩
 | .op id off, av', v, e, r => hos _ av' v rfl e r
 | .oe id g i off, av', v, e, r => hos _ av' v rfl e r
 | .om id, av', v, e, r => hos _ av' v rfl e r
 | .fn f cs, av', v, e, r => by
  have e' : (A.frzL σ n d cs).map (.fn f) = some av' := by cases d <;> simpa [A.frz] using e
  obtain ⟨cs', h1, rfl⟩ := Option.map_eq_some_iff.1 e'
  simp only [Rep] at r ⊢
  obtain ⟨g, vs, e, k, r1⟩ := r
  exact ⟨g, vs, e, by rw [h.nm]; exact k, frzL_rep h d hos cs cs' _ h1 r1⟩
 | .lbx cs, av', v, e, r => by cases d <;> simp [A.frz] at e
 | .os id g sz off len, av', v, e, r => hos _ av' v rfl e r
theorem frzL_rep (h : Cold c c' σ n) (d : Nat) (hos : ∀ av av' v, isOwn av = true → A.frz σ n d av = some av' → Rep c av v → Rep c' av' v) : ∀ (l l' : List AV) (vs : List Value), A.frzL σ n d l = some l' → RepL c l vs → RepL c' l' vs
 | [], l', vs, e, r => by simp only [A.frzL] at e; injection e with e; subst e; simpa [RepL] using r
 | x :: l, l', vs, e, r => by
  simp only [A.frzL] at e
  obtain ⟨y, h1, h2⟩ := Option.bind_eq_some_iff.1 e
  obtain ⟨l2, h3, rfl⟩ := Option.map_eq_some_iff.1 h2
  simp only [RepL] at r ⊢
  obtain ⟨v, vs', e, r1, r2⟩ := r
  exact ⟨v, vs', e, frz_rep h d hos x y v h1 r1, frzL_rep h d hos l l2 vs' h3 r2⟩
theorem frzM_rep (h : Cold c c' σ n) (d : Nat) (hos : ∀ av av' v, isOwn av = true → A.frz σ n d av = some av' → Rep c av v → Rep c' av' v) : ∀ (l l' : List (AV × AV)) (es : List MapEntry), A.frzM σ n d l = some l' → RepM c l es → RepM c' l' es
 | [], l', es, e, r => by simp only [A.frzM] at e; injection e with e; subst e; simpa [RepM] using r
 | (k, v) :: l, l', es, e, r => by
  simp only [A.frzM] at e
  obtain ⟨k', h1, h2⟩ := Option.bind_eq_some_iff.1 e
  obtain ⟨v', h3, h4⟩ := Option.bind_eq_some_iff.1 h2
  obtain ⟨l2, h5, rfl⟩ := Option.map_eq_some_iff.1 h4
  simp only [RepM] at r ⊢
  obtain ⟨x, es', e, r1, r2, r3⟩ := r
  exact ⟨x, es', e, frz_rep h d hos k k' _ h1 r1, frz_rep h d hos v v' _ h3 r2, frzM_rep h d hos l l2 es' h5 r3⟩
theorem frzC_rep (h : Cold c c' σ n) (d : Nat) (hos : ∀ av av' v, isOwn av = true → A.frz σ n d av = some av' → Rep c av v → Rep c' av' v) (b : Nat) : ∀ (l l' : List AV) (off : Nat), A.frzL σ n d l = some l' → RepCs c b off l → RepCs c' b off l'
 | [], l', off, e, r => by simp only [A.frzL] at e; injection e with e; subst e; simp [RepCs]
 | x :: l, l', off, e, r => by
  simp only [A.frzL] at e
  obtain ⟨y, h1, h2⟩ := Option.bind_eq_some_iff.1 e
  obtain ⟨l2, h3, rfl⟩ := Option.map_eq_some_iff.1 h2
  simp only [RepCs] at r ⊢
  obtain ⟨⟨v, e1, e2, r1⟩, r2⟩ := r
  exact ⟨⟨v, by rw [h.w]; exact e1, e2, frz_rep h d hos x y v h1 r1⟩, frzC_rep h d hos b l l2 (off + 1) h3 r2⟩
theorem frzE_rep (h : Cold c c' σ n) (d : Nat) (hos : ∀ av av' v, isOwn av = true → A.frz σ n d av = some av' → Rep c av v → Rep c' av' v) (sz b : Nat) : ∀ (l l' : List (List AV)) (off : Nat), A.frzLL σ n d l = some l' → RepEs c sz b off l → RepEs c' sz b off l'
 | [], l', off, e, r => by simp only [A.frzLL] at e; injection e with e; subst e; simp [RepEs]
 | x :: l, l', off, e, r => by
  simp only [A.frzLL] at e
  obtain ⟨y, h1, h2⟩ := Option.bind_eq_some_iff.1 e
  obtain ⟨l2, h3, rfl⟩ := Option.map_eq_some_iff.1 h2
  simp only [RepEs] at r ⊢
  exact ⟨by rw [frzL_len d x y h1]; exact r.1, frzC_rep h d hos b x y off h1 r.2.1, frzE_rep h d hos sz b l l2 (off + sz) h3 r.2.2⟩
end
structure Eld (c0 c c' : RC) : Prop where
 w : c'.w = c.w
 nm : c'.nm = c.nm
 X : ∀ b, c'.X b → c.X b
 E : ∀ (id : Nat) (p0 p : Pl), c0.E[id]? = some p0 → c.E[id]? = some p → c'.E[id]? = some p
mutual
theorem eld_rep {c0 c c' : RC} (h : Eld c0 c c') : ∀ (av : AV) (v0 v : Value), Rep c0 av v0 → Rep c av v → Rep c' av v
 | .undef, v0, v, r0, r => by simp [Rep]
 | .int k m, v0, v, r0, r => by simpa [Rep] using r
 | .bool b, v0, v, r0, r => by simpa [Rep] using r
 | .str s, v0, v, r0, r => by simpa [Rep] using r
 | .nsl, v0, v, r0, r => by simpa [Rep] using r
 | .ez, v0, v, r0, r => by simpa [Rep] using r
 | .np, v0, v, r0, r => by simpa [Rep] using r
 | .nm, v0, v, r0, r => by simpa [Rep] using r
 | .fm es, v0, v, r0, r => by
  simp only [Rep] at r0 r ⊢
  obtain ⟨_, _, _, _, _, _, _, _, _, r0, _⟩ := r0
  obtain ⟨b, e, hb, hx, ents, clock, k1, kw, l, k2, k3⟩ := r
  exact ⟨b, e, by rw [h.w]; exact hb, fun k => hx (h.X b k), ents, clock, by rw [h.w]; exact k1, kw, l, eldM_rep h es _ _ r0 k2, k3⟩
 | .nfn, v0, v, r0, r => by simpa [Rep] using r
 | .agg cs, v0, v, r0, r => by
  simp only [Rep] at r0 r ⊢
  obtain ⟨vs0, _, r01, _⟩ := r0
  obtain ⟨vs, e, r1, r2⟩ := r
  exact ⟨vs, e, eldL_rep h cs _ _ r01 r1, r2⟩
 | .tup cs, v0, v, r0, r => by
  simp only [Rep] at r0 r ⊢
  obtain ⟨vs0, _, r01⟩ := r0
  obtain ⟨vs, e, r1⟩ := r
  exact ⟨vs, e, eldL_rep h cs _ _ r01 r1⟩
 | .sl sz es, v0, v, r0, r => by
  simp only [Rep] at r0 r ⊢
  obtain ⟨_, _, _, _, _, r0⟩ := r0
  obtain ⟨q, cap, e, k1, k2, r⟩ := r
  refine ⟨q, cap, e, k1, k2, ?_⟩
  rcases r with r | ⟨b, off, e2, hb, hx, r⟩
  ·exact .inl r
  ·rcases r0 with r0 | ⟨b0, off0, _, _, _, r0⟩
   ·exact .inl r0
   ·exact .inr ⟨b, off, e2, by rw [h.w]; exact hb, fun k => hx (h.X b k), eldE_rep h sz b0 b es off0 off r0 r⟩
 | .rp cs, v0, v, r0, r => by
  simp only [Rep] at r0 r ⊢
  obtain ⟨b0, off0, _, _, _, r0⟩ := r0
  obtain ⟨b, off, e2, hb, hx, r⟩ := r
  exact ⟨b, off, e2, by rw [h.w]; exact hb, fun k => hx (h.X b k), eldC_rep h b0 b cs off0 off r0 r⟩
 | .op id off, v0, v, r0, r => by
  simp only [Rep] at r0 r ⊢
  obtain ⟨p0, e0, _⟩ := r0
  obtain ⟨p, e1, e2, e3⟩ := r
  exact ⟨p, h.E id p0 p e0 e1, e2, e3⟩
 | .oe id g i off, v0, v, r0, r => by
  simp only [Rep] at r0 r ⊢
  obtain ⟨_, p0, e0, _⟩ := r0
  obtain ⟨hg, p, e1, e2⟩ := r
  exact ⟨hg, p, h.E id p0 p e0 e1, e2⟩
 | .os id g sz off len, v0, v, r0, r => by
  simp only [Rep] at r0 r ⊢
  obtain ⟨_, p0, e0, _⟩ := r0
  obtain ⟨hg, p, e1, e2⟩ := r
  exact ⟨hg, p, h.E id p0 p e0 e1, e2⟩
 | .om id, v0, v, r0, r => by
  simp only [Rep] at r0 r ⊢
  obtain ⟨p0, e0, _⟩ := r0
  obtain ⟨p, e1, e2, e3⟩ := r
  exact ⟨p, h.E id p0 p e0 e1, e2, e3⟩
 | .fn f cs, v0, v, r0, r => by
  simp only [Rep] at r0 r ⊢
  obtain ⟨_, _, _, _, r0⟩ := r0
  obtain ⟨g, vs, e1, e2, r⟩ := r
  exact ⟨g, vs, e1, by rw [h.nm]; exact e2, eldL_rep h cs _ _ r0 r⟩
 | .lbx cs, v0, v, r0, r => by simp [Rep] at r
theorem eldL_rep {c0 c c' : RC} (h : Eld c0 c c') : ∀ (l : List AV) (vs0 vs : List Value), RepL c0 l vs0 → RepL c l vs → RepL c' l vs
 | [], vs0, vs, r0, r => by simpa [RepL] using r
 | x :: l, vs0, vs, r0, r => by
  simp only [RepL] at r0 r ⊢
  obtain ⟨v0, us0, _, r01, r02⟩ := r0
  obtain ⟨v, us, e, r1, r2⟩ := r
  exact ⟨v, us, e, eld_rep h x _ _ r01 r1, eldL_rep h l _ _ r02 r2⟩
theorem eldM_rep {c0 c c' : RC} (h : Eld c0 c c') : ∀ (l : List (AV × AV)) (es0 es : List MapEntry), RepM c0 l es0 → RepM c l es → RepM c' l es
 | [], es0, es, r0, r => by simpa [RepM] using r
 | (k, v) :: l, es0, es, r0, r => by
  simp only [RepM] at r0 r ⊢
  obtain ⟨e0, es0', _, k1, k2, k3⟩ := r0
  obtain ⟨e, es', e1, j1, j2, j3⟩ := r
  exact ⟨e, es', e1, eld_rep h k _ _ k1 j1, eld_rep h v _ _ k2 j2, eldM_rep h l es0' es' k3 j3⟩
theorem eldC_rep {c0 c c' : RC} (h : Eld c0 c c') (b0 b : Nat) : ∀ (l : List AV) (off0 off : Nat), RepCs c0 b0 off0 l → RepCs c b off l → RepCs c' b off l
 | [], off0, off, r0, r => by simp [RepCs]
 | x :: l, off0, off, r0, r => by
  simp only [RepCs] at r0 r ⊢
  obtain ⟨⟨v0, _, _, r01⟩, r02⟩ := r0
  obtain ⟨⟨v, e1, e2, r1⟩, r2⟩ := r
  exact ⟨⟨v, by rw [h.w]; exact e1, e2, eld_rep h x _ _ r01 r1⟩, eldC_rep h b0 b l _ _ r02 r2⟩
theorem eldE_rep {c0 c c' : RC} (h : Eld c0 c c') (sz b0 b : Nat) : ∀ (l : List (List AV)) (off0 off : Nat), RepEs c0 sz b0 off0 l → RepEs c sz b off l → RepEs c' sz b off l
 | [], off0, off, r0, r => by simp [RepEs]
 | x :: l, off0, off, r0, r => by
  simp only [RepEs] at r0 r ⊢
  exact ⟨r.1, eldC_rep h b0 b x _ _ r0.2.1 r.2.1, eldE_rep h sz b0 b l _ _ r0.2.2 r.2.2⟩
end
theorem eldB_rep {c0 c c' : RC} (h : Eld c0 c c') {p0 p : Pl} {x : Blk} (k0 : BlkAt c0 p0 x) (k : BlkAt c p x) : BlkAt c' p x := by
 cases x with
 | box cs =>
  obtain ⟨h1, ⟨⟨arr, t, h2, h3⟩, h4⟩⟩ := k
  exact ⟨h1, ⟨arr, t, by rw [h.w]; exact h2, h3⟩, eldC_rep h _ _ cs _ _ k0.2.2 h4⟩
 | arr g sz es =>
  obtain ⟨h1, h2, h3, h4, ⟨arr, t, h5, h6⟩, h7, h8, h9⟩ := k
  obtain ⟨_, _, _, _, _, _, k8, _⟩ := k0
  exact ⟨h1, h2, h3, h4, ⟨arr, t, by rw [h.w]; exact h5, h6⟩, h7, eldE_rep h sz _ _ es _ _ k8 h8, fun arr t fz e => h9 arr t fz (by rw [← h.w]; exact e)⟩
 | arrF g sz es =>
  obtain ⟨h1, h2, h3, h4, ⟨arr, t, h5, h6⟩, h7, h8, h9⟩ := k
  obtain ⟨_, _, _, _, _, _, k8, _⟩ := k0
  exact ⟨h1, h2, h3, h4, ⟨arr, t, by rw [h.w]; exact h5, h6⟩, h7, eldE_rep h sz _ _ es _ _ k8 h8, fun arr t fz e => h9 arr t fz (by rw [← h.w]; exact e)⟩
 | map es =>
  obtain ⟨h1, ents, clock, h2, hw, h3⟩ := k
  obtain ⟨_, _, _, _, _, k3⟩ := k0
  exact ⟨h1, ents, clock, by rw [h.w]; exact h2, hw, eldM_rep h es _ _ k3 h3⟩
 | it cur left =>
  obtain ⟨h1, h2⟩ := k
  obtain ⟨_, k2⟩ := k0
  refine ⟨h1, ?_⟩
  rcases h2 with ⟨h2, h2', since, seen, last, h3⟩ | ⟨m, seen, ents, clock, h3, h4, h5, h6, h7, h8, h9⟩
  ·exact .inl ⟨h2, h2', since, seen, last, by rw [h.w]; exact h3⟩
  ·rcases k2 with ⟨q1, q2, _⟩ | ⟨m0, seen0, ents0, clock0, q3, q4, q5, q6, q7, q8, q9⟩
   ·refine .inr ⟨m, seen, ents, clock, by rw [h.w]; exact h3, by rw [h.w]; exact h4, fun k => h5 (h.X m k), by rw [h.w]; exact h6, h7, by rw [q2] at h8 ⊢; exact h8, .inl q1⟩
   ·refine .inr ⟨m, seen, ents, clock, by rw [h.w]; exact h3, by rw [h.w]; exact h4, fun k => h5 (h.X m k), by rw [h.w]; exact h6, h7, (by obtain ⟨l0, q8, _⟩ := q8; obtain ⟨l, h8, hp⟩ := h8; exact ⟨l, eldM_rep h left _ _ q8 h8, hp⟩), ?_⟩
    rcases h9 with h9 | ⟨kk, v, e, e1, e2, e3, e4, e5⟩
    ·exact .inl h9
    ·rcases q9 with q9 | ⟨kk', v', e', f1, f2, f3, f4, f5⟩
     ·exact .inl q9
     ·rw [e1] at f1
      simp only [List.cons.injEq, Prod.mk.injEq, and_true] at f1
      obtain ⟨rfl, rfl⟩ := f1
      exact .inr ⟨_, _, e, e1, e2, e3, eld_rep h _ _ _ f4 e4, eld_rep h _ _ _ f5 e5⟩
def genB : Blk → Nat
 | .arr g _ _ => g
 | .arrF g _ _ => g
 | _ => 0
theorem blk_gen {c : RC} {p : Pl} {x : Blk} (k : BlkAt c p x) : p.g = genB x := by cases x <;> exact k.1
theorem eldRows {c0 c c' : RC} (h : Eld c0 c c') (sz b : Nat) : ∀ (l : List (List AV)) (off : Nat), (∀ y ∈ l, ∃ b0 o0, RepCs c0 b0 o0 y) → RepEs c sz b off l → RepEs c' sz b off l
 | [], off, h0, r => by simp [RepEs]
 | x :: l, off, h0, r => by
  simp only [RepEs] at r ⊢
  obtain ⟨b0, o0, k⟩ := h0 x (by simp)
  exact ⟨r.1, eldC_rep h b0 b x _ _ k r.2.1, eldRows h sz b l _ (fun y hy => h0 y (by simp [hy])) r.2.2⟩
theorem rows_rep {c : RC} : ∀ {args : List AV} {vs : List Value}, RepL c args vs → ∀ y ∈ A.rowsOf args, ∃ b0 o0, RepCs c b0 o0 y
 | [], _, _, y, hy => by simp [A.rowsOf] at hy
 | a :: args, vs, h, y, hy => by
  simp only [RepL] at h
  obtain ⟨v, vs', rfl, h1, h2⟩ := h
  simp only [A.rowsOf, List.mem_append] at hy
  rcases hy with hy | hy
  ·cases a <;> simp only [List.not_mem_nil] at hy
   rename_i sz es
   simp only [Rep] at h1
   obtain ⟨a, cap, rfl, _, _, h3⟩ := h1
   rcases h3 with h3 | ⟨b, off, _, _, _, h4⟩
   ·rw [h3] at hy; cases hy
   ·obtain ⟨i, hi⟩ := List.mem_iff_getElem?.1 hy
    exact ⟨_, _, (RepEs.nth h4 hi).2⟩
  ·exact rows_rep h2 y hy
theorem frz_all (h : Cold c c' σ n) : ∀ (d : Nat) (av av' : AV) (v : Value), A.frz σ n d av = some av' → Rep c av v → Rep c' av' v
 | 0 => frz_rep h 0 (fun av av' v ho e r => by cases av <;> first | (simp [A.frz] at e; done) | (simp [isOwn] at ho; done))
 | d + 1 => frz_rep h (d + 1) (fun av av' v ho e r => match av, ho, e, r with
  | .op id off, _, e, r => by
   simp only [A.frz] at e
   simp only [Rep] at r
   obtain ⟨p, h1, h2, rfl⟩ := r
   split at e
   ·rename_i hlt
    injection e with e; subst e
    simp only [Rep]
    exact ⟨p, h.E id p hlt h1, h2, rfl⟩
   ·rename_i hge
    split at e
    ·rename_i cs hs
     obtain ⟨cs', e1, rfl⟩ := Option.map_eq_some_iff.1 e
     rw [frzL_eq] at e1
     obtain ⟨j1, ⟨⟨arr, t, j2, j3⟩, j4⟩⟩ := h.heap.blk id p _ h1 hs
     simp only [Rep]
     refine ⟨p.b, off, rfl, by rw [h.w]; exact (Array.getElem?_eq_some_iff.1 j2).1, h.cold id p (by omega) h1, ?_⟩
     have j5 := j4.drop off
     rw [Nat.zero_add] at j5
     exact frzC_rep h d (fun av av' v _ e r => frz_all h d _ _ _ e r) p.b _ cs' _ e1 j5
    ·cases e
  | .oe id g i off, _, e, r => by
   simp only [A.frz] at e
   simp only [Rep] at r
   obtain ⟨hg, p, h1, h2, a, rfl, h3⟩ := r
   split at e
   ·rename_i hlt
    injection e with e; subst e
    simp only [Rep]
    exact ⟨hg, p, h.E id p hlt h1, h2, a, rfl, h3⟩
   ·rename_i hge
    split at e
    ·rename_i g' sz' es hs
     split at e
     ·rename_i hc
      subst hc
      split at e
      ·rename_i el hel
       obtain ⟨cs', e1, rfl⟩ := Option.map_eq_some_iff.1 e
       rw [frzL_eq] at e1
       obtain ⟨j1, j2, j3, j4, ⟨arr, bt, j5, j6⟩, j7, j8, j9⟩ := h.heap.blk id p _ h1 hs
       have ha := h3 j1.symm
       subst ha
       simp only [Rep]
       refine ⟨p.b, _, rfl, by rw [h.w]; exact (Array.getElem?_eq_some_iff.1 j5).1, h.cold id p (by omega) h1, ?_⟩
       rw [j3]
       have j9 := (j8.nth hel).2.drop off
       exact frzC_rep h d (fun av av' v _ e r => frz_all h d _ _ _ e r) p.b _ cs' _ e1 j9
      ·cases e
     ·cases e
    ·cases e
  | .om id, _, e, r => by
   simp only [A.frz] at e
   simp only [Rep] at r
   obtain ⟨p, h1, h2, rfl⟩ := r
   split at e
   ·rename_i hlt
    injection e with e; subst e
    simp only [Rep]
    exact ⟨p, h.E id p hlt h1, h2, rfl⟩
   ·rename_i hge
    split at e
    ·rename_i es hs
     obtain ⟨es', e1, rfl⟩ := Option.map_eq_some_iff.1 e
     rw [frzM_eq] at e1
     obtain ⟨j1, ents, clock, j2, jw, j3⟩ := h.heap.blk id p _ h1 hs
     simp only [Rep]
     exact ⟨p.b, rfl, by rw [h.w]; exact (Array.getElem?_eq_some_iff.1 j2).1, h.cold id p (by omega) h1, ents, clock, by rw [h.w]; exact j2, jw, _, frzM_rep h d (fun av av' v _ e r => frz_all h d _ _ _ e r) _ es' _ e1 j3, .inl rfl⟩
    ·cases e
  | .os id g sz off len, _, e, r => by
   simp only [A.frz] at e
   simp only [Rep] at r
   obtain ⟨hg, p, h1, h2, q, cap, rfl, h3, r⟩ := r
   split at e
   ·rename_i hlt
    injection e with e; subst e
    simp only [Rep]
    exact ⟨hg, p, h.E id p hlt h1, h2, q, cap, rfl, h3, r⟩
   ·rename_i hge
    split at e
    ·rename_i g' sz' es hs
     split at e
     ·rename_i hc
      obtain ⟨rfl, rfl, hle⟩ := hc
      obtain ⟨es', e1, rfl⟩ := Option.map_eq_some_iff.1 e
      rw [frzLL_eq] at e1
      obtain ⟨j1, j2, j3, j4, ⟨arr, bt, j5, j6⟩, j7, j8, j9⟩ := h.heap.blk id p _ h1 hs
      obtain ⟨k1, k2, k3⟩ := r j1.symm
      have hl := frzLL_len d _ _ e1
      have hl2 : ((es.drop off).take len).length = len := by simp; omega
      simp only [Rep]
      refine ⟨some q, cap, by rw [hl, hl2], by rw [hl, hl2]; exact h3, j4, ?_⟩
      by_cases hz : len = 0
      ·left; apply List.eq_nil_of_length_eq_zero; rw [hl, hl2, hz]
      ·right
       have hq : q = ⟨p.b, p.base + off * p.sz, none⟩ := by
        rcases k2 with k2 | k2
        ·omega
        ·exact k2
       refine ⟨p.b, p.base + off * p.sz, by rw [hq], by rw [h.w]; exact (Array.getElem?_eq_some_iff.1 j5).1, h.cold id p (by omega) h1, ?_⟩
       refine frzE_rep h d (fun av av' v _ e r => frz_all h d _ _ _ e r) sz p.b _ es' _ e1 ?_
       rw [j3]
       exact (j8.drop off).take len
     ·cases e
    ·cases e)
end
section
variable {c c' : RC} {σ : Heap} {n : Nat}
theorem perm_rep2 {es es' : List (AV × AV)} (hp : es.Perm es') : ∀ {l : List MapEntry}, RepM c es l → ∃ l', RepM c es' l' ∧ l'.Perm l := by
 induction hp with
 | nil => intro l h; exact ⟨l, h, .refl _⟩
 | cons x _ ih =>
  intro l h
  obtain ⟨e, l1, rfl, h2, h3, h4⟩ := h
  obtain ⟨l', k1, k2⟩ := ih h4
  exact ⟨e :: l', ⟨_, _, rfl, h2, h3, k1⟩, k2.cons e⟩
 | swap x y l0 =>
  intro l h
  obtain ⟨e, l1, rfl, h2, h3, e', l2, rfl, h4, h5, h6⟩ := h
  exact ⟨e' :: e :: l2, ⟨_, _, rfl, h4, h5, _, _, rfl, h2, h3, h6⟩, .swap _ _ _⟩
 | trans _ _ ih1 ih2 =>
  intro l h
  obtain ⟨l1, k1, k2⟩ := ih1 h
  obtain ⟨l2, k3, k4⟩ := ih2 k1
  exact ⟨l2, k3, k4.trans k2⟩
theorem canM_spec (es : List (AV × AV)) : (A.canM es).Perm es := Classical.choose_spec (p := fun l : List (AV × AV) => l.Perm es) ⟨es, .refl _⟩
theorem can_rep {x : AV} {v : Value} (r : Rep c x v) : Rep c (A.can x) v := by
 cases x <;> try exact r
 case fm es =>
  unfold A.can
  simp only
  split
  ·rename_i hd
   simp only [Rep] at r ⊢
   obtain ⟨b, e, hb, hx, ents, clock, k1, kw, l, k2, k3⟩ := r
   have hp := canM_spec es
   obtain ⟨l', j1, j2⟩ := perm_rep2 hp.symm k2
   refine ⟨b, e, hb, hx, ents, clock, k1, kw, l', j1, .inr ⟨?_, ?_⟩⟩
   ·rcases k3 with rfl | ⟨k3, _⟩
    ·exact j2
    ·exact j2.trans k3
   ·exact ⟨fun p hp' => hd.1 p (hp.mem_iff.1 hp'), (hp.map _).nodup_iff.2 hd.2⟩
  ·exact r
theorem canCs_rep {b : Nat} : ∀ {l : List AV} {off : Nat}, RepCs c b off l → RepCs c b off (l.map A.can)
 | [], off, _ => by simp [RepCs]
 | x :: l, off, r => by
  simp only [List.map_cons, RepCs] at r ⊢
  obtain ⟨⟨v, h1, h2, h3⟩, h4⟩ := r
  exact ⟨⟨v, h1, h2, can_rep h3⟩, canCs_rep h4⟩
theorem canEs_rep {sz b : Nat} : ∀ {l : List (List AV)} {off : Nat}, RepEs c sz b off l → RepEs c sz b off (l.map (·.map A.can))
 | [], off, _ => by simp [RepEs]
 | x :: l, off, r => by
  simp only [List.map_cons, RepEs, List.length_map] at r ⊢
  exact ⟨r.1, canCs_rep r.2.1, canEs_rep r.2.2⟩
theorem frzB_rep (h : Cold c c' σ n) {p : Pl} {x x' : Blk} (e : A.frzB σ n x = some x') (k : BlkAt c p x) : BlkAt c' p x' := by
 have hos : ∀ av av' v, isOwn av = true → A.frz σ n 8 av = some av' → Rep c av v → Rep c' av' v := fun av av' v _ e r => frz_all h 8 _ _ _ e r
 cases x with
 | box cs =>
  obtain ⟨cs', e1, rfl⟩ := Option.map_eq_some_iff.1 e
  obtain ⟨h1, ⟨⟨arr, t, h2, h3⟩, h4⟩⟩ := k
  exact ⟨h1, ⟨arr, t, by rw [h.w]; exact h2, by rw [List.length_map, frzL_len 8 _ _ e1]; exact h3⟩, canCs_rep (frzC_rep h 8 hos _ _ _ _ e1 h4)⟩
 | arr g sz es =>
  obtain ⟨es', e1, rfl⟩ := Option.map_eq_some_iff.1 e
  obtain ⟨h1, h2, h3, h4, ⟨arr, t, h5, h6⟩, h7, h8, h9⟩ := k
  exact ⟨h1, h2, h3, h4, ⟨arr, t, by rw [h.w]; exact h5, h6⟩, by rw [List.length_map, frzLL_len 8 _ _ e1]; exact h7, canEs_rep (frzE_rep h 8 hos _ _ _ _ _ e1 h8), fun arr t fz e => h9 arr t fz (by rw [← h.w]; exact e)⟩
 | arrF g sz es =>
  obtain ⟨es', e1, rfl⟩ := Option.map_eq_some_iff.1 e
  obtain ⟨h1, h2, h3, h4, ⟨arr, t, h5, h6⟩, h7, h8, h9⟩ := k
  exact ⟨h1, h2, h3, h4, ⟨arr, t, by rw [h.w]; exact h5, h6⟩, by rw [List.length_map, frzLL_len 8 _ _ e1]; exact h7, canEs_rep (frzE_rep h 8 hos _ _ _ _ _ e1 h8), fun arr t fz e => h9 arr t fz (by rw [← h.w]; exact e)⟩
 | map es =>
  obtain ⟨es', e1, rfl⟩ := Option.map_eq_some_iff.1 e
  obtain ⟨h1, ents, clock, h2, hwf, h3⟩ := k
  exact ⟨h1, ents, clock, by rw [h.w]; exact h2, hwf, frzM_rep h 8 hos _ _ _ e1 h3⟩
 | it cur left => cases e
theorem frzBs_nth {n : Nat} : ∀ {τ0 τ1 τ : Heap}, A.frzBs σ n τ0 τ1 = some τ → τ.length = τ0.length ∧ τ0.length ≤ τ1.length ∧ ∀ (i : Nat) x, τ[i]? = some x → ∃ b b', τ0[i]? = some b ∧ τ1[i]? = some b' ∧ ((b' = b ∧ x = b) ∨ A.frzB σ n b' = some x)
 | [], τ1, τ, h => by simp only [A.frzBs] at h; injection h with h; subst h; simp
 | _ :: _, [], τ, h => by simp [A.frzBs] at h
 | b :: r, b' :: r', τ, h => by
  simp only [A.frzBs] at h
  obtain ⟨y, h1, h2⟩ := Option.bind_eq_some_iff.1 h
  obtain ⟨τ', h3, rfl⟩ := Option.map_eq_some_iff.1 h2
  obtain ⟨k1, k2, k3⟩ := frzBs_nth h3
  refine ⟨by simp [k1], by simp; omega, fun i x hi => ?_⟩
  cases i with
  | zero =>
   simp only [List.getElem?_cons_zero, Option.some.injEq] at hi
   subst hi
   refine ⟨b, b', rfl, rfl, ?_⟩
   split at h1
   ·rename_i e
    injection h1 with h1
    exact .inl ⟨e, h1.symm⟩
   ·exact .inr h1
  | succ i => exact k3 i x hi
end
section
variable {X : Fx}
def Back.Ok : Back → Prop
 | .N g => ∀ c a v, Rep c a v → Rep c (g a) v
 | _ => True
theorem runA_sound (hs : Snd X) {f : FuncId} {fn : Func} {keep : Back} (hkeep : keep.Ok) {ann : Ann} {args : List AV} {σ σ' : Heap} {r : AV} (hf : X.P.funcs[f]? = some fn) (hcall : ∀ aas w, (callFunc f aas).run X.P w = .ok (.enter f aas) w)
  (hr : runA X keep ann fn args σ = some (r, σ')) : ACalls X.P X.nm f args σ r σ' := by
 refine .inl ⟨f, hcall, fun z vs hnm hlt hh ha => ?_⟩
 unfold runA at hr
 cases hb : fn.body with
 | none => rw [hb] at hr; cases hr
 | some c =>
  rw [hb] at hr
  simp only at hr
  cases hc : (Nat.ble args.length fn.ntmps && X.n == fn.ntmps)
  ·rw [hc] at hr; cases hr
  ·rw [hc] at hr
   simp only [Bool.not_true, cond_false] at hr
   simp only [Bool.and_eq_true, beq_iff_eq] at hc
   obtain ⟨hc1, hc2⟩ := hc
   have hle : args.length ≤ fn.ntmps := Nat.le_of_ble_eq_true hc1
   have hal := ha.length
   have hal' : args.length = vs.size := by simpa using hal
   have hst : St X z ⟨args ++ List.replicate (fn.ntmps - args.length) (.tup []), fun _ => none, σ⟩ { tmps := vs ++ Array.replicate (fn.ntmps - vs.size) undef, defers := [] } z.w z.E nopb := by
    have hslot : ∀ i av, (args ++ List.replicate (fn.ntmps - args.length) (.tup []))[i]? = some av → Rep (ctx z z.w z.E nopb) av ((vs ++ Array.replicate (fn.ntmps - vs.size) undef).getD i undef) := by
     intro i av hi
     by_cases hlt' : i < args.length
     ·rw [List.getElem?_append_left hlt'] at hi
      obtain ⟨v, k1, k2⟩ := ha.nth hi
      have : (vs ++ Array.replicate (fn.ntmps - vs.size) undef).getD i undef = v := by
       rw [Array.getD_eq_getD_getElem?, Array.getElem?_append_left (by omega), ← Array.getElem?_toList, k1]; rfl
      rw [this]; exact k2
     ·rw [List.getElem?_append_right (by omega)] at hi
      have hm := List.mem_of_getElem? hi
      rw [List.mem_replicate] at hm
      rw [hm.2]
      have : (vs ++ Array.replicate (fn.ntmps - vs.size) undef).getD i undef = undef := by
       rw [Array.getD_eq_getD_getElem?, Array.getElem?_append_right (by omega), Array.getElem?_replicate]
       split <;> rfl
      rw [this]
      simp only [Rep]; exact ⟨#[], rfl, by simp [RepL]⟩
    refine ⟨by simp; omega, by simp; omega, fun i av hi => Slot.of (hslot i av hi), fun i cs hi => ?_, (fun t p hp => by cases hp), (fun i b hb => by cases hb), (fun i j b hb => by cases hb), hh, rfl, ?_, hnm.symm⟩
    ·have := hslot i _ hi; simp [Rep] at this
    ·exact ⟨rfl, rfl, rfl, Nat.le_refl _, fun _ _ _ => rfl, fun i p hp => .inr ⟨p, hp, rfl⟩, fun i p hp => ⟨p, hp, .inl rfl⟩, hlt, fun p hp => hh.lt hp⟩
   refine calls_of_wp hf hb (exec_wp hs c ann _ _ _ _ _ _ _ _ hr hst fun e s' a' w' E' pb' h' _ hk => ?_)
   have hno : Ext (ctx z w' E' pb') (ctx z w' E' nopb) := Ext.same rfl rfl (fun b k => by
    rcases k with k | k | ⟨i, k⟩
    ·exact .inl k
    ·exact .inr (.inl k)
    ·cases k) rfl
   have finF : ∀ (x : AV) (v : Value) (r : AV) (σ' : Heap), Rep (ctx z w' E' pb') x v → A.fin σ x s'.σ = some (r, σ') → ∃ E'', Out z w' E'' ∧ HeapRel (ctx z w' E'' nopb) σ' ∧ Rep (ctx z w' E'' nopb) r v := by
     intro x v r σ' rv k3
     unfold A.fin at k3
     split at k3
     ·rename_i he
      simp only [Option.some.injEq, Prod.mk.injEq] at k3
      obtain ⟨rfl, rfl⟩ := k3
      exact ⟨E', h'.out, by rw [← he]; exact h'.heap.mono hno rfl (fun p hp => rfl), Rep.mono hno _ _ rv⟩
     ·split at k3
      ·rename_i he
       obtain ⟨r', k6, k7⟩ := Option.map_eq_some_iff.1 k3
       simp only [Prod.mk.injEq] at k7
       obtain ⟨rfl, rfl⟩ := k7
       have hlen := h'.heap.len
       simp only [ctx] at hlen
       have hzl : z.E.length = σ.length := hh.len
       have hle2 : σ.length ≤ s'.σ.length := by
        have := congrArg List.length he
        simp at this; omega
       have htk : ∀ (id : Nat) (p : Pl), id < σ.length → E'[id]? = some p → (E'.take σ.length)[id]? = some p := fun id p hlt' hp => by rw [List.getElem?_take_of_lt hlt']; exact hp
       have htk2 : ∀ (id : Nat) (p : Pl), (E'.take σ.length)[id]? = some p → id < σ.length ∧ E'[id]? = some p := fun id p hp => by
        rw [List.getElem?_take] at hp
        split at hp
        ·exact ⟨by assumption, hp⟩
        ·cases hp
       have hcold : Cold (ctx z w' E' pb') (ctx z w' (E'.take σ.length) nopb) s'.σ σ.length := by
        refine ⟨rfl, rfl, fun b k => ?_, htk, h'.heap, fun id p hge hp k => ?_⟩
        ·rcases k with k | ⟨p, hp, k⟩ | ⟨i, k⟩
         ·exact .inl k
         ·exact .inr (.inl ⟨p, List.mem_of_mem_take hp, k⟩)
         ·cases k
        ·rcases k with k | ⟨q, hq, k⟩ | ⟨i, k⟩
         ·have hb := hlt _ k
          rcases h'.out.fresh' id p hp with e | ⟨q, hq, _⟩
          ·omega
          ·rw [List.getElem?_eq_none (by omega)] at hq; cases hq
         ·obtain ⟨j, hj, rfl⟩ := List.mem_iff_getElem.1 hq
          obtain ⟨h1, h2⟩ := htk2 j _ (List.getElem?_eq_getElem hj)
          have := h'.heap.inj j id _ p h2 hp k
          omega
         ·cases k
       have heq : ∀ (id : Nat), id < σ.length → σ[id]? = s'.σ[id]? := fun id hlt' => by
        have h1 : (List.take σ.length s'.σ)[id]? = s'.σ[id]? := List.getElem?_take_of_lt hlt'
        rw [he] at h1; exact h1
       have held : Eld (ctx z z.w z.E nopb) (ctx z w' E' pb') (ctx z w' (E'.take σ.length) nopb) :=
        ⟨rfl, rfl, hcold.X, fun id p0 p e0 e1 => htk id p (by have := (List.getElem?_eq_some_iff.1 e0).1; simp only [ctx] at this; omega) e1⟩
       refine ⟨E'.take σ.length, ?_, ?_, frz_all hcold 8 _ _ _ k6 rv⟩
       ·have o := h'.out
        exact ⟨o.os, o.tape, o.output, o.size, o.stay, fun i p hp => o.fresh' i p (htk2 i p hp).2, fun i p hp => by
         obtain ⟨p', m1, m2⟩ := o.env i p hp
         exact ⟨p', htk i p' (by have := (List.getElem?_eq_some_iff.1 hp).1; omega) m1, m2⟩, o.lt, o.mine⟩
       ·refine ⟨by simp only [ctx, List.length_take]; omega, fun i j p q hp hq e => h'.heap.inj i j p q (htk2 i p hp).2 (htk2 j q hq).2 e, fun i p x hp hx => ?_⟩
        obtain ⟨hi, hp2⟩ := htk2 i p hp
        have hz0 : z.E[i]? = some z.E[i] := List.getElem?_eq_getElem (by omega)
        exact eldB_rep held (hh.blk i _ x hz0 hx) (h'.heap.blk i p x hp2 (by rw [← heq i hi]; exact hx))
      ·cases k3
   have finG : ∀ (x : AV) (v : Value) (r : AV) (σ' : Heap), Rep (ctx z w' E' pb') x v → A.finG σ x s'.σ = some (r, σ') → ∃ E'', Out z w' E'' ∧ HeapRel (ctx z w' E'' nopb) σ' ∧ Rep (ctx z w' E'' nopb) r v := by
     intro x v r σ' rv k3
     unfold A.finG at k3
     obtain ⟨τ, q0, k4⟩ := Option.bind_eq_some_iff.1 k3
     obtain ⟨r', k6, k7⟩ := Option.map_eq_some_iff.1 k4
     simp only [Prod.mk.injEq] at k7
     obtain ⟨rfl, rfl⟩ := k7
     obtain ⟨q1, hle2, q3⟩ := frzBs_nth q0
     have hlen := h'.heap.len
     simp only [ctx] at hlen
     have hzl : z.E.length = σ.length := hh.len
     have htk : ∀ (id : Nat) (p : Pl), id < σ.length → E'[id]? = some p → (E'.take σ.length)[id]? = some p := fun id p hlt' hp => by rw [List.getElem?_take_of_lt hlt']; exact hp
     have htk2 : ∀ (id : Nat) (p : Pl), (E'.take σ.length)[id]? = some p → id < σ.length ∧ E'[id]? = some p := fun id p hp => by
      rw [List.getElem?_take] at hp
      split at hp
      ·exact ⟨by assumption, hp⟩
      ·cases hp
     have hcold : Cold (ctx z w' E' pb') (ctx z w' (E'.take σ.length) nopb) s'.σ σ.length := by
      refine ⟨rfl, rfl, fun b k => ?_, htk, h'.heap, fun id p hge hp k => ?_⟩
      ·rcases k with k | ⟨p, hp, k⟩ | ⟨i, k⟩
       ·exact .inl k
       ·exact .inr (.inl ⟨p, List.mem_of_mem_take hp, k⟩)
       ·cases k
      ·rcases k with k | ⟨q, hq, k⟩ | ⟨i, k⟩
       ·have hb := hlt _ k
        rcases h'.out.fresh' id p hp with e | ⟨q, hq, _⟩
        ·omega
        ·rw [List.getElem?_eq_none (by omega)] at hq; cases hq
       ·obtain ⟨j, hj, rfl⟩ := List.mem_iff_getElem.1 hq
        obtain ⟨h1, h2⟩ := htk2 j _ (List.getElem?_eq_getElem hj)
        have := h'.heap.inj j id _ p h2 hp k
        omega
       ·cases k
     have held : Eld (ctx z z.w z.E nopb) (ctx z w' E' pb') (ctx z w' (E'.take σ.length) nopb) :=
      ⟨rfl, rfl, hcold.X, fun id p0 p e0 e1 => htk id p (by have := (List.getElem?_eq_some_iff.1 e0).1; simp only [ctx] at this; omega) e1⟩
     refine ⟨E'.take σ.length, ?_, ?_, frz_all hcold 8 _ _ _ k6 rv⟩
     ·have o := h'.out
      exact ⟨o.os, o.tape, o.output, o.size, o.stay, fun i p hp => o.fresh' i p (htk2 i p hp).2, fun i p hp => by
       obtain ⟨p', m1, m2⟩ := o.env i p hp
       exact ⟨p', htk i p' (by have := (List.getElem?_eq_some_iff.1 hp).1; omega) m1, m2⟩, o.lt, o.mine⟩
     ·refine ⟨by simp only [ctx, List.length_take]; omega, fun i j p q hp hq e => h'.heap.inj i j p q (htk2 i p hp).2 (htk2 j q hq).2 e, fun i p x hp hx => ?_⟩
      obtain ⟨hi, hp2⟩ := htk2 i p hp
      obtain ⟨b, b', m1, m2, m3⟩ := q3 i x hx
      rcases m3 with ⟨rfl, rfl⟩ | m3
      ·have hz0 : z.E[i]? = some z.E[i] := List.getElem?_eq_getElem (by omega)
       exact eldB_rep held (hh.blk i _ x hz0 m1) (h'.heap.blk i p x hp2 m2)
      ·exact frzB_rep hcold m3 (h'.heap.blk i p b' hp2 m2)
   have done : ∀ (hk : resA X s' fn.results.toList (fun vs => keep.run args σ (one vs) s'.σ) = some (r, σ')),
     a'.defers = [] ∧ ∃ v, (results fn a'.tmps).run X.P w' = .ok v w' ∧ ∃ v' E', Ending.returned v = .returned v' ∧ Out z w' E' ∧ HeapRel (ctx z w' E' nopb) σ' ∧ Rep (ctx z w' E' nopb) r v' := by
    intro hk
    refine ⟨h'.defers, ?_⟩
    obtain ⟨us, avs, k1, k2, k3⟩ := resA_run h' _ _ _ hk
    obtain ⟨v, k4, k5⟩ := results_run k1
    have rv := k5 _ _ k2
    refine ⟨v, k4, v, ?_⟩
    have kept : ∃ E', Ending.returned v = .returned v ∧ Out z w' E' ∧ HeapRel (ctx z w' E' nopb) s'.σ ∧ Rep (ctx z w' E' nopb) (one avs) v :=
     ⟨E', rfl, h'.out, h'.heap.mono hno rfl (fun p hp => rfl), Rep.mono hno _ _ rv⟩
    cases keep with
    | K =>
     simp only [Back.run, Option.some.injEq, Prod.mk.injEq] at k3
     obtain ⟨rfl, rfl⟩ := k3
     exact kept
    | F =>
     obtain ⟨E'', q1, q2, q3⟩ := finF _ _ _ _ rv k3
     exact ⟨E'', rfl, q1, q2, q3⟩
    | G =>
     obtain ⟨E'', q1, q2, q3⟩ := finG _ _ _ _ rv k3
     exact ⟨E'', rfl, q1, q2, q3⟩
    | N g =>
     simp only [Back.run] at k3
     obtain ⟨⟨r0, σ0⟩, k6, k7⟩ := Option.map_eq_some_iff.1 k3
     simp only [Prod.mk.injEq] at k7
     obtain ⟨rfl, rfl⟩ := k7
     obtain ⟨E'', q1, q2, q3⟩ := finF _ _ _ _ rv k6
     exact ⟨E'', rfl, q1, q2, hkeep _ _ _ q3⟩
    | R =>
     simp only [Back.run] at k3
     obtain ⟨x, hx⟩ : ∃ x, x = one avs := ⟨_, rfl⟩
     rw [← hx] at rv k3 kept
     unfold A.renew at k3
     split at k3
     ·rename_i id g sz off len
      split at k3
      ·rename_i g' sz' es hs'
       split at k3
       ·rename_i hc
        obtain ⟨rfl, rfl, hle, hlt2⟩ := hc
        simp only [Rep] at rv
        obtain ⟨hg, p, e1, e2, qa, cp, rfl, hcap, rx⟩ := rv
        obtain ⟨j1, j2, j3, j4, ⟨arr, bt, j5, j6⟩, j7, j8, j9⟩ := h'.heap.blk id p _ e1 hs'
        obtain ⟨q1, q2, q3⟩ := rx j1.symm
        have hid : id < E'.length := (List.getElem?_eq_some_iff.1 e1).1
        have hdl : ((es.drop off).take len).length = len := by simp; omega
        have hmul : (off + len) * sz ≤ es.length * sz := Nat.mul_le_mul_right _ hle
        rw [Nat.add_mul] at hmul
        split at k3
        ·simp only [Option.some.injEq, Prod.mk.injEq] at k3
         obtain ⟨rfl, rfl⟩ := k3
         have hmv := h'.move (id := id) (p := p) (p' := ⟨p.b, p.base + off * sz, A.gen args + 1, sz, p.csz⟩) (w' := w') (blk := .arr (A.gen args + 1) sz ((es.drop off).take len)) e1
          ⟨by omega, by show p.g < A.gen args + 1; omega⟩ rfl rfl rfl (Nat.le_refl _) (fun b _ _ => rfl) (.inl rfl) (fun hx => by
           refine ⟨rfl, by show 0 < A.gen args + 1; omega, rfl, j4, ⟨arr, bt, j5, j6⟩, ?_, ?_, j9⟩
           ·rw [hdl]; show p.base + off * sz + len * sz ≤ p.csz; omega
           ·exact RepEs.mono hx sz p.b rfl _ _ ((j8.drop off).take len))
         have hno2 : Ext (ctx z w' (E'.set id ⟨p.b, p.base + off * sz, A.gen args + 1, sz, p.csz⟩) pb') (ctx z w' (E'.set id ⟨p.b, p.base + off * sz, A.gen args + 1, sz, p.csz⟩) nopb) := Ext.same rfl rfl (fun b k => by
          rcases k with k | k | ⟨i, k⟩
          ·exact .inl k
          ·exact .inr (.inl k)
          ·cases k) rfl
         refine ⟨_, rfl, hmv.1.out, hmv.1.heap.mono hno2 rfl (fun p hp => rfl), ?_⟩
         simp only [Rep]
         refine ⟨by omega, ⟨p.b, p.base + off * sz, A.gen args + 1, sz, p.csz⟩, by simp [ctx, hid], Nat.le_refl _, qa, cp, rfl, hcap, fun _ => ⟨rfl, ?_, ?_⟩⟩
         ·rcases q2 with q2 | q2
          ·exact .inl q2
          ·exact .inr (by rw [q2, q1]; simp)
         ·simp only [Nat.zero_add]
          rw [q1, Nat.add_mul] at q3; omega
        ·unfold A.merge at k3
         split at k3
         ·rename_i id0 g0 sz00 off0 len0 rest _ _ _
          split at k3
          ·rename_i g1 sz1 es1 hs0
           split at k3
           ·rename_i hcond
            obtain ⟨hidn, hlenn, rfl, hg1, hsame, hF, hseg⟩ := hcond
            simp only [Option.some.injEq, Prod.mk.injEq] at k3
            obtain ⟨rfl, rfl⟩ := k3
            have hzl : z.E.length = σ.length := hh.len
            have hEl : E'.length = s'.σ.length := h'.heap.len
            have hid0 : id0 < σ.length := (List.getElem?_eq_some_iff.1 hs0).1
            obtain ⟨pz, hpz⟩ : ∃ pz, z.E[id0]? = some pz := ⟨_, List.getElem?_eq_getElem (by omega)⟩
            obtain ⟨y1, y2, y3, y4, y5, y6, y7, y8⟩ := hh.blk id0 pz _ hpz hs0
            obtain ⟨p'', hp''⟩ : ∃ p'' : Pl, p'' = ⟨p.b, p.base + off * sz1, A.gen (.os id0 g0 sz00 off0 len0 :: rest) + 1, sz1, p.csz⟩ := ⟨_, rfl⟩
            have hne : id ≠ id0 := by omega
            have hgen0 : ∀ (j : Nat) (q p2 : Pl), j ≠ id0 → z.E[j]? = some q → E'[j]? = some p2 → p2 = q := by
             intro j q p2 hj hq hp2
             have hjl : j < σ.length := by rw [← hzl]; exact (List.getElem?_eq_some_iff.1 hq).1
             obtain ⟨p3, m1, m2⟩ := h'.out.env j q hq
             rw [hp2] at m1; injection m1 with m1; subst m1
             rcases m2 with m2 | ⟨m2, m3⟩
             ·exact m2
             ·have hsj := hsame j hjl hj
              have hx0 : σ[j]? = some σ[j] := List.getElem?_eq_getElem hjl
              have u1 := blk_gen (hh.blk j q _ hq hx0)
              have u2 := blk_gen (h'.heap.blk j p2 _ hp2 (by rw [hsj]; exact hx0))
              omega
            have hp0 : ∃ p0, E'[id0]? = some p0 := ⟨_, List.getElem?_eq_getElem (by omega)⟩
            obtain ⟨p0, hp0⟩ := hp0
            have hp0g : p0.g = g1 := blk_gen (h'.heap.blk id0 p0 _ hp0 hF)
            have hfr : z.w.heap.size ≤ p.b := by
             rcases h'.out.fresh' id p e1 with k | ⟨q, hq, _⟩
             ·exact k
             ·rw [List.getElem?_eq_none (by omega)] at hq; cases hq
            have hm : p ∈ E' := List.mem_of_getElem? e1
            have hx : Ext (ctx z w' E' pb') (ctx z w' (E'.set id0 p'') nopb) := by
             refine ⟨Nat.le_refl _, fun b hb hn => ⟨rfl, ?_⟩, fun j q hq => ?_, rfl⟩
             ·rintro (k | ⟨q, hq, k⟩ | ⟨i, k⟩)
              ·exact hn (.inl k)
              ·rcases List.mem_or_eq_of_mem_set hq with hq | hq
               ·exact hn (.inr (.inl ⟨q, hq, k⟩))
               ·exact hn (.inr (.inl ⟨p, hm, by rw [← k, hq, hp'']⟩))
              ·cases k
             ·by_cases e : id0 = j
              ·subst e
               simp only [ctx] at hq
               rw [hp0] at hq; injection hq with hq; subst hq
               exact ⟨p'', by simp only [ctx]; rw [List.getElem?_set_self (List.getElem?_eq_some_iff.1 hp0).1], .inr ⟨by omega, by rw [hp'']; show p0.g < A.gen (.os id0 g0 sz00 off0 len0 :: rest) + 1; omega⟩⟩
              ·exact ⟨q, by simp only [ctx] at hq ⊢; rw [List.getElem?_set_ne e]; exact hq, .inl rfl⟩
            have hE2 : ∀ (j : Nat) (q : Pl), (z.E.set id0 p'')[j]? = some q → (j = id0 ∧ q = p'') ∨ (j ≠ id0 ∧ z.E[j]? = some q) := fun j q hq => by
             by_cases e : id0 = j
             ·subst e; rw [List.getElem?_set_self (List.getElem?_eq_some_iff.1 hpz).1] at hq; injection hq with hq; exact .inl ⟨rfl, hq.symm⟩
             ·rw [List.getElem?_set_ne e] at hq; exact .inr ⟨fun e' => e e'.symm, hq⟩
            have hE3 : ∀ (j : Nat) (q : Pl), j ≠ id0 → z.E[j]? = some q → E'[j]? = some q := fun j q hj hq => by
             have hjl : j < z.E.length := (List.getElem?_eq_some_iff.1 hq).1
             obtain ⟨p3, m1, _⟩ := h'.out.env j q hq
             rw [m1, hgen0 j q p3 hj hq m1]
            have held : Eld (ctx z z.w z.E nopb) (ctx z w' (E'.set id0 p'') nopb) (ctx z w' (z.E.set id0 p'') nopb) := by
             refine ⟨rfl, rfl, fun b k => ?_, fun j q0 q hq0 hq => ?_⟩
             ·rcases k with k | ⟨q, hq, k⟩ | ⟨i, k⟩
              ·exact .inl k
              ·obtain ⟨j, hj⟩ := List.mem_iff_getElem?.1 hq
               rcases hE2 j q hj with ⟨e3, e4⟩ | ⟨e3, e4⟩
               ·subst e3; exact .inr (.inl ⟨q, List.mem_of_getElem? (i := j) (by rw [List.getElem?_set_self (List.getElem?_eq_some_iff.1 hp0).1, e4]), k⟩)
               ·exact .inr (.inl ⟨q, List.mem_of_getElem? (i := j) (by rw [List.getElem?_set_ne (fun e => e3 e.symm)]; exact hE3 j q e3 e4), k⟩)
              ·cases k
             ·simp only [ctx] at hq0 hq ⊢
              by_cases e : id0 = j
              ·subst e
               rw [List.getElem?_set_self (List.getElem?_eq_some_iff.1 hp0).1] at hq
               rw [List.getElem?_set_self (List.getElem?_eq_some_iff.1 hpz).1]; exact hq
              ·rw [List.getElem?_set_ne e] at hq ⊢
               rw [hgen0 j q0 q (fun e' => e e'.symm) hq0 hq]; exact hq0
            refine ⟨z.E.set id0 p'', rfl, ?_, ?_, ?_⟩
            ·have o := h'.out
             refine ⟨o.os, o.tape, o.output, o.size, o.stay, fun j q hq => ?_, fun j q hq => ?_, o.lt, o.mine⟩
             ·rcases hE2 j q hq with ⟨e3, e4⟩ | ⟨e3, e4⟩
              ·left; rw [e4, hp'']; exact hfr
              ·exact .inr ⟨q, e4, rfl⟩
             ·by_cases e : id0 = j
              ·subst e
               rw [hpz] at hq; injection hq with hq; subst hq
               exact ⟨p'', List.getElem?_set_self (List.getElem?_eq_some_iff.1 hpz).1, .inr ⟨by omega, by rw [hp'']; show pz.g < A.gen (.os id0 g0 sz00 off0 len0 :: rest) + 1; omega⟩⟩
              ·exact ⟨q, by rw [List.getElem?_set_ne e]; exact hq, .inl rfl⟩
            ·refine ⟨by simp [ctx, hzl], fun i j q r hq hr he => ?_, fun i q x hq hxx => ?_⟩
             ·have hlt0 : ∀ (j : Nat) (q : Pl), z.E[j]? = some q → q.b < z.w.heap.size := fun j q hq => hh.lt (p := q) (List.mem_of_getElem? hq)
              rcases hE2 i q hq with ⟨e3, e4⟩ | ⟨e3, e4⟩ <;> rcases hE2 j r hr with ⟨e5, e6⟩ | ⟨e5, e6⟩
              ·rw [e3, e5]
              ·have := hlt0 j r e6; rw [e4, hp''] at he; simp only at he; omega
              ·have := hlt0 i q e4; rw [e6, hp''] at he; simp only at he; omega
              ·exact hh.inj i j q r e4 e6 he
             ·rcases hE2 i q hq with ⟨e3, e4⟩ | ⟨e3, e4⟩
              ·subst e3
               rw [List.getElem?_set_self hid0] at hxx
               injection hxx with hxx
               subst hxx; subst e4; subst hp''
               refine ⟨rfl, Nat.succ_pos _, rfl, j4, ⟨arr, bt, j5, j6⟩, ?_, ?_, j9⟩
               ·rw [hdl]; show p.base + off * sz1 + len * sz1 ≤ p.csz; omega
               ·refine eldRows held sz1 p.b _ _ (fun y hy => ?_) (RepEs.mono hx sz1 p.b rfl _ _ ((j8.drop off).take len))
                rcases hseg y hy with k | k
                ·obtain ⟨i, hi⟩ := List.mem_iff_getElem?.1 k
                 exact ⟨_, _, (RepEs.nth y7 hi).2⟩
                ·exact rows_rep ha y k
              ·rw [List.getElem?_set_ne (fun e => e3 e.symm)] at hxx
               have hil : i < σ.length := (List.getElem?_eq_some_iff.1 hxx).1
               exact eldB_rep held (hh.blk i q x e4 hxx) ((h'.heap.blk i q x (hE3 i q e3 e4) (by rw [hsame i hil e3]; exact hxx)).mono hx rfl)
            ·simp only [Rep]
             refine ⟨Nat.succ_pos _, p'', by simp only [ctx]; exact List.getElem?_set_self (List.getElem?_eq_some_iff.1 hpz).1, by rw [hp'']; exact Nat.le_refl _, qa, cp, by rw [hdl], by rw [hdl]; exact hcap, fun _ => ⟨by rw [hp''], ?_, ?_⟩⟩
             ·rcases q2 with q2 | q2
              ·exact .inl q2
              ·exact .inr (by rw [q2, q1, hp'']; simp)
             ·rw [hp'']
              simp only [Nat.zero_add]
              rw [q1, Nat.add_mul] at q3; omega
           ·cases k3
          ·cases k3
         ·cases k3
       ·cases k3
      ·cases k3
     ·simp only [Option.some.injEq, Prod.mk.injEq] at k3
      obtain ⟨rfl, rfl⟩ := k3
      exact kept
     ·simp only [Option.some.injEq, Prod.mk.injEq] at k3
      obtain ⟨rfl, rfl⟩ := k3
      exact kept
     ·simp only [Option.some.injEq, Prod.mk.injEq] at k3
      obtain ⟨rfl, rfl⟩ := k3
      exact kept
     ·cases k3
   cases e with
   | normal => exact done hk
   | ret => exact done hk
   | exit i => cases hk
end
end Go.Proofs.YtkdafecbdncmiaaDoor

namespace Go.Proofs.YtkdafecbdncmiaaDoor
set_option linter.unusedSectionVars false
open Go.RowKit
set_option linter.unusedVariables false
set_option linter.unusedSimpArgs false

inductive Sh where
 | k
 | s (sz : Nat)
 | e (sz : Nat) (l : List Sh)
 | a (l : List Sh)
 | t (l : List Sh)
 | p (l : List Sh)
namespace A
set_option linter.unusedSectionVars false
mutual
def nn : Sh → AV → AV
 | .k, v => v
 | .s sz, v => match v with | .nsl => .sl sz [] | .ez => .sl sz [] | v => v
 | .e sz l, v => match v with | .nsl => .sl sz [] | .ez => .sl sz [] | .sl sz' es => .sl sz' (es.map (nnL l)) | v => v
 | .a l, v => match v with | .agg cs => .agg (nnL l cs) | v => v
 | .t l, v => match v with | .tup vs => .tup (nnL l vs) | v => v
 | .p l, v => match v with | .rp cs => .rp (nnL l cs) | v => v
def nnL : List Sh → List AV → List AV
 | [], vs => vs
 | s :: ss, vs => match vs with | [] => [] | v :: vs => nn s v :: nnL ss vs
end
def own1 : AV → Bool
 | .os .. => true
 | .op .. => true
 | .oe .. => true
 | .om .. => true
 | _ => false
def own : AV → Bool
 | .agg cs => cs.any own1
 | v => own1 v
def scal1 : AV → Bool
 | .int .. => true
 | .bool .. => true
 | .str .. => true
 | .np => true
 | .nsl => true
 | .ez => true
 | .nm => true
 | .nfn => true
 | .sl _ [] => true
 | _ => false
def scal2 : AV → Bool
 | .agg cs => cs.all scal1
 | v => scal1 v
def scal : AV → Bool
 | .tup vs => vs.all scal2
 | v => scal2 v
def fresh (v : AV) : Bool := match v with
 | .os .. => true
 | .om _ => true
 | v => scal2 v
def freshT : AV → Bool
 | .tup vs => vs.all fresh
 | v => fresh v
def freshB : Blk → Bool
 | .box cs => cs.all scal1
 | .arr _ _ es => es.all fun e => e.all scal1
 | .map es => es.all fun p => scal2 p.1 && scal2 p.2
 | _ => false
def shift (n : Nat) (v : AV) : AV := match v with
 | .os id g sz off len => .os (id + n) g sz off len
 | .om id => .om (id + n)
 | v => v
def shiftT (n : Nat) : AV → AV
 | .tup vs => .tup (vs.map (shift n))
 | v => shift n v
noncomputable def wrap (ro : Bool) (ain : List Sh) (rout : Sh) (r : List AV → Heap → Option (AV × Heap)) (args : List AV) (σ : Heap) : Option (AV × Heap) :=
 bif ro && args.any own then
  (frzL σ 0 8 args).bind fun args => (r (nnL ain args) []).bind fun q => bif freshT (nn rout q.1) && q.2.all freshB then some (shiftT σ.length (nn rout q.1), σ ++ q.2) else none
 else (r (nnL ain args) σ).map fun q => (nn rout q.1, q.2)
end A

def Sound (P : Program) (nm : List Nat) (f : FuncId) (m : List AV → Heap → Option (AV × Heap)) : Prop := ∀ args σ r σ', m args σ = some (r, σ') → ACalls P nm f args σ r σ'
section
variable {P : Program} {nm : List Nat} {f : FuncId} {c c' : RC}
theorem nsl_sl {v : Value} (sz : Nat) (hsz : 0 < sz) (h : Rep c .nsl v) : Rep c (.sl sz []) v := by
 simp only [Rep] at h ⊢
 subst h
 exact ⟨none, 0, rfl, Nat.le_refl _, hsz, .inl trivial⟩
theorem ez_sl {v : Value} (sz : Nat) (hsz : 0 < sz) (h : Rep c .ez v) : Rep c (.sl sz []) v := by
 simp only [Rep] at h ⊢
 obtain ⟨a, rfl⟩ := h
 exact ⟨a, 0, rfl, Nat.le_refl _, hsz, .inl trivial⟩
mutual
def Sh.ok : Sh → Bool
 | .k => true
 | .s sz => Nat.blt 0 sz
 | .e sz l => Nat.blt 0 sz && Sh.okL l
 | .a l => Sh.okL l
 | .t l => Sh.okL l
 | .p l => Sh.okL l
def Sh.okL : List Sh → Bool
 | [] => true
 | x :: l => x.ok && Sh.okL l
end
theorem nnL_len : ∀ (l : List Sh) (cs : List AV), (A.nnL l cs).length = cs.length
 | [], cs => by simp [A.nnL]
 | _ :: _, [] => by simp [A.nnL]
 | o :: l, v :: cs => by simp [A.nnL, nnL_len l cs]
mutual
theorem nn_rep : ∀ (s : Sh) (a : AV) (v : Value), s.ok = true → Rep c a v → Rep c (A.nn s a) v
 | .k, a, v, _, h => by simpa [A.nn] using h
 | .s sz, a, v, ho, h => by
  cases a <;> simp only [A.nn] <;> first | exact h | exact nsl_sl sz (by simpa [Sh.ok] using ho) h | exact ez_sl sz (by simpa [Sh.ok] using ho) h
 | .e sz l, a, v, ho, h => by
  simp only [Sh.ok, Bool.and_eq_true] at ho
  cases a <;> simp only [A.nn] <;> first | exact h | exact nsl_sl sz (by simpa using ho.1) h | exact ez_sl sz (by simpa using ho.1) h | skip
  simp only [Rep] at h ⊢
  obtain ⟨a, cap, e, h1, h2, h3⟩ := h
  refine ⟨a, cap, by rw [List.length_map]; exact e, by rw [List.length_map]; exact h1, h2, ?_⟩
  rcases h3 with h3 | ⟨b, off, e1, e2, e3, e4⟩
  ·left; rw [h3]; rfl
  ·right; exact ⟨b, off, e1, e2, e3, nnL_es l ho.2 _ _ e4⟩
 | .a l, a, v, ho, h => by
  simp only [Sh.ok] at ho
  cases a <;> simp only [A.nn] <;> first | exact h | skip
  simp only [Rep] at h ⊢
  obtain ⟨vs, e, h1, h2⟩ := h
  exact ⟨vs, e, nnL_rep l _ _ ho h1, h2⟩
 | .t ss, a, v, ho, h => by
  simp only [Sh.ok] at ho
  cases a <;> simp only [A.nn] <;> first | exact h | skip
  simp only [Rep] at h ⊢
  obtain ⟨vs, e, h1⟩ := h
  exact ⟨vs, e, nnL_rep ss _ _ ho h1⟩
 | .p l, a, v, ho, h => by
  simp only [Sh.ok] at ho
  cases a <;> simp only [A.nn] <;> first | exact h | skip
  simp only [Rep] at h ⊢
  obtain ⟨b, off, e, h1, h2, h3⟩ := h
  exact ⟨b, off, e, h1, h2, nnL_cs l _ _ ho h3⟩
theorem nnL_rep : ∀ (ss : List Sh) (l : List AV) (vs : List Value), Sh.okL ss = true → RepL c l vs → RepL c (A.nnL ss l) vs
 | [], l, vs, _, h => by simpa [A.nnL] using h
 | _ :: _, [], vs, _, h => by simpa [A.nnL] using h
 | s :: ss, a :: l, vs, ho, h => by
  simp only [Sh.okL, Bool.and_eq_true] at ho
  simp only [A.nnL, RepL] at h ⊢
  obtain ⟨v, vs', e, h1, h2⟩ := h
  exact ⟨v, vs', e, nn_rep s a v ho.1 h1, nnL_rep ss l vs' ho.2 h2⟩
theorem nnL_cs {b : Nat} : ∀ (l : List Sh) (cs : List AV) (off : Nat), Sh.okL l = true → RepCs c b off cs → RepCs c b off (A.nnL l cs)
 | [], cs, off, _, h => by simpa [A.nnL] using h
 | _ :: _, [], off, _, h => by simpa [A.nnL] using h
 | o :: l, a :: cs, off, ho, h => by
  simp only [Sh.okL, Bool.and_eq_true] at ho
  simp only [A.nnL, RepCs] at h ⊢
  obtain ⟨⟨v, h1, h2, h3⟩, h4⟩ := h
  exact ⟨⟨v, h1, h2, nn_rep o a v ho.1 h3⟩, nnL_cs l cs (off + 1) ho.2 h4⟩
theorem nnL_es {sz b : Nat} (l : List Sh) (hl : Sh.okL l = true) : ∀ (es : List (List AV)) (off : Nat), RepEs c sz b off es → RepEs c sz b off (es.map (A.nnL l))
 | [], off, h => by simp [RepEs]
 | e :: es, off, h => by
  simp only [List.map_cons, RepEs] at h ⊢
  exact ⟨by rw [nnL_len]; exact h.1, nnL_cs l e off hl h.2.1, nnL_es l hl es _ h.2.2⟩
end
theorem scal1_rep : ∀ {a : AV} {v : Value}, A.scal1 a = true → Rep c a v → Rep c' a v := by
 intro a v h r
 cases a <;> simp only [A.scal1] at h <;> first | (cases h; done) | skip
 case sl sz es =>
  cases es with
  | nil =>
   simp only [Rep] at r ⊢
   obtain ⟨q, cap, e, h1, h2, _⟩ := r
   exact ⟨q, cap, e, h1, h2, .inl trivial⟩
  | cons _ _ => simp at h
 all_goals simpa [Rep] using r
theorem scal1L_rep : ∀ {l : List AV} {vs : List Value}, l.all A.scal1 = true → RepL c l vs → RepL c' l vs
 | [], vs, _, r => by simpa [RepL] using r
 | a :: l, vs, h, r => by
  simp only [List.all_cons, Bool.and_eq_true] at h
  simp only [RepL] at r ⊢
  obtain ⟨v, vs', e, h1, h2⟩ := r
  exact ⟨v, vs', e, scal1_rep h.1 h1, scal1L_rep h.2 h2⟩
theorem scal2_rep {a : AV} {v : Value} (h : A.scal2 a = true) (r : Rep c a v) : Rep c' a v := by
 unfold A.scal2 at h
 split at h
 ·simp only [Rep] at r ⊢
  obtain ⟨vs, e, h1, h2⟩ := r
  exact ⟨vs, e, scal1L_rep h h1, h2⟩
 ·exact scal1_rep h r
theorem ACalls.conv {args args' : List AV} {σ σ' : Heap} {r r' : AV} (h : ACalls P nm f args' σ r σ') (ha : ∀ c vs, RepL c args vs → RepL c args' vs) (hr : ∀ c v, Rep c r v → Rep c r' v) : ACalls P nm f args σ r' σ' := by
 rcases h with ⟨g, h1, h2⟩ | h
 ·refine .inl ⟨g, h1, fun z vs e1 e2 e3 e4 => (h2 z vs e1 e2 e3 (ha _ _ e4)).mono ?_⟩
  rintro e w' ⟨v, E', k1, k2, k3, k4⟩
  exact ⟨v, E', k1, k2, k3, hr _ _ k4⟩
 ·refine .inr fun z vs e1 e2 e3 e4 => ?_
  obtain ⟨v, w', E', k1, k2, k3, k4⟩ := h z vs e1 e2 e3 (ha _ _ e4)
  exact ⟨v, w', E', k1, k2, k3, hr _ _ k4⟩
theorem shift_rep {z0 z : Z} {w' : World} {E' : List Pl} {n : Nat} (hn : n = z.E.length) {a : AV} {v : Value} (h : A.fresh a = true) (r : Rep (ctx z0 w' E' nopb) a v) : Rep (ctx z w' (z.E ++ E') nopb) (A.shift n a) v := by
 have key : ∀ (id : Nat) (p : Pl), E'[id]? = some p → (z.E ++ E')[id + n]? = some p := fun id p hp => by
  rw [List.getElem?_append_right (by omega), hn, Nat.add_sub_cancel]; exact hp
 unfold A.fresh at h
 unfold A.shift
 split at h
 ·simp only [Rep] at r ⊢
  obtain ⟨hg, p, h1, h2, r⟩ := r
  exact ⟨hg, p, key _ _ h1, h2, r⟩
 ·simp only [Rep] at r ⊢
  obtain ⟨p, h1, h2, r⟩ := r
  exact ⟨p, key _ _ h1, h2, r⟩
 ·exact scal2_rep h r
theorem shiftT_rep' {z0 z : Z} {w' : World} {E' : List Pl} {n : Nat} (hn : n = z.E.length) {vs : List AV} {v : Value} (h : vs.all A.fresh = true) (r : Rep (ctx z0 w' E' nopb) (.tup vs) v) : Rep (ctx z w' (z.E ++ E') nopb) (A.shiftT n (.tup vs)) v := by
 simp only [Rep, A.shiftT] at r ⊢
 obtain ⟨us, rfl, r⟩ := r
 refine ⟨us, rfl, ?_⟩
 generalize us.toList = us' at r ⊢
 induction vs generalizing us' with
 | nil => simpa [RepL] using r
 | cons x l ih =>
  simp only [List.all_cons, Bool.and_eq_true] at h
  simp only [RepL, List.map_cons] at r ⊢
  obtain ⟨v, vs', e, h1, h2⟩ := r
  exact ⟨v, vs', e, shift_rep hn h.1 h1, ih h.2 _ h2⟩
theorem shiftT_rep {z0 z : Z} {w' : World} {E' : List Pl} {n : Nat} (hn : n = z.E.length) {a : AV} {v : Value} (h : A.freshT a = true) (r : Rep (ctx z0 w' E' nopb) a v) : Rep (ctx z w' (z.E ++ E') nopb) (A.shiftT n a) v := by
 by_cases ht : ∃ vs, a = .tup vs
 ·obtain ⟨vs, rfl⟩ := ht
  exact shiftT_rep' hn h r
 ·have e1 : A.freshT a = A.fresh a := by cases a <;> first | rfl | exact absurd ⟨_, rfl⟩ ht
  have e2 : A.shiftT n a = A.shift n a := by cases a <;> first | rfl | exact absurd ⟨_, rfl⟩ ht
  rw [e1] at h
  rw [e2]
  exact shift_rep hn h r
theorem scal1Cs_rep {b : Nat} : ∀ {l : List AV} {off : Nat}, l.all A.scal1 = true → c'.w = c.w → RepCs c b off l → RepCs c' b off l
 | [], off, _, _, _ => by simp [RepCs]
 | a :: l, off, h, hw, r => by
  simp only [List.all_cons, Bool.and_eq_true] at h
  simp only [RepCs] at r ⊢
  obtain ⟨⟨v, h1, h2, h3⟩, h4⟩ := r
  exact ⟨⟨v, by rw [hw]; exact h1, h2, scal1_rep h.1 h3⟩, scal1Cs_rep h.2 hw h4⟩
theorem scal1Es_rep {sz b : Nat} : ∀ {l : List (List AV)} {off : Nat}, (l.all fun e => e.all A.scal1) = true → c'.w = c.w → RepEs c sz b off l → RepEs c' sz b off l
 | [], off, _, _, _ => by simp [RepEs]
 | a :: l, off, h, hw, r => by
  simp only [List.all_cons, Bool.and_eq_true] at h
  simp only [RepEs] at r ⊢
  obtain ⟨h1, h2, h3⟩ := r
  exact ⟨h1, scal1Cs_rep h.1 hw h2, scal1Es_rep h.2 hw h3⟩
theorem scal2M_rep : ∀ {l : List (AV × AV)} {es : List MapEntry}, (l.all fun p => A.scal2 p.1 && A.scal2 p.2) = true → RepM c l es → RepM c' l es
 | [], es, _, r => by simpa [RepM] using r
 | (k, v) :: l, es, h, r => by
  simp only [List.all_cons, Bool.and_eq_true] at h
  simp only [RepM] at r ⊢
  obtain ⟨e, es', h1, h2, h3, h4⟩ := r
  exact ⟨e, es', h1, scal2_rep h.1.1 h2, scal2_rep h.1.2 h3, scal2M_rep h.2 h4⟩
theorem freshB_rep {p : Pl} {x : Blk} (h : A.freshB x = true) (hw : c'.w = c.w) (r : BlkAt c p x) : BlkAt c' p x := by
 cases x with
 | box cs =>
  obtain ⟨h1, ⟨⟨arr, t, h2, h3⟩, h4⟩⟩ := r
  exact ⟨h1, ⟨arr, t, by rw [hw]; exact h2, h3⟩, scal1Cs_rep h hw h4⟩
 | arr g sz es =>
  obtain ⟨h1, h2, h3, h4, ⟨arr, t, h5, h6⟩, h7, h8, h9⟩ := r
  exact ⟨h1, h2, h3, h4, ⟨arr, t, by rw [hw]; exact h5, h6⟩, h7, scal1Es_rep h hw h8, fun arr t fz e => h9 arr t fz (by rw [← hw]; exact e)⟩
 | map es =>
  obtain ⟨h1, ents, clock, h2, hwf, h3⟩ := r
  exact ⟨h1, ents, clock, by rw [hw]; exact h2, hwf, scal2M_rep h h3⟩
 | arrF g sz es => cases h
 | it cur left => cases h
theorem lent_out {z : Z} {σ σ' : Heap} {r : AV} {v : Value} {w' : World} {E' : List Pl} (e2 : ZLt z) (hh : HeapRel (ctx z z.w z.E nopb) σ) (hv : A.freshT r = true) (hb : σ'.all A.freshB = true)
  (k2 : Out ⟨z.w, [], fun _ => False, z.nm⟩ w' E') (k3 : HeapRel (ctx ⟨z.w, [], fun _ => False, z.nm⟩ w' E' nopb) σ') (k4 : Rep (ctx ⟨z.w, [], fun _ => False, z.nm⟩ w' E' nopb) r v) :
  ∃ E'', Out z w' E'' ∧ HeapRel (ctx z w' E'' nopb) (σ ++ σ') ∧ Rep (ctx z w' E'' nopb) (A.shiftT σ.length r) v := by
 have hlen : z.E.length = σ.length := hh.len
 have hlen' : E'.length = σ'.length := k3.len
 have hst : ∀ b, b < z.w.heap.size → w'.heap[b]? = z.w.heap[b]? := fun b hb => k2.stay b hb (fun p hp => by cases hp)
 have hlt : ∀ p ∈ z.E, p.b < z.w.heap.size := fun p hp => hh.lt hp
 have hfr : ∀ p ∈ E', z.w.heap.size ≤ p.b := fun p hp => by
  rcases k2.fresh p hp with k | ⟨q, hq, _⟩
  ·exact k
  ·cases hq
 have hx : Ext (ctx z z.w z.E nopb) (ctx z w' (z.E ++ E') nopb) := by
  refine ⟨k2.size, fun b hb hn => ⟨hst b hb, ?_⟩, fun i p hp => ⟨p, ?_, .inl rfl⟩, rfl⟩
  ·rintro (k | ⟨p, hp, k⟩ | ⟨i, k⟩)
   ·exact hn (.inl k)
   ·rcases List.mem_append.1 hp with hp | hp
    ·exact hn (.inr (.inl ⟨p, hp, k⟩))
    ·have := hfr p hp; simp only [ctx] at hb; omega
   ·cases k
  ·simp only [ctx] at hp ⊢
   rw [List.getElem?_append_left (List.getElem?_eq_some_iff.1 hp).1]; exact hp
 have key : ∀ (i : Nat) (p : Pl), (z.E ++ E')[i]? = some p → (i < z.E.length ∧ z.E[i]? = some p) ∨ (z.E.length ≤ i ∧ E'[i - z.E.length]? = some p) := fun i p hp => by
  by_cases hi : i < z.E.length
  ·rw [List.getElem?_append_left hi] at hp; exact .inl ⟨hi, hp⟩
  ·rw [List.getElem?_append_right (by omega)] at hp; exact .inr ⟨by omega, hp⟩
 refine ⟨z.E ++ E', ⟨k2.os, k2.tape, k2.output, k2.size, fun b hb _ => hst b hb, fun i p hp => ?_, fun i p hp => ⟨p, ?_, .inl rfl⟩, e2, hlt⟩, ⟨by simp [ctx, hlen, hlen'], fun i j p q hp hq e => ?_, fun i p x hp hxx => ?_⟩, shiftT_rep hlen.symm hv k4⟩
 ·rcases key i p hp with ⟨_, k⟩ | ⟨_, k⟩
  ·exact .inr ⟨p, k, rfl⟩
  ·exact .inl (hfr p (List.mem_of_getElem? k))
 ·rw [List.getElem?_append_left (List.getElem?_eq_some_iff.1 hp).1]; exact hp
 ·simp only [ctx] at hp hq
  rcases key i p hp with ⟨i1, k⟩ | ⟨i1, k⟩ <;> rcases key j q hq with ⟨j1, m⟩ | ⟨j1, m⟩
  ·exact hh.inj i j p q k m e
  ·have := hlt p (List.mem_of_getElem? k); have := hfr q (List.mem_of_getElem? m); omega
  ·have := hlt q (List.mem_of_getElem? m); have := hfr p (List.mem_of_getElem? k); omega
  ·have := k3.inj _ _ p q k m e; omega
 ·simp only [ctx] at hp
  rcases key i p hp with ⟨i1, k⟩ | ⟨i1, k⟩
  ·rw [List.getElem?_append_left (by omega)] at hxx
   exact (hh.blk i p x k hxx).mono hx (hst _ (hlt p (List.mem_of_getElem? k)))
  ·rw [List.getElem?_append_right (by omega), ← hlen] at hxx
   exact freshB_rep (c := ctx ⟨z.w, [], fun _ => False, z.nm⟩ w' E' nopb) (List.all_eq_true.1 hb x (List.mem_of_getElem? hxx)) rfl (k3.blk _ p x k hxx)
theorem ACalls.lent {args args' : List AV} {σ σ' : Heap} {r : AV} (h : ACalls P nm f args' [] r σ') (ha : A.frzL σ 0 8 args = some args') (hv : A.freshT r = true) (hb : σ'.all A.freshB = true) : ACalls P nm f args σ (A.shiftT σ.length r) (σ ++ σ') := by
 have hX : ∀ (z : Z) b, ¬ (ctx ⟨z.w, [], fun _ => False, z.nm⟩ z.w [] nopb).X b := by
  rintro z b (k | ⟨p, hp, _⟩ | ⟨i, k⟩)
  ·exact k.elim
  ·cases hp
  ·cases k
 have hcold : ∀ (z : Z), HeapRel (ctx z z.w z.E nopb) σ → Cold (ctx z z.w z.E nopb) (ctx ⟨z.w, [], fun _ => False, z.nm⟩ z.w [] nopb) σ 0 := fun z hh =>
  ⟨rfl, rfl, fun b k => (hX z b k).elim, fun id p k => absurd k (Nat.not_lt_zero _), hh, fun id p _ _ => hX z _⟩
 have h0 : ∀ (z : Z), HeapRel (ctx ⟨z.w, [], fun _ => False, z.nm⟩ z.w [] nopb) [] := fun z => by
  refine ⟨rfl, fun i j p q hp => ?_, fun i p x hp => ?_⟩
  ·simp [ctx] at hp
  ·simp [ctx] at hp
 rcases h with ⟨g, h1, h2⟩ | h2
 ·refine .inl ⟨g, h1, fun z vs e1 e2 hh e4 => ?_⟩
  have ha' : RepL (ctx ⟨z.w, [], fun _ => False, z.nm⟩ z.w [] nopb) args' vs.toList := frzL_rep (hcold z hh) 8 (fun av av' v _ e r => frz_all (hcold z hh) 8 _ _ _ e r) _ _ _ ha e4
  refine (h2 ⟨z.w, [], fun _ => False, z.nm⟩ vs e1 e2.none (h0 z) ha').mono ?_
  rintro e w' ⟨v, E', k1, k2, k3, k4⟩
  obtain ⟨E'', q1, q2, q3⟩ := lent_out e2 hh hv hb k2 k3 k4
  exact ⟨v, E'', k1, q1, q2, q3⟩
 ·refine .inr fun z vs e1 e2 hh e4 => ?_
  have ha' : RepL (ctx ⟨z.w, [], fun _ => False, z.nm⟩ z.w [] nopb) args' vs.toList := frzL_rep (hcold z hh) 8 (fun av av' v _ e r => frz_all (hcold z hh) 8 _ _ _ e r) _ _ _ ha e4
  obtain ⟨v, w', E', k1, k2, k3, k4⟩ := h2 ⟨z.w, [], fun _ => False, z.nm⟩ vs e1 e2.none (h0 z) ha'
  obtain ⟨E'', q1, q2, q3⟩ := lent_out e2 hh hv hb k2 k3 k4
  exact ⟨v, w', E'', k1, q1, q2, q3⟩
theorem Sound.wrap {r : List AV → Heap → Option (AV × Heap)} (h : Sound P nm f r) (ro : Bool) (ain : List Sh) (rout : Sh) (hi : Sh.okL ain = true) (ho : rout.ok = true) : Sound P nm f (A.wrap ro ain rout r) := by
 intro args σ v σ' e
 unfold A.wrap at e
 cases hc : (ro && args.any A.own)
 ·rw [hc] at e
  simp only [cond_false] at e
  obtain ⟨q, e1, e2⟩ := Option.map_eq_some_iff.1 e
  injection e2 with e2 e3
  subst e2 e3
  exact (h _ _ _ _ e1).conv (fun c vs k => nnL_rep _ _ _ hi k) (fun c v k => nn_rep _ _ _ ho k)
 ·rw [hc] at e
  simp only [cond_true] at e
  obtain ⟨args', e1, e2⟩ := Option.bind_eq_some_iff.1 e
  obtain ⟨q, e3, e4⟩ := Option.bind_eq_some_iff.1 e2
  obtain ⟨q1, q2⟩ := q
  simp only at e4
  cases hs : (A.freshT (A.nn rout q1) && q2.all A.freshB)
  ·rw [hs] at e4; cases e4
  ·rw [hs] at e4
   simp only [cond_true, Option.some.injEq, Prod.mk.injEq] at e4
   obtain ⟨rfl, rfl⟩ := e4
   simp only [Bool.and_eq_true] at hs
   exact ((h _ _ _ _ e3).conv (args := args') (fun c vs k => nnL_rep _ _ _ hi k) (fun c v k => nn_rep _ _ _ ho k)).lent e1 hs.1 hs.2
end
theorem Snd.of {X : Fx} {t : List (FuncId × (List AV → Heap → Option (AV × Heap)))} (hc : X.call = A.tab (fun _ _ => none) t) (ht : ∀ p ∈ t, Sound X.P X.nm p.1 p.2) (hd : ∀ f, Sound X.P X.nm f (X.dyn (X.nm.getD f 0))) : Snd X := by
 refine ⟨fun f args σ r σ' h => ?_, fun f => hd f⟩
 rw [hc] at h
 clear hc
 induction t with
 | nil => cases h
 | cons p t ih =>
  obtain ⟨m, x⟩ := p
  simp only [A.tab] at h
  cases hm : (f == m)
  ·rw [hm] at h; exact ih (fun p hp => ht p (List.mem_cons_of_mem _ hp)) h
  ·rw [hm] at h
   have : f = m := by simpa using hm
   subst this
   exact ht (f, x) (List.mem_cons_self) _ _ _ _ h
theorem Sound.none {P : Program} {nm : List Nat} {f : FuncId} : Sound P nm f (fun _ _ => Option.none) := fun _ _ _ _ h => by cases h
theorem All.nil {P : Program} {nm : List Nat} : ∀ p ∈ ([] : List (FuncId × (List AV → Heap → Option (AV × Heap)))), Sound P nm p.1 p.2 := fun _ h => by cases h
theorem All.cons {P : Program} {nm : List Nat} {f : FuncId} {m : List AV → Heap → Option (AV × Heap)} {l : List (FuncId × (List AV → Heap → Option (AV × Heap)))} (h : Sound P nm f m) (t : ∀ p ∈ l, Sound P nm p.1 p.2) : ∀ p ∈ (f, m) :: l, Sound P nm p.1 p.2 :=
 fun p hp => by rcases List.mem_cons.1 hp with rfl | hp; exact h; exact t p hp
theorem DAll.nil {P : Program} {nm : List Nat} : ∀ p ∈ ([] : List (Nat × (List AV → Heap → Option (AV × Heap)))), ∀ f, nm.getD f 0 = p.1 → Sound P nm f p.2 := fun _ h => by cases h
theorem DAll.cons {P : Program} {nm : List Nat} {k : Nat} {m : List AV → Heap → Option (AV × Heap)} {l : List (Nat × (List AV → Heap → Option (AV × Heap)))} (h : ∀ f, nm.getD f 0 = k → Sound P nm f m) (t : ∀ p ∈ l, ∀ f, nm.getD f 0 = p.1 → Sound P nm f p.2) : ∀ p ∈ (k, m) :: l, ∀ f, nm.getD f 0 = p.1 → Sound P nm f p.2 :=
 fun p hp => by rcases List.mem_cons.1 hp with rfl | hp; exact h; exact t p hp
theorem dyn_of {P : Program} {nm : List Nat} {t : List (Nat × (List AV → Heap → Option (AV × Heap)))} (ht : ∀ p ∈ t, ∀ f, nm.getD f 0 = p.1 → Sound P nm f p.2) (f : FuncId) : Sound P nm f (A.tab (fun _ _ => Option.none) t (nm.getD f 0)) := by
 induction t with
 | nil => exact Sound.none
 | cons p t ih =>
  obtain ⟨k, x⟩ := p
  simp only [A.tab]
  cases hm : (nm.getD f 0 == k)
  ·exact ih (fun p hp => ht p (List.mem_cons_of_mem _ hp))
  ·exact ht (k, x) List.mem_cons_self f (by simpa using hm)
theorem nm_one {nm : List Nat} {k g : Nat} (h : (nm.zipIdx.filter fun p => p.1 == k) = [(k, g)]) (hk : (0 == k) = false) {f : Nat} (hf : nm.getD f 0 = k) : f = g := by
 have hlt : f < nm.length := by
  rcases Nat.lt_or_ge f nm.length with e | e
  ·exact e
  ·simp only [List.getD, List.getElem?_eq_none e, Option.getD_none] at hf; subst hf; simp at hk
 have : (k, f) ∈ nm.zipIdx.filter fun p => p.1 == k := by
  refine List.mem_filter.2 ⟨List.mem_iff_getElem?.2 ⟨f, ?_⟩, by simp⟩
  simp only [List.getD] at hf
  rw [List.getElem?_eq_getElem hlt] at hf
  simp [List.getElem?_eq_getElem hlt, ← hf]
 rw [h] at this
 simpa using this
theorem nm_sound {P : Program} {nm : List Nat} {k g : Nat} {m : List AV → Heap → Option (AV × Heap)} (hs : Sound P nm g m) (h : (nm.zipIdx.filter fun p => p.1 == k) = [(k, g)]) (hk : (0 == k) = false) : ∀ f, nm.getD f 0 = k → Sound P nm f m :=
 fun f hf => by have e := nm_one h hk hf; subst e; exact hs
def fuel (F : (Nat → List AV → Heap → Option (AV × Heap)) → List (Nat × (List AV → Heap → Option (AV × Heap)))) : Nat → Nat → List AV → Heap → Option (AV × Heap)
 | 0, _ => fun _ _ => none
 | n + 1, k => A.tab (fun _ _ => none) (F (fuel F n)) k
theorem fuel_sound {P : Program} {nm : List Nat} {F : (Nat → List AV → Heap → Option (AV × Heap)) → List (Nat × (List AV → Heap → Option (AV × Heap)))}
  (h : ∀ rec, (∀ f, Sound P nm f (rec (nm.getD f 0))) → ∀ p ∈ F rec, ∀ f, nm.getD f 0 = p.1 → Sound P nm f p.2) : ∀ n f, Sound P nm f (fuel F n (nm.getD f 0))
 | 0, f => Sound.none
 | n + 1, f => dyn_of (h (fuel F n) (fuel_sound h n)) f
namespace A
set_option linter.unusedSectionVars false
def ar1 (f : AV → Heap → Option (AV × Heap)) : List AV → Heap → Option (AV × Heap)
 | [x0], σ => f x0 σ
 | _, _ => none
def ar2 (f : AV → AV → Heap → Option (AV × Heap)) : List AV → Heap → Option (AV × Heap)
 | [x0, x1], σ => f x0 x1 σ
 | _, _ => none
def ar3 (f : AV → AV → AV → Heap → Option (AV × Heap)) : List AV → Heap → Option (AV × Heap)
 | [x0, x1, x2], σ => f x0 x1 x2 σ
 | _, _ => none
def ar4 (f : AV → AV → AV → AV → Heap → Option (AV × Heap)) : List AV → Heap → Option (AV × Heap)
 | [x0, x1, x2, x3], σ => f x0 x1 x2 x3 σ
 | _, _ => none
def ar5 (f : AV → AV → AV → AV → AV → Heap → Option (AV × Heap)) : List AV → Heap → Option (AV × Heap)
 | [x0, x1, x2, x3, x4], σ => f x0 x1 x2 x3 x4 σ
 | _, _ => none
def ar6 (f : AV → AV → AV → AV → AV → AV → Heap → Option (AV × Heap)) : List AV → Heap → Option (AV × Heap)
 | [x0, x1, x2, x3, x4, x5], σ => f x0 x1 x2 x3 x4 x5 σ
 | _, _ => none
def ar7 (f : AV → AV → AV → AV → AV → AV → AV → Heap → Option (AV × Heap)) : List AV → Heap → Option (AV × Heap)
 | [x0, x1, x2, x3, x4, x5, x6], σ => f x0 x1 x2 x3 x4 x5 x6 σ
 | _, _ => none
end A
section
variable {X : Fx} {f : FuncId} {fn : Func} {ann : Ann}
theorem Sound.run1 {m : AV → Heap → Option (AV × Heap)} (keep : Back) (hkeep : keep.Ok) (hs : Snd X) (hf : X.P.funcs[f]? = some fn) (hc : ∀ aas w, (callFunc f aas).run X.P w = .ok (.enter f aas) w) (he : ∀ (x0 : AV) (σ : Heap), runA X keep ann fn [x0] σ = m x0 σ) : Sound X.P X.nm f (A.ar1 m) := by
 intro args σ r σ' h
 unfold A.ar1 at h
 split at h
 ·exact runA_sound hs hkeep hf hc ((he _ _).trans h)
 ·cases h
theorem Sound.run2 {m : AV → AV → Heap → Option (AV × Heap)} (keep : Back) (hkeep : keep.Ok) (hs : Snd X) (hf : X.P.funcs[f]? = some fn) (hc : ∀ aas w, (callFunc f aas).run X.P w = .ok (.enter f aas) w) (he : ∀ (x0 x1 : AV) (σ : Heap), runA X keep ann fn [x0, x1] σ = m x0 x1 σ) : Sound X.P X.nm f (A.ar2 m) := by
 intro args σ r σ' h
 unfold A.ar2 at h
 split at h
 ·exact runA_sound hs hkeep hf hc ((he _ _ _).trans h)
 ·cases h
theorem Sound.run3 {m : AV → AV → AV → Heap → Option (AV × Heap)} (keep : Back) (hkeep : keep.Ok) (hs : Snd X) (hf : X.P.funcs[f]? = some fn) (hc : ∀ aas w, (callFunc f aas).run X.P w = .ok (.enter f aas) w) (he : ∀ (x0 x1 x2 : AV) (σ : Heap), runA X keep ann fn [x0, x1, x2] σ = m x0 x1 x2 σ) : Sound X.P X.nm f (A.ar3 m) := by
 intro args σ r σ' h
 unfold A.ar3 at h
 split at h
 ·exact runA_sound hs hkeep hf hc ((he _ _ _ _).trans h)
 ·cases h
theorem Sound.run4 {m : AV → AV → AV → AV → Heap → Option (AV × Heap)} (keep : Back) (hkeep : keep.Ok) (hs : Snd X) (hf : X.P.funcs[f]? = some fn) (hc : ∀ aas w, (callFunc f aas).run X.P w = .ok (.enter f aas) w) (he : ∀ (x0 x1 x2 x3 : AV) (σ : Heap), runA X keep ann fn [x0, x1, x2, x3] σ = m x0 x1 x2 x3 σ) : Sound X.P X.nm f (A.ar4 m) := by
 intro args σ r σ' h
 unfold A.ar4 at h
 split at h
 ·exact runA_sound hs hkeep hf hc ((he _ _ _ _ _).trans h)
 ·cases h
theorem Sound.run5 {m : AV → AV → AV → AV → AV → Heap → Option (AV × Heap)} (keep : Back) (hkeep : keep.Ok) (hs : Snd X) (hf : X.P.funcs[f]? = some fn) (hc : ∀ aas w, (callFunc f aas).run X.P w = .ok (.enter f aas) w) (he : ∀ (x0 x1 x2 x3 x4 : AV) (σ : Heap), runA X keep ann fn [x0, x1, x2, x3, x4] σ = m x0 x1 x2 x3 x4 σ) : Sound X.P X.nm f (A.ar5 m) := by
 intro args σ r σ' h
 unfold A.ar5 at h
 split at h
 ·exact runA_sound hs hkeep hf hc ((he _ _ _ _ _ _).trans h)
 ·cases h
theorem Sound.run6 {m : AV → AV → AV → AV → AV → AV → Heap → Option (AV × Heap)} (keep : Back) (hkeep : keep.Ok) (hs : Snd X) (hf : X.P.funcs[f]? = some fn) (hc : ∀ aas w, (callFunc f aas).run X.P w = .ok (.enter f aas) w) (he : ∀ (x0 x1 x2 x3 x4 x5 : AV) (σ : Heap), runA X keep ann fn [x0, x1, x2, x3, x4, x5] σ = m x0 x1 x2 x3 x4 x5 σ) : Sound X.P X.nm f (A.ar6 m) := by
 intro args σ r σ' h
 unfold A.ar6 at h
 split at h
 ·exact runA_sound hs hkeep hf hc ((he _ _ _ _ _ _ _).trans h)
 ·cases h
theorem Sound.run7 {m : AV → AV → AV → AV → AV → AV → AV → Heap → Option (AV × Heap)} (keep : Back) (hkeep : keep.Ok) (hs : Snd X) (hf : X.P.funcs[f]? = some fn) (hc : ∀ aas w, (callFunc f aas).run X.P w = .ok (.enter f aas) w) (he : ∀ (x0 x1 x2 x3 x4 x5 x6 : AV) (σ : Heap), runA X keep ann fn [x0, x1, x2, x3, x4, x5, x6] σ = m x0 x1 x2 x3 x4 x5 x6 σ) : Sound X.P X.nm f (A.ar7 m) := by
 intro args σ r σ' h
 unfold A.ar7 at h
 split at h
 ·exact runA_sound hs hkeep hf hc ((he _ _ _ _ _ _ _ _).trans h)
 ·cases h
end
end Go.Proofs.YtkdafecbdncmiaaDoor

namespace Go.Proofs.YtkdafecbdncmiaaDoor
set_option linter.unusedSectionVars false
set_option linter.unusedSimpArgs false
set_option linter.unusedVariables false
set_option maxRecDepth 100000
noncomputable def nmT : List Nat := [0, 0, 0, 468, 473, 0, 0, 463, 467, 39, 49, 458, 53, 471, 469, 472, 36, 35, 0, 0, 500, 462, 466, 37, 38, 46, 48, 14, 139, 44, 74, 76, 79, 52, 470, 490, 475, 0, 476, 487, 492, 498, 493, 495, 499, 0, 461, 465, 1, 4, 47, 69, 13, 71, 73, 2, 138, 42, 43, 41, 75, 454, 456, 457, 77, 78, 474, 489, 477, 491, 497, 494, 0, 464, 63, 66, 67, 68, 70, 72, 0, 40, 455, 9, 0, 488, 0, 496, 0, 0, 62, 65, 64, 0, 0, 0, 0, 0, 0, 0, 59, 60, 61, 0, 0, 0, 0, 257, 0, 0, 0, 58, 0, 0, 0, 0, 0, 0, 0, 0, 0, 0, 0, 479, 478, 480, 483, 482, 0, 0, 0, 0, 486, 481, 0, 0, 0, 0, 0, 0, 0, 0, 0, 484, 485, 0, 0, 0, 0, 0, 0, 0, 0, 0, 0, 0, 0, 0, 0, 0, 0, 0, 0, 0, 0, 0, 0, 0, 0, 0, 0, 0, 0, 0, 0, 0, 0]
section
variable {l : List (FuncId × (List AV → Heap → Option (AV × Heap)))} {f : FuncId} {fn : Func} {ro : Bool} {ain : List Sh} {rout : Sh}
noncomputable def fxT (l : List (FuncId × (List AV → Heap → Option (AV × Heap)))) (L : List Nat) (n : Nat) : Fx := ⟨Tryd.prog, nmT, A.tab (fun _ _ => none) l, fun _ _ _ => none, L, [], n, []⟩
theorem q1 {m : AV → Heap → Option (AV × Heap)} (L : List Nat) (n : Nat) (ann : Ann) (h : ∀ p ∈ l, Sound Tryd.prog nmT p.1 p.2) (hf : Tryd.prog.funcs[f]? = some fn) (hc : ∀ aas w, (callFunc f aas).run Tryd.prog w = .ok (.enter f aas) w) (he : ∀ (x0 : AV) (σ : Heap), runA (fxT l L n) .F ann fn [x0] σ = m x0 σ) (hi : Sh.okL ain = true) (ho : rout.ok = true) : Sound Tryd.prog nmT f (A.wrap ro ain rout (A.ar1 m)) := Sound.wrap (Sound.run1 .F trivial (Snd.of rfl h fun _ => Sound.none) hf hc he) _ _ _ hi ho
theorem q2 {m : AV → AV → Heap → Option (AV × Heap)} (L : List Nat) (n : Nat) (ann : Ann) (h : ∀ p ∈ l, Sound Tryd.prog nmT p.1 p.2) (hf : Tryd.prog.funcs[f]? = some fn) (hc : ∀ aas w, (callFunc f aas).run Tryd.prog w = .ok (.enter f aas) w) (he : ∀ (x0 x1 : AV) (σ : Heap), runA (fxT l L n) .F ann fn [x0, x1] σ = m x0 x1 σ) (hi : Sh.okL ain = true) (ho : rout.ok = true) : Sound Tryd.prog nmT f (A.wrap ro ain rout (A.ar2 m)) := Sound.wrap (Sound.run2 .F trivial (Snd.of rfl h fun _ => Sound.none) hf hc he) _ _ _ hi ho
theorem q3 {m : AV → AV → AV → Heap → Option (AV × Heap)} (L : List Nat) (n : Nat) (ann : Ann) (h : ∀ p ∈ l, Sound Tryd.prog nmT p.1 p.2) (hf : Tryd.prog.funcs[f]? = some fn) (hc : ∀ aas w, (callFunc f aas).run Tryd.prog w = .ok (.enter f aas) w) (he : ∀ (x0 x1 x2 : AV) (σ : Heap), runA (fxT l L n) .F ann fn [x0, x1, x2] σ = m x0 x1 x2 σ) (hi : Sh.okL ain = true) (ho : rout.ok = true) : Sound Tryd.prog nmT f (A.wrap ro ain rout (A.ar3 m)) := Sound.wrap (Sound.run3 .F trivial (Snd.of rfl h fun _ => Sound.none) hf hc he) _ _ _ hi ho
theorem q4 {m : AV → AV → AV → AV → Heap → Option (AV × Heap)} (L : List Nat) (n : Nat) (ann : Ann) (h : ∀ p ∈ l, Sound Tryd.prog nmT p.1 p.2) (hf : Tryd.prog.funcs[f]? = some fn) (hc : ∀ aas w, (callFunc f aas).run Tryd.prog w = .ok (.enter f aas) w) (he : ∀ (x0 x1 x2 x3 : AV) (σ : Heap), runA (fxT l L n) .F ann fn [x0, x1, x2, x3] σ = m x0 x1 x2 x3 σ) (hi : Sh.okL ain = true) (ho : rout.ok = true) : Sound Tryd.prog nmT f (A.wrap ro ain rout (A.ar4 m)) := Sound.wrap (Sound.run4 .F trivial (Snd.of rfl h fun _ => Sound.none) hf hc he) _ _ _ hi ho
theorem q5 {m : AV → AV → AV → AV → AV → Heap → Option (AV × Heap)} (L : List Nat) (n : Nat) (ann : Ann) (h : ∀ p ∈ l, Sound Tryd.prog nmT p.1 p.2) (hf : Tryd.prog.funcs[f]? = some fn) (hc : ∀ aas w, (callFunc f aas).run Tryd.prog w = .ok (.enter f aas) w) (he : ∀ (x0 x1 x2 x3 x4 : AV) (σ : Heap), runA (fxT l L n) .F ann fn [x0, x1, x2, x3, x4] σ = m x0 x1 x2 x3 x4 σ) (hi : Sh.okL ain = true) (ho : rout.ok = true) : Sound Tryd.prog nmT f (A.wrap ro ain rout (A.ar5 m)) := Sound.wrap (Sound.run5 .F trivial (Snd.of rfl h fun _ => Sound.none) hf hc he) _ _ _ hi ho
theorem q6 {m : AV → AV → AV → AV → AV → AV → Heap → Option (AV × Heap)} (L : List Nat) (n : Nat) (ann : Ann) (h : ∀ p ∈ l, Sound Tryd.prog nmT p.1 p.2) (hf : Tryd.prog.funcs[f]? = some fn) (hc : ∀ aas w, (callFunc f aas).run Tryd.prog w = .ok (.enter f aas) w) (he : ∀ (x0 x1 x2 x3 x4 x5 : AV) (σ : Heap), runA (fxT l L n) .F ann fn [x0, x1, x2, x3, x4, x5] σ = m x0 x1 x2 x3 x4 x5 σ) (hi : Sh.okL ain = true) (ho : rout.ok = true) : Sound Tryd.prog nmT f (A.wrap ro ain rout (A.ar6 m)) := Sound.wrap (Sound.run6 .F trivial (Snd.of rfl h fun _ => Sound.none) hf hc he) _ _ _ hi ho
theorem q7 {m : AV → AV → AV → AV → AV → AV → AV → Heap → Option (AV × Heap)} (L : List Nat) (n : Nat) (ann : Ann) (h : ∀ p ∈ l, Sound Tryd.prog nmT p.1 p.2) (hf : Tryd.prog.funcs[f]? = some fn) (hc : ∀ aas w, (callFunc f aas).run Tryd.prog w = .ok (.enter f aas) w) (he : ∀ (x0 x1 x2 x3 x4 x5 x6 : AV) (σ : Heap), runA (fxT l L n) .F ann fn [x0, x1, x2, x3, x4, x5, x6] σ = m x0 x1 x2 x3 x4 x5 x6 σ) (hi : Sh.okL ain = true) (ho : rout.ok = true) : Sound Tryd.prog nmT f (A.wrap ro ain rout (A.ar7 m)) := Sound.wrap (Sound.run7 .F trivial (Snd.of rfl h fun _ => Sound.none) hf hc he) _ _ _ hi ho
end
end Go.Proofs.YtkdafecbdncmiaaDoor

namespace Go.Proofs.YtkdafecbdncmiaaDoor
set_option linter.unusedSectionVars false
set_option linter.unusedVariables false
set_option linter.unusedSimpArgs false
abbrev inI (n : Int) : Prop := -9223372036854775808 ≤ n ∧ n ≤ 9223372036854775807
abbrev mxl : Nat := 9223372036854775807
def memB {κ : Type} [DecidableEq κ] (k : κ) (S : List κ) : Bool := S.any fun x => decide (x = k)
theorem memB_iff {κ : Type} [DecidableEq κ] {k : κ} {S : List κ} : memB k S = true ↔ k ∈ S := by
 simp only [memB, List.any_eq_true, decide_eq_true_eq]
 exact ⟨fun ⟨x, h, e⟩ => e ▸ h, fun h => ⟨k, h, rfl⟩⟩
theorem memB_false {κ : Type} [DecidableEq κ] {k : κ} {S : List κ} : memB k S = false ↔ k ∉ S := by
 rw [← memB_iff]; simp
def cInt (n : Int) : List AV := [.int .i64 n]
def cStr (s : ByteArray) : List AV := [.str s]
def sl {α : Type} (sz : Nat) (c : α → List AV) (l : List α) : AV := .sl sz (l.map c)
def okL {α : Type} (p : α → Prop) (l : List α) : Prop := l.length ≤ mxl ∧ ∀ x ∈ l, p x
theorem p1_cInt (n : Int) : A.part1 0 (cInt n) = some (.int .i64 n) := rfl
theorem p1_cStr (s : ByteArray) : A.part1 0 (cStr s) = some (.str s) := rfl

structure PointD where
 time : Int
 way : Int
deriving DecidableEq
structure CurveD where
 kind : Int
 points : (List PointD)
structure FadeD where
 frm : Int
 to : Int
 start : Int
 delay : Int
 time : Int
 curve : CurveD
structure ChangeD where
 time : Int
 level : Int
deriving DecidableEq
structure RangeD where
 low : Int
 high : Int
 name : ByteArray
deriving DecidableEq
structure ParamD where
 name : ByteArray
 group : Int
 att : Int
 fine : Int
 default : Int
 snap : Bool
 ranges : (List RangeD)
structure ProfileD where
 name : ByteArray
 size : Int
 params : (List ParamD)
structure UnitD where
 number : Int
 profile : ByteArray
 univ : Int
 address : Int
deriving DecidableEq
structure RigD where
 library : (List ProfileD)
 units : (List UnitD)
structure KeyD where
 unit : Int
 param : ByteArray
deriving DecidableEq
structure SettingD where
 key : KeyD
 level : Int
deriving DecidableEq
structure PresetD where
 number : Int
 title : ByteArray
 settings : (List SettingD)
structure FanD where
 corners : (List Int)
 block : Int
 wings : Int
structure ValueD where
 level : Int
 preset : Int
deriving DecidableEq
structure MoveD where
 key : KeyD
 value : ValueD
 release : Bool
 timed : Bool
 delay : Int
 time : Int
deriving DecidableEq
structure CueD where
 number : Int
 title : ByteArray
 delay : Int
 up : Int
 down : Int
 other : Int
 curve : CurveD
 block : Bool
 follow : Int
 moves : (List MoveD)
structure EntryD where
 key : KeyD
 value : ValueD
 cue : Int
deriving DecidableEq
structure MarkD where
 unit : Int
 frm : Int
 to : Int
deriving DecidableEq
structure ListD where
 number : Int
 cues : (List CueD)
structure PlaybackD where
 number : Int
 list : Int
 priority : Int
deriving DecidableEq
structure SetupD where
 rig : RigD
 presets : (List PresetD)
 lists : (List ListD)
 playbacks : (List PlaybackD)
structure ActionD where
 time : Int
 kind : Int
 playback : Int
 cue : Int
 level : Int
deriving DecidableEq
structure EventD where
 att : Int
 action : ActionD
deriving DecidableEq
structure StampD where
 hours : Int
 minutes : Int
 seconds : Int
 frames : Int
deriving DecidableEq
structure RunD where
 key : KeyD
 fade : FadeD
 claim : Int
 ending : Bool
structure StandingD where
 playback : Int
 cue : Int
 fader : Int
 paused : Bool
 follow : Int
 runs : (List RunD)
structure EffectStepD where
 level : Int
 hold : Int
 fade : Int
deriving DecidableEq
structure EffectD where
 form : Int
 low : Int
 high : Int
 cycle : Int
 width : Int
 spread : Int
 back : Bool
 relative : Bool
 steps : (List EffectStepD)
structure RateD where
 time : Int
 percent : Int
deriving DecidableEq
structure RunningD where
 effect : EffectD
 keys : (List KeyD)
 start : Int
 rates : (List RateD)
 inn : Int
 fin : Int
 out : Int
end Go.Proofs.YtkdafecbdncmiaaDoor

namespace Go.Proofs.YtkdafecbdncmiaaDoor
set_option linter.unusedSectionVars false
set_option linter.unusedSimpArgs false
set_option linter.unusedVariables false
def itoaB (n : Int) : ByteArray := ⟨(Lib.itoa n).toArray⟩
def m_strconv_Itoa : List AV → Heap → Option (AV × Heap) := A.ar1 fun a σ => match a with
 | .int .i64 n => if -9223372036854775808 ≤ n ∧ n ≤ 9223372036854775807 then some (.str (itoaB n), σ) else none
 | _ => none
theorem Itoa_eq (n : Int) (h : inI n) (σ : Heap) : m_strconv_Itoa [.int .i64 n] σ = some (.str (itoaB n), σ) := if_pos h
end Go.Proofs.YtkdafecbdncmiaaDoor

namespace Go.Proofs.YtkdafecbdncmiaaDoor
set_option linter.unusedSectionVars false
set_option linter.unusedSimpArgs false
set_option linter.unusedVariables false
set_option maxRecDepth 100000
noncomputable def r_word_Within (a0 a1 a2 : AV) (σ : Heap) : Option (AV × Heap) :=
 (A.geq a0 a1).bind fun x1 =>
 (A.guard x1 true (some a0) (some (AV.tup []))).bind fun x2 =>
 (A.guard x1 true (some a2) (some (AV.tup []))).bind fun x3 =>
 (A.guard x1 true (A.leq x2 x3) (some (AV.tup []))).bind fun x4 =>
 (A.pick x1 x4 (AV.bool false)).bind fun x5 =>
 A.fin σ x5 σ
noncomputable def m_word_Within : List AV → Heap → Option (AV × Heap) := A.wrap true [] .k (A.ar3 r_word_Within)
end Go.Proofs.YtkdafecbdncmiaaDoor

namespace Go.Proofs.YtkdafecbdncmiaaDoor
set_option linter.unusedSectionVars false
set_option linter.unusedSimpArgs false
set_option linter.unusedVariables false
set_option maxRecDepth 100000
noncomputable def r_pick_size (rec : Nat → List AV → Heap → Option (AV × Heap)) (a0 : AV) (σ : Heap) : Option (AV × Heap) :=
 (A.cells 4 a0).bind fun c1 =>
 (A.part1 3 c1).bind fun x2 =>
 (A.lenS x2).bind fun x3 =>
 (A.loop (fun v4 s5 =>
   (A.lss (v4.getD 2 AV.undef) x3).bind fun x7 =>
   A.cond x7 (
    (A.iaddr 4 x2 (v4.getD 2 AV.undef)).bind fun x8 =>
    ((A.deref x8 s5).bind fun c9 => A.partA 0 4 c9).bind fun x10 =>
    (A.cells 4 x10).bind fun c11 =>
    (A.splice 0 c11 [(AV.int .i64 0), (AV.int .i64 0), (AV.int .i64 0), AV.nsl]).bind fun c12 =>
    (A.partA 0 4 c12).bind fun x13 =>
    (rec 37 [x13] s5).bind fun r14 =>
    (A.ext 0 r14.1).bind fun x15 =>
    (A.ext 1 r14.1).bind fun x16 =>
    (A.add (v4.getD 0 AV.undef) x15).bind fun x17 =>
    (A.add x16 (AV.int .i64 1)).bind fun x18 =>
    (A.max (v4.getD 1 AV.undef) x18).bind fun x19 =>
    (A.add (v4.getD 2 AV.undef) (AV.int .i64 1)).bind fun x20 =>
    some (AX.normal, [x17, x19, x20], r14.2)) (
    some (AX.exit 0, [(v4.getD 0 AV.undef), (v4.getD 1 AV.undef), (v4.getD 2 AV.undef)], s5))) [(AV.int .i64 1), (AV.int .i64 1), (AV.int .i64 0)] σ).bind fun r21 =>
 bif r21.1 == AX.exit 0 then (
  A.fin σ (AV.tup [(r21.2.1.getD 0 AV.undef), (r21.2.1.getD 1 AV.undef)]) r21.2.2) else
 none
noncomputable def R_pick_size (rec : Nat → List AV → Heap → Option (AV × Heap)) : List (Nat × (List AV → Heap → Option (AV × Heap))) := [(37, A.wrap true [(.a [.k, .k, .k, (.s 4)])] .k (A.ar1 (r_pick_size rec)))]
noncomputable def m_pick_size : List AV → Heap → Option (AV × Heap) := fuel (R_pick_size) 2000000 37
noncomputable def r_pick_check (rec : Nat → List AV → Heap → Option (AV × Heap)) (a0 : AV) (σ : Heap) : Option (AV × Heap) :=
 (A.cells 4 a0).bind fun c1 =>
 (A.part1 0 c1).bind fun x2 =>
 (A.eql .i x2 (AV.int .i64 1)).bind fun x3 =>
 A.cond x3 (
  (A.part1 3 c1).bind fun x4 =>
  (A.lenS x4).bind fun x5 =>
  (A.neq .i x5 (AV.int .i64 0)).bind fun x6 =>
  (A.part1 0 c1).bind fun x7 =>
  (A.eql .i x7 (AV.int .i64 4)).bind fun x8 =>
  (A.cond x8 (
   (A.part1 3 c1).bind fun x10 =>
   (A.lenS x10).bind fun x11 =>
   (A.lss x11 (AV.int .i64 2)).bind fun x12 =>
   some ([(AV.lbx c1), x12], σ)) (
   some ([(AV.lbx c1), x6], σ))).bind fun r9 =>
  (A.guard (r9.1.getD 1 AV.undef) false (some (AV.bool true)) (some (AV.tup []))).bind fun x13 =>
  (A.guard (r9.1.getD 1 AV.undef) false (A.not x13) (some (AV.tup []))).bind fun x14 =>
  (A.guard (r9.1.getD 1 AV.undef) false (some x14) (some (AV.tup []))).bind fun x15 =>
  ((A.lb (r9.1.getD 0 AV.undef)).bind fun _ => some (1)).bind fun p16 =>
    (A.guard x15 true ((A.lb (r9.1.getD 0 AV.undef)).bind fun c17 => A.part1 p16 c17) (some (AV.tup []))).bind fun x18 =>
  (A.guard x15 true (A.neq .i x18 (AV.int .i64 0)) (some (AV.tup []))).bind fun x19 =>
  (A.guard (r9.1.getD 1 AV.undef) false (A.pick x15 x19 (AV.bool false)) (some (AV.tup []))).bind fun x20 =>
  (A.pick (r9.1.getD 1 AV.undef) (AV.bool true) x20).bind fun x21 =>
  (A.guard x21 false (some (AV.bool true)) (some (AV.tup []))).bind fun x22 =>
  (A.guard x21 false (A.not x22) (some (AV.tup []))).bind fun x23 =>
  (A.guard x21 false (some x23) (some (AV.tup []))).bind fun x24 =>
  ((A.lb (r9.1.getD 0 AV.undef)).bind fun _ => some (2)).bind fun p25 =>
    (A.guard x24 true ((A.lb (r9.1.getD 0 AV.undef)).bind fun c26 => A.part1 p25 c26) (some (AV.tup []))).bind fun x27 =>
  (A.guard x24 true (A.neq .i x27 (AV.int .i64 0)) (some (AV.tup []))).bind fun x28 =>
  (A.guard x21 false (A.pick x24 x28 (AV.bool false)) (some (AV.tup []))).bind fun x29 =>
  (A.pick x21 (AV.bool true) x29).bind fun x30 =>
  A.cond x30 (
   A.fin σ (AV.int .i64 3) r9.2) (
   ((A.lb (r9.1.getD 0 AV.undef)).bind fun _ => some (0)).bind fun p31 =>
   ((A.lb (r9.1.getD 0 AV.undef)).bind fun c32 => A.part1 p31 c32).bind fun x33 =>
   (A.eql .i x33 (AV.int .i64 2)).bind fun x34 =>
   (A.cond x34 (
    some ([(r9.1.getD 0 AV.undef), (AV.int .i64 999)], r9.2)) (
    (A.eql .i x33 (AV.int .i64 3)).bind fun x36 =>
    (A.cond x36 (
     some ([(r9.1.getD 0 AV.undef), (AV.int .i64 999)], r9.2)) (
     some ([(r9.1.getD 0 AV.undef), (AV.int .i64 9999)], r9.2))).bind fun r37 =>
    some ([(r37.1.getD 0 AV.undef), (r37.1.getD 1 AV.undef)], r37.2))).bind fun r35 =>
   ((A.lb (r35.1.getD 0 AV.undef)).bind fun _ => some (1)).bind fun p38 =>
      (A.guard (AV.bool true) true ((A.lb (r35.1.getD 0 AV.undef)).bind fun c39 => A.part1 p38 c39) (some (AV.tup []))).bind fun x40 =>
   (A.guard (AV.bool true) true (some (r35.1.getD 1 AV.undef)) (some (AV.tup []))).bind fun x41 =>
   (A.guard (AV.bool true) true (A.quiet (m_word_Within [x40, (AV.int .i64 1), x41] r35.2) r35.2) (some (AV.tup []))).bind fun x42 =>
   (A.guard (AV.bool true) true (A.not x42) (some (AV.tup []))).bind fun x43 =>
   (A.pick (AV.bool true) x43 (AV.bool false)).bind fun x44 =>
   (A.guard x44 false (some (AV.bool true)) (some (AV.tup []))).bind fun x45 =>
   (A.guard x44 false (some x45) (some (AV.tup []))).bind fun x46 =>
   ((A.lb (r35.1.getD 0 AV.undef)).bind fun _ => some (2)).bind fun p47 =>
      (A.guard x46 true ((A.lb (r35.1.getD 0 AV.undef)).bind fun c48 => A.part1 p47 c48) (some (AV.tup []))).bind fun x49 =>
   (A.guard x46 true (some (r35.1.getD 1 AV.undef)) (some (AV.tup []))).bind fun x50 =>
   (A.guard x46 true (A.quiet (m_word_Within [x49, (AV.int .i64 1), x50] r35.2) r35.2) (some (AV.tup []))).bind fun x51 =>
   (A.guard x46 true (A.not x51) (some (AV.tup []))).bind fun x52 =>
   (A.guard x44 false (A.pick x46 x52 (AV.bool false)) (some (AV.tup []))).bind fun x53 =>
   (A.pick x44 (AV.bool true) x53).bind fun x54 =>
   A.cond x54 (
    A.fin σ (AV.int .i64 1) r35.2) (
    ((A.lb (r35.1.getD 0 AV.undef)).bind fun _ => some (3)).bind fun p55 =>
    ((A.lb (r35.1.getD 0 AV.undef)).bind fun c56 => A.part1 p55 c56).bind fun x57 =>
    (A.lenS x57).bind fun x58 =>
    (A.loop (fun v59 s60 =>
      (A.lss (v59.getD 1 AV.undef) x58).bind fun x62 =>
      A.cond x62 (
       (A.iaddr 4 x57 (v59.getD 1 AV.undef)).bind fun x63 =>
       ((A.deref x63 s60).bind fun c64 => A.partA 0 4 c64).bind fun x65 =>
       (A.cells 4 x65).bind fun c66 =>
       (A.splice 0 c66 [(AV.int .i64 0), (AV.int .i64 0), (AV.int .i64 0), AV.nsl]).bind fun c67 =>
       (A.partA 0 4 c67).bind fun x68 =>
       (rec 38 [x68] s60).bind fun r69 =>
       (A.neq .i r69.1 (AV.int .i64 0)).bind fun x70 =>
       A.cond x70 (
        some (AX.ret, [r69.1, (v59.getD 1 AV.undef)], r69.2)) (
        (A.add (v59.getD 1 AV.undef) (AV.int .i64 1)).bind fun x71 =>
        some (AX.normal, [(v59.getD 0 AV.undef), x71], r69.2))) (
       some (AX.exit 2, [(v59.getD 0 AV.undef), (v59.getD 1 AV.undef)], s60))) [(AV.int .i64 0), (AV.int .i64 0)] r35.2).bind fun r72 =>
    bif r72.1 == AX.exit 2 then (
     A.fin σ (AV.int .i64 0) r72.2.2) else
    bif r72.1 == AX.ret then (
     A.fin σ (r72.2.1.getD 0 AV.undef) r72.2.2) else
    none))) (
  (A.eql .i x2 (AV.int .i64 2)).bind fun x73 =>
  (A.cond x73 (
   some ([(AV.lbx c1), x73], σ)) (
   (A.eql .i x2 (AV.int .i64 3)).bind fun x75 =>
   some ([(AV.lbx c1), x75], σ))).bind fun r74 =>
  A.cond (r74.1.getD 1 AV.undef) (
   ((A.lb (r74.1.getD 0 AV.undef)).bind fun _ => some (3)).bind fun p76 =>
   ((A.lb (r74.1.getD 0 AV.undef)).bind fun c77 => A.part1 p76 c77).bind fun x78 =>
   (A.lenS x78).bind fun x79 =>
   (A.neq .i x79 (AV.int .i64 0)).bind fun x80 =>
   ((A.lb (r74.1.getD 0 AV.undef)).bind fun _ => some (0)).bind fun p81 =>
   ((A.lb (r74.1.getD 0 AV.undef)).bind fun c82 => A.part1 p81 c82).bind fun x83 =>
   (A.eql .i x83 (AV.int .i64 4)).bind fun x84 =>
   (A.cond x84 (
    ((A.lb (r74.1.getD 0 AV.undef)).bind fun _ => some (3)).bind fun p86 =>
    ((A.lb (r74.1.getD 0 AV.undef)).bind fun c87 => A.part1 p86 c87).bind fun x88 =>
    (A.lenS x88).bind fun x89 =>
    (A.lss x89 (AV.int .i64 2)).bind fun x90 =>
    some ([(r74.1.getD 0 AV.undef), x90], r74.2)) (
    some ([(r74.1.getD 0 AV.undef), x80], r74.2))).bind fun r85 =>
   (A.guard (r85.1.getD 1 AV.undef) false (some (AV.bool true)) (some (AV.tup []))).bind fun x91 =>
   (A.guard (r85.1.getD 1 AV.undef) false (A.not x91) (some (AV.tup []))).bind fun x92 =>
   (A.guard (r85.1.getD 1 AV.undef) false (some x92) (some (AV.tup []))).bind fun x93 =>
   ((A.lb (r85.1.getD 0 AV.undef)).bind fun _ => some (1)).bind fun p94 =>
      (A.guard x93 true ((A.lb (r85.1.getD 0 AV.undef)).bind fun c95 => A.part1 p94 c95) (some (AV.tup []))).bind fun x96 =>
   (A.guard x93 true (A.neq .i x96 (AV.int .i64 0)) (some (AV.tup []))).bind fun x97 =>
   (A.guard (r85.1.getD 1 AV.undef) false (A.pick x93 x97 (AV.bool false)) (some (AV.tup []))).bind fun x98 =>
   (A.pick (r85.1.getD 1 AV.undef) (AV.bool true) x98).bind fun x99 =>
   (A.guard x99 false (some (AV.bool false)) (some (AV.tup []))).bind fun x100 =>
   (A.guard x99 false (A.not x100) (some (AV.tup []))).bind fun x101 =>
   (A.guard x99 false (some x101) (some (AV.tup []))).bind fun x102 =>
   ((A.lb (r85.1.getD 0 AV.undef)).bind fun _ => some (2)).bind fun p103 =>
      (A.guard x102 true ((A.lb (r85.1.getD 0 AV.undef)).bind fun c104 => A.part1 p103 c104) (some (AV.tup []))).bind fun x105 =>
   (A.guard x102 true (A.neq .i x105 (AV.int .i64 0)) (some (AV.tup []))).bind fun x106 =>
   (A.guard x99 false (A.pick x102 x106 (AV.bool false)) (some (AV.tup []))).bind fun x107 =>
   (A.pick x99 (AV.bool true) x107).bind fun x108 =>
   A.cond x108 (
    A.fin σ (AV.int .i64 3) r85.2) (
    ((A.lb (r85.1.getD 0 AV.undef)).bind fun _ => some (0)).bind fun p109 =>
    ((A.lb (r85.1.getD 0 AV.undef)).bind fun c110 => A.part1 p109 c110).bind fun x111 =>
    (A.eql .i x111 (AV.int .i64 2)).bind fun x112 =>
    (A.cond x112 (
     some ([(r85.1.getD 0 AV.undef), (AV.int .i64 999)], r85.2)) (
     (A.eql .i x111 (AV.int .i64 3)).bind fun x114 =>
     (A.cond x114 (
      some ([(r85.1.getD 0 AV.undef), (AV.int .i64 999)], r85.2)) (
      some ([(r85.1.getD 0 AV.undef), (AV.int .i64 9999)], r85.2))).bind fun r115 =>
     some ([(r115.1.getD 0 AV.undef), (r115.1.getD 1 AV.undef)], r115.2))).bind fun r113 =>
    ((A.lb (r113.1.getD 0 AV.undef)).bind fun _ => some (1)).bind fun p116 =>
        (A.guard (AV.bool true) true ((A.lb (r113.1.getD 0 AV.undef)).bind fun c117 => A.part1 p116 c117) (some (AV.tup []))).bind fun x118 =>
    (A.guard (AV.bool true) true (some (r113.1.getD 1 AV.undef)) (some (AV.tup []))).bind fun x119 =>
    (A.guard (AV.bool true) true (A.quiet (m_word_Within [x118, (AV.int .i64 1), x119] r113.2) r113.2) (some (AV.tup []))).bind fun x120 =>
    (A.guard (AV.bool true) true (A.not x120) (some (AV.tup []))).bind fun x121 =>
    (A.pick (AV.bool true) x121 (AV.bool false)).bind fun x122 =>
    (A.guard x122 false (some (AV.bool false)) (some (AV.tup []))).bind fun x123 =>
    (A.guard x122 false (some x123) (some (AV.tup []))).bind fun x124 =>
    ((A.lb (r113.1.getD 0 AV.undef)).bind fun _ => some (2)).bind fun p125 =>
        (A.guard x124 true ((A.lb (r113.1.getD 0 AV.undef)).bind fun c126 => A.part1 p125 c126) (some (AV.tup []))).bind fun x127 =>
    (A.guard x124 true (some (r113.1.getD 1 AV.undef)) (some (AV.tup []))).bind fun x128 =>
    (A.guard x124 true (A.quiet (m_word_Within [x127, (AV.int .i64 1), x128] r113.2) r113.2) (some (AV.tup []))).bind fun x129 =>
    (A.guard x124 true (A.not x129) (some (AV.tup []))).bind fun x130 =>
    (A.guard x122 false (A.pick x124 x130 (AV.bool false)) (some (AV.tup []))).bind fun x131 =>
    (A.pick x122 (AV.bool true) x131).bind fun x132 =>
    A.cond x132 (
     A.fin σ (AV.int .i64 1) r113.2) (
     ((A.lb (r113.1.getD 0 AV.undef)).bind fun _ => some (3)).bind fun p133 =>
     ((A.lb (r113.1.getD 0 AV.undef)).bind fun c134 => A.part1 p133 c134).bind fun x135 =>
     (A.lenS x135).bind fun x136 =>
     (A.loop (fun v137 s138 =>
       (A.lss (v137.getD 1 AV.undef) x136).bind fun x140 =>
       A.cond x140 (
        (A.iaddr 4 x135 (v137.getD 1 AV.undef)).bind fun x141 =>
        ((A.deref x141 s138).bind fun c142 => A.partA 0 4 c142).bind fun x143 =>
        (A.cells 4 x143).bind fun c144 =>
        (A.splice 0 c144 [(AV.int .i64 0), (AV.int .i64 0), (AV.int .i64 0), AV.nsl]).bind fun c145 =>
        (A.partA 0 4 c145).bind fun x146 =>
        (rec 38 [x146] s138).bind fun r147 =>
        (A.neq .i r147.1 (AV.int .i64 0)).bind fun x148 =>
        A.cond x148 (
         some (AX.ret, [r147.1, (v137.getD 1 AV.undef)], r147.2)) (
         (A.add (v137.getD 1 AV.undef) (AV.int .i64 1)).bind fun x149 =>
         some (AX.normal, [(v137.getD 0 AV.undef), x149], r147.2))) (
        some (AX.exit 2, [(v137.getD 0 AV.undef), (v137.getD 1 AV.undef)], s138))) [(AV.int .i64 0), (AV.int .i64 0)] r113.2).bind fun r150 =>
     bif r150.1 == AX.exit 2 then (
      A.fin σ (AV.int .i64 0) r150.2.2) else
     bif r150.1 == AX.ret then (
      A.fin σ (r150.2.1.getD 0 AV.undef) r150.2.2) else
     none))) (
   (A.eql .i x2 (AV.int .i64 4)).bind fun x151 =>
   (A.cond x151 (
    some ([(r74.1.getD 0 AV.undef), x151], r74.2)) (
    (A.eql .i x2 (AV.int .i64 5)).bind fun x153 =>
    some ([(r74.1.getD 0 AV.undef), x153], r74.2))).bind fun r152 =>
   A.cond (r152.1.getD 1 AV.undef) (
    ((A.lb (r152.1.getD 0 AV.undef)).bind fun _ => some (3)).bind fun p154 =>
    ((A.lb (r152.1.getD 0 AV.undef)).bind fun c155 => A.part1 p154 c155).bind fun x156 =>
    (A.lenS x156).bind fun x157 =>
    (A.neq .i x157 (AV.int .i64 2)).bind fun x158 =>
    ((A.lb (r152.1.getD 0 AV.undef)).bind fun _ => some (0)).bind fun p159 =>
    ((A.lb (r152.1.getD 0 AV.undef)).bind fun c160 => A.part1 p159 c160).bind fun x161 =>
    (A.eql .i x161 (AV.int .i64 4)).bind fun x162 =>
    (A.cond x162 (
     ((A.lb (r152.1.getD 0 AV.undef)).bind fun _ => some (3)).bind fun p164 =>
     ((A.lb (r152.1.getD 0 AV.undef)).bind fun c165 => A.part1 p164 c165).bind fun x166 =>
     (A.lenS x166).bind fun x167 =>
     (A.lss x167 (AV.int .i64 2)).bind fun x168 =>
     some ([(r152.1.getD 0 AV.undef), x168], r152.2)) (
     some ([(r152.1.getD 0 AV.undef), x158], r152.2))).bind fun r163 =>
    (A.guard (r163.1.getD 1 AV.undef) false (some (AV.bool false)) (some (AV.tup []))).bind fun x169 =>
    (A.guard (r163.1.getD 1 AV.undef) false (A.not x169) (some (AV.tup []))).bind fun x170 =>
    (A.guard (r163.1.getD 1 AV.undef) false (some x170) (some (AV.tup []))).bind fun x171 =>
    ((A.lb (r163.1.getD 0 AV.undef)).bind fun _ => some (1)).bind fun p172 =>
        (A.guard x171 true ((A.lb (r163.1.getD 0 AV.undef)).bind fun c173 => A.part1 p172 c173) (some (AV.tup []))).bind fun x174 =>
    (A.guard x171 true (A.neq .i x174 (AV.int .i64 0)) (some (AV.tup []))).bind fun x175 =>
    (A.guard (r163.1.getD 1 AV.undef) false (A.pick x171 x175 (AV.bool false)) (some (AV.tup []))).bind fun x176 =>
    (A.pick (r163.1.getD 1 AV.undef) (AV.bool true) x176).bind fun x177 =>
    (A.guard x177 false (some (AV.bool false)) (some (AV.tup []))).bind fun x178 =>
    (A.guard x177 false (A.not x178) (some (AV.tup []))).bind fun x179 =>
    (A.guard x177 false (some x179) (some (AV.tup []))).bind fun x180 =>
    ((A.lb (r163.1.getD 0 AV.undef)).bind fun _ => some (2)).bind fun p181 =>
        (A.guard x180 true ((A.lb (r163.1.getD 0 AV.undef)).bind fun c182 => A.part1 p181 c182) (some (AV.tup []))).bind fun x183 =>
    (A.guard x180 true (A.neq .i x183 (AV.int .i64 0)) (some (AV.tup []))).bind fun x184 =>
    (A.guard x177 false (A.pick x180 x184 (AV.bool false)) (some (AV.tup []))).bind fun x185 =>
    (A.pick x177 (AV.bool true) x185).bind fun x186 =>
    A.cond x186 (
     A.fin σ (AV.int .i64 3) r163.2) (
     ((A.lb (r163.1.getD 0 AV.undef)).bind fun _ => some (0)).bind fun p187 =>
     ((A.lb (r163.1.getD 0 AV.undef)).bind fun c188 => A.part1 p187 c188).bind fun x189 =>
     (A.eql .i x189 (AV.int .i64 2)).bind fun x190 =>
     (A.cond x190 (
      some ([(r163.1.getD 0 AV.undef), (AV.int .i64 999)], r163.2)) (
      (A.eql .i x189 (AV.int .i64 3)).bind fun x192 =>
      (A.cond x192 (
       some ([(r163.1.getD 0 AV.undef), (AV.int .i64 999)], r163.2)) (
       some ([(r163.1.getD 0 AV.undef), (AV.int .i64 9999)], r163.2))).bind fun r193 =>
      some ([(r193.1.getD 0 AV.undef), (r193.1.getD 1 AV.undef)], r193.2))).bind fun r191 =>
     ((A.lb (r191.1.getD 0 AV.undef)).bind fun _ => some (1)).bind fun p194 =>
          (A.guard (AV.bool false) true ((A.lb (r191.1.getD 0 AV.undef)).bind fun c195 => A.part1 p194 c195) (some (AV.tup []))).bind fun x196 =>
     (A.guard (AV.bool false) true (some (r191.1.getD 1 AV.undef)) (some (AV.tup []))).bind fun x197 =>
     (A.guard (AV.bool false) true (A.quiet (m_word_Within [x196, (AV.int .i64 1), x197] r191.2) r191.2) (some (AV.tup []))).bind fun x198 =>
     (A.guard (AV.bool false) true (A.not x198) (some (AV.tup []))).bind fun x199 =>
     (A.pick (AV.bool false) x199 (AV.bool false)).bind fun x200 =>
     (A.guard x200 false (some (AV.bool false)) (some (AV.tup []))).bind fun x201 =>
     (A.guard x200 false (some x201) (some (AV.tup []))).bind fun x202 =>
     ((A.lb (r191.1.getD 0 AV.undef)).bind fun _ => some (2)).bind fun p203 =>
          (A.guard x202 true ((A.lb (r191.1.getD 0 AV.undef)).bind fun c204 => A.part1 p203 c204) (some (AV.tup []))).bind fun x205 =>
     (A.guard x202 true (some (r191.1.getD 1 AV.undef)) (some (AV.tup []))).bind fun x206 =>
     (A.guard x202 true (A.quiet (m_word_Within [x205, (AV.int .i64 1), x206] r191.2) r191.2) (some (AV.tup []))).bind fun x207 =>
     (A.guard x202 true (A.not x207) (some (AV.tup []))).bind fun x208 =>
     (A.guard x200 false (A.pick x202 x208 (AV.bool false)) (some (AV.tup []))).bind fun x209 =>
     (A.pick x200 (AV.bool true) x209).bind fun x210 =>
     A.cond x210 (
      A.fin σ (AV.int .i64 1) r191.2) (
      ((A.lb (r191.1.getD 0 AV.undef)).bind fun _ => some (3)).bind fun p211 =>
      ((A.lb (r191.1.getD 0 AV.undef)).bind fun c212 => A.part1 p211 c212).bind fun x213 =>
      (A.lenS x213).bind fun x214 =>
      (A.loop (fun v215 s216 =>
        (A.lss (v215.getD 1 AV.undef) x214).bind fun x218 =>
        A.cond x218 (
         (A.iaddr 4 x213 (v215.getD 1 AV.undef)).bind fun x219 =>
         ((A.deref x219 s216).bind fun c220 => A.partA 0 4 c220).bind fun x221 =>
         (A.cells 4 x221).bind fun c222 =>
         (A.splice 0 c222 [(AV.int .i64 0), (AV.int .i64 0), (AV.int .i64 0), AV.nsl]).bind fun c223 =>
         (A.partA 0 4 c223).bind fun x224 =>
         (rec 38 [x224] s216).bind fun r225 =>
         (A.neq .i r225.1 (AV.int .i64 0)).bind fun x226 =>
         A.cond x226 (
          some (AX.ret, [r225.1, (v215.getD 1 AV.undef)], r225.2)) (
          (A.add (v215.getD 1 AV.undef) (AV.int .i64 1)).bind fun x227 =>
          some (AX.normal, [(v215.getD 0 AV.undef), x227], r225.2))) (
         some (AX.exit 2, [(v215.getD 0 AV.undef), (v215.getD 1 AV.undef)], s216))) [(AV.int .i64 0), (AV.int .i64 0)] r191.2).bind fun r228 =>
      bif r228.1 == AX.exit 2 then (
       A.fin σ (AV.int .i64 0) r228.2.2) else
      bif r228.1 == AX.ret then (
       A.fin σ (r228.2.1.getD 0 AV.undef) r228.2.2) else
      none))) (
    (A.eql .i x2 (AV.int .i64 6)).bind fun x229 =>
    (A.cond x229 (
     some ([(r152.1.getD 0 AV.undef), x229], r152.2)) (
     (A.eql .i x2 (AV.int .i64 7)).bind fun x231 =>
     (A.cond x231 (
      some ([(r152.1.getD 0 AV.undef), x231], r152.2)) (
      (A.eql .i x2 (AV.int .i64 8)).bind fun x233 =>
      some ([(r152.1.getD 0 AV.undef), x233], r152.2))).bind fun r232 =>
     some ([(r232.1.getD 0 AV.undef), (r232.1.getD 1 AV.undef)], r232.2))).bind fun r230 =>
    A.cond (r230.1.getD 1 AV.undef) (
     ((A.lb (r230.1.getD 0 AV.undef)).bind fun _ => some (3)).bind fun p234 =>
     ((A.lb (r230.1.getD 0 AV.undef)).bind fun c235 => A.part1 p234 c235).bind fun x236 =>
     (A.lenS x236).bind fun x237 =>
     (A.neq .i x237 (AV.int .i64 1)).bind fun x238 =>
     ((A.lb (r230.1.getD 0 AV.undef)).bind fun _ => some (0)).bind fun p239 =>
     ((A.lb (r230.1.getD 0 AV.undef)).bind fun c240 => A.part1 p239 c240).bind fun x241 =>
     (A.eql .i x241 (AV.int .i64 4)).bind fun x242 =>
     (A.cond x242 (
      ((A.lb (r230.1.getD 0 AV.undef)).bind fun _ => some (3)).bind fun p244 =>
      ((A.lb (r230.1.getD 0 AV.undef)).bind fun c245 => A.part1 p244 c245).bind fun x246 =>
      (A.lenS x246).bind fun x247 =>
      (A.lss x247 (AV.int .i64 2)).bind fun x248 =>
      some ([(r230.1.getD 0 AV.undef), x248], r230.2)) (
      some ([(r230.1.getD 0 AV.undef), x238], r230.2))).bind fun r243 =>
     (A.guard (r243.1.getD 1 AV.undef) false (some (AV.bool false)) (some (AV.tup []))).bind fun x249 =>
     (A.guard (r243.1.getD 1 AV.undef) false (A.not x249) (some (AV.tup []))).bind fun x250 =>
     (A.guard (r243.1.getD 1 AV.undef) false (some x250) (some (AV.tup []))).bind fun x251 =>
     ((A.lb (r243.1.getD 0 AV.undef)).bind fun _ => some (1)).bind fun p252 =>
          (A.guard x251 true ((A.lb (r243.1.getD 0 AV.undef)).bind fun c253 => A.part1 p252 c253) (some (AV.tup []))).bind fun x254 =>
     (A.guard x251 true (A.neq .i x254 (AV.int .i64 0)) (some (AV.tup []))).bind fun x255 =>
     (A.guard (r243.1.getD 1 AV.undef) false (A.pick x251 x255 (AV.bool false)) (some (AV.tup []))).bind fun x256 =>
     (A.pick (r243.1.getD 1 AV.undef) (AV.bool true) x256).bind fun x257 =>
     (A.guard x257 false (some (AV.bool false)) (some (AV.tup []))).bind fun x258 =>
     (A.guard x257 false (A.not x258) (some (AV.tup []))).bind fun x259 =>
     (A.guard x257 false (some x259) (some (AV.tup []))).bind fun x260 =>
     ((A.lb (r243.1.getD 0 AV.undef)).bind fun _ => some (2)).bind fun p261 =>
          (A.guard x260 true ((A.lb (r243.1.getD 0 AV.undef)).bind fun c262 => A.part1 p261 c262) (some (AV.tup []))).bind fun x263 =>
     (A.guard x260 true (A.neq .i x263 (AV.int .i64 0)) (some (AV.tup []))).bind fun x264 =>
     (A.guard x257 false (A.pick x260 x264 (AV.bool false)) (some (AV.tup []))).bind fun x265 =>
     (A.pick x257 (AV.bool true) x265).bind fun x266 =>
     A.cond x266 (
      A.fin σ (AV.int .i64 3) r243.2) (
      ((A.lb (r243.1.getD 0 AV.undef)).bind fun _ => some (0)).bind fun p267 =>
      ((A.lb (r243.1.getD 0 AV.undef)).bind fun c268 => A.part1 p267 c268).bind fun x269 =>
      (A.eql .i x269 (AV.int .i64 2)).bind fun x270 =>
      (A.cond x270 (
       some ([(r243.1.getD 0 AV.undef), (AV.int .i64 999)], r243.2)) (
       (A.eql .i x269 (AV.int .i64 3)).bind fun x272 =>
       (A.cond x272 (
        some ([(r243.1.getD 0 AV.undef), (AV.int .i64 999)], r243.2)) (
        some ([(r243.1.getD 0 AV.undef), (AV.int .i64 9999)], r243.2))).bind fun r273 =>
       some ([(r273.1.getD 0 AV.undef), (r273.1.getD 1 AV.undef)], r273.2))).bind fun r271 =>
      ((A.lb (r271.1.getD 0 AV.undef)).bind fun _ => some (1)).bind fun p274 =>
            (A.guard (AV.bool false) true ((A.lb (r271.1.getD 0 AV.undef)).bind fun c275 => A.part1 p274 c275) (some (AV.tup []))).bind fun x276 =>
      (A.guard (AV.bool false) true (some (r271.1.getD 1 AV.undef)) (some (AV.tup []))).bind fun x277 =>
      (A.guard (AV.bool false) true (A.quiet (m_word_Within [x276, (AV.int .i64 1), x277] r271.2) r271.2) (some (AV.tup []))).bind fun x278 =>
      (A.guard (AV.bool false) true (A.not x278) (some (AV.tup []))).bind fun x279 =>
      (A.pick (AV.bool false) x279 (AV.bool false)).bind fun x280 =>
      (A.guard x280 false (some (AV.bool false)) (some (AV.tup []))).bind fun x281 =>
      (A.guard x280 false (some x281) (some (AV.tup []))).bind fun x282 =>
      ((A.lb (r271.1.getD 0 AV.undef)).bind fun _ => some (2)).bind fun p283 =>
            (A.guard x282 true ((A.lb (r271.1.getD 0 AV.undef)).bind fun c284 => A.part1 p283 c284) (some (AV.tup []))).bind fun x285 =>
      (A.guard x282 true (some (r271.1.getD 1 AV.undef)) (some (AV.tup []))).bind fun x286 =>
      (A.guard x282 true (A.quiet (m_word_Within [x285, (AV.int .i64 1), x286] r271.2) r271.2) (some (AV.tup []))).bind fun x287 =>
      (A.guard x282 true (A.not x287) (some (AV.tup []))).bind fun x288 =>
      (A.guard x280 false (A.pick x282 x288 (AV.bool false)) (some (AV.tup []))).bind fun x289 =>
      (A.pick x280 (AV.bool true) x289).bind fun x290 =>
      A.cond x290 (
       A.fin σ (AV.int .i64 1) r271.2) (
       ((A.lb (r271.1.getD 0 AV.undef)).bind fun _ => some (3)).bind fun p291 =>
       ((A.lb (r271.1.getD 0 AV.undef)).bind fun c292 => A.part1 p291 c292).bind fun x293 =>
       (A.lenS x293).bind fun x294 =>
       (A.loop (fun v295 s296 =>
         (A.lss (v295.getD 1 AV.undef) x294).bind fun x298 =>
         A.cond x298 (
          (A.iaddr 4 x293 (v295.getD 1 AV.undef)).bind fun x299 =>
          ((A.deref x299 s296).bind fun c300 => A.partA 0 4 c300).bind fun x301 =>
          (A.cells 4 x301).bind fun c302 =>
          (A.splice 0 c302 [(AV.int .i64 0), (AV.int .i64 0), (AV.int .i64 0), AV.nsl]).bind fun c303 =>
          (A.partA 0 4 c303).bind fun x304 =>
          (rec 38 [x304] s296).bind fun r305 =>
          (A.neq .i r305.1 (AV.int .i64 0)).bind fun x306 =>
          A.cond x306 (
           some (AX.ret, [r305.1, (v295.getD 1 AV.undef)], r305.2)) (
           (A.add (v295.getD 1 AV.undef) (AV.int .i64 1)).bind fun x307 =>
           some (AX.normal, [(v295.getD 0 AV.undef), x307], r305.2))) (
          some (AX.exit 2, [(v295.getD 0 AV.undef), (v295.getD 1 AV.undef)], s296))) [(AV.int .i64 0), (AV.int .i64 0)] r271.2).bind fun r308 =>
       bif r308.1 == AX.exit 2 then (
        A.fin σ (AV.int .i64 0) r308.2.2) else
       bif r308.1 == AX.ret then (
        A.fin σ (r308.2.1.getD 0 AV.undef) r308.2.2) else
       none))) (
     (A.eql .i x2 (AV.int .i64 9)).bind fun x309 =>
     A.cond x309 (
      ((A.lb (r230.1.getD 0 AV.undef)).bind fun _ => some (3)).bind fun p310 =>
      ((A.lb (r230.1.getD 0 AV.undef)).bind fun c311 => A.part1 p310 c311).bind fun x312 =>
      (A.lenS x312).bind fun x313 =>
      (A.neq .i x313 (AV.int .i64 1)).bind fun x314 =>
      ((A.lb (r230.1.getD 0 AV.undef)).bind fun _ => some (0)).bind fun p315 =>
      ((A.lb (r230.1.getD 0 AV.undef)).bind fun c316 => A.part1 p315 c316).bind fun x317 =>
      (A.eql .i x317 (AV.int .i64 4)).bind fun x318 =>
      (A.cond x318 (
       ((A.lb (r230.1.getD 0 AV.undef)).bind fun _ => some (3)).bind fun p320 =>
       ((A.lb (r230.1.getD 0 AV.undef)).bind fun c321 => A.part1 p320 c321).bind fun x322 =>
       (A.lenS x322).bind fun x323 =>
       (A.lss x323 (AV.int .i64 2)).bind fun x324 =>
       some ([(r230.1.getD 0 AV.undef), x324], r230.2)) (
       some ([(r230.1.getD 0 AV.undef), x314], r230.2))).bind fun r319 =>
      (A.guard (r319.1.getD 1 AV.undef) false (some (AV.bool true)) (some (AV.tup []))).bind fun x325 =>
      (A.guard (r319.1.getD 1 AV.undef) false (A.not x325) (some (AV.tup []))).bind fun x326 =>
      (A.guard (r319.1.getD 1 AV.undef) false (some x326) (some (AV.tup []))).bind fun x327 =>
      ((A.lb (r319.1.getD 0 AV.undef)).bind fun _ => some (1)).bind fun p328 =>
            (A.guard x327 true ((A.lb (r319.1.getD 0 AV.undef)).bind fun c329 => A.part1 p328 c329) (some (AV.tup []))).bind fun x330 =>
      (A.guard x327 true (A.neq .i x330 (AV.int .i64 0)) (some (AV.tup []))).bind fun x331 =>
      (A.guard (r319.1.getD 1 AV.undef) false (A.pick x327 x331 (AV.bool false)) (some (AV.tup []))).bind fun x332 =>
      (A.pick (r319.1.getD 1 AV.undef) (AV.bool true) x332).bind fun x333 =>
      (A.guard x333 false (some (AV.bool true)) (some (AV.tup []))).bind fun x334 =>
      (A.guard x333 false (A.not x334) (some (AV.tup []))).bind fun x335 =>
      (A.guard x333 false (some x335) (some (AV.tup []))).bind fun x336 =>
      ((A.lb (r319.1.getD 0 AV.undef)).bind fun _ => some (2)).bind fun p337 =>
            (A.guard x336 true ((A.lb (r319.1.getD 0 AV.undef)).bind fun c338 => A.part1 p337 c338) (some (AV.tup []))).bind fun x339 =>
      (A.guard x336 true (A.neq .i x339 (AV.int .i64 0)) (some (AV.tup []))).bind fun x340 =>
      (A.guard x333 false (A.pick x336 x340 (AV.bool false)) (some (AV.tup []))).bind fun x341 =>
      (A.pick x333 (AV.bool true) x341).bind fun x342 =>
      A.cond x342 (
       A.fin σ (AV.int .i64 3) r319.2) (
       ((A.lb (r319.1.getD 0 AV.undef)).bind fun _ => some (0)).bind fun p343 =>
       ((A.lb (r319.1.getD 0 AV.undef)).bind fun c344 => A.part1 p343 c344).bind fun x345 =>
       (A.eql .i x345 (AV.int .i64 2)).bind fun x346 =>
       (A.cond x346 (
        some ([(r319.1.getD 0 AV.undef), (AV.int .i64 999)], r319.2)) (
        (A.eql .i x345 (AV.int .i64 3)).bind fun x348 =>
        (A.cond x348 (
         some ([(r319.1.getD 0 AV.undef), (AV.int .i64 999)], r319.2)) (
         some ([(r319.1.getD 0 AV.undef), (AV.int .i64 9999)], r319.2))).bind fun r349 =>
        some ([(r349.1.getD 0 AV.undef), (r349.1.getD 1 AV.undef)], r349.2))).bind fun r347 =>
       ((A.lb (r347.1.getD 0 AV.undef)).bind fun _ => some (1)).bind fun p350 =>
              (A.guard (AV.bool true) true ((A.lb (r347.1.getD 0 AV.undef)).bind fun c351 => A.part1 p350 c351) (some (AV.tup []))).bind fun x352 =>
       (A.guard (AV.bool true) true (some (r347.1.getD 1 AV.undef)) (some (AV.tup []))).bind fun x353 =>
       (A.guard (AV.bool true) true (A.quiet (m_word_Within [x352, (AV.int .i64 1), x353] r347.2) r347.2) (some (AV.tup []))).bind fun x354 =>
       (A.guard (AV.bool true) true (A.not x354) (some (AV.tup []))).bind fun x355 =>
       (A.pick (AV.bool true) x355 (AV.bool false)).bind fun x356 =>
       (A.guard x356 false (some (AV.bool true)) (some (AV.tup []))).bind fun x357 =>
       (A.guard x356 false (some x357) (some (AV.tup []))).bind fun x358 =>
       ((A.lb (r347.1.getD 0 AV.undef)).bind fun _ => some (2)).bind fun p359 =>
              (A.guard x358 true ((A.lb (r347.1.getD 0 AV.undef)).bind fun c360 => A.part1 p359 c360) (some (AV.tup []))).bind fun x361 =>
       (A.guard x358 true (some (r347.1.getD 1 AV.undef)) (some (AV.tup []))).bind fun x362 =>
       (A.guard x358 true (A.quiet (m_word_Within [x361, (AV.int .i64 1), x362] r347.2) r347.2) (some (AV.tup []))).bind fun x363 =>
       (A.guard x358 true (A.not x363) (some (AV.tup []))).bind fun x364 =>
       (A.guard x356 false (A.pick x358 x364 (AV.bool false)) (some (AV.tup []))).bind fun x365 =>
       (A.pick x356 (AV.bool true) x365).bind fun x366 =>
       A.cond x366 (
        A.fin σ (AV.int .i64 1) r347.2) (
        ((A.lb (r347.1.getD 0 AV.undef)).bind fun _ => some (3)).bind fun p367 =>
        ((A.lb (r347.1.getD 0 AV.undef)).bind fun c368 => A.part1 p367 c368).bind fun x369 =>
        (A.lenS x369).bind fun x370 =>
        (A.loop (fun v371 s372 =>
          (A.lss (v371.getD 1 AV.undef) x370).bind fun x374 =>
          A.cond x374 (
           (A.iaddr 4 x369 (v371.getD 1 AV.undef)).bind fun x375 =>
           ((A.deref x375 s372).bind fun c376 => A.partA 0 4 c376).bind fun x377 =>
           (A.cells 4 x377).bind fun c378 =>
           (A.splice 0 c378 [(AV.int .i64 0), (AV.int .i64 0), (AV.int .i64 0), AV.nsl]).bind fun c379 =>
           (A.partA 0 4 c379).bind fun x380 =>
           (rec 38 [x380] s372).bind fun r381 =>
           (A.neq .i r381.1 (AV.int .i64 0)).bind fun x382 =>
           A.cond x382 (
            some (AX.ret, [r381.1, (v371.getD 1 AV.undef)], r381.2)) (
            (A.add (v371.getD 1 AV.undef) (AV.int .i64 1)).bind fun x383 =>
            some (AX.normal, [(v371.getD 0 AV.undef), x383], r381.2))) (
           some (AX.exit 2, [(v371.getD 0 AV.undef), (v371.getD 1 AV.undef)], s372))) [(AV.int .i64 0), (AV.int .i64 0)] r347.2).bind fun r384 =>
        bif r384.1 == AX.exit 2 then (
         A.fin σ (AV.int .i64 0) r384.2.2) else
        bif r384.1 == AX.ret then (
         A.fin σ (r384.2.1.getD 0 AV.undef) r384.2.2) else
        none))) (
      A.fin σ (AV.int .i64 4) r230.2)))))
noncomputable def R_pick_check (rec : Nat → List AV → Heap → Option (AV × Heap)) : List (Nat × (List AV → Heap → Option (AV × Heap))) := [(38, A.wrap true [(.a [.k, .k, .k, (.s 4)])] .k (A.ar1 (r_pick_check rec)))]
noncomputable def m_pick_check : List AV → Heap → Option (AV × Heap) := fuel (R_pick_check) 2000000 38
noncomputable def r_pick_Check (a0 : AV) (σ : Heap) : Option (AV × Heap) :=
 (A.cells 4 a0).bind fun c1 =>
 (A.partA 0 4 c1).bind fun x2 =>
 (m_pick_size [x2] σ).bind fun r3 =>
 (A.ext 0 r3.1).bind fun x4 =>
 (A.ext 1 r3.1).bind fun x5 =>
 (A.gtr x4 (AV.int .i64 200)).bind fun x6 =>
 (A.guard x6 false (some x5) (some (AV.tup []))).bind fun x7 =>
 (A.guard x6 false (A.gtr x7 (AV.int .i64 12)) (some (AV.tup []))).bind fun x8 =>
 (A.pick x6 (AV.bool true) x8).bind fun x9 =>
 A.cond x9 (
  A.fin σ (AV.int .i64 2) r3.2) (
  (A.partA 0 4 c1).bind fun x10 =>
  (m_pick_check [x10] r3.2).bind fun r11 =>
  A.fin σ r11.1 r11.2)
noncomputable def m_pick_Check : List AV → Heap → Option (AV × Heap) := A.wrap true [(.a [.k, .k, .k, (.s 4)])] .k (A.ar1 r_pick_Check)
noncomputable def r_pick_text (rec : Nat → List AV → Heap → Option (AV × Heap)) (a0 : AV) (σ : Heap) : Option (AV × Heap) :=
 (A.cells 4 a0).bind fun c1 =>
 (A.part1 1 c1).bind fun x2 =>
 (A.quiet (m_strconv_Itoa [x2] σ) σ).bind fun x3 =>
 (A.part1 2 c1).bind fun x4 =>
 (A.quiet (m_strconv_Itoa [x4] σ) σ).bind fun x5 =>
 (A.part1 0 c1).bind fun x6 =>
 (A.eql .i x6 (AV.int .i64 1)).bind fun x7 =>
 A.cond x7 (
  (A.eql .z x3 x5).bind fun x8 =>
  A.cond x8 (
   A.fin σ x3 σ) (
   (A.add x3 (AV.str ⟨#[32, 116, 104, 114, 117, 32]⟩)).bind fun x9 =>
   (A.add x9 x5).bind fun x10 =>
   A.fin σ x10 σ)) (
  (A.eql .i x6 (AV.int .i64 2)).bind fun x11 =>
  A.cond x11 (
   (A.add (AV.str ⟨#[103, 114, 111, 117, 112, 32]⟩) x3).bind fun x12 =>
   A.fin σ x12 σ) (
   (A.eql .i x6 (AV.int .i64 3)).bind fun x13 =>
   A.cond x13 (
    (A.add (AV.str ⟨#[112, 114, 101, 115, 101, 116, 32]⟩) x3).bind fun x14 =>
    A.fin σ x14 σ) (
    (A.eql .i x6 (AV.int .i64 6)).bind fun x15 =>
    A.cond x15 (
     (A.part1 3 c1).bind fun x16 =>
     (A.iaddr 4 x16 (AV.int .i64 0)).bind fun x17 =>
     ((A.deref x17 σ).bind fun c18 => A.partA 0 4 c18).bind fun x19 =>
     (rec 461 [x19] σ).bind fun r20 =>
     (A.add (AV.str ⟨#[111, 100, 100, 32]⟩) r20.1).bind fun x21 =>
     A.fin σ x21 r20.2) (
     (A.eql .i x6 (AV.int .i64 7)).bind fun x22 =>
     A.cond x22 (
      (A.part1 3 c1).bind fun x23 =>
      (A.iaddr 4 x23 (AV.int .i64 0)).bind fun x24 =>
      ((A.deref x24 σ).bind fun c25 => A.partA 0 4 c25).bind fun x26 =>
      (rec 461 [x26] σ).bind fun r27 =>
      (A.add (AV.str ⟨#[101, 118, 101, 110, 32]⟩) r27.1).bind fun x28 =>
      A.fin σ x28 r27.2) (
      (A.eql .i x6 (AV.int .i64 8)).bind fun x29 =>
      A.cond x29 (
       (A.part1 3 c1).bind fun x30 =>
       (A.iaddr 4 x30 (AV.int .i64 0)).bind fun x31 =>
       ((A.deref x31 σ).bind fun c32 => A.partA 0 4 c32).bind fun x33 =>
       (rec 461 [x33] σ).bind fun r34 =>
       (A.add (AV.str ⟨#[98, 97, 99, 107, 32]⟩) r34.1).bind fun x35 =>
       A.fin σ x35 r34.2) (
       (A.eql .i x6 (AV.int .i64 9)).bind fun x36 =>
       A.cond x36 (
        (A.add (AV.str ⟨#[101, 118, 101, 114, 121, 32]⟩) x3).bind fun x37 =>
        (A.add x37 (AV.str ⟨#[32, 102, 114, 111, 109, 32]⟩)).bind fun x38 =>
        (A.add x38 x5).bind fun x39 =>
        (A.add x39 (AV.str ⟨#[32]⟩)).bind fun x40 =>
        (A.part1 3 c1).bind fun x41 =>
        (A.iaddr 4 x41 (AV.int .i64 0)).bind fun x42 =>
        ((A.deref x42 σ).bind fun c43 => A.partA 0 4 c43).bind fun x44 =>
        (rec 461 [x44] σ).bind fun r45 =>
        (A.add x40 r45.1).bind fun x46 =>
        A.fin σ x46 r45.2) (
        (A.part1 3 c1).bind fun x47 =>
        (A.iaddr 4 x47 (AV.int .i64 0)).bind fun x48 =>
        ((A.deref x48 σ).bind fun c49 => A.partA 0 4 c49).bind fun x50 =>
        (A.cells 4 x50).bind fun c51 =>
        (A.splice 0 c51 [(AV.int .i64 0), (AV.int .i64 0), (AV.int .i64 0), AV.nsl]).bind fun c52 =>
        (A.partA 0 4 c52).bind fun x53 =>
        (rec 461 [x53] σ).bind fun r54 =>
        (A.part1 0 c1).bind fun x55 =>
        (A.eql .i x55 (AV.int .i64 5)).bind fun x56 =>
        (A.cond x56 (
         some ([(AV.lbx c1), (AV.str ⟨#[32, 45, 32]⟩), (AV.lbx c52)], r54.2)) (
         some ([(AV.lbx c1), (AV.str ⟨#[32, 43, 32]⟩), (AV.lbx c52)], r54.2))).bind fun r57 =>
        ((A.lb (r57.1.getD 2 AV.undef)).bind fun _ => some (0)).bind fun p58 =>
        ((A.lb (r57.1.getD 2 AV.undef)).bind fun c59 => A.part1 p58 c59).bind fun x60 =>
        (A.eql .i x60 (AV.int .i64 5)).bind fun x61 =>
        ((A.lb (r57.1.getD 0 AV.undef)).bind fun _ => some (0)).bind fun p62 =>
                (A.guard x61 false ((A.lb (r57.1.getD 0 AV.undef)).bind fun c63 => A.part1 p62 c63) (some (AV.tup []))).bind fun x64 =>
        (A.guard x61 false (A.eql .i x64 (AV.int .i64 5)) (some (AV.tup []))).bind fun x65 =>
        (A.pick x61 (AV.bool true) x65).bind fun x66 =>
        (A.cond x66 (
         ((A.lb (r57.1.getD 2 AV.undef)).bind fun c68 => A.partA 0 4 c68).bind fun x69 =>
         (rec 462 [x69] r57.2).bind fun r70 =>
         some ([(r57.1.getD 0 AV.undef), r70.1], r70.2)) (
         some ([(r57.1.getD 0 AV.undef), r54.1], r57.2))).bind fun r67 =>
        ((A.lb (r67.1.getD 0 AV.undef)).bind fun _ => some (3)).bind fun p71 =>
        ((A.lb (r67.1.getD 0 AV.undef)).bind fun c72 => A.part1 p71 c72).bind fun x73 =>
        (A.sliceS 4 x73 (some (AV.int .i64 1)) none r67.2).bind fun x74 =>
        (A.lenS x74).bind fun x75 =>
        (A.loop (fun v76 s77 =>
          (A.lss (v76.getD 1 AV.undef) x75).bind fun x79 =>
          A.cond x79 (
           (A.iaddr 4 x74 (v76.getD 1 AV.undef)).bind fun x80 =>
           ((A.deref x80 s77).bind fun c81 => A.partA 0 4 c81).bind fun x82 =>
           (A.cells 4 x82).bind fun c83 =>
           (A.splice 0 c83 [(AV.int .i64 0), (AV.int .i64 0), (AV.int .i64 0), AV.nsl]).bind fun c84 =>
           (A.partA 0 4 c84).bind fun x85 =>
           (rec 461 [x85] s77).bind fun r86 =>
           (A.add (r57.1.getD 1 AV.undef) r86.1).bind fun x87 =>
           (A.add (v76.getD 0 AV.undef) x87).bind fun x88 =>
           (A.add (v76.getD 1 AV.undef) (AV.int .i64 1)).bind fun x89 =>
           some (AX.normal, [x88, x89], r86.2)) (
           some (AX.exit 1, [(v76.getD 0 AV.undef), (v76.getD 1 AV.undef)], s77))) [(r67.1.getD 1 AV.undef), (AV.int .i64 0)] r67.2).bind fun r90 =>
        bif r90.1 == AX.exit 1 then (
         A.fin σ (r90.2.1.getD 0 AV.undef) r90.2.2) else
        none)))))))
noncomputable def r_pick_arg (rec : Nat → List AV → Heap → Option (AV × Heap)) (a0 : AV) (σ : Heap) : Option (AV × Heap) :=
 (A.cells 4 a0).bind fun c1 =>
 (A.part1 0 c1).bind fun x2 =>
 (A.eql .i x2 (AV.int .i64 4)).bind fun x3 =>
 (A.guard x3 false (A.part1 0 c1) (some (AV.tup []))).bind fun x4 =>
 (A.guard x3 false (A.eql .i x4 (AV.int .i64 5)) (some (AV.tup []))).bind fun x5 =>
 (A.pick x3 (AV.bool true) x5).bind fun x6 =>
 A.cond x6 (
  (A.partA 0 4 c1).bind fun x7 =>
  (rec 462 [x7] σ).bind fun r8 =>
  (A.add (AV.str ⟨#[40]⟩) r8.1).bind fun x9 =>
  (A.add x9 (AV.str ⟨#[41]⟩)).bind fun x10 =>
  A.fin σ x10 r8.2) (
  (A.partA 0 4 c1).bind fun x11 =>
  (rec 462 [x11] σ).bind fun r12 =>
  A.fin σ r12.1 r12.2)
noncomputable def R_pick_text (rec : Nat → List AV → Heap → Option (AV × Heap)) : List (Nat × (List AV → Heap → Option (AV × Heap))) := [(462, A.wrap true [(.a [.k, .k, .k, (.s 4)])] .k (A.ar1 (r_pick_text rec))), (461, A.wrap true [(.a [.k, .k, .k, (.s 4)])] .k (A.ar1 (r_pick_arg rec)))]
noncomputable def m_pick_text : List AV → Heap → Option (AV × Heap) := fuel (R_pick_text) 2000000 462
noncomputable def r_pick_Print (a0 : AV) (σ : Heap) : Option (AV × Heap) :=
 (A.cells 4 a0).bind fun c1 =>
 (A.partA 0 4 c1).bind fun x2 =>
 (m_pick_Check [x2] σ).bind fun r3 =>
 (A.neq .i r3.1 (AV.int .i64 0)).bind fun x4 =>
 A.cond x4 (
  A.fin σ (AV.tup [(AV.str ⟨#[]⟩), r3.1]) r3.2) (
  (A.partA 0 4 c1).bind fun x5 =>
  (m_pick_text [x5] r3.2).bind fun r6 =>
  (A.lenZ r6.1).bind fun x7 =>
  (A.gtr x7 (AV.int .i64 4000)).bind fun x8 =>
  A.cond x8 (
   A.fin σ (AV.tup [(AV.str ⟨#[]⟩), (AV.int .i64 2)]) r6.2) (
   A.fin σ (AV.tup [r6.1, (AV.int .i64 0)]) r6.2))
noncomputable def m_pick_Print : List AV → Heap → Option (AV × Heap) := A.wrap true [(.a [.k, .k, .k, (.s 4)])] .k (A.ar1 r_pick_Print)
end Go.Proofs.YtkdafecbdncmiaaDoor

namespace Go.Proofs.YtkdafecbdncmiaaDoor
set_option linter.unusedSectionVars false
set_option linter.unusedSimpArgs false
set_option linter.unusedVariables false
set_option maxRecDepth 100000
noncomputable def r_R1_Within (a0 a1 a2 : AV) (σ : Heap) : Option (AV × Heap) :=
 (A.geq a0 a1).bind fun x1 =>
 (A.guard x1 true (some a0) (some (AV.tup []))).bind fun x2 =>
 (A.guard x1 true (some a2) (some (AV.tup []))).bind fun x3 =>
 (A.guard x1 true (A.leq x2 x3) (some (AV.tup []))).bind fun x4 =>
 (A.pick x1 x4 (AV.bool false)).bind fun x5 =>
 A.fin σ x5 σ
noncomputable def m_R1_Within : List AV → Heap → Option (AV × Heap) := A.wrap true [] .k (A.ar3 r_R1_Within)
end Go.Proofs.YtkdafecbdncmiaaDoor

namespace Go.Proofs.YtkdafecbdncmiaaDoor
set_option linter.unusedSectionVars false
set_option linter.unusedSimpArgs false
set_option linter.unusedVariables false
set_option maxRecDepth 100000
noncomputable def r_R4_parts (rec : Nat → List AV → Heap → Option (AV × Heap)) (a0 a1 : AV) (σ : Heap) : Option (AV × Heap) :=
 (A.cells 4 a0).bind fun c1 =>
 (A.gtr a1 (AV.int .i64 12)).bind fun x2 =>
 A.cond x2 (
  A.fin σ (AV.tup [(AV.int .i64 1), a1]) σ) (
  (A.part1 3 c1).bind fun x3 =>
  (A.lenS x3).bind fun x4 =>
  (A.loop (fun v5 s6 =>
    (A.lss (v5.getD 2 AV.undef) x4).bind fun x8 =>
    A.cond x8 (
     (A.iaddr 4 x3 (v5.getD 2 AV.undef)).bind fun x9 =>
     ((A.deref x9 s6).bind fun c10 => A.partA 0 4 c10).bind fun x11 =>
     (A.cells 4 x11).bind fun c12 =>
     (A.splice 0 c12 [(AV.int .i64 0), (AV.int .i64 0), (AV.int .i64 0), AV.nsl]).bind fun c13 =>
     (A.partA 0 4 c13).bind fun x14 =>
     (A.add a1 (AV.int .i64 1)).bind fun x15 =>
     (rec 46 [x14, x15] s6).bind fun r16 =>
     (A.ext 0 r16.1).bind fun x17 =>
     (A.ext 1 r16.1).bind fun x18 =>
     (A.add (v5.getD 0 AV.undef) x17).bind fun x19 =>
     (A.min x19 (AV.int .i64 201)).bind fun x20 =>
     (A.max (v5.getD 1 AV.undef) x18).bind fun x21 =>
     (A.add (v5.getD 2 AV.undef) (AV.int .i64 1)).bind fun x22 =>
     some (AX.normal, [x20, x21, x22], r16.2)) (
     some (AX.exit 0, [(v5.getD 0 AV.undef), (v5.getD 1 AV.undef), (v5.getD 2 AV.undef)], s6))) [(AV.int .i64 1), a1, (AV.int .i64 0)] σ).bind fun r23 =>
  bif r23.1 == AX.exit 0 then (
   A.fin σ (AV.tup [(r23.2.1.getD 0 AV.undef), (r23.2.1.getD 1 AV.undef)]) r23.2.2) else
  none)
noncomputable def R_R4_parts (rec : Nat → List AV → Heap → Option (AV × Heap)) : List (Nat × (List AV → Heap → Option (AV × Heap))) := [(46, A.wrap true [(.a [.k, .k, .k, (.s 4)])] .k (A.ar2 (r_R4_parts rec)))]
noncomputable def m_R4_parts : List AV → Heap → Option (AV × Heap) := fuel (R_R4_parts) 2000000 46
noncomputable def r_R4_used (a0 : AV) (σ : Heap) : Option (AV × Heap) :=
 (A.eql .i a0 (AV.int .i64 1)).bind fun x1 =>
 A.cond x1 (
  A.fin σ (AV.tup [(AV.bool true), (AV.bool true), (AV.int .i64 0)]) σ) (
  (A.eql .i a0 (AV.int .i64 2)).bind fun x2 =>
  (A.cond x2 (
   some ([x2], σ)) (
   (A.eql .i a0 (AV.int .i64 3)).bind fun x4 =>
   some ([x4], σ))).bind fun r3 =>
  A.cond (r3.1.getD 0 AV.undef) (
   A.fin σ (AV.tup [(AV.bool true), (AV.bool false), (AV.int .i64 0)]) r3.2) (
   (A.eql .i a0 (AV.int .i64 4)).bind fun x5 =>
   A.cond x5 (
    A.fin σ (AV.tup [(AV.bool false), (AV.bool false), (AV.int .i64 (-1))]) r3.2) (
    (A.eql .i a0 (AV.int .i64 5)).bind fun x6 =>
    A.cond x6 (
     A.fin σ (AV.tup [(AV.bool false), (AV.bool false), (AV.int .i64 2)]) r3.2) (
     (A.eql .i a0 (AV.int .i64 9)).bind fun x7 =>
     A.cond x7 (
      A.fin σ (AV.tup [(AV.bool true), (AV.bool true), (AV.int .i64 1)]) r3.2) (
      A.fin σ (AV.tup [(AV.bool false), (AV.bool false), (AV.int .i64 1)]) r3.2)))))
noncomputable def m_R4_used : List AV → Heap → Option (AV × Heap) := A.wrap true [] .k (A.ar1 r_R4_used)
noncomputable def r_R4_checkPart (rec : Nat → List AV → Heap → Option (AV × Heap)) (a0 : AV) (σ : Heap) : Option (AV × Heap) :=
 (A.cells 4 a0).bind fun c1 =>
 (A.part1 0 c1).bind fun x2 =>
 (m_R1_Within [x2, (AV.int .i64 1), (AV.int .i64 9)] σ).bind fun r3 =>
 (A.not r3.1).bind fun x4 =>
 A.cond x4 (
  A.fin σ (AV.int .i64 4) r3.2) (
  (A.part1 0 c1).bind fun x5 =>
  (m_R4_used [x5] r3.2).bind fun r6 =>
  (A.ext 0 r6.1).bind fun x7 =>
  (A.ext 1 r6.1).bind fun x8 =>
  (A.ext 2 r6.1).bind fun x9 =>
  (A.not x7).bind fun x10 =>
  (A.guard x10 true (A.part1 1 c1) (some (AV.tup []))).bind fun x11 =>
  (A.guard x10 true (A.neq .i x11 (AV.int .i64 0)) (some (AV.tup []))).bind fun x12 =>
  (A.pick x10 x12 (AV.bool false)).bind fun x13 =>
  (A.guard x13 false (some x8) (some (AV.tup []))).bind fun x14 =>
  (A.guard x13 false (A.not x14) (some (AV.tup []))).bind fun x15 =>
  (A.guard x13 false (some x15) (some (AV.tup []))).bind fun x16 =>
  (A.guard x16 true (A.part1 2 c1) (some (AV.tup []))).bind fun x17 =>
  (A.guard x16 true (A.neq .i x17 (AV.int .i64 0)) (some (AV.tup []))).bind fun x18 =>
  (A.guard x13 false (A.pick x16 x18 (AV.bool false)) (some (AV.tup []))).bind fun x19 =>
  (A.pick x13 (AV.bool true) x19).bind fun x20 =>
  (A.guard x20 false (some x9) (some (AV.tup []))).bind fun x21 =>
  (A.guard x20 false (A.geq x21 (AV.int .i64 0)) (some (AV.tup []))).bind fun x22 =>
  (A.guard x20 false (some x22) (some (AV.tup []))).bind fun x23 =>
  (A.guard x23 true (A.part1 3 c1) (some (AV.tup []))).bind fun x24 =>
  (A.guard x23 true (A.lenS x24) (some (AV.tup []))).bind fun x25 =>
  (A.guard x23 true (some x9) (some (AV.tup []))).bind fun x26 =>
  (A.guard x23 true (A.neq .i x25 x26) (some (AV.tup []))).bind fun x27 =>
  (A.guard x20 false (A.pick x23 x27 (AV.bool false)) (some (AV.tup []))).bind fun x28 =>
  (A.pick x20 (AV.bool true) x28).bind fun x29 =>
  (A.guard x29 false (some x9) (some (AV.tup []))).bind fun x30 =>
  (A.guard x29 false (A.lss x30 (AV.int .i64 0)) (some (AV.tup []))).bind fun x31 =>
  (A.guard x29 false (some x31) (some (AV.tup []))).bind fun x32 =>
  (A.guard x32 true (A.part1 3 c1) (some (AV.tup []))).bind fun x33 =>
  (A.guard x32 true (A.lenS x33) (some (AV.tup []))).bind fun x34 =>
  (A.guard x32 true (A.lss x34 (AV.int .i64 2)) (some (AV.tup []))).bind fun x35 =>
  (A.guard x29 false (A.pick x32 x35 (AV.bool false)) (some (AV.tup []))).bind fun x36 =>
  (A.pick x29 (AV.bool true) x36).bind fun x37 =>
  A.cond x37 (
   A.fin σ (AV.int .i64 3) r6.2) (
   (A.part1 0 c1).bind fun x38 =>
   (A.eql .i x38 (AV.int .i64 2)).bind fun x39 =>
   (A.cond x39 (
    some ([(AV.lbx c1), (AV.int .i64 999)], r6.2)) (
    (A.eql .i x38 (AV.int .i64 3)).bind fun x41 =>
    (A.cond x41 (
     some ([(AV.lbx c1), (AV.int .i64 999)], r6.2)) (
     some ([(AV.lbx c1), (AV.int .i64 9999)], r6.2))).bind fun r42 =>
    some ([(r42.1.getD 0 AV.undef), (r42.1.getD 1 AV.undef)], r42.2))).bind fun r40 =>
   ((A.lb (r40.1.getD 0 AV.undef)).bind fun _ => some (1)).bind fun p43 =>
      (A.guard x7 true ((A.lb (r40.1.getD 0 AV.undef)).bind fun c44 => A.part1 p43 c44) (some (AV.tup []))).bind fun x45 =>
   (A.guard x7 true (some (r40.1.getD 1 AV.undef)) (some (AV.tup []))).bind fun x46 =>
   (A.guard x7 true (A.quiet (m_R1_Within [x45, (AV.int .i64 1), x46] r40.2) r40.2) (some (AV.tup []))).bind fun x47 =>
   (A.guard x7 true (A.not x47) (some (AV.tup []))).bind fun x48 =>
   (A.pick x7 x48 (AV.bool false)).bind fun x49 =>
   (A.guard x49 false (some x8) (some (AV.tup []))).bind fun x50 =>
   (A.guard x49 false (some x50) (some (AV.tup []))).bind fun x51 =>
   ((A.lb (r40.1.getD 0 AV.undef)).bind fun _ => some (2)).bind fun p52 =>
      (A.guard x51 true ((A.lb (r40.1.getD 0 AV.undef)).bind fun c53 => A.part1 p52 c53) (some (AV.tup []))).bind fun x54 =>
   (A.guard x51 true (A.quiet (m_R1_Within [x54, (AV.int .i64 1), (AV.int .i64 9999)] r40.2) r40.2) (some (AV.tup []))).bind fun x55 =>
   (A.guard x51 true (A.not x55) (some (AV.tup []))).bind fun x56 =>
   (A.guard x49 false (A.pick x51 x56 (AV.bool false)) (some (AV.tup []))).bind fun x57 =>
   (A.pick x49 (AV.bool true) x57).bind fun x58 =>
   A.cond x58 (
    A.fin σ (AV.int .i64 1) r40.2) (
    ((A.lb (r40.1.getD 0 AV.undef)).bind fun _ => some (3)).bind fun p59 =>
    ((A.lb (r40.1.getD 0 AV.undef)).bind fun c60 => A.part1 p59 c60).bind fun x61 =>
    (A.lenS x61).bind fun x62 =>
    (A.loop (fun v63 s64 =>
      (A.lss (v63.getD 1 AV.undef) x62).bind fun x66 =>
      A.cond x66 (
       (A.iaddr 4 x61 (v63.getD 1 AV.undef)).bind fun x67 =>
       ((A.deref x67 s64).bind fun c68 => A.partA 0 4 c68).bind fun x69 =>
       (A.cells 4 x69).bind fun c70 =>
       (A.splice 0 c70 [(AV.int .i64 0), (AV.int .i64 0), (AV.int .i64 0), AV.nsl]).bind fun c71 =>
       (A.partA 0 4 c71).bind fun x72 =>
       (rec 48 [x72] s64).bind fun r73 =>
       (A.neq .i r73.1 (AV.int .i64 0)).bind fun x74 =>
       A.cond x74 (
        some (AX.ret, [r73.1, (v63.getD 1 AV.undef)], r73.2)) (
        (A.add (v63.getD 1 AV.undef) (AV.int .i64 1)).bind fun x75 =>
        some (AX.normal, [(v63.getD 0 AV.undef), x75], r73.2))) (
       some (AX.exit 1, [(v63.getD 0 AV.undef), (v63.getD 1 AV.undef)], s64))) [(AV.int .i64 0), (AV.int .i64 0)] r40.2).bind fun r76 =>
    bif r76.1 == AX.exit 1 then (
     A.fin σ (AV.int .i64 0) r76.2.2) else
    bif r76.1 == AX.ret then (
     A.fin σ (r76.2.1.getD 0 AV.undef) r76.2.2) else
    none)))
noncomputable def R_R4_checkPart (rec : Nat → List AV → Heap → Option (AV × Heap)) : List (Nat × (List AV → Heap → Option (AV × Heap))) := [(48, A.wrap true [(.a [.k, .k, .k, (.s 4)])] .k (A.ar1 (r_R4_checkPart rec)))]
noncomputable def m_R4_checkPart : List AV → Heap → Option (AV × Heap) := fuel (R_R4_checkPart) 2000000 48
noncomputable def r_R4_Check (a0 : AV) (σ : Heap) : Option (AV × Heap) :=
 (A.cells 4 a0).bind fun c1 =>
 (A.partA 0 4 c1).bind fun x2 =>
 (m_R4_parts [x2, (AV.int .i64 1)] σ).bind fun r3 =>
 (A.ext 0 r3.1).bind fun x4 =>
 (A.ext 1 r3.1).bind fun x5 =>
 (A.gtr x4 (AV.int .i64 200)).bind fun x6 =>
 (A.guard x6 false (some x5) (some (AV.tup []))).bind fun x7 =>
 (A.guard x6 false (A.gtr x7 (AV.int .i64 12)) (some (AV.tup []))).bind fun x8 =>
 (A.pick x6 (AV.bool true) x8).bind fun x9 =>
 A.cond x9 (
  A.fin σ (AV.int .i64 2) r3.2) (
  (A.partA 0 4 c1).bind fun x10 =>
  (m_R4_checkPart [x10] r3.2).bind fun r11 =>
  A.fin σ r11.1 r11.2)
noncomputable def m_R4_Check : List AV → Heap → Option (AV × Heap) := A.wrap true [(.a [.k, .k, .k, (.s 4)])] .k (A.ar1 r_R4_Check)
noncomputable def r_R4_compound (a0 : AV) (σ : Heap) : Option (AV × Heap) :=
 (A.cells 4 a0).bind fun c1 =>
 (A.part1 0 c1).bind fun x2 =>
 (A.eql .i x2 (AV.int .i64 4)).bind fun x3 =>
 (A.guard x3 false (A.part1 0 c1) (some (AV.tup []))).bind fun x4 =>
 (A.guard x3 false (A.eql .i x4 (AV.int .i64 5)) (some (AV.tup []))).bind fun x5 =>
 (A.pick x3 (AV.bool true) x5).bind fun x6 =>
 A.fin σ x6 σ
noncomputable def m_R4_compound : List AV → Heap → Option (AV × Heap) := A.wrap true [(.a [.k, .k, .k, (.s 4)])] .k (A.ar1 r_R4_compound)
noncomputable def r_R4_text (rec : Nat → List AV → Heap → Option (AV × Heap)) (a0 : AV) (σ : Heap) : Option (AV × Heap) :=
 (A.cells 4 a0).bind fun c1 =>
 (A.part1 1 c1).bind fun x2 =>
 (m_strconv_Itoa [x2] σ).bind fun r3 =>
 (A.part1 0 c1).bind fun x4 =>
 (A.eql .i x4 (AV.int .i64 1)).bind fun x5 =>
 A.cond x5 (
  (A.part1 2 c1).bind fun x6 =>
  (A.part1 1 c1).bind fun x7 =>
  (A.neq .i x6 x7).bind fun x8 =>
  A.cond x8 (
   (A.add r3.1 (AV.str ⟨#[32, 116, 104, 114, 117, 32]⟩)).bind fun x9 =>
   (A.part1 2 c1).bind fun x10 =>
   (m_strconv_Itoa [x10] r3.2).bind fun r11 =>
   (A.add x9 r11.1).bind fun x12 =>
   A.fin σ x12 r11.2) (
   A.fin σ r3.1 r3.2)) (
  (A.eql .i x4 (AV.int .i64 2)).bind fun x13 =>
  A.cond x13 (
   (A.add (AV.str ⟨#[103, 114, 111, 117, 112, 32]⟩) r3.1).bind fun x14 =>
   A.fin σ x14 r3.2) (
   (A.eql .i x4 (AV.int .i64 3)).bind fun x15 =>
   A.cond x15 (
    (A.add (AV.str ⟨#[112, 114, 101, 115, 101, 116, 32]⟩) r3.1).bind fun x16 =>
    A.fin σ x16 r3.2) (
    (A.eql .i x4 (AV.int .i64 4)).bind fun x17 =>
    A.cond x17 (
     (A.part1 3 c1).bind fun x18 =>
     (A.iaddr 4 x18 (AV.int .i64 0)).bind fun x19 =>
     ((A.deref x19 r3.2).bind fun c20 => A.partA 0 4 c20).bind fun x21 =>
     (rec 465 [x21] r3.2).bind fun r22 =>
     (A.part1 3 c1).bind fun x23 =>
     (A.iaddr 4 x23 (AV.int .i64 0)).bind fun x24 =>
     (A.faddr 0 x24).bind fun x25 =>
     ((A.deref x25 r22.2).bind fun c26 => A.part1 0 c26).bind fun x27 =>
     (A.eql .i x27 (AV.int .i64 5)).bind fun x28 =>
     (A.cond x28 (
      (A.part1 3 c1).bind fun x30 =>
      (A.iaddr 4 x30 (AV.int .i64 0)).bind fun x31 =>
      ((A.deref x31 r22.2).bind fun c32 => A.partA 0 4 c32).bind fun x33 =>
      (rec 466 [x33] r22.2).bind fun r34 =>
      some ([(AV.lbx c1), r34.1], r34.2)) (
      some ([(AV.lbx c1), r22.1], r22.2))).bind fun r29 =>
     ((A.lb (r29.1.getD 0 AV.undef)).bind fun _ => some (3)).bind fun p35 =>
     ((A.lb (r29.1.getD 0 AV.undef)).bind fun c36 => A.part1 p35 c36).bind fun x37 =>
     (A.sliceS 4 x37 (some (AV.int .i64 1)) none r29.2).bind fun x38 =>
     (A.lenS x38).bind fun x39 =>
     (A.loop (fun v40 s41 =>
       (A.lss (v40.getD 1 AV.undef) x39).bind fun x43 =>
       A.cond x43 (
        (A.iaddr 4 x38 (v40.getD 1 AV.undef)).bind fun x44 =>
        ((A.deref x44 s41).bind fun c45 => A.partA 0 4 c45).bind fun x46 =>
        (A.cells 4 x46).bind fun c47 =>
        (A.splice 0 c47 [(AV.int .i64 0), (AV.int .i64 0), (AV.int .i64 0), AV.nsl]).bind fun c48 =>
        (A.partA 0 4 c48).bind fun x49 =>
        (rec 465 [x49] s41).bind fun r50 =>
        (A.add (AV.str ⟨#[32, 43, 32]⟩) r50.1).bind fun x51 =>
        (A.add (v40.getD 0 AV.undef) x51).bind fun x52 =>
        (A.add (v40.getD 1 AV.undef) (AV.int .i64 1)).bind fun x53 =>
        some (AX.normal, [x52, x53], r50.2)) (
        some (AX.exit 1, [(v40.getD 0 AV.undef), (v40.getD 1 AV.undef)], s41))) [(r29.1.getD 1 AV.undef), (AV.int .i64 0)] r29.2).bind fun r54 =>
     bif r54.1 == AX.exit 1 then (
      A.fin σ (r54.2.1.getD 0 AV.undef) r54.2.2) else
     none) (
     (A.eql .i x4 (AV.int .i64 5)).bind fun x55 =>
     A.cond x55 (
      (A.part1 3 c1).bind fun x56 =>
      (A.iaddr 4 x56 (AV.int .i64 0)).bind fun x57 =>
      ((A.deref x57 r3.2).bind fun c58 => A.partA 0 4 c58).bind fun x59 =>
      (A.quiet (rec 466 [x59] r3.2) r3.2).bind fun x60 =>
      (A.add x60 (AV.str ⟨#[32, 45, 32]⟩)).bind fun x61 =>
      (A.part1 3 c1).bind fun x62 =>
      (A.iaddr 4 x62 (AV.int .i64 1)).bind fun x63 =>
      ((A.deref x63 r3.2).bind fun c64 => A.partA 0 4 c64).bind fun x65 =>
      (A.quiet (rec 465 [x65] r3.2) r3.2).bind fun x66 =>
      (A.add x61 x66).bind fun x67 =>
      A.fin σ x67 r3.2) (
      (A.eql .i x4 (AV.int .i64 6)).bind fun x68 =>
      A.cond x68 (
       (A.part1 3 c1).bind fun x69 =>
       (A.iaddr 4 x69 (AV.int .i64 0)).bind fun x70 =>
       ((A.deref x70 r3.2).bind fun c71 => A.partA 0 4 c71).bind fun x72 =>
       (rec 465 [x72] r3.2).bind fun r73 =>
       (A.add (AV.str ⟨#[111, 100, 100, 32]⟩) r73.1).bind fun x74 =>
       A.fin σ x74 r73.2) (
       (A.eql .i x4 (AV.int .i64 7)).bind fun x75 =>
       A.cond x75 (
        (A.part1 3 c1).bind fun x76 =>
        (A.iaddr 4 x76 (AV.int .i64 0)).bind fun x77 =>
        ((A.deref x77 r3.2).bind fun c78 => A.partA 0 4 c78).bind fun x79 =>
        (rec 465 [x79] r3.2).bind fun r80 =>
        (A.add (AV.str ⟨#[101, 118, 101, 110, 32]⟩) r80.1).bind fun x81 =>
        A.fin σ x81 r80.2) (
        (A.eql .i x4 (AV.int .i64 8)).bind fun x82 =>
        A.cond x82 (
         (A.part1 3 c1).bind fun x83 =>
         (A.iaddr 4 x83 (AV.int .i64 0)).bind fun x84 =>
         ((A.deref x84 r3.2).bind fun c85 => A.partA 0 4 c85).bind fun x86 =>
         (rec 465 [x86] r3.2).bind fun r87 =>
         (A.add (AV.str ⟨#[98, 97, 99, 107, 32]⟩) r87.1).bind fun x88 =>
         A.fin σ x88 r87.2) (
         (A.add (AV.str ⟨#[101, 118, 101, 114, 121, 32]⟩) r3.1).bind fun x89 =>
         (A.add x89 (AV.str ⟨#[32, 102, 114, 111, 109, 32]⟩)).bind fun x90 =>
         (A.part1 2 c1).bind fun x91 =>
         (A.quiet (m_strconv_Itoa [x91] r3.2) r3.2).bind fun x92 =>
         (A.add x90 x92).bind fun x93 =>
         (A.add x93 (AV.str ⟨#[32]⟩)).bind fun x94 =>
         (A.part1 3 c1).bind fun x95 =>
         (A.iaddr 4 x95 (AV.int .i64 0)).bind fun x96 =>
         ((A.deref x96 r3.2).bind fun c97 => A.partA 0 4 c97).bind fun x98 =>
         (A.quiet (rec 465 [x98] r3.2) r3.2).bind fun x99 =>
         (A.add x94 x99).bind fun x100 =>
         A.fin σ x100 r3.2))))))))
noncomputable def r_R4_inner (rec : Nat → List AV → Heap → Option (AV × Heap)) (a0 : AV) (σ : Heap) : Option (AV × Heap) :=
 (A.cells 4 a0).bind fun c1 =>
 (A.partA 0 4 c1).bind fun x2 =>
 (m_R4_compound [x2] σ).bind fun r3 =>
 A.cond r3.1 (
  (A.partA 0 4 c1).bind fun x4 =>
  (rec 466 [x4] r3.2).bind fun r5 =>
  (A.add (AV.str ⟨#[40]⟩) r5.1).bind fun x6 =>
  (A.add x6 (AV.str ⟨#[41]⟩)).bind fun x7 =>
  A.fin σ x7 r5.2) (
  (A.partA 0 4 c1).bind fun x8 =>
  (rec 466 [x8] r3.2).bind fun r9 =>
  A.fin σ r9.1 r9.2)
noncomputable def R_R4_text (rec : Nat → List AV → Heap → Option (AV × Heap)) : List (Nat × (List AV → Heap → Option (AV × Heap))) := [(466, A.wrap true [(.a [.k, .k, .k, (.s 4)])] .k (A.ar1 (r_R4_text rec))), (465, A.wrap true [(.a [.k, .k, .k, (.s 4)])] .k (A.ar1 (r_R4_inner rec)))]
noncomputable def m_R4_text : List AV → Heap → Option (AV × Heap) := fuel (R_R4_text) 2000000 466
noncomputable def r_R4_Print (a0 : AV) (σ : Heap) : Option (AV × Heap) :=
 (A.cells 4 a0).bind fun c1 =>
 (A.partA 0 4 c1).bind fun x2 =>
 (m_R4_Check [x2] σ).bind fun r3 =>
 (A.neq .i r3.1 (AV.int .i64 0)).bind fun x4 =>
 A.cond x4 (
  A.fin σ (AV.tup [(AV.str ⟨#[]⟩), r3.1]) r3.2) (
  (A.partA 0 4 c1).bind fun x5 =>
  (m_R4_text [x5] r3.2).bind fun r6 =>
  (A.lenZ r6.1).bind fun x7 =>
  (A.gtr x7 (AV.int .i64 4000)).bind fun x8 =>
  A.cond x8 (
   A.fin σ (AV.tup [(AV.str ⟨#[]⟩), (AV.int .i64 2)]) r6.2) (
   A.fin σ (AV.tup [r6.1, (AV.int .i64 0)]) r6.2))
noncomputable def m_R4_Print : List AV → Heap → Option (AV × Heap) := A.wrap true [(.a [.k, .k, .k, (.s 4)])] .k (A.ar1 r_R4_Print)
end Go.Proofs.YtkdafecbdncmiaaDoor

namespace Go.Proofs.YtkdafecbdncmiaaDoor
set_option linter.unusedSectionVars false
set_option linter.unusedSimpArgs false
set_option linter.unusedVariables false
set_option maxRecDepth 100000
noncomputable def r_W4_PickChecksMatchSpec (a0 : AV) (σ : Heap) : Option (AV × Heap) :=
 (A.cells 4 a0).bind fun c1 =>
 (A.partA 0 4 c1).bind fun x2 =>
 (m_pick_Print [x2] σ).bind fun r3 =>
 (A.ext 0 r3.1).bind fun x4 =>
 (A.ext 1 r3.1).bind fun x5 =>
 (A.partA 0 4 c1).bind fun x6 =>
 (m_R4_Print [x6] r3.2).bind fun r7 =>
 (A.ext 0 r7.1).bind fun x8 =>
 (A.ext 1 r7.1).bind fun x9 =>
 (A.partA 0 4 c1).bind fun x10 =>
 (A.quiet (m_pick_Check [x10] r7.2) r7.2).bind fun x11 =>
 (A.partA 0 4 c1).bind fun x12 =>
 (A.quiet (m_R4_Check [x12] r7.2) r7.2).bind fun x13 =>
 (A.eql .i x11 x13).bind fun x14 =>
 (A.guard x14 true (some x4) (some (AV.tup []))).bind fun x15 =>
 (A.guard x14 true (some x8) (some (AV.tup []))).bind fun x16 =>
 (A.guard x14 true (A.eql .z x15 x16) (some (AV.tup []))).bind fun x17 =>
 (A.pick x14 x17 (AV.bool false)).bind fun x18 =>
 (A.guard x18 true (some x5) (some (AV.tup []))).bind fun x19 =>
 (A.guard x18 true (some x9) (some (AV.tup []))).bind fun x20 =>
 (A.guard x18 true (A.eql .i x19 x20) (some (AV.tup []))).bind fun x21 =>
 (A.pick x18 x21 (AV.bool false)).bind fun x22 =>
 A.fin σ x22 r7.2
noncomputable def m_W4_PickChecksMatchSpec : List AV → Heap → Option (AV × Heap) := A.wrap true [(.a [.k, .k, .k, (.s 4)])] .k (A.ar1 r_W4_PickChecksMatchSpec)
end Go.Proofs.YtkdafecbdncmiaaDoor

namespace Go.Proofs.YtkdafecbdncmiaaDoor
set_option linter.unusedSectionVars false
set_option linter.unusedSimpArgs false
open Go.RowKit
set_option linter.unusedVariables false
theorem repL1 {c : RC} {a : AV} {vs : Array Value} (h : RepL c [a] vs.toList) : ∃ v, vs = #[v] ∧ Rep c a v := by
 simp only [RepL] at h
 obtain ⟨v, vs', e, h1, e2⟩ := h
 refine ⟨v, ?_, h1⟩
 subst e2
 cases vs; simp at e; simp [e]
end Go.Proofs.YtkdafecbdncmiaaDoor

namespace Go.Proofs.YtkdafecbdncmiaaDoor
set_option linter.unusedSectionVars false
set_option linter.unusedSimpArgs false
open Go.RowKit Go.Sort
set_option linter.unusedVariables false
theorem ACalls.tab {P : Program} {nm : List Nat} {f : FuncId} {args : List AV} {σ : Heap} {r : AV} (hc : ∀ us w, (callFunc f us).run P w = .ok (.enter f us) w)
  (h : ∀ (c : RC) (vs : Array Value) (w : World) (free : Nat → Prop), tabOk w free → RepL c args vs.toList → Calls P f vs w fun e w' => ∃ v, e = .returned v ∧ Below w.heap.size w w' ∧ ∀ c', Rep c' r v) : ACalls P nm f args σ r σ := by
 refine .inl ⟨f, hc, fun z vs e1 e2 hh ha => (h _ vs z.w _ e2.tab ha).mono ?_⟩
 rintro e w' ⟨v, k1, k2, k3⟩
 have ho : Out z z.w z.E := ⟨rfl, rfl, rfl, Nat.le_refl _, fun _ _ _ => rfl, fun i p hp => .inr ⟨p, hp, rfl⟩, fun i p hp => ⟨p, hp, .inl rfl⟩, e2, fun p hp => hh.lt hp⟩
 exact ⟨v, z.E, k1, ho.grow k2, hh.mono (grow_ext k2) rfl (fun p hp => k2.block _ (hh.lt hp)), k3 _⟩
theorem s_strconv_Itoa : Sound Tryd.prog nmT 45 m_strconv_Itoa := by
 intro args σ r σ' h
 unfold m_strconv_Itoa A.ar1 at h
 split at h
 ·simp only at h
  split at h
  ·split at h
   ·rename_i hb
    simp only [Option.some.injEq, Prod.mk.injEq] at h
    obtain ⟨rfl, rfl⟩ := h
    refine ACalls.tab Tryd.call45 fun c vs w free ht hr => ?_
    obtain ⟨v, rfl, h1⟩ := repL1 hr
    simp only [Rep] at h1
    subst h1
    refine (Tryd.strconv_Itoa _ hb.1 hb.2 w ht.1).mono ?_
    rintro e w' ⟨rfl, j, os, rfl⟩
    exact ⟨_, rfl, ⟨rfl, rfl, rfl, by simp [grow, World.drewN], fun k hk => by simp [grow, World.drewN, Array.getElem?_append, hk]⟩, fun c' => by simp [Rep, itoaB]⟩
   ·cases h
  ·cases h
 ·cases h
end Go.Proofs.YtkdafecbdncmiaaDoor

namespace Go.Proofs.YtkdafecbdncmiaaDoor
set_option linter.unusedSectionVars false
set_option maxRecDepth 100000
set_option linter.unusedVariables false
set_option linter.unusedSimpArgs false
noncomputable def x_pick_size (rec : Nat → List AV → Heap → Option (AV × Heap)) : Fx := ⟨Tryd.prog, nmT, A.tab (fun _ _ => none) [(23, rec 37)], (fun _ _ _ => none), [1, 5], [], 30, []⟩
theorem w_pick_size (rec : Nat → List AV → Heap → Option (AV × Heap)) (hrec : ∀ f, Sound Tryd.prog nmT f (rec (nmT.getD f 0))) : Sound Tryd.prog nmT 23 (A.wrap true [(.a [.k, .k, .k, (.s 4)])] .k (A.ar1 (r_pick_size rec))) :=
 Sound.wrap (Sound.run1 (X := x_pick_size rec) (fn := Tryd.f23) (ann := (.s .n (.s .n (.s (.s .n (.b (.l [2, 3, 11] [.exit 0] (.s .n (.s (.j .n .n) (.s (.b (.s .n (.s .n .n))) .n)))))) (.s .n .n))))) .F trivial (Snd.of rfl (All.cons (hrec 23) All.nil) (fun _ => Sound.none)) Tryd.func23 Tryd.call23 (fun a0 σ => by kernel_rfl)) _ _ _ rfl rfl
theorem g_pick_size : ∀ n f, Sound Tryd.prog nmT f (fuel (R_pick_size) n (nmT.getD f 0)) :=
 fuel_sound (fun rec hrec => (DAll.cons (nm_sound (w_pick_size rec hrec) (by kernel_rfl) rfl) DAll.nil))
theorem s_pick_size : Sound Tryd.prog nmT 23 m_pick_size := g_pick_size 2000000 23
theorem s_word_Within : Sound Tryd.prog nmT 48 m_word_Within := q3 [] 15 (.s .n (.s .n .n)) All.nil Tryd.func48 Tryd.call48 (fun a0 a1 a2 σ => by kernel_rfl) rfl rfl
noncomputable def x_pick_check (rec : Nat → List AV → Heap → Option (AV × Heap)) : Fx := ⟨Tryd.prog, nmT, A.tab (fun _ _ => none) [(48, m_word_Within), (24, rec 38)], (fun _ _ _ => none), [1, 9], [], 95, []⟩
theorem w_pick_check (rec : Nat → List AV → Heap → Option (AV × Heap)) (hrec : ∀ f, Sound Tryd.prog nmT f (rec (nmT.getD f 0))) : Sound Tryd.prog nmT 24 (A.wrap true [(.a [.k, .k, .k, (.s 4)])] .k (A.ar1 (r_pick_check rec))) :=
 Sound.wrap (Sound.run1 (X := x_pick_check rec) (fn := Tryd.f24) (ann := (.s .n (.s .n (.s (.s .n (.b (.s .n (.j .n (.s (.s .n (.c [1, 15] .n .n)) (.j .n (.s (.s .n (.c [1, 18] .n .n)) (.j .n (.s (.s .n (.c [1, 21] .n (.s .n (.c [1, 21] .n .n)))) (.j .n (.s .n (.j .n (.s .n .n))))))))))))) (.s .n (.s (.s .n (.c [1, 6] .n .n)) (.s (.s .n (.j (.s .n .n) .n)) (.s .n (.s (.s .n (.b (.s .n (.c [1, 7] .n (.s .n (.c [1, 7] .n .n)))))) (.s (.s .n (.j (.s .n .n) .n)) (.s (.s .n (.b (.l [2, 85] [.exit 2, .ret] (.s .n (.s (.j .n .n) (.s (.b (.s .n (.s .n (.s .n (.j (.s .n .n) .n))))) .n)))))) (.s .n .n)))))))))))) .F trivial (Snd.of rfl (All.cons s_word_Within (All.cons (hrec 24) All.nil)) (fun _ => Sound.none)) Tryd.func24 Tryd.call24 (fun a0 σ => by kernel_rfl)) _ _ _ rfl rfl
theorem g_pick_check : ∀ n f, Sound Tryd.prog nmT f (fuel (R_pick_check) n (nmT.getD f 0)) :=
 fuel_sound (fun rec hrec => (DAll.cons (nm_sound (w_pick_check rec hrec) (by kernel_rfl) rfl) DAll.nil))
theorem s_pick_check : Sound Tryd.prog nmT 24 m_pick_check := g_pick_check 2000000 24
theorem s_pick_Check : Sound Tryd.prog nmT 9 m_pick_Check := q1 [1] 18 (.s .n (.s (.s .n (.s .n (.j (.s .n .n) .n))) (.s .n .n))) (All.cons s_pick_size (All.cons s_pick_check All.nil)) Tryd.func9 Tryd.call9 (fun a0 σ => by kernel_rfl) rfl rfl
noncomputable def x_pick_text (rec : Nat → List AV → Heap → Option (AV × Heap)) : Fx := ⟨Tryd.prog, nmT, A.tab (fun _ _ => none) [(45, m_strconv_Itoa), (46, rec 461), (21, rec 462)], (fun _ _ _ => none), [1, 6, 9], [], 109, []⟩
theorem w_pick_text (rec : Nat → List AV → Heap → Option (AV × Heap)) (hrec : ∀ f, Sound Tryd.prog nmT f (rec (nmT.getD f 0))) : Sound Tryd.prog nmT 21 (A.wrap true [(.a [.k, .k, .k, (.s 4)])] .k (A.ar1 (r_pick_text rec))) :=
 Sound.wrap (Sound.run1 (X := x_pick_text rec) (fn := Tryd.f21) (ann := (.s .n (.s .n (.s (.s .n (.b (.s .n (.j (.s (.s .n (.j (.s .n .n) .n)) (.s .n .n)) (.s .n (.j (.s .n .n) (.s .n (.j (.s .n .n) (.s .n (.j (.s .n .n) (.s .n (.j (.s .n .n) (.s .n (.j (.s .n .n) (.s .n (.j (.s .n .n) .n)))))))))))))))) (.s .n (.s .n (.s .n (.s (.s .n (.c [1, 5, 6] .n .n)) (.s (.s .n (.c [1, 7] .n .n)) (.s (.s .n (.b (.l [7, 97] [.exit 1] (.s .n (.s (.j .n .n) (.s (.b (.s .n .n)) .n)))))) (.s .n .n))))))))))) .F trivial (Snd.of rfl (All.cons s_strconv_Itoa (All.cons (hrec 46) (All.cons (hrec 21) All.nil))) (fun _ => Sound.none)) Tryd.func21 Tryd.call21 (fun a0 σ => by kernel_rfl)) _ _ _ rfl rfl
noncomputable def x_pick_arg (rec : Nat → List AV → Heap → Option (AV × Heap)) : Fx := ⟨Tryd.prog, nmT, A.tab (fun _ _ => none) [(21, rec 462)], (fun _ _ _ => none), [1], [], 17, []⟩
theorem w_pick_arg (rec : Nat → List AV → Heap → Option (AV × Heap)) (hrec : ∀ f, Sound Tryd.prog nmT f (rec (nmT.getD f 0))) : Sound Tryd.prog nmT 46 (A.wrap true [(.a [.k, .k, .k, (.s 4)])] .k (A.ar1 (r_pick_arg rec))) :=
 Sound.wrap (Sound.run1 (X := x_pick_arg rec) (fn := Tryd.f46) (ann := (.s .n (.s (.s .n (.j (.s .n .n) .n)) (.s .n .n)))) .F trivial (Snd.of rfl (All.cons (hrec 21) All.nil) (fun _ => Sound.none)) Tryd.func46 Tryd.call46 (fun a0 σ => by kernel_rfl)) _ _ _ rfl rfl
theorem g_pick_text : ∀ n f, Sound Tryd.prog nmT f (fuel (R_pick_text) n (nmT.getD f 0)) :=
 fuel_sound (fun rec hrec => (DAll.cons (nm_sound (w_pick_text rec hrec) (by kernel_rfl) rfl) (DAll.cons (nm_sound (w_pick_arg rec hrec) (by kernel_rfl) rfl) DAll.nil)))
theorem s_pick_text : Sound Tryd.prog nmT 21 m_pick_text := g_pick_text 2000000 21
theorem s_pick_Print : Sound Tryd.prog nmT 7 m_pick_Print := q1 [1] 17 (.s .n (.s (.s .n (.s .n (.j (.s .n .n) .n))) (.s .n (.s (.s .n (.j (.s .n .n) .n)) (.s .n .n))))) (All.cons s_pick_Check (All.cons s_pick_text All.nil)) Tryd.func7 Tryd.call7 (fun a0 σ => by kernel_rfl) rfl rfl
noncomputable def x_R4_parts (rec : Nat → List AV → Heap → Option (AV × Heap)) : Fx := ⟨Tryd.prog, nmT, A.tab (fun _ _ => none) [(25, rec 46)], (fun _ _ _ => none), [2, 9], [], 41, []⟩
theorem w_R4_parts (rec : Nat → List AV → Heap → Option (AV × Heap)) (hrec : ∀ f, Sound Tryd.prog nmT f (rec (nmT.getD f 0))) : Sound Tryd.prog nmT 25 (A.wrap true [(.a [.k, .k, .k, (.s 4)])] .k (A.ar2 (r_R4_parts rec))) :=
 Sound.wrap (Sound.run2 (X := x_R4_parts rec) (fn := Tryd.f25) (ann := (.s .n (.s .n (.s (.s .n (.j (.s .n .n) .n)) (.s (.s .n (.b (.l [6, 7, 20] [.exit 0] (.s .n (.s (.j .n .n) (.s (.b (.s .n (.s .n .n))) .n)))))) (.s .n .n)))))) .F trivial (Snd.of rfl (All.cons (hrec 25) All.nil) (fun _ => Sound.none)) Tryd.func25 Tryd.call25 (fun a0 a1 σ => by kernel_rfl)) _ _ _ rfl rfl
theorem g_R4_parts : ∀ n f, Sound Tryd.prog nmT f (fuel (R_R4_parts) n (nmT.getD f 0)) :=
 fuel_sound (fun rec hrec => (DAll.cons (nm_sound (w_R4_parts rec hrec) (by kernel_rfl) rfl) DAll.nil))
theorem s_R4_parts : Sound Tryd.prog nmT 25 m_R4_parts := g_R4_parts 2000000 25
theorem s_R1_Within : Sound Tryd.prog nmT 49 m_R1_Within := q3 [] 15 (.s .n (.s .n .n)) All.nil Tryd.func49 Tryd.call49 (fun a0 a1 a2 σ => by kernel_rfl) rfl rfl
theorem s_R4_used : Sound Tryd.prog nmT 50 m_R4_used := q1 [] 17 (.s .n (.s (.s .n (.b (.s .n (.j (.s .n .n) (.s (.s .n (.c [8] .n .n)) (.j (.s .n .n) (.s .n (.j (.s .n .n) (.s .n (.j (.s .n .n) (.s .n (.j (.s .n .n) .n)))))))))))) (.s .n .n))) All.nil Tryd.func50 Tryd.call50 (fun a0 σ => by kernel_rfl) rfl rfl
noncomputable def x_R4_checkPart (rec : Nat → List AV → Heap → Option (AV × Heap)) : Fx := ⟨Tryd.prog, nmT, A.tab (fun _ _ => none) [(49, m_R1_Within), (50, m_R4_used), (26, rec 48)], (fun _ _ _ => none), [1, 8], [], 94, []⟩
theorem w_R4_checkPart (rec : Nat → List AV → Heap → Option (AV × Heap)) (hrec : ∀ f, Sound Tryd.prog nmT f (rec (nmT.getD f 0))) : Sound Tryd.prog nmT 26 (A.wrap true [(.a [.k, .k, .k, (.s 4)])] .k (A.ar1 (r_R4_checkPart rec))) :=
 Sound.wrap (Sound.run1 (X := x_R4_checkPart rec) (fn := Tryd.f26) (ann := (.s .n (.s (.s .n (.j (.s .n .n) .n)) (.s .n (.s (.s .n (.j (.s .n .n) .n)) (.s .n (.s (.s .n (.b (.s .n (.c [1, 6] .n (.s .n (.c [1, 6] .n .n)))))) (.s (.s .n (.j (.s .n .n) .n)) (.s (.s .n (.b (.l [2, 84] [.exit 1, .ret] (.s .n (.s (.j .n .n) (.s (.b (.s .n (.s .n (.s .n (.j (.s .n .n) .n))))) .n)))))) (.s .n .n)))))))))) .F trivial (Snd.of rfl (All.cons s_R1_Within (All.cons s_R4_used (All.cons (hrec 26) All.nil))) (fun _ => Sound.none)) Tryd.func26 Tryd.call26 (fun a0 σ => by kernel_rfl)) _ _ _ rfl rfl
theorem g_R4_checkPart : ∀ n f, Sound Tryd.prog nmT f (fuel (R_R4_checkPart) n (nmT.getD f 0)) :=
 fuel_sound (fun rec hrec => (DAll.cons (nm_sound (w_R4_checkPart rec hrec) (by kernel_rfl) rfl) DAll.nil))
theorem s_R4_checkPart : Sound Tryd.prog nmT 26 m_R4_checkPart := g_R4_checkPart 2000000 26
theorem s_R4_Check : Sound Tryd.prog nmT 10 m_R4_Check := q1 [1] 18 (.s .n (.s (.s .n (.s .n (.j (.s .n .n) .n))) (.s .n .n))) (All.cons s_R4_parts (All.cons s_R4_checkPart All.nil)) Tryd.func10 Tryd.call10 (fun a0 σ => by kernel_rfl) rfl rfl
theorem s_R4_compound : Sound Tryd.prog nmT 73 m_R4_compound := q1 [1] 11 (.s .n (.s .n .n)) All.nil Tryd.func73 Tryd.call73 (fun a0 σ => by kernel_rfl) rfl rfl
noncomputable def x_R4_text (rec : Nat → List AV → Heap → Option (AV × Heap)) : Fx := ⟨Tryd.prog, nmT, A.tab (fun _ _ => none) [(45, m_strconv_Itoa), (47, rec 465), (22, rec 466)], (fun _ _ _ => none), [1, 6], [], 119, []⟩
theorem w_R4_text (rec : Nat → List AV → Heap → Option (AV × Heap)) (hrec : ∀ f, Sound Tryd.prog nmT f (rec (nmT.getD f 0))) : Sound Tryd.prog nmT 22 (A.wrap true [(.a [.k, .k, .k, (.s 4)])] .k (A.ar1 (r_R4_text rec))) :=
 Sound.wrap (Sound.run1 (X := x_R4_text rec) (fn := Tryd.f22) (ann := (.s .n (.s .n (.s (.s .n (.b (.s .n (.j (.s (.s .n (.j (.s .n .n) .n)) (.s .n .n)) (.s .n (.j (.s .n .n) (.s .n (.j (.s .n .n) (.s .n (.j (.s .n (.s (.s .n (.c [1, 4] .n .n)) (.s (.s .n (.b (.l [4, 56] [.exit 1] (.s .n (.s (.j .n .n) (.s (.b (.s .n .n)) .n)))))) (.s .n .n)))) (.s .n (.j (.s .n .n) (.s .n (.j (.s .n .n) (.s .n (.j (.s .n .n) (.s .n (.j (.s .n .n) .n)))))))))))))))))) (.s .n .n))))) .F trivial (Snd.of rfl (All.cons s_strconv_Itoa (All.cons (hrec 47) (All.cons (hrec 22) All.nil))) (fun _ => Sound.none)) Tryd.func22 Tryd.call22 (fun a0 σ => by kernel_rfl)) _ _ _ rfl rfl
noncomputable def x_R4_inner (rec : Nat → List AV → Heap → Option (AV × Heap)) : Fx := ⟨Tryd.prog, nmT, A.tab (fun _ _ => none) [(73, m_R4_compound), (22, rec 466)], (fun _ _ _ => none), [1], [], 11, []⟩
theorem w_R4_inner (rec : Nat → List AV → Heap → Option (AV × Heap)) (hrec : ∀ f, Sound Tryd.prog nmT f (rec (nmT.getD f 0))) : Sound Tryd.prog nmT 47 (A.wrap true [(.a [.k, .k, .k, (.s 4)])] .k (A.ar1 (r_R4_inner rec))) :=
 Sound.wrap (Sound.run1 (X := x_R4_inner rec) (fn := Tryd.f47) (ann := (.s .n (.s (.s .n (.j (.s .n .n) .n)) (.s .n .n)))) .F trivial (Snd.of rfl (All.cons s_R4_compound (All.cons (hrec 22) All.nil)) (fun _ => Sound.none)) Tryd.func47 Tryd.call47 (fun a0 σ => by kernel_rfl)) _ _ _ rfl rfl
theorem g_R4_text : ∀ n f, Sound Tryd.prog nmT f (fuel (R_R4_text) n (nmT.getD f 0)) :=
 fuel_sound (fun rec hrec => (DAll.cons (nm_sound (w_R4_text rec hrec) (by kernel_rfl) rfl) (DAll.cons (nm_sound (w_R4_inner rec hrec) (by kernel_rfl) rfl) DAll.nil)))
theorem s_R4_text : Sound Tryd.prog nmT 22 m_R4_text := g_R4_text 2000000 22
theorem s_R4_Print : Sound Tryd.prog nmT 8 m_R4_Print := q1 [1] 17 (.s .n (.s (.s .n (.s .n (.j (.s .n .n) .n))) (.s .n (.s (.s .n (.j (.s .n .n) .n)) (.s .n .n))))) (All.cons s_R4_Check (All.cons s_R4_text All.nil)) Tryd.func8 Tryd.call8 (fun a0 σ => by kernel_rfl) rfl rfl
theorem s_W4_PickChecksMatchSpec : Sound Tryd.prog nmT 3 m_W4_PickChecksMatchSpec := q1 [1] 32 (.s .n (.s .n (.s .n (.s .n .n)))) (All.cons s_pick_Print (All.cons s_R4_Print (All.cons s_pick_Check (All.cons s_R4_Check All.nil)))) Tryd.func3 Tryd.call3 (fun a0 σ => by kernel_rfl) rfl rfl
end Go.Proofs.YtkdafecbdncmiaaDoor

namespace Go.Proofs.YtkdafecbdncmiaaDoor
set_option linter.unusedSectionVars false
set_option linter.unusedVariables false
set_option linter.unusedSimpArgs false

theorem bq (s t : ByteArray) : (s == t) = decide (s = t) := by
 obtain ⟨a⟩ := s
 obtain ⟨b⟩ := t
 show (a == b) = _
 rw [Bool.eq_iff_iff]
 simp
section
variable {α β : Type}
theorem cT (t e : Option α) : A.cond (.bool true) t e = t := rfl
theorem cF (t e : Option α) : A.cond (.bool false) t e = e := rfl
theorem gTT (e d : Option α) : A.guard (.bool true) true e d = e := rfl
theorem gTF (e d : Option α) : A.guard (.bool true) false e d = d := rfl
theorem gFT (e d : Option α) : A.guard (.bool false) true e d = d := rfl
theorem gFF (e d : Option α) : A.guard (.bool false) false e d = e := rfl
theorem pT (x y : AV) : A.pick (.bool true) x y = some x := rfl
theorem pF (x y : AV) : A.pick (.bool false) x y = some y := rfl
theorem gN (w : Bool) (e d : Option α) : A.guard (.tup []) w e d = d := rfl
theorem xN (a b : AX) : (a == b) = decide (a = b) := by rw [Bool.eq_iff_iff]; simp
end
section
variable (k : IntKind) (a b : Int) (p q : Prop) [Decidable p] [Decidable q] (s t : ByteArray) (x y : AV) (σ : Heap) (cs : List AV)
theorem aAdd : A.add (.int .i64 a) (.int .i64 b) = some (.int .i64 (IntKind.i64.wrap (a + b))) := rfl
theorem aSub : A.sub (.int .i64 a) (.int .i64 b) = some (.int .i64 (IntKind.i64.wrap (a - b))) := rfl
theorem aMul : A.mul (.int .i64 a) (.int .i64 b) = some (.int .i64 (IntKind.i64.wrap (a * b))) := rfl
theorem aLss : A.lss (.int .i64 a) (.int .i64 b) = some (.bool (decide (a < b))) := rfl
theorem aLeq : A.leq (.int .i64 a) (.int .i64 b) = some (.bool (decide (a ≤ b))) := rfl
theorem aGtr : A.gtr (.int .i64 a) (.int .i64 b) = some (.bool (decide (b < a))) := rfl
theorem aGeq : A.geq (.int .i64 a) (.int .i64 b) = some (.bool (decide (b ≤ a))) := rfl
theorem aLss8 : A.lss (.int .u8 a) (.int .u8 b) = some (.bool (decide (a < b))) := rfl
theorem aLeq8 : A.leq (.int .u8 a) (.int .u8 b) = some (.bool (decide (a ≤ b))) := rfl
theorem aGtr8 : A.gtr (.int .u8 a) (.int .u8 b) = some (.bool (decide (b < a))) := rfl
theorem aGeq8 : A.geq (.int .u8 a) (.int .u8 b) = some (.bool (decide (b ≤ a))) := rfl
theorem aEq : A.eql .i (.int k a) (.int k b) = some (.bool (decide (a = b))) := by
 simp only [A.eql, A.eqK, A.eqI, if_true, Option.map_some]; congr 2
theorem aNe : A.neq .i (.int k a) (.int k b) = some (.bool (decide (¬ a = b))) := by
 simp only [A.neq, A.eqK, A.eqI, if_true, Option.map_some]
 congr 2
 rw [Bool.eq_iff_iff]; simp
theorem aEqZ : A.eql .z (.str s) (.str t) = some (.bool (decide (s = t))) := by
 simp only [A.eql, A.eqK, A.eqZ, Option.map_some, bq]
theorem aNeZ : A.neq .z (.str s) (.str t) = some (.bool (decide (¬ s = t))) := by
 simp only [A.neq, A.eqK, A.eqZ, Option.map_some, bq]; simp
theorem aNot (b : Bool) : A.not (.bool b) = some (.bool (!b)) := rfl
theorem aNotD : A.not (.bool (decide p)) = some (.bool (decide (¬ p))) := by simp [A.not]
theorem aLb : A.lb (.lbx cs) = some cs := rfl
theorem aExt0 (l : List AV) : A.ext 0 (.tup (x :: l)) = some x := rfl
theorem aExt1 (x0 x : AV) (l : List AV) : A.ext 1 (.tup (x0 :: x :: l)) = some x := rfl
theorem aExt2 (x0 x1 x : AV) (l : List AV) : A.ext 2 (.tup (x0 :: x1 :: x :: l)) = some x := rfl
theorem aExt3 (x0 x1 x2 x : AV) (l : List AV) : A.ext 3 (.tup (x0 :: x1 :: x2 :: x :: l)) = some x := rfl
theorem aDe : A.deref (.rp cs) σ = some cs := rfl
theorem aFa (o : Nat) : A.faddr o (.rp cs) = some (.rp (cs.drop o)) := rfl
theorem aLenZ : A.lenZ (.str s) = some (.int .i64 s.size) := rfl
theorem aCI (n : Int) : A.cell (.int k n) = some (.int k n) := rfl
theorem aCB (b : Bool) : A.cell (.bool b) = some (.bool b) := rfl
theorem aCS : A.cell (.str s) = some (.str s) := rfl
theorem aCSl (sz : Nat) (es : List (List AV)) : A.cell (.sl sz es) = some (.sl sz es) := rfl
theorem p1D (o k : Nat) : A.part1 o (cs.drop k) = A.part1 (k + o) cs := by simp [A.part1, List.getElem?_drop]
end
theorem gd0 (a d : AV) (l : List AV) : (a :: l).getD 0 d = a := rfl
theorem gd1 (a b d : AV) (l : List AV) : (b :: a :: l).getD 1 d = a := rfl
theorem gd2 (a b c d : AV) (l : List AV) : (b :: c :: a :: l).getD 2 d = a := rfl
theorem gd3 (a b c e d : AV) (l : List AV) : (b :: c :: e :: a :: l).getD 3 d = a := rfl
theorem gd4 (a b c e f d : AV) (l : List AV) : (b :: c :: e :: f :: a :: l).getD 4 d = a := rfl
theorem gd5 (a b c e f g d : AV) (l : List AV) : (b :: c :: e :: f :: g :: a :: l).getD 5 d = a := rfl
theorem gd6 (a b c e f g h d : AV) (l : List AV) : (b :: c :: e :: f :: g :: h :: a :: l).getD 6 d = a := rfl
theorem gd7 (a b c e f g h i d : AV) (l : List AV) : (b :: c :: e :: f :: g :: h :: i :: a :: l).getD 7 d = a := rfl
theorem gd8 (a b c e f g h i j d : AV) (l : List AV) : (b :: c :: e :: f :: g :: h :: i :: j :: a :: l).getD 8 d = a := rfl
theorem wrap64 {n : Int} (h : inI n) : IntKind.i64.wrap n = n := IntWalk.i64_in n h
theorem wrap_eq {ro : Bool} {ain : List Sh} {rout : Sh} {r : List AV → Heap → Option (AV × Heap)} {args : List AV} {σ σ' : Heap} {v v' : AV} (h : args.any A.own = false) (e : r (A.nnL ain args) σ = some (v, σ')) (hv : A.nn rout v = v') : A.wrap ro ain rout r args σ = some (v', σ') := by
 unfold A.wrap
 rw [h, Bool.and_false, cond_false, e]
 simp [hv]
theorem scal2_shift {v : AV} (n : Nat) (h : A.scal2 v = true) : A.fresh v = true ∧ A.shift n v = v := by
 cases v <;> first | exact ⟨h, rfl⟩ | cases h
theorem scal_shift {v : AV} (n : Nat) (h : A.scal v = true) : A.freshT v = true ∧ A.shiftT n v = v := by
 have key : (∀ vs, v ≠ .tup vs) → A.freshT v = true ∧ A.shiftT n v = v := by
  intro k
  have := scal2_shift (v := v) n
  cases v <;> first | exact absurd rfl (k _) | exact this h
 by_cases ht : ∃ vs, v = .tup vs
 ·obtain ⟨vs, rfl⟩ := ht
  simp only [A.scal, List.all_eq_true] at h
  refine ⟨by simp only [A.freshT, List.all_eq_true]; exact fun x hx => (scal2_shift n (h x hx)).1, ?_⟩
  simp only [A.shiftT]
  congr 1
  calc vs.map (A.shift n) = vs.map id := List.map_congr_left fun x hx => (scal2_shift n (h x hx)).2
   _ = vs := List.map_id vs
 ·exact key fun vs e => ht ⟨vs, e⟩
theorem wrap_own {ain : List Sh} {rout : Sh} {r : List AV → Heap → Option (AV × Heap)} {args args' : List AV} {σ : Heap} {v : AV} (h : args.any A.own = true) (hz : A.frzL σ 0 8 args = some args') (ho : args'.any A.own = false) (e : A.wrap true ain rout r args' [] = some (v, [])) (hs : A.scal v = true) : A.wrap true ain rout r args σ = some (v, σ) := by
 unfold A.wrap at e ⊢
 rw [ho, Bool.and_false, cond_false] at e
 obtain ⟨⟨q1, q2⟩, e1, e2⟩ := Option.map_eq_some_iff.1 e
 simp only [Prod.mk.injEq] at e2
 obtain ⟨rfl, rfl⟩ := e2
 rw [h, Bool.and_self, cond_true, hz]
 simp [e1, (scal_shift σ.length hs).1, (scal_shift σ.length hs).2]
theorem fin_same (σ : Heap) (r : AV) : A.fin σ r σ = some (r, σ) := by simp [A.fin]
theorem frz_scal1 (σ : Heap) (n d : Nat) {a : AV} (h : A.scal1 a = true) : A.frz σ n d a = some a := by
 cases a <;> simp only [A.scal1] at h <;> first | (cases h; done) | skip
 case sl sz es => cases es with
  | nil => cases d <;> simp [A.frz, A.frzLL]
  | cons _ _ => simp at h
 all_goals cases d <;> simp [A.frz]
theorem frzL_scal1 (σ : Heap) (n d : Nat) : ∀ {l : List AV}, l.all A.scal1 = true → A.frzL σ n d l = some l
 | [], _ => by simp [A.frzL]
 | a :: l, h => by
  simp only [List.all_cons, Bool.and_eq_true] at h
  simp [A.frzL, frz_scal1 σ n d h.1, frzL_scal1 σ n d h.2]
theorem frz_scal2 (σ : Heap) (n d : Nat) {a : AV} (h : A.scal2 a = true) : A.frz σ n d a = some a := by
 unfold A.scal2 at h
 split at h
 ·cases d <;> simp [A.frz, frzL_scal1 σ n _ h]
 ·exact frz_scal1 σ n d h
theorem frzL_scal2 (σ : Heap) (n d : Nat) : ∀ {l : List AV}, l.all A.scal2 = true → A.frzL σ n d l = some l
 | [], _ => by simp [A.frzL]
 | a :: l, h => by
  simp only [List.all_cons, Bool.and_eq_true] at h
  simp [A.frzL, frz_scal2 σ n d h.1, frzL_scal2 σ n d h.2]
theorem frz_scal (σ : Heap) (n d : Nat) {a : AV} (h : A.scal a = true) : A.frz σ n d a = some a := by
 unfold A.scal at h
 split at h
 ·cases d <;> simp [A.frz, frzL_scal2 σ n _ h]
 ·exact frz_scal2 σ n d h
theorem fin_scal (σ bs : Heap) {r : AV} (h : A.scal r = true) : A.fin σ r (σ ++ bs) = some (r, σ) := by
 unfold A.fin
 split
 ·rfl
 ·rw [if_pos (by simp), frz_scal _ _ _ h]; rfl
theorem fin_int (σ bs : Heap) (k : IntKind) (n : Int) : A.fin σ (.int k n) (σ ++ bs) = some (.int k n, σ) := fin_scal σ bs rfl
theorem fin_bool (σ bs : Heap) (b : Bool) : A.fin σ (.bool b) (σ ++ bs) = some (.bool b, σ) := fin_scal σ bs rfl
theorem fin_str (σ bs : Heap) (s : ByteArray) : A.fin σ (.str s) (σ ++ bs) = some (.str s, σ) := fin_scal σ bs rfl
theorem fin_unit (σ bs : Heap) : A.fin σ (.tup []) (σ ++ bs) = some (.tup [], σ) := fin_scal σ bs rfl
theorem hat (σ bs : Heap) (j : Nat) : (σ ++ bs)[σ.length + j]? = bs[j]? := by rw [List.getElem?_append_right (by omega)]; congr 1; omega
theorem hat0 (σ bs : Heap) : (σ ++ bs)[σ.length]? = bs[0]? := by rw [List.getElem?_append_right (Nat.le_refl _), Nat.sub_self]
theorem hset (σ bs : Heap) (j : Nat) (b : Blk) : (σ ++ bs).set (σ.length + j) b = σ ++ bs.set j b := by rw [List.set_append_right _ _ (by omega)]; congr 2; omega
theorem hset0 (σ bs : Heap) (b : Blk) : (σ ++ bs).set σ.length b = σ ++ bs.set 0 b := by rw [List.set_append_right _ _ (Nat.le_refl _), Nat.sub_self]
section
variable {α : Type} (sz : Nat) (c : α → List AV) (l : List α)
theorem lenS_sl : A.lenS (sl sz c l) = some (.int .i64 l.length) := by simp [sl, A.lenS]
theorem iaddr_sl {k : Nat} {x : α} (h : l[k]? = some x) : A.iaddr sz (sl sz c l) (.int .i64 (k : Int)) = some (.rp (c x)) := by
 have hk : k < l.length := (List.getElem?_eq_some_iff.1 h).1
 have hx : l[k] = x := (List.getElem?_eq_some_iff.1 h).2
 simp [A.iaddr, sl, A.idx, hk, hx]
theorem iaddr_int {i : Int} {x : α} (h0 : 0 ≤ i) (h : l[i.toNat]? = some x) : A.iaddr sz (sl sz c l) (.int .i64 i) = some (.rp (c x)) := by
 have := iaddr_sl sz c l h
 rwa [Int.toNat_of_nonneg h0] at this
end
inductive Rd (S R : Type) where
 | go (s : S)
 | out (r : R)
def Rd.el {S R γ : Type} (x : Rd S R) (f : S → γ) (g : R → γ) : γ := match x with | .go s => f s | .out r => g r
theorem el_go {S R γ : Type} (s : S) (f : S → γ) (g : R → γ) : (Rd.go s : Rd S R).el f g = f s := rfl
theorem el_out {S R γ : Type} (r : R) (f : S → γ) (g : R → γ) : (Rd.out r : Rd S R).el f g = g r := rfl
theorem el_ite {S R γ : Type} {p : Prop} [Decidable p] (x y : Rd S R) (f : S → γ) (g : R → γ) : (if p then x else y).el f g = if p then x.el f g else y.el f g := by split <;> rfl
theorem iter_loop {f : List AV → Heap → Option (AX × List AV × Heap)} {v : List AV} {σ : Heap} : ∀ {n m : Nat} {r r' : AX × List AV × Heap}, A.iter f n v σ = some r → A.iter f m v σ = some r' → r = r' := by
 intro n
 induction n generalizing v σ with
 | zero => intro m r r' h; cases h
 | succ n ih =>
  intro m r r' h1 h2
  cases m with
  | zero => cases h2
  | succ m =>
   simp only [A.iter] at h1 h2
   cases hf : f v σ with
   | none => rw [hf] at h1; cases h1
   | some q =>
    rw [hf] at h1 h2
    simp only [Option.bind_some] at h1 h2
    obtain ⟨e, v', σ'⟩ := q
    cases e with
    | normal => exact ih h1 h2
    | exit i => simp only at h1 h2; rw [h1] at h2; injection h2
    | ret => simp only at h1 h2; rw [h1] at h2; injection h2
theorem loop_of_iter {f : List AV → Heap → Option (AX × List AV × Heap)} {v : List AV} {σ : Heap} {n : Nat} {r : AX × List AV × Heap} (h : A.iter f n v σ = some r) : A.loop f v σ = some r := by
 have hex : ∃ n r, A.iter f n v σ = some r := ⟨n, r, h⟩
 unfold A.loop
 rw [dif_pos hex]
 exact congrArg some (iter_loop (Classical.choose_spec (Classical.choose_spec hex)) h)
theorem loop_step {f : List AV → Heap → Option (AX × List AV × Heap)} {v v' : List AV} {σ σ' : Heap} {r : AX × List AV × Heap} (h : f v σ = some (.normal, v', σ')) (k : ∃ n, A.iter f n v' σ' = some r) : ∃ n, A.iter f n v σ = some r := by
 obtain ⟨n, k⟩ := k
 exact ⟨n + 1, by simp [A.iter, h, k]⟩
theorem loop_done {f : List AV → Heap → Option (AX × List AV × Heap)} {v : List AV} {σ : Heap} {r : AX × List AV × Heap} (h : f v σ = some r) (hr : r.1 ≠ .normal) : ∃ n, A.iter f n v σ = some r := by
 obtain ⟨e, v', σ'⟩ := r
 refine ⟨1, ?_⟩
 cases e <;> first | (simp [A.iter, h]; done) | exact absurd rfl hr
section
variable {α : Type} (g : α → ByteArray) (gi : α → Int) (v : α → AV)
theorem find_z (k : ByteArray) : ∀ (l : List α), A.find .z (.str k) (l.map fun x => (AV.str (g x), v x)) = some ((l.find? fun x => decide (k = g x)).map v)
 | [] => rfl
 | x :: l => by
  simp only [List.map_cons, A.find, A.eqK, A.eqZ, Option.bind_some, List.find?]
  by_cases h : k = g x
  ·rw [bq]; simp [h]
  ·rw [bq]; simp [h, find_z k l]
theorem find_i (kk : IntKind) (k : Int) : ∀ (l : List α), A.find .i (.int kk k) (l.map fun x => (AV.int kk (gi x), v x)) = some ((l.find? fun x => decide (k = gi x)).map v)
 | [] => rfl
 | x :: l => by
  simp only [List.map_cons, A.find, A.eqK, A.eqI, if_true, Option.bind_some, List.find?]
  by_cases h : k = gi x
  ·have : (k == gi x) = true := by simpa using h
   simp [this, h]
  ·have : (k == gi x) = false := by simpa using h
   simp [this, h, find_i kk k l]
theorem upd_z {k : ByteArray} {w : AV} : ∀ {l : List α}, (∀ x ∈ l, g x ≠ k) → A.upd .z (.str k) w (l.map fun x => (AV.str (g x), v x)) = some ((l.map fun x => (AV.str (g x), v x)) ++ [(.str k, w)])
 | [], _ => rfl
 | x :: l, h => by
  have h1 : (k == g x) = false := by rw [bq]; exact decide_eq_false fun e : k = g x => h x (by simp) e.symm
  simp only [List.map_cons, A.upd, A.eqK, A.eqZ, Option.bind_some, h1, cond_false]
  rw [upd_z (fun y hy => h y (by simp [hy]))]
  rfl
theorem upd_i {kk : IntKind} {k : Int} {w : AV} : ∀ {l : List α}, (∀ x ∈ l, gi x ≠ k) → A.upd .i (.int kk k) w (l.map fun x => (AV.int kk (gi x), v x)) = some ((l.map fun x => (AV.int kk (gi x), v x)) ++ [(.int kk k, w)])
 | [], _ => rfl
 | x :: l, h => by
  have h1 : (k == gi x) = false := by simpa using fun e : k = gi x => h x (by simp) e.symm
  simp only [List.map_cons, A.upd, A.eqK, A.eqI, if_true, Option.bind_some, h1, cond_false]
  rw [upd_i (fun y hy => h y (by simp [hy]))]
  rfl
end
theorem look_at (e : A.EK) {k z : AV} {σ : Heap} {id : Nat} {es : List (AV × AV)} (hk : A.keyOk e k = true) (h : σ[id]? = some (.map es)) : A.look e (.om id) k z σ = (A.find e k es).map fun r => r.getD z := by
 simp [A.look, hk, A.entries, h]
theorem mupd_at (e : A.EK) {k w : AV} {σ : Heap} {id : Nat} {es : List (AV × AV)} (hk : A.keyOk e k = true) (h : σ[id]? = some (.map es)) : A.mupd e (.om id) k w σ = (A.upd e k w es).map fun es => σ.set id (.map es) := by
 simp [A.mupd, hk, h]
theorem len_snoc {α : Type} (l : List α) (x : α) : (((l ++ [x]).length : Nat) : Int) = (l.length : Int) + 1 := by simp
def setZ {α : Type} (g : α → ByteArray) (l : List α) : List (AV × AV) := l.map fun x => (AV.str (g x), AV.bool true)
def setI {α : Type} (g : α → Int) (l : List α) : List (AV × AV) := l.map fun x => (AV.int .i64 (g x), AV.bool true)
theorem any_find {α : Type} (p : α → Bool) : ∀ (l : List α), ((l.find? p).map fun _ => AV.bool true).getD (AV.bool false) = AV.bool (l.any p)
 | [] => rfl
 | x :: l => by
  simp only [List.find?, List.any_cons]
  cases h : p x
  ·simpa using any_find p l
  ·rfl
theorem setZ_find {α : Type} (g : α → ByteArray) (k : ByteArray) (l : List α) : (A.find .z (.str k) (setZ g l)).map (fun r => r.getD (.bool false)) = some (.bool (memB k (l.map g))) := by
 unfold setZ
 rw [find_z g (fun _ => AV.bool true) k l, Option.map_some, any_find]
 refine congrArg some (congrArg AV.bool ?_)
 rw [Bool.eq_iff_iff, memB_iff]
 simp only [List.any_eq_true, decide_eq_true_eq, List.mem_map]
 exact ⟨fun ⟨x, h, e⟩ => ⟨x, h, e.symm⟩, fun ⟨x, h, e⟩ => ⟨x, h, e.symm⟩⟩
theorem setI_find {α : Type} (g : α → Int) (k : Int) (l : List α) : (A.find .i (.int .i64 k) (setI g l)).map (fun r => r.getD (.bool false)) = some (.bool (memB k (l.map g))) := by
 unfold setI
 rw [find_i g (fun _ => AV.bool true) .i64 k l, Option.map_some, any_find]
 refine congrArg some (congrArg AV.bool ?_)
 rw [Bool.eq_iff_iff, memB_iff]
 simp only [List.any_eq_true, decide_eq_true_eq, List.mem_map]
 exact ⟨fun ⟨x, h, e⟩ => ⟨x, h, e.symm⟩, fun ⟨x, h, e⟩ => ⟨x, h, e.symm⟩⟩
section
variable {α : Type} (g : α → ByteArray) (gi : α → Int) (l : List α) (k : ByteArray) (n : Int) (σ bs : Heap) (b0 : Blk)
theorem setZ_look0 : A.look .z (.om σ.length) (.str k) (.bool false) (σ ++ Blk.map (setZ g l) :: bs) = some (.bool (memB k (l.map g))) := by
 rw [look_at .z rfl (by rw [hat0]; rfl), setZ_find]
theorem setI_look0 : A.look .i (.om σ.length) (.int .i64 n) (.bool false) (σ ++ Blk.map (setI gi l) :: bs) = some (.bool (memB n (l.map gi))) := by
 rw [look_at .i rfl (by rw [hat0]; rfl), setI_find]
theorem setZ_look1 : A.look .z (.om (σ.length + 1)) (.str k) (.bool false) (σ ++ b0 :: Blk.map (setZ g l) :: bs) = some (.bool (memB k (l.map g))) := by
 rw [look_at .z rfl (by rw [hat]; rfl), setZ_find]
theorem setI_look1 : A.look .i (.om (σ.length + 1)) (.int .i64 n) (.bool false) (σ ++ b0 :: Blk.map (setI gi l) :: bs) = some (.bool (memB n (l.map gi))) := by
 rw [look_at .i rfl (by rw [hat]; rfl), setI_find]
theorem setZ_upd0 (h : memB k (l.map g) = false) : A.mupd .z (.om σ.length) (.str k) (.bool true) (σ ++ Blk.map (setZ g l) :: bs) = some (σ ++ Blk.map (setZ g l ++ [(.str k, .bool true)]) :: bs) := by
 rw [mupd_at .z rfl (by rw [hat0]; rfl), setZ, upd_z g _ (fun x hx e => memB_false.1 h (by rw [← e]; exact List.mem_map_of_mem hx)), Option.map_some, hset0]; rfl
theorem setI_upd0 (h : memB n (l.map gi) = false) : A.mupd .i (.om σ.length) (.int .i64 n) (.bool true) (σ ++ Blk.map (setI gi l) :: bs) = some (σ ++ Blk.map (setI gi l ++ [(.int .i64 n, .bool true)]) :: bs) := by
 rw [mupd_at .i rfl (by rw [hat0]; rfl), setI, upd_i gi _ (fun x hx e => memB_false.1 h (by rw [← e]; exact List.mem_map_of_mem hx)), Option.map_some, hset0]; rfl
theorem setZ_upd1 (h : memB k (l.map g) = false) : A.mupd .z (.om (σ.length + 1)) (.str k) (.bool true) (σ ++ b0 :: Blk.map (setZ g l) :: bs) = some (σ ++ b0 :: Blk.map (setZ g l ++ [(.str k, .bool true)]) :: bs) := by
 rw [mupd_at .z rfl (by rw [hat]; rfl), setZ, upd_z g _ (fun x hx e => memB_false.1 h (by rw [← e]; exact List.mem_map_of_mem hx)), Option.map_some, hset]; rfl
theorem setI_upd1 (h : memB n (l.map gi) = false) : A.mupd .i (.om (σ.length + 1)) (.int .i64 n) (.bool true) (σ ++ b0 :: Blk.map (setI gi l) :: bs) = some (σ ++ b0 :: Blk.map (setI gi l ++ [(.int .i64 n, .bool true)]) :: bs) := by
 rw [mupd_at .i rfl (by rw [hat]; rfl), setI, upd_i gi _ (fun x hx e => memB_false.1 h (by rw [← e]; exact List.mem_map_of_mem hx)), Option.map_some, hset]; rfl
end
theorem setZ_snoc {α : Type} (g : α → ByteArray) (l : List α) (x : α) : setZ g (l ++ [x]) = setZ g l ++ [(.str (g x), .bool true)] := by simp [setZ]
theorem quiet_same (σ : Heap) (v : AV) : A.quiet (some (v, σ)) σ = some v := by simp [A.quiet]
def Fz (a : AV) : Prop := ∀ σ n d, A.frz σ n d a = some a
def FzL (l : List AV) : Prop := ∀ σ n d, A.frzL σ n d l = some l
theorem fz_int (k : IntKind) (n : Int) : Fz (.int k n) := fun _ _ d => by cases d <;> simp [A.frz]
theorem fz_nsl : Fz .nsl := fun _ _ d => by cases d <;> simp [A.frz]
theorem fzL_nil : FzL [] := fun _ _ _ => by simp [A.frzL]
theorem fzL_cons {a : AV} {l : List AV} (h : Fz a) (k : FzL l) : FzL (a :: l) := fun σ n d => by simp [A.frzL, h σ n d, k σ n d]
theorem fzLL {α : Type} {c : α → List AV} (h : ∀ x, FzL (c x)) (l : List α) (σ : Heap) (n d : Nat) : A.frzLL σ n d (l.map c) = some (l.map c) := by
 induction l with
 | nil => simp [A.frzLL]
 | cons x l ih => simp [A.frzLL, h x σ n d, ih]
section
variable {α β : Type}
theorem cond_lazy {c c' : AV} (h : c = c') (t e : Option α) : A.cond c t e = A.cond c' t e := by rw [h]
theorem guard_lazy {c c' : AV} (h : c = c') (w : Bool) (e d : Option α) : A.guard c w e d = A.guard c' w e d := by rw [h]
theorem bind_lazy {x y : Option α} (h : x = y) (f : α → Option β) : x.bind f = y.bind f := by rw [h]
attribute [congr] cond_lazy guard_lazy bind_lazy
end
theorem MSb : type_of% @Option.bind_some.{0,0} ∧ type_of% @Option.map_some.{0,0} ∧ type_of% @cT ∧ type_of% @cF ∧ type_of% @gTT ∧ type_of% @gTF ∧ type_of% @gFT ∧ type_of% @gFF ∧ type_of% @gN ∧ type_of% @pT ∧ type_of% @pF ∧ type_of% @cond_true.{1} ∧ type_of% @cond_false.{1} ∧ type_of% @xN ∧ type_of% @aAdd ∧ type_of% @aSub ∧ type_of% @aMul ∧ type_of% @aLss ∧ type_of% @aLeq ∧ type_of% @aGtr ∧ type_of% @aGeq ∧ type_of% @aLss8 ∧ type_of% @aLeq8 ∧ type_of% @aGtr8 ∧ type_of% @aGeq8 ∧ type_of% @aEq ∧ type_of% @aNe ∧ type_of% @aEqZ ∧ type_of% @aNeZ ∧ type_of% @aNot ∧ type_of% @aNotD ∧ type_of% @aLb ∧ type_of% @aExt0 ∧ type_of% @aExt1 ∧ type_of% @aExt2 ∧ type_of% @aExt3 ∧ type_of% @aDe ∧ type_of% @aFa ∧ type_of% @aLenZ ∧ type_of% @aCI ∧ type_of% @aCB ∧ type_of% @aCS ∧ type_of% @aCSl ∧ type_of% @p1D ∧ type_of% @gd0 ∧ type_of% @gd1 ∧ type_of% @gd2 ∧ type_of% @gd3 ∧ type_of% @gd4 ∧ type_of% @gd5 ∧ type_of% @gd6 ∧ type_of% @gd7 ∧ type_of% @gd8 ∧ type_of% @fin_same ∧ type_of% @fin_int ∧ type_of% @fin_bool ∧ type_of% @fin_str ∧ type_of% @fin_unit ∧ type_of% @lenS_sl ∧ type_of% @ite_true.{1} ∧ type_of% @ite_false.{1} ∧ type_of% @if_true.{1} ∧ type_of% @if_false.{1} ∧ type_of% @Bool.false_eq_true ∧ type_of% @not_true_eq_false ∧ type_of% @not_false_eq_true ∧ type_of% @decide_true ∧ type_of% @decide_false ∧ type_of% @Bool.not_true ∧ type_of% @Bool.not_false ∧ type_of% @List.append_assoc.{0} ∧ type_of% @List.cons_append.{0} ∧ type_of% @List.nil_append.{0} ∧ type_of% @List.drop_zero.{0} ∧ type_of% @p1_cInt ∧ type_of% @p1_cStr ∧ type_of% @len_snoc ∧ type_of% @Int.natCast_add ∧ type_of% @Int.cast_ofNat_Int ∧ type_of% @quiet_same ∧ type_of% @el_go ∧ type_of% @el_out ∧ type_of% @el_ite ∧ type_of% @setZ_look0 ∧ type_of% @setI_look0 ∧ type_of% @setZ_look1 ∧ type_of% @setI_look1 ∧ type_of% @setZ_snoc ∧ type_of% @setZ_upd0 ∧ type_of% @setI_upd0 ∧ type_of% @setZ_upd1 ∧ type_of% @setI_upd1 ∧ type_of% @true_and ∧ type_of% @and_true ∧ type_of% @false_and ∧ type_of% @and_false ∧ type_of% @true_or ∧ type_of% @or_true ∧ type_of% @false_or ∧ type_of% @or_false ∧ type_of% @Option.getD_some.{0} ∧ type_of% @Option.getD_none.{0} ∧ type_of% @List.length_append.{0} ∧ type_of% @List.length_cons.{0} ∧ type_of% @List.length_nil.{0} ∧ type_of% @Nat.zero_add ∧ type_of% @Nat.add_zero :=
 ⟨@Option.bind_some.{0,0}, @Option.map_some.{0,0}, @cT, @cF, @gTT, @gTF, @gFT, @gFF, @gN, @pT, @pF, @cond_true.{1}, @cond_false.{1}, @xN, @aAdd, @aSub, @aMul, @aLss, @aLeq, @aGtr, @aGeq, @aLss8, @aLeq8, @aGtr8, @aGeq8, @aEq, @aNe, @aEqZ, @aNeZ, @aNot, @aNotD, @aLb, @aExt0, @aExt1, @aExt2, @aExt3, @aDe, @aFa, @aLenZ, @aCI, @aCB, @aCS, @aCSl, @p1D, @gd0, @gd1, @gd2, @gd3, @gd4, @gd5, @gd6, @gd7, @gd8, @fin_same, @fin_int, @fin_bool, @fin_str, @fin_unit, @lenS_sl, @ite_true.{1}, @ite_false.{1}, @if_true.{1}, @if_false.{1}, @Bool.false_eq_true, @not_true_eq_false, @not_false_eq_true, @decide_true, @decide_false, @Bool.not_true, @Bool.not_false, @List.append_assoc.{0}, @List.cons_append.{0}, @List.nil_append.{0}, @List.drop_zero.{0}, @p1_cInt, @p1_cStr, @len_snoc, @Int.natCast_add, @Int.cast_ofNat_Int, @quiet_same, @el_go, @el_out, @el_ite, @setZ_look0, @setI_look0, @setZ_look1, @setI_look1, @setZ_snoc, @setZ_upd0, @setI_upd0, @setZ_upd1, @setI_upd1, @true_and, @and_true, @false_and, @and_false, @true_or, @or_true, @false_or, @or_false, @Option.getD_some.{0}, @Option.getD_none.{0}, @List.length_append.{0}, @List.length_cons.{0}, @List.length_nil.{0}, @Nat.zero_add, @Nat.add_zero⟩
end Go.Proofs.YtkdafecbdncmiaaDoor

namespace Go.Proofs.YtkdafecbdncmiaaDoor
set_option linter.unusedSectionVars false
set_option linter.unusedSimpArgs false
set_option linter.unusedVariables false
theorem fz_cInt (n : Int) : FzL (cInt n) := fzL_cons (fz_int _ _) fzL_nil
end Go.Proofs.YtkdafecbdncmiaaDoor

namespace Go.Proofs.YtkdafecbdncmiaaDoor
set_option linter.unusedSectionVars false
set_option linter.unusedVariables false
set_option linter.unusedSimpArgs false
instance : Inhabited ByteArray := ⟨⟨#[]⟩⟩
instance : Inhabited PointD := ⟨⟨0, 0⟩⟩
instance : Inhabited CurveD := ⟨⟨0, []⟩⟩
instance : Inhabited FadeD := ⟨⟨0, 0, 0, 0, 0, ⟨0, []⟩⟩⟩
instance : Inhabited ChangeD := ⟨⟨0, 0⟩⟩
instance : Inhabited RangeD := ⟨⟨0, 0, ⟨#[]⟩⟩⟩
instance : Inhabited ParamD := ⟨⟨⟨#[]⟩, 0, 0, 0, 0, false, []⟩⟩
instance : Inhabited ProfileD := ⟨⟨⟨#[]⟩, 0, []⟩⟩
instance : Inhabited UnitD := ⟨⟨0, ⟨#[]⟩, 0, 0⟩⟩
instance : Inhabited RigD := ⟨⟨[], []⟩⟩
instance : Inhabited KeyD := ⟨⟨0, ⟨#[]⟩⟩⟩
instance : Inhabited SettingD := ⟨⟨⟨0, ⟨#[]⟩⟩, 0⟩⟩
instance : Inhabited PresetD := ⟨⟨0, ⟨#[]⟩, []⟩⟩
instance : Inhabited FanD := ⟨⟨[], 0, 0⟩⟩
instance : Inhabited ValueD := ⟨⟨0, 0⟩⟩
instance : Inhabited MoveD := ⟨⟨⟨0, ⟨#[]⟩⟩, ⟨0, 0⟩, false, false, 0, 0⟩⟩
instance : Inhabited CueD := ⟨⟨0, ⟨#[]⟩, 0, 0, 0, 0, ⟨0, []⟩, false, 0, []⟩⟩
instance : Inhabited EntryD := ⟨⟨⟨0, ⟨#[]⟩⟩, ⟨0, 0⟩, 0⟩⟩
instance : Inhabited MarkD := ⟨⟨0, 0, 0⟩⟩
instance : Inhabited ListD := ⟨⟨0, []⟩⟩
instance : Inhabited PlaybackD := ⟨⟨0, 0, 0⟩⟩
instance : Inhabited SetupD := ⟨⟨⟨[], []⟩, [], [], []⟩⟩
instance : Inhabited ActionD := ⟨⟨0, 0, 0, 0, 0⟩⟩
instance : Inhabited EventD := ⟨⟨0, ⟨0, 0, 0, 0, 0⟩⟩⟩
instance : Inhabited StampD := ⟨⟨0, 0, 0, 0⟩⟩
instance : Inhabited RunD := ⟨⟨⟨0, ⟨#[]⟩⟩, ⟨0, 0, 0, 0, 0, ⟨0, []⟩⟩, 0, false⟩⟩
instance : Inhabited StandingD := ⟨⟨0, 0, 0, false, 0, []⟩⟩
instance : Inhabited EffectStepD := ⟨⟨0, 0, 0⟩⟩
instance : Inhabited EffectD := ⟨⟨0, 0, 0, 0, 0, 0, false, false, []⟩⟩
instance : Inhabited RateD := ⟨⟨0, 0⟩⟩
instance : Inhabited RunningD := ⟨⟨⟨0, 0, 0, 0, 0, 0, false, false, []⟩, [], 0, [], 0, 0, 0⟩⟩
end Go.Proofs.YtkdafecbdncmiaaDoor

namespace Go.Proofs.YtkdafecbdncmiaaDoor
set_option linter.unusedSectionVars false
set_option linter.unusedVariables false
set_option linter.unusedSimpArgs false
def Rf {β τ : Type} (M : Option β) (T : Option τ) (Q : τ → β → Prop) : Prop := ∀ t, T = some t → ∃ b, M = some b ∧ Q t b
section
variable {α β ω τ ζ : Type}
theorem rf_s {M0 : Option α} {K : α → Option β} {T : Option τ} {Q : τ → β → Prop} (a : α) (h : M0 = some a) (k : Rf (K a) T Q) : Rf (M0.bind K) T Q := by
 intro t ht; obtain ⟨b, h1, h2⟩ := k t ht; exact ⟨b, by rw [h]; exact h1, h2⟩
theorem rf_o {M0 : Option α} {K : α → Option β} {o : Option ω} {K' : ω → Option τ} {Q : τ → β → Prop} (e : ω → α) (h : ∀ t, o = some t → M0 = some (e t)) (k : ∀ t, o = some t → Rf (K (e t)) (K' t) Q) : Rf (M0.bind K) (o.bind K') Q := by
 intro t ht
 obtain ⟨x, h1, h2⟩ := Option.bind_eq_some_iff.1 ht
 obtain ⟨b, h3, h4⟩ := k x h1 t h2
 exact ⟨b, by rw [h x h1]; exact h3, h4⟩
theorem rf_b {M0 : Option α} {K : α → Option β} {o : Option ω} {K' : ω → Option τ} {Q : τ → β → Prop} (Q0 : ω → α → Prop) (h : Rf M0 o Q0) (k : ∀ t a, Q0 t a → Rf (K a) (K' t) Q) : Rf (M0.bind K) (o.bind K') Q := by
 intro t ht
 obtain ⟨x, h1, h2⟩ := Option.bind_eq_some_iff.1 ht
 obtain ⟨a, h3, h4⟩ := h x h1
 obtain ⟨b, h5, h6⟩ := k x a h4 t h2
 exact ⟨b, by rw [h3]; exact h5, h6⟩
theorem rf_ret {t : τ} {b : β} {Q : τ → β → Prop} (h : Q t b) : Rf (some b) (some t) Q := by
 intro u hu; cases hu; exact ⟨b, rfl, h⟩
theorem rf_fin {M : Option β} {t : τ} {Q : τ → β → Prop} (b : β) (e : M = some b) (h : Q t b) : Rf M (some t) Q := by
 rw [e]; exact rf_ret h
theorem rf_none {M : Option β} {Q : τ → β → Prop} : Rf M (none : Option τ) Q := by intro u hu; cases hu
theorem rf_tq {M : Option β} {p : Prop} [Decidable p] {T : Option τ} {Q : τ → β → Prop} (h : p → Rf M T Q) : Rf M (if p then T else none) Q := by
 split
 ·exact h ‹_›
 ·exact rf_none
theorem rf_c {p : Prop} [Decidable p] {X Y : Option β} {X' Y' : Option τ} {Q : τ → β → Prop} (h1 : p → Rf X X' Q) (h2 : ¬ p → Rf Y Y' Q) : Rf (A.cond (.bool (decide p)) X Y) (if p then X' else Y') Q := by
 by_cases h : p
 ·simp only [h, decide_true, if_true]; exact h1 h
 ·simp only [h, decide_false, if_false]; exact h2 h
theorem rf_cb {c : Bool} {X Y : Option β} {X' Y' : Option τ} {Q : τ → β → Prop} (h1 : c = true → Rf X X' Q) (h2 : c = false → Rf Y Y' Q) : Rf (A.cond (.bool c) X Y) (if c = true then X' else Y') Q := by
 cases c
 ·exact h2 rfl
 ·exact h1 rfl
theorem rf_ct {X Y : Option β} {T : Option τ} {Q : τ → β → Prop} (h : Rf X T Q) : Rf (A.cond (.bool true) X Y) T Q := h
theorem rf_cf {X Y : Option β} {T : Option τ} {Q : τ → β → Prop} (h : Rf Y T Q) : Rf (A.cond (.bool false) X Y) T Q := h
theorem rf_bt {c : Bool} {X Y : Option β} {T : Option τ} {Q : τ → β → Prop} (e : c = true) (h : Rf X T Q) : Rf (bif c then X else Y) T Q := by rw [e]; exact h
theorem rf_bf {c : Bool} {X Y : Option β} {T : Option τ} {Q : τ → β → Prop} (e : c = false) (h : Rf Y T Q) : Rf (bif c then X else Y) T Q := by rw [e]; exact h
def gv {α : Type} (g : Bool) (e : α → AV) (t : α) : AV := bif g then e t else .tup []
end
inductive Lr (S B R : Type) where
 | go (s : S)
 | brk (b : B)
 | ret (r : R)
def forL {α S B R : Type} (body : Nat → α → S → Option (Lr S B R)) (fin : S → Option B) : List α → Nat → S → Option (B ⊕ R)
 | [], _, s => (fin s).map .inl
 | x :: l, i, s => (body i x s).bind fun q => match q with | .go s' => forL body fin l (i + 1) s' | .brk b => some (.inl b) | .ret r => some (.inr r)
def forE {α S B R γ : Type} (l : List α) (body : Nat → α → S → Option (Lr S B R)) (fin : S → Option B) (s : S) (K1 : B → Option γ) (K2 : R → Option γ) : Option γ :=
 if l.length ≤ mxl then (forL body fin l 0 s).bind fun q => q.elim K1 K2 else none
section
variable {α S B R β τ : Type}
abbrev LS := AX × List AV × Heap
def Rnd (I : S → List AV → Heap → Prop) (QB : B → LS → Prop) (QR : R → LS → Prop) (t : Lr S B R) (q : LS) : Prop := match t with
 | .go s => q.1 = .normal ∧ I s q.2.1 q.2.2
 | .brk b => q.1 ≠ .normal ∧ QB b q
 | .ret r => q.1 ≠ .normal ∧ QR r q
theorem rnd_go {I : S → List AV → Heap → Prop} {QB : B → LS → Prop} {QR : R → LS → Prop} {s : S} {v : List AV} {σ : Heap} (h : I s v σ) : Rnd I QB QR (.go s) (.normal, v, σ) := ⟨rfl, h⟩
theorem rnd_ret {I : S → List AV → Heap → Prop} {QB : B → LS → Prop} {QR : R → LS → Prop} {r : R} {q : LS} (n : q.1 ≠ .normal) (h : QR r q) : Rnd I QB QR (.ret r) q := ⟨n, h⟩
theorem rf_for {f : List AV → Heap → Option LS} {K : LS → Option β} {Q : τ → β → Prop} {l : List α} {body : Nat → α → S → Option (Lr S B R)} {fin : S → Option B} {s0 : S} {K1 : B → Option τ} {K2 : R → Option τ} {v0 : List AV} {σ0 : Heap}
  (I : Nat → S → List AV → Heap → Prop) (QB : B → LS → Prop) (QR : R → LS → Prop)
  (hstep : l.length ≤ mxl → ∀ i x s v σ, l[i]? = some x → I i s v σ → Rf (f v σ) (body i x s) (Rnd (I (i + 1)) QB QR))
  (hend : l.length ≤ mxl → ∀ s v σ, I l.length s v σ → Rf (f v σ) (fin s) (fun b q => q.1 ≠ .normal ∧ QB b q))
  (h0 : I 0 s0 v0 σ0) (k1 : l.length ≤ mxl → ∀ b q, QB b q → Rf (K q) (K1 b) Q) (k2 : l.length ≤ mxl → ∀ r q, QR r q → Rf (K q) (K2 r) Q) :
  Rf ((A.loop f v0 σ0).bind K) (forE l body fin s0 K1 K2) Q := by
 unfold forE
 refine rf_tq fun hl => ?_
 have hstep := hstep hl
 have hend := hend hl
 have key : ∀ (rest pre : List α) (s : S) (v : List AV) (σ : Heap), l = pre ++ rest → I pre.length s v σ → ∀ t, forL body fin rest pre.length s = some t → ∃ q, (∃ n, A.iter f n v σ = some q) ∧ (match t with | .inl b => QB b q | .inr r => QR r q) := by
  intro rest
  induction rest with
  | nil =>
   intro pre s v σ hl hI t ht
   rw [List.append_nil] at hl
   subst hl
   simp only [forL] at ht
   obtain ⟨b, hb, rfl⟩ := Option.map_eq_some_iff.1 ht
   obtain ⟨q, h1, h2, h3⟩ := hend s v σ hI b hb
   exact ⟨q, loop_done h1 h2, h3⟩
  | cons x rest ih =>
   intro pre s v σ hl hI t ht
   simp only [forL] at ht
   obtain ⟨y, hy, h2⟩ := Option.bind_eq_some_iff.1 ht
   obtain ⟨q, h3, h4⟩ := hstep pre.length x s v σ (by rw [hl]; simp) hI y hy
   obtain ⟨e, v', σ'⟩ := q
   cases y with
   | go s' =>
    obtain ⟨rfl, hI'⟩ := h4
    obtain ⟨q, h5, h6⟩ := ih (pre ++ [x]) s' v' σ' (by simpa using hl) (by simpa using hI') t (by simpa using h2)
    exact ⟨q, loop_step h3 h5, h6⟩
   | brk b => simp only [Option.some.injEq] at h2; subst h2; exact ⟨_, loop_done h3 h4.1, h4.2⟩
   | ret b => simp only [Option.some.injEq] at h2; subst h2; exact ⟨_, loop_done h3 h4.1, h4.2⟩
 intro t ht
 obtain ⟨y, hy, h2⟩ := Option.bind_eq_some_iff.1 ht
 obtain ⟨q, ⟨n, hn⟩, h3⟩ := key l [] s0 v0 σ0 rfl h0 y hy
 cases y with
 | inl b => obtain ⟨z, h4, h5⟩ := k1 hl b q h3 t h2; exact ⟨z, by rw [loop_of_iter hn]; exact h4, h5⟩
 | inr b => obtain ⟨z, h4, h5⟩ := k2 hl b q h3 t h2; exact ⟨z, by rw [loop_of_iter hn]; exact h4, h5⟩
theorem ix_lt {l : List α} {i : Nat} {x : α} (h : l[i]? = some x) : A.lss (.int .i64 (i : Int)) (.int .i64 (l.length : Int)) = some (.bool true) := by
 have := (List.getElem?_eq_some_iff.1 h).1
 rw [aLss]; simp; omega
theorem ix_end (l : List α) : A.lss (.int .i64 (l.length : Int)) (.int .i64 (l.length : Int)) = some (.bool false) := by rw [aLss]; simp
theorem ix_inc {l : List α} {i : Nat} {x : α} (h : l[i]? = some x) (hl : l.length ≤ mxl) : A.add (.int .i64 (i : Int)) (.int .i64 1) = some (.int .i64 ((i + 1 : Nat) : Int)) := by
 have := (List.getElem?_eq_some_iff.1 h).1
 rw [aAdd, wrap64 (by unfold inI; unfold mxl at hl; omega)]
 simp
def tIx (l : List α) (i : Int) : Option α := if 0 ≤ i then l[i.toNat]? else none
theorem ix_at {sz : Nat} {c : α → List AV} {l : List α} {i : Int} {x : α} (h : tIx l i = some x) : A.iaddr sz (sl sz c l) (.int .i64 i) = some (.rp (c x)) := by
 unfold tIx at h
 split at h
 ·exact iaddr_int sz c l ‹_› h
 ·cases h
theorem ix_for {sz : Nat} {c : α → List AV} {l : List α} {i : Nat} {x : α} (h : l[i]? = some x) : A.iaddr sz (sl sz c l) (.int .i64 (i : Int)) = some (.rp (c x)) := iaddr_sl sz c l h
end
theorem quiet_of {M : Option (AV × Heap)} {v : AV} {σ : Heap} (h : M = some (v, σ)) : A.quiet M σ = some v := by rw [h, quiet_same]
noncomputable def tq {α : Type} (p : Prop) (x : α) : Option α := open Classical in if p then some x else none
theorem tq_pos {α : Type} {p : Prop} {x : α} (h : p) : tq p x = some x := if_pos h
theorem tq_of {α β : Type} {p : Prop} {x r : α} {M : Option β} {e : α → β} (h : p → M = some (e x)) (k : tq p x = some r) : M = some (e r) := by
 unfold tq at k
 split at k
 ·rename_i hp; injection k with k; subst k; exact h hp
 ·cases k
theorem pk_and (b t : Bool) : A.pick (.bool b) (bif b then .bool t else .tup []) (.bool false) = some (.bool (b && t)) := by cases b <;> rfl
theorem pk_or (b t : Bool) : A.pick (.bool b) (.bool true) (bif !b then .bool t else .tup []) = some (.bool (b || t)) := by cases b <;> rfl
section
variable {α β ω τ : Type} {G b : Bool} {M0 : Option AV} {K : AV → Option β} {T : Option τ} {K' : ω → Option τ} {o : Option ω} {Q : τ → β → Prop}
theorem rf_gt (a : AV) (h : b = true → M0 = some a) (k : Rf (K (bif b then a else .tup [])) T Q) : Rf ((A.guard (.bool b) true M0 (some (.tup []))).bind K) T Q := by
 refine rf_s _ ?_ k
 cases b <;> simp_all [A.guard]
theorem rf_gf (a : AV) (h : (!b) = true → M0 = some a) (k : Rf (K (bif !b then a else .tup [])) T Q) : Rf ((A.guard (.bool b) false M0 (some (.tup []))).bind K) T Q := by
 refine rf_s _ ?_ k
 cases b <;> simp_all [A.guard]
theorem rf_ggt (a : AV) (h : (G && b) = true → M0 = some a) (k : Rf (K (bif G && b then a else .tup [])) T Q) : Rf ((A.guard (bif G then .bool b else .tup []) true M0 (some (.tup []))).bind K) T Q := by
 refine rf_s _ ?_ k
 cases G <;> cases b <;> simp_all [A.guard]
end
theorem wrap_nn {ro : Bool} {ain : List Sh} {rout : Sh} {r : List AV → Heap → Option (AV × Heap)} {args args' : List AV} {σ : Heap} (hn : A.nnL ain args = A.nnL ain args') (h1 : args.any A.own = false) (h2 : args'.any A.own = false) : A.wrap ro ain rout r args σ = A.wrap ro ain rout r args' σ := by
 unfold A.wrap
 rw [h1, h2, hn, Bool.and_false, cond_false, cond_false]
theorem rf_wrap {τ : Type} {ro : Bool} {ain : List Sh} {rout : Sh} {r : List AV → Heap → Option (AV × Heap)} {args args' : List AV} {σ : Heap} {T : Option τ} {enc : τ → AV} (hn : A.nnL ain args = args') (h : args.any A.own = false) (e : Rf (r args' σ) T (fun t b => A.nn rout b.1 = enc t ∧ b.2 = σ)) : ∀ t, T = some t → A.wrap ro ain rout r args σ = some (enc t, σ) := by
 intro t ht
 obtain ⟨⟨v, σ'⟩, h1, h2, h3⟩ := e t ht
 simp only at h2 h3
 subst h3
 exact wrap_eq h (by rw [hn]; exact h1) h2
theorem rf_wrap1 {τ : Type} {ro : Bool} {ain : List Sh} {rout : Sh} {f : AV → Heap → Option (AV × Heap)} {x0 y0 : AV} {σ : Heap} {T : Option τ} {enc : τ → AV} (hn : A.nnL ain [x0] = [y0]) (h : ([x0] : List AV).any A.own = false) (e : Rf (f y0 σ) T (fun t b => A.nn rout b.1 = enc t ∧ b.2 = σ)) : ∀ t, T = some t → A.wrap ro ain rout (A.ar1 f) [x0] σ = some (enc t, σ) := rf_wrap hn h e
theorem rf_wrap2 {τ : Type} {ro : Bool} {ain : List Sh} {rout : Sh} {f : AV → AV → Heap → Option (AV × Heap)} {x0 x1 y0 y1 : AV} {σ : Heap} {T : Option τ} {enc : τ → AV} (hn : A.nnL ain [x0, x1] = [y0, y1]) (h : ([x0, x1] : List AV).any A.own = false) (e : Rf (f y0 y1 σ) T (fun t b => A.nn rout b.1 = enc t ∧ b.2 = σ)) : ∀ t, T = some t → A.wrap ro ain rout (A.ar2 f) [x0, x1] σ = some (enc t, σ) := rf_wrap hn h e
end Go.Proofs.YtkdafecbdncmiaaDoor

namespace Go.Proofs.YtkdafecbdncmiaaDoor
set_option linter.unusedSectionVars false
set_option linter.unusedVariables false
set_option linter.unusedSimpArgs false
inductive Ct where
 | s (sz : Nat) (es : List (List AV))
 | m (es : List (AV × AV))
 | b (cs : List AV)
section
variable {σ0 σ σ' : Heap} {L : List (AV × Ct)} {n : Nat}
end
section
variable {κ ν : Type} [DecidableEq κ]
def tfind (k : κ) : List (κ × ν) → Option ν
 | [] => none
 | (k', v) :: r => if k = k' then some v else tfind k r
variable {ek : A.EK} {eK : κ → AV} {eV : ν → AV} (hq : ∀ a b, A.eqK ek (eK a) (eK b) = some (decide (a = b)))
include hq
end
section
variable {κ ν : Type} [DecidableEq κ] {ek : A.EK} {eK : κ → AV} {eV : ν → AV} {σ0 σ : Heap} {L : List (AV × Ct)} {h : AV} {l : List (κ × ν)}
end
section
variable {α : Type} {c : α → List AV} {l ys : List α} {σ0 σ : Heap} {L : List (AV × Ct)} {h : AV} {sz : Nat}
end
def tSl {α : Type} (l : List α) (lo hi : Option Int) : Option (List α) :=
 let h := hi.getD l.length
 let k := lo.getD 0
 if 0 ≤ k ∧ k ≤ h ∧ h ≤ l.length then some ((l.take h.toNat).drop k.toNat) else none
theorem sls_at {α : Type} {sz : Nat} {c : α → List AV} {l r : List α} {lo hi : Option Int} {σ : Heap} (h : tSl l lo hi = some r) : A.sliceS sz (sl sz c l) (lo.map (.int .i64)) (hi.map (.int .i64)) σ = some (sl sz c r) := by
 unfold tSl at h
 simp only at h
 split at h
 ·rename_i hc
  injection h with h
  subst h
  obtain ⟨h1, h2, h3⟩ := hc
  simp only [A.sliceS, sl, if_true, List.length_map]
  have e1 : A.bound l.length l.length (hi.map (.int .i64)) = some (hi.getD l.length).toNat := by
   cases hi with
   | none => simp [A.bound]
   | some h => simp only [Option.getD_some] at h2 h3; simp [A.bound, show 0 ≤ h by omega, h3]
  have e2 : A.bound (hi.getD l.length).toNat 0 (lo.map (.int .i64)) = some (lo.getD 0).toNat := by
   cases lo with
   | none => simp [A.bound]
   | some k =>
    simp only [Option.getD_some] at h1 h2
    have : k ≤ ((hi.getD l.length).toNat : Int) := by omega
    simp only [Option.map_some, A.bound, Option.getD_some]
    rw [if_pos ⟨h1, this⟩]
  rw [e1, Option.bind_some, e2, Option.map_some, List.map_drop, List.map_take]
 ·cases h
def tCat (a b : ByteArray) : Option ByteArray := if a.size + b.size ≤ 9223372036854775807 then some (a ++ b) else none
theorem cat_at {a b r : ByteArray} (h : tCat a b = some r) : A.add (.str a) (.str b) = some (.str r) := by
 unfold tCat at h
 split at h
 ·injection h with h; subst h; simp [A.add, *]
 ·cases h
end Go.Proofs.YtkdafecbdncmiaaDoor

namespace Go.Proofs.YtkdafecbdncmiaaDoor
set_option linter.unusedSectionVars false
set_option linter.unusedVariables false
set_option linter.unusedSimpArgs false
inductive PickD where
 | mk (kind from_ to_ : Int) (args : List PickD)
namespace PickD
set_option linter.unusedSectionVars false
def kind : PickD → Int | .mk k _ _ _ => k
def from_ : PickD → Int | .mk _ f _ _ => f
def to_ : PickD → Int | .mk _ _ t _ => t
def args : PickD → List PickD | .mk _ _ _ l => l
end PickD
mutual
def pSize : PickD → Nat
 | .mk _ _ _ l => 1 + pSizes l
def pSizes : List PickD → Nat
 | [] => 0
 | p :: l => pSize p + pSizes l
end
mutual
def pDeep : PickD → Nat
 | .mk _ _ _ l => 1 + pDeeps l
def pDeeps : List PickD → Nat
 | [] => 0
 | p :: l => max (pDeep p) (pDeeps l)
end
theorem pSize_eq (p : PickD) : pSize p = 1 + pSizes p.args := by cases p; rw [pSize]; rfl
theorem pDeep_eq (p : PickD) : pDeep p = 1 + pDeeps p.args := by cases p; rw [pDeep]; rfl
theorem pSizes_mem {p : PickD} : ∀ {l : List PickD}, p ∈ l → pSize p ≤ pSizes l
 | q :: l, h => by
  rw [pSizes]
  rcases List.mem_cons.1 h with rfl | h
  ·omega
  ·have := pSizes_mem h; omega
theorem pSizes_sum : ∀ l : List PickD, pSizes l = (l.map pSize).sum
 | [] => by rw [pSizes]; rfl
 | p :: l => by rw [pSizes, List.map_cons, List.sum_cons, pSizes_sum l]
theorem pSize_arg {p q : PickD} (h : q ∈ p.args) : pSize q < pSize p := by
 rw [pSize_eq p]
 have := pSizes_mem h
 omega
namespace PickD
set_option linter.unusedSectionVars false
def frm : PickD → Int := from_
def to : PickD → Int := to_
end PickD
mutual
def cPick : PickD → List AV
 | .mk k f t l => [.int .i64 k, .int .i64 f, .int .i64 t, .sl 4 (cPicks l)]
def cPicks : List PickD → List (List AV)
 | [] => []
 | p :: l => cPick p :: cPicks l
end
theorem cPicks_eq : ∀ l : List PickD, cPicks l = l.map cPick
 | [] => by rw [cPicks]; rfl
 | p :: l => by rw [cPicks, cPicks_eq l]; rfl
theorem cPick_eq (p : PickD) : cPick p = [.int .i64 p.kind, .int .i64 p.frm, .int .i64 p.to, sl 4 cPick p.args] := by
 cases p; rw [cPick, cPicks_eq]; rfl
theorem cPick_len (p : PickD) : (cPick p).length = 4 := by rw [cPick_eq]; rfl
structure GroupD where
 number : Int
 pick : PickD
instance : Inhabited PickD := ⟨.mk 0 0 0 []⟩
instance : Inhabited GroupD := ⟨⟨0, default⟩⟩
theorem sp_cPick (x : PickD) (l : List AV) (h : l.length = 4) : A.splice 0 (cPick x) l = some (cPick x) := by
 simp [A.splice, cPick_len, h]
end Go.Proofs.YtkdafecbdncmiaaDoor

namespace Go.Proofs.YtkdafecbdncmiaaDoor
set_option linter.unusedSectionVars false
set_option linter.unusedVariables false
set_option linter.unusedSimpArgs false
def withinB (n lo hi : Int) : Bool := decide (lo ≤ n ∧ n ≤ hi)
def profOf (nm : ByteArray) : List ProfileD → ProfileD × Bool
 | [] => (⟨⟨#[]⟩, 0, []⟩, false)
 | p :: rest => if p.name = nm then (p, true) else profOf nm rest
def lastU (lib : List ProfileD) (u : UnitD) : Int := u.address + (profOf u.profile lib).1.size - 1
def MarksP (lib : List ProfileD) (pre : List UnitD) (f : Int → Nat → Bool) : Prop := ∀ v k, f v k = true ↔ ∃ x ∈ pre, x.univ = v ∧ x.address ≤ (k : Int) ∧ (k : Int) ≤ lastU lib x
end Go.Proofs.YtkdafecbdncmiaaDoor

namespace Go.Proofs.YtkdafecbdncmiaaDoor
set_option linter.unusedSectionVars false
set_option linter.unusedVariables false
set_option linter.unusedSimpArgs false
theorem Within_eq (n lo hi : Int) (σ : Heap) : m_word_Within [.int .i64 n, .int .i64 lo, .int .i64 hi] σ = some (.bool (withinB n lo hi), σ) := by
 refine wrap_eq rfl ?_ rfl
 show r_word_Within _ _ _ σ = _
 unfold r_word_Within withinB
 by_cases h : lo ≤ n <;> simp only [MSb, reduceCtorEq, h, true_and, false_and]
theorem Within1_eq (n lo hi : Int) (σ : Heap) : m_R1_Within [.int .i64 n, .int .i64 lo, .int .i64 hi] σ = some (.bool (withinB n lo hi), σ) := by
 refine wrap_eq rfl ?_ rfl
 show r_R1_Within _ _ _ σ = _
 unfold r_R1_Within withinB
 by_cases h : lo ≤ n <;> simp only [MSb, reduceCtorEq, h, true_and, false_and]
end Go.Proofs.YtkdafecbdncmiaaDoor

namespace Go.Proofs.YtkdafecbdncmiaaDoor
set_option linter.unusedSectionVars false
set_option linter.unusedVariables false
set_option linter.unusedSimpArgs false
set_option maxRecDepth 100000
noncomputable def t_pick_size (q_pick_size : PickD → Option (Int × Int)) (a0 : PickD) : Option (Int × Int) :=
 forE a0.args (fun (i8 : Nat) e7 (s1 : (Int × Int)) => (show Option (Lr (Int × Int) (Int × Int) Unit) from
   (q_pick_size e7).bind fun r9 =>
   some (.go (IntKind.i64.wrap (s1.1 + r9.1), (if s1.2 < IntKind.i64.wrap (r9.2 + 1) then IntKind.i64.wrap (r9.2 + 1) else s1.2))))) (fun s1 => some (s1.1, s1.2)) (1, 1) (fun b2 =>
  some (b2.1, b2.2)) (fun b2 =>
  none)
theorem h_pick_size {rc : Nat → List AV → Heap → Option (AV × Heap)} (q_pick_size : PickD → Option (Int × Int)) (hq_pick_size : ∀ (x0 : PickD) (s : Heap) r, q_pick_size x0 = some r → rc 37 [(AV.agg (cPick x0))] s = some ((AV.tup [(AV.int .i64 r.1), (AV.int .i64 r.2)]), s)) {a0 : PickD} {σ : Heap} {r : (Int × Int)} (h : t_pick_size q_pick_size a0 = some r) : A.wrap true [(.a [.k, .k, .k, (.s 4)])] .k (A.ar1 (r_pick_size rc)) [(AV.agg (cPick a0))] σ = some ((AV.tup [(AV.int .i64 r.1), (AV.int .i64 r.2)]), σ) := by
 refine rf_wrap1 (f := r_pick_size rc) (y0 := (AV.agg (cPick a0))) (enc := fun r : (Int × Int) => (AV.tup [(AV.int .i64 r.1), (AV.int .i64 r.2)])) (T := t_pick_size q_pick_size a0) (by first | rfl | (simp only [cPick_eq]; rfl)) (by first | rfl | (simp only [cPick_eq]; rfl)) ?_ r h
 unfold r_pick_size t_pick_size
 refine rf_s (cPick a0) (by first | rfl | (simp only [cPick_eq]; rfl)) <| rf_s (sl 4 cPick a0.args) (by first | rfl | (simp only [cPick_eq]; rfl)) <| rf_s _ (lenS_sl _ _ _) ?_
 refine rf_for (B := (Int × Int)) (R := Unit) (fun (i8 : Nat) (s1 : (Int × Int)) v w3 => v = [(AV.int .i64 s1.1), (AV.int .i64 s1.2), (AV.int .i64 (i8 : Int))] ∧ σ = w3) (fun (b2 : (Int × Int)) (q : LS) => ∃ u11, q = ((AX.exit 0), ([(AV.int .i64 b2.1), (AV.int .i64 b2.2), u11] : List AV), σ)) (fun (b2 : Unit) (q : LS) => False) ?_ ?_ ⟨rfl, rfl⟩ ?_ ?_
 ·intro hle7 i8 e7 s1 v w3 he7 hI
  obtain ⟨rfl, rfl⟩ := hI
  refine rf_s _ (ix_lt he7) <| rf_ct <| rf_s _ (ix_for he7) <| rf_s (AV.agg (cPick e7)) (by first | rfl | (simp only [cPick_eq]; rfl)) <| rf_s (cPick e7) (by first | rfl | (simp only [cPick_eq]; rfl)) <| rf_s _ (sp_cPick _ _ rfl) <| rf_s (AV.agg (cPick e7)) (by first | rfl | (simp only [cPick_eq]; rfl)) ?_
  refine rf_o (fun r9 : (Int × Int) => ((AV.tup [(AV.int .i64 r9.1), (AV.int .i64 r9.2)]), σ)) (fun r9 hr9 => hq_pick_size _ _ _ hr9) (fun r9 hr9 => ?_)
  refine rf_s (AV.int .i64 r9.1) (by first | rfl | (simp only [cPick_eq]; rfl)) <| rf_s (AV.int .i64 r9.2) (by first | rfl | (simp only [cPick_eq]; rfl)) <| rf_s (AV.int .i64 (IntKind.i64.wrap (s1.1 + r9.1))) (by first | rfl | (simp only [cPick_eq]; rfl)) <| rf_s (AV.int .i64 (IntKind.i64.wrap (r9.2 + 1))) (by first | rfl | (simp only [cPick_eq]; rfl)) <| rf_s (AV.int .i64 (if s1.2 < IntKind.i64.wrap (r9.2 + 1) then IntKind.i64.wrap (r9.2 + 1) else s1.2)) (by first | rfl | (simp only [cPick_eq]; rfl)) <| rf_s _ (ix_inc he7 hle7) ?_
  exact rf_ret (rnd_go ⟨rfl, rfl⟩)
 ·intro hl s1 v w3 hI
  obtain ⟨rfl, rfl⟩ := hI
  refine rf_s _ (ix_end _) <| rf_cf ?_
  exact rf_ret ⟨by simp, ⟨_, rfl⟩⟩
 ·intro hl b2 q hq
  obtain ⟨u11, rfl⟩ := hq
  refine rf_bt (by first | rfl | (simp only [cPick_eq]; rfl)) ?_
  exact rf_fin _ (fin_same _ _) ⟨rfl, rfl⟩
 ·intro hl b2 q hq
  exact False.elim hq

noncomputable def t_pick_check (q_pick_check : PickD → Option Int) (a0 : PickD) : Option Int :=
 if a0.kind = 1 then
  (show Option Bool from
    if a0.kind = 4 then
     some (decide ((a0.args.length : Int) < 2))
    else
    some (decide (¬ ((a0.args.length : Int) = 0)))).bind fun j2 =>
  if ((j2 || ((!true) && (decide (¬ (a0.frm = 0))))) || ((!true) && (decide (¬ (a0.to = 0))))) = true then
   some 3
  else
  (show Option Int from
    if a0.kind = 2 then
     some 999
    else
    (show Option Int from
      if a0.kind = 3 then
       some 999
      else
      some 9999).bind fun j6 =>
    some j6).bind fun j10 =>
  if ((true && (!(withinB a0.frm 1 j10))) || (true && (!(withinB a0.to 1 j10)))) = true then
   some 1
  else
  forE a0.args (fun (i20 : Nat) e19 (s13 : Unit) => (show Option (Lr Unit Unit Int) from
    (q_pick_check e19).bind fun r21 =>
    if ¬ (r21 = 0) then
     some (.ret r21)
    else
    some (.go ()))) (fun s13 => some ()) () (fun b14 =>
   some 0) (fun b14 =>
   some b14)
 else
 (show Option Bool from
   if a0.kind = 2 then
    some (decide (a0.kind = 2))
   else
   some (decide (a0.kind = 3))).bind fun j26 =>
 if j26 = true then
  (show Option Bool from
    if a0.kind = 4 then
     some (decide ((a0.args.length : Int) < 2))
    else
    some (decide (¬ ((a0.args.length : Int) = 0)))).bind fun j30 =>
  if ((j30 || ((!true) && (decide (¬ (a0.frm = 0))))) || ((!false) && (decide (¬ (a0.to = 0))))) = true then
   some 3
  else
  (show Option Int from
    if a0.kind = 2 then
     some 999
    else
    (show Option Int from
      if a0.kind = 3 then
       some 999
      else
      some 9999).bind fun j34 =>
    some j34).bind fun j38 =>
  if ((true && (!(withinB a0.frm 1 j38))) || (false && (!(withinB a0.to 1 j38)))) = true then
   some 1
  else
  forE a0.args (fun (i48 : Nat) e47 (s41 : Unit) => (show Option (Lr Unit Unit Int) from
    (q_pick_check e47).bind fun r49 =>
    if ¬ (r49 = 0) then
     some (.ret r49)
    else
    some (.go ()))) (fun s41 => some ()) () (fun b42 =>
   some 0) (fun b42 =>
   some b42)
 else
 (show Option Bool from
   if a0.kind = 4 then
    some (decide (a0.kind = 4))
   else
   some (decide (a0.kind = 5))).bind fun j54 =>
 if j54 = true then
  (show Option Bool from
    if a0.kind = 4 then
     some (decide ((a0.args.length : Int) < 2))
    else
    some (decide (¬ ((a0.args.length : Int) = 2)))).bind fun j58 =>
  if ((j58 || ((!false) && (decide (¬ (a0.frm = 0))))) || ((!false) && (decide (¬ (a0.to = 0))))) = true then
   some 3
  else
  (show Option Int from
    if a0.kind = 2 then
     some 999
    else
    (show Option Int from
      if a0.kind = 3 then
       some 999
      else
      some 9999).bind fun j62 =>
    some j62).bind fun j66 =>
  if ((false && (!(withinB a0.frm 1 j66))) || (false && (!(withinB a0.to 1 j66)))) = true then
   some 1
  else
  forE a0.args (fun (i76 : Nat) e75 (s69 : Unit) => (show Option (Lr Unit Unit Int) from
    (q_pick_check e75).bind fun r77 =>
    if ¬ (r77 = 0) then
     some (.ret r77)
    else
    some (.go ()))) (fun s69 => some ()) () (fun b70 =>
   some 0) (fun b70 =>
   some b70)
 else
 (show Option Bool from
   if a0.kind = 6 then
    some (decide (a0.kind = 6))
   else
   (show Option Bool from
     if a0.kind = 7 then
      some (decide (a0.kind = 7))
     else
     some (decide (a0.kind = 8))).bind fun j82 =>
   some j82).bind fun j86 =>
 if j86 = true then
  (show Option Bool from
    if a0.kind = 4 then
     some (decide ((a0.args.length : Int) < 2))
    else
    some (decide (¬ ((a0.args.length : Int) = 1)))).bind fun j90 =>
  if ((j90 || ((!false) && (decide (¬ (a0.frm = 0))))) || ((!false) && (decide (¬ (a0.to = 0))))) = true then
   some 3
  else
  (show Option Int from
    if a0.kind = 2 then
     some 999
    else
    (show Option Int from
      if a0.kind = 3 then
       some 999
      else
      some 9999).bind fun j94 =>
    some j94).bind fun j98 =>
  if ((false && (!(withinB a0.frm 1 j98))) || (false && (!(withinB a0.to 1 j98)))) = true then
   some 1
  else
  forE a0.args (fun (i108 : Nat) e107 (s101 : Unit) => (show Option (Lr Unit Unit Int) from
    (q_pick_check e107).bind fun r109 =>
    if ¬ (r109 = 0) then
     some (.ret r109)
    else
    some (.go ()))) (fun s101 => some ()) () (fun b102 =>
   some 0) (fun b102 =>
   some b102)
 else
 if a0.kind = 9 then
  (show Option Bool from
    if a0.kind = 4 then
     some (decide ((a0.args.length : Int) < 2))
    else
    some (decide (¬ ((a0.args.length : Int) = 1)))).bind fun j114 =>
  if ((j114 || ((!true) && (decide (¬ (a0.frm = 0))))) || ((!true) && (decide (¬ (a0.to = 0))))) = true then
   some 3
  else
  (show Option Int from
    if a0.kind = 2 then
     some 999
    else
    (show Option Int from
      if a0.kind = 3 then
       some 999
      else
      some 9999).bind fun j118 =>
    some j118).bind fun j122 =>
  if ((true && (!(withinB a0.frm 1 j122))) || (true && (!(withinB a0.to 1 j122)))) = true then
   some 1
  else
  forE a0.args (fun (i132 : Nat) e131 (s125 : Unit) => (show Option (Lr Unit Unit Int) from
    (q_pick_check e131).bind fun r133 =>
    if ¬ (r133 = 0) then
     some (.ret r133)
    else
    some (.go ()))) (fun s125 => some ()) () (fun b126 =>
   some 0) (fun b126 =>
   some b126)
 else
 some 4
theorem h_pick_check {rc : Nat → List AV → Heap → Option (AV × Heap)} (q_pick_check : PickD → Option Int) (hq_pick_check : ∀ (x0 : PickD) (s : Heap) r, q_pick_check x0 = some r → rc 38 [(AV.agg (cPick x0))] s = some ((AV.int .i64 r), s)) {a0 : PickD} {σ : Heap} {r : Int} (h : t_pick_check q_pick_check a0 = some r) : A.wrap true [(.a [.k, .k, .k, (.s 4)])] .k (A.ar1 (r_pick_check rc)) [(AV.agg (cPick a0))] σ = some ((AV.int .i64 r), σ) := by
 refine rf_wrap1 (f := r_pick_check rc) (y0 := (AV.agg (cPick a0))) (enc := fun r : Int => (AV.int .i64 r)) (T := t_pick_check q_pick_check a0) (by first | rfl | (simp only [cPick_eq]; rfl)) (by first | rfl | (simp only [cPick_eq]; rfl)) ?_ r h
 unfold r_pick_check t_pick_check
 refine rf_s (cPick a0) (by first | rfl | (simp only [cPick_eq]; rfl)) <| rf_s (AV.int .i64 a0.kind) (by first | rfl | (simp only [cPick_eq]; rfl)) <| rf_s _ (aEq _ _ _) ?_
 refine rf_c (p := a0.kind = 1) (fun c141 => ?_) (fun c141 => ?_)
 ·refine rf_s (sl 4 cPick a0.args) (by first | rfl | (simp only [cPick_eq]; rfl)) <| rf_s _ (lenS_sl _ _ _) <| rf_s _ (aNe _ _ _) <| rf_s (AV.int .i64 a0.kind) (by first | rfl | (simp only [cPick_eq]; rfl)) <| rf_s _ (aEq _ _ _) ?_
  refine rf_b (ω := Bool) (fun j2 a => a = (([(AV.lbx (cPick a0)), (AV.bool j2)] : List AV), σ)) (
    by
     refine rf_c (p := a0.kind = 4) (fun c1 => ?_) (fun c1 => ?_)
     ·refine rf_s (sl 4 cPick a0.args) (by first | rfl | (simp only [cPick_eq]; rfl)) <| rf_s _ (lenS_sl _ _ _) <| rf_s (AV.bool (decide ((a0.args.length : Int) < 2))) (by first | rfl | (simp only [cPick_eq]; rfl)) ?_
      exact rf_ret rfl
     exact rf_ret rfl
    ) (fun j2 a ha => ?_)
  subst ha
  refine rf_gf (AV.bool true) (fun hg => by first | rfl | (simp only [cPick_eq]; rfl)) <| rf_gf (AV.bool (!true)) (fun hg => by (try rw [hg]); exact rfl) <| rf_gf (AV.bool (!true)) (fun hg => by (try rw [hg]); exact rfl) <| rf_s _ (by first | rfl | (simp only [cPick_eq]; rfl)) <| rf_ggt (AV.int .i64 a0.frm) (fun hg => by first | rfl | (simp only [cPick_eq]; rfl)) <| rf_ggt (AV.bool (decide (¬ (a0.frm = 0)))) (fun hg => by (try rw [hg]); exact (aNe _ _ _)) <| rf_gf (AV.bool ((!true) && (decide (¬ (a0.frm = 0))))) (fun hg => by (try rw [hg]); exact (pk_and _ _)) <| rf_s _ (pk_or _ _) <| rf_gf (AV.bool true) (fun hg => by first | rfl | (simp only [cPick_eq]; rfl)) <| rf_gf (AV.bool (!true)) (fun hg => by (try rw [hg]); exact rfl) <| rf_gf (AV.bool (!true)) (fun hg => by (try rw [hg]); exact rfl) <| rf_s _ (by first | rfl | (simp only [cPick_eq]; rfl)) <| rf_ggt (AV.int .i64 a0.to) (fun hg => by first | rfl | (simp only [cPick_eq]; rfl)) <| rf_ggt (AV.bool (decide (¬ (a0.to = 0)))) (fun hg => by (try rw [hg]); exact (aNe _ _ _)) <| rf_gf (AV.bool ((!true) && (decide (¬ (a0.to = 0))))) (fun hg => by (try rw [hg]); exact (pk_and _ _)) <| rf_s _ (pk_or _ _) ?_
  refine rf_cb (c := ((j2 || ((!true) && (decide (¬ (a0.frm = 0))))) || ((!true) && (decide (¬ (a0.to = 0)))))) (fun c24 => ?_) (fun c24 => ?_)
  ·exact rf_fin _ (fin_same _ _) ⟨rfl, rfl⟩
  refine rf_s _ (by first | rfl | (simp only [cPick_eq]; rfl)) <| rf_s (AV.int .i64 a0.kind) (by first | rfl | (simp only [cPick_eq]; rfl)) <| rf_s _ (aEq _ _ _) ?_
  refine rf_b (ω := Int) (fun j10 a => a = (([(AV.lbx (cPick a0)), (AV.int .i64 j10)] : List AV), σ)) (
    by
     refine rf_c (p := a0.kind = 2) (fun c9 => ?_) (fun c9 => ?_)
     ·exact rf_ret rfl
     refine rf_s _ (aEq _ _ _) ?_
     refine rf_b (ω := Int) (fun j6 a => a = (([(AV.lbx (cPick a0)), (AV.int .i64 j6)] : List AV), σ)) (
       by
        refine rf_c (p := a0.kind = 3) (fun c5 => ?_) (fun c5 => ?_)
        ·exact rf_ret rfl
        exact rf_ret rfl
       ) (fun j6 a ha => ?_)
     subst ha
     exact rf_ret rfl
    ) (fun j10 a ha => ?_)
  subst ha
  refine rf_s _ (by first | rfl | (simp only [cPick_eq]; rfl)) <| rf_gt (AV.int .i64 a0.frm) (fun hg => by first | rfl | (simp only [cPick_eq]; rfl)) <| rf_gt (AV.int .i64 j10) (fun hg => by first | rfl | (simp only [cPick_eq]; rfl)) <| rf_gt (AV.bool (withinB a0.frm 1 j10)) (fun hg => by (try rw [hg]); exact (quiet_of (Within_eq a0.frm 1 j10 σ))) <| rf_gt (AV.bool (!(withinB a0.frm 1 j10))) (fun hg => by (try rw [hg]); exact rfl) <| rf_s _ (pk_and _ _) <| rf_gf (AV.bool true) (fun hg => by first | rfl | (simp only [cPick_eq]; rfl)) <| rf_gf (AV.bool true) (fun hg => by (try rw [hg]); exact rfl) <| rf_s _ (by first | rfl | (simp only [cPick_eq]; rfl)) <| rf_ggt (AV.int .i64 a0.to) (fun hg => by first | rfl | (simp only [cPick_eq]; rfl)) <| rf_ggt (AV.int .i64 j10) (fun hg => by first | rfl | (simp only [cPick_eq]; rfl)) <| rf_ggt (AV.bool (withinB a0.to 1 j10)) (fun hg => by (try rw [hg]); exact (quiet_of (Within_eq a0.to 1 j10 σ))) <| rf_ggt (AV.bool (!(withinB a0.to 1 j10))) (fun hg => by (try rw [hg]); exact rfl) <| rf_gf (AV.bool (true && (!(withinB a0.to 1 j10)))) (fun hg => by (try rw [hg]); exact (pk_and _ _)) <| rf_s _ (pk_or _ _) ?_
  refine rf_cb (c := ((true && (!(withinB a0.frm 1 j10))) || (true && (!(withinB a0.to 1 j10))))) (fun c23 => ?_) (fun c23 => ?_)
  ·exact rf_fin _ (fin_same _ _) ⟨rfl, rfl⟩
  refine rf_s _ (by first | rfl | (simp only [cPick_eq]; rfl)) <| rf_s (sl 4 cPick a0.args) (by first | rfl | (simp only [cPick_eq]; rfl)) <| rf_s _ (lenS_sl _ _ _) ?_
  refine rf_for (B := Unit) (R := Int) (fun (i20 : Nat) (s13 : Unit) v w15 => v = [(AV.int .i64 0), (AV.int .i64 (i20 : Int))] ∧ σ = w15) (fun (b14 : Unit) (q : LS) => ∃ u2 u85, q = ((AX.exit 2), ([u2, u85] : List AV), σ)) (fun (b14 : Int) (q : LS) => ∃ u85, q = (AX.ret, ([(AV.int .i64 b14), u85] : List AV), σ)) ?_ ?_ ⟨rfl, rfl⟩ ?_ ?_
  ·intro hle19 i20 e19 s13 v w15 he19 hI
   obtain ⟨rfl, rfl⟩ := hI
   refine rf_s _ (ix_lt he19) <| rf_ct <| rf_s _ (ix_for he19) <| rf_s (AV.agg (cPick e19)) (by first | rfl | (simp only [cPick_eq]; rfl)) <| rf_s (cPick e19) (by first | rfl | (simp only [cPick_eq]; rfl)) <| rf_s _ (sp_cPick _ _ rfl) <| rf_s (AV.agg (cPick e19)) (by first | rfl | (simp only [cPick_eq]; rfl)) ?_
   refine rf_o (fun r21 : Int => ((AV.int .i64 r21), σ)) (fun r21 hr21 => hq_pick_check _ _ _ hr21) (fun r21 hr21 => ?_)
   refine rf_s _ (aNe _ _ _) ?_
   refine rf_c (p := ¬ (r21 = 0)) (fun c22 => ?_) (fun c22 => ?_)
   ·exact rf_ret (rnd_ret (by simp) ⟨_, rfl⟩)
   refine rf_s _ (ix_inc he19 hle19) ?_
   exact rf_ret (rnd_go ⟨rfl, rfl⟩)
  ·intro hl s13 v w15 hI
   obtain ⟨rfl, rfl⟩ := hI
   refine rf_s _ (ix_end _) <| rf_cf ?_
   exact rf_ret ⟨by simp, ⟨_, _, rfl⟩⟩
  ·intro hl b14 q hq
   obtain ⟨u2, u85, rfl⟩ := hq
   refine rf_bt (by first | rfl | (simp only [cPick_eq]; rfl)) ?_
   exact rf_fin _ (fin_same _ _) ⟨rfl, rfl⟩
  ·intro hl b14 q hq
   obtain ⟨u85, rfl⟩ := hq
   refine rf_bf (by first | rfl | (simp only [cPick_eq]; rfl)) <| rf_bt (by first | rfl | (simp only [cPick_eq]; rfl)) ?_
   exact rf_fin _ (fin_same _ _) ⟨rfl, rfl⟩
 refine rf_s _ (aEq _ _ _) ?_
 refine rf_b (ω := Bool) (fun j26 a => a = (([(AV.lbx (cPick a0)), (AV.bool j26)] : List AV), σ)) (
   by
    refine rf_c (p := a0.kind = 2) (fun c25 => ?_) (fun c25 => ?_)
    ·exact rf_ret rfl
    refine rf_s _ (aEq _ _ _) ?_
    exact rf_ret rfl
   ) (fun j26 a ha => ?_)
 subst ha
 refine rf_cb (c := j26) (fun c140 => ?_) (fun c140 => ?_)
 ·refine rf_s _ (by first | rfl | (simp only [cPick_eq]; rfl)) <| rf_s (sl 4 cPick a0.args) (by first | rfl | (simp only [cPick_eq]; rfl)) <| rf_s _ (lenS_sl _ _ _) <| rf_s _ (aNe _ _ _) <| rf_s _ (by first | rfl | (simp only [cPick_eq]; rfl)) <| rf_s (AV.int .i64 a0.kind) (by first | rfl | (simp only [cPick_eq]; rfl)) <| rf_s _ (aEq _ _ _) ?_
  refine rf_b (ω := Bool) (fun j30 a => a = (([(AV.lbx (cPick a0)), (AV.bool j30)] : List AV), σ)) (
    by
     refine rf_c (p := a0.kind = 4) (fun c29 => ?_) (fun c29 => ?_)
     ·refine rf_s _ (by first | rfl | (simp only [cPick_eq]; rfl)) <| rf_s (sl 4 cPick a0.args) (by first | rfl | (simp only [cPick_eq]; rfl)) <| rf_s _ (lenS_sl _ _ _) <| rf_s (AV.bool (decide ((a0.args.length : Int) < 2))) (by first | rfl | (simp only [cPick_eq]; rfl)) ?_
      exact rf_ret rfl
     exact rf_ret rfl
    ) (fun j30 a ha => ?_)
  subst ha
  refine rf_gf (AV.bool true) (fun hg => by first | rfl | (simp only [cPick_eq]; rfl)) <| rf_gf (AV.bool (!true)) (fun hg => by (try rw [hg]); exact rfl) <| rf_gf (AV.bool (!true)) (fun hg => by (try rw [hg]); exact rfl) <| rf_s _ (by first | rfl | (simp only [cPick_eq]; rfl)) <| rf_ggt (AV.int .i64 a0.frm) (fun hg => by first | rfl | (simp only [cPick_eq]; rfl)) <| rf_ggt (AV.bool (decide (¬ (a0.frm = 0)))) (fun hg => by (try rw [hg]); exact (aNe _ _ _)) <| rf_gf (AV.bool ((!true) && (decide (¬ (a0.frm = 0))))) (fun hg => by (try rw [hg]); exact (pk_and _ _)) <| rf_s _ (pk_or _ _) <| rf_gf (AV.bool false) (fun hg => by first | rfl | (simp only [cPick_eq]; rfl)) <| rf_gf (AV.bool (!false)) (fun hg => by (try rw [hg]); exact rfl) <| rf_gf (AV.bool (!false)) (fun hg => by (try rw [hg]); exact rfl) <| rf_s _ (by first | rfl | (simp only [cPick_eq]; rfl)) <| rf_ggt (AV.int .i64 a0.to) (fun hg => by first | rfl | (simp only [cPick_eq]; rfl)) <| rf_ggt (AV.bool (decide (¬ (a0.to = 0)))) (fun hg => by (try rw [hg]); exact (aNe _ _ _)) <| rf_gf (AV.bool ((!false) && (decide (¬ (a0.to = 0))))) (fun hg => by (try rw [hg]); exact (pk_and _ _)) <| rf_s _ (pk_or _ _) ?_
  refine rf_cb (c := ((j30 || ((!true) && (decide (¬ (a0.frm = 0))))) || ((!false) && (decide (¬ (a0.to = 0)))))) (fun c52 => ?_) (fun c52 => ?_)
  ·exact rf_fin _ (fin_same _ _) ⟨rfl, rfl⟩
  refine rf_s _ (by first | rfl | (simp only [cPick_eq]; rfl)) <| rf_s (AV.int .i64 a0.kind) (by first | rfl | (simp only [cPick_eq]; rfl)) <| rf_s _ (aEq _ _ _) ?_
  refine rf_b (ω := Int) (fun j38 a => a = (([(AV.lbx (cPick a0)), (AV.int .i64 j38)] : List AV), σ)) (
    by
     refine rf_c (p := a0.kind = 2) (fun c37 => ?_) (fun c37 => ?_)
     ·exact rf_ret rfl
     refine rf_s _ (aEq _ _ _) ?_
     refine rf_b (ω := Int) (fun j34 a => a = (([(AV.lbx (cPick a0)), (AV.int .i64 j34)] : List AV), σ)) (
       by
        refine rf_c (p := a0.kind = 3) (fun c33 => ?_) (fun c33 => ?_)
        ·exact rf_ret rfl
        exact rf_ret rfl
       ) (fun j34 a ha => ?_)
     subst ha
     exact rf_ret rfl
    ) (fun j38 a ha => ?_)
  subst ha
  refine rf_s _ (by first | rfl | (simp only [cPick_eq]; rfl)) <| rf_gt (AV.int .i64 a0.frm) (fun hg => by first | rfl | (simp only [cPick_eq]; rfl)) <| rf_gt (AV.int .i64 j38) (fun hg => by first | rfl | (simp only [cPick_eq]; rfl)) <| rf_gt (AV.bool (withinB a0.frm 1 j38)) (fun hg => by (try rw [hg]); exact (quiet_of (Within_eq a0.frm 1 j38 σ))) <| rf_gt (AV.bool (!(withinB a0.frm 1 j38))) (fun hg => by (try rw [hg]); exact rfl) <| rf_s _ (pk_and _ _) <| rf_gf (AV.bool false) (fun hg => by first | rfl | (simp only [cPick_eq]; rfl)) <| rf_gf (AV.bool false) (fun hg => by (try rw [hg]); exact rfl) <| rf_s _ (by first | rfl | (simp only [cPick_eq]; rfl)) <| rf_ggt (AV.int .i64 a0.to) (fun hg => by first | rfl | (simp only [cPick_eq]; rfl)) <| rf_ggt (AV.int .i64 j38) (fun hg => by first | rfl | (simp only [cPick_eq]; rfl)) <| rf_ggt (AV.bool (withinB a0.to 1 j38)) (fun hg => by (try rw [hg]); exact (quiet_of (Within_eq a0.to 1 j38 σ))) <| rf_ggt (AV.bool (!(withinB a0.to 1 j38))) (fun hg => by (try rw [hg]); exact rfl) <| rf_gf (AV.bool (false && (!(withinB a0.to 1 j38)))) (fun hg => by (try rw [hg]); exact (pk_and _ _)) <| rf_s _ (pk_or _ _) ?_
  refine rf_cb (c := ((true && (!(withinB a0.frm 1 j38))) || (false && (!(withinB a0.to 1 j38))))) (fun c51 => ?_) (fun c51 => ?_)
  ·exact rf_fin _ (fin_same _ _) ⟨rfl, rfl⟩
  refine rf_s _ (by first | rfl | (simp only [cPick_eq]; rfl)) <| rf_s (sl 4 cPick a0.args) (by first | rfl | (simp only [cPick_eq]; rfl)) <| rf_s _ (lenS_sl _ _ _) ?_
  refine rf_for (B := Unit) (R := Int) (fun (i48 : Nat) (s41 : Unit) v w43 => v = [(AV.int .i64 0), (AV.int .i64 (i48 : Int))] ∧ σ = w43) (fun (b42 : Unit) (q : LS) => ∃ u2 u85, q = ((AX.exit 2), ([u2, u85] : List AV), σ)) (fun (b42 : Int) (q : LS) => ∃ u85, q = (AX.ret, ([(AV.int .i64 b42), u85] : List AV), σ)) ?_ ?_ ⟨rfl, rfl⟩ ?_ ?_
  ·intro hle47 i48 e47 s41 v w43 he47 hI
   obtain ⟨rfl, rfl⟩ := hI
   refine rf_s _ (ix_lt he47) <| rf_ct <| rf_s _ (ix_for he47) <| rf_s (AV.agg (cPick e47)) (by first | rfl | (simp only [cPick_eq]; rfl)) <| rf_s (cPick e47) (by first | rfl | (simp only [cPick_eq]; rfl)) <| rf_s _ (sp_cPick _ _ rfl) <| rf_s (AV.agg (cPick e47)) (by first | rfl | (simp only [cPick_eq]; rfl)) ?_
   refine rf_o (fun r49 : Int => ((AV.int .i64 r49), σ)) (fun r49 hr49 => hq_pick_check _ _ _ hr49) (fun r49 hr49 => ?_)
   refine rf_s _ (aNe _ _ _) ?_
   refine rf_c (p := ¬ (r49 = 0)) (fun c50 => ?_) (fun c50 => ?_)
   ·exact rf_ret (rnd_ret (by simp) ⟨_, rfl⟩)
   refine rf_s _ (ix_inc he47 hle47) ?_
   exact rf_ret (rnd_go ⟨rfl, rfl⟩)
  ·intro hl s41 v w43 hI
   obtain ⟨rfl, rfl⟩ := hI
   refine rf_s _ (ix_end _) <| rf_cf ?_
   exact rf_ret ⟨by simp, ⟨_, _, rfl⟩⟩
  ·intro hl b42 q hq
   obtain ⟨u2, u85, rfl⟩ := hq
   refine rf_bt (by first | rfl | (simp only [cPick_eq]; rfl)) ?_
   exact rf_fin _ (fin_same _ _) ⟨rfl, rfl⟩
  ·intro hl b42 q hq
   obtain ⟨u85, rfl⟩ := hq
   refine rf_bf (by first | rfl | (simp only [cPick_eq]; rfl)) <| rf_bt (by first | rfl | (simp only [cPick_eq]; rfl)) ?_
   exact rf_fin _ (fin_same _ _) ⟨rfl, rfl⟩
 refine rf_s _ (aEq _ _ _) ?_
 refine rf_b (ω := Bool) (fun j54 a => a = (([(AV.lbx (cPick a0)), (AV.bool j54)] : List AV), σ)) (
   by
    refine rf_c (p := a0.kind = 4) (fun c53 => ?_) (fun c53 => ?_)
    ·exact rf_ret rfl
    refine rf_s _ (aEq _ _ _) ?_
    exact rf_ret rfl
   ) (fun j54 a ha => ?_)
 subst ha
 refine rf_cb (c := j54) (fun c139 => ?_) (fun c139 => ?_)
 ·refine rf_s _ (by first | rfl | (simp only [cPick_eq]; rfl)) <| rf_s (sl 4 cPick a0.args) (by first | rfl | (simp only [cPick_eq]; rfl)) <| rf_s _ (lenS_sl _ _ _) <| rf_s _ (aNe _ _ _) <| rf_s _ (by first | rfl | (simp only [cPick_eq]; rfl)) <| rf_s (AV.int .i64 a0.kind) (by first | rfl | (simp only [cPick_eq]; rfl)) <| rf_s _ (aEq _ _ _) ?_
  refine rf_b (ω := Bool) (fun j58 a => a = (([(AV.lbx (cPick a0)), (AV.bool j58)] : List AV), σ)) (
    by
     refine rf_c (p := a0.kind = 4) (fun c57 => ?_) (fun c57 => ?_)
     ·refine rf_s _ (by first | rfl | (simp only [cPick_eq]; rfl)) <| rf_s (sl 4 cPick a0.args) (by first | rfl | (simp only [cPick_eq]; rfl)) <| rf_s _ (lenS_sl _ _ _) <| rf_s (AV.bool (decide ((a0.args.length : Int) < 2))) (by first | rfl | (simp only [cPick_eq]; rfl)) ?_
      exact rf_ret rfl
     exact rf_ret rfl
    ) (fun j58 a ha => ?_)
  subst ha
  refine rf_gf (AV.bool false) (fun hg => by first | rfl | (simp only [cPick_eq]; rfl)) <| rf_gf (AV.bool (!false)) (fun hg => by (try rw [hg]); exact rfl) <| rf_gf (AV.bool (!false)) (fun hg => by (try rw [hg]); exact rfl) <| rf_s _ (by first | rfl | (simp only [cPick_eq]; rfl)) <| rf_ggt (AV.int .i64 a0.frm) (fun hg => by first | rfl | (simp only [cPick_eq]; rfl)) <| rf_ggt (AV.bool (decide (¬ (a0.frm = 0)))) (fun hg => by (try rw [hg]); exact (aNe _ _ _)) <| rf_gf (AV.bool ((!false) && (decide (¬ (a0.frm = 0))))) (fun hg => by (try rw [hg]); exact (pk_and _ _)) <| rf_s _ (pk_or _ _) <| rf_gf (AV.bool false) (fun hg => by first | rfl | (simp only [cPick_eq]; rfl)) <| rf_gf (AV.bool (!false)) (fun hg => by (try rw [hg]); exact rfl) <| rf_gf (AV.bool (!false)) (fun hg => by (try rw [hg]); exact rfl) <| rf_s _ (by first | rfl | (simp only [cPick_eq]; rfl)) <| rf_ggt (AV.int .i64 a0.to) (fun hg => by first | rfl | (simp only [cPick_eq]; rfl)) <| rf_ggt (AV.bool (decide (¬ (a0.to = 0)))) (fun hg => by (try rw [hg]); exact (aNe _ _ _)) <| rf_gf (AV.bool ((!false) && (decide (¬ (a0.to = 0))))) (fun hg => by (try rw [hg]); exact (pk_and _ _)) <| rf_s _ (pk_or _ _) ?_
  refine rf_cb (c := ((j58 || ((!false) && (decide (¬ (a0.frm = 0))))) || ((!false) && (decide (¬ (a0.to = 0)))))) (fun c80 => ?_) (fun c80 => ?_)
  ·exact rf_fin _ (fin_same _ _) ⟨rfl, rfl⟩
  refine rf_s _ (by first | rfl | (simp only [cPick_eq]; rfl)) <| rf_s (AV.int .i64 a0.kind) (by first | rfl | (simp only [cPick_eq]; rfl)) <| rf_s _ (aEq _ _ _) ?_
  refine rf_b (ω := Int) (fun j66 a => a = (([(AV.lbx (cPick a0)), (AV.int .i64 j66)] : List AV), σ)) (
    by
     refine rf_c (p := a0.kind = 2) (fun c65 => ?_) (fun c65 => ?_)
     ·exact rf_ret rfl
     refine rf_s _ (aEq _ _ _) ?_
     refine rf_b (ω := Int) (fun j62 a => a = (([(AV.lbx (cPick a0)), (AV.int .i64 j62)] : List AV), σ)) (
       by
        refine rf_c (p := a0.kind = 3) (fun c61 => ?_) (fun c61 => ?_)
        ·exact rf_ret rfl
        exact rf_ret rfl
       ) (fun j62 a ha => ?_)
     subst ha
     exact rf_ret rfl
    ) (fun j66 a ha => ?_)
  subst ha
  refine rf_s _ (by first | rfl | (simp only [cPick_eq]; rfl)) <| rf_gt (AV.int .i64 a0.frm) (fun hg => by first | rfl | (simp only [cPick_eq]; rfl)) <| rf_gt (AV.int .i64 j66) (fun hg => by first | rfl | (simp only [cPick_eq]; rfl)) <| rf_gt (AV.bool (withinB a0.frm 1 j66)) (fun hg => by (try rw [hg]); exact (quiet_of (Within_eq a0.frm 1 j66 σ))) <| rf_gt (AV.bool (!(withinB a0.frm 1 j66))) (fun hg => by (try rw [hg]); exact rfl) <| rf_s _ (pk_and _ _) <| rf_gf (AV.bool false) (fun hg => by first | rfl | (simp only [cPick_eq]; rfl)) <| rf_gf (AV.bool false) (fun hg => by (try rw [hg]); exact rfl) <| rf_s _ (by first | rfl | (simp only [cPick_eq]; rfl)) <| rf_ggt (AV.int .i64 a0.to) (fun hg => by first | rfl | (simp only [cPick_eq]; rfl)) <| rf_ggt (AV.int .i64 j66) (fun hg => by first | rfl | (simp only [cPick_eq]; rfl)) <| rf_ggt (AV.bool (withinB a0.to 1 j66)) (fun hg => by (try rw [hg]); exact (quiet_of (Within_eq a0.to 1 j66 σ))) <| rf_ggt (AV.bool (!(withinB a0.to 1 j66))) (fun hg => by (try rw [hg]); exact rfl) <| rf_gf (AV.bool (false && (!(withinB a0.to 1 j66)))) (fun hg => by (try rw [hg]); exact (pk_and _ _)) <| rf_s _ (pk_or _ _) ?_
  refine rf_cb (c := ((false && (!(withinB a0.frm 1 j66))) || (false && (!(withinB a0.to 1 j66))))) (fun c79 => ?_) (fun c79 => ?_)
  ·exact rf_fin _ (fin_same _ _) ⟨rfl, rfl⟩
  refine rf_s _ (by first | rfl | (simp only [cPick_eq]; rfl)) <| rf_s (sl 4 cPick a0.args) (by first | rfl | (simp only [cPick_eq]; rfl)) <| rf_s _ (lenS_sl _ _ _) ?_
  refine rf_for (B := Unit) (R := Int) (fun (i76 : Nat) (s69 : Unit) v w71 => v = [(AV.int .i64 0), (AV.int .i64 (i76 : Int))] ∧ σ = w71) (fun (b70 : Unit) (q : LS) => ∃ u2 u85, q = ((AX.exit 2), ([u2, u85] : List AV), σ)) (fun (b70 : Int) (q : LS) => ∃ u85, q = (AX.ret, ([(AV.int .i64 b70), u85] : List AV), σ)) ?_ ?_ ⟨rfl, rfl⟩ ?_ ?_
  ·intro hle75 i76 e75 s69 v w71 he75 hI
   obtain ⟨rfl, rfl⟩ := hI
   refine rf_s _ (ix_lt he75) <| rf_ct <| rf_s _ (ix_for he75) <| rf_s (AV.agg (cPick e75)) (by first | rfl | (simp only [cPick_eq]; rfl)) <| rf_s (cPick e75) (by first | rfl | (simp only [cPick_eq]; rfl)) <| rf_s _ (sp_cPick _ _ rfl) <| rf_s (AV.agg (cPick e75)) (by first | rfl | (simp only [cPick_eq]; rfl)) ?_
   refine rf_o (fun r77 : Int => ((AV.int .i64 r77), σ)) (fun r77 hr77 => hq_pick_check _ _ _ hr77) (fun r77 hr77 => ?_)
   refine rf_s _ (aNe _ _ _) ?_
   refine rf_c (p := ¬ (r77 = 0)) (fun c78 => ?_) (fun c78 => ?_)
   ·exact rf_ret (rnd_ret (by simp) ⟨_, rfl⟩)
   refine rf_s _ (ix_inc he75 hle75) ?_
   exact rf_ret (rnd_go ⟨rfl, rfl⟩)
  ·intro hl s69 v w71 hI
   obtain ⟨rfl, rfl⟩ := hI
   refine rf_s _ (ix_end _) <| rf_cf ?_
   exact rf_ret ⟨by simp, ⟨_, _, rfl⟩⟩
  ·intro hl b70 q hq
   obtain ⟨u2, u85, rfl⟩ := hq
   refine rf_bt (by first | rfl | (simp only [cPick_eq]; rfl)) ?_
   exact rf_fin _ (fin_same _ _) ⟨rfl, rfl⟩
  ·intro hl b70 q hq
   obtain ⟨u85, rfl⟩ := hq
   refine rf_bf (by first | rfl | (simp only [cPick_eq]; rfl)) <| rf_bt (by first | rfl | (simp only [cPick_eq]; rfl)) ?_
   exact rf_fin _ (fin_same _ _) ⟨rfl, rfl⟩
 refine rf_s _ (aEq _ _ _) ?_
 refine rf_b (ω := Bool) (fun j86 a => a = (([(AV.lbx (cPick a0)), (AV.bool j86)] : List AV), σ)) (
   by
    refine rf_c (p := a0.kind = 6) (fun c85 => ?_) (fun c85 => ?_)
    ·exact rf_ret rfl
    refine rf_s _ (aEq _ _ _) ?_
    refine rf_b (ω := Bool) (fun j82 a => a = (([(AV.lbx (cPick a0)), (AV.bool j82)] : List AV), σ)) (
      by
       refine rf_c (p := a0.kind = 7) (fun c81 => ?_) (fun c81 => ?_)
       ·exact rf_ret rfl
       refine rf_s _ (aEq _ _ _) ?_
       exact rf_ret rfl
      ) (fun j82 a ha => ?_)
    subst ha
    exact rf_ret rfl
   ) (fun j86 a ha => ?_)
 subst ha
 refine rf_cb (c := j86) (fun c138 => ?_) (fun c138 => ?_)
 ·refine rf_s _ (by first | rfl | (simp only [cPick_eq]; rfl)) <| rf_s (sl 4 cPick a0.args) (by first | rfl | (simp only [cPick_eq]; rfl)) <| rf_s _ (lenS_sl _ _ _) <| rf_s _ (aNe _ _ _) <| rf_s _ (by first | rfl | (simp only [cPick_eq]; rfl)) <| rf_s (AV.int .i64 a0.kind) (by first | rfl | (simp only [cPick_eq]; rfl)) <| rf_s _ (aEq _ _ _) ?_
  refine rf_b (ω := Bool) (fun j90 a => a = (([(AV.lbx (cPick a0)), (AV.bool j90)] : List AV), σ)) (
    by
     refine rf_c (p := a0.kind = 4) (fun c89 => ?_) (fun c89 => ?_)
     ·refine rf_s _ (by first | rfl | (simp only [cPick_eq]; rfl)) <| rf_s (sl 4 cPick a0.args) (by first | rfl | (simp only [cPick_eq]; rfl)) <| rf_s _ (lenS_sl _ _ _) <| rf_s (AV.bool (decide ((a0.args.length : Int) < 2))) (by first | rfl | (simp only [cPick_eq]; rfl)) ?_
      exact rf_ret rfl
     exact rf_ret rfl
    ) (fun j90 a ha => ?_)
  subst ha
  refine rf_gf (AV.bool false) (fun hg => by first | rfl | (simp only [cPick_eq]; rfl)) <| rf_gf (AV.bool (!false)) (fun hg => by (try rw [hg]); exact rfl) <| rf_gf (AV.bool (!false)) (fun hg => by (try rw [hg]); exact rfl) <| rf_s _ (by first | rfl | (simp only [cPick_eq]; rfl)) <| rf_ggt (AV.int .i64 a0.frm) (fun hg => by first | rfl | (simp only [cPick_eq]; rfl)) <| rf_ggt (AV.bool (decide (¬ (a0.frm = 0)))) (fun hg => by (try rw [hg]); exact (aNe _ _ _)) <| rf_gf (AV.bool ((!false) && (decide (¬ (a0.frm = 0))))) (fun hg => by (try rw [hg]); exact (pk_and _ _)) <| rf_s _ (pk_or _ _) <| rf_gf (AV.bool false) (fun hg => by first | rfl | (simp only [cPick_eq]; rfl)) <| rf_gf (AV.bool (!false)) (fun hg => by (try rw [hg]); exact rfl) <| rf_gf (AV.bool (!false)) (fun hg => by (try rw [hg]); exact rfl) <| rf_s _ (by first | rfl | (simp only [cPick_eq]; rfl)) <| rf_ggt (AV.int .i64 a0.to) (fun hg => by first | rfl | (simp only [cPick_eq]; rfl)) <| rf_ggt (AV.bool (decide (¬ (a0.to = 0)))) (fun hg => by (try rw [hg]); exact (aNe _ _ _)) <| rf_gf (AV.bool ((!false) && (decide (¬ (a0.to = 0))))) (fun hg => by (try rw [hg]); exact (pk_and _ _)) <| rf_s _ (pk_or _ _) ?_
  refine rf_cb (c := ((j90 || ((!false) && (decide (¬ (a0.frm = 0))))) || ((!false) && (decide (¬ (a0.to = 0)))))) (fun c112 => ?_) (fun c112 => ?_)
  ·exact rf_fin _ (fin_same _ _) ⟨rfl, rfl⟩
  refine rf_s _ (by first | rfl | (simp only [cPick_eq]; rfl)) <| rf_s (AV.int .i64 a0.kind) (by first | rfl | (simp only [cPick_eq]; rfl)) <| rf_s _ (aEq _ _ _) ?_
  refine rf_b (ω := Int) (fun j98 a => a = (([(AV.lbx (cPick a0)), (AV.int .i64 j98)] : List AV), σ)) (
    by
     refine rf_c (p := a0.kind = 2) (fun c97 => ?_) (fun c97 => ?_)
     ·exact rf_ret rfl
     refine rf_s _ (aEq _ _ _) ?_
     refine rf_b (ω := Int) (fun j94 a => a = (([(AV.lbx (cPick a0)), (AV.int .i64 j94)] : List AV), σ)) (
       by
        refine rf_c (p := a0.kind = 3) (fun c93 => ?_) (fun c93 => ?_)
        ·exact rf_ret rfl
        exact rf_ret rfl
       ) (fun j94 a ha => ?_)
     subst ha
     exact rf_ret rfl
    ) (fun j98 a ha => ?_)
  subst ha
  refine rf_s _ (by first | rfl | (simp only [cPick_eq]; rfl)) <| rf_gt (AV.int .i64 a0.frm) (fun hg => by first | rfl | (simp only [cPick_eq]; rfl)) <| rf_gt (AV.int .i64 j98) (fun hg => by first | rfl | (simp only [cPick_eq]; rfl)) <| rf_gt (AV.bool (withinB a0.frm 1 j98)) (fun hg => by (try rw [hg]); exact (quiet_of (Within_eq a0.frm 1 j98 σ))) <| rf_gt (AV.bool (!(withinB a0.frm 1 j98))) (fun hg => by (try rw [hg]); exact rfl) <| rf_s _ (pk_and _ _) <| rf_gf (AV.bool false) (fun hg => by first | rfl | (simp only [cPick_eq]; rfl)) <| rf_gf (AV.bool false) (fun hg => by (try rw [hg]); exact rfl) <| rf_s _ (by first | rfl | (simp only [cPick_eq]; rfl)) <| rf_ggt (AV.int .i64 a0.to) (fun hg => by first | rfl | (simp only [cPick_eq]; rfl)) <| rf_ggt (AV.int .i64 j98) (fun hg => by first | rfl | (simp only [cPick_eq]; rfl)) <| rf_ggt (AV.bool (withinB a0.to 1 j98)) (fun hg => by (try rw [hg]); exact (quiet_of (Within_eq a0.to 1 j98 σ))) <| rf_ggt (AV.bool (!(withinB a0.to 1 j98))) (fun hg => by (try rw [hg]); exact rfl) <| rf_gf (AV.bool (false && (!(withinB a0.to 1 j98)))) (fun hg => by (try rw [hg]); exact (pk_and _ _)) <| rf_s _ (pk_or _ _) ?_
  refine rf_cb (c := ((false && (!(withinB a0.frm 1 j98))) || (false && (!(withinB a0.to 1 j98))))) (fun c111 => ?_) (fun c111 => ?_)
  ·exact rf_fin _ (fin_same _ _) ⟨rfl, rfl⟩
  refine rf_s _ (by first | rfl | (simp only [cPick_eq]; rfl)) <| rf_s (sl 4 cPick a0.args) (by first | rfl | (simp only [cPick_eq]; rfl)) <| rf_s _ (lenS_sl _ _ _) ?_
  refine rf_for (B := Unit) (R := Int) (fun (i108 : Nat) (s101 : Unit) v w103 => v = [(AV.int .i64 0), (AV.int .i64 (i108 : Int))] ∧ σ = w103) (fun (b102 : Unit) (q : LS) => ∃ u2 u85, q = ((AX.exit 2), ([u2, u85] : List AV), σ)) (fun (b102 : Int) (q : LS) => ∃ u85, q = (AX.ret, ([(AV.int .i64 b102), u85] : List AV), σ)) ?_ ?_ ⟨rfl, rfl⟩ ?_ ?_
  ·intro hle107 i108 e107 s101 v w103 he107 hI
   obtain ⟨rfl, rfl⟩ := hI
   refine rf_s _ (ix_lt he107) <| rf_ct <| rf_s _ (ix_for he107) <| rf_s (AV.agg (cPick e107)) (by first | rfl | (simp only [cPick_eq]; rfl)) <| rf_s (cPick e107) (by first | rfl | (simp only [cPick_eq]; rfl)) <| rf_s _ (sp_cPick _ _ rfl) <| rf_s (AV.agg (cPick e107)) (by first | rfl | (simp only [cPick_eq]; rfl)) ?_
   refine rf_o (fun r109 : Int => ((AV.int .i64 r109), σ)) (fun r109 hr109 => hq_pick_check _ _ _ hr109) (fun r109 hr109 => ?_)
   refine rf_s _ (aNe _ _ _) ?_
   refine rf_c (p := ¬ (r109 = 0)) (fun c110 => ?_) (fun c110 => ?_)
   ·exact rf_ret (rnd_ret (by simp) ⟨_, rfl⟩)
   refine rf_s _ (ix_inc he107 hle107) ?_
   exact rf_ret (rnd_go ⟨rfl, rfl⟩)
  ·intro hl s101 v w103 hI
   obtain ⟨rfl, rfl⟩ := hI
   refine rf_s _ (ix_end _) <| rf_cf ?_
   exact rf_ret ⟨by simp, ⟨_, _, rfl⟩⟩
  ·intro hl b102 q hq
   obtain ⟨u2, u85, rfl⟩ := hq
   refine rf_bt (by first | rfl | (simp only [cPick_eq]; rfl)) ?_
   exact rf_fin _ (fin_same _ _) ⟨rfl, rfl⟩
  ·intro hl b102 q hq
   obtain ⟨u85, rfl⟩ := hq
   refine rf_bf (by first | rfl | (simp only [cPick_eq]; rfl)) <| rf_bt (by first | rfl | (simp only [cPick_eq]; rfl)) ?_
   exact rf_fin _ (fin_same _ _) ⟨rfl, rfl⟩
 refine rf_s _ (aEq _ _ _) ?_
 refine rf_c (p := a0.kind = 9) (fun c137 => ?_) (fun c137 => ?_)
 ·refine rf_s _ (by first | rfl | (simp only [cPick_eq]; rfl)) <| rf_s (sl 4 cPick a0.args) (by first | rfl | (simp only [cPick_eq]; rfl)) <| rf_s _ (lenS_sl _ _ _) <| rf_s _ (aNe _ _ _) <| rf_s _ (by first | rfl | (simp only [cPick_eq]; rfl)) <| rf_s (AV.int .i64 a0.kind) (by first | rfl | (simp only [cPick_eq]; rfl)) <| rf_s _ (aEq _ _ _) ?_
  refine rf_b (ω := Bool) (fun j114 a => a = (([(AV.lbx (cPick a0)), (AV.bool j114)] : List AV), σ)) (
    by
     refine rf_c (p := a0.kind = 4) (fun c113 => ?_) (fun c113 => ?_)
     ·refine rf_s _ (by first | rfl | (simp only [cPick_eq]; rfl)) <| rf_s (sl 4 cPick a0.args) (by first | rfl | (simp only [cPick_eq]; rfl)) <| rf_s _ (lenS_sl _ _ _) <| rf_s (AV.bool (decide ((a0.args.length : Int) < 2))) (by first | rfl | (simp only [cPick_eq]; rfl)) ?_
      exact rf_ret rfl
     exact rf_ret rfl
    ) (fun j114 a ha => ?_)
  subst ha
  refine rf_gf (AV.bool true) (fun hg => by first | rfl | (simp only [cPick_eq]; rfl)) <| rf_gf (AV.bool (!true)) (fun hg => by (try rw [hg]); exact rfl) <| rf_gf (AV.bool (!true)) (fun hg => by (try rw [hg]); exact rfl) <| rf_s _ (by first | rfl | (simp only [cPick_eq]; rfl)) <| rf_ggt (AV.int .i64 a0.frm) (fun hg => by first | rfl | (simp only [cPick_eq]; rfl)) <| rf_ggt (AV.bool (decide (¬ (a0.frm = 0)))) (fun hg => by (try rw [hg]); exact (aNe _ _ _)) <| rf_gf (AV.bool ((!true) && (decide (¬ (a0.frm = 0))))) (fun hg => by (try rw [hg]); exact (pk_and _ _)) <| rf_s _ (pk_or _ _) <| rf_gf (AV.bool true) (fun hg => by first | rfl | (simp only [cPick_eq]; rfl)) <| rf_gf (AV.bool (!true)) (fun hg => by (try rw [hg]); exact rfl) <| rf_gf (AV.bool (!true)) (fun hg => by (try rw [hg]); exact rfl) <| rf_s _ (by first | rfl | (simp only [cPick_eq]; rfl)) <| rf_ggt (AV.int .i64 a0.to) (fun hg => by first | rfl | (simp only [cPick_eq]; rfl)) <| rf_ggt (AV.bool (decide (¬ (a0.to = 0)))) (fun hg => by (try rw [hg]); exact (aNe _ _ _)) <| rf_gf (AV.bool ((!true) && (decide (¬ (a0.to = 0))))) (fun hg => by (try rw [hg]); exact (pk_and _ _)) <| rf_s _ (pk_or _ _) ?_
  refine rf_cb (c := ((j114 || ((!true) && (decide (¬ (a0.frm = 0))))) || ((!true) && (decide (¬ (a0.to = 0)))))) (fun c136 => ?_) (fun c136 => ?_)
  ·exact rf_fin _ (fin_same _ _) ⟨rfl, rfl⟩
  refine rf_s _ (by first | rfl | (simp only [cPick_eq]; rfl)) <| rf_s (AV.int .i64 a0.kind) (by first | rfl | (simp only [cPick_eq]; rfl)) <| rf_s _ (aEq _ _ _) ?_
  refine rf_b (ω := Int) (fun j122 a => a = (([(AV.lbx (cPick a0)), (AV.int .i64 j122)] : List AV), σ)) (
    by
     refine rf_c (p := a0.kind = 2) (fun c121 => ?_) (fun c121 => ?_)
     ·exact rf_ret rfl
     refine rf_s _ (aEq _ _ _) ?_
     refine rf_b (ω := Int) (fun j118 a => a = (([(AV.lbx (cPick a0)), (AV.int .i64 j118)] : List AV), σ)) (
       by
        refine rf_c (p := a0.kind = 3) (fun c117 => ?_) (fun c117 => ?_)
        ·exact rf_ret rfl
        exact rf_ret rfl
       ) (fun j118 a ha => ?_)
     subst ha
     exact rf_ret rfl
    ) (fun j122 a ha => ?_)
  subst ha
  refine rf_s _ (by first | rfl | (simp only [cPick_eq]; rfl)) <| rf_gt (AV.int .i64 a0.frm) (fun hg => by first | rfl | (simp only [cPick_eq]; rfl)) <| rf_gt (AV.int .i64 j122) (fun hg => by first | rfl | (simp only [cPick_eq]; rfl)) <| rf_gt (AV.bool (withinB a0.frm 1 j122)) (fun hg => by (try rw [hg]); exact (quiet_of (Within_eq a0.frm 1 j122 σ))) <| rf_gt (AV.bool (!(withinB a0.frm 1 j122))) (fun hg => by (try rw [hg]); exact rfl) <| rf_s _ (pk_and _ _) <| rf_gf (AV.bool true) (fun hg => by first | rfl | (simp only [cPick_eq]; rfl)) <| rf_gf (AV.bool true) (fun hg => by (try rw [hg]); exact rfl) <| rf_s _ (by first | rfl | (simp only [cPick_eq]; rfl)) <| rf_ggt (AV.int .i64 a0.to) (fun hg => by first | rfl | (simp only [cPick_eq]; rfl)) <| rf_ggt (AV.int .i64 j122) (fun hg => by first | rfl | (simp only [cPick_eq]; rfl)) <| rf_ggt (AV.bool (withinB a0.to 1 j122)) (fun hg => by (try rw [hg]); exact (quiet_of (Within_eq a0.to 1 j122 σ))) <| rf_ggt (AV.bool (!(withinB a0.to 1 j122))) (fun hg => by (try rw [hg]); exact rfl) <| rf_gf (AV.bool (true && (!(withinB a0.to 1 j122)))) (fun hg => by (try rw [hg]); exact (pk_and _ _)) <| rf_s _ (pk_or _ _) ?_
  refine rf_cb (c := ((true && (!(withinB a0.frm 1 j122))) || (true && (!(withinB a0.to 1 j122))))) (fun c135 => ?_) (fun c135 => ?_)
  ·exact rf_fin _ (fin_same _ _) ⟨rfl, rfl⟩
  refine rf_s _ (by first | rfl | (simp only [cPick_eq]; rfl)) <| rf_s (sl 4 cPick a0.args) (by first | rfl | (simp only [cPick_eq]; rfl)) <| rf_s _ (lenS_sl _ _ _) ?_
  refine rf_for (B := Unit) (R := Int) (fun (i132 : Nat) (s125 : Unit) v w127 => v = [(AV.int .i64 0), (AV.int .i64 (i132 : Int))] ∧ σ = w127) (fun (b126 : Unit) (q : LS) => ∃ u2 u85, q = ((AX.exit 2), ([u2, u85] : List AV), σ)) (fun (b126 : Int) (q : LS) => ∃ u85, q = (AX.ret, ([(AV.int .i64 b126), u85] : List AV), σ)) ?_ ?_ ⟨rfl, rfl⟩ ?_ ?_
  ·intro hle131 i132 e131 s125 v w127 he131 hI
   obtain ⟨rfl, rfl⟩ := hI
   refine rf_s _ (ix_lt he131) <| rf_ct <| rf_s _ (ix_for he131) <| rf_s (AV.agg (cPick e131)) (by first | rfl | (simp only [cPick_eq]; rfl)) <| rf_s (cPick e131) (by first | rfl | (simp only [cPick_eq]; rfl)) <| rf_s _ (sp_cPick _ _ rfl) <| rf_s (AV.agg (cPick e131)) (by first | rfl | (simp only [cPick_eq]; rfl)) ?_
   refine rf_o (fun r133 : Int => ((AV.int .i64 r133), σ)) (fun r133 hr133 => hq_pick_check _ _ _ hr133) (fun r133 hr133 => ?_)
   refine rf_s _ (aNe _ _ _) ?_
   refine rf_c (p := ¬ (r133 = 0)) (fun c134 => ?_) (fun c134 => ?_)
   ·exact rf_ret (rnd_ret (by simp) ⟨_, rfl⟩)
   refine rf_s _ (ix_inc he131 hle131) ?_
   exact rf_ret (rnd_go ⟨rfl, rfl⟩)
  ·intro hl s125 v w127 hI
   obtain ⟨rfl, rfl⟩ := hI
   refine rf_s _ (ix_end _) <| rf_cf ?_
   exact rf_ret ⟨by simp, ⟨_, _, rfl⟩⟩
  ·intro hl b126 q hq
   obtain ⟨u2, u85, rfl⟩ := hq
   refine rf_bt (by first | rfl | (simp only [cPick_eq]; rfl)) ?_
   exact rf_fin _ (fin_same _ _) ⟨rfl, rfl⟩
  ·intro hl b126 q hq
   obtain ⟨u85, rfl⟩ := hq
   refine rf_bf (by first | rfl | (simp only [cPick_eq]; rfl)) <| rf_bt (by first | rfl | (simp only [cPick_eq]; rfl)) ?_
   exact rf_fin _ (fin_same _ _) ⟨rfl, rfl⟩
 exact rf_fin _ (fin_same _ _) ⟨rfl, rfl⟩

noncomputable def t_R4_parts (q_R4_parts : PickD → Int → Option (Int × Int)) (a0 : PickD) (a1 : Int) : Option (Int × Int) :=
 if 12 < a1 then
  some (1, a1)
 else
 forE a0.args (fun (i8 : Nat) e7 (s1 : (Int × Int)) => (show Option (Lr (Int × Int) (Int × Int) Unit) from
   (q_R4_parts e7 (IntKind.i64.wrap (a1 + 1))).bind fun r9 =>
   some (.go ((if 201 < IntKind.i64.wrap (s1.1 + r9.1) then 201 else IntKind.i64.wrap (s1.1 + r9.1)), (if s1.2 < r9.2 then r9.2 else s1.2))))) (fun s1 => some (s1.1, s1.2)) (1, a1) (fun b2 =>
  some (b2.1, b2.2)) (fun b2 =>
  none)
theorem h_R4_parts {rc : Nat → List AV → Heap → Option (AV × Heap)} (q_R4_parts : PickD → Int → Option (Int × Int)) (hq_R4_parts : ∀ (x0 : PickD) (x1 : Int) (s : Heap) r, q_R4_parts x0 x1 = some r → rc 46 [(AV.agg (cPick x0)), (AV.int .i64 x1)] s = some ((AV.tup [(AV.int .i64 r.1), (AV.int .i64 r.2)]), s)) {a0 : PickD} {a1 : Int} {σ : Heap} {r : (Int × Int)} (h : t_R4_parts q_R4_parts a0 a1 = some r) : A.wrap true [(.a [.k, .k, .k, (.s 4)])] .k (A.ar2 (r_R4_parts rc)) [(AV.agg (cPick a0)), (AV.int .i64 a1)] σ = some ((AV.tup [(AV.int .i64 r.1), (AV.int .i64 r.2)]), σ) := by
 refine rf_wrap2 (f := r_R4_parts rc) (y0 := (AV.agg (cPick a0))) (y1 := (AV.int .i64 a1)) (enc := fun r : (Int × Int) => (AV.tup [(AV.int .i64 r.1), (AV.int .i64 r.2)])) (T := t_R4_parts q_R4_parts a0 a1) (by first | rfl | (simp only [cPick_eq]; rfl)) (by first | rfl | (simp only [cPick_eq]; rfl)) ?_ r h
 unfold r_R4_parts t_R4_parts
 refine rf_s (cPick a0) (by first | rfl | (simp only [cPick_eq]; rfl)) <| rf_s (AV.bool (decide (12 < a1))) (by first | rfl | (simp only [cPick_eq]; rfl)) ?_
 refine rf_c (p := 12 < a1) (fun c10 => ?_) (fun c10 => ?_)
 ·exact rf_fin _ (fin_same _ _) ⟨rfl, rfl⟩
 refine rf_s (sl 4 cPick a0.args) (by first | rfl | (simp only [cPick_eq]; rfl)) <| rf_s _ (lenS_sl _ _ _) ?_
 refine rf_for (B := (Int × Int)) (R := Unit) (fun (i8 : Nat) (s1 : (Int × Int)) v w3 => v = [(AV.int .i64 s1.1), (AV.int .i64 s1.2), (AV.int .i64 (i8 : Int))] ∧ σ = w3) (fun (b2 : (Int × Int)) (q : LS) => ∃ u20, q = ((AX.exit 0), ([(AV.int .i64 b2.1), (AV.int .i64 b2.2), u20] : List AV), σ)) (fun (b2 : Unit) (q : LS) => False) ?_ ?_ ⟨rfl, rfl⟩ ?_ ?_
 ·intro hle7 i8 e7 s1 v w3 he7 hI
  obtain ⟨rfl, rfl⟩ := hI
  refine rf_s _ (ix_lt he7) <| rf_ct <| rf_s _ (ix_for he7) <| rf_s (AV.agg (cPick e7)) (by first | rfl | (simp only [cPick_eq]; rfl)) <| rf_s (cPick e7) (by first | rfl | (simp only [cPick_eq]; rfl)) <| rf_s _ (sp_cPick _ _ rfl) <| rf_s (AV.agg (cPick e7)) (by first | rfl | (simp only [cPick_eq]; rfl)) <| rf_s (AV.int .i64 (IntKind.i64.wrap (a1 + 1))) (by first | rfl | (simp only [cPick_eq]; rfl)) ?_
  refine rf_o (fun r9 : (Int × Int) => ((AV.tup [(AV.int .i64 r9.1), (AV.int .i64 r9.2)]), σ)) (fun r9 hr9 => hq_R4_parts _ _ _ _ hr9) (fun r9 hr9 => ?_)
  refine rf_s (AV.int .i64 r9.1) (by first | rfl | (simp only [cPick_eq]; rfl)) <| rf_s (AV.int .i64 r9.2) (by first | rfl | (simp only [cPick_eq]; rfl)) <| rf_s (AV.int .i64 (IntKind.i64.wrap (s1.1 + r9.1))) (by first | rfl | (simp only [cPick_eq]; rfl)) <| rf_s (AV.int .i64 (if 201 < IntKind.i64.wrap (s1.1 + r9.1) then 201 else IntKind.i64.wrap (s1.1 + r9.1))) (by first | rfl | (simp only [cPick_eq]; rfl)) <| rf_s (AV.int .i64 (if s1.2 < r9.2 then r9.2 else s1.2)) (by first | rfl | (simp only [cPick_eq]; rfl)) <| rf_s _ (ix_inc he7 hle7) ?_
  exact rf_ret (rnd_go ⟨rfl, rfl⟩)
 ·intro hl s1 v w3 hI
  obtain ⟨rfl, rfl⟩ := hI
  refine rf_s _ (ix_end _) <| rf_cf ?_
  exact rf_ret ⟨by simp, ⟨_, rfl⟩⟩
 ·intro hl b2 q hq
  obtain ⟨u20, rfl⟩ := hq
  refine rf_bt (by first | rfl | (simp only [cPick_eq]; rfl)) ?_
  exact rf_fin _ (fin_same _ _) ⟨rfl, rfl⟩
 ·intro hl b2 q hq
  exact False.elim hq

noncomputable def t_R4_used (a0 : Int) : Option (Bool × Bool × Int) :=
 if a0 = 1 then
  some (true, true, 0)
 else
 (show Option Bool from
   if a0 = 2 then
    some (decide (a0 = 2))
   else
   some (decide (a0 = 3))).bind fun j2 =>
 if j2 = true then
  some (true, false, 0)
 else
 if a0 = 4 then
  some (false, false, (-1))
 else
 if a0 = 5 then
  some (false, false, 2)
 else
 if a0 = 9 then
  some (true, true, 1)
 else
 some (false, false, 1)
theorem h_R4_used {a0 : Int} {σ : Heap} {r : (Bool × Bool × Int)} (h : t_R4_used a0 = some r) : m_R4_used [(AV.int .i64 a0)] σ = some ((AV.tup [(AV.bool r.1), (AV.bool r.2.1), (AV.int .i64 r.2.2)]), σ) := by
 refine rf_wrap1 (f := r_R4_used) (y0 := (AV.int .i64 a0)) (enc := fun r : (Bool × Bool × Int) => (AV.tup [(AV.bool r.1), (AV.bool r.2.1), (AV.int .i64 r.2.2)])) (T := t_R4_used a0) rfl rfl ?_ r h
 unfold r_R4_used t_R4_used
 refine rf_s _ (aEq _ _ _) ?_
 refine rf_c (p := a0 = 1) (fun c9 => ?_) (fun c9 => ?_)
 ·exact rf_fin _ (fin_same _ _) ⟨rfl, rfl⟩
 refine rf_s _ (aEq _ _ _) ?_
 refine rf_b (ω := Bool) (fun j2 a => a = (([(AV.bool j2)] : List AV), σ)) (
   by
    refine rf_c (p := a0 = 2) (fun c1 => ?_) (fun c1 => ?_)
    ·exact rf_ret rfl
    refine rf_s _ (aEq _ _ _) ?_
    exact rf_ret rfl
   ) (fun j2 a ha => ?_)
 subst ha
 refine rf_cb (c := j2) (fun c8 => ?_) (fun c8 => ?_)
 ·exact rf_fin _ (fin_same _ _) ⟨rfl, rfl⟩
 refine rf_s _ (aEq _ _ _) ?_
 refine rf_c (p := a0 = 4) (fun c7 => ?_) (fun c7 => ?_)
 ·exact rf_fin _ (fin_same _ _) ⟨rfl, rfl⟩
 refine rf_s _ (aEq _ _ _) ?_
 refine rf_c (p := a0 = 5) (fun c6 => ?_) (fun c6 => ?_)
 ·exact rf_fin _ (fin_same _ _) ⟨rfl, rfl⟩
 refine rf_s _ (aEq _ _ _) ?_
 refine rf_c (p := a0 = 9) (fun c5 => ?_) (fun c5 => ?_)
 ·exact rf_fin _ (fin_same _ _) ⟨rfl, rfl⟩
 exact rf_fin _ (fin_same _ _) ⟨rfl, rfl⟩

noncomputable def t_R4_checkPart (q_R4_checkPart : PickD → Option Int) (a0 : PickD) : Option Int :=
 if (!(withinB a0.kind 1 9)) = true then
  some 4
 else
 (t_R4_used a0.kind).bind fun r1 =>
 if (((((!r1.1) && (decide (¬ (a0.frm = 0)))) || ((!r1.2.1) && (decide (¬ (a0.to = 0))))) || ((decide (0 ≤ r1.2.2)) && (decide (¬ ((a0.args.length : Int) = r1.2.2))))) || ((decide (r1.2.2 < 0)) && (decide ((a0.args.length : Int) < 2)))) = true then
  some 3
 else
 (show Option Int from
   if a0.kind = 2 then
    some 999
   else
   (show Option Int from
     if a0.kind = 3 then
      some 999
     else
     some 9999).bind fun j3 =>
   some j3).bind fun j7 =>
 if ((r1.1 && (!(withinB a0.frm 1 j7))) || (r1.2.1 && (!(withinB a0.to 1 9999)))) = true then
  some 1
 else
 forE a0.args (fun (i17 : Nat) e16 (s10 : Unit) => (show Option (Lr Unit Unit Int) from
   (q_R4_checkPart e16).bind fun r18 =>
   if ¬ (r18 = 0) then
    some (.ret r18)
   else
   some (.go ()))) (fun s10 => some ()) () (fun b11 =>
  some 0) (fun b11 =>
  some b11)
theorem h_R4_checkPart {rc : Nat → List AV → Heap → Option (AV × Heap)} (q_R4_checkPart : PickD → Option Int) (hq_R4_checkPart : ∀ (x0 : PickD) (s : Heap) r, q_R4_checkPart x0 = some r → rc 48 [(AV.agg (cPick x0))] s = some ((AV.int .i64 r), s)) {a0 : PickD} {σ : Heap} {r : Int} (h : t_R4_checkPart q_R4_checkPart a0 = some r) : A.wrap true [(.a [.k, .k, .k, (.s 4)])] .k (A.ar1 (r_R4_checkPart rc)) [(AV.agg (cPick a0))] σ = some ((AV.int .i64 r), σ) := by
 refine rf_wrap1 (f := r_R4_checkPart rc) (y0 := (AV.agg (cPick a0))) (enc := fun r : Int => (AV.int .i64 r)) (T := t_R4_checkPart q_R4_checkPart a0) (by first | rfl | (simp only [cPick_eq]; rfl)) (by first | rfl | (simp only [cPick_eq]; rfl)) ?_ r h
 unfold r_R4_checkPart t_R4_checkPart
 refine rf_s (cPick a0) (by first | rfl | (simp only [cPick_eq]; rfl)) <| rf_s (AV.int .i64 a0.kind) (by first | rfl | (simp only [cPick_eq]; rfl)) <| rf_s _ (Within1_eq a0.kind 1 9 σ) <| rf_s (AV.bool (!(withinB a0.kind 1 9))) (by first | rfl | (simp only [cPick_eq]; rfl)) ?_
 refine rf_cb (c := (!(withinB a0.kind 1 9))) (fun c22 => ?_) (fun c22 => ?_)
 ·exact rf_fin _ (fin_same _ _) ⟨rfl, rfl⟩
 refine rf_s (AV.int .i64 a0.kind) (by first | rfl | (simp only [cPick_eq]; rfl)) ?_
 refine rf_o (fun r1 : (Bool × Bool × Int) => ((AV.tup [(AV.bool r1.1), (AV.bool r1.2.1), (AV.int .i64 r1.2.2)]), σ)) (fun r1 hr1 => h_R4_used hr1) (fun r1 hr1 => ?_)
 refine rf_s (AV.bool r1.1) (by first | rfl | (simp only [cPick_eq]; rfl)) <| rf_s (AV.bool r1.2.1) (by first | rfl | (simp only [cPick_eq]; rfl)) <| rf_s (AV.int .i64 r1.2.2) (by first | rfl | (simp only [cPick_eq]; rfl)) <| rf_s (AV.bool (!r1.1)) (by first | rfl | (simp only [cPick_eq]; rfl)) <| rf_gt (AV.int .i64 a0.frm) (fun hg => by first | rfl | (simp only [cPick_eq]; rfl)) <| rf_gt (AV.bool (decide (¬ (a0.frm = 0)))) (fun hg => by (try rw [hg]); exact (aNe _ _ _)) <| rf_s _ (pk_and _ _) <| rf_gf (AV.bool r1.2.1) (fun hg => by first | rfl | (simp only [cPick_eq]; rfl)) <| rf_gf (AV.bool (!r1.2.1)) (fun hg => by (try rw [hg]); exact rfl) <| rf_gf (AV.bool (!r1.2.1)) (fun hg => by (try rw [hg]); exact rfl) <| rf_ggt (AV.int .i64 a0.to) (fun hg => by first | rfl | (simp only [cPick_eq]; rfl)) <| rf_ggt (AV.bool (decide (¬ (a0.to = 0)))) (fun hg => by (try rw [hg]); exact (aNe _ _ _)) <| rf_gf (AV.bool ((!r1.2.1) && (decide (¬ (a0.to = 0))))) (fun hg => by (try rw [hg]); exact (pk_and _ _)) <| rf_s _ (pk_or _ _) <| rf_gf (AV.int .i64 r1.2.2) (fun hg => by first | rfl | (simp only [cPick_eq]; rfl)) <| rf_gf (AV.bool (decide (0 ≤ r1.2.2))) (fun hg => by (try rw [hg]); exact rfl) <| rf_gf (AV.bool (decide (0 ≤ r1.2.2))) (fun hg => by (try rw [hg]); exact rfl) <| rf_ggt (sl 4 cPick a0.args) (fun hg => by first | rfl | (simp only [cPick_eq]; rfl)) <| rf_ggt (AV.int .i64 (a0.args.length : Int)) (fun hg => by (try rw [hg]); exact (lenS_sl _ _ _)) <| rf_ggt (AV.int .i64 r1.2.2) (fun hg => by first | rfl | (simp only [cPick_eq]; rfl)) <| rf_ggt (AV.bool (decide (¬ ((a0.args.length : Int) = r1.2.2)))) (fun hg => by (try rw [hg]); exact (aNe _ _ _)) <| rf_gf (AV.bool ((decide (0 ≤ r1.2.2)) && (decide (¬ ((a0.args.length : Int) = r1.2.2))))) (fun hg => by (try rw [hg]); exact (pk_and _ _)) <| rf_s _ (pk_or _ _) <| rf_gf (AV.int .i64 r1.2.2) (fun hg => by first | rfl | (simp only [cPick_eq]; rfl)) <| rf_gf (AV.bool (decide (r1.2.2 < 0))) (fun hg => by (try rw [hg]); exact rfl) <| rf_gf (AV.bool (decide (r1.2.2 < 0))) (fun hg => by (try rw [hg]); exact rfl) <| rf_ggt (sl 4 cPick a0.args) (fun hg => by first | rfl | (simp only [cPick_eq]; rfl)) <| rf_ggt (AV.int .i64 (a0.args.length : Int)) (fun hg => by (try rw [hg]); exact (lenS_sl _ _ _)) <| rf_ggt (AV.bool (decide ((a0.args.length : Int) < 2))) (fun hg => by (try rw [hg]); exact rfl) <| rf_gf (AV.bool ((decide (r1.2.2 < 0)) && (decide ((a0.args.length : Int) < 2)))) (fun hg => by (try rw [hg]); exact (pk_and _ _)) <| rf_s _ (pk_or _ _) ?_
 refine rf_cb (c := (((((!r1.1) && (decide (¬ (a0.frm = 0)))) || ((!r1.2.1) && (decide (¬ (a0.to = 0))))) || ((decide (0 ≤ r1.2.2)) && (decide (¬ ((a0.args.length : Int) = r1.2.2))))) || ((decide (r1.2.2 < 0)) && (decide ((a0.args.length : Int) < 2))))) (fun c21 => ?_) (fun c21 => ?_)
 ·exact rf_fin _ (fin_same _ _) ⟨rfl, rfl⟩
 refine rf_s (AV.int .i64 a0.kind) (by first | rfl | (simp only [cPick_eq]; rfl)) <| rf_s _ (aEq _ _ _) ?_
 refine rf_b (ω := Int) (fun j7 a => a = (([(AV.lbx (cPick a0)), (AV.int .i64 j7)] : List AV), σ)) (
   by
    refine rf_c (p := a0.kind = 2) (fun c6 => ?_) (fun c6 => ?_)
    ·exact rf_ret rfl
    refine rf_s _ (aEq _ _ _) ?_
    refine rf_b (ω := Int) (fun j3 a => a = (([(AV.lbx (cPick a0)), (AV.int .i64 j3)] : List AV), σ)) (
      by
       refine rf_c (p := a0.kind = 3) (fun c2 => ?_) (fun c2 => ?_)
       ·exact rf_ret rfl
       exact rf_ret rfl
      ) (fun j3 a ha => ?_)
    subst ha
    exact rf_ret rfl
   ) (fun j7 a ha => ?_)
 subst ha
 refine rf_s _ (by first | rfl | (simp only [cPick_eq]; rfl)) <| rf_gt (AV.int .i64 a0.frm) (fun hg => by first | rfl | (simp only [cPick_eq]; rfl)) <| rf_gt (AV.int .i64 j7) (fun hg => by first | rfl | (simp only [cPick_eq]; rfl)) <| rf_gt (AV.bool (withinB a0.frm 1 j7)) (fun hg => by (try rw [hg]); exact (quiet_of (Within1_eq a0.frm 1 j7 σ))) <| rf_gt (AV.bool (!(withinB a0.frm 1 j7))) (fun hg => by (try rw [hg]); exact rfl) <| rf_s _ (pk_and _ _) <| rf_gf (AV.bool r1.2.1) (fun hg => by first | rfl | (simp only [cPick_eq]; rfl)) <| rf_gf (AV.bool r1.2.1) (fun hg => by (try rw [hg]); exact rfl) <| rf_s _ (by first | rfl | (simp only [cPick_eq]; rfl)) <| rf_ggt (AV.int .i64 a0.to) (fun hg => by first | rfl | (simp only [cPick_eq]; rfl)) <| rf_ggt (AV.bool (withinB a0.to 1 9999)) (fun hg => by (try rw [hg]); exact (quiet_of (Within1_eq a0.to 1 9999 σ))) <| rf_ggt (AV.bool (!(withinB a0.to 1 9999))) (fun hg => by (try rw [hg]); exact rfl) <| rf_gf (AV.bool (r1.2.1 && (!(withinB a0.to 1 9999)))) (fun hg => by (try rw [hg]); exact (pk_and _ _)) <| rf_s _ (pk_or _ _) ?_
 refine rf_cb (c := ((r1.1 && (!(withinB a0.frm 1 j7))) || (r1.2.1 && (!(withinB a0.to 1 9999))))) (fun c20 => ?_) (fun c20 => ?_)
 ·exact rf_fin _ (fin_same _ _) ⟨rfl, rfl⟩
 refine rf_s _ (by first | rfl | (simp only [cPick_eq]; rfl)) <| rf_s (sl 4 cPick a0.args) (by first | rfl | (simp only [cPick_eq]; rfl)) <| rf_s _ (lenS_sl _ _ _) ?_
 refine rf_for (B := Unit) (R := Int) (fun (i17 : Nat) (s10 : Unit) v w12 => v = [(AV.int .i64 0), (AV.int .i64 (i17 : Int))] ∧ σ = w12) (fun (b11 : Unit) (q : LS) => ∃ u2 u84, q = ((AX.exit 1), ([u2, u84] : List AV), σ)) (fun (b11 : Int) (q : LS) => ∃ u84, q = (AX.ret, ([(AV.int .i64 b11), u84] : List AV), σ)) ?_ ?_ ⟨rfl, rfl⟩ ?_ ?_
 ·intro hle16 i17 e16 s10 v w12 he16 hI
  obtain ⟨rfl, rfl⟩ := hI
  refine rf_s _ (ix_lt he16) <| rf_ct <| rf_s _ (ix_for he16) <| rf_s (AV.agg (cPick e16)) (by first | rfl | (simp only [cPick_eq]; rfl)) <| rf_s (cPick e16) (by first | rfl | (simp only [cPick_eq]; rfl)) <| rf_s _ (sp_cPick _ _ rfl) <| rf_s (AV.agg (cPick e16)) (by first | rfl | (simp only [cPick_eq]; rfl)) ?_
  refine rf_o (fun r18 : Int => ((AV.int .i64 r18), σ)) (fun r18 hr18 => hq_R4_checkPart _ _ _ hr18) (fun r18 hr18 => ?_)
  refine rf_s _ (aNe _ _ _) ?_
  refine rf_c (p := ¬ (r18 = 0)) (fun c19 => ?_) (fun c19 => ?_)
  ·exact rf_ret (rnd_ret (by simp) ⟨_, rfl⟩)
  refine rf_s _ (ix_inc he16 hle16) ?_
  exact rf_ret (rnd_go ⟨rfl, rfl⟩)
 ·intro hl s10 v w12 hI
  obtain ⟨rfl, rfl⟩ := hI
  refine rf_s _ (ix_end _) <| rf_cf ?_
  exact rf_ret ⟨by simp, ⟨_, _, rfl⟩⟩
 ·intro hl b11 q hq
  obtain ⟨u2, u84, rfl⟩ := hq
  refine rf_bt (by first | rfl | (simp only [cPick_eq]; rfl)) ?_
  exact rf_fin _ (fin_same _ _) ⟨rfl, rfl⟩
 ·intro hl b11 q hq
  obtain ⟨u84, rfl⟩ := hq
  refine rf_bf (by first | rfl | (simp only [cPick_eq]; rfl)) <| rf_bt (by first | rfl | (simp only [cPick_eq]; rfl)) ?_
  exact rf_fin _ (fin_same _ _) ⟨rfl, rfl⟩

end Go.Proofs.YtkdafecbdncmiaaDoor

