/- Parts of the proof of PickGroupsMatchSpec, in order. -/
import Derived.Orders
import Derived.Below
import Derived.WalkKit
import Derived.Laws.StructEq
import Derived.Laws.Append
import Derived.Laws.AppendOwn
import Derived.Test.YtgjglkakhmikjaaRows
import Derived.KernelRfl
import Derived.Lib.Bytealg
import Derived.Sort.Defs
import Derived.Lib.BitFns
import Derived.IntWalk
import Derived.Lib.Strings
import Derived.Test.YtgjglkakhmikjaaKPickGroupsMatchSpec2
namespace Go.Proofs.Ytgjglkakhmikjaa
set_option linter.unusedSectionVars false
open Go.RowKit
set_option linter.unusedVariables false
set_option linter.unusedSimpArgs false
section
variable {X : Fx} {z : Z} {s : AS} {a : Act} {w w' : World} {E : List Pl} {pb : Nat → Option Nat}
def resM (tmps : Array Value) : ResultVar → Sem Value
 | .tmp t => pure (tmps.getD t undef)
 | .cell a t => do loadVar t (← asAddr (tmps.getD a undef))
theorem resA_run (h : St X z s a w E pb) {R : Type} : ∀ (rs : List ResultVar) (k : List AV → Option R) (r : R), resA X s rs k = some r → ∃ vs avs, (rs.mapM (resM a.tmps)).run X.P w = .ok vs w ∧ RepL (ctx z w E pb) avs vs ∧ k avs = some r
 | [], k, r, hk => ⟨[], [], by simp, by simp [RepL], hk⟩
 | .tmp t :: rs, k, r, hk => by
  simp only [resA] at hk
  obtain ⟨vs, avs, h1, h2, h3⟩ := resA_run h rs _ r hk
  refine ⟨a.tmps.getD t undef :: vs, ev X s (.tmp t) :: avs, ?_, by simp only [RepL]; exact ⟨_, _, rfl, ev_rep h (.tmp t), h2⟩, h3⟩
  simp only [List.mapM_cons, Sem.run_bind, resM, Sem.run_pure, Result.andThen_ok, h1]
 | .cell q t :: rs, k, r, hk => by
  simp only [resA] at hk
  have fin : ∀ (v : Value) (av : AV), (resM a.tmps (.cell q t)).run X.P w = .ok v w → Rep (ctx z w E pb) av v → resA X s rs (fun vs => k (av :: vs)) = some r → ∃ vs avs, ((ResultVar.cell q t :: rs).mapM (resM a.tmps)).run X.P w = .ok vs w ∧ RepL (ctx z w E pb) avs vs ∧ k avs = some r := by
   intro v av hv hr hk
   obtain ⟨vs, avs, h1, h2, h3⟩ := resA_run h rs _ r hk
   refine ⟨v :: vs, av :: avs, ?_, by simp only [RepL]; exact ⟨_, _, rfl, hr, h2⟩, h3⟩
   simp only [List.mapM_cons, Sem.run_bind, hv, Sem.run_pure, Result.andThen_ok, h1]
  split at hk
  ·rename_i b off hp
   obtain ⟨av, e1, e2⟩ := Option.bind_eq_some_iff.1 hk
   obtain ⟨cs, e3, e4⟩ := Option.bind_eq_some_iff.1 e1
   obtain ⟨n, k1, k2, k3, k4⟩ := place_rep h (tag := none) trivial hp e3
   obtain ⟨v, j1, j2⟩ := partT_load (c := ctx z w E pb) w X rfl k3.2 e4
   rw [Nat.zero_add] at j1
   simp only [Act.eval] at k2
   exact fin v av (by simp [resM, k2, asAddr, j1]) j2 e2
  ·obtain ⟨av, e1, e2⟩ := Option.bind_eq_some_iff.1 hk
   obtain ⟨cs, e3, e4⟩ := Option.bind_eq_some_iff.1 e1
   obtain ⟨b, off, k2, k3⟩ := deref_rep h.heap e3 (ev_rep h (.tmp q))
   obtain ⟨v, j1, j2⟩ := partT_load (c := ctx z w E pb) w X rfl k3 e4
   rw [Nat.add_zero] at j1
   simp only [Act.eval] at k2
   exact fin v av (by simp [resM, k2, asAddr, j1]) j2 e2
theorem results_run {P : Program} {fn : Func} {tmps : Array Value} {vs : List Value} (h : (fn.results.toList.mapM (resM tmps)).run P w = .ok vs w) : ∃ v, (results fn tmps).run P w = .ok v w ∧ ∀ (c : RC) (avs : List AV), RepL c avs vs → Rep c (one avs) v := by
 have e : results fn tmps = (do let vs ← fn.results.mapM (resM tmps); pure (if h : vs.size = 1 then vs[0] else .tuple vs)) := by
  unfold results
  congr 1
 have hm : (fn.results.mapM (resM tmps)).run P w = .ok vs.toArray w := by
  rw [Array.mapM_eq_mapM_toList, Sem.run_map, h]; rfl
 have hrun : (results fn tmps).run P w = .ok (if h : vs.toArray.size = 1 then vs.toArray[0] else .tuple vs.toArray) w := by
  rw [e, Sem.run_bind, hm]; rfl
 refine ⟨_, hrun, fun c avs r => ?_⟩
 match avs, vs, r with
 | [x], [v], r => simp only [RepL] at r; obtain ⟨v', _, e', r1, rfl⟩ := r; injection e' with e1 _; subst e1; simpa [one] using r1
 | [], [], r => simp only [one, Rep]; exact ⟨#[], by simp, by simp [RepL]⟩
 | x :: y :: xs, v :: u :: us, r => simp only [one, Rep]; exact ⟨(v :: u :: us).toArray, by simp, by simpa using r⟩
 | [_], _ :: _ :: _, r => exact absurd r.length (by simp)
 | _ :: _ :: _, [_], r => exact absurd r.length (by simp)
 | [], _ :: _, r => exact absurd r.length (by simp)
 | _ :: _, [], r => exact absurd r.length (by simp)
end
section
variable {c c' : RC} {σ : Heap} {n : Nat}
structure Cold (c c' : RC) (σ : Heap) (n : Nat) : Prop where
 w : c'.w = c.w
 nm : c'.nm = c.nm
 X : ∀ b, c'.X b → c.X b
 E : ∀ (id : Nat) (p : Pl), id < n → c.E[id]? = some p → c'.E[id]? = some p
 heap : HeapRel c σ
 cold : ∀ (id : Nat) (p : Pl), n ≤ id → c.E[id]? = some p → ¬ c'.X p.b
theorem frzL_len (d : Nat) : ∀ (l l' : List AV), A.frzL σ n d l = some l' → l'.length = l.length
 | [], l', e => by simp only [A.frzL] at e; injection e with e; subst e; rfl
 | x :: l, l', e => by
  simp only [A.frzL] at e
  obtain ⟨y, h1, h2⟩ := Option.bind_eq_some_iff.1 e
  obtain ⟨l2, h3, rfl⟩ := Option.map_eq_some_iff.1 h2
  simp [frzL_len d l l2 h3]
theorem frzLL_len (d : Nat) : ∀ (l l' : List (List AV)), A.frzLL σ n d l = some l' → l'.length = l.length
 | [], l', e => by simp only [A.frzLL] at e; injection e with e; subst e; rfl
 | x :: l, l', e => by
  simp only [A.frzLL] at e
  obtain ⟨y, h1, h2⟩ := Option.bind_eq_some_iff.1 e
  obtain ⟨l2, h3, rfl⟩ := Option.map_eq_some_iff.1 h2
  simp [frzLL_len d l l2 h3]
theorem frzLL_eq (d : Nat) : ∀ (l : List (List AV)), A.frzLL' σ n d l = A.frzLL σ n d l
 | [] => by simp [A.frzLL, A.frzLL']
 | x :: l => by simp [A.frzLL, A.frzLL', frzLL_eq d l]
def isOwn : AV → Bool
 | .os .. => true
 | .op .. => true
 | .oe .. => true
 | .om .. => true
 | _ => false
theorem frzL_eq (d : Nat) : ∀ (l : List AV), A.frzL' σ n d l = A.frzL σ n d l
 | [] => by simp [A.frzL, A.frzL']
 | x :: l => by simp [A.frzL, A.frzL', frzL_eq d l]
theorem frzM_eq (d : Nat) : ∀ (l : List (AV × AV)), A.frzM' σ n d l = A.frzM σ n d l
 | [] => by simp [A.frzM, A.frzM']
 | (k, v) :: l => by simp [A.frzM, A.frzM', frzM_eq d l]
theorem frz_key (d : Nat) (m : Int) (s : ByteArray) : A.frz σ n d (.agg [.int .i64 m, .str s]) = some (.agg [.int .i64 m, .str s]) := by
 cases d <;> simp [A.frz, A.frzL]
theorem frzM_keys {d : Nat} : ∀ {es es' : List (AV × AV)}, (∀ p ∈ es, ∃ m s, p.1 = .agg [.int .i64 m, .str s]) → A.frzM σ n d es = some es' → es'.map (·.1) = es.map (·.1)
 | [], es', _, h => by simp only [A.frzM] at h; injection h with h; subst h; rfl
 | (k, v) :: r, es', hk, h => by
  simp only [A.frzM] at h
  obtain ⟨m, s, e⟩ := hk (k, v) List.mem_cons_self
  simp only at e
  subst e
  rw [frz_key] at h
  simp only [Option.bind_some] at h
  obtain ⟨v', h1, h2⟩ := Option.bind_eq_some_iff.1 h
  obtain ⟨r', h3, rfl⟩ := Option.map_eq_some_iff.1 h2
  simp only [List.map_cons, frzM_keys (fun p hp => hk p (List.mem_cons_of_mem _ hp)) h3]
theorem frzM_dist {d : Nat} {es es' : List (AV × AV)} (hd : DistK es) (h : A.frzM σ n d es = some es') : DistK es' := by
 have e := frzM_keys hd.1 h
 refine ⟨fun p hp => ?_, by rw [e]; exact hd.2⟩
 have : p.1 ∈ es.map (·.1) := by rw [← e]; exact List.mem_map_of_mem hp
 obtain ⟨q, hq, e2⟩ := List.mem_map.1 this
 rw [← e2]
 exact hd.1 q hq
mutual
theorem frz_rep (h : Cold c c' σ n) (d : Nat) (hos : ∀ av av' v, isOwn av = true → A.frz σ n d av = some av' → Rep c av v → Rep c' av' v) : ∀ (av av' : AV) (v : Value), A.frz σ n d av = some av' → Rep c av v → Rep c' av' v
 | .undef, av', v, e, r => by cases d <;> simp [A.frz] at e
 | .int k m, av', v, e, r => by
  have : av' = .int k m := by cases d <;> simpa [A.frz] using e.symm
  subst this; simpa [Rep] using r
 | .bool b, av', v, e, r => by
  have : av' = .bool b := by cases d <;> simpa [A.frz] using e.symm
  subst this; simpa [Rep] using r
 | .str s, av', v, e, r => by
  have : av' = .str s := by cases d <;> simpa [A.frz] using e.symm
  subst this; simpa [Rep] using r
 | .nsl, av', v, e, r => by
  have : av' = .nsl := by cases d <;> simpa [A.frz] using e.symm
  subst this; simpa [Rep] using r
 | .ez, av', v, e, r => by
  have : av' = .ez := by cases d <;> simpa [A.frz] using e.symm
  subst this; simpa [Rep] using r
 | .np, av', v, e, r => by
  have : av' = .np := by cases d <;> simpa [A.frz] using e.symm
  subst this; simpa [Rep] using r
 | .nm, av', v, e, r => by
  have : av' = .nm := by cases d <;> simpa [A.frz] using e.symm
  subst this; simpa [Rep] using r
 | .nfn, av', v, e, r => by
  have : av' = .nfn := by cases d <;> simpa [A.frz] using e.symm
  subst this; simpa [Rep] using r
 | .agg cs, av', v, e, r => by
  have e' : (A.frzL σ n d cs).map .agg = some av' := by cases d <;> simpa [A.frz] using e
  obtain ⟨cs', h1, rfl⟩ := Option.map_eq_some_iff.1 e'
  simp only [Rep] at r ⊢
  obtain ⟨vs, e, r1, r2⟩ := r
  exact ⟨vs, e, frzL_rep h d hos cs cs' _ h1 r1, r2⟩
 | .tup cs, av', v, e, r => by
  have e' : (A.frzL σ n d cs).map .tup = some av' := by cases d <;> simpa [A.frz] using e
  obtain ⟨cs', h1, rfl⟩ := Option.map_eq_some_iff.1 e'
  simp only [Rep] at r ⊢
  obtain ⟨vs, e, r1⟩ := r
  exact ⟨vs, e, frzL_rep h d hos cs cs' _ h1 r1⟩
 | .sl sz es, av', v, e, r => by
  have e' : (A.frzLL σ n d es).map (.sl sz) = some av' := by cases d <;> simpa [A.frz] using e
  obtain ⟨es', h1, rfl⟩ := Option.map_eq_some_iff.1 e'
  simp only [Rep] at r ⊢
  obtain ⟨q, cap, e, k1, k2, r⟩ := r
  have hl : es'.length = es.length := frzLL_len d es es' h1
  refine ⟨q, cap, by rw [hl]; exact e, by rw [hl]; exact k1, k2, ?_⟩
  rcases r with r | ⟨b, off, e2, hb, hx, r⟩
  ·left; subst r; simpa using hl
  ·right; exact ⟨b, off, e2, by rw [h.w]; exact hb, fun k => hx (h.X b k), frzE_rep h d hos sz b es es' off h1 r⟩
 | .rp cs, av', v, e, r => by
  have e' : (A.frzL σ n d cs).map .rp = some av' := by cases d <;> simpa [A.frz] using e
  obtain ⟨cs', h1, rfl⟩ := Option.map_eq_some_iff.1 e'
  simp only [Rep] at r ⊢
  obtain ⟨b, off, e2, hb, hx, r⟩ := r
  exact ⟨b, off, e2, by rw [h.w]; exact hb, fun k => hx (h.X b k), frzC_rep h d hos b cs cs' off h1 r⟩
 | .fm es, av', v, e, r => by
  have e' : (A.frzM σ n d es).map .fm = some av' := by cases d <;> simpa [A.frz] using e
  obtain ⟨es', h1, rfl⟩ := Option.map_eq_some_iff.1 e'
  simp only [Rep] at r ⊢
  obtain ⟨b, e2, hb, hx, ents, clock, k1, kw, l, k2, k3⟩ := r
  exact ⟨b, e2, by rw [h.w]; exact hb, fun k => hx (h.X b k), ents, clock, by rw [h.w]; exact k1, kw, l, frzM_rep h d hos es es' _ h1 k2, k3.imp_right fun q => ⟨q.1, frzM_dist q.2 h1⟩⟩
 | .op id off, av', v, e, r => hos _ av' v rfl e r
 | .oe id g i off, av', v, e, r => hos _ av' v rfl e r
 | .om id, av', v, e, r => hos _ av' v rfl e r
 | .fn f cs, av', v, e, r => by
  have e' : (A.frzL σ n d cs).map (.fn f) = some av' := by cases d <;> simpa [A.frz] using e
  obtain ⟨cs', h1, rfl⟩ := Option.map_eq_some_iff.1 e'
  simp only [Rep] at r ⊢
  obtain ⟨g, vs, e, k, r1⟩ := r
  exact ⟨g, vs, e, by rw [h.nm]; exact k, frzL_rep h d hos cs cs' _ h1 r1⟩
 | .lbx cs, av', v, e, r => by cases d <;> simp [A.frz] at e
 | .os id g sz off len, av', v, e, r => hos _ av' v rfl e r
theorem frzL_rep (h : Cold c c' σ n) (d : Nat) (hos : ∀ av av' v, isOwn av = true → A.frz σ n d av = some av' → Rep c av v → Rep c' av' v) : ∀ (l l' : List AV) (vs : List Value), A.frzL σ n d l = some l' → RepL c l vs → RepL c' l' vs
 | [], l', vs, e, r => by simp only [A.frzL] at e; injection e with e; subst e; simpa [RepL] using r
 | x :: l, l', vs, e, r => by
  simp only [A.frzL] at e
  obtain ⟨y, h1, h2⟩ := Option.bind_eq_some_iff.1 e
  obtain ⟨l2, h3, rfl⟩ := Option.map_eq_some_iff.1 h2
  simp only [RepL] at r ⊢
  obtain ⟨v, vs', e, r1, r2⟩ := r
  exact ⟨v, vs', e, frz_rep h d hos x y v h1 r1, frzL_rep h d hos l l2 vs' h3 r2⟩
theorem frzM_rep (h : Cold c c' σ n) (d : Nat) (hos : ∀ av av' v, isOwn av = true → A.frz σ n d av = some av' → Rep c av v → Rep c' av' v) : ∀ (l l' : List (AV × AV)) (es : List MapEntry), A.frzM σ n d l = some l' → RepM c l es → RepM c' l' es
 | [], l', es, e, r => by simp only [A.frzM] at e; injection e with e; subst e; simpa [RepM] using r
 | (k, v) :: l, l', es, e, r => by
  simp only [A.frzM] at e
  obtain ⟨k', h1, h2⟩ := Option.bind_eq_some_iff.1 e
  obtain ⟨v', h3, h4⟩ := Option.bind_eq_some_iff.1 h2
  obtain ⟨l2, h5, rfl⟩ := Option.map_eq_some_iff.1 h4
  simp only [RepM] at r ⊢
  obtain ⟨x, es', e, r1, r2, r3⟩ := r
  exact ⟨x, es', e, frz_rep h d hos k k' _ h1 r1, frz_rep h d hos v v' _ h3 r2, frzM_rep h d hos l l2 es' h5 r3⟩
theorem frzC_rep (h : Cold c c' σ n) (d : Nat) (hos : ∀ av av' v, isOwn av = true → A.frz σ n d av = some av' → Rep c av v → Rep c' av' v) (b : Nat) : ∀ (l l' : List AV) (off : Nat), A.frzL σ n d l = some l' → RepCs c b off l → RepCs c' b off l'
 | [], l', off, e, r => by simp only [A.frzL] at e; injection e with e; subst e; simp [RepCs]
 | x :: l, l', off, e, r => by
  simp only [A.frzL] at e
  obtain ⟨y, h1, h2⟩ := Option.bind_eq_some_iff.1 e
  obtain ⟨l2, h3, rfl⟩ := Option.map_eq_some_iff.1 h2
  simp only [RepCs] at r ⊢
  obtain ⟨⟨v, e1, e2, r1⟩, r2⟩ := r
  exact ⟨⟨v, by rw [h.w]; exact e1, e2, frz_rep h d hos x y v h1 r1⟩, frzC_rep h d hos b l l2 (off + 1) h3 r2⟩
theorem frzE_rep (h : Cold c c' σ n) (d : Nat) (hos : ∀ av av' v, isOwn av = true → A.frz σ n d av = some av' → Rep c av v → Rep c' av' v) (sz b : Nat) : ∀ (l l' : List (List AV)) (off : Nat), A.frzLL σ n d l = some l' → RepEs c sz b off l → RepEs c' sz b off l'
 | [], l', off, e, r => by simp only [A.frzLL] at e; injection e with e; subst e; simp [RepEs]
 | x :: l, l', off, e, r => by
  simp only [A.frzLL] at e
  obtain ⟨y, h1, h2⟩ := Option.bind_eq_some_iff.1 e
  obtain ⟨l2, h3, rfl⟩ := Option.map_eq_some_iff.1 h2
  simp only [RepEs] at r ⊢
  exact ⟨by rw [frzL_len d x y h1]; exact r.1, frzC_rep h d hos b x y off h1 r.2.1, frzE_rep h d hos sz b l l2 (off + sz) h3 r.2.2⟩
end
structure Eld (c0 c c' : RC) : Prop where
 w : c'.w = c.w
 nm : c'.nm = c.nm
 X : ∀ b, c'.X b → c.X b
 E : ∀ (id : Nat) (p0 p : Pl), c0.E[id]? = some p0 → c.E[id]? = some p → c'.E[id]? = some p
mutual
theorem eld_rep {c0 c c' : RC} (h : Eld c0 c c') : ∀ (av : AV) (v0 v : Value), Rep c0 av v0 → Rep c av v → Rep c' av v
 | .undef, v0, v, r0, r => by simp [Rep]
 | .int k m, v0, v, r0, r => by simpa [Rep] using r
 | .bool b, v0, v, r0, r => by simpa [Rep] using r
 | .str s, v0, v, r0, r => by simpa [Rep] using r
 | .nsl, v0, v, r0, r => by simpa [Rep] using r
 | .ez, v0, v, r0, r => by simpa [Rep] using r
 | .np, v0, v, r0, r => by simpa [Rep] using r
 | .nm, v0, v, r0, r => by simpa [Rep] using r
 | .fm es, v0, v, r0, r => by
  simp only [Rep] at r0 r ⊢
  obtain ⟨_, _, _, _, _, _, _, _, _, r0, _⟩ := r0
  obtain ⟨b, e, hb, hx, ents, clock, k1, kw, l, k2, k3⟩ := r
  exact ⟨b, e, by rw [h.w]; exact hb, fun k => hx (h.X b k), ents, clock, by rw [h.w]; exact k1, kw, l, eldM_rep h es _ _ r0 k2, k3⟩
 | .nfn, v0, v, r0, r => by simpa [Rep] using r
 | .agg cs, v0, v, r0, r => by
  simp only [Rep] at r0 r ⊢
  obtain ⟨vs0, _, r01, _⟩ := r0
  obtain ⟨vs, e, r1, r2⟩ := r
  exact ⟨vs, e, eldL_rep h cs _ _ r01 r1, r2⟩
 | .tup cs, v0, v, r0, r => by
  simp only [Rep] at r0 r ⊢
  obtain ⟨vs0, _, r01⟩ := r0
  obtain ⟨vs, e, r1⟩ := r
  exact ⟨vs, e, eldL_rep h cs _ _ r01 r1⟩
 | .sl sz es, v0, v, r0, r => by
  simp only [Rep] at r0 r ⊢
  obtain ⟨_, _, _, _, _, r0⟩ := r0
  obtain ⟨q, cap, e, k1, k2, r⟩ := r
  refine ⟨q, cap, e, k1, k2, ?_⟩
  rcases r with r | ⟨b, off, e2, hb, hx, r⟩
  ·exact .inl r
  ·rcases r0 with r0 | ⟨b0, off0, _, _, _, r0⟩
   ·exact .inl r0
   ·exact .inr ⟨b, off, e2, by rw [h.w]; exact hb, fun k => hx (h.X b k), eldE_rep h sz b0 b es off0 off r0 r⟩
 | .rp cs, v0, v, r0, r => by
  simp only [Rep] at r0 r ⊢
  obtain ⟨b0, off0, _, _, _, r0⟩ := r0
  obtain ⟨b, off, e2, hb, hx, r⟩ := r
  exact ⟨b, off, e2, by rw [h.w]; exact hb, fun k => hx (h.X b k), eldC_rep h b0 b cs off0 off r0 r⟩
 | .op id off, v0, v, r0, r => by
  simp only [Rep] at r0 r ⊢
  obtain ⟨p0, e0, _⟩ := r0
  obtain ⟨p, e1, e2, e3⟩ := r
  exact ⟨p, h.E id p0 p e0 e1, e2, e3⟩
 | .oe id g i off, v0, v, r0, r => by
  simp only [Rep] at r0 r ⊢
  obtain ⟨_, p0, e0, _⟩ := r0
  obtain ⟨hg, p, e1, e2⟩ := r
  exact ⟨hg, p, h.E id p0 p e0 e1, e2⟩
 | .os id g sz off len, v0, v, r0, r => by
  simp only [Rep] at r0 r ⊢
  obtain ⟨_, p0, e0, _⟩ := r0
  obtain ⟨hg, p, e1, e2⟩ := r
  exact ⟨hg, p, h.E id p0 p e0 e1, e2⟩
 | .om id, v0, v, r0, r => by
  simp only [Rep] at r0 r ⊢
  obtain ⟨p0, e0, _⟩ := r0
  obtain ⟨p, e1, e2, e3⟩ := r
  exact ⟨p, h.E id p0 p e0 e1, e2, e3⟩
 | .fn f cs, v0, v, r0, r => by
  simp only [Rep] at r0 r ⊢
  obtain ⟨_, _, _, _, r0⟩ := r0
  obtain ⟨g, vs, e1, e2, r⟩ := r
  exact ⟨g, vs, e1, by rw [h.nm]; exact e2, eldL_rep h cs _ _ r0 r⟩
 | .lbx cs, v0, v, r0, r => by simp [Rep] at r
theorem eldL_rep {c0 c c' : RC} (h : Eld c0 c c') : ∀ (l : List AV) (vs0 vs : List Value), RepL c0 l vs0 → RepL c l vs → RepL c' l vs
 | [], vs0, vs, r0, r => by simpa [RepL] using r
 | x :: l, vs0, vs, r0, r => by
  simp only [RepL] at r0 r ⊢
  obtain ⟨v0, us0, _, r01, r02⟩ := r0
  obtain ⟨v, us, e, r1, r2⟩ := r
  exact ⟨v, us, e, eld_rep h x _ _ r01 r1, eldL_rep h l _ _ r02 r2⟩
theorem eldM_rep {c0 c c' : RC} (h : Eld c0 c c') : ∀ (l : List (AV × AV)) (es0 es : List MapEntry), RepM c0 l es0 → RepM c l es → RepM c' l es
 | [], es0, es, r0, r => by simpa [RepM] using r
 | (k, v) :: l, es0, es, r0, r => by
  simp only [RepM] at r0 r ⊢
  obtain ⟨e0, es0', _, k1, k2, k3⟩ := r0
  obtain ⟨e, es', e1, j1, j2, j3⟩ := r
  exact ⟨e, es', e1, eld_rep h k _ _ k1 j1, eld_rep h v _ _ k2 j2, eldM_rep h l es0' es' k3 j3⟩
theorem eldC_rep {c0 c c' : RC} (h : Eld c0 c c') (b0 b : Nat) : ∀ (l : List AV) (off0 off : Nat), RepCs c0 b0 off0 l → RepCs c b off l → RepCs c' b off l
 | [], off0, off, r0, r => by simp [RepCs]
 | x :: l, off0, off, r0, r => by
  simp only [RepCs] at r0 r ⊢
  obtain ⟨⟨v0, _, _, r01⟩, r02⟩ := r0
  obtain ⟨⟨v, e1, e2, r1⟩, r2⟩ := r
  exact ⟨⟨v, by rw [h.w]; exact e1, e2, eld_rep h x _ _ r01 r1⟩, eldC_rep h b0 b l _ _ r02 r2⟩
theorem eldE_rep {c0 c c' : RC} (h : Eld c0 c c') (sz b0 b : Nat) : ∀ (l : List (List AV)) (off0 off : Nat), RepEs c0 sz b0 off0 l → RepEs c sz b off l → RepEs c' sz b off l
 | [], off0, off, r0, r => by simp [RepEs]
 | x :: l, off0, off, r0, r => by
  simp only [RepEs] at r0 r ⊢
  exact ⟨r.1, eldC_rep h b0 b x _ _ r0.2.1 r.2.1, eldE_rep h sz b0 b l _ _ r0.2.2 r.2.2⟩
end
theorem eldB_rep {c0 c c' : RC} (h : Eld c0 c c') {p0 p : Pl} {x : Blk} (k0 : BlkAt c0 p0 x) (k : BlkAt c p x) : BlkAt c' p x := by
 cases x with
 | box cs =>
  obtain ⟨h1, ⟨⟨arr, t, h2, h3⟩, h4⟩⟩ := k
  exact ⟨h1, ⟨arr, t, by rw [h.w]; exact h2, h3⟩, eldC_rep h _ _ cs _ _ k0.2.2 h4⟩
 | arr g sz es =>
  obtain ⟨h1, h2, h3, h4, ⟨arr, t, h5, h6⟩, h7, h8, h9⟩ := k
  obtain ⟨_, _, _, _, _, _, k8, _⟩ := k0
  exact ⟨h1, h2, h3, h4, ⟨arr, t, by rw [h.w]; exact h5, h6⟩, h7, eldE_rep h sz _ _ es _ _ k8 h8, fun arr t fz e => h9 arr t fz (by rw [← h.w]; exact e)⟩
 | arrF g sz es =>
  obtain ⟨h1, h2, h3, h4, ⟨arr, t, h5, h6⟩, h7, h8, h9⟩ := k
  obtain ⟨_, _, _, _, _, _, k8, _⟩ := k0
  exact ⟨h1, h2, h3, h4, ⟨arr, t, by rw [h.w]; exact h5, h6⟩, h7, eldE_rep h sz _ _ es _ _ k8 h8, fun arr t fz e => h9 arr t fz (by rw [← h.w]; exact e)⟩
 | map es =>
  obtain ⟨h1, ents, clock, h2, hw, h3⟩ := k
  obtain ⟨_, _, _, _, _, k3⟩ := k0
  exact ⟨h1, ents, clock, by rw [h.w]; exact h2, hw, eldM_rep h es _ _ k3 h3⟩
 | it cur left =>
  obtain ⟨h1, h2⟩ := k
  obtain ⟨_, k2⟩ := k0
  refine ⟨h1, ?_⟩
  rcases h2 with ⟨h2, h2', since, seen, last, h3⟩ | ⟨m, seen, ents, clock, h3, h4, h5, h6, h7, h8, h9⟩
  ·exact .inl ⟨h2, h2', since, seen, last, by rw [h.w]; exact h3⟩
  ·rcases k2 with ⟨q1, q2, _⟩ | ⟨m0, seen0, ents0, clock0, q3, q4, q5, q6, q7, q8, q9⟩
   ·refine .inr ⟨m, seen, ents, clock, by rw [h.w]; exact h3, by rw [h.w]; exact h4, fun k => h5 (h.X m k), by rw [h.w]; exact h6, h7, by rw [q2] at h8 ⊢; exact h8, .inl q1⟩
   ·refine .inr ⟨m, seen, ents, clock, by rw [h.w]; exact h3, by rw [h.w]; exact h4, fun k => h5 (h.X m k), by rw [h.w]; exact h6, h7, (by obtain ⟨l0, q8, _⟩ := q8; obtain ⟨l, h8, hp⟩ := h8; exact ⟨l, eldM_rep h left _ _ q8 h8, hp⟩), ?_⟩
    rcases h9 with h9 | ⟨kk, v, e, e1, e2, e3, e4, e5⟩
    ·exact .inl h9
    ·rcases q9 with q9 | ⟨kk', v', e', f1, f2, f3, f4, f5⟩
     ·exact .inl q9
     ·rw [e1] at f1
      simp only [List.cons.injEq, Prod.mk.injEq, and_true] at f1
      obtain ⟨rfl, rfl⟩ := f1
      exact .inr ⟨_, _, e, e1, e2, e3, eld_rep h _ _ _ f4 e4, eld_rep h _ _ _ f5 e5⟩
def genB : Blk → Nat
 | .arr g _ _ => g
 | .arrF g _ _ => g
 | _ => 0
theorem blk_gen {c : RC} {p : Pl} {x : Blk} (k : BlkAt c p x) : p.g = genB x := by cases x <;> exact k.1
theorem eldRows {c0 c c' : RC} (h : Eld c0 c c') (sz b : Nat) : ∀ (l : List (List AV)) (off : Nat), (∀ y ∈ l, ∃ b0 o0, RepCs c0 b0 o0 y) → RepEs c sz b off l → RepEs c' sz b off l
 | [], off, h0, r => by simp [RepEs]
 | x :: l, off, h0, r => by
  simp only [RepEs] at r ⊢
  obtain ⟨b0, o0, k⟩ := h0 x (by simp)
  exact ⟨r.1, eldC_rep h b0 b x _ _ k r.2.1, eldRows h sz b l _ (fun y hy => h0 y (by simp [hy])) r.2.2⟩
theorem rows_rep {c : RC} : ∀ {args : List AV} {vs : List Value}, RepL c args vs → ∀ y ∈ A.rowsOf args, ∃ b0 o0, RepCs c b0 o0 y
 | [], _, _, y, hy => by simp [A.rowsOf] at hy
 | a :: args, vs, h, y, hy => by
  simp only [RepL] at h
  obtain ⟨v, vs', rfl, h1, h2⟩ := h
  simp only [A.rowsOf, List.mem_append] at hy
  rcases hy with hy | hy
  ·cases a <;> simp only [List.not_mem_nil] at hy
   rename_i sz es
   simp only [Rep] at h1
   obtain ⟨a, cap, rfl, _, _, h3⟩ := h1
   rcases h3 with h3 | ⟨b, off, _, _, _, h4⟩
   ·rw [h3] at hy; cases hy
   ·obtain ⟨i, hi⟩ := List.mem_iff_getElem?.1 hy
    exact ⟨_, _, (RepEs.nth h4 hi).2⟩
  ·exact rows_rep h2 y hy
theorem frz_all (h : Cold c c' σ n) : ∀ (d : Nat) (av av' : AV) (v : Value), A.frz σ n d av = some av' → Rep c av v → Rep c' av' v
 | 0 => frz_rep h 0 (fun av av' v ho e r => by cases av <;> first | (simp [A.frz] at e; done) | (simp [isOwn] at ho; done))
 | d + 1 => frz_rep h (d + 1) (fun av av' v ho e r => match av, ho, e, r with
  | .op id off, _, e, r => by
   simp only [A.frz] at e
   simp only [Rep] at r
   obtain ⟨p, h1, h2, rfl⟩ := r
   split at e
   ·rename_i hlt
    injection e with e; subst e
    simp only [Rep]
    exact ⟨p, h.E id p hlt h1, h2, rfl⟩
   ·rename_i hge
    split at e
    ·rename_i cs hs
     obtain ⟨cs', e1, rfl⟩ := Option.map_eq_some_iff.1 e
     rw [frzL_eq] at e1
     obtain ⟨j1, ⟨⟨arr, t, j2, j3⟩, j4⟩⟩ := h.heap.blk id p _ h1 hs
     simp only [Rep]
     refine ⟨p.b, off, rfl, by rw [h.w]; exact (Array.getElem?_eq_some_iff.1 j2).1, h.cold id p (by omega) h1, ?_⟩
     have j5 := j4.drop off
     rw [Nat.zero_add] at j5
     exact frzC_rep h d (fun av av' v _ e r => frz_all h d _ _ _ e r) p.b _ cs' _ e1 j5
    ·cases e
  | .oe id g i off, _, e, r => by
   simp only [A.frz] at e
   simp only [Rep] at r
   obtain ⟨hg, p, h1, h2, a, rfl, h3⟩ := r
   split at e
   ·rename_i hlt
    injection e with e; subst e
    simp only [Rep]
    exact ⟨hg, p, h.E id p hlt h1, h2, a, rfl, h3⟩
   ·rename_i hge
    split at e
    ·rename_i g' sz' es hs
     split at e
     ·rename_i hc
      subst hc
      split at e
      ·rename_i el hel
       obtain ⟨cs', e1, rfl⟩ := Option.map_eq_some_iff.1 e
       rw [frzL_eq] at e1
       obtain ⟨j1, j2, j3, j4, ⟨arr, bt, j5, j6⟩, j7, j8, j9⟩ := h.heap.blk id p _ h1 hs
       have ha := h3 j1.symm
       subst ha
       simp only [Rep]
       refine ⟨p.b, _, rfl, by rw [h.w]; exact (Array.getElem?_eq_some_iff.1 j5).1, h.cold id p (by omega) h1, ?_⟩
       rw [j3]
       have j9 := (j8.nth hel).2.drop off
       exact frzC_rep h d (fun av av' v _ e r => frz_all h d _ _ _ e r) p.b _ cs' _ e1 j9
      ·cases e
     ·cases e
    ·cases e
  | .om id, _, e, r => by
   simp only [A.frz] at e
   simp only [Rep] at r
   obtain ⟨p, h1, h2, rfl⟩ := r
   split at e
   ·rename_i hlt
    injection e with e; subst e
    simp only [Rep]
    exact ⟨p, h.E id p hlt h1, h2, rfl⟩
   ·rename_i hge
    split at e
    ·rename_i es hs
     obtain ⟨es', e1, rfl⟩ := Option.map_eq_some_iff.1 e
     rw [frzM_eq] at e1
     obtain ⟨j1, ents, clock, j2, jw, j3⟩ := h.heap.blk id p _ h1 hs
     simp only [Rep]
     exact ⟨p.b, rfl, by rw [h.w]; exact (Array.getElem?_eq_some_iff.1 j2).1, h.cold id p (by omega) h1, ents, clock, by rw [h.w]; exact j2, jw, _, frzM_rep h d (fun av av' v _ e r => frz_all h d _ _ _ e r) _ es' _ e1 j3, .inl rfl⟩
    ·cases e
  | .os id g sz off len, _, e, r => by
   simp only [A.frz] at e
   simp only [Rep] at r
   obtain ⟨hg, p, h1, h2, q, cap, rfl, h3, r⟩ := r
   split at e
   ·rename_i hlt
    injection e with e; subst e
    simp only [Rep]
    exact ⟨hg, p, h.E id p hlt h1, h2, q, cap, rfl, h3, r⟩
   ·rename_i hge
    split at e
    ·rename_i g' sz' es hs
     split at e
     ·rename_i hc
      obtain ⟨rfl, rfl, hle⟩ := hc
      obtain ⟨es', e1, rfl⟩ := Option.map_eq_some_iff.1 e
      rw [frzLL_eq] at e1
      obtain ⟨j1, j2, j3, j4, ⟨arr, bt, j5, j6⟩, j7, j8, j9⟩ := h.heap.blk id p _ h1 hs
      obtain ⟨k1, k2, k3⟩ := r j1.symm
      have hl := frzLL_len d _ _ e1
      have hl2 : ((es.drop off).take len).length = len := by simp; omega
      simp only [Rep]
      refine ⟨some q, cap, by rw [hl, hl2], by rw [hl, hl2]; exact h3, j4, ?_⟩
      by_cases hz : len = 0
      ·left; apply List.eq_nil_of_length_eq_zero; rw [hl, hl2, hz]
      ·right
       have hq : q = ⟨p.b, p.base + off * p.sz, none⟩ := by
        rcases k2 with k2 | k2
        ·omega
        ·exact k2
       refine ⟨p.b, p.base + off * p.sz, by rw [hq], by rw [h.w]; exact (Array.getElem?_eq_some_iff.1 j5).1, h.cold id p (by omega) h1, ?_⟩
       refine frzE_rep h d (fun av av' v _ e r => frz_all h d _ _ _ e r) sz p.b _ es' _ e1 ?_
       rw [j3]
       exact (j8.drop off).take len
     ·cases e
    ·cases e)
end
section
variable {c c' : RC} {σ : Heap} {n : Nat}
theorem perm_rep2 {es es' : List (AV × AV)} (hp : es.Perm es') : ∀ {l : List MapEntry}, RepM c es l → ∃ l', RepM c es' l' ∧ l'.Perm l := by
 induction hp with
 | nil => intro l h; exact ⟨l, h, .refl _⟩
 | cons x _ ih =>
  intro l h
  obtain ⟨e, l1, rfl, h2, h3, h4⟩ := h
  obtain ⟨l', k1, k2⟩ := ih h4
  exact ⟨e :: l', ⟨_, _, rfl, h2, h3, k1⟩, k2.cons e⟩
 | swap x y l0 =>
  intro l h
  obtain ⟨e, l1, rfl, h2, h3, e', l2, rfl, h4, h5, h6⟩ := h
  exact ⟨e' :: e :: l2, ⟨_, _, rfl, h4, h5, _, _, rfl, h2, h3, h6⟩, .swap _ _ _⟩
 | trans _ _ ih1 ih2 =>
  intro l h
  obtain ⟨l1, k1, k2⟩ := ih1 h
  obtain ⟨l2, k3, k4⟩ := ih2 k1
  exact ⟨l2, k3, k4.trans k2⟩
theorem canM_spec (es : List (AV × AV)) : (A.canM es).Perm es := Classical.choose_spec (p := fun l : List (AV × AV) => l.Perm es) ⟨es, .refl _⟩
theorem can_rep {x : AV} {v : Value} (r : Rep c x v) : Rep c (A.can x) v := by
 cases x <;> try exact r
 case fm es =>
  unfold A.can
  simp only
  split
  ·rename_i hd
   simp only [Rep] at r ⊢
   obtain ⟨b, e, hb, hx, ents, clock, k1, kw, l, k2, k3⟩ := r
   have hp := canM_spec es
   obtain ⟨l', j1, j2⟩ := perm_rep2 hp.symm k2
   refine ⟨b, e, hb, hx, ents, clock, k1, kw, l', j1, .inr ⟨?_, ?_⟩⟩
   ·rcases k3 with rfl | ⟨k3, _⟩
    ·exact j2
    ·exact j2.trans k3
   ·exact ⟨fun p hp' => hd.1 p (hp.mem_iff.1 hp'), (hp.map _).nodup_iff.2 hd.2⟩
  ·exact r
theorem canCs_rep {b : Nat} : ∀ {l : List AV} {off : Nat}, RepCs c b off l → RepCs c b off (l.map A.can)
 | [], off, _ => by simp [RepCs]
 | x :: l, off, r => by
  simp only [List.map_cons, RepCs] at r ⊢
  obtain ⟨⟨v, h1, h2, h3⟩, h4⟩ := r
  exact ⟨⟨v, h1, h2, can_rep h3⟩, canCs_rep h4⟩
theorem canEs_rep {sz b : Nat} : ∀ {l : List (List AV)} {off : Nat}, RepEs c sz b off l → RepEs c sz b off (l.map (·.map A.can))
 | [], off, _ => by simp [RepEs]
 | x :: l, off, r => by
  simp only [List.map_cons, RepEs, List.length_map] at r ⊢
  exact ⟨r.1, canCs_rep r.2.1, canEs_rep r.2.2⟩
theorem frzB_rep (h : Cold c c' σ n) {p : Pl} {x x' : Blk} (e : A.frzB σ n x = some x') (k : BlkAt c p x) : BlkAt c' p x' := by
 have hos : ∀ av av' v, isOwn av = true → A.frz σ n 8 av = some av' → Rep c av v → Rep c' av' v := fun av av' v _ e r => frz_all h 8 _ _ _ e r
 cases x with
 | box cs =>
  obtain ⟨cs', e1, rfl⟩ := Option.map_eq_some_iff.1 e
  obtain ⟨h1, ⟨⟨arr, t, h2, h3⟩, h4⟩⟩ := k
  exact ⟨h1, ⟨arr, t, by rw [h.w]; exact h2, by rw [List.length_map, frzL_len 8 _ _ e1]; exact h3⟩, canCs_rep (frzC_rep h 8 hos _ _ _ _ e1 h4)⟩
 | arr g sz es =>
  obtain ⟨es', e1, rfl⟩ := Option.map_eq_some_iff.1 e
  obtain ⟨h1, h2, h3, h4, ⟨arr, t, h5, h6⟩, h7, h8, h9⟩ := k
  exact ⟨h1, h2, h3, h4, ⟨arr, t, by rw [h.w]; exact h5, h6⟩, by rw [List.length_map, frzLL_len 8 _ _ e1]; exact h7, canEs_rep (frzE_rep h 8 hos _ _ _ _ _ e1 h8), fun arr t fz e => h9 arr t fz (by rw [← h.w]; exact e)⟩
 | arrF g sz es =>
  obtain ⟨es', e1, rfl⟩ := Option.map_eq_some_iff.1 e
  obtain ⟨h1, h2, h3, h4, ⟨arr, t, h5, h6⟩, h7, h8, h9⟩ := k
  exact ⟨h1, h2, h3, h4, ⟨arr, t, by rw [h.w]; exact h5, h6⟩, by rw [List.length_map, frzLL_len 8 _ _ e1]; exact h7, canEs_rep (frzE_rep h 8 hos _ _ _ _ _ e1 h8), fun arr t fz e => h9 arr t fz (by rw [← h.w]; exact e)⟩
 | map es =>
  obtain ⟨es', e1, rfl⟩ := Option.map_eq_some_iff.1 e
  obtain ⟨h1, ents, clock, h2, hwf, h3⟩ := k
  exact ⟨h1, ents, clock, by rw [h.w]; exact h2, hwf, frzM_rep h 8 hos _ _ _ e1 h3⟩
 | it cur left => cases e
theorem frzBs_nth {n : Nat} : ∀ {τ0 τ1 τ : Heap}, A.frzBs σ n τ0 τ1 = some τ → τ.length = τ0.length ∧ τ0.length ≤ τ1.length ∧ ∀ (i : Nat) x, τ[i]? = some x → ∃ b b', τ0[i]? = some b ∧ τ1[i]? = some b' ∧ ((b' = b ∧ x = b) ∨ A.frzB σ n b' = some x)
 | [], τ1, τ, h => by simp only [A.frzBs] at h; injection h with h; subst h; simp
 | _ :: _, [], τ, h => by simp [A.frzBs] at h
 | b :: r, b' :: r', τ, h => by
  simp only [A.frzBs] at h
  obtain ⟨y, h1, h2⟩ := Option.bind_eq_some_iff.1 h
  obtain ⟨τ', h3, rfl⟩ := Option.map_eq_some_iff.1 h2
  obtain ⟨k1, k2, k3⟩ := frzBs_nth h3
  refine ⟨by simp [k1], by simp; omega, fun i x hi => ?_⟩
  cases i with
  | zero =>
   simp only [List.getElem?_cons_zero, Option.some.injEq] at hi
   subst hi
   refine ⟨b, b', rfl, rfl, ?_⟩
   split at h1
   ·rename_i e
    injection h1 with h1
    exact .inl ⟨e, h1.symm⟩
   ·exact .inr h1
  | succ i => exact k3 i x hi
end
section
variable {X : Fx}
def Back.Ok : Back → Prop
 | .N g => ∀ c a v, Rep c a v → Rep c (g a) v
 | _ => True
theorem runA_sound (hs : Snd X) {f : FuncId} {fn : Func} {keep : Back} (hkeep : keep.Ok) {ann : Ann} {args : List AV} {σ σ' : Heap} {r : AV} (hf : X.P.funcs[f]? = some fn) (hcall : ∀ aas w, (callFunc f aas).run X.P w = .ok (.enter f aas) w)
  (hr : runA X keep ann fn args σ = some (r, σ')) : ACalls X.P X.nm f args σ r σ' := by
 refine .inl ⟨f, hcall, fun z vs hnm hlt hh ha => ?_⟩
 unfold runA at hr
 cases hb : fn.body with
 | none => rw [hb] at hr; cases hr
 | some c =>
  rw [hb] at hr
  simp only at hr
  cases hc : (Nat.ble args.length fn.ntmps && X.n == fn.ntmps)
  ·rw [hc] at hr; cases hr
  ·rw [hc] at hr
   simp only [Bool.not_true, cond_false] at hr
   simp only [Bool.and_eq_true, beq_iff_eq] at hc
   obtain ⟨hc1, hc2⟩ := hc
   have hle : args.length ≤ fn.ntmps := Nat.le_of_ble_eq_true hc1
   have hal := ha.length
   have hal' : args.length = vs.size := by simpa using hal
   have hst : St X z ⟨args ++ List.replicate (fn.ntmps - args.length) (.tup []), fun _ => none, σ⟩ { tmps := vs ++ Array.replicate (fn.ntmps - vs.size) undef, defers := [] } z.w z.E nopb := by
    have hslot : ∀ i av, (args ++ List.replicate (fn.ntmps - args.length) (.tup []))[i]? = some av → Rep (ctx z z.w z.E nopb) av ((vs ++ Array.replicate (fn.ntmps - vs.size) undef).getD i undef) := by
     intro i av hi
     by_cases hlt' : i < args.length
     ·rw [List.getElem?_append_left hlt'] at hi
      obtain ⟨v, k1, k2⟩ := ha.nth hi
      have : (vs ++ Array.replicate (fn.ntmps - vs.size) undef).getD i undef = v := by
       rw [Array.getD_eq_getD_getElem?, Array.getElem?_append_left (by omega), ← Array.getElem?_toList, k1]; rfl
      rw [this]; exact k2
     ·rw [List.getElem?_append_right (by omega)] at hi
      have hm := List.mem_of_getElem? hi
      rw [List.mem_replicate] at hm
      rw [hm.2]
      have : (vs ++ Array.replicate (fn.ntmps - vs.size) undef).getD i undef = undef := by
       rw [Array.getD_eq_getD_getElem?, Array.getElem?_append_right (by omega), Array.getElem?_replicate]
       split <;> rfl
      rw [this]
      simp only [Rep]; exact ⟨#[], rfl, by simp [RepL]⟩
    refine ⟨by simp; omega, by simp; omega, fun i av hi => Slot.of (hslot i av hi), fun i cs hi => ?_, (fun t p hp => by cases hp), (fun i b hb => by cases hb), (fun i j b hb => by cases hb), hh, rfl, ?_, hnm.symm⟩
    ·have := hslot i _ hi; simp [Rep] at this
    ·exact ⟨rfl, rfl, rfl, Nat.le_refl _, fun _ _ _ => rfl, fun i p hp => .inr ⟨p, hp, rfl⟩, fun i p hp => ⟨p, hp, .inl rfl⟩, hlt, fun p hp => hh.lt hp⟩
   refine calls_of_wp hf hb (exec_wp hs c ann _ _ _ _ _ _ _ _ hr hst fun e s' a' w' E' pb' h' _ hk => ?_)
   have hno : Ext (ctx z w' E' pb') (ctx z w' E' nopb) := Ext.same rfl rfl (fun b k => by
    rcases k with k | k | ⟨i, k⟩
    ·exact .inl k
    ·exact .inr (.inl k)
    ·cases k) rfl
   have finF : ∀ (x : AV) (v : Value) (r : AV) (σ' : Heap), Rep (ctx z w' E' pb') x v → A.fin σ x s'.σ = some (r, σ') → ∃ E'', Out z w' E'' ∧ HeapRel (ctx z w' E'' nopb) σ' ∧ Rep (ctx z w' E'' nopb) r v := by
     intro x v r σ' rv k3
     unfold A.fin at k3
     split at k3
     ·rename_i he
      simp only [Option.some.injEq, Prod.mk.injEq] at k3
      obtain ⟨rfl, rfl⟩ := k3
      exact ⟨E', h'.out, by rw [← he]; exact h'.heap.mono hno rfl (fun p hp => rfl), Rep.mono hno _ _ rv⟩
     ·split at k3
      ·rename_i he
       obtain ⟨r', k6, k7⟩ := Option.map_eq_some_iff.1 k3
       simp only [Prod.mk.injEq] at k7
       obtain ⟨rfl, rfl⟩ := k7
       have hlen := h'.heap.len
       simp only [ctx] at hlen
       have hzl : z.E.length = σ.length := hh.len
       have hle2 : σ.length ≤ s'.σ.length := by
        have := congrArg List.length he
        simp at this; omega
       have htk : ∀ (id : Nat) (p : Pl), id < σ.length → E'[id]? = some p → (E'.take σ.length)[id]? = some p := fun id p hlt' hp => by rw [List.getElem?_take_of_lt hlt']; exact hp
       have htk2 : ∀ (id : Nat) (p : Pl), (E'.take σ.length)[id]? = some p → id < σ.length ∧ E'[id]? = some p := fun id p hp => by
        rw [List.getElem?_take] at hp
        split at hp
        ·exact ⟨by assumption, hp⟩
        ·cases hp
       have hcold : Cold (ctx z w' E' pb') (ctx z w' (E'.take σ.length) nopb) s'.σ σ.length := by
        refine ⟨rfl, rfl, fun b k => ?_, htk, h'.heap, fun id p hge hp k => ?_⟩
        ·rcases k with k | ⟨p, hp, k⟩ | ⟨i, k⟩
         ·exact .inl k
         ·exact .inr (.inl ⟨p, List.mem_of_mem_take hp, k⟩)
         ·cases k
        ·rcases k with k | ⟨q, hq, k⟩ | ⟨i, k⟩
         ·have hb := hlt _ k
          rcases h'.out.fresh' id p hp with e | ⟨q, hq, _⟩
          ·omega
          ·rw [List.getElem?_eq_none (by omega)] at hq; cases hq
         ·obtain ⟨j, hj, rfl⟩ := List.mem_iff_getElem.1 hq
          obtain ⟨h1, h2⟩ := htk2 j _ (List.getElem?_eq_getElem hj)
          have := h'.heap.inj j id _ p h2 hp k
          omega
         ·cases k
       have heq : ∀ (id : Nat), id < σ.length → σ[id]? = s'.σ[id]? := fun id hlt' => by
        have h1 : (List.take σ.length s'.σ)[id]? = s'.σ[id]? := List.getElem?_take_of_lt hlt'
        rw [he] at h1; exact h1
       have held : Eld (ctx z z.w z.E nopb) (ctx z w' E' pb') (ctx z w' (E'.take σ.length) nopb) :=
        ⟨rfl, rfl, hcold.X, fun id p0 p e0 e1 => htk id p (by have := (List.getElem?_eq_some_iff.1 e0).1; simp only [ctx] at this; omega) e1⟩
       refine ⟨E'.take σ.length, ?_, ?_, frz_all hcold 8 _ _ _ k6 rv⟩
       ·have o := h'.out
        exact ⟨o.os, o.tape, o.output, o.size, o.stay, fun i p hp => o.fresh' i p (htk2 i p hp).2, fun i p hp => by
         obtain ⟨p', m1, m2⟩ := o.env i p hp
         exact ⟨p', htk i p' (by have := (List.getElem?_eq_some_iff.1 hp).1; omega) m1, m2⟩, o.lt, o.mine⟩
       ·refine ⟨by simp only [ctx, List.length_take]; omega, fun i j p q hp hq e => h'.heap.inj i j p q (htk2 i p hp).2 (htk2 j q hq).2 e, fun i p x hp hx => ?_⟩
        obtain ⟨hi, hp2⟩ := htk2 i p hp
        have hz0 : z.E[i]? = some z.E[i] := List.getElem?_eq_getElem (by omega)
        exact eldB_rep held (hh.blk i _ x hz0 hx) (h'.heap.blk i p x hp2 (by rw [← heq i hi]; exact hx))
      ·cases k3
   have finG : ∀ (x : AV) (v : Value) (r : AV) (σ' : Heap), Rep (ctx z w' E' pb') x v → A.finG σ x s'.σ = some (r, σ') → ∃ E'', Out z w' E'' ∧ HeapRel (ctx z w' E'' nopb) σ' ∧ Rep (ctx z w' E'' nopb) r v := by
     intro x v r σ' rv k3
     unfold A.finG at k3
     obtain ⟨τ, q0, k4⟩ := Option.bind_eq_some_iff.1 k3
     obtain ⟨r', k6, k7⟩ := Option.map_eq_some_iff.1 k4
     simp only [Prod.mk.injEq] at k7
     obtain ⟨rfl, rfl⟩ := k7
     obtain ⟨q1, hle2, q3⟩ := frzBs_nth q0
     have hlen := h'.heap.len
     simp only [ctx] at hlen
     have hzl : z.E.length = σ.length := hh.len
     have htk : ∀ (id : Nat) (p : Pl), id < σ.length → E'[id]? = some p → (E'.take σ.length)[id]? = some p := fun id p hlt' hp => by rw [List.getElem?_take_of_lt hlt']; exact hp
     have htk2 : ∀ (id : Nat) (p : Pl), (E'.take σ.length)[id]? = some p → id < σ.length ∧ E'[id]? = some p := fun id p hp => by
      rw [List.getElem?_take] at hp
      split at hp
      ·exact ⟨by assumption, hp⟩
      ·cases hp
     have hcold : Cold (ctx z w' E' pb') (ctx z w' (E'.take σ.length) nopb) s'.σ σ.length := by
      refine ⟨rfl, rfl, fun b k => ?_, htk, h'.heap, fun id p hge hp k => ?_⟩
      ·rcases k with k | ⟨p, hp, k⟩ | ⟨i, k⟩
       ·exact .inl k
       ·exact .inr (.inl ⟨p, List.mem_of_mem_take hp, k⟩)
       ·cases k
      ·rcases k with k | ⟨q, hq, k⟩ | ⟨i, k⟩
       ·have hb := hlt _ k
        rcases h'.out.fresh' id p hp with e | ⟨q, hq, _⟩
        ·omega
        ·rw [List.getElem?_eq_none (by omega)] at hq; cases hq
       ·obtain ⟨j, hj, rfl⟩ := List.mem_iff_getElem.1 hq
        obtain ⟨h1, h2⟩ := htk2 j _ (List.getElem?_eq_getElem hj)
        have := h'.heap.inj j id _ p h2 hp k
        omega
       ·cases k
     have held : Eld (ctx z z.w z.E nopb) (ctx z w' E' pb') (ctx z w' (E'.take σ.length) nopb) :=
      ⟨rfl, rfl, hcold.X, fun id p0 p e0 e1 => htk id p (by have := (List.getElem?_eq_some_iff.1 e0).1; simp only [ctx] at this; omega) e1⟩
     refine ⟨E'.take σ.length, ?_, ?_, frz_all hcold 8 _ _ _ k6 rv⟩
     ·have o := h'.out
      exact ⟨o.os, o.tape, o.output, o.size, o.stay, fun i p hp => o.fresh' i p (htk2 i p hp).2, fun i p hp => by
       obtain ⟨p', m1, m2⟩ := o.env i p hp
       exact ⟨p', htk i p' (by have := (List.getElem?_eq_some_iff.1 hp).1; omega) m1, m2⟩, o.lt, o.mine⟩
     ·refine ⟨by simp only [ctx, List.length_take]; omega, fun i j p q hp hq e => h'.heap.inj i j p q (htk2 i p hp).2 (htk2 j q hq).2 e, fun i p x hp hx => ?_⟩
      obtain ⟨hi, hp2⟩ := htk2 i p hp
      obtain ⟨b, b', m1, m2, m3⟩ := q3 i x hx
      rcases m3 with ⟨rfl, rfl⟩ | m3
      ·have hz0 : z.E[i]? = some z.E[i] := List.getElem?_eq_getElem (by omega)
       exact eldB_rep held (hh.blk i _ x hz0 m1) (h'.heap.blk i p x hp2 m2)
      ·exact frzB_rep hcold m3 (h'.heap.blk i p b' hp2 m2)
   have done : ∀ (hk : resA X s' fn.results.toList (fun vs => keep.run args σ (one vs) s'.σ) = some (r, σ')),
     a'.defers = [] ∧ ∃ v, (results fn a'.tmps).run X.P w' = .ok v w' ∧ ∃ v' E', Ending.returned v = .returned v' ∧ Out z w' E' ∧ HeapRel (ctx z w' E' nopb) σ' ∧ Rep (ctx z w' E' nopb) r v' := by
    intro hk
    refine ⟨h'.defers, ?_⟩
    obtain ⟨us, avs, k1, k2, k3⟩ := resA_run h' _ _ _ hk
    obtain ⟨v, k4, k5⟩ := results_run k1
    have rv := k5 _ _ k2
    refine ⟨v, k4, v, ?_⟩
    have kept : ∃ E', Ending.returned v = .returned v ∧ Out z w' E' ∧ HeapRel (ctx z w' E' nopb) s'.σ ∧ Rep (ctx z w' E' nopb) (one avs) v :=
     ⟨E', rfl, h'.out, h'.heap.mono hno rfl (fun p hp => rfl), Rep.mono hno _ _ rv⟩
    cases keep with
    | K =>
     simp only [Back.run, Option.some.injEq, Prod.mk.injEq] at k3
     obtain ⟨rfl, rfl⟩ := k3
     exact kept
    | F =>
     obtain ⟨E'', q1, q2, q3⟩ := finF _ _ _ _ rv k3
     exact ⟨E'', rfl, q1, q2, q3⟩
    | G =>
     obtain ⟨E'', q1, q2, q3⟩ := finG _ _ _ _ rv k3
     exact ⟨E'', rfl, q1, q2, q3⟩
    | N g =>
     simp only [Back.run] at k3
     obtain ⟨⟨r0, σ0⟩, k6, k7⟩ := Option.map_eq_some_iff.1 k3
     simp only [Prod.mk.injEq] at k7
     obtain ⟨rfl, rfl⟩ := k7
     obtain ⟨E'', q1, q2, q3⟩ := finF _ _ _ _ rv k6
     exact ⟨E'', rfl, q1, q2, hkeep _ _ _ q3⟩
    | R =>
     simp only [Back.run] at k3
     obtain ⟨x, hx⟩ : ∃ x, x = one avs := ⟨_, rfl⟩
     rw [← hx] at rv k3 kept
     unfold A.renew at k3
     split at k3
     ·rename_i id g sz off len
      split at k3
      ·rename_i g' sz' es hs'
       split at k3
       ·rename_i hc
        obtain ⟨rfl, rfl, hle, hlt2⟩ := hc
        simp only [Rep] at rv
        obtain ⟨hg, p, e1, e2, qa, cp, rfl, hcap, rx⟩ := rv
        obtain ⟨j1, j2, j3, j4, ⟨arr, bt, j5, j6⟩, j7, j8, j9⟩ := h'.heap.blk id p _ e1 hs'
        obtain ⟨q1, q2, q3⟩ := rx j1.symm
        have hid : id < E'.length := (List.getElem?_eq_some_iff.1 e1).1
        have hdl : ((es.drop off).take len).length = len := by simp; omega
        have hmul : (off + len) * sz ≤ es.length * sz := Nat.mul_le_mul_right _ hle
        rw [Nat.add_mul] at hmul
        split at k3
        ·simp only [Option.some.injEq, Prod.mk.injEq] at k3
         obtain ⟨rfl, rfl⟩ := k3
         have hmv := h'.move (id := id) (p := p) (p' := ⟨p.b, p.base + off * sz, A.gen args + 1, sz, p.csz⟩) (w' := w') (blk := .arr (A.gen args + 1) sz ((es.drop off).take len)) e1
          ⟨by omega, by show p.g < A.gen args + 1; omega⟩ rfl rfl rfl (Nat.le_refl _) (fun b _ _ => rfl) (.inl rfl) (fun hx => by
           refine ⟨rfl, by show 0 < A.gen args + 1; omega, rfl, j4, ⟨arr, bt, j5, j6⟩, ?_, ?_, j9⟩
           ·rw [hdl]; show p.base + off * sz + len * sz ≤ p.csz; omega
           ·exact RepEs.mono hx sz p.b rfl _ _ ((j8.drop off).take len))
         have hno2 : Ext (ctx z w' (E'.set id ⟨p.b, p.base + off * sz, A.gen args + 1, sz, p.csz⟩) pb') (ctx z w' (E'.set id ⟨p.b, p.base + off * sz, A.gen args + 1, sz, p.csz⟩) nopb) := Ext.same rfl rfl (fun b k => by
          rcases k with k | k | ⟨i, k⟩
          ·exact .inl k
          ·exact .inr (.inl k)
          ·cases k) rfl
         refine ⟨_, rfl, hmv.1.out, hmv.1.heap.mono hno2 rfl (fun p hp => rfl), ?_⟩
         simp only [Rep]
         refine ⟨by omega, ⟨p.b, p.base + off * sz, A.gen args + 1, sz, p.csz⟩, by simp [ctx, hid], Nat.le_refl _, qa, cp, rfl, hcap, fun _ => ⟨rfl, ?_, ?_⟩⟩
         ·rcases q2 with q2 | q2
          ·exact .inl q2
          ·exact .inr (by rw [q2, q1]; simp)
         ·simp only [Nat.zero_add]
          rw [q1, Nat.add_mul] at q3; omega
        ·unfold A.merge at k3
         split at k3
         ·rename_i id0 g0 sz00 off0 len0 rest _ _ _
          split at k3
          ·rename_i g1 sz1 es1 hs0
           split at k3
           ·rename_i hcond
            obtain ⟨hidn, hlenn, rfl, hg1, hsame, hF, hseg⟩ := hcond
            simp only [Option.some.injEq, Prod.mk.injEq] at k3
            obtain ⟨rfl, rfl⟩ := k3
            have hzl : z.E.length = σ.length := hh.len
            have hEl : E'.length = s'.σ.length := h'.heap.len
            have hid0 : id0 < σ.length := (List.getElem?_eq_some_iff.1 hs0).1
            obtain ⟨pz, hpz⟩ : ∃ pz, z.E[id0]? = some pz := ⟨_, List.getElem?_eq_getElem (by omega)⟩
            obtain ⟨y1, y2, y3, y4, y5, y6, y7, y8⟩ := hh.blk id0 pz _ hpz hs0
            obtain ⟨p'', hp''⟩ : ∃ p'' : Pl, p'' = ⟨p.b, p.base + off * sz1, A.gen (.os id0 g0 sz00 off0 len0 :: rest) + 1, sz1, p.csz⟩ := ⟨_, rfl⟩
            have hne : id ≠ id0 := by omega
            have hgen0 : ∀ (j : Nat) (q p2 : Pl), j ≠ id0 → z.E[j]? = some q → E'[j]? = some p2 → p2 = q := by
             intro j q p2 hj hq hp2
             have hjl : j < σ.length := by rw [← hzl]; exact (List.getElem?_eq_some_iff.1 hq).1
             obtain ⟨p3, m1, m2⟩ := h'.out.env j q hq
             rw [hp2] at m1; injection m1 with m1; subst m1
             rcases m2 with m2 | ⟨m2, m3⟩
             ·exact m2
             ·have hsj := hsame j hjl hj
              have hx0 : σ[j]? = some σ[j] := List.getElem?_eq_getElem hjl
              have u1 := blk_gen (hh.blk j q _ hq hx0)
              have u2 := blk_gen (h'.heap.blk j p2 _ hp2 (by rw [hsj]; exact hx0))
              omega
            have hp0 : ∃ p0, E'[id0]? = some p0 := ⟨_, List.getElem?_eq_getElem (by omega)⟩
            obtain ⟨p0, hp0⟩ := hp0
            have hp0g : p0.g = g1 := blk_gen (h'.heap.blk id0 p0 _ hp0 hF)
            have hfr : z.w.heap.size ≤ p.b := by
             rcases h'.out.fresh' id p e1 with k | ⟨q, hq, _⟩
             ·exact k
             ·rw [List.getElem?_eq_none (by omega)] at hq; cases hq
            have hm : p ∈ E' := List.mem_of_getElem? e1
            have hx : Ext (ctx z w' E' pb') (ctx z w' (E'.set id0 p'') nopb) := by
             refine ⟨Nat.le_refl _, fun b hb hn => ⟨rfl, ?_⟩, fun j q hq => ?_, rfl⟩
             ·rintro (k | ⟨q, hq, k⟩ | ⟨i, k⟩)
              ·exact hn (.inl k)
              ·rcases List.mem_or_eq_of_mem_set hq with hq | hq
               ·exact hn (.inr (.inl ⟨q, hq, k⟩))
               ·exact hn (.inr (.inl ⟨p, hm, by rw [← k, hq, hp'']⟩))
              ·cases k
             ·by_cases e : id0 = j
              ·subst e
               simp only [ctx] at hq
               rw [hp0] at hq; injection hq with hq; subst hq
               exact ⟨p'', by simp only [ctx]; rw [List.getElem?_set_self (List.getElem?_eq_some_iff.1 hp0).1], .inr ⟨by omega, by rw [hp'']; show p0.g < A.gen (.os id0 g0 sz00 off0 len0 :: rest) + 1; omega⟩⟩
              ·exact ⟨q, by simp only [ctx] at hq ⊢; rw [List.getElem?_set_ne e]; exact hq, .inl rfl⟩
            have hE2 : ∀ (j : Nat) (q : Pl), (z.E.set id0 p'')[j]? = some q → (j = id0 ∧ q = p'') ∨ (j ≠ id0 ∧ z.E[j]? = some q) := fun j q hq => by
             by_cases e : id0 = j
             ·subst e; rw [List.getElem?_set_self (List.getElem?_eq_some_iff.1 hpz).1] at hq; injection hq with hq; exact .inl ⟨rfl, hq.symm⟩
             ·rw [List.getElem?_set_ne e] at hq; exact .inr ⟨fun e' => e e'.symm, hq⟩
            have hE3 : ∀ (j : Nat) (q : Pl), j ≠ id0 → z.E[j]? = some q → E'[j]? = some q := fun j q hj hq => by
             have hjl : j < z.E.length := (List.getElem?_eq_some_iff.1 hq).1
             obtain ⟨p3, m1, _⟩ := h'.out.env j q hq
             rw [m1, hgen0 j q p3 hj hq m1]
            have held : Eld (ctx z z.w z.E nopb) (ctx z w' (E'.set id0 p'') nopb) (ctx z w' (z.E.set id0 p'') nopb) := by
             refine ⟨rfl, rfl, fun b k => ?_, fun j q0 q hq0 hq => ?_⟩
             ·rcases k with k | ⟨q, hq, k⟩ | ⟨i, k⟩
              ·exact .inl k
              ·obtain ⟨j, hj⟩ := List.mem_iff_getElem?.1 hq
               rcases hE2 j q hj with ⟨e3, e4⟩ | ⟨e3, e4⟩
               ·subst e3; exact .inr (.inl ⟨q, List.mem_of_getElem? (i := j) (by rw [List.getElem?_set_self (List.getElem?_eq_some_iff.1 hp0).1, e4]), k⟩)
               ·exact .inr (.inl ⟨q, List.mem_of_getElem? (i := j) (by rw [List.getElem?_set_ne (fun e => e3 e.symm)]; exact hE3 j q e3 e4), k⟩)
              ·cases k
             ·simp only [ctx] at hq0 hq ⊢
              by_cases e : id0 = j
              ·subst e
               rw [List.getElem?_set_self (List.getElem?_eq_some_iff.1 hp0).1] at hq
               rw [List.getElem?_set_self (List.getElem?_eq_some_iff.1 hpz).1]; exact hq
              ·rw [List.getElem?_set_ne e] at hq ⊢
               rw [hgen0 j q0 q (fun e' => e e'.symm) hq0 hq]; exact hq0
            refine ⟨z.E.set id0 p'', rfl, ?_, ?_, ?_⟩
            ·have o := h'.out
             refine ⟨o.os, o.tape, o.output, o.size, o.stay, fun j q hq => ?_, fun j q hq => ?_, o.lt, o.mine⟩
             ·rcases hE2 j q hq with ⟨e3, e4⟩ | ⟨e3, e4⟩
              ·left; rw [e4, hp'']; exact hfr
              ·exact .inr ⟨q, e4, rfl⟩
             ·by_cases e : id0 = j
              ·subst e
               rw [hpz] at hq; injection hq with hq; subst hq
               exact ⟨p'', List.getElem?_set_self (List.getElem?_eq_some_iff.1 hpz).1, .inr ⟨by omega, by rw [hp'']; show pz.g < A.gen (.os id0 g0 sz00 off0 len0 :: rest) + 1; omega⟩⟩
              ·exact ⟨q, by rw [List.getElem?_set_ne e]; exact hq, .inl rfl⟩
            ·refine ⟨by simp [ctx, hzl], fun i j q r hq hr he => ?_, fun i q x hq hxx => ?_⟩
             ·have hlt0 : ∀ (j : Nat) (q : Pl), z.E[j]? = some q → q.b < z.w.heap.size := fun j q hq => hh.lt (p := q) (List.mem_of_getElem? hq)
              rcases hE2 i q hq with ⟨e3, e4⟩ | ⟨e3, e4⟩ <;> rcases hE2 j r hr with ⟨e5, e6⟩ | ⟨e5, e6⟩
              ·rw [e3, e5]
              ·have := hlt0 j r e6; rw [e4, hp''] at he; simp only at he; omega
              ·have := hlt0 i q e4; rw [e6, hp''] at he; simp only at he; omega
              ·exact hh.inj i j q r e4 e6 he
             ·rcases hE2 i q hq with ⟨e3, e4⟩ | ⟨e3, e4⟩
              ·subst e3
               rw [List.getElem?_set_self hid0] at hxx
               injection hxx with hxx
               subst hxx; subst e4; subst hp''
               refine ⟨rfl, Nat.succ_pos _, rfl, j4, ⟨arr, bt, j5, j6⟩, ?_, ?_, j9⟩
               ·rw [hdl]; show p.base + off * sz1 + len * sz1 ≤ p.csz; omega
               ·refine eldRows held sz1 p.b _ _ (fun y hy => ?_) (RepEs.mono hx sz1 p.b rfl _ _ ((j8.drop off).take len))
                rcases hseg y hy with k | k
                ·obtain ⟨i, hi⟩ := List.mem_iff_getElem?.1 k
                 exact ⟨_, _, (RepEs.nth y7 hi).2⟩
                ·exact rows_rep ha y k
              ·rw [List.getElem?_set_ne (fun e => e3 e.symm)] at hxx
               have hil : i < σ.length := (List.getElem?_eq_some_iff.1 hxx).1
               exact eldB_rep held (hh.blk i q x e4 hxx) ((h'.heap.blk i q x (hE3 i q e3 e4) (by rw [hsame i hil e3]; exact hxx)).mono hx rfl)
            ·simp only [Rep]
             refine ⟨Nat.succ_pos _, p'', by simp only [ctx]; exact List.getElem?_set_self (List.getElem?_eq_some_iff.1 hpz).1, by rw [hp'']; exact Nat.le_refl _, qa, cp, by rw [hdl], by rw [hdl]; exact hcap, fun _ => ⟨by rw [hp''], ?_, ?_⟩⟩
             ·rcases q2 with q2 | q2
              ·exact .inl q2
              ·exact .inr (by rw [q2, q1, hp'']; simp)
             ·rw [hp'']
              simp only [Nat.zero_add]
              rw [q1, Nat.add_mul] at q3; omega
           ·cases k3
          ·cases k3
         ·cases k3
       ·cases k3
      ·cases k3
     ·simp only [Option.some.injEq, Prod.mk.injEq] at k3
      obtain ⟨rfl, rfl⟩ := k3
      exact kept
     ·simp only [Option.some.injEq, Prod.mk.injEq] at k3
      obtain ⟨rfl, rfl⟩ := k3
      exact kept
     ·simp only [Option.some.injEq, Prod.mk.injEq] at k3
      obtain ⟨rfl, rfl⟩ := k3
      exact kept
     ·cases k3
   cases e with
   | normal => exact done hk
   | ret => exact done hk
   | exit i => cases hk
end
end Go.Proofs.Ytgjglkakhmikjaa

namespace Go.Proofs.Ytgjglkakhmikjaa
set_option linter.unusedSectionVars false
open Go.RowKit
set_option linter.unusedVariables false
set_option linter.unusedSimpArgs false

inductive Sh where
 | k
 | s (sz : Nat)
 | e (sz : Nat) (l : List Sh)
 | a (l : List Sh)
 | t (l : List Sh)
 | p (l : List Sh)
namespace A
set_option linter.unusedSectionVars false
mutual
def nn : Sh → AV → AV
 | .k, v => v
 | .s sz, v => match v with | .nsl => .sl sz [] | .ez => .sl sz [] | v => v
 | .e sz l, v => match v with | .nsl => .sl sz [] | .ez => .sl sz [] | .sl sz' es => .sl sz' (es.map (nnL l)) | v => v
 | .a l, v => match v with | .agg cs => .agg (nnL l cs) | v => v
 | .t l, v => match v with | .tup vs => .tup (nnL l vs) | v => v
 | .p l, v => match v with | .rp cs => .rp (nnL l cs) | v => v
def nnL : List Sh → List AV → List AV
 | [], vs => vs
 | s :: ss, vs => match vs with | [] => [] | v :: vs => nn s v :: nnL ss vs
end
def own1 : AV → Bool
 | .os .. => true
 | .op .. => true
 | .oe .. => true
 | .om .. => true
 | _ => false
def own : AV → Bool
 | .agg cs => cs.any own1
 | v => own1 v
def scal1 : AV → Bool
 | .int .. => true
 | .bool .. => true
 | .str .. => true
 | .np => true
 | .nsl => true
 | .ez => true
 | .nm => true
 | .nfn => true
 | .sl _ [] => true
 | _ => false
def scal2 : AV → Bool
 | .agg cs => cs.all scal1
 | v => scal1 v
def scal : AV → Bool
 | .tup vs => vs.all scal2
 | v => scal2 v
def fresh (v : AV) : Bool := match v with
 | .os .. => true
 | .om _ => true
 | v => scal2 v
def freshT : AV → Bool
 | .tup vs => vs.all fresh
 | v => fresh v
def freshB : Blk → Bool
 | .box cs => cs.all scal1
 | .arr _ _ es => es.all fun e => e.all scal1
 | .map es => es.all fun p => scal2 p.1 && scal2 p.2
 | _ => false
def shift (n : Nat) (v : AV) : AV := match v with
 | .os id g sz off len => .os (id + n) g sz off len
 | .om id => .om (id + n)
 | v => v
def shiftT (n : Nat) : AV → AV
 | .tup vs => .tup (vs.map (shift n))
 | v => shift n v
noncomputable def wrap (ro : Bool) (ain : List Sh) (rout : Sh) (r : List AV → Heap → Option (AV × Heap)) (args : List AV) (σ : Heap) : Option (AV × Heap) :=
 bif ro && args.any own then
  (frzL σ 0 8 args).bind fun args => (r (nnL ain args) []).bind fun q => bif freshT (nn rout q.1) && q.2.all freshB then some (shiftT σ.length (nn rout q.1), σ ++ q.2) else none
 else (r (nnL ain args) σ).map fun q => (nn rout q.1, q.2)
end A

def Sound (P : Program) (nm : List Nat) (f : FuncId) (m : List AV → Heap → Option (AV × Heap)) : Prop := ∀ args σ r σ', m args σ = some (r, σ') → ACalls P nm f args σ r σ'
section
variable {P : Program} {nm : List Nat} {f : FuncId} {c c' : RC}
theorem nsl_sl {v : Value} (sz : Nat) (hsz : 0 < sz) (h : Rep c .nsl v) : Rep c (.sl sz []) v := by
 simp only [Rep] at h ⊢
 subst h
 exact ⟨none, 0, rfl, Nat.le_refl _, hsz, .inl trivial⟩
theorem ez_sl {v : Value} (sz : Nat) (hsz : 0 < sz) (h : Rep c .ez v) : Rep c (.sl sz []) v := by
 simp only [Rep] at h ⊢
 obtain ⟨a, rfl⟩ := h
 exact ⟨a, 0, rfl, Nat.le_refl _, hsz, .inl trivial⟩
mutual
def Sh.ok : Sh → Bool
 | .k => true
 | .s sz => Nat.blt 0 sz
 | .e sz l => Nat.blt 0 sz && Sh.okL l
 | .a l => Sh.okL l
 | .t l => Sh.okL l
 | .p l => Sh.okL l
def Sh.okL : List Sh → Bool
 | [] => true
 | x :: l => x.ok && Sh.okL l
end
theorem nnL_len : ∀ (l : List Sh) (cs : List AV), (A.nnL l cs).length = cs.length
 | [], cs => by simp [A.nnL]
 | _ :: _, [] => by simp [A.nnL]
 | o :: l, v :: cs => by simp [A.nnL, nnL_len l cs]
mutual
theorem nn_rep : ∀ (s : Sh) (a : AV) (v : Value), s.ok = true → Rep c a v → Rep c (A.nn s a) v
 | .k, a, v, _, h => by simpa [A.nn] using h
 | .s sz, a, v, ho, h => by
  cases a <;> simp only [A.nn] <;> first | exact h | exact nsl_sl sz (by simpa [Sh.ok] using ho) h | exact ez_sl sz (by simpa [Sh.ok] using ho) h
 | .e sz l, a, v, ho, h => by
  simp only [Sh.ok, Bool.and_eq_true] at ho
  cases a <;> simp only [A.nn] <;> first | exact h | exact nsl_sl sz (by simpa using ho.1) h | exact ez_sl sz (by simpa using ho.1) h | skip
  simp only [Rep] at h ⊢
  obtain ⟨a, cap, e, h1, h2, h3⟩ := h
  refine ⟨a, cap, by rw [List.length_map]; exact e, by rw [List.length_map]; exact h1, h2, ?_⟩
  rcases h3 with h3 | ⟨b, off, e1, e2, e3, e4⟩
  ·left; rw [h3]; rfl
  ·right; exact ⟨b, off, e1, e2, e3, nnL_es l ho.2 _ _ e4⟩
 | .a l, a, v, ho, h => by
  simp only [Sh.ok] at ho
  cases a <;> simp only [A.nn] <;> first | exact h | skip
  simp only [Rep] at h ⊢
  obtain ⟨vs, e, h1, h2⟩ := h
  exact ⟨vs, e, nnL_rep l _ _ ho h1, h2⟩
 | .t ss, a, v, ho, h => by
  simp only [Sh.ok] at ho
  cases a <;> simp only [A.nn] <;> first | exact h | skip
  simp only [Rep] at h ⊢
  obtain ⟨vs, e, h1⟩ := h
  exact ⟨vs, e, nnL_rep ss _ _ ho h1⟩
 | .p l, a, v, ho, h => by
  simp only [Sh.ok] at ho
  cases a <;> simp only [A.nn] <;> first | exact h | skip
  simp only [Rep] at h ⊢
  obtain ⟨b, off, e, h1, h2, h3⟩ := h
  exact ⟨b, off, e, h1, h2, nnL_cs l _ _ ho h3⟩
theorem nnL_rep : ∀ (ss : List Sh) (l : List AV) (vs : List Value), Sh.okL ss = true → RepL c l vs → RepL c (A.nnL ss l) vs
 | [], l, vs, _, h => by simpa [A.nnL] using h
 | _ :: _, [], vs, _, h => by simpa [A.nnL] using h
 | s :: ss, a :: l, vs, ho, h => by
  simp only [Sh.okL, Bool.and_eq_true] at ho
  simp only [A.nnL, RepL] at h ⊢
  obtain ⟨v, vs', e, h1, h2⟩ := h
  exact ⟨v, vs', e, nn_rep s a v ho.1 h1, nnL_rep ss l vs' ho.2 h2⟩
theorem nnL_cs {b : Nat} : ∀ (l : List Sh) (cs : List AV) (off : Nat), Sh.okL l = true → RepCs c b off cs → RepCs c b off (A.nnL l cs)
 | [], cs, off, _, h => by simpa [A.nnL] using h
 | _ :: _, [], off, _, h => by simpa [A.nnL] using h
 | o :: l, a :: cs, off, ho, h => by
  simp only [Sh.okL, Bool.and_eq_true] at ho
  simp only [A.nnL, RepCs] at h ⊢
  obtain ⟨⟨v, h1, h2, h3⟩, h4⟩ := h
  exact ⟨⟨v, h1, h2, nn_rep o a v ho.1 h3⟩, nnL_cs l cs (off + 1) ho.2 h4⟩
theorem nnL_es {sz b : Nat} (l : List Sh) (hl : Sh.okL l = true) : ∀ (es : List (List AV)) (off : Nat), RepEs c sz b off es → RepEs c sz b off (es.map (A.nnL l))
 | [], off, h => by simp [RepEs]
 | e :: es, off, h => by
  simp only [List.map_cons, RepEs] at h ⊢
  exact ⟨by rw [nnL_len]; exact h.1, nnL_cs l e off hl h.2.1, nnL_es l hl es _ h.2.2⟩
end
theorem scal1_rep : ∀ {a : AV} {v : Value}, A.scal1 a = true → Rep c a v → Rep c' a v := by
 intro a v h r
 cases a <;> simp only [A.scal1] at h <;> first | (cases h; done) | skip
 case sl sz es =>
  cases es with
  | nil =>
   simp only [Rep] at r ⊢
   obtain ⟨q, cap, e, h1, h2, _⟩ := r
   exact ⟨q, cap, e, h1, h2, .inl trivial⟩
  | cons _ _ => simp at h
 all_goals simpa [Rep] using r
theorem scal1L_rep : ∀ {l : List AV} {vs : List Value}, l.all A.scal1 = true → RepL c l vs → RepL c' l vs
 | [], vs, _, r => by simpa [RepL] using r
 | a :: l, vs, h, r => by
  simp only [List.all_cons, Bool.and_eq_true] at h
  simp only [RepL] at r ⊢
  obtain ⟨v, vs', e, h1, h2⟩ := r
  exact ⟨v, vs', e, scal1_rep h.1 h1, scal1L_rep h.2 h2⟩
theorem scal2_rep {a : AV} {v : Value} (h : A.scal2 a = true) (r : Rep c a v) : Rep c' a v := by
 unfold A.scal2 at h
 split at h
 ·simp only [Rep] at r ⊢
  obtain ⟨vs, e, h1, h2⟩ := r
  exact ⟨vs, e, scal1L_rep h h1, h2⟩
 ·exact scal1_rep h r
theorem ACalls.conv {args args' : List AV} {σ σ' : Heap} {r r' : AV} (h : ACalls P nm f args' σ r σ') (ha : ∀ c vs, RepL c args vs → RepL c args' vs) (hr : ∀ c v, Rep c r v → Rep c r' v) : ACalls P nm f args σ r' σ' := by
 rcases h with ⟨g, h1, h2⟩ | h
 ·refine .inl ⟨g, h1, fun z vs e1 e2 e3 e4 => (h2 z vs e1 e2 e3 (ha _ _ e4)).mono ?_⟩
  rintro e w' ⟨v, E', k1, k2, k3, k4⟩
  exact ⟨v, E', k1, k2, k3, hr _ _ k4⟩
 ·refine .inr fun z vs e1 e2 e3 e4 => ?_
  obtain ⟨v, w', E', k1, k2, k3, k4⟩ := h z vs e1 e2 e3 (ha _ _ e4)
  exact ⟨v, w', E', k1, k2, k3, hr _ _ k4⟩
theorem shift_rep {z0 z : Z} {w' : World} {E' : List Pl} {n : Nat} (hn : n = z.E.length) {a : AV} {v : Value} (h : A.fresh a = true) (r : Rep (ctx z0 w' E' nopb) a v) : Rep (ctx z w' (z.E ++ E') nopb) (A.shift n a) v := by
 have key : ∀ (id : Nat) (p : Pl), E'[id]? = some p → (z.E ++ E')[id + n]? = some p := fun id p hp => by
  rw [List.getElem?_append_right (by omega), hn, Nat.add_sub_cancel]; exact hp
 unfold A.fresh at h
 unfold A.shift
 split at h
 ·simp only [Rep] at r ⊢
  obtain ⟨hg, p, h1, h2, r⟩ := r
  exact ⟨hg, p, key _ _ h1, h2, r⟩
 ·simp only [Rep] at r ⊢
  obtain ⟨p, h1, h2, r⟩ := r
  exact ⟨p, key _ _ h1, h2, r⟩
 ·exact scal2_rep h r
theorem shiftT_rep' {z0 z : Z} {w' : World} {E' : List Pl} {n : Nat} (hn : n = z.E.length) {vs : List AV} {v : Value} (h : vs.all A.fresh = true) (r : Rep (ctx z0 w' E' nopb) (.tup vs) v) : Rep (ctx z w' (z.E ++ E') nopb) (A.shiftT n (.tup vs)) v := by
 simp only [Rep, A.shiftT] at r ⊢
 obtain ⟨us, rfl, r⟩ := r
 refine ⟨us, rfl, ?_⟩
 generalize us.toList = us' at r ⊢
 induction vs generalizing us' with
 | nil => simpa [RepL] using r
 | cons x l ih =>
  simp only [List.all_cons, Bool.and_eq_true] at h
  simp only [RepL, List.map_cons] at r ⊢
  obtain ⟨v, vs', e, h1, h2⟩ := r
  exact ⟨v, vs', e, shift_rep hn h.1 h1, ih h.2 _ h2⟩
theorem shiftT_rep {z0 z : Z} {w' : World} {E' : List Pl} {n : Nat} (hn : n = z.E.length) {a : AV} {v : Value} (h : A.freshT a = true) (r : Rep (ctx z0 w' E' nopb) a v) : Rep (ctx z w' (z.E ++ E') nopb) (A.shiftT n a) v := by
 by_cases ht : ∃ vs, a = .tup vs
 ·obtain ⟨vs, rfl⟩ := ht
  exact shiftT_rep' hn h r
 ·have e1 : A.freshT a = A.fresh a := by cases a <;> first | rfl | exact absurd ⟨_, rfl⟩ ht
  have e2 : A.shiftT n a = A.shift n a := by cases a <;> first | rfl | exact absurd ⟨_, rfl⟩ ht
  rw [e1] at h
  rw [e2]
  exact shift_rep hn h r
theorem scal1Cs_rep {b : Nat} : ∀ {l : List AV} {off : Nat}, l.all A.scal1 = true → c'.w = c.w → RepCs c b off l → RepCs c' b off l
 | [], off, _, _, _ => by simp [RepCs]
 | a :: l, off, h, hw, r => by
  simp only [List.all_cons, Bool.and_eq_true] at h
  simp only [RepCs] at r ⊢
  obtain ⟨⟨v, h1, h2, h3⟩, h4⟩ := r
  exact ⟨⟨v, by rw [hw]; exact h1, h2, scal1_rep h.1 h3⟩, scal1Cs_rep h.2 hw h4⟩
theorem scal1Es_rep {sz b : Nat} : ∀ {l : List (List AV)} {off : Nat}, (l.all fun e => e.all A.scal1) = true → c'.w = c.w → RepEs c sz b off l → RepEs c' sz b off l
 | [], off, _, _, _ => by simp [RepEs]
 | a :: l, off, h, hw, r => by
  simp only [List.all_cons, Bool.and_eq_true] at h
  simp only [RepEs] at r ⊢
  obtain ⟨h1, h2, h3⟩ := r
  exact ⟨h1, scal1Cs_rep h.1 hw h2, scal1Es_rep h.2 hw h3⟩
theorem scal2M_rep : ∀ {l : List (AV × AV)} {es : List MapEntry}, (l.all fun p => A.scal2 p.1 && A.scal2 p.2) = true → RepM c l es → RepM c' l es
 | [], es, _, r => by simpa [RepM] using r
 | (k, v) :: l, es, h, r => by
  simp only [List.all_cons, Bool.and_eq_true] at h
  simp only [RepM] at r ⊢
  obtain ⟨e, es', h1, h2, h3, h4⟩ := r
  exact ⟨e, es', h1, scal2_rep h.1.1 h2, scal2_rep h.1.2 h3, scal2M_rep h.2 h4⟩
theorem freshB_rep {p : Pl} {x : Blk} (h : A.freshB x = true) (hw : c'.w = c.w) (r : BlkAt c p x) : BlkAt c' p x := by
 cases x with
 | box cs =>
  obtain ⟨h1, ⟨⟨arr, t, h2, h3⟩, h4⟩⟩ := r
  exact ⟨h1, ⟨arr, t, by rw [hw]; exact h2, h3⟩, scal1Cs_rep h hw h4⟩
 | arr g sz es =>
  obtain ⟨h1, h2, h3, h4, ⟨arr, t, h5, h6⟩, h7, h8, h9⟩ := r
  exact ⟨h1, h2, h3, h4, ⟨arr, t, by rw [hw]; exact h5, h6⟩, h7, scal1Es_rep h hw h8, fun arr t fz e => h9 arr t fz (by rw [← hw]; exact e)⟩
 | map es =>
  obtain ⟨h1, ents, clock, h2, hwf, h3⟩ := r
  exact ⟨h1, ents, clock, by rw [hw]; exact h2, hwf, scal2M_rep h h3⟩
 | arrF g sz es => cases h
 | it cur left => cases h
theorem lent_out {z : Z} {σ σ' : Heap} {r : AV} {v : Value} {w' : World} {E' : List Pl} (e2 : ∀ b, z.X b → b < z.w.heap.size) (hh : HeapRel (ctx z z.w z.E nopb) σ) (hv : A.freshT r = true) (hb : σ'.all A.freshB = true)
  (k2 : Out ⟨z.w, [], fun _ => False, z.nm⟩ w' E') (k3 : HeapRel (ctx ⟨z.w, [], fun _ => False, z.nm⟩ w' E' nopb) σ') (k4 : Rep (ctx ⟨z.w, [], fun _ => False, z.nm⟩ w' E' nopb) r v) :
  ∃ E'', Out z w' E'' ∧ HeapRel (ctx z w' E'' nopb) (σ ++ σ') ∧ Rep (ctx z w' E'' nopb) (A.shiftT σ.length r) v := by
 have hlen : z.E.length = σ.length := hh.len
 have hlen' : E'.length = σ'.length := k3.len
 have hst : ∀ b, b < z.w.heap.size → w'.heap[b]? = z.w.heap[b]? := fun b hb => k2.stay b hb (fun p hp => by cases hp)
 have hlt : ∀ p ∈ z.E, p.b < z.w.heap.size := fun p hp => hh.lt hp
 have hfr : ∀ p ∈ E', z.w.heap.size ≤ p.b := fun p hp => by
  rcases k2.fresh p hp with k | ⟨q, hq, _⟩
  ·exact k
  ·cases hq
 have hx : Ext (ctx z z.w z.E nopb) (ctx z w' (z.E ++ E') nopb) := by
  refine ⟨k2.size, fun b hb hn => ⟨hst b hb, ?_⟩, fun i p hp => ⟨p, ?_, .inl rfl⟩, rfl⟩
  ·rintro (k | ⟨p, hp, k⟩ | ⟨i, k⟩)
   ·exact hn (.inl k)
   ·rcases List.mem_append.1 hp with hp | hp
    ·exact hn (.inr (.inl ⟨p, hp, k⟩))
    ·have := hfr p hp; simp only [ctx] at hb; omega
   ·cases k
  ·simp only [ctx] at hp ⊢
   rw [List.getElem?_append_left (List.getElem?_eq_some_iff.1 hp).1]; exact hp
 have key : ∀ (i : Nat) (p : Pl), (z.E ++ E')[i]? = some p → (i < z.E.length ∧ z.E[i]? = some p) ∨ (z.E.length ≤ i ∧ E'[i - z.E.length]? = some p) := fun i p hp => by
  by_cases hi : i < z.E.length
  ·rw [List.getElem?_append_left hi] at hp; exact .inl ⟨hi, hp⟩
  ·rw [List.getElem?_append_right (by omega)] at hp; exact .inr ⟨by omega, hp⟩
 refine ⟨z.E ++ E', ⟨k2.os, k2.tape, k2.output, k2.size, fun b hb _ => hst b hb, fun i p hp => ?_, fun i p hp => ⟨p, ?_, .inl rfl⟩, e2, hlt⟩, ⟨by simp [ctx, hlen, hlen'], fun i j p q hp hq e => ?_, fun i p x hp hxx => ?_⟩, shiftT_rep hlen.symm hv k4⟩
 ·rcases key i p hp with ⟨_, k⟩ | ⟨_, k⟩
  ·exact .inr ⟨p, k, rfl⟩
  ·exact .inl (hfr p (List.mem_of_getElem? k))
 ·rw [List.getElem?_append_left (List.getElem?_eq_some_iff.1 hp).1]; exact hp
 ·simp only [ctx] at hp hq
  rcases key i p hp with ⟨i1, k⟩ | ⟨i1, k⟩ <;> rcases key j q hq with ⟨j1, m⟩ | ⟨j1, m⟩
  ·exact hh.inj i j p q k m e
  ·have := hlt p (List.mem_of_getElem? k); have := hfr q (List.mem_of_getElem? m); omega
  ·have := hlt q (List.mem_of_getElem? m); have := hfr p (List.mem_of_getElem? k); omega
  ·have := k3.inj _ _ p q k m e; omega
 ·simp only [ctx] at hp
  rcases key i p hp with ⟨i1, k⟩ | ⟨i1, k⟩
  ·rw [List.getElem?_append_left (by omega)] at hxx
   exact (hh.blk i p x k hxx).mono hx (hst _ (hlt p (List.mem_of_getElem? k)))
  ·rw [List.getElem?_append_right (by omega), ← hlen] at hxx
   exact freshB_rep (c := ctx ⟨z.w, [], fun _ => False, z.nm⟩ w' E' nopb) (List.all_eq_true.1 hb x (List.mem_of_getElem? hxx)) rfl (k3.blk _ p x k hxx)
theorem ACalls.lent {args args' : List AV} {σ σ' : Heap} {r : AV} (h : ACalls P nm f args' [] r σ') (ha : A.frzL σ 0 8 args = some args') (hv : A.freshT r = true) (hb : σ'.all A.freshB = true) : ACalls P nm f args σ (A.shiftT σ.length r) (σ ++ σ') := by
 have hX : ∀ (z : Z) b, ¬ (ctx ⟨z.w, [], fun _ => False, z.nm⟩ z.w [] nopb).X b := by
  rintro z b (k | ⟨p, hp, _⟩ | ⟨i, k⟩)
  ·exact k.elim
  ·cases hp
  ·cases k
 have hcold : ∀ (z : Z), HeapRel (ctx z z.w z.E nopb) σ → Cold (ctx z z.w z.E nopb) (ctx ⟨z.w, [], fun _ => False, z.nm⟩ z.w [] nopb) σ 0 := fun z hh =>
  ⟨rfl, rfl, fun b k => (hX z b k).elim, fun id p k => absurd k (Nat.not_lt_zero _), hh, fun id p _ _ => hX z _⟩
 have h0 : ∀ (z : Z), HeapRel (ctx ⟨z.w, [], fun _ => False, z.nm⟩ z.w [] nopb) [] := fun z => by
  refine ⟨rfl, fun i j p q hp => ?_, fun i p x hp => ?_⟩
  ·simp [ctx] at hp
  ·simp [ctx] at hp
 rcases h with ⟨g, h1, h2⟩ | h2
 ·refine .inl ⟨g, h1, fun z vs e1 e2 hh e4 => ?_⟩
  have ha' : RepL (ctx ⟨z.w, [], fun _ => False, z.nm⟩ z.w [] nopb) args' vs.toList := frzL_rep (hcold z hh) 8 (fun av av' v _ e r => frz_all (hcold z hh) 8 _ _ _ e r) _ _ _ ha e4
  refine (h2 ⟨z.w, [], fun _ => False, z.nm⟩ vs e1 (fun b k => k.elim) (h0 z) ha').mono ?_
  rintro e w' ⟨v, E', k1, k2, k3, k4⟩
  obtain ⟨E'', q1, q2, q3⟩ := lent_out e2 hh hv hb k2 k3 k4
  exact ⟨v, E'', k1, q1, q2, q3⟩
 ·refine .inr fun z vs e1 e2 hh e4 => ?_
  have ha' : RepL (ctx ⟨z.w, [], fun _ => False, z.nm⟩ z.w [] nopb) args' vs.toList := frzL_rep (hcold z hh) 8 (fun av av' v _ e r => frz_all (hcold z hh) 8 _ _ _ e r) _ _ _ ha e4
  obtain ⟨v, w', E', k1, k2, k3, k4⟩ := h2 ⟨z.w, [], fun _ => False, z.nm⟩ vs e1 (fun b k => k.elim) (h0 z) ha'
  obtain ⟨E'', q1, q2, q3⟩ := lent_out e2 hh hv hb k2 k3 k4
  exact ⟨v, w', E'', k1, q1, q2, q3⟩
theorem Sound.wrap {r : List AV → Heap → Option (AV × Heap)} (h : Sound P nm f r) (ro : Bool) (ain : List Sh) (rout : Sh) (hi : Sh.okL ain = true) (ho : rout.ok = true) : Sound P nm f (A.wrap ro ain rout r) := by
 intro args σ v σ' e
 unfold A.wrap at e
 cases hc : (ro && args.any A.own)
 ·rw [hc] at e
  simp only [cond_false] at e
  obtain ⟨q, e1, e2⟩ := Option.map_eq_some_iff.1 e
  injection e2 with e2 e3
  subst e2 e3
  exact (h _ _ _ _ e1).conv (fun c vs k => nnL_rep _ _ _ hi k) (fun c v k => nn_rep _ _ _ ho k)
 ·rw [hc] at e
  simp only [cond_true] at e
  obtain ⟨args', e1, e2⟩ := Option.bind_eq_some_iff.1 e
  obtain ⟨q, e3, e4⟩ := Option.bind_eq_some_iff.1 e2
  obtain ⟨q1, q2⟩ := q
  simp only at e4
  cases hs : (A.freshT (A.nn rout q1) && q2.all A.freshB)
  ·rw [hs] at e4; cases e4
  ·rw [hs] at e4
   simp only [cond_true, Option.some.injEq, Prod.mk.injEq] at e4
   obtain ⟨rfl, rfl⟩ := e4
   simp only [Bool.and_eq_true] at hs
   exact ((h _ _ _ _ e3).conv (args := args') (fun c vs k => nnL_rep _ _ _ hi k) (fun c v k => nn_rep _ _ _ ho k)).lent e1 hs.1 hs.2
end
theorem Snd.of {X : Fx} {t : List (FuncId × (List AV → Heap → Option (AV × Heap)))} (hc : X.call = A.tab (fun _ _ => none) t) (ht : ∀ p ∈ t, Sound X.P X.nm p.1 p.2) (hd : ∀ f, Sound X.P X.nm f (X.dyn (X.nm.getD f 0))) : Snd X := by
 refine ⟨fun f args σ r σ' h => ?_, fun f => hd f⟩
 rw [hc] at h
 clear hc
 induction t with
 | nil => cases h
 | cons p t ih =>
  obtain ⟨m, x⟩ := p
  simp only [A.tab] at h
  cases hm : (f == m)
  ·rw [hm] at h; exact ih (fun p hp => ht p (List.mem_cons_of_mem _ hp)) h
  ·rw [hm] at h
   have : f = m := by simpa using hm
   subst this
   exact ht (f, x) (List.mem_cons_self) _ _ _ _ h
theorem Sound.none {P : Program} {nm : List Nat} {f : FuncId} : Sound P nm f (fun _ _ => Option.none) := fun _ _ _ _ h => by cases h
theorem All.nil {P : Program} {nm : List Nat} : ∀ p ∈ ([] : List (FuncId × (List AV → Heap → Option (AV × Heap)))), Sound P nm p.1 p.2 := fun _ h => by cases h
theorem All.cons {P : Program} {nm : List Nat} {f : FuncId} {m : List AV → Heap → Option (AV × Heap)} {l : List (FuncId × (List AV → Heap → Option (AV × Heap)))} (h : Sound P nm f m) (t : ∀ p ∈ l, Sound P nm p.1 p.2) : ∀ p ∈ (f, m) :: l, Sound P nm p.1 p.2 :=
 fun p hp => by rcases List.mem_cons.1 hp with rfl | hp; exact h; exact t p hp
theorem DAll.nil {P : Program} {nm : List Nat} : ∀ p ∈ ([] : List (Nat × (List AV → Heap → Option (AV × Heap)))), ∀ f, nm.getD f 0 = p.1 → Sound P nm f p.2 := fun _ h => by cases h
theorem DAll.cons {P : Program} {nm : List Nat} {k : Nat} {m : List AV → Heap → Option (AV × Heap)} {l : List (Nat × (List AV → Heap → Option (AV × Heap)))} (h : ∀ f, nm.getD f 0 = k → Sound P nm f m) (t : ∀ p ∈ l, ∀ f, nm.getD f 0 = p.1 → Sound P nm f p.2) : ∀ p ∈ (k, m) :: l, ∀ f, nm.getD f 0 = p.1 → Sound P nm f p.2 :=
 fun p hp => by rcases List.mem_cons.1 hp with rfl | hp; exact h; exact t p hp
theorem dyn_of {P : Program} {nm : List Nat} {t : List (Nat × (List AV → Heap → Option (AV × Heap)))} (ht : ∀ p ∈ t, ∀ f, nm.getD f 0 = p.1 → Sound P nm f p.2) (f : FuncId) : Sound P nm f (A.tab (fun _ _ => Option.none) t (nm.getD f 0)) := by
 induction t with
 | nil => exact Sound.none
 | cons p t ih =>
  obtain ⟨k, x⟩ := p
  simp only [A.tab]
  cases hm : (nm.getD f 0 == k)
  ·exact ih (fun p hp => ht p (List.mem_cons_of_mem _ hp))
  ·exact ht (k, x) List.mem_cons_self f (by simpa using hm)
theorem nm_one {nm : List Nat} {k g : Nat} (h : (nm.zipIdx.filter fun p => p.1 == k) = [(k, g)]) (hk : (0 == k) = false) {f : Nat} (hf : nm.getD f 0 = k) : f = g := by
 have hlt : f < nm.length := by
  rcases Nat.lt_or_ge f nm.length with e | e
  ·exact e
  ·simp only [List.getD, List.getElem?_eq_none e, Option.getD_none] at hf; subst hf; simp at hk
 have : (k, f) ∈ nm.zipIdx.filter fun p => p.1 == k := by
  refine List.mem_filter.2 ⟨List.mem_iff_getElem?.2 ⟨f, ?_⟩, by simp⟩
  simp only [List.getD] at hf
  rw [List.getElem?_eq_getElem hlt] at hf
  simp [List.getElem?_eq_getElem hlt, ← hf]
 rw [h] at this
 simpa using this
theorem nm_sound {P : Program} {nm : List Nat} {k g : Nat} {m : List AV → Heap → Option (AV × Heap)} (hs : Sound P nm g m) (h : (nm.zipIdx.filter fun p => p.1 == k) = [(k, g)]) (hk : (0 == k) = false) : ∀ f, nm.getD f 0 = k → Sound P nm f m :=
 fun f hf => by have e := nm_one h hk hf; subst e; exact hs
def fuel (F : (Nat → List AV → Heap → Option (AV × Heap)) → List (Nat × (List AV → Heap → Option (AV × Heap)))) : Nat → Nat → List AV → Heap → Option (AV × Heap)
 | 0, _ => fun _ _ => none
 | n + 1, k => A.tab (fun _ _ => none) (F (fuel F n)) k
theorem fuel_sound {P : Program} {nm : List Nat} {F : (Nat → List AV → Heap → Option (AV × Heap)) → List (Nat × (List AV → Heap → Option (AV × Heap)))}
  (h : ∀ rec, (∀ f, Sound P nm f (rec (nm.getD f 0))) → ∀ p ∈ F rec, ∀ f, nm.getD f 0 = p.1 → Sound P nm f p.2) : ∀ n f, Sound P nm f (fuel F n (nm.getD f 0))
 | 0, f => Sound.none
 | n + 1, f => dyn_of (h (fuel F n) (fuel_sound h n)) f
namespace A
set_option linter.unusedSectionVars false
def ar1 (f : AV → Heap → Option (AV × Heap)) : List AV → Heap → Option (AV × Heap)
 | [x0], σ => f x0 σ
 | _, _ => none
def ar2 (f : AV → AV → Heap → Option (AV × Heap)) : List AV → Heap → Option (AV × Heap)
 | [x0, x1], σ => f x0 x1 σ
 | _, _ => none
def ar3 (f : AV → AV → AV → Heap → Option (AV × Heap)) : List AV → Heap → Option (AV × Heap)
 | [x0, x1, x2], σ => f x0 x1 x2 σ
 | _, _ => none
def ar4 (f : AV → AV → AV → AV → Heap → Option (AV × Heap)) : List AV → Heap → Option (AV × Heap)
 | [x0, x1, x2, x3], σ => f x0 x1 x2 x3 σ
 | _, _ => none
def ar5 (f : AV → AV → AV → AV → AV → Heap → Option (AV × Heap)) : List AV → Heap → Option (AV × Heap)
 | [x0, x1, x2, x3, x4], σ => f x0 x1 x2 x3 x4 σ
 | _, _ => none
def ar6 (f : AV → AV → AV → AV → AV → AV → Heap → Option (AV × Heap)) : List AV → Heap → Option (AV × Heap)
 | [x0, x1, x2, x3, x4, x5], σ => f x0 x1 x2 x3 x4 x5 σ
 | _, _ => none
def ar7 (f : AV → AV → AV → AV → AV → AV → AV → Heap → Option (AV × Heap)) : List AV → Heap → Option (AV × Heap)
 | [x0, x1, x2, x3, x4, x5, x6], σ => f x0 x1 x2 x3 x4 x5 x6 σ
 | _, _ => none
end A
section
variable {X : Fx} {f : FuncId} {fn : Func} {ann : Ann}
theorem Sound.runL {m : List AV → Heap → Option (AV × Heap)} (keep : Back) (hkeep : keep.Ok) (hs : Snd X) (hf : X.P.funcs[f]? = some fn) (hc : ∀ aas w, (callFunc f aas).run X.P w = .ok (.enter f aas) w) (he : ∀ args (σ : Heap) r, m args σ = some r → runA X keep ann fn args σ = some r) : Sound X.P X.nm f m :=
 fun args σ r σ' h => runA_sound hs hkeep hf hc (he args σ (r, σ') h)
theorem Sound.run1 {m : AV → Heap → Option (AV × Heap)} (keep : Back) (hkeep : keep.Ok) (hs : Snd X) (hf : X.P.funcs[f]? = some fn) (hc : ∀ aas w, (callFunc f aas).run X.P w = .ok (.enter f aas) w) (he : ∀ (x0 : AV) (σ : Heap), runA X keep ann fn [x0] σ = m x0 σ) : Sound X.P X.nm f (A.ar1 m) := by
 intro args σ r σ' h
 unfold A.ar1 at h
 split at h
 ·exact runA_sound hs hkeep hf hc ((he _ _).trans h)
 ·cases h
theorem Sound.run2 {m : AV → AV → Heap → Option (AV × Heap)} (keep : Back) (hkeep : keep.Ok) (hs : Snd X) (hf : X.P.funcs[f]? = some fn) (hc : ∀ aas w, (callFunc f aas).run X.P w = .ok (.enter f aas) w) (he : ∀ (x0 x1 : AV) (σ : Heap), runA X keep ann fn [x0, x1] σ = m x0 x1 σ) : Sound X.P X.nm f (A.ar2 m) := by
 intro args σ r σ' h
 unfold A.ar2 at h
 split at h
 ·exact runA_sound hs hkeep hf hc ((he _ _ _).trans h)
 ·cases h
theorem Sound.run3 {m : AV → AV → AV → Heap → Option (AV × Heap)} (keep : Back) (hkeep : keep.Ok) (hs : Snd X) (hf : X.P.funcs[f]? = some fn) (hc : ∀ aas w, (callFunc f aas).run X.P w = .ok (.enter f aas) w) (he : ∀ (x0 x1 x2 : AV) (σ : Heap), runA X keep ann fn [x0, x1, x2] σ = m x0 x1 x2 σ) : Sound X.P X.nm f (A.ar3 m) := by
 intro args σ r σ' h
 unfold A.ar3 at h
 split at h
 ·exact runA_sound hs hkeep hf hc ((he _ _ _ _).trans h)
 ·cases h
theorem Sound.run4 {m : AV → AV → AV → AV → Heap → Option (AV × Heap)} (keep : Back) (hkeep : keep.Ok) (hs : Snd X) (hf : X.P.funcs[f]? = some fn) (hc : ∀ aas w, (callFunc f aas).run X.P w = .ok (.enter f aas) w) (he : ∀ (x0 x1 x2 x3 : AV) (σ : Heap), runA X keep ann fn [x0, x1, x2, x3] σ = m x0 x1 x2 x3 σ) : Sound X.P X.nm f (A.ar4 m) := by
 intro args σ r σ' h
 unfold A.ar4 at h
 split at h
 ·exact runA_sound hs hkeep hf hc ((he _ _ _ _ _).trans h)
 ·cases h
theorem Sound.run5 {m : AV → AV → AV → AV → AV → Heap → Option (AV × Heap)} (keep : Back) (hkeep : keep.Ok) (hs : Snd X) (hf : X.P.funcs[f]? = some fn) (hc : ∀ aas w, (callFunc f aas).run X.P w = .ok (.enter f aas) w) (he : ∀ (x0 x1 x2 x3 x4 : AV) (σ : Heap), runA X keep ann fn [x0, x1, x2, x3, x4] σ = m x0 x1 x2 x3 x4 σ) : Sound X.P X.nm f (A.ar5 m) := by
 intro args σ r σ' h
 unfold A.ar5 at h
 split at h
 ·exact runA_sound hs hkeep hf hc ((he _ _ _ _ _ _).trans h)
 ·cases h
theorem Sound.run6 {m : AV → AV → AV → AV → AV → AV → Heap → Option (AV × Heap)} (keep : Back) (hkeep : keep.Ok) (hs : Snd X) (hf : X.P.funcs[f]? = some fn) (hc : ∀ aas w, (callFunc f aas).run X.P w = .ok (.enter f aas) w) (he : ∀ (x0 x1 x2 x3 x4 x5 : AV) (σ : Heap), runA X keep ann fn [x0, x1, x2, x3, x4, x5] σ = m x0 x1 x2 x3 x4 x5 σ) : Sound X.P X.nm f (A.ar6 m) := by
 intro args σ r σ' h
 unfold A.ar6 at h
 split at h
 ·exact runA_sound hs hkeep hf hc ((he _ _ _ _ _ _ _).trans h)
 ·cases h
theorem Sound.run7 {m : AV → AV → AV → AV → AV → AV → AV → Heap → Option (AV × Heap)} (keep : Back) (hkeep : keep.Ok) (hs : Snd X) (hf : X.P.funcs[f]? = some fn) (hc : ∀ aas w, (callFunc f aas).run X.P w = .ok (.enter f aas) w) (he : ∀ (x0 x1 x2 x3 x4 x5 x6 : AV) (σ : Heap), runA X keep ann fn [x0, x1, x2, x3, x4, x5, x6] σ = m x0 x1 x2 x3 x4 x5 x6 σ) : Sound X.P X.nm f (A.ar7 m) := by
 intro args σ r σ' h
 unfold A.ar7 at h
 split at h
 ·exact runA_sound hs hkeep hf hc ((he _ _ _ _ _ _ _ _).trans h)
 ·cases h
end
end Go.Proofs.Ytgjglkakhmikjaa

namespace Go.Proofs.Ytgjglkakhmikjaa
set_option linter.unusedSectionVars false
set_option linter.unusedSimpArgs false
set_option linter.unusedVariables false
set_option maxRecDepth 100000
noncomputable def nmT : List Nat := [0, 0, 0, 57, 460, 45, 56, 44, 55, 35, 458, 459, 42, 43, 51, 53, 54, 1, 39, 4, 49, 50, 14, 139, 74, 76, 79, 94, 95, 100, 41, 40, 52, 37, 38, 46, 48, 69, 13, 71, 73, 2, 138, 75, 36, 454, 456, 457, 77, 78, 88, 89, 92, 5, 93, 6, 96, 97, 98, 99, 47, 63, 66, 67, 68, 70, 72, 0, 455, 9, 85, 86, 87, 90, 91, 62, 65, 64, 0, 84, 59, 60, 61, 0, 81, 83, 58, 80, 82, 0, 0, 0, 0, 0, 0, 0, 0, 0, 0, 0, 0, 0, 0, 0, 0]
section
variable {l : List (FuncId × (List AV → Heap → Option (AV × Heap)))} {f : FuncId} {fn : Func} {ro : Bool} {ain : List Sh} {rout : Sh}
noncomputable def fxT (l : List (FuncId × (List AV → Heap → Option (AV × Heap)))) (L : List Nat) (n : Nat) : Fx := ⟨Try.prog, nmT, A.tab (fun _ _ => none) l, fun _ _ _ => none, L, [], n, []⟩
theorem q1 {m : AV → Heap → Option (AV × Heap)} (L : List Nat) (n : Nat) (ann : Ann) (h : ∀ p ∈ l, Sound Try.prog nmT p.1 p.2) (hf : Try.prog.funcs[f]? = some fn) (hc : ∀ aas w, (callFunc f aas).run Try.prog w = .ok (.enter f aas) w) (he : ∀ (x0 : AV) (σ : Heap), runA (fxT l L n) .F ann fn [x0] σ = m x0 σ) (hi : Sh.okL ain = true) (ho : rout.ok = true) : Sound Try.prog nmT f (A.wrap ro ain rout (A.ar1 m)) := Sound.wrap (Sound.run1 .F trivial (Snd.of rfl h fun _ => Sound.none) hf hc he) _ _ _ hi ho
theorem q2 {m : AV → AV → Heap → Option (AV × Heap)} (L : List Nat) (n : Nat) (ann : Ann) (h : ∀ p ∈ l, Sound Try.prog nmT p.1 p.2) (hf : Try.prog.funcs[f]? = some fn) (hc : ∀ aas w, (callFunc f aas).run Try.prog w = .ok (.enter f aas) w) (he : ∀ (x0 x1 : AV) (σ : Heap), runA (fxT l L n) .F ann fn [x0, x1] σ = m x0 x1 σ) (hi : Sh.okL ain = true) (ho : rout.ok = true) : Sound Try.prog nmT f (A.wrap ro ain rout (A.ar2 m)) := Sound.wrap (Sound.run2 .F trivial (Snd.of rfl h fun _ => Sound.none) hf hc he) _ _ _ hi ho
theorem q3 {m : AV → AV → AV → Heap → Option (AV × Heap)} (L : List Nat) (n : Nat) (ann : Ann) (h : ∀ p ∈ l, Sound Try.prog nmT p.1 p.2) (hf : Try.prog.funcs[f]? = some fn) (hc : ∀ aas w, (callFunc f aas).run Try.prog w = .ok (.enter f aas) w) (he : ∀ (x0 x1 x2 : AV) (σ : Heap), runA (fxT l L n) .F ann fn [x0, x1, x2] σ = m x0 x1 x2 σ) (hi : Sh.okL ain = true) (ho : rout.ok = true) : Sound Try.prog nmT f (A.wrap ro ain rout (A.ar3 m)) := Sound.wrap (Sound.run3 .F trivial (Snd.of rfl h fun _ => Sound.none) hf hc he) _ _ _ hi ho
theorem q4 {m : AV → AV → AV → AV → Heap → Option (AV × Heap)} (L : List Nat) (n : Nat) (ann : Ann) (h : ∀ p ∈ l, Sound Try.prog nmT p.1 p.2) (hf : Try.prog.funcs[f]? = some fn) (hc : ∀ aas w, (callFunc f aas).run Try.prog w = .ok (.enter f aas) w) (he : ∀ (x0 x1 x2 x3 : AV) (σ : Heap), runA (fxT l L n) .F ann fn [x0, x1, x2, x3] σ = m x0 x1 x2 x3 σ) (hi : Sh.okL ain = true) (ho : rout.ok = true) : Sound Try.prog nmT f (A.wrap ro ain rout (A.ar4 m)) := Sound.wrap (Sound.run4 .F trivial (Snd.of rfl h fun _ => Sound.none) hf hc he) _ _ _ hi ho
theorem q5 {m : AV → AV → AV → AV → AV → Heap → Option (AV × Heap)} (L : List Nat) (n : Nat) (ann : Ann) (h : ∀ p ∈ l, Sound Try.prog nmT p.1 p.2) (hf : Try.prog.funcs[f]? = some fn) (hc : ∀ aas w, (callFunc f aas).run Try.prog w = .ok (.enter f aas) w) (he : ∀ (x0 x1 x2 x3 x4 : AV) (σ : Heap), runA (fxT l L n) .F ann fn [x0, x1, x2, x3, x4] σ = m x0 x1 x2 x3 x4 σ) (hi : Sh.okL ain = true) (ho : rout.ok = true) : Sound Try.prog nmT f (A.wrap ro ain rout (A.ar5 m)) := Sound.wrap (Sound.run5 .F trivial (Snd.of rfl h fun _ => Sound.none) hf hc he) _ _ _ hi ho
theorem q6 {m : AV → AV → AV → AV → AV → AV → Heap → Option (AV × Heap)} (L : List Nat) (n : Nat) (ann : Ann) (h : ∀ p ∈ l, Sound Try.prog nmT p.1 p.2) (hf : Try.prog.funcs[f]? = some fn) (hc : ∀ aas w, (callFunc f aas).run Try.prog w = .ok (.enter f aas) w) (he : ∀ (x0 x1 x2 x3 x4 x5 : AV) (σ : Heap), runA (fxT l L n) .F ann fn [x0, x1, x2, x3, x4, x5] σ = m x0 x1 x2 x3 x4 x5 σ) (hi : Sh.okL ain = true) (ho : rout.ok = true) : Sound Try.prog nmT f (A.wrap ro ain rout (A.ar6 m)) := Sound.wrap (Sound.run6 .F trivial (Snd.of rfl h fun _ => Sound.none) hf hc he) _ _ _ hi ho
theorem q7 {m : AV → AV → AV → AV → AV → AV → AV → Heap → Option (AV × Heap)} (L : List Nat) (n : Nat) (ann : Ann) (h : ∀ p ∈ l, Sound Try.prog nmT p.1 p.2) (hf : Try.prog.funcs[f]? = some fn) (hc : ∀ aas w, (callFunc f aas).run Try.prog w = .ok (.enter f aas) w) (he : ∀ (x0 x1 x2 x3 x4 x5 x6 : AV) (σ : Heap), runA (fxT l L n) .F ann fn [x0, x1, x2, x3, x4, x5, x6] σ = m x0 x1 x2 x3 x4 x5 x6 σ) (hi : Sh.okL ain = true) (ho : rout.ok = true) : Sound Try.prog nmT f (A.wrap ro ain rout (A.ar7 m)) := Sound.wrap (Sound.run7 .F trivial (Snd.of rfl h fun _ => Sound.none) hf hc he) _ _ _ hi ho
end
end Go.Proofs.Ytgjglkakhmikjaa

namespace Go.Proofs.Ytgjglkakhmikjaa
set_option linter.unusedSectionVars false
set_option linter.unusedVariables false
set_option linter.unusedSimpArgs false
abbrev inI (n : Int) : Prop := -9223372036854775808 ≤ n ∧ n ≤ 9223372036854775807
abbrev mxl : Nat := 9223372036854775807
def memB {κ : Type} [DecidableEq κ] (k : κ) (S : List κ) : Bool := S.any fun x => decide (x = k)
theorem memB_iff {κ : Type} [DecidableEq κ] {k : κ} {S : List κ} : memB k S = true ↔ k ∈ S := by
 simp only [memB, List.any_eq_true, decide_eq_true_eq]
 exact ⟨fun ⟨x, h, e⟩ => e ▸ h, fun h => ⟨k, h, rfl⟩⟩
theorem memB_false {κ : Type} [DecidableEq κ] {k : κ} {S : List κ} : memB k S = false ↔ k ∉ S := by
 rw [← memB_iff]; simp
def cInt (n : Int) : List AV := [.int .i64 n]
def cStr (s : ByteArray) : List AV := [.str s]
def sl {α : Type} (sz : Nat) (c : α → List AV) (l : List α) : AV := .sl sz (l.map c)
def okL {α : Type} (p : α → Prop) (l : List α) : Prop := l.length ≤ mxl ∧ ∀ x ∈ l, p x
theorem p1_cInt (n : Int) : A.part1 0 (cInt n) = some (.int .i64 n) := rfl
theorem p1_cStr (s : ByteArray) : A.part1 0 (cStr s) = some (.str s) := rfl

structure PointD where
 time : Int
 way : Int
deriving DecidableEq
structure CurveD where
 kind : Int
 points : (List PointD)
structure FadeD where
 frm : Int
 to : Int
 start : Int
 delay : Int
 time : Int
 curve : CurveD
structure ChangeD where
 time : Int
 level : Int
deriving DecidableEq
structure RangeD where
 low : Int
 high : Int
 name : ByteArray
deriving DecidableEq
structure ParamD where
 name : ByteArray
 group : Int
 att : Int
 fine : Int
 default : Int
 snap : Bool
 ranges : (List RangeD)
structure ProfileD where
 name : ByteArray
 size : Int
 params : (List ParamD)
structure UnitD where
 number : Int
 profile : ByteArray
 univ : Int
 address : Int
deriving DecidableEq
structure RigD where
 library : (List ProfileD)
 units : (List UnitD)
structure KeyD where
 unit : Int
 param : ByteArray
deriving DecidableEq
structure SettingD where
 key : KeyD
 level : Int
deriving DecidableEq
structure PresetD where
 number : Int
 title : ByteArray
 settings : (List SettingD)
structure FanD where
 corners : (List Int)
 block : Int
 wings : Int
structure ValueD where
 level : Int
 preset : Int
deriving DecidableEq
structure MoveD where
 key : KeyD
 value : ValueD
 release : Bool
 timed : Bool
 delay : Int
 time : Int
deriving DecidableEq
structure CueD where
 number : Int
 title : ByteArray
 delay : Int
 up : Int
 down : Int
 other : Int
 curve : CurveD
 block : Bool
 follow : Int
 moves : (List MoveD)
structure EntryD where
 key : KeyD
 value : ValueD
 cue : Int
deriving DecidableEq
structure MarkD where
 unit : Int
 frm : Int
 to : Int
deriving DecidableEq
structure ListD where
 number : Int
 cues : (List CueD)
structure PlaybackD where
 number : Int
 list : Int
 priority : Int
deriving DecidableEq
structure SetupD where
 rig : RigD
 presets : (List PresetD)
 lists : (List ListD)
 playbacks : (List PlaybackD)
structure ActionD where
 time : Int
 kind : Int
 playback : Int
 cue : Int
 level : Int
deriving DecidableEq
structure EventD where
 att : Int
 action : ActionD
deriving DecidableEq
structure StampD where
 hours : Int
 minutes : Int
 seconds : Int
 frames : Int
deriving DecidableEq
structure RunD where
 key : KeyD
 fade : FadeD
 claim : Int
 ending : Bool
structure StandingD where
 playback : Int
 cue : Int
 fader : Int
 paused : Bool
 follow : Int
 runs : (List RunD)
structure EffectStepD where
 level : Int
 hold : Int
 fade : Int
deriving DecidableEq
structure EffectD where
 form : Int
 low : Int
 high : Int
 cycle : Int
 width : Int
 spread : Int
 back : Bool
 relative : Bool
 steps : (List EffectStepD)
structure RateD where
 time : Int
 percent : Int
deriving DecidableEq
structure RunningD where
 effect : EffectD
 keys : (List KeyD)
 start : Int
 rates : (List RateD)
 inn : Int
 fin : Int
 out : Int
end Go.Proofs.Ytgjglkakhmikjaa

namespace Go.Proofs.Ytgjglkakhmikjaa
set_option linter.unusedSectionVars false
set_option linter.unusedSimpArgs false
set_option linter.unusedVariables false
set_option maxRecDepth 100000
noncomputable def r_slices_Index_int (a0 a1 : AV) (σ : Heap) : Option (AV × Heap) :=
 (A.lenS a0).bind fun x1 =>
 (A.loop (fun v2 s3 =>
   (A.lss (v2.getD 1 AV.undef) x1).bind fun x5 =>
   A.cond x5 (
    (A.iaddr 1 a0 (v2.getD 1 AV.undef)).bind fun x6 =>
    ((A.deref x6 s3).bind fun c7 => A.part1 0 c7).bind fun x8 =>
    (A.eql .i a1 x8).bind fun x9 =>
    A.cond x9 (
     some (AX.ret, [(v2.getD 1 AV.undef), (v2.getD 1 AV.undef)], s3)) (
     (A.add (v2.getD 1 AV.undef) (AV.int .i64 1)).bind fun x10 =>
     some (AX.normal, [(v2.getD 0 AV.undef), x10], s3))) (
    some (AX.exit 0, [(v2.getD 0 AV.undef), (v2.getD 1 AV.undef)], s3))) [(AV.int .i64 0), (AV.int .i64 0)] σ).bind fun r11 =>
 bif r11.1 == AX.exit 0 then (
  A.fin σ (AV.int .i64 (-1)) r11.2.2) else
 bif r11.1 == AX.ret then (
  A.fin σ (r11.2.1.getD 0 AV.undef) r11.2.2) else
 none
noncomputable def m_slices_Index_int : List AV → Heap → Option (AV × Heap) := A.wrap true [(.s 1)] .k (A.ar2 r_slices_Index_int)
noncomputable def r_slices_Contains_int (a0 a1 : AV) (σ : Heap) : Option (AV × Heap) :=
 (m_slices_Index_int [a0, a1] σ).bind fun r1 =>
 (A.geq r1.1 (AV.int .i64 0)).bind fun x2 =>
 A.fin σ x2 r1.2
noncomputable def m_slices_Contains_int : List AV → Heap → Option (AV × Heap) := A.wrap true [(.s 1)] .k (A.ar2 r_slices_Contains_int)
noncomputable def r_slices_Equal_int (a0 a1 : AV) (σ : Heap) : Option (AV × Heap) :=
 (A.lenS a0).bind fun x1 =>
 (A.lenS a1).bind fun x2 =>
 (A.neq .i x1 x2).bind fun x3 =>
 A.cond x3 (
  A.fin σ (AV.bool false) σ) (
  (A.lenS a0).bind fun x4 =>
  (A.loop (fun v5 s6 =>
    (A.lss (v5.getD 1 AV.undef) x4).bind fun x8 =>
    A.cond x8 (
     (A.iaddr 1 a0 (v5.getD 1 AV.undef)).bind fun x9 =>
     ((A.deref x9 s6).bind fun c10 => A.part1 0 c10).bind fun x11 =>
     (A.iaddr 1 a1 (v5.getD 1 AV.undef)).bind fun x12 =>
     ((A.deref x12 s6).bind fun c13 => A.part1 0 c13).bind fun x14 =>
     (A.neq .i x11 x14).bind fun x15 =>
     A.cond x15 (
      some (AX.ret, [(AV.bool false), (v5.getD 1 AV.undef)], s6)) (
      (A.add (v5.getD 1 AV.undef) (AV.int .i64 1)).bind fun x16 =>
      some (AX.normal, [(v5.getD 0 AV.undef), x16], s6))) (
     some (AX.exit 0, [(v5.getD 0 AV.undef), (v5.getD 1 AV.undef)], s6))) [(AV.bool false), (AV.int .i64 0)] σ).bind fun r17 =>
  bif r17.1 == AX.exit 0 then (
   A.fin σ (AV.bool true) r17.2.2) else
  bif r17.1 == AX.ret then (
   A.fin σ (r17.2.1.getD 0 AV.undef) r17.2.2) else
  none)
noncomputable def m_slices_Equal_int : List AV → Heap → Option (AV × Heap) := A.wrap true [(.s 1), (.s 1)] .k (A.ar2 r_slices_Equal_int)
end Go.Proofs.Ytgjglkakhmikjaa

namespace Go.Proofs.Ytgjglkakhmikjaa
set_option linter.unusedSectionVars false
set_option linter.unusedSimpArgs false
set_option linter.unusedVariables false
set_option maxRecDepth 100000
noncomputable def r_word_Within (a0 a1 a2 : AV) (σ : Heap) : Option (AV × Heap) :=
 (A.geq a0 a1).bind fun x1 =>
 (A.guard x1 true (some a0) (some (AV.tup []))).bind fun x2 =>
 (A.guard x1 true (some a2) (some (AV.tup []))).bind fun x3 =>
 (A.guard x1 true (A.leq x2 x3) (some (AV.tup []))).bind fun x4 =>
 (A.pick x1 x4 (AV.bool false)).bind fun x5 =>
 A.fin σ x5 σ
noncomputable def m_word_Within : List AV → Heap → Option (AV × Heap) := A.wrap true [] .k (A.ar3 r_word_Within)
end Go.Proofs.Ytgjglkakhmikjaa

namespace Go.Proofs.Ytgjglkakhmikjaa
set_option linter.unusedSectionVars false
set_option linter.unusedSimpArgs false
set_option linter.unusedVariables false
set_option maxRecDepth 100000
noncomputable def r_pick_size (rec : Nat → List AV → Heap → Option (AV × Heap)) (a0 : AV) (σ : Heap) : Option (AV × Heap) :=
 (A.cells 4 a0).bind fun c1 =>
 (A.part1 3 c1).bind fun x2 =>
 (A.lenS x2).bind fun x3 =>
 (A.loop (fun v4 s5 =>
   (A.lss (v4.getD 2 AV.undef) x3).bind fun x7 =>
   A.cond x7 (
    (A.iaddr 4 x2 (v4.getD 2 AV.undef)).bind fun x8 =>
    ((A.deref x8 s5).bind fun c9 => A.partA 0 4 c9).bind fun x10 =>
    (A.cells 4 x10).bind fun c11 =>
    (A.splice 0 c11 [(AV.int .i64 0), (AV.int .i64 0), (AV.int .i64 0), AV.nsl]).bind fun c12 =>
    (A.partA 0 4 c12).bind fun x13 =>
    (rec 37 [x13] s5).bind fun r14 =>
    (A.ext 0 r14.1).bind fun x15 =>
    (A.ext 1 r14.1).bind fun x16 =>
    (A.add (v4.getD 0 AV.undef) x15).bind fun x17 =>
    (A.add x16 (AV.int .i64 1)).bind fun x18 =>
    (A.max (v4.getD 1 AV.undef) x18).bind fun x19 =>
    (A.add (v4.getD 2 AV.undef) (AV.int .i64 1)).bind fun x20 =>
    some (AX.normal, [x17, x19, x20], r14.2)) (
    some (AX.exit 0, [(v4.getD 0 AV.undef), (v4.getD 1 AV.undef), (v4.getD 2 AV.undef)], s5))) [(AV.int .i64 1), (AV.int .i64 1), (AV.int .i64 0)] σ).bind fun r21 =>
 bif r21.1 == AX.exit 0 then (
  A.fin σ (AV.tup [(r21.2.1.getD 0 AV.undef), (r21.2.1.getD 1 AV.undef)]) r21.2.2) else
 none
noncomputable def R_pick_size (rec : Nat → List AV → Heap → Option (AV × Heap)) : List (Nat × (List AV → Heap → Option (AV × Heap))) := [(37, A.wrap true [(.a [.k, .k, .k, (.s 4)])] .k (A.ar1 (r_pick_size rec)))]
noncomputable def m_pick_size : List AV → Heap → Option (AV × Heap) := fuel (R_pick_size) 2000000 37
noncomputable def r_pick_check (rec : Nat → List AV → Heap → Option (AV × Heap)) (a0 : AV) (σ : Heap) : Option (AV × Heap) :=
 (A.cells 4 a0).bind fun c1 =>
 (A.part1 0 c1).bind fun x2 =>
 (A.eql .i x2 (AV.int .i64 1)).bind fun x3 =>
 A.cond x3 (
  (A.part1 3 c1).bind fun x4 =>
  (A.lenS x4).bind fun x5 =>
  (A.neq .i x5 (AV.int .i64 0)).bind fun x6 =>
  (A.part1 0 c1).bind fun x7 =>
  (A.eql .i x7 (AV.int .i64 4)).bind fun x8 =>
  (A.cond x8 (
   (A.part1 3 c1).bind fun x10 =>
   (A.lenS x10).bind fun x11 =>
   (A.lss x11 (AV.int .i64 2)).bind fun x12 =>
   some ([(AV.lbx c1), x12], σ)) (
   some ([(AV.lbx c1), x6], σ))).bind fun r9 =>
  (A.guard (r9.1.getD 1 AV.undef) false (some (AV.bool true)) (some (AV.tup []))).bind fun x13 =>
  (A.guard (r9.1.getD 1 AV.undef) false (A.not x13) (some (AV.tup []))).bind fun x14 =>
  (A.guard (r9.1.getD 1 AV.undef) false (some x14) (some (AV.tup []))).bind fun x15 =>
  ((A.lb (r9.1.getD 0 AV.undef)).bind fun _ => some (1)).bind fun p16 =>
    (A.guard x15 true ((A.lb (r9.1.getD 0 AV.undef)).bind fun c17 => A.part1 p16 c17) (some (AV.tup []))).bind fun x18 =>
  (A.guard x15 true (A.neq .i x18 (AV.int .i64 0)) (some (AV.tup []))).bind fun x19 =>
  (A.guard (r9.1.getD 1 AV.undef) false (A.pick x15 x19 (AV.bool false)) (some (AV.tup []))).bind fun x20 =>
  (A.pick (r9.1.getD 1 AV.undef) (AV.bool true) x20).bind fun x21 =>
  (A.guard x21 false (some (AV.bool true)) (some (AV.tup []))).bind fun x22 =>
  (A.guard x21 false (A.not x22) (some (AV.tup []))).bind fun x23 =>
  (A.guard x21 false (some x23) (some (AV.tup []))).bind fun x24 =>
  ((A.lb (r9.1.getD 0 AV.undef)).bind fun _ => some (2)).bind fun p25 =>
    (A.guard x24 true ((A.lb (r9.1.getD 0 AV.undef)).bind fun c26 => A.part1 p25 c26) (some (AV.tup []))).bind fun x27 =>
  (A.guard x24 true (A.neq .i x27 (AV.int .i64 0)) (some (AV.tup []))).bind fun x28 =>
  (A.guard x21 false (A.pick x24 x28 (AV.bool false)) (some (AV.tup []))).bind fun x29 =>
  (A.pick x21 (AV.bool true) x29).bind fun x30 =>
  A.cond x30 (
   A.fin σ (AV.int .i64 3) r9.2) (
   ((A.lb (r9.1.getD 0 AV.undef)).bind fun _ => some (0)).bind fun p31 =>
   ((A.lb (r9.1.getD 0 AV.undef)).bind fun c32 => A.part1 p31 c32).bind fun x33 =>
   (A.eql .i x33 (AV.int .i64 2)).bind fun x34 =>
   (A.cond x34 (
    some ([(r9.1.getD 0 AV.undef), (AV.int .i64 999)], r9.2)) (
    (A.eql .i x33 (AV.int .i64 3)).bind fun x36 =>
    (A.cond x36 (
     some ([(r9.1.getD 0 AV.undef), (AV.int .i64 999)], r9.2)) (
     some ([(r9.1.getD 0 AV.undef), (AV.int .i64 9999)], r9.2))).bind fun r37 =>
    some ([(r37.1.getD 0 AV.undef), (r37.1.getD 1 AV.undef)], r37.2))).bind fun r35 =>
   ((A.lb (r35.1.getD 0 AV.undef)).bind fun _ => some (1)).bind fun p38 =>
      (A.guard (AV.bool true) true ((A.lb (r35.1.getD 0 AV.undef)).bind fun c39 => A.part1 p38 c39) (some (AV.tup []))).bind fun x40 =>
   (A.guard (AV.bool true) true (some (r35.1.getD 1 AV.undef)) (some (AV.tup []))).bind fun x41 =>
   (A.guard (AV.bool true) true (A.quiet (m_word_Within [x40, (AV.int .i64 1), x41] r35.2) r35.2) (some (AV.tup []))).bind fun x42 =>
   (A.guard (AV.bool true) true (A.not x42) (some (AV.tup []))).bind fun x43 =>
   (A.pick (AV.bool true) x43 (AV.bool false)).bind fun x44 =>
   (A.guard x44 false (some (AV.bool true)) (some (AV.tup []))).bind fun x45 =>
   (A.guard x44 false (some x45) (some (AV.tup []))).bind fun x46 =>
   ((A.lb (r35.1.getD 0 AV.undef)).bind fun _ => some (2)).bind fun p47 =>
      (A.guard x46 true ((A.lb (r35.1.getD 0 AV.undef)).bind fun c48 => A.part1 p47 c48) (some (AV.tup []))).bind fun x49 =>
   (A.guard x46 true (some (r35.1.getD 1 AV.undef)) (some (AV.tup []))).bind fun x50 =>
   (A.guard x46 true (A.quiet (m_word_Within [x49, (AV.int .i64 1), x50] r35.2) r35.2) (some (AV.tup []))).bind fun x51 =>
   (A.guard x46 true (A.not x51) (some (AV.tup []))).bind fun x52 =>
   (A.guard x44 false (A.pick x46 x52 (AV.bool false)) (some (AV.tup []))).bind fun x53 =>
   (A.pick x44 (AV.bool true) x53).bind fun x54 =>
   A.cond x54 (
    A.fin σ (AV.int .i64 1) r35.2) (
    ((A.lb (r35.1.getD 0 AV.undef)).bind fun _ => some (3)).bind fun p55 =>
    ((A.lb (r35.1.getD 0 AV.undef)).bind fun c56 => A.part1 p55 c56).bind fun x57 =>
    (A.lenS x57).bind fun x58 =>
    (A.loop (fun v59 s60 =>
      (A.lss (v59.getD 1 AV.undef) x58).bind fun x62 =>
      A.cond x62 (
       (A.iaddr 4 x57 (v59.getD 1 AV.undef)).bind fun x63 =>
       ((A.deref x63 s60).bind fun c64 => A.partA 0 4 c64).bind fun x65 =>
       (A.cells 4 x65).bind fun c66 =>
       (A.splice 0 c66 [(AV.int .i64 0), (AV.int .i64 0), (AV.int .i64 0), AV.nsl]).bind fun c67 =>
       (A.partA 0 4 c67).bind fun x68 =>
       (rec 38 [x68] s60).bind fun r69 =>
       (A.neq .i r69.1 (AV.int .i64 0)).bind fun x70 =>
       A.cond x70 (
        some (AX.ret, [r69.1, (v59.getD 1 AV.undef)], r69.2)) (
        (A.add (v59.getD 1 AV.undef) (AV.int .i64 1)).bind fun x71 =>
        some (AX.normal, [(v59.getD 0 AV.undef), x71], r69.2))) (
       some (AX.exit 2, [(v59.getD 0 AV.undef), (v59.getD 1 AV.undef)], s60))) [(AV.int .i64 0), (AV.int .i64 0)] r35.2).bind fun r72 =>
    bif r72.1 == AX.exit 2 then (
     A.fin σ (AV.int .i64 0) r72.2.2) else
    bif r72.1 == AX.ret then (
     A.fin σ (r72.2.1.getD 0 AV.undef) r72.2.2) else
    none))) (
  (A.eql .i x2 (AV.int .i64 2)).bind fun x73 =>
  (A.cond x73 (
   some ([(AV.lbx c1), x73], σ)) (
   (A.eql .i x2 (AV.int .i64 3)).bind fun x75 =>
   some ([(AV.lbx c1), x75], σ))).bind fun r74 =>
  A.cond (r74.1.getD 1 AV.undef) (
   ((A.lb (r74.1.getD 0 AV.undef)).bind fun _ => some (3)).bind fun p76 =>
   ((A.lb (r74.1.getD 0 AV.undef)).bind fun c77 => A.part1 p76 c77).bind fun x78 =>
   (A.lenS x78).bind fun x79 =>
   (A.neq .i x79 (AV.int .i64 0)).bind fun x80 =>
   ((A.lb (r74.1.getD 0 AV.undef)).bind fun _ => some (0)).bind fun p81 =>
   ((A.lb (r74.1.getD 0 AV.undef)).bind fun c82 => A.part1 p81 c82).bind fun x83 =>
   (A.eql .i x83 (AV.int .i64 4)).bind fun x84 =>
   (A.cond x84 (
    ((A.lb (r74.1.getD 0 AV.undef)).bind fun _ => some (3)).bind fun p86 =>
    ((A.lb (r74.1.getD 0 AV.undef)).bind fun c87 => A.part1 p86 c87).bind fun x88 =>
    (A.lenS x88).bind fun x89 =>
    (A.lss x89 (AV.int .i64 2)).bind fun x90 =>
    some ([(r74.1.getD 0 AV.undef), x90], r74.2)) (
    some ([(r74.1.getD 0 AV.undef), x80], r74.2))).bind fun r85 =>
   (A.guard (r85.1.getD 1 AV.undef) false (some (AV.bool true)) (some (AV.tup []))).bind fun x91 =>
   (A.guard (r85.1.getD 1 AV.undef) false (A.not x91) (some (AV.tup []))).bind fun x92 =>
   (A.guard (r85.1.getD 1 AV.undef) false (some x92) (some (AV.tup []))).bind fun x93 =>
   ((A.lb (r85.1.getD 0 AV.undef)).bind fun _ => some (1)).bind fun p94 =>
      (A.guard x93 true ((A.lb (r85.1.getD 0 AV.undef)).bind fun c95 => A.part1 p94 c95) (some (AV.tup []))).bind fun x96 =>
   (A.guard x93 true (A.neq .i x96 (AV.int .i64 0)) (some (AV.tup []))).bind fun x97 =>
   (A.guard (r85.1.getD 1 AV.undef) false (A.pick x93 x97 (AV.bool false)) (some (AV.tup []))).bind fun x98 =>
   (A.pick (r85.1.getD 1 AV.undef) (AV.bool true) x98).bind fun x99 =>
   (A.guard x99 false (some (AV.bool false)) (some (AV.tup []))).bind fun x100 =>
   (A.guard x99 false (A.not x100) (some (AV.tup []))).bind fun x101 =>
   (A.guard x99 false (some x101) (some (AV.tup []))).bind fun x102 =>
   ((A.lb (r85.1.getD 0 AV.undef)).bind fun _ => some (2)).bind fun p103 =>
      (A.guard x102 true ((A.lb (r85.1.getD 0 AV.undef)).bind fun c104 => A.part1 p103 c104) (some (AV.tup []))).bind fun x105 =>
   (A.guard x102 true (A.neq .i x105 (AV.int .i64 0)) (some (AV.tup []))).bind fun x106 =>
   (A.guard x99 false (A.pick x102 x106 (AV.bool false)) (some (AV.tup []))).bind fun x107 =>
   (A.pick x99 (AV.bool true) x107).bind fun x108 =>
   A.cond x108 (
    A.fin σ (AV.int .i64 3) r85.2) (
    ((A.lb (r85.1.getD 0 AV.undef)).bind fun _ => some (0)).bind fun p109 =>
    ((A.lb (r85.1.getD 0 AV.undef)).bind fun c110 => A.part1 p109 c110).bind fun x111 =>
    (A.eql .i x111 (AV.int .i64 2)).bind fun x112 =>
    (A.cond x112 (
     some ([(r85.1.getD 0 AV.undef), (AV.int .i64 999)], r85.2)) (
     (A.eql .i x111 (AV.int .i64 3)).bind fun x114 =>
     (A.cond x114 (
      some ([(r85.1.getD 0 AV.undef), (AV.int .i64 999)], r85.2)) (
      some ([(r85.1.getD 0 AV.undef), (AV.int .i64 9999)], r85.2))).bind fun r115 =>
     some ([(r115.1.getD 0 AV.undef), (r115.1.getD 1 AV.undef)], r115.2))).bind fun r113 =>
    ((A.lb (r113.1.getD 0 AV.undef)).bind fun _ => some (1)).bind fun p116 =>
        (A.guard (AV.bool true) true ((A.lb (r113.1.getD 0 AV.undef)).bind fun c117 => A.part1 p116 c117) (some (AV.tup []))).bind fun x118 =>
    (A.guard (AV.bool true) true (some (r113.1.getD 1 AV.undef)) (some (AV.tup []))).bind fun x119 =>
    (A.guard (AV.bool true) true (A.quiet (m_word_Within [x118, (AV.int .i64 1), x119] r113.2) r113.2) (some (AV.tup []))).bind fun x120 =>
    (A.guard (AV.bool true) true (A.not x120) (some (AV.tup []))).bind fun x121 =>
    (A.pick (AV.bool true) x121 (AV.bool false)).bind fun x122 =>
    (A.guard x122 false (some (AV.bool false)) (some (AV.tup []))).bind fun x123 =>
    (A.guard x122 false (some x123) (some (AV.tup []))).bind fun x124 =>
    ((A.lb (r113.1.getD 0 AV.undef)).bind fun _ => some (2)).bind fun p125 =>
        (A.guard x124 true ((A.lb (r113.1.getD 0 AV.undef)).bind fun c126 => A.part1 p125 c126) (some (AV.tup []))).bind fun x127 =>
    (A.guard x124 true (some (r113.1.getD 1 AV.undef)) (some (AV.tup []))).bind fun x128 =>
    (A.guard x124 true (A.quiet (m_word_Within [x127, (AV.int .i64 1), x128] r113.2) r113.2) (some (AV.tup []))).bind fun x129 =>
    (A.guard x124 true (A.not x129) (some (AV.tup []))).bind fun x130 =>
    (A.guard x122 false (A.pick x124 x130 (AV.bool false)) (some (AV.tup []))).bind fun x131 =>
    (A.pick x122 (AV.bool true) x131).bind fun x132 =>
    A.cond x132 (
     A.fin σ (AV.int .i64 1) r113.2) (
     ((A.lb (r113.1.getD 0 AV.undef)).bind fun _ => some (3)).bind fun p133 =>
     ((A.lb (r113.1.getD 0 AV.undef)).bind fun c134 => A.part1 p133 c134).bind fun x135 =>
     (A.lenS x135).bind fun x136 =>
     (A.loop (fun v137 s138 =>
       (A.lss (v137.getD 1 AV.undef) x136).bind fun x140 =>
       A.cond x140 (
        (A.iaddr 4 x135 (v137.getD 1 AV.undef)).bind fun x141 =>
        ((A.deref x141 s138).bind fun c142 => A.partA 0 4 c142).bind fun x143 =>
        (A.cells 4 x143).bind fun c144 =>
        (A.splice 0 c144 [(AV.int .i64 0), (AV.int .i64 0), (AV.int .i64 0), AV.nsl]).bind fun c145 =>
        (A.partA 0 4 c145).bind fun x146 =>
        (rec 38 [x146] s138).bind fun r147 =>
        (A.neq .i r147.1 (AV.int .i64 0)).bind fun x148 =>
        A.cond x148 (
         some (AX.ret, [r147.1, (v137.getD 1 AV.undef)], r147.2)) (
         (A.add (v137.getD 1 AV.undef) (AV.int .i64 1)).bind fun x149 =>
         some (AX.normal, [(v137.getD 0 AV.undef), x149], r147.2))) (
        some (AX.exit 2, [(v137.getD 0 AV.undef), (v137.getD 1 AV.undef)], s138))) [(AV.int .i64 0), (AV.int .i64 0)] r113.2).bind fun r150 =>
     bif r150.1 == AX.exit 2 then (
      A.fin σ (AV.int .i64 0) r150.2.2) else
     bif r150.1 == AX.ret then (
      A.fin σ (r150.2.1.getD 0 AV.undef) r150.2.2) else
     none))) (
   (A.eql .i x2 (AV.int .i64 4)).bind fun x151 =>
   (A.cond x151 (
    some ([(r74.1.getD 0 AV.undef), x151], r74.2)) (
    (A.eql .i x2 (AV.int .i64 5)).bind fun x153 =>
    some ([(r74.1.getD 0 AV.undef), x153], r74.2))).bind fun r152 =>
   A.cond (r152.1.getD 1 AV.undef) (
    ((A.lb (r152.1.getD 0 AV.undef)).bind fun _ => some (3)).bind fun p154 =>
    ((A.lb (r152.1.getD 0 AV.undef)).bind fun c155 => A.part1 p154 c155).bind fun x156 =>
    (A.lenS x156).bind fun x157 =>
    (A.neq .i x157 (AV.int .i64 2)).bind fun x158 =>
    ((A.lb (r152.1.getD 0 AV.undef)).bind fun _ => some (0)).bind fun p159 =>
    ((A.lb (r152.1.getD 0 AV.undef)).bind fun c160 => A.part1 p159 c160).bind fun x161 =>
    (A.eql .i x161 (AV.int .i64 4)).bind fun x162 =>
    (A.cond x162 (
     ((A.lb (r152.1.getD 0 AV.undef)).bind fun _ => some (3)).bind fun p164 =>
     ((A.lb (r152.1.getD 0 AV.undef)).bind fun c165 => A.part1 p164 c165).bind fun x166 =>
     (A.lenS x166).bind fun x167 =>
     (A.lss x167 (AV.int .i64 2)).bind fun x168 =>
     some ([(r152.1.getD 0 AV.undef), x168], r152.2)) (
     some ([(r152.1.getD 0 AV.undef), x158], r152.2))).bind fun r163 =>
    (A.guard (r163.1.getD 1 AV.undef) false (some (AV.bool false)) (some (AV.tup []))).bind fun x169 =>
    (A.guard (r163.1.getD 1 AV.undef) false (A.not x169) (some (AV.tup []))).bind fun x170 =>
    (A.guard (r163.1.getD 1 AV.undef) false (some x170) (some (AV.tup []))).bind fun x171 =>
    ((A.lb (r163.1.getD 0 AV.undef)).bind fun _ => some (1)).bind fun p172 =>
        (A.guard x171 true ((A.lb (r163.1.getD 0 AV.undef)).bind fun c173 => A.part1 p172 c173) (some (AV.tup []))).bind fun x174 =>
    (A.guard x171 true (A.neq .i x174 (AV.int .i64 0)) (some (AV.tup []))).bind fun x175 =>
    (A.guard (r163.1.getD 1 AV.undef) false (A.pick x171 x175 (AV.bool false)) (some (AV.tup []))).bind fun x176 =>
    (A.pick (r163.1.getD 1 AV.undef) (AV.bool true) x176).bind fun x177 =>
    (A.guard x177 false (some (AV.bool false)) (some (AV.tup []))).bind fun x178 =>
    (A.guard x177 false (A.not x178) (some (AV.tup []))).bind fun x179 =>
    (A.guard x177 false (some x179) (some (AV.tup []))).bind fun x180 =>
    ((A.lb (r163.1.getD 0 AV.undef)).bind fun _ => some (2)).bind fun p181 =>
        (A.guard x180 true ((A.lb (r163.1.getD 0 AV.undef)).bind fun c182 => A.part1 p181 c182) (some (AV.tup []))).bind fun x183 =>
    (A.guard x180 true (A.neq .i x183 (AV.int .i64 0)) (some (AV.tup []))).bind fun x184 =>
    (A.guard x177 false (A.pick x180 x184 (AV.bool false)) (some (AV.tup []))).bind fun x185 =>
    (A.pick x177 (AV.bool true) x185).bind fun x186 =>
    A.cond x186 (
     A.fin σ (AV.int .i64 3) r163.2) (
     ((A.lb (r163.1.getD 0 AV.undef)).bind fun _ => some (0)).bind fun p187 =>
     ((A.lb (r163.1.getD 0 AV.undef)).bind fun c188 => A.part1 p187 c188).bind fun x189 =>
     (A.eql .i x189 (AV.int .i64 2)).bind fun x190 =>
     (A.cond x190 (
      some ([(r163.1.getD 0 AV.undef), (AV.int .i64 999)], r163.2)) (
      (A.eql .i x189 (AV.int .i64 3)).bind fun x192 =>
      (A.cond x192 (
       some ([(r163.1.getD 0 AV.undef), (AV.int .i64 999)], r163.2)) (
       some ([(r163.1.getD 0 AV.undef), (AV.int .i64 9999)], r163.2))).bind fun r193 =>
      some ([(r193.1.getD 0 AV.undef), (r193.1.getD 1 AV.undef)], r193.2))).bind fun r191 =>
     ((A.lb (r191.1.getD 0 AV.undef)).bind fun _ => some (1)).bind fun p194 =>
          (A.guard (AV.bool false) true ((A.lb (r191.1.getD 0 AV.undef)).bind fun c195 => A.part1 p194 c195) (some (AV.tup []))).bind fun x196 =>
     (A.guard (AV.bool false) true (some (r191.1.getD 1 AV.undef)) (some (AV.tup []))).bind fun x197 =>
     (A.guard (AV.bool false) true (A.quiet (m_word_Within [x196, (AV.int .i64 1), x197] r191.2) r191.2) (some (AV.tup []))).bind fun x198 =>
     (A.guard (AV.bool false) true (A.not x198) (some (AV.tup []))).bind fun x199 =>
     (A.pick (AV.bool false) x199 (AV.bool false)).bind fun x200 =>
     (A.guard x200 false (some (AV.bool false)) (some (AV.tup []))).bind fun x201 =>
     (A.guard x200 false (some x201) (some (AV.tup []))).bind fun x202 =>
     ((A.lb (r191.1.getD 0 AV.undef)).bind fun _ => some (2)).bind fun p203 =>
          (A.guard x202 true ((A.lb (r191.1.getD 0 AV.undef)).bind fun c204 => A.part1 p203 c204) (some (AV.tup []))).bind fun x205 =>
     (A.guard x202 true (some (r191.1.getD 1 AV.undef)) (some (AV.tup []))).bind fun x206 =>
     (A.guard x202 true (A.quiet (m_word_Within [x205, (AV.int .i64 1), x206] r191.2) r191.2) (some (AV.tup []))).bind fun x207 =>
     (A.guard x202 true (A.not x207) (some (AV.tup []))).bind fun x208 =>
     (A.guard x200 false (A.pick x202 x208 (AV.bool false)) (some (AV.tup []))).bind fun x209 =>
     (A.pick x200 (AV.bool true) x209).bind fun x210 =>
     A.cond x210 (
      A.fin σ (AV.int .i64 1) r191.2) (
      ((A.lb (r191.1.getD 0 AV.undef)).bind fun _ => some (3)).bind fun p211 =>
      ((A.lb (r191.1.getD 0 AV.undef)).bind fun c212 => A.part1 p211 c212).bind fun x213 =>
      (A.lenS x213).bind fun x214 =>
      (A.loop (fun v215 s216 =>
        (A.lss (v215.getD 1 AV.undef) x214).bind fun x218 =>
        A.cond x218 (
         (A.iaddr 4 x213 (v215.getD 1 AV.undef)).bind fun x219 =>
         ((A.deref x219 s216).bind fun c220 => A.partA 0 4 c220).bind fun x221 =>
         (A.cells 4 x221).bind fun c222 =>
         (A.splice 0 c222 [(AV.int .i64 0), (AV.int .i64 0), (AV.int .i64 0), AV.nsl]).bind fun c223 =>
         (A.partA 0 4 c223).bind fun x224 =>
         (rec 38 [x224] s216).bind fun r225 =>
         (A.neq .i r225.1 (AV.int .i64 0)).bind fun x226 =>
         A.cond x226 (
          some (AX.ret, [r225.1, (v215.getD 1 AV.undef)], r225.2)) (
          (A.add (v215.getD 1 AV.undef) (AV.int .i64 1)).bind fun x227 =>
          some (AX.normal, [(v215.getD 0 AV.undef), x227], r225.2))) (
         some (AX.exit 2, [(v215.getD 0 AV.undef), (v215.getD 1 AV.undef)], s216))) [(AV.int .i64 0), (AV.int .i64 0)] r191.2).bind fun r228 =>
      bif r228.1 == AX.exit 2 then (
       A.fin σ (AV.int .i64 0) r228.2.2) else
      bif r228.1 == AX.ret then (
       A.fin σ (r228.2.1.getD 0 AV.undef) r228.2.2) else
      none))) (
    (A.eql .i x2 (AV.int .i64 6)).bind fun x229 =>
    (A.cond x229 (
     some ([(r152.1.getD 0 AV.undef), x229], r152.2)) (
     (A.eql .i x2 (AV.int .i64 7)).bind fun x231 =>
     (A.cond x231 (
      some ([(r152.1.getD 0 AV.undef), x231], r152.2)) (
      (A.eql .i x2 (AV.int .i64 8)).bind fun x233 =>
      some ([(r152.1.getD 0 AV.undef), x233], r152.2))).bind fun r232 =>
     some ([(r232.1.getD 0 AV.undef), (r232.1.getD 1 AV.undef)], r232.2))).bind fun r230 =>
    A.cond (r230.1.getD 1 AV.undef) (
     ((A.lb (r230.1.getD 0 AV.undef)).bind fun _ => some (3)).bind fun p234 =>
     ((A.lb (r230.1.getD 0 AV.undef)).bind fun c235 => A.part1 p234 c235).bind fun x236 =>
     (A.lenS x236).bind fun x237 =>
     (A.neq .i x237 (AV.int .i64 1)).bind fun x238 =>
     ((A.lb (r230.1.getD 0 AV.undef)).bind fun _ => some (0)).bind fun p239 =>
     ((A.lb (r230.1.getD 0 AV.undef)).bind fun c240 => A.part1 p239 c240).bind fun x241 =>
     (A.eql .i x241 (AV.int .i64 4)).bind fun x242 =>
     (A.cond x242 (
      ((A.lb (r230.1.getD 0 AV.undef)).bind fun _ => some (3)).bind fun p244 =>
      ((A.lb (r230.1.getD 0 AV.undef)).bind fun c245 => A.part1 p244 c245).bind fun x246 =>
      (A.lenS x246).bind fun x247 =>
      (A.lss x247 (AV.int .i64 2)).bind fun x248 =>
      some ([(r230.1.getD 0 AV.undef), x248], r230.2)) (
      some ([(r230.1.getD 0 AV.undef), x238], r230.2))).bind fun r243 =>
     (A.guard (r243.1.getD 1 AV.undef) false (some (AV.bool false)) (some (AV.tup []))).bind fun x249 =>
     (A.guard (r243.1.getD 1 AV.undef) false (A.not x249) (some (AV.tup []))).bind fun x250 =>
     (A.guard (r243.1.getD 1 AV.undef) false (some x250) (some (AV.tup []))).bind fun x251 =>
     ((A.lb (r243.1.getD 0 AV.undef)).bind fun _ => some (1)).bind fun p252 =>
          (A.guard x251 true ((A.lb (r243.1.getD 0 AV.undef)).bind fun c253 => A.part1 p252 c253) (some (AV.tup []))).bind fun x254 =>
     (A.guard x251 true (A.neq .i x254 (AV.int .i64 0)) (some (AV.tup []))).bind fun x255 =>
     (A.guard (r243.1.getD 1 AV.undef) false (A.pick x251 x255 (AV.bool false)) (some (AV.tup []))).bind fun x256 =>
     (A.pick (r243.1.getD 1 AV.undef) (AV.bool true) x256).bind fun x257 =>
     (A.guard x257 false (some (AV.bool false)) (some (AV.tup []))).bind fun x258 =>
     (A.guard x257 false (A.not x258) (some (AV.tup []))).bind fun x259 =>
     (A.guard x257 false (some x259) (some (AV.tup []))).bind fun x260 =>
     ((A.lb (r243.1.getD 0 AV.undef)).bind fun _ => some (2)).bind fun p261 =>
          (A.guard x260 true ((A.lb (r243.1.getD 0 AV.undef)).bind fun c262 => A.part1 p261 c262) (some (AV.tup []))).bind fun x263 =>
     (A.guard x260 true (A.neq .i x263 (AV.int .i64 0)) (some (AV.tup []))).bind fun x264 =>
     (A.guard x257 false (A.pick x260 x264 (AV.bool false)) (some (AV.tup []))).bind fun x265 =>
     (A.pick x257 (AV.bool true) x265).bind fun x266 =>
     A.cond x266 (
      A.fin σ (AV.int .i64 3) r243.2) (
      ((A.lb (r243.1.getD 0 AV.undef)).bind fun _ => some (0)).bind fun p267 =>
      ((A.lb (r243.1.getD 0 AV.undef)).bind fun c268 => A.part1 p267 c268).bind fun x269 =>
      (A.eql .i x269 (AV.int .i64 2)).bind fun x270 =>
      (A.cond x270 (
       some ([(r243.1.getD 0 AV.undef), (AV.int .i64 999)], r243.2)) (
       (A.eql .i x269 (AV.int .i64 3)).bind fun x272 =>
       (A.cond x272 (
        some ([(r243.1.getD 0 AV.undef), (AV.int .i64 999)], r243.2)) (
        some ([(r243.1.getD 0 AV.undef), (AV.int .i64 9999)], r243.2))).bind fun r273 =>
       some ([(r273.1.getD 0 AV.undef), (r273.1.getD 1 AV.undef)], r273.2))).bind fun r271 =>
      ((A.lb (r271.1.getD 0 AV.undef)).bind fun _ => some (1)).bind fun p274 =>
            (A.guard (AV.bool false) true ((A.lb (r271.1.getD 0 AV.undef)).bind fun c275 => A.part1 p274 c275) (some (AV.tup []))).bind fun x276 =>
      (A.guard (AV.bool false) true (some (r271.1.getD 1 AV.undef)) (some (AV.tup []))).bind fun x277 =>
      (A.guard (AV.bool false) true (A.quiet (m_word_Within [x276, (AV.int .i64 1), x277] r271.2) r271.2) (some (AV.tup []))).bind fun x278 =>
      (A.guard (AV.bool false) true (A.not x278) (some (AV.tup []))).bind fun x279 =>
      (A.pick (AV.bool false) x279 (AV.bool false)).bind fun x280 =>
      (A.guard x280 false (some (AV.bool false)) (some (AV.tup []))).bind fun x281 =>
      (A.guard x280 false (some x281) (some (AV.tup []))).bind fun x282 =>
      ((A.lb (r271.1.getD 0 AV.undef)).bind fun _ => some (2)).bind fun p283 =>
            (A.guard x282 true ((A.lb (r271.1.getD 0 AV.undef)).bind fun c284 => A.part1 p283 c284) (some (AV.tup []))).bind fun x285 =>
      (A.guard x282 true (some (r271.1.getD 1 AV.undef)) (some (AV.tup []))).bind fun x286 =>
      (A.guard x282 true (A.quiet (m_word_Within [x285, (AV.int .i64 1), x286] r271.2) r271.2) (some (AV.tup []))).bind fun x287 =>
      (A.guard x282 true (A.not x287) (some (AV.tup []))).bind fun x288 =>
      (A.guard x280 false (A.pick x282 x288 (AV.bool false)) (some (AV.tup []))).bind fun x289 =>
      (A.pick x280 (AV.bool true) x289).bind fun x290 =>
      A.cond x290 (
       A.fin σ (AV.int .i64 1) r271.2) (
       ((A.lb (r271.1.getD 0 AV.undef)).bind fun _ => some (3)).bind fun p291 =>
       ((A.lb (r271.1.getD 0 AV.undef)).bind fun c292 => A.part1 p291 c292).bind fun x293 =>
       (A.lenS x293).bind fun x294 =>
       (A.loop (fun v295 s296 =>
         (A.lss (v295.getD 1 AV.undef) x294).bind fun x298 =>
         A.cond x298 (
          (A.iaddr 4 x293 (v295.getD 1 AV.undef)).bind fun x299 =>
          ((A.deref x299 s296).bind fun c300 => A.partA 0 4 c300).bind fun x301 =>
          (A.cells 4 x301).bind fun c302 =>
          (A.splice 0 c302 [(AV.int .i64 0), (AV.int .i64 0), (AV.int .i64 0), AV.nsl]).bind fun c303 =>
          (A.partA 0 4 c303).bind fun x304 =>
          (rec 38 [x304] s296).bind fun r305 =>
          (A.neq .i r305.1 (AV.int .i64 0)).bind fun x306 =>
          A.cond x306 (
           some (AX.ret, [r305.1, (v295.getD 1 AV.undef)], r305.2)) (
           (A.add (v295.getD 1 AV.undef) (AV.int .i64 1)).bind fun x307 =>
           some (AX.normal, [(v295.getD 0 AV.undef), x307], r305.2))) (
          some (AX.exit 2, [(v295.getD 0 AV.undef), (v295.getD 1 AV.undef)], s296))) [(AV.int .i64 0), (AV.int .i64 0)] r271.2).bind fun r308 =>
       bif r308.1 == AX.exit 2 then (
        A.fin σ (AV.int .i64 0) r308.2.2) else
       bif r308.1 == AX.ret then (
        A.fin σ (r308.2.1.getD 0 AV.undef) r308.2.2) else
       none))) (
     (A.eql .i x2 (AV.int .i64 9)).bind fun x309 =>
     A.cond x309 (
      ((A.lb (r230.1.getD 0 AV.undef)).bind fun _ => some (3)).bind fun p310 =>
      ((A.lb (r230.1.getD 0 AV.undef)).bind fun c311 => A.part1 p310 c311).bind fun x312 =>
      (A.lenS x312).bind fun x313 =>
      (A.neq .i x313 (AV.int .i64 1)).bind fun x314 =>
      ((A.lb (r230.1.getD 0 AV.undef)).bind fun _ => some (0)).bind fun p315 =>
      ((A.lb (r230.1.getD 0 AV.undef)).bind fun c316 => A.part1 p315 c316).bind fun x317 =>
      (A.eql .i x317 (AV.int .i64 4)).bind fun x318 =>
      (A.cond x318 (
       ((A.lb (r230.1.getD 0 AV.undef)).bind fun _ => some (3)).bind fun p320 =>
       ((A.lb (r230.1.getD 0 AV.undef)).bind fun c321 => A.part1 p320 c321).bind fun x322 =>
       (A.lenS x322).bind fun x323 =>
       (A.lss x323 (AV.int .i64 2)).bind fun x324 =>
       some ([(r230.1.getD 0 AV.undef), x324], r230.2)) (
       some ([(r230.1.getD 0 AV.undef), x314], r230.2))).bind fun r319 =>
      (A.guard (r319.1.getD 1 AV.undef) false (some (AV.bool true)) (some (AV.tup []))).bind fun x325 =>
      (A.guard (r319.1.getD 1 AV.undef) false (A.not x325) (some (AV.tup []))).bind fun x326 =>
      (A.guard (r319.1.getD 1 AV.undef) false (some x326) (some (AV.tup []))).bind fun x327 =>
      ((A.lb (r319.1.getD 0 AV.undef)).bind fun _ => some (1)).bind fun p328 =>
            (A.guard x327 true ((A.lb (r319.1.getD 0 AV.undef)).bind fun c329 => A.part1 p328 c329) (some (AV.tup []))).bind fun x330 =>
      (A.guard x327 true (A.neq .i x330 (AV.int .i64 0)) (some (AV.tup []))).bind fun x331 =>
      (A.guard (r319.1.getD 1 AV.undef) false (A.pick x327 x331 (AV.bool false)) (some (AV.tup []))).bind fun x332 =>
      (A.pick (r319.1.getD 1 AV.undef) (AV.bool true) x332).bind fun x333 =>
      (A.guard x333 false (some (AV.bool true)) (some (AV.tup []))).bind fun x334 =>
      (A.guard x333 false (A.not x334) (some (AV.tup []))).bind fun x335 =>
      (A.guard x333 false (some x335) (some (AV.tup []))).bind fun x336 =>
      ((A.lb (r319.1.getD 0 AV.undef)).bind fun _ => some (2)).bind fun p337 =>
            (A.guard x336 true ((A.lb (r319.1.getD 0 AV.undef)).bind fun c338 => A.part1 p337 c338) (some (AV.tup []))).bind fun x339 =>
      (A.guard x336 true (A.neq .i x339 (AV.int .i64 0)) (some (AV.tup []))).bind fun x340 =>
      (A.guard x333 false (A.pick x336 x340 (AV.bool false)) (some (AV.tup []))).bind fun x341 =>
      (A.pick x333 (AV.bool true) x341).bind fun x342 =>
      A.cond x342 (
       A.fin σ (AV.int .i64 3) r319.2) (
       ((A.lb (r319.1.getD 0 AV.undef)).bind fun _ => some (0)).bind fun p343 =>
       ((A.lb (r319.1.getD 0 AV.undef)).bind fun c344 => A.part1 p343 c344).bind fun x345 =>
       (A.eql .i x345 (AV.int .i64 2)).bind fun x346 =>
       (A.cond x346 (
        some ([(r319.1.getD 0 AV.undef), (AV.int .i64 999)], r319.2)) (
        (A.eql .i x345 (AV.int .i64 3)).bind fun x348 =>
        (A.cond x348 (
         some ([(r319.1.getD 0 AV.undef), (AV.int .i64 999)], r319.2)) (
         some ([(r319.1.getD 0 AV.undef), (AV.int .i64 9999)], r319.2))).bind fun r349 =>
        some ([(r349.1.getD 0 AV.undef), (r349.1.getD 1 AV.undef)], r349.2))).bind fun r347 =>
       ((A.lb (r347.1.getD 0 AV.undef)).bind fun _ => some (1)).bind fun p350 =>
              (A.guard (AV.bool true) true ((A.lb (r347.1.getD 0 AV.undef)).bind fun c351 => A.part1 p350 c351) (some (AV.tup []))).bind fun x352 =>
       (A.guard (AV.bool true) true (some (r347.1.getD 1 AV.undef)) (some (AV.tup []))).bind fun x353 =>
       (A.guard (AV.bool true) true (A.quiet (m_word_Within [x352, (AV.int .i64 1), x353] r347.2) r347.2) (some (AV.tup []))).bind fun x354 =>
       (A.guard (AV.bool true) true (A.not x354) (some (AV.tup []))).bind fun x355 =>
       (A.pick (AV.bool true) x355 (AV.bool false)).bind fun x356 =>
       (A.guard x356 false (some (AV.bool true)) (some (AV.tup []))).bind fun x357 =>
       (A.guard x356 false (some x357) (some (AV.tup []))).bind fun x358 =>
       ((A.lb (r347.1.getD 0 AV.undef)).bind fun _ => some (2)).bind fun p359 =>
              (A.guard x358 true ((A.lb (r347.1.getD 0 AV.undef)).bind fun c360 => A.part1 p359 c360) (some (AV.tup []))).bind fun x361 =>
       (A.guard x358 true (some (r347.1.getD 1 AV.undef)) (some (AV.tup []))).bind fun x362 =>
       (A.guard x358 true (A.quiet (m_word_Within [x361, (AV.int .i64 1), x362] r347.2) r347.2) (some (AV.tup []))).bind fun x363 =>
       (A.guard x358 true (A.not x363) (some (AV.tup []))).bind fun x364 =>
       (A.guard x356 false (A.pick x358 x364 (AV.bool false)) (some (AV.tup []))).bind fun x365 =>
       (A.pick x356 (AV.bool true) x365).bind fun x366 =>
       A.cond x366 (
        A.fin σ (AV.int .i64 1) r347.2) (
        ((A.lb (r347.1.getD 0 AV.undef)).bind fun _ => some (3)).bind fun p367 =>
        ((A.lb (r347.1.getD 0 AV.undef)).bind fun c368 => A.part1 p367 c368).bind fun x369 =>
        (A.lenS x369).bind fun x370 =>
        (A.loop (fun v371 s372 =>
          (A.lss (v371.getD 1 AV.undef) x370).bind fun x374 =>
          A.cond x374 (
           (A.iaddr 4 x369 (v371.getD 1 AV.undef)).bind fun x375 =>
           ((A.deref x375 s372).bind fun c376 => A.partA 0 4 c376).bind fun x377 =>
           (A.cells 4 x377).bind fun c378 =>
           (A.splice 0 c378 [(AV.int .i64 0), (AV.int .i64 0), (AV.int .i64 0), AV.nsl]).bind fun c379 =>
           (A.partA 0 4 c379).bind fun x380 =>
           (rec 38 [x380] s372).bind fun r381 =>
           (A.neq .i r381.1 (AV.int .i64 0)).bind fun x382 =>
           A.cond x382 (
            some (AX.ret, [r381.1, (v371.getD 1 AV.undef)], r381.2)) (
            (A.add (v371.getD 1 AV.undef) (AV.int .i64 1)).bind fun x383 =>
            some (AX.normal, [(v371.getD 0 AV.undef), x383], r381.2))) (
           some (AX.exit 2, [(v371.getD 0 AV.undef), (v371.getD 1 AV.undef)], s372))) [(AV.int .i64 0), (AV.int .i64 0)] r347.2).bind fun r384 =>
        bif r384.1 == AX.exit 2 then (
         A.fin σ (AV.int .i64 0) r384.2.2) else
        bif r384.1 == AX.ret then (
         A.fin σ (r384.2.1.getD 0 AV.undef) r384.2.2) else
        none))) (
      A.fin σ (AV.int .i64 4) r230.2)))))
noncomputable def R_pick_check (rec : Nat → List AV → Heap → Option (AV × Heap)) : List (Nat × (List AV → Heap → Option (AV × Heap))) := [(38, A.wrap true [(.a [.k, .k, .k, (.s 4)])] .k (A.ar1 (r_pick_check rec)))]
noncomputable def m_pick_check : List AV → Heap → Option (AV × Heap) := fuel (R_pick_check) 2000000 38
noncomputable def r_pick_Check (a0 : AV) (σ : Heap) : Option (AV × Heap) :=
 (A.cells 4 a0).bind fun c1 =>
 (A.partA 0 4 c1).bind fun x2 =>
 (m_pick_size [x2] σ).bind fun r3 =>
 (A.ext 0 r3.1).bind fun x4 =>
 (A.ext 1 r3.1).bind fun x5 =>
 (A.gtr x4 (AV.int .i64 200)).bind fun x6 =>
 (A.guard x6 false (some x5) (some (AV.tup []))).bind fun x7 =>
 (A.guard x6 false (A.gtr x7 (AV.int .i64 12)) (some (AV.tup []))).bind fun x8 =>
 (A.pick x6 (AV.bool true) x8).bind fun x9 =>
 A.cond x9 (
  A.fin σ (AV.int .i64 2) r3.2) (
  (A.partA 0 4 c1).bind fun x10 =>
  (m_pick_check [x10] r3.2).bind fun r11 =>
  A.fin σ r11.1 r11.2)
noncomputable def m_pick_Check : List AV → Heap → Option (AV × Heap) := A.wrap true [(.a [.k, .k, .k, (.s 4)])] .k (A.ar1 r_pick_Check)
noncomputable def r_pick_uses_fn1 (a0 a1 a2 a3 : AV) (σ : Heap) : Option (AV × Heap) :=
 (A.eql .i a0 (AV.int .i64 2)).bind fun x1 =>
 (A.cond x1 (
  ((A.deref a2 σ).bind fun c3 => A.part1 0 c3).bind fun x4 =>
  (A.faddr 0 a3).bind fun x5 =>
  ((A.deref x5 σ).bind fun c6 => A.part1 0 c6).bind fun x7 =>
  ((A.deref a2 σ).bind fun c8 => A.part1 0 c8).bind fun x9 =>
  (A.faddr 0 a3).bind fun x10 =>
  ((A.deref x10 σ).bind fun c11 => A.part1 0 c11).bind fun x12 =>
  (A.look .i x9 x12 AV.nsl σ).bind fun x13 =>
  ((((A.cell a1).bind fun v => some [v]).bind fun c14 => (A.splice 0 c14 [(AV.int .i64 0)]).bind fun c15 => some c15).bind fun cs => some (AV.sl 1 (chunks 1 1 cs))).bind fun x16 =>
  (A.append 1 (140737488355328 / 8) x13 x16 σ).bind fun r17 =>
  (A.mupd .i x4 x7 r17.1 r17.2).bind fun h18 =>
  some (([] : List AV), h18)) (
  some (([] : List AV), σ))).bind fun r2 =>
 some ((AV.tup []), r2.2)
noncomputable def b_pick_uses_fn1 (a0 a1 a2 a3 : AV) (σ : Heap) : Option (AV × Heap) := match a1, a2, a3 with | .int i1 o1, .op i2 o2, .op i3 o3 => r_pick_uses_fn1 a0 (.int i1 o1) (.op i2 o2) (.op i3 o3) σ | _, _, _ => none
noncomputable def m_pick_uses_fn1 : List AV → Heap → Option (AV × Heap) := A.wrap false [] .k (A.ar4 b_pick_uses_fn1)
noncomputable def r_pick_names (rec : Nat → List AV → Heap → Option (AV × Heap)) (dyn : Nat → List AV → Heap → Option (AV × Heap)) (a0 a1 : AV) (σ : Heap) : Option (AV × Heap) :=
 (A.cells 4 a0).bind fun c1 =>
 (A.part1 0 c1).bind fun x2 =>
 (A.eql .i x2 (AV.int .i64 2)).bind fun x3 =>
 (A.guard x3 false (A.part1 0 c1) (some (AV.tup []))).bind fun x4 =>
 (A.guard x3 false (A.eql .i x4 (AV.int .i64 3)) (some (AV.tup []))).bind fun x5 =>
 (A.pick x3 (AV.bool true) x5).bind fun x6 =>
 (A.cond x6 (
  (A.part1 0 c1).bind fun x8 =>
  (A.part1 1 c1).bind fun x9 =>
  (A.callv dyn a1 [x8, x9] σ).bind fun r10 =>
  some ([(AV.lbx c1)], r10.2)) (
  some ([(AV.lbx c1)], σ))).bind fun r7 =>
 ((A.lb (r7.1.getD 0 AV.undef)).bind fun _ => some (3)).bind fun p11 =>
 ((A.lb (r7.1.getD 0 AV.undef)).bind fun c12 => A.part1 p11 c12).bind fun x13 =>
 (A.lenS x13).bind fun x14 =>
 (A.loop (fun v15 s16 =>
   (A.lss (v15.getD 0 AV.undef) x14).bind fun x18 =>
   A.cond x18 (
    (A.iaddr 4 x13 (v15.getD 0 AV.undef)).bind fun x19 =>
    ((A.deref x19 s16).bind fun c20 => A.partA 0 4 c20).bind fun x21 =>
    (A.cells 4 x21).bind fun c22 =>
    (A.splice 0 c22 [(AV.int .i64 0), (AV.int .i64 0), (AV.int .i64 0), AV.nsl]).bind fun c23 =>
    (A.partA 0 4 c23).bind fun x24 =>
    (rec 41 [x24, a1] s16).bind fun r25 =>
    (A.add (v15.getD 0 AV.undef) (AV.int .i64 1)).bind fun x26 =>
    some (AX.normal, [x26], r25.2)) (
    some (AX.exit 0, [(v15.getD 0 AV.undef)], s16))) [(AV.int .i64 0)] r7.2).bind fun r27 =>
 bif r27.1 == AX.exit 0 then (
  some ((AV.tup []), r27.2.2)) else
 none
noncomputable def R_pick_names (dyn : Nat → List AV → Heap → Option (AV × Heap)) (rec : Nat → List AV → Heap → Option (AV × Heap)) : List (Nat × (List AV → Heap → Option (AV × Heap))) := [(41, A.wrap false [] .k (A.ar2 (r_pick_names rec dyn)))]
noncomputable def m_pick_names (dyn : Nat → List AV → Heap → Option (AV × Heap)) : List AV → Heap → Option (AV × Heap) := fuel (R_pick_names dyn) 2000000 41
noncomputable def r_pick_uses (a0 : AV) (σ : Heap) : Option (AV × Heap) :=
 ((A.cell (AV.om σ.length)).bind fun v => some [v]).bind fun c1 =>
 (A.storeAt (AV.op (σ ++ [Blk.map []]).length 0) c1 ((σ ++ [Blk.map []]) ++ [Blk.box [AV.nm]])).bind fun c2 =>
 (A.lenS a0).bind fun x3 =>
 (A.loop (fun v4 s5 =>
   (A.lss (v4.getD 0 AV.undef) x3).bind fun x7 =>
   A.cond x7 (
    (A.iaddr 5 a0 (v4.getD 0 AV.undef)).bind fun x8 =>
    ((A.deref x8 s5).bind fun c9 => A.partA 0 5 c9).bind fun x10 =>
    (A.cells 5 x10).bind fun c11 =>
    (A.storeAt (AV.op s5.length 0) c11 (s5 ++ [Blk.box [(AV.int .i64 0), (AV.int .i64 0), (AV.int .i64 0), (AV.int .i64 0), AV.nsl]])).bind fun c12 =>
    ((A.deref (AV.op (σ ++ [Blk.map []]).length 0) c12).bind fun c13 => A.part1 0 c13).bind fun x14 =>
    (A.faddr 0 (AV.op s5.length 0)).bind fun x15 =>
    ((A.deref x15 c12).bind fun c16 => A.part1 0 c16).bind fun x17 =>
    (A.mupd .i x14 x17 AV.nsl c12).bind fun h18 =>
    (A.faddr 1 (AV.op s5.length 0)).bind fun x19 =>
    ((A.deref x19 h18).bind fun c20 => A.partA 0 4 c20).bind fun x21 =>
    (m_pick_names (A.tab (fun _ _ => none) [(40, m_pick_uses_fn1)]) [x21, (AV.fn 40 [(AV.op (σ ++ [Blk.map []]).length 0), (AV.op s5.length 0)])] h18).bind fun r22 =>
    (A.add (v4.getD 0 AV.undef) (AV.int .i64 1)).bind fun x23 =>
    some (AX.normal, [x23], r22.2)) (
    some (AX.exit 0, [(v4.getD 0 AV.undef)], s5))) [(AV.int .i64 0)] c2).bind fun r24 =>
 bif r24.1 == AX.exit 0 then (
  ((A.deref (AV.op (σ ++ [Blk.map []]).length 0) r24.2.2).bind fun c25 => A.part1 0 c25).bind fun x26 =>
  A.fin σ x26 r24.2.2) else
 none
noncomputable def m_pick_uses : List AV → Heap → Option (AV × Heap) := A.wrap true [(.s 5)] .k (A.ar1 r_pick_uses)
noncomputable def r_pick_reach (a0 a1 : AV) (σ : Heap) : Option (AV × Heap) :=
 ((((A.cell a1).bind fun v => some [v]).bind fun c1 => (A.splice 0 c1 [(AV.int .i64 0)]).bind fun c2 => some c2).bind fun cs => some (AV.sl 1 (chunks 1 1 cs))).bind fun x3 => A.litK x3 fun z4 es5 =>
 (A.loop (fun v6 s7 =>
   (A.lenS (v6.getD 0 AV.undef)).bind fun x9 =>
   (A.gtr x9 (AV.int .i64 0)).bind fun x10 =>
   A.cond x10 (
    (A.lenS (v6.getD 0 AV.undef)).bind fun x11 =>
    (A.sub x11 (AV.int .i64 1)).bind fun x12 =>
    (A.iaddr 1 (v6.getD 0 AV.undef) x12).bind fun x13 =>
    ((A.deref x13 s7).bind fun c14 => A.part1 0 c14).bind fun x15 =>
    (A.lenS (v6.getD 0 AV.undef)).bind fun x16 =>
    (A.sub x16 (AV.int .i64 1)).bind fun x17 =>
    (A.sliceS 1 (v6.getD 0 AV.undef) none (some x17) s7).bind fun x18 =>
    (A.look .i a0 x15 AV.nsl s7).bind fun x19 =>
    (A.lenS x19).bind fun x20 =>
    (A.loop (fun v21 s22 =>
      (A.lss (v21.getD 1 AV.undef) x20).bind fun x24 =>
      A.cond x24 (
       (A.iaddr 1 x19 (v21.getD 1 AV.undef)).bind fun x25 =>
       ((A.deref x25 s22).bind fun c26 => A.part1 0 c26).bind fun x27 =>
       (A.look .i (AV.om σ.length) x27 (AV.bool false) s22).bind fun x28 =>
       (A.not x28).bind fun x29 =>
       (A.cond x29 (
        (A.mupd .i (AV.om σ.length) x27 (AV.bool true) s22).bind fun h31 =>
        ((((A.cell x27).bind fun v => some [v]).bind fun c32 => (A.splice 0 c32 [(AV.int .i64 0)]).bind fun c33 => some c33).bind fun cs => some (AV.sl 1 (chunks 1 1 cs))).bind fun x34 =>
        (A.append 1 (140737488355328 / 8) (v21.getD 0 AV.undef) x34 h31).bind fun r35 =>
        some ([r35.1], r35.2)) (
        some ([(v21.getD 0 AV.undef)], s22))).bind fun r30 =>
       (A.add (v21.getD 1 AV.undef) (AV.int .i64 1)).bind fun x36 =>
       some (AX.normal, [(r30.1.getD 0 AV.undef), x36], r30.2)) (
       some (AX.exit 2, [(v21.getD 0 AV.undef), (v21.getD 1 AV.undef)], s22))) [x18, (AV.int .i64 0)] s7).bind fun r37 =>
    bif r37.1 == AX.exit 2 then (
     some (AX.normal, [(r37.2.1.getD 0 AV.undef)], r37.2.2)) else
    none) (
    some (AX.exit 0, [(v6.getD 0 AV.undef)], s7))) [(AV.os (σ ++ [Blk.map []]).length es5.length z4 0 es5.length)] ((σ ++ [Blk.map []]) ++ [Blk.arr es5.length z4 es5])).bind fun r38 =>
 bif r38.1 == AX.exit 0 then (
  A.fin σ (AV.om σ.length) r38.2.2) else
 none
noncomputable def m_pick_reach : List AV → Heap → Option (AV × Heap) := A.wrap true [] .k (A.ar2 r_pick_reach)
noncomputable def r_pick_CheckGroups (a0 : AV) (σ : Heap) : Option (AV × Heap) :=
 (A.lenS a0).bind fun x1 =>
 (A.gtr x1 (AV.int .i64 200)).bind fun x2 =>
 A.cond x2 (
  A.fin σ (AV.int .i64 2) σ) (
  (A.lenS a0).bind fun x3 =>
  (A.loop (fun v4 s5 =>
    (A.lss (v4.getD 1 AV.undef) x3).bind fun x7 =>
    A.cond x7 (
     (A.iaddr 5 a0 (v4.getD 1 AV.undef)).bind fun x8 =>
     ((A.deref x8 s5).bind fun c9 => A.partA 0 5 c9).bind fun x10 =>
     (A.cells 5 x10).bind fun c11 =>
     (A.splice 0 c11 [(AV.int .i64 0), (AV.int .i64 0), (AV.int .i64 0), (AV.int .i64 0), AV.nsl]).bind fun c12 =>
     (A.part1 0 c12).bind fun x13 =>
     (m_word_Within [x13, (AV.int .i64 1), (AV.int .i64 999)] s5).bind fun r14 =>
     (A.not r14.1).bind fun x15 =>
     A.cond x15 (
      some (AX.ret, [(AV.int .i64 1), (v4.getD 1 AV.undef)], r14.2)) (
      (A.gtr (v4.getD 1 AV.undef) (AV.int .i64 0)).bind fun x16 =>
      (A.guard x16 true (A.part1 0 c12) (some (AV.tup []))).bind fun x17 =>
      (A.guard x16 true (some a0) (some (AV.tup []))).bind fun x18 =>
      (A.guard x16 true (some (v4.getD 1 AV.undef)) (some (AV.tup []))).bind fun x19 =>
      (A.guard x16 true (A.sub x19 (AV.int .i64 1)) (some (AV.tup []))).bind fun x20 =>
      (A.guard x16 true (A.iaddr 5 x18 x20) (some (AV.tup []))).bind fun x21 =>
      (A.guard x16 true (A.faddr 0 x21) (some (AV.tup []))).bind fun x22 =>
      (A.guard x16 true ((A.deref x22 r14.2).bind fun c23 => A.part1 0 c23) (some (AV.tup []))).bind fun x24 =>
      (A.guard x16 true (A.leq x17 x24) (some (AV.tup []))).bind fun x25 =>
      (A.pick x16 x25 (AV.bool false)).bind fun x26 =>
      A.cond x26 (
       some (AX.ret, [(AV.int .i64 7), (v4.getD 1 AV.undef)], r14.2)) (
       (A.partA 1 4 c12).bind fun x27 =>
       (m_pick_Check [x27] r14.2).bind fun r28 =>
       (A.neq .i r28.1 (AV.int .i64 0)).bind fun x29 =>
       A.cond x29 (
        some (AX.ret, [r28.1, (v4.getD 1 AV.undef)], r28.2)) (
        (A.add (v4.getD 1 AV.undef) (AV.int .i64 1)).bind fun x30 =>
        some (AX.normal, [(v4.getD 0 AV.undef), x30], r28.2))))) (
     some (AX.exit 0, [(v4.getD 0 AV.undef), (v4.getD 1 AV.undef)], s5))) [(AV.int .i64 0), (AV.int .i64 0)] σ).bind fun r31 =>
  bif r31.1 == AX.exit 0 then (
   (m_pick_uses [a0] r31.2.2).bind fun r32 =>
   (A.lenS a0).bind fun x33 =>
   (A.loop (fun v34 s35 =>
     (A.lss (v34.getD 1 AV.undef) x33).bind fun x37 =>
     A.cond x37 (
      (A.iaddr 5 a0 (v34.getD 1 AV.undef)).bind fun x38 =>
      ((A.deref x38 s35).bind fun c39 => A.partA 0 5 c39).bind fun x40 =>
      (A.cells 5 x40).bind fun c41 =>
      (A.splice 0 c41 [(AV.int .i64 0), (AV.int .i64 0), (AV.int .i64 0), (AV.int .i64 0), AV.nsl]).bind fun c42 =>
      (A.part1 0 c42).bind fun x43 =>
      (A.look .i r32.1 x43 AV.nsl s35).bind fun x44 =>
      (A.lenS x44).bind fun x45 =>
      (A.loop (fun v46 s47 =>
        (A.lss (v46.getD 1 AV.undef) x45).bind fun x49 =>
        A.cond x49 (
         (A.iaddr 1 x44 (v46.getD 1 AV.undef)).bind fun x50 =>
         ((A.deref x50 s47).bind fun c51 => A.part1 0 c51).bind fun x52 =>
         (A.lookOk .i r32.1 x52 AV.nsl s47).bind fun x53 =>
         (A.ext 0 x53).bind fun x54 =>
         (A.ext 1 x53).bind fun x55 =>
         (A.not x55).bind fun x56 =>
         A.cond x56 (
          some (AX.ret, [(AV.int .i64 8), (v46.getD 1 AV.undef)], s47)) (
          (A.add (v46.getD 1 AV.undef) (AV.int .i64 1)).bind fun x57 =>
          some (AX.normal, [(v46.getD 0 AV.undef), x57], s47))) (
         some (AX.exit 4, [(v46.getD 0 AV.undef), (v46.getD 1 AV.undef)], s47))) [(v34.getD 0 AV.undef), (AV.int .i64 0)] s35).bind fun r58 =>
      bif r58.1 == AX.exit 4 then (
       (A.add (v34.getD 1 AV.undef) (AV.int .i64 1)).bind fun x59 =>
       some (AX.normal, [(r58.2.1.getD 0 AV.undef), x59], r58.2.2)) else
      bif r58.1 == AX.ret then (
       some (AX.ret, [(r58.2.1.getD 0 AV.undef), (v34.getD 1 AV.undef)], r58.2.2)) else
      none) (
      some (AX.exit 2, [(v34.getD 0 AV.undef), (v34.getD 1 AV.undef)], s35))) [(r31.2.1.getD 0 AV.undef), (AV.int .i64 0)] r32.2).bind fun r60 =>
   bif r60.1 == AX.exit 2 then (
    (A.lenS a0).bind fun x61 =>
    (A.loop (fun v62 s63 =>
      (A.lss (v62.getD 1 AV.undef) x61).bind fun x65 =>
      A.cond x65 (
       (A.iaddr 5 a0 (v62.getD 1 AV.undef)).bind fun x66 =>
       ((A.deref x66 s63).bind fun c67 => A.partA 0 5 c67).bind fun x68 =>
       (A.cells 5 x68).bind fun c69 =>
       (A.splice 0 c69 [(AV.int .i64 0), (AV.int .i64 0), (AV.int .i64 0), (AV.int .i64 0), AV.nsl]).bind fun c70 =>
       (A.part1 0 c70).bind fun x71 =>
       (A.quiet (m_pick_reach [r32.1, x71] s63) s63).bind fun x72 =>
       (A.part1 0 c70).bind fun x73 =>
       (A.look .i x72 x73 (AV.bool false) s63).bind fun x74 =>
       A.cond x74 (
        some (AX.ret, [(AV.int .i64 11), (v62.getD 1 AV.undef)], s63)) (
        (A.add (v62.getD 1 AV.undef) (AV.int .i64 1)).bind fun x75 =>
        some (AX.normal, [(v62.getD 0 AV.undef), x75], s63))) (
       some (AX.exit 6, [(v62.getD 0 AV.undef), (v62.getD 1 AV.undef)], s63))) [(r60.2.1.getD 0 AV.undef), (AV.int .i64 0)] r60.2.2).bind fun r76 =>
    bif r76.1 == AX.exit 6 then (
     A.fin σ (AV.int .i64 0) r76.2.2) else
    bif r76.1 == AX.ret then (
     A.fin σ (r76.2.1.getD 0 AV.undef) r76.2.2) else
    none) else
   bif r60.1 == AX.ret then (
    A.fin σ (r60.2.1.getD 0 AV.undef) r60.2.2) else
   none) else
  bif r31.1 == AX.ret then (
   A.fin σ (r31.2.1.getD 0 AV.undef) r31.2.2) else
  none)
noncomputable def m_pick_CheckGroups : List AV → Heap → Option (AV × Heap) := A.wrap true [(.s 5)] .k (A.ar1 r_pick_CheckGroups)
noncomputable def r_pick_Uses (a0 a1 : AV) (σ : Heap) : Option (AV × Heap) :=
 (m_pick_CheckGroups [a0] σ).bind fun r1 =>
 (A.neq .i r1.1 (AV.int .i64 0)).bind fun x2 =>
 A.cond x2 (
  A.fin σ (AV.tup [AV.nsl, r1.1]) r1.2) (
  (m_pick_uses [a0] r1.2).bind fun r3 =>
  (A.lookOk .i r3.1 a1 AV.nsl r3.2).bind fun x4 =>
  (A.ext 0 x4).bind fun x5 =>
  (A.ext 1 x4).bind fun x6 =>
  (A.not x6).bind fun x7 =>
  A.cond x7 (
   A.fin σ (AV.tup [AV.nsl, (AV.int .i64 8)]) r3.2) (
   (A.lenS a0).bind fun x8 =>
   (A.loop (fun v9 s10 =>
     (A.lss (v9.getD 1 AV.undef) x8).bind fun x12 =>
     A.cond x12 (
      (A.iaddr 5 a0 (v9.getD 1 AV.undef)).bind fun x13 =>
      ((A.deref x13 s10).bind fun c14 => A.partA 0 5 c14).bind fun x15 =>
      (A.cells 5 x15).bind fun c16 =>
      (A.splice 0 c16 [(AV.int .i64 0), (AV.int .i64 0), (AV.int .i64 0), (AV.int .i64 0), AV.nsl]).bind fun c17 =>
      (A.part1 0 c17).bind fun x18 =>
      (m_pick_reach [r3.1, x18] s10).bind fun r19 =>
      (A.look .i r19.1 a1 (AV.bool false) r19.2).bind fun x20 =>
      (A.cond x20 (
       (A.part1 0 c17).bind fun x22 =>
       ((((A.cell x22).bind fun v => some [v]).bind fun c23 => (A.splice 0 c23 [(AV.int .i64 0)]).bind fun c24 => some c24).bind fun cs => some (AV.sl 1 (chunks 1 1 cs))).bind fun x25 =>
       (A.append 1 (140737488355328 / 8) (v9.getD 0 AV.undef) x25 r19.2).bind fun r26 =>
       some ([r26.1], r26.2)) (
       some ([(v9.getD 0 AV.undef)], r19.2))).bind fun r21 =>
      (A.add (v9.getD 1 AV.undef) (AV.int .i64 1)).bind fun x27 =>
      some (AX.normal, [(r21.1.getD 0 AV.undef), x27], r21.2)) (
      some (AX.exit 0, [(v9.getD 0 AV.undef), (v9.getD 1 AV.undef)], s10))) [AV.nsl, (AV.int .i64 0)] r3.2).bind fun r28 =>
   bif r28.1 == AX.exit 0 then (
    A.fin σ (AV.tup [(r28.2.1.getD 0 AV.undef), (AV.int .i64 0)]) r28.2.2) else
   none))
noncomputable def m_pick_Uses : List AV → Heap → Option (AV × Heap) := A.wrap true [(.s 5)] (.t [(.s 1), .k]) (A.ar2 r_pick_Uses)
end Go.Proofs.Ytgjglkakhmikjaa

namespace Go.Proofs.Ytgjglkakhmikjaa
set_option linter.unusedSectionVars false
set_option linter.unusedSimpArgs false
set_option linter.unusedVariables false
set_option maxRecDepth 100000
noncomputable def r_R1_Within (a0 a1 a2 : AV) (σ : Heap) : Option (AV × Heap) :=
 (A.geq a0 a1).bind fun x1 =>
 (A.guard x1 true (some a0) (some (AV.tup []))).bind fun x2 =>
 (A.guard x1 true (some a2) (some (AV.tup []))).bind fun x3 =>
 (A.guard x1 true (A.leq x2 x3) (some (AV.tup []))).bind fun x4 =>
 (A.pick x1 x4 (AV.bool false)).bind fun x5 =>
 A.fin σ x5 σ
noncomputable def m_R1_Within : List AV → Heap → Option (AV × Heap) := A.wrap true [] .k (A.ar3 r_R1_Within)
end Go.Proofs.Ytgjglkakhmikjaa

namespace Go.Proofs.Ytgjglkakhmikjaa
set_option linter.unusedSectionVars false
set_option linter.unusedSimpArgs false
set_option linter.unusedVariables false
set_option maxRecDepth 100000
noncomputable def r_R4_parts (rec : Nat → List AV → Heap → Option (AV × Heap)) (a0 a1 : AV) (σ : Heap) : Option (AV × Heap) :=
 (A.cells 4 a0).bind fun c1 =>
 (A.gtr a1 (AV.int .i64 12)).bind fun x2 =>
 A.cond x2 (
  A.fin σ (AV.tup [(AV.int .i64 1), a1]) σ) (
  (A.part1 3 c1).bind fun x3 =>
  (A.lenS x3).bind fun x4 =>
  (A.loop (fun v5 s6 =>
    (A.lss (v5.getD 2 AV.undef) x4).bind fun x8 =>
    A.cond x8 (
     (A.iaddr 4 x3 (v5.getD 2 AV.undef)).bind fun x9 =>
     ((A.deref x9 s6).bind fun c10 => A.partA 0 4 c10).bind fun x11 =>
     (A.cells 4 x11).bind fun c12 =>
     (A.splice 0 c12 [(AV.int .i64 0), (AV.int .i64 0), (AV.int .i64 0), AV.nsl]).bind fun c13 =>
     (A.partA 0 4 c13).bind fun x14 =>
     (A.add a1 (AV.int .i64 1)).bind fun x15 =>
     (rec 46 [x14, x15] s6).bind fun r16 =>
     (A.ext 0 r16.1).bind fun x17 =>
     (A.ext 1 r16.1).bind fun x18 =>
     (A.add (v5.getD 0 AV.undef) x17).bind fun x19 =>
     (A.min x19 (AV.int .i64 201)).bind fun x20 =>
     (A.max (v5.getD 1 AV.undef) x18).bind fun x21 =>
     (A.add (v5.getD 2 AV.undef) (AV.int .i64 1)).bind fun x22 =>
     some (AX.normal, [x20, x21, x22], r16.2)) (
     some (AX.exit 0, [(v5.getD 0 AV.undef), (v5.getD 1 AV.undef), (v5.getD 2 AV.undef)], s6))) [(AV.int .i64 1), a1, (AV.int .i64 0)] σ).bind fun r23 =>
  bif r23.1 == AX.exit 0 then (
   A.fin σ (AV.tup [(r23.2.1.getD 0 AV.undef), (r23.2.1.getD 1 AV.undef)]) r23.2.2) else
  none)
noncomputable def R_R4_parts (rec : Nat → List AV → Heap → Option (AV × Heap)) : List (Nat × (List AV → Heap → Option (AV × Heap))) := [(46, A.wrap true [(.a [.k, .k, .k, (.s 4)])] .k (A.ar2 (r_R4_parts rec)))]
noncomputable def m_R4_parts : List AV → Heap → Option (AV × Heap) := fuel (R_R4_parts) 2000000 46
noncomputable def r_R4_used (a0 : AV) (σ : Heap) : Option (AV × Heap) :=
 (A.eql .i a0 (AV.int .i64 1)).bind fun x1 =>
 A.cond x1 (
  A.fin σ (AV.tup [(AV.bool true), (AV.bool true), (AV.int .i64 0)]) σ) (
  (A.eql .i a0 (AV.int .i64 2)).bind fun x2 =>
  (A.cond x2 (
   some ([x2], σ)) (
   (A.eql .i a0 (AV.int .i64 3)).bind fun x4 =>
   some ([x4], σ))).bind fun r3 =>
  A.cond (r3.1.getD 0 AV.undef) (
   A.fin σ (AV.tup [(AV.bool true), (AV.bool false), (AV.int .i64 0)]) r3.2) (
   (A.eql .i a0 (AV.int .i64 4)).bind fun x5 =>
   A.cond x5 (
    A.fin σ (AV.tup [(AV.bool false), (AV.bool false), (AV.int .i64 (-1))]) r3.2) (
    (A.eql .i a0 (AV.int .i64 5)).bind fun x6 =>
    A.cond x6 (
     A.fin σ (AV.tup [(AV.bool false), (AV.bool false), (AV.int .i64 2)]) r3.2) (
     (A.eql .i a0 (AV.int .i64 9)).bind fun x7 =>
     A.cond x7 (
      A.fin σ (AV.tup [(AV.bool true), (AV.bool true), (AV.int .i64 1)]) r3.2) (
      A.fin σ (AV.tup [(AV.bool false), (AV.bool false), (AV.int .i64 1)]) r3.2)))))
noncomputable def m_R4_used : List AV → Heap → Option (AV × Heap) := A.wrap true [] .k (A.ar1 r_R4_used)
noncomputable def r_R4_checkPart (rec : Nat → List AV → Heap → Option (AV × Heap)) (a0 : AV) (σ : Heap) : Option (AV × Heap) :=
 (A.cells 4 a0).bind fun c1 =>
 (A.part1 0 c1).bind fun x2 =>
 (m_R1_Within [x2, (AV.int .i64 1), (AV.int .i64 9)] σ).bind fun r3 =>
 (A.not r3.1).bind fun x4 =>
 A.cond x4 (
  A.fin σ (AV.int .i64 4) r3.2) (
  (A.part1 0 c1).bind fun x5 =>
  (m_R4_used [x5] r3.2).bind fun r6 =>
  (A.ext 0 r6.1).bind fun x7 =>
  (A.ext 1 r6.1).bind fun x8 =>
  (A.ext 2 r6.1).bind fun x9 =>
  (A.not x7).bind fun x10 =>
  (A.guard x10 true (A.part1 1 c1) (some (AV.tup []))).bind fun x11 =>
  (A.guard x10 true (A.neq .i x11 (AV.int .i64 0)) (some (AV.tup []))).bind fun x12 =>
  (A.pick x10 x12 (AV.bool false)).bind fun x13 =>
  (A.guard x13 false (some x8) (some (AV.tup []))).bind fun x14 =>
  (A.guard x13 false (A.not x14) (some (AV.tup []))).bind fun x15 =>
  (A.guard x13 false (some x15) (some (AV.tup []))).bind fun x16 =>
  (A.guard x16 true (A.part1 2 c1) (some (AV.tup []))).bind fun x17 =>
  (A.guard x16 true (A.neq .i x17 (AV.int .i64 0)) (some (AV.tup []))).bind fun x18 =>
  (A.guard x13 false (A.pick x16 x18 (AV.bool false)) (some (AV.tup []))).bind fun x19 =>
  (A.pick x13 (AV.bool true) x19).bind fun x20 =>
  (A.guard x20 false (some x9) (some (AV.tup []))).bind fun x21 =>
  (A.guard x20 false (A.geq x21 (AV.int .i64 0)) (some (AV.tup []))).bind fun x22 =>
  (A.guard x20 false (some x22) (some (AV.tup []))).bind fun x23 =>
  (A.guard x23 true (A.part1 3 c1) (some (AV.tup []))).bind fun x24 =>
  (A.guard x23 true (A.lenS x24) (some (AV.tup []))).bind fun x25 =>
  (A.guard x23 true (some x9) (some (AV.tup []))).bind fun x26 =>
  (A.guard x23 true (A.neq .i x25 x26) (some (AV.tup []))).bind fun x27 =>
  (A.guard x20 false (A.pick x23 x27 (AV.bool false)) (some (AV.tup []))).bind fun x28 =>
  (A.pick x20 (AV.bool true) x28).bind fun x29 =>
  (A.guard x29 false (some x9) (some (AV.tup []))).bind fun x30 =>
  (A.guard x29 false (A.lss x30 (AV.int .i64 0)) (some (AV.tup []))).bind fun x31 =>
  (A.guard x29 false (some x31) (some (AV.tup []))).bind fun x32 =>
  (A.guard x32 true (A.part1 3 c1) (some (AV.tup []))).bind fun x33 =>
  (A.guard x32 true (A.lenS x33) (some (AV.tup []))).bind fun x34 =>
  (A.guard x32 true (A.lss x34 (AV.int .i64 2)) (some (AV.tup []))).bind fun x35 =>
  (A.guard x29 false (A.pick x32 x35 (AV.bool false)) (some (AV.tup []))).bind fun x36 =>
  (A.pick x29 (AV.bool true) x36).bind fun x37 =>
  A.cond x37 (
   A.fin σ (AV.int .i64 3) r6.2) (
   (A.part1 0 c1).bind fun x38 =>
   (A.eql .i x38 (AV.int .i64 2)).bind fun x39 =>
   (A.cond x39 (
    some ([(AV.lbx c1), (AV.int .i64 999)], r6.2)) (
    (A.eql .i x38 (AV.int .i64 3)).bind fun x41 =>
    (A.cond x41 (
     some ([(AV.lbx c1), (AV.int .i64 999)], r6.2)) (
     some ([(AV.lbx c1), (AV.int .i64 9999)], r6.2))).bind fun r42 =>
    some ([(r42.1.getD 0 AV.undef), (r42.1.getD 1 AV.undef)], r42.2))).bind fun r40 =>
   ((A.lb (r40.1.getD 0 AV.undef)).bind fun _ => some (1)).bind fun p43 =>
      (A.guard x7 true ((A.lb (r40.1.getD 0 AV.undef)).bind fun c44 => A.part1 p43 c44) (some (AV.tup []))).bind fun x45 =>
   (A.guard x7 true (some (r40.1.getD 1 AV.undef)) (some (AV.tup []))).bind fun x46 =>
   (A.guard x7 true (A.quiet (m_R1_Within [x45, (AV.int .i64 1), x46] r40.2) r40.2) (some (AV.tup []))).bind fun x47 =>
   (A.guard x7 true (A.not x47) (some (AV.tup []))).bind fun x48 =>
   (A.pick x7 x48 (AV.bool false)).bind fun x49 =>
   (A.guard x49 false (some x8) (some (AV.tup []))).bind fun x50 =>
   (A.guard x49 false (some x50) (some (AV.tup []))).bind fun x51 =>
   ((A.lb (r40.1.getD 0 AV.undef)).bind fun _ => some (2)).bind fun p52 =>
      (A.guard x51 true ((A.lb (r40.1.getD 0 AV.undef)).bind fun c53 => A.part1 p52 c53) (some (AV.tup []))).bind fun x54 =>
   (A.guard x51 true (A.quiet (m_R1_Within [x54, (AV.int .i64 1), (AV.int .i64 9999)] r40.2) r40.2) (some (AV.tup []))).bind fun x55 =>
   (A.guard x51 true (A.not x55) (some (AV.tup []))).bind fun x56 =>
   (A.guard x49 false (A.pick x51 x56 (AV.bool false)) (some (AV.tup []))).bind fun x57 =>
   (A.pick x49 (AV.bool true) x57).bind fun x58 =>
   A.cond x58 (
    A.fin σ (AV.int .i64 1) r40.2) (
    ((A.lb (r40.1.getD 0 AV.undef)).bind fun _ => some (3)).bind fun p59 =>
    ((A.lb (r40.1.getD 0 AV.undef)).bind fun c60 => A.part1 p59 c60).bind fun x61 =>
    (A.lenS x61).bind fun x62 =>
    (A.loop (fun v63 s64 =>
      (A.lss (v63.getD 1 AV.undef) x62).bind fun x66 =>
      A.cond x66 (
       (A.iaddr 4 x61 (v63.getD 1 AV.undef)).bind fun x67 =>
       ((A.deref x67 s64).bind fun c68 => A.partA 0 4 c68).bind fun x69 =>
       (A.cells 4 x69).bind fun c70 =>
       (A.splice 0 c70 [(AV.int .i64 0), (AV.int .i64 0), (AV.int .i64 0), AV.nsl]).bind fun c71 =>
       (A.partA 0 4 c71).bind fun x72 =>
       (rec 48 [x72] s64).bind fun r73 =>
       (A.neq .i r73.1 (AV.int .i64 0)).bind fun x74 =>
       A.cond x74 (
        some (AX.ret, [r73.1, (v63.getD 1 AV.undef)], r73.2)) (
        (A.add (v63.getD 1 AV.undef) (AV.int .i64 1)).bind fun x75 =>
        some (AX.normal, [(v63.getD 0 AV.undef), x75], r73.2))) (
       some (AX.exit 1, [(v63.getD 0 AV.undef), (v63.getD 1 AV.undef)], s64))) [(AV.int .i64 0), (AV.int .i64 0)] r40.2).bind fun r76 =>
    bif r76.1 == AX.exit 1 then (
     A.fin σ (AV.int .i64 0) r76.2.2) else
    bif r76.1 == AX.ret then (
     A.fin σ (r76.2.1.getD 0 AV.undef) r76.2.2) else
    none)))
noncomputable def R_R4_checkPart (rec : Nat → List AV → Heap → Option (AV × Heap)) : List (Nat × (List AV → Heap → Option (AV × Heap))) := [(48, A.wrap true [(.a [.k, .k, .k, (.s 4)])] .k (A.ar1 (r_R4_checkPart rec)))]
noncomputable def m_R4_checkPart : List AV → Heap → Option (AV × Heap) := fuel (R_R4_checkPart) 2000000 48
noncomputable def r_R4_Check (a0 : AV) (σ : Heap) : Option (AV × Heap) :=
 (A.cells 4 a0).bind fun c1 =>
 (A.partA 0 4 c1).bind fun x2 =>
 (m_R4_parts [x2, (AV.int .i64 1)] σ).bind fun r3 =>
 (A.ext 0 r3.1).bind fun x4 =>
 (A.ext 1 r3.1).bind fun x5 =>
 (A.gtr x4 (AV.int .i64 200)).bind fun x6 =>
 (A.guard x6 false (some x5) (some (AV.tup []))).bind fun x7 =>
 (A.guard x6 false (A.gtr x7 (AV.int .i64 12)) (some (AV.tup []))).bind fun x8 =>
 (A.pick x6 (AV.bool true) x8).bind fun x9 =>
 A.cond x9 (
  A.fin σ (AV.int .i64 2) r3.2) (
  (A.partA 0 4 c1).bind fun x10 =>
  (m_R4_checkPart [x10] r3.2).bind fun r11 =>
  A.fin σ r11.1 r11.2)
noncomputable def m_R4_Check : List AV → Heap → Option (AV × Heap) := A.wrap true [(.a [.k, .k, .k, (.s 4)])] .k (A.ar1 r_R4_Check)
noncomputable def r_R4_Named (rec : Nat → List AV → Heap → Option (AV × Heap)) (a0 a1 : AV) (σ : Heap) : Option (AV × Heap) :=
 (A.cells 4 a0).bind fun c1 =>
 (A.part1 0 c1).bind fun x2 =>
 (A.eql .i x2 a1).bind fun x3 =>
 (A.cond x3 (
  (A.part1 1 c1).bind fun x5 =>
  ((((A.cell x5).bind fun v => some [v]).bind fun c6 => (A.splice 0 c6 [(AV.int .i64 0)]).bind fun c7 => some c7).bind fun cs => some (AV.sl 1 (chunks 1 1 cs))).bind fun x8 =>
  (A.append 1 (140737488355328 / 8) AV.nsl x8 σ).bind fun r9 =>
  some ([(AV.lbx c1), r9.1], r9.2)) (
  some ([(AV.lbx c1), AV.nsl], σ))).bind fun r4 =>
 ((A.lb (r4.1.getD 0 AV.undef)).bind fun _ => some (3)).bind fun p10 =>
 ((A.lb (r4.1.getD 0 AV.undef)).bind fun c11 => A.part1 p10 c11).bind fun x12 =>
 (A.lenS x12).bind fun x13 =>
 (A.loop (fun v14 s15 =>
   (A.lss (v14.getD 1 AV.undef) x13).bind fun x17 =>
   A.cond x17 (
    (A.iaddr 4 x12 (v14.getD 1 AV.undef)).bind fun x18 =>
    ((A.deref x18 s15).bind fun c19 => A.partA 0 4 c19).bind fun x20 =>
    (A.cells 4 x20).bind fun c21 =>
    (A.splice 0 c21 [(AV.int .i64 0), (AV.int .i64 0), (AV.int .i64 0), AV.nsl]).bind fun c22 =>
    (A.partA 0 4 c22).bind fun x23 =>
    (rec 50 [x23, a1] s15).bind fun r24 =>
    (A.append 1 (140737488355328 / 8) (v14.getD 0 AV.undef) r24.1 r24.2).bind fun r25 =>
    (A.add (v14.getD 1 AV.undef) (AV.int .i64 1)).bind fun x26 =>
    some (AX.normal, [r25.1, x26], r25.2)) (
    some (AX.exit 0, [(v14.getD 0 AV.undef), (v14.getD 1 AV.undef)], s15))) [(r4.1.getD 1 AV.undef), (AV.int .i64 0)] r4.2).bind fun r27 =>
 bif r27.1 == AX.exit 0 then (
  A.fin σ (r27.2.1.getD 0 AV.undef) r27.2.2) else
 none
noncomputable def R_R4_Named (rec : Nat → List AV → Heap → Option (AV × Heap)) : List (Nat × (List AV → Heap → Option (AV × Heap))) := [(50, A.wrap true [(.a [.k, .k, .k, (.s 4)])] (.s 1) (A.ar2 (r_R4_Named rec)))]
noncomputable def m_R4_Named : List AV → Heap → Option (AV × Heap) := fuel (R_R4_Named) 2000000 50
noncomputable def r_R4_GroupOf (a0 a1 : AV) (σ : Heap) : Option (AV × Heap) :=
 (A.lenS a0).bind fun x1 =>
 (A.loop (fun v2 s3 =>
   (A.lss (v2.getD 2 AV.undef) x1).bind fun x5 =>
   A.cond x5 (
    (A.iaddr 5 a0 (v2.getD 2 AV.undef)).bind fun x6 =>
    ((A.deref x6 s3).bind fun c7 => A.partA 0 5 c7).bind fun x8 =>
    (A.cells 5 x8).bind fun c9 =>
    (A.splice 0 c9 [(AV.int .i64 0), (AV.int .i64 0), (AV.int .i64 0), (AV.int .i64 0), AV.nsl]).bind fun c10 =>
    (A.part1 0 c10).bind fun x11 =>
    (A.eql .i x11 a1).bind fun x12 =>
    A.cond x12 (
     (A.partA 0 5 c10).bind fun x13 =>
     (A.lb (v2.getD 0 AV.undef)).bind fun c16 =>
     (A.cells 5 x13).bind fun c14 =>
     (A.splice 0 c14 c16).bind fun c15 =>
     some (AX.ret, [(AV.lbx c15), (AV.bool true), (v2.getD 2 AV.undef)], s3)) (
     (A.add (v2.getD 2 AV.undef) (AV.int .i64 1)).bind fun x17 =>
     some (AX.normal, [(v2.getD 0 AV.undef), (v2.getD 1 AV.undef), x17], s3))) (
    some (AX.exit 0, [(v2.getD 0 AV.undef), (v2.getD 1 AV.undef), (v2.getD 2 AV.undef)], s3))) [(AV.lbx [(AV.int .i64 0), (AV.int .i64 0), (AV.int .i64 0), (AV.int .i64 0), AV.nsl]), (AV.bool false), (AV.int .i64 0)] σ).bind fun r18 =>
 bif r18.1 == AX.exit 0 then (
  (A.lb (r18.2.1.getD 0 AV.undef)).bind fun c21 =>
  (A.cells 5 (AV.agg [(AV.int .i64 0), (AV.int .i64 0), (AV.int .i64 0), (AV.int .i64 0), AV.nsl])).bind fun c19 =>
  (A.splice 0 c19 c21).bind fun c20 =>
  (A.partA 0 5 c20).bind fun x22 =>
  A.fin σ (AV.tup [x22, (AV.bool false)]) r18.2.2) else
 bif r18.1 == AX.ret then (
  ((A.lb (r18.2.1.getD 0 AV.undef)).bind fun c24 => A.partA 0 5 c24).bind fun x23 =>
  A.fin σ (AV.tup [x23, (r18.2.1.getD 1 AV.undef)]) r18.2.2) else
 none
noncomputable def m_R4_GroupOf : List AV → Heap → Option (AV × Heap) := A.wrap true [(.s 5)] (.t [(.a [.k, .k, .k, .k, (.s 4)]), .k]) (A.ar2 r_R4_GroupOf)
noncomputable def r_R4_reached (a0 a1 : AV) (σ : Heap) : Option (AV × Heap) :=
 ((((A.cell a1).bind fun v => some [v]).bind fun c1 => (A.splice 0 c1 [(AV.int .i64 0)]).bind fun c2 => some c2).bind fun cs => some (AV.sl 1 (chunks 1 1 cs))).bind fun x3 => A.litK x3 fun z4 es5 =>
 (A.loop (fun v6 s7 =>
   (A.lenS (v6.getD 1 AV.undef)).bind fun x9 =>
   (A.gtr x9 (AV.int .i64 0)).bind fun x10 =>
   A.cond x10 (
    (A.iaddr 1 (v6.getD 1 AV.undef) (AV.int .i64 0)).bind fun x11 =>
    ((A.deref x11 s7).bind fun c12 => A.part1 0 c12).bind fun x13 =>
    (m_R4_GroupOf [a0, x13] s7).bind fun r14 =>
    (A.ext 0 r14.1).bind fun x15 =>
    (A.ext 1 r14.1).bind fun x16 =>
    (A.cells 5 x15).bind fun c17 =>
    (A.splice 0 c17 [(AV.int .i64 0), (AV.int .i64 0), (AV.int .i64 0), (AV.int .i64 0), AV.nsl]).bind fun c18 =>
    (A.sliceS 1 (v6.getD 1 AV.undef) (some (AV.int .i64 1)) none r14.2).bind fun x19 =>
    (A.partA 1 4 c18).bind fun x20 =>
    (m_R4_Named [x20, (AV.int .i64 2)] r14.2).bind fun r21 =>
    (A.lenS r21.1).bind fun x22 =>
    (A.loop (fun v23 s24 =>
      (A.lss (v23.getD 2 AV.undef) x22).bind fun x26 =>
      A.cond x26 (
       (A.iaddr 1 r21.1 (v23.getD 2 AV.undef)).bind fun x27 =>
       ((A.deref x27 s24).bind fun c28 => A.part1 0 c28).bind fun x29 =>
       (m_slices_Contains_int [(v23.getD 0 AV.undef), x29] s24).bind fun r30 =>
       (A.not r30.1).bind fun x31 =>
       (A.cond x31 (
        ((((A.cell x29).bind fun v => some [v]).bind fun c33 => (A.splice 0 c33 [(AV.int .i64 0)]).bind fun c34 => some c34).bind fun cs => some (AV.sl 1 (chunks 1 1 cs))).bind fun x35 =>
        (A.append 1 (140737488355328 / 8) (v23.getD 0 AV.undef) x35 r30.2).bind fun r36 =>
        ((((A.cell x29).bind fun v => some [v]).bind fun c37 => (A.splice 0 c37 [(AV.int .i64 0)]).bind fun c38 => some c38).bind fun cs => some (AV.sl 1 (chunks 1 1 cs))).bind fun x39 =>
        (A.append 1 (140737488355328 / 8) (v23.getD 1 AV.undef) x39 r36.2).bind fun r40 =>
        some ([r36.1, r40.1], r40.2)) (
        some ([(v23.getD 0 AV.undef), (v23.getD 1 AV.undef)], r30.2))).bind fun r32 =>
       (A.add (v23.getD 2 AV.undef) (AV.int .i64 1)).bind fun x41 =>
       some (AX.normal, [(r32.1.getD 0 AV.undef), (r32.1.getD 1 AV.undef), x41], r32.2)) (
       some (AX.exit 2, [(v23.getD 0 AV.undef), (v23.getD 1 AV.undef), (v23.getD 2 AV.undef)], s24))) [(v6.getD 0 AV.undef), x19, (AV.int .i64 0)] r21.2).bind fun r42 =>
    bif r42.1 == AX.exit 2 then (
     some (AX.normal, [(r42.2.1.getD 0 AV.undef), (r42.2.1.getD 1 AV.undef)], r42.2.2)) else
    none) (
    some (AX.exit 0, [(v6.getD 0 AV.undef), (v6.getD 1 AV.undef)], s7))) [AV.nsl, (AV.os σ.length es5.length z4 0 es5.length)] (σ ++ [Blk.arr es5.length z4 es5])).bind fun r43 =>
 bif r43.1 == AX.exit 0 then (
  A.fin σ (r43.2.1.getD 0 AV.undef) r43.2.2) else
 none
noncomputable def m_R4_reached : List AV → Heap → Option (AV × Heap) := A.wrap true [(.s 5)] (.s 1) (A.ar2 r_R4_reached)
noncomputable def r_R4_CheckGroups (a0 : AV) (σ : Heap) : Option (AV × Heap) :=
 (A.lenS a0).bind fun x1 =>
 (A.gtr x1 (AV.int .i64 200)).bind fun x2 =>
 A.cond x2 (
  A.fin σ (AV.int .i64 2) σ) (
  (A.lenS a0).bind fun x3 =>
  (A.loop (fun v4 s5 =>
    (A.lss (v4.getD 1 AV.undef) x3).bind fun x7 =>
    A.cond x7 (
     (A.iaddr 5 a0 (v4.getD 1 AV.undef)).bind fun x8 =>
     ((A.deref x8 s5).bind fun c9 => A.partA 0 5 c9).bind fun x10 =>
     (A.cells 5 x10).bind fun c11 =>
     (A.splice 0 c11 [(AV.int .i64 0), (AV.int .i64 0), (AV.int .i64 0), (AV.int .i64 0), AV.nsl]).bind fun c12 =>
     (A.part1 0 c12).bind fun x13 =>
     (m_R1_Within [x13, (AV.int .i64 1), (AV.int .i64 999)] s5).bind fun r14 =>
     (A.not r14.1).bind fun x15 =>
     A.cond x15 (
      some (AX.ret, [(AV.int .i64 1), (v4.getD 1 AV.undef)], r14.2)) (
      (A.gtr (v4.getD 1 AV.undef) (AV.int .i64 0)).bind fun x16 =>
      (A.guard x16 true (A.part1 0 c12) (some (AV.tup []))).bind fun x17 =>
      (A.guard x16 true (some a0) (some (AV.tup []))).bind fun x18 =>
      (A.guard x16 true (some (v4.getD 1 AV.undef)) (some (AV.tup []))).bind fun x19 =>
      (A.guard x16 true (A.sub x19 (AV.int .i64 1)) (some (AV.tup []))).bind fun x20 =>
      (A.guard x16 true (A.iaddr 5 x18 x20) (some (AV.tup []))).bind fun x21 =>
      (A.guard x16 true (A.faddr 0 x21) (some (AV.tup []))).bind fun x22 =>
      (A.guard x16 true ((A.deref x22 r14.2).bind fun c23 => A.part1 0 c23) (some (AV.tup []))).bind fun x24 =>
      (A.guard x16 true (A.leq x17 x24) (some (AV.tup []))).bind fun x25 =>
      (A.pick x16 x25 (AV.bool false)).bind fun x26 =>
      A.cond x26 (
       some (AX.ret, [(AV.int .i64 7), (v4.getD 1 AV.undef)], r14.2)) (
       (A.partA 1 4 c12).bind fun x27 =>
       (m_R4_Check [x27] r14.2).bind fun r28 =>
       (A.neq .i r28.1 (AV.int .i64 0)).bind fun x29 =>
       A.cond x29 (
        some (AX.ret, [r28.1, (v4.getD 1 AV.undef)], r28.2)) (
        (A.add (v4.getD 1 AV.undef) (AV.int .i64 1)).bind fun x30 =>
        some (AX.normal, [(v4.getD 0 AV.undef), x30], r28.2))))) (
     some (AX.exit 0, [(v4.getD 0 AV.undef), (v4.getD 1 AV.undef)], s5))) [(AV.int .i64 0), (AV.int .i64 0)] σ).bind fun r31 =>
  bif r31.1 == AX.exit 0 then (
   (A.lenS a0).bind fun x32 =>
   (A.loop (fun v33 s34 =>
     (A.lss (v33.getD 1 AV.undef) x32).bind fun x36 =>
     A.cond x36 (
      (A.iaddr 5 a0 (v33.getD 1 AV.undef)).bind fun x37 =>
      ((A.deref x37 s34).bind fun c38 => A.partA 0 5 c38).bind fun x39 =>
      (A.cells 5 x39).bind fun c40 =>
      (A.splice 0 c40 [(AV.int .i64 0), (AV.int .i64 0), (AV.int .i64 0), (AV.int .i64 0), AV.nsl]).bind fun c41 =>
      (A.partA 1 4 c41).bind fun x42 =>
      (m_R4_Named [x42, (AV.int .i64 2)] s34).bind fun r43 =>
      (A.lenS r43.1).bind fun x44 =>
      (A.loop (fun v45 s46 =>
        (A.lss (v45.getD 1 AV.undef) x44).bind fun x48 =>
        A.cond x48 (
         (A.iaddr 1 r43.1 (v45.getD 1 AV.undef)).bind fun x49 =>
         ((A.deref x49 s46).bind fun c50 => A.part1 0 c50).bind fun x51 =>
         (m_R4_GroupOf [a0, x51] s46).bind fun r52 =>
         (A.ext 0 r52.1).bind fun x53 =>
         (A.ext 1 r52.1).bind fun x54 =>
         (A.cells 5 x53).bind fun c55 =>
         (A.splice 0 c55 [(AV.int .i64 0), (AV.int .i64 0), (AV.int .i64 0), (AV.int .i64 0), AV.nsl]).bind fun c56 =>
         (A.not x54).bind fun x57 =>
         A.cond x57 (
          some (AX.ret, [(AV.int .i64 8), (v45.getD 1 AV.undef)], r52.2)) (
          (A.add (v45.getD 1 AV.undef) (AV.int .i64 1)).bind fun x58 =>
          some (AX.normal, [(v45.getD 0 AV.undef), x58], r52.2))) (
         some (AX.exit 5, [(v45.getD 0 AV.undef), (v45.getD 1 AV.undef)], s46))) [(v33.getD 0 AV.undef), (AV.int .i64 0)] r43.2).bind fun r59 =>
      bif r59.1 == AX.exit 5 then (
       (A.add (v33.getD 1 AV.undef) (AV.int .i64 1)).bind fun x60 =>
       some (AX.normal, [(r59.2.1.getD 0 AV.undef), x60], r59.2.2)) else
      bif r59.1 == AX.ret then (
       some (AX.ret, [(r59.2.1.getD 0 AV.undef), (v33.getD 1 AV.undef)], r59.2.2)) else
      none) (
      some (AX.exit 3, [(v33.getD 0 AV.undef), (v33.getD 1 AV.undef)], s34))) [(r31.2.1.getD 0 AV.undef), (AV.int .i64 0)] r31.2.2).bind fun r61 =>
   bif r61.1 == AX.exit 3 then (
    (A.lenS a0).bind fun x62 =>
    (A.loop (fun v63 s64 =>
      (A.lss (v63.getD 1 AV.undef) x62).bind fun x66 =>
      A.cond x66 (
       (A.iaddr 5 a0 (v63.getD 1 AV.undef)).bind fun x67 =>
       ((A.deref x67 s64).bind fun c68 => A.partA 0 5 c68).bind fun x69 =>
       (A.cells 5 x69).bind fun c70 =>
       (A.splice 0 c70 [(AV.int .i64 0), (AV.int .i64 0), (AV.int .i64 0), (AV.int .i64 0), AV.nsl]).bind fun c71 =>
       (A.part1 0 c71).bind fun x72 =>
       (A.quiet (m_R4_reached [a0, x72] s64) s64).bind fun x73 =>
       (A.part1 0 c71).bind fun x74 =>
       (A.quiet (m_slices_Contains_int [x73, x74] s64) s64).bind fun x75 =>
       A.cond x75 (
        some (AX.ret, [(AV.int .i64 11), (v63.getD 1 AV.undef)], s64)) (
        (A.add (v63.getD 1 AV.undef) (AV.int .i64 1)).bind fun x76 =>
        some (AX.normal, [(v63.getD 0 AV.undef), x76], s64))) (
       some (AX.exit 7, [(v63.getD 0 AV.undef), (v63.getD 1 AV.undef)], s64))) [(r61.2.1.getD 0 AV.undef), (AV.int .i64 0)] r61.2.2).bind fun r77 =>
    bif r77.1 == AX.exit 7 then (
     A.fin σ (AV.int .i64 0) r77.2.2) else
    bif r77.1 == AX.ret then (
     A.fin σ (r77.2.1.getD 0 AV.undef) r77.2.2) else
    none) else
   bif r61.1 == AX.ret then (
    A.fin σ (r61.2.1.getD 0 AV.undef) r61.2.2) else
   none) else
  bif r31.1 == AX.ret then (
   A.fin σ (r31.2.1.getD 0 AV.undef) r31.2.2) else
  none)
noncomputable def m_R4_CheckGroups : List AV → Heap → Option (AV × Heap) := A.wrap true [(.s 5)] .k (A.ar1 r_R4_CheckGroups)
noncomputable def r_R4_Uses (a0 a1 : AV) (σ : Heap) : Option (AV × Heap) :=
 (m_R4_CheckGroups [a0] σ).bind fun r1 =>
 (A.neq .i r1.1 (AV.int .i64 0)).bind fun x2 =>
 A.cond x2 (
  A.fin σ (AV.tup [AV.nsl, r1.1]) r1.2) (
  (m_R4_GroupOf [a0, a1] r1.2).bind fun r3 =>
  (A.ext 0 r3.1).bind fun x4 =>
  (A.ext 1 r3.1).bind fun x5 =>
  (A.cells 5 x4).bind fun c6 =>
  (A.splice 0 c6 [(AV.int .i64 0), (AV.int .i64 0), (AV.int .i64 0), (AV.int .i64 0), AV.nsl]).bind fun c7 =>
  (A.not x5).bind fun x8 =>
  A.cond x8 (
   A.fin σ (AV.tup [AV.nsl, (AV.int .i64 8)]) r3.2) (
   (A.lenS a0).bind fun x9 =>
   (A.loop (fun v10 s11 =>
     (A.lss (v10.getD 1 AV.undef) x9).bind fun x13 =>
     A.cond x13 (
      (A.iaddr 5 a0 (v10.getD 1 AV.undef)).bind fun x14 =>
      ((A.deref x14 s11).bind fun c15 => A.partA 0 5 c15).bind fun x16 =>
      (A.cells 5 x16).bind fun c17 =>
      (A.splice 0 c17 [(AV.int .i64 0), (AV.int .i64 0), (AV.int .i64 0), (AV.int .i64 0), AV.nsl]).bind fun c18 =>
      (A.part1 0 c18).bind fun x19 =>
      (m_R4_reached [a0, x19] s11).bind fun r20 =>
      (m_slices_Contains_int [r20.1, a1] r20.2).bind fun r21 =>
      (A.cond r21.1 (
       (A.part1 0 c18).bind fun x23 =>
       ((((A.cell x23).bind fun v => some [v]).bind fun c24 => (A.splice 0 c24 [(AV.int .i64 0)]).bind fun c25 => some c25).bind fun cs => some (AV.sl 1 (chunks 1 1 cs))).bind fun x26 =>
       (A.append 1 (140737488355328 / 8) (v10.getD 0 AV.undef) x26 r21.2).bind fun r27 =>
       some ([r27.1], r27.2)) (
       some ([(v10.getD 0 AV.undef)], r21.2))).bind fun r22 =>
      (A.add (v10.getD 1 AV.undef) (AV.int .i64 1)).bind fun x28 =>
      some (AX.normal, [(r22.1.getD 0 AV.undef), x28], r22.2)) (
      some (AX.exit 0, [(v10.getD 0 AV.undef), (v10.getD 1 AV.undef)], s11))) [AV.nsl, (AV.int .i64 0)] r3.2).bind fun r29 =>
   bif r29.1 == AX.exit 0 then (
    A.fin σ (AV.tup [(r29.2.1.getD 0 AV.undef), (AV.int .i64 0)]) r29.2.2) else
   none))
noncomputable def m_R4_Uses : List AV → Heap → Option (AV × Heap) := A.wrap true [(.s 5)] (.t [(.s 1), .k]) (A.ar2 r_R4_Uses)
end Go.Proofs.Ytgjglkakhmikjaa

namespace Go.Proofs.Ytgjglkakhmikjaa
set_option linter.unusedSectionVars false
set_option linter.unusedSimpArgs false
set_option linter.unusedVariables false
set_option maxRecDepth 100000
noncomputable def r_W4_PickGroupsMatchSpec (a0 a1 : AV) (σ : Heap) : Option (AV × Heap) :=
 (m_pick_Uses [a0, a1] σ).bind fun r1 =>
 (A.ext 0 r1.1).bind fun x2 =>
 (A.ext 1 r1.1).bind fun x3 =>
 (m_R4_Uses [a0, a1] r1.2).bind fun r4 =>
 (A.ext 0 r4.1).bind fun x5 =>
 (A.ext 1 r4.1).bind fun x6 =>
 (m_pick_CheckGroups [a0] r4.2).bind fun r7 =>
 (m_R4_CheckGroups [a0] r7.2).bind fun r8 =>
 (A.eql .i r7.1 r8.1).bind fun x9 =>
 (A.guard x9 true (some x2) (some (AV.tup []))).bind fun x10 =>
 (A.guard x9 true (some x5) (some (AV.tup []))).bind fun x11 =>
 (A.guard x9 true (A.quiet (m_slices_Equal_int [x10, x11] r8.2) r8.2) (some (AV.tup []))).bind fun x12 =>
 (A.pick x9 x12 (AV.bool false)).bind fun x13 =>
 (A.guard x13 true (some x3) (some (AV.tup []))).bind fun x14 =>
 (A.guard x13 true (some x6) (some (AV.tup []))).bind fun x15 =>
 (A.guard x13 true (A.eql .i x14 x15) (some (AV.tup []))).bind fun x16 =>
 (A.pick x13 x16 (AV.bool false)).bind fun x17 =>
 A.fin σ x17 r8.2
noncomputable def m_W4_PickGroupsMatchSpec : List AV → Heap → Option (AV × Heap) := A.wrap true [(.s 5)] .k (A.ar2 r_W4_PickGroupsMatchSpec)
end Go.Proofs.Ytgjglkakhmikjaa

namespace Go.Proofs.Ytgjglkakhmikjaa
set_option linter.unusedSectionVars false
set_option maxRecDepth 100000
set_option linter.unusedVariables false
set_option linter.unusedSimpArgs false
theorem s_word_Within : Sound Try.prog nmT 17 m_word_Within := q3 [] 15 (.s .n (.s .n .n)) All.nil Try.func17 Try.call17 (fun a0 a1 a2 σ => by kernel_rfl) rfl rfl
noncomputable def x_pick_size (rec : Nat → List AV → Heap → Option (AV × Heap)) : Fx := ⟨Try.prog, nmT, A.tab (fun _ _ => none) [(33, rec 37)], (fun _ _ _ => none), [1, 5], [], 30, []⟩
theorem w_pick_size (rec : Nat → List AV → Heap → Option (AV × Heap)) (hrec : ∀ f, Sound Try.prog nmT f (rec (nmT.getD f 0))) : Sound Try.prog nmT 33 (A.wrap true [(.a [.k, .k, .k, (.s 4)])] .k (A.ar1 (r_pick_size rec))) :=
 Sound.wrap (Sound.run1 (X := x_pick_size rec) (fn := Try.f33) (ann := (.s .n (.s .n (.s (.s .n (.b (.l [2, 3, 11] [.exit 0] (.s .n (.s (.j .n .n) (.s (.b (.s .n (.s .n .n))) .n)))))) (.s .n .n))))) .F trivial (Snd.of rfl (All.cons (hrec 33) All.nil) (fun _ => Sound.none)) Try.func33 Try.call33 (fun a0 σ => by kernel_rfl)) _ _ _ rfl rfl
theorem g_pick_size : ∀ n f, Sound Try.prog nmT f (fuel (R_pick_size) n (nmT.getD f 0)) :=
 fuel_sound (fun rec hrec => (DAll.cons (nm_sound (w_pick_size rec hrec) (by kernel_rfl) rfl) DAll.nil))
theorem s_pick_size : Sound Try.prog nmT 33 m_pick_size := g_pick_size 2000000 33
noncomputable def x_pick_check (rec : Nat → List AV → Heap → Option (AV × Heap)) : Fx := ⟨Try.prog, nmT, A.tab (fun _ _ => none) [(17, m_word_Within), (34, rec 38)], (fun _ _ _ => none), [1, 9], [], 95, []⟩
theorem w_pick_check (rec : Nat → List AV → Heap → Option (AV × Heap)) (hrec : ∀ f, Sound Try.prog nmT f (rec (nmT.getD f 0))) : Sound Try.prog nmT 34 (A.wrap true [(.a [.k, .k, .k, (.s 4)])] .k (A.ar1 (r_pick_check rec))) :=
 Sound.wrap (Sound.run1 (X := x_pick_check rec) (fn := Try.f34) (ann := (.s .n (.s .n (.s (.s .n (.b (.s .n (.j .n (.s (.s .n (.c [1, 15] .n .n)) (.j .n (.s (.s .n (.c [1, 18] .n .n)) (.j .n (.s (.s .n (.c [1, 21] .n (.s .n (.c [1, 21] .n .n)))) (.j .n (.s .n (.j .n (.s .n .n))))))))))))) (.s .n (.s (.s .n (.c [1, 6] .n .n)) (.s (.s .n (.j (.s .n .n) .n)) (.s .n (.s (.s .n (.b (.s .n (.c [1, 7] .n (.s .n (.c [1, 7] .n .n)))))) (.s (.s .n (.j (.s .n .n) .n)) (.s (.s .n (.b (.l [2, 85] [.exit 2, .ret] (.s .n (.s (.j .n .n) (.s (.b (.s .n (.s .n (.s .n (.j (.s .n .n) .n))))) .n)))))) (.s .n .n)))))))))))) .F trivial (Snd.of rfl (All.cons s_word_Within (All.cons (hrec 34) All.nil)) (fun _ => Sound.none)) Try.func34 Try.call34 (fun a0 σ => by kernel_rfl)) _ _ _ rfl rfl
theorem g_pick_check : ∀ n f, Sound Try.prog nmT f (fuel (R_pick_check) n (nmT.getD f 0)) :=
 fuel_sound (fun rec hrec => (DAll.cons (nm_sound (w_pick_check rec hrec) (by kernel_rfl) rfl) DAll.nil))
theorem s_pick_check : Sound Try.prog nmT 34 m_pick_check := g_pick_check 2000000 34
theorem s_pick_Check : Sound Try.prog nmT 18 m_pick_Check := q1 [1] 18 (.s .n (.s (.s .n (.s .n (.j (.s .n .n) .n))) (.s .n .n))) (All.cons s_pick_size (All.cons s_pick_check All.nil)) Try.func18 Try.call18 (fun a0 σ => by kernel_rfl) rfl rfl
noncomputable def x_pick_names (rec : Nat → List AV → Heap → Option (AV × Heap)) (dyn : Nat → List AV → Heap → Option (AV × Heap)) : Fx := ⟨Try.prog, nmT, A.tab (fun _ _ => none) [(30, rec 41)], dyn, [2, 5], [], 31, []⟩
theorem w_pick_names (rec : Nat → List AV → Heap → Option (AV × Heap)) (dyn : Nat → List AV → Heap → Option (AV × Heap)) (hrec : ∀ f, Sound Try.prog nmT f (rec (nmT.getD f 0))) (hd : ∀ f, Sound Try.prog nmT f (dyn (nmT.getD f 0))) : Sound Try.prog nmT 30 (A.wrap false [] .k (A.ar2 (r_pick_names rec dyn))) :=
 Sound.wrap (Sound.run2 (X := x_pick_names rec dyn) (fn := Try.f30) (ann := (.s .n (.s (.s .n (.c [2] .n .n)) (.s .n (.b (.l [23] [.exit 0] (.s .n (.s (.j .n .n) (.s (.b (.s .n .n)) .n))))))))) .K trivial (Snd.of rfl (All.cons (hrec 30) All.nil) (hd)) Try.func30 Try.call30 (fun a0 a1 σ => by kernel_rfl)) _ _ _ rfl rfl
theorem g_pick_names (dyn : Nat → List AV → Heap → Option (AV × Heap)) (hd : ∀ f, Sound Try.prog nmT f (dyn (nmT.getD f 0))) : ∀ n f, Sound Try.prog nmT f (fuel (R_pick_names dyn) n (nmT.getD f 0)) :=
 fuel_sound (fun rec hrec => (DAll.cons (nm_sound (w_pick_names rec dyn hrec hd) (by kernel_rfl) rfl) DAll.nil))
theorem s_pick_names (dyn : Nat → List AV → Heap → Option (AV × Heap)) (hd : ∀ f, Sound Try.prog nmT f (dyn (nmT.getD f 0))) : Sound Try.prog nmT 30 (m_pick_names dyn) := g_pick_names dyn hd 2000000 30
noncomputable def x_pick_uses_fn1 : Fx := ⟨Try.prog, nmT, A.tab (fun _ _ => none) [], (fun _ _ _ => none), [], [], 18, []⟩
theorem e_pick_uses_fn1 (a0 : AV) (i1 : IntKind) (o1 : Int) (i2 o2 : Nat) (i3 o3 : Nat) (σ : Heap) : runA (x_pick_uses_fn1) .K (.s .n (.c [] .n .n)) Try.f31 [a0, .int i1 o1, .op i2 o2, .op i3 o3] σ = r_pick_uses_fn1 a0 (.int i1 o1) (.op i2 o2) (.op i3 o3) σ := by kernel_rfl
theorem w_pick_uses_fn1 : Sound Try.prog nmT 31 (A.wrap false [] .k (A.ar4 (b_pick_uses_fn1))) :=
 Sound.wrap (Sound.runL (X := x_pick_uses_fn1) (fn := Try.f31) (ann := (.s .n (.c [] .n .n))) .K trivial (Snd.of rfl All.nil (fun _ => Sound.none)) Try.func31 Try.call31 (fun args σ r h => by
  unfold A.ar4 b_pick_uses_fn1 at h
  split at h
  ·split at h
   ·exact (e_pick_uses_fn1 ..).trans h
   ·cases h
  ·cases h)) _ _ _ rfl rfl
theorem s_pick_uses_fn1 : Sound Try.prog nmT 31 m_pick_uses_fn1 := w_pick_uses_fn1
noncomputable def x_pick_uses : Fx := ⟨Try.prog, nmT, A.tab (fun _ _ => none) [(30, m_pick_names (A.tab (fun _ _ => none) [(40, m_pick_uses_fn1)]))], (A.tab (fun _ _ => none) [(40, m_pick_uses_fn1)]), [], [3, 5], 22, []⟩
theorem w_pick_uses : Sound Try.prog nmT 12 (A.wrap true [(.s 5)] .k (A.ar1 (r_pick_uses))) :=
 Sound.wrap (Sound.run1 (X := x_pick_uses) (fn := Try.f12) (ann := (.s .n (.s .n (.s (.s .n (.b (.l [9] [.exit 0] (.s .n (.s (.j .n .n) (.s (.b (.s .n (.s .n .n))) .n)))))) (.s .n .n))))) .F trivial (Snd.of rfl (All.cons (s_pick_names _ (dyn_of (DAll.cons (nm_sound s_pick_uses_fn1 (by kernel_rfl) rfl) DAll.nil))) All.nil) (dyn_of (DAll.cons (nm_sound s_pick_uses_fn1 (by kernel_rfl) rfl) DAll.nil))) Try.func12 Try.call12 (fun a0 σ => by kernel_rfl)) _ _ _ rfl rfl
theorem s_pick_uses : Sound Try.prog nmT 12 m_pick_uses := w_pick_uses
noncomputable def x_pick_reach : Fx := ⟨Try.prog, nmT, A.tab (fun _ _ => none) [], (fun _ _ _ => none), [], [12], 47, []⟩
theorem w_pick_reach : Sound Try.prog nmT 13 (A.wrap true [] .k (A.ar2 (r_pick_reach))) :=
 Sound.wrap (Sound.run2 (X := x_pick_reach) (fn := Try.f13) (ann := (.s .n (.s .n (.s .n (.s (.b (.l [6] [.exit 0] (.s (.s .n (.j .n .n)) (.b (.s .n (.s .n (.s .n (.b (.l [6, 31] [.exit 2] (.s .n (.s (.j .n .n) (.s (.b (.s .n (.s .n (.c [6] (.s .n .n) .n)))) .n)))))))))))) (.s .n .n)))))) .F trivial (Snd.of rfl All.nil (fun _ => Sound.none)) Try.func13 Try.call13 (fun a0 a1 σ => by kernel_rfl)) _ _ _ rfl rfl
theorem s_pick_reach : Sound Try.prog nmT 13 m_pick_reach := w_pick_reach
theorem s_pick_CheckGroups : Sound Try.prog nmT 7 m_pick_CheckGroups := q1 [4, 8, 14] 90 (.s .n (.s (.s .n (.j (.s .n .n) .n)) (.s (.s .n (.b (.l [2, 20] [.exit 0, .ret] (.s .n (.s (.j .n .n) (.s (.b (.s .n (.s (.s .n (.j (.s .n .n) .n)) (.s (.s .n (.j (.s .n .n) .n)) (.s .n (.s .n (.j (.s .n .n) .n))))))) .n)))))) (.s .n (.s (.s .n (.b (.l [2, 53] [.exit 2, .ret] (.s .n (.s (.j .n .n) (.s (.b (.s .n (.s .n (.b (.l [2, 62] [.exit 4, .ret] (.s .n (.s (.j .n .n) (.s (.b (.s .n (.s .n (.s .n (.j (.s .n .n) .n))))) .n)))))))) .n)))))) (.s (.s .n (.b (.l [2, 78] [.exit 6, .ret] (.s .n (.s (.j .n .n) (.s (.b (.s .n (.s .n (.j (.s .n .n) .n)))) .n)))))) (.s .n .n))))))) (All.cons s_word_Within (All.cons s_pick_Check (All.cons s_pick_uses (All.cons s_pick_reach All.nil)))) Try.func7 Try.call7 (fun a0 σ => by kernel_rfl) rfl rfl
theorem s_pick_Uses : Sound Try.prog nmT 5 m_pick_Uses := q2 [12] 47 (.s .n (.s (.s .n (.s .n (.j (.s .n .n) .n))) (.s .n (.s (.s .n (.s .n (.j (.s .n .n) .n))) (.s .n (.s (.s .n (.b (.l [10, 30] [.exit 0] (.s .n (.s (.j .n .n) (.s (.b (.s .n (.s .n (.c [10] .n .n)))) .n)))))) (.s .n .n))))))) (All.cons s_pick_CheckGroups (All.cons s_pick_uses (All.cons s_pick_reach All.nil))) Try.func5 Try.call5 (fun a0 a1 σ => by kernel_rfl) rfl rfl
theorem s_R1_Within : Sound Try.prog nmT 19 m_R1_Within := q3 [] 15 (.s .n (.s .n .n)) All.nil Try.func19 Try.call19 (fun a0 a1 a2 σ => by kernel_rfl) rfl rfl
noncomputable def x_R4_parts (rec : Nat → List AV → Heap → Option (AV × Heap)) : Fx := ⟨Try.prog, nmT, A.tab (fun _ _ => none) [(35, rec 46)], (fun _ _ _ => none), [2, 9], [], 41, []⟩
theorem w_R4_parts (rec : Nat → List AV → Heap → Option (AV × Heap)) (hrec : ∀ f, Sound Try.prog nmT f (rec (nmT.getD f 0))) : Sound Try.prog nmT 35 (A.wrap true [(.a [.k, .k, .k, (.s 4)])] .k (A.ar2 (r_R4_parts rec))) :=
 Sound.wrap (Sound.run2 (X := x_R4_parts rec) (fn := Try.f35) (ann := (.s .n (.s .n (.s (.s .n (.j (.s .n .n) .n)) (.s (.s .n (.b (.l [6, 7, 20] [.exit 0] (.s .n (.s (.j .n .n) (.s (.b (.s .n (.s .n .n))) .n)))))) (.s .n .n)))))) .F trivial (Snd.of rfl (All.cons (hrec 35) All.nil) (fun _ => Sound.none)) Try.func35 Try.call35 (fun a0 a1 σ => by kernel_rfl)) _ _ _ rfl rfl
theorem g_R4_parts : ∀ n f, Sound Try.prog nmT f (fuel (R_R4_parts) n (nmT.getD f 0)) :=
 fuel_sound (fun rec hrec => (DAll.cons (nm_sound (w_R4_parts rec hrec) (by kernel_rfl) rfl) DAll.nil))
theorem s_R4_parts : Sound Try.prog nmT 35 m_R4_parts := g_R4_parts 2000000 35
theorem s_R4_used : Sound Try.prog nmT 60 m_R4_used := q1 [] 17 (.s .n (.s (.s .n (.b (.s .n (.j (.s .n .n) (.s (.s .n (.c [8] .n .n)) (.j (.s .n .n) (.s .n (.j (.s .n .n) (.s .n (.j (.s .n .n) (.s .n (.j (.s .n .n) .n)))))))))))) (.s .n .n))) All.nil Try.func60 Try.call60 (fun a0 σ => by kernel_rfl) rfl rfl
noncomputable def x_R4_checkPart (rec : Nat → List AV → Heap → Option (AV × Heap)) : Fx := ⟨Try.prog, nmT, A.tab (fun _ _ => none) [(19, m_R1_Within), (60, m_R4_used), (36, rec 48)], (fun _ _ _ => none), [1, 8], [], 94, []⟩
theorem w_R4_checkPart (rec : Nat → List AV → Heap → Option (AV × Heap)) (hrec : ∀ f, Sound Try.prog nmT f (rec (nmT.getD f 0))) : Sound Try.prog nmT 36 (A.wrap true [(.a [.k, .k, .k, (.s 4)])] .k (A.ar1 (r_R4_checkPart rec))) :=
 Sound.wrap (Sound.run1 (X := x_R4_checkPart rec) (fn := Try.f36) (ann := (.s .n (.s (.s .n (.j (.s .n .n) .n)) (.s .n (.s (.s .n (.j (.s .n .n) .n)) (.s .n (.s (.s .n (.b (.s .n (.c [1, 6] .n (.s .n (.c [1, 6] .n .n)))))) (.s (.s .n (.j (.s .n .n) .n)) (.s (.s .n (.b (.l [2, 84] [.exit 1, .ret] (.s .n (.s (.j .n .n) (.s (.b (.s .n (.s .n (.s .n (.j (.s .n .n) .n))))) .n)))))) (.s .n .n)))))))))) .F trivial (Snd.of rfl (All.cons s_R1_Within (All.cons s_R4_used (All.cons (hrec 36) All.nil))) (fun _ => Sound.none)) Try.func36 Try.call36 (fun a0 σ => by kernel_rfl)) _ _ _ rfl rfl
theorem g_R4_checkPart : ∀ n f, Sound Try.prog nmT f (fuel (R_R4_checkPart) n (nmT.getD f 0)) :=
 fuel_sound (fun rec hrec => (DAll.cons (nm_sound (w_R4_checkPart rec hrec) (by kernel_rfl) rfl) DAll.nil))
theorem s_R4_checkPart : Sound Try.prog nmT 36 m_R4_checkPart := g_R4_checkPart 2000000 36
theorem s_R4_Check : Sound Try.prog nmT 20 m_R4_Check := q1 [1] 18 (.s .n (.s (.s .n (.s .n (.j (.s .n .n) .n))) (.s .n .n))) (All.cons s_R4_parts (All.cons s_R4_checkPart All.nil)) Try.func20 Try.call20 (fun a0 σ => by kernel_rfl) rfl rfl
noncomputable def x_R4_Named (rec : Nat → List AV → Heap → Option (AV × Heap)) : Fx := ⟨Try.prog, nmT, A.tab (fun _ _ => none) [(21, rec 50)], (fun _ _ _ => none), [2, 7], [], 31, []⟩
theorem w_R4_Named (rec : Nat → List AV → Heap → Option (AV × Heap)) (hrec : ∀ f, Sound Try.prog nmT f (rec (nmT.getD f 0))) : Sound Try.prog nmT 21 (A.wrap true [(.a [.k, .k, .k, (.s 4)])] (.s 1) (A.ar2 (r_R4_Named rec))) :=
 Sound.wrap (Sound.run2 (X := x_R4_Named rec) (fn := Try.f21) (ann := (.s .n (.s .n (.s (.s .n (.c [2, 5] .n .n)) (.s (.s .n (.b (.l [5, 20] [.exit 0] (.s .n (.s (.j .n .n) (.s (.b (.s .n .n)) .n)))))) (.s .n .n)))))) .F trivial (Snd.of rfl (All.cons (hrec 21) All.nil) (fun _ => Sound.none)) Try.func21 Try.call21 (fun a0 a1 σ => by kernel_rfl)) _ _ _ rfl rfl
theorem g_R4_Named : ∀ n f, Sound Try.prog nmT f (fuel (R_R4_Named) n (nmT.getD f 0)) :=
 fuel_sound (fun rec hrec => (DAll.cons (nm_sound (w_R4_Named rec hrec) (by kernel_rfl) rfl) DAll.nil))
theorem s_R4_Named : Sound Try.prog nmT 21 m_R4_Named := g_R4_Named 2000000 21
theorem s_R4_GroupOf : Sound Try.prog nmT 14 m_R4_GroupOf := q2 [4, 7] 21 (.s .n (.s (.s .n (.b (.l [4, 5, 10] [.exit 0, .ret] (.s .n (.s (.j .n .n) (.s (.b (.s .n (.s .n (.j (.s .n .n) .n)))) .n)))))) (.s .n .n))) All.nil Try.func14 Try.call14 (fun a0 a1 σ => by kernel_rfl) rfl rfl
theorem s_slices_Index_int : Sound Try.prog nmT 32 m_slices_Index_int := q2 [] 19 (.s .n (.s (.s .n (.b (.l [4, 8] [.exit 0, .ret] (.s .n (.s (.j .n .n) (.s (.b (.s .n (.s .n (.j (.s .n .n) .n)))) .n)))))) (.s .n .n))) All.nil Try.func32 Try.call32 (fun a0 a1 σ => by kernel_rfl) rfl rfl
theorem s_slices_Contains_int : Sound Try.prog nmT 15 m_slices_Contains_int := q2 [] 9 (.s .n (.s .n .n)) (All.cons s_slices_Index_int All.nil) Try.func15 Try.call15 (fun a0 a1 σ => by kernel_rfl) rfl rfl
noncomputable def x_R4_reached : Fx := ⟨Try.prog, nmT, A.tab (fun _ _ => none) [(14, m_R4_GroupOf), (21, m_R4_Named), (15, m_slices_Contains_int)], (fun _ _ _ => none), [7], [12], 48, []⟩
theorem w_R4_reached : Sound Try.prog nmT 16 (A.wrap true [(.s 5)] (.s 1) (A.ar2 (r_R4_reached))) :=
 Sound.wrap (Sound.run2 (X := x_R4_reached) (fn := Try.f16) (ann := (.s .n (.s .n (.s .n (.s (.b (.l [5, 6] [.exit 0] (.s (.s .n (.j .n .n)) (.b (.s .n (.s .n (.s .n (.b (.l [5, 6, 30] [.exit 2] (.s .n (.s (.j .n .n) (.s (.b (.s .n (.s .n (.c [5, 6] (.s .n .n) .n)))) .n)))))))))))) (.s .n .n)))))) .F trivial (Snd.of rfl (All.cons s_R4_GroupOf (All.cons s_R4_Named (All.cons s_slices_Contains_int All.nil))) (fun _ => Sound.none)) Try.func16 Try.call16 (fun a0 a1 σ => by kernel_rfl)) _ _ _ rfl rfl
theorem s_R4_reached : Sound Try.prog nmT 16 m_R4_reached := w_R4_reached
theorem s_R4_CheckGroups : Sound Try.prog nmT 8 m_R4_CheckGroups := q1 [4, 7, 10, 13] 88 (.s .n (.s (.s .n (.j (.s .n .n) .n)) (.s (.s .n (.b (.l [2, 19] [.exit 0, .ret] (.s .n (.s (.j .n .n) (.s (.b (.s .n (.s (.b (.s .n (.j (.s .n .n) (.s .n (.j (.s .n .n) .n))))) (.s .n (.s .n (.j (.s .n .n) .n)))))) .n)))))) (.s (.s .n (.b (.l [2, 52] [.exit 3, .ret] (.s .n (.s (.j .n .n) (.s (.b (.s .n (.s .n (.b (.l [2, 60] [.exit 5, .ret] (.s .n (.s (.j .n .n) (.s (.b (.s .n (.s .n (.s .n (.j (.s .n .n) .n))))) .n)))))))) .n)))))) (.s (.s .n (.b (.l [2, 76] [.exit 7, .ret] (.s .n (.s (.j .n .n) (.s (.b (.s .n (.s .n (.j (.s .n .n) .n)))) .n)))))) (.s .n .n)))))) (All.cons s_R1_Within (All.cons s_R4_Check (All.cons s_R4_Named (All.cons s_R4_GroupOf (All.cons s_R4_reached (All.cons s_slices_Contains_int All.nil)))))) Try.func8 Try.call8 (fun a0 σ => by kernel_rfl) rfl rfl
theorem s_R4_Uses : Sound Try.prog nmT 6 m_R4_Uses := q2 [7, 11] 44 (.s .n (.s (.s .n (.s .n (.j (.s .n .n) .n))) (.s (.s .n (.s .n (.j (.s .n .n) .n))) (.s .n (.s (.s .n (.b (.l [9, 27] [.exit 0] (.s .n (.s (.j .n .n) (.s (.b (.s .n (.s .n (.c [9] .n .n)))) .n)))))) (.s .n .n)))))) (All.cons s_R4_CheckGroups (All.cons s_R4_GroupOf (All.cons s_R4_reached (All.cons s_slices_Contains_int All.nil)))) Try.func6 Try.call6 (fun a0 a1 σ => by kernel_rfl) rfl rfl
theorem s_slices_Equal_int : Sound Try.prog nmT 9 m_slices_Equal_int := q2 [] 26 (.s .n (.s (.s .n (.j (.s .n .n) .n)) (.s (.s .n (.b (.l [4, 13] [.exit 0, .ret] (.s .n (.s (.j .n .n) (.s (.b (.s .n (.s .n (.j (.s .n .n) .n)))) .n)))))) (.s .n .n)))) All.nil Try.func9 Try.call9 (fun a0 a1 σ => by kernel_rfl) rfl rfl
theorem s_W4_PickGroupsMatchSpec : Sound Try.prog nmT 3 m_W4_PickGroupsMatchSpec := q2 [] 36 (.s .n (.s .n (.s .n (.s .n .n)))) (All.cons s_pick_Uses (All.cons s_R4_Uses (All.cons s_pick_CheckGroups (All.cons s_R4_CheckGroups (All.cons s_slices_Equal_int All.nil))))) Try.func3 Try.call3 (fun a0 a1 σ => by kernel_rfl) rfl rfl
end Go.Proofs.Ytgjglkakhmikjaa

namespace Go.Proofs.Ytgjglkakhmikjaa
set_option linter.unusedSectionVars false
set_option linter.unusedVariables false
set_option linter.unusedSimpArgs false

theorem bq (s t : ByteArray) : (s == t) = decide (s = t) := by
 obtain ⟨a⟩ := s
 obtain ⟨b⟩ := t
 show (a == b) = _
 rw [Bool.eq_iff_iff]
 simp
section
variable {α β : Type}
theorem cT (t e : Option α) : A.cond (.bool true) t e = t := rfl
theorem cF (t e : Option α) : A.cond (.bool false) t e = e := rfl
theorem gTT (e d : Option α) : A.guard (.bool true) true e d = e := rfl
theorem gTF (e d : Option α) : A.guard (.bool true) false e d = d := rfl
theorem gFT (e d : Option α) : A.guard (.bool false) true e d = d := rfl
theorem gFF (e d : Option α) : A.guard (.bool false) false e d = e := rfl
theorem pT (x y : AV) : A.pick (.bool true) x y = some x := rfl
theorem pF (x y : AV) : A.pick (.bool false) x y = some y := rfl
theorem gN (w : Bool) (e d : Option α) : A.guard (.tup []) w e d = d := rfl
theorem xN (a b : AX) : (a == b) = decide (a = b) := by rw [Bool.eq_iff_iff]; simp
end
section
variable (k : IntKind) (a b : Int) (p q : Prop) [Decidable p] [Decidable q] (s t : ByteArray) (x y : AV) (σ : Heap) (cs : List AV)
theorem aAdd : A.add (.int .i64 a) (.int .i64 b) = some (.int .i64 (IntKind.i64.wrap (a + b))) := rfl
theorem aSub : A.sub (.int .i64 a) (.int .i64 b) = some (.int .i64 (IntKind.i64.wrap (a - b))) := rfl
theorem aMul : A.mul (.int .i64 a) (.int .i64 b) = some (.int .i64 (IntKind.i64.wrap (a * b))) := rfl
theorem aLss : A.lss (.int .i64 a) (.int .i64 b) = some (.bool (decide (a < b))) := rfl
theorem aLeq : A.leq (.int .i64 a) (.int .i64 b) = some (.bool (decide (a ≤ b))) := rfl
theorem aGtr : A.gtr (.int .i64 a) (.int .i64 b) = some (.bool (decide (b < a))) := rfl
theorem aGeq : A.geq (.int .i64 a) (.int .i64 b) = some (.bool (decide (b ≤ a))) := rfl
theorem aLss8 : A.lss (.int .u8 a) (.int .u8 b) = some (.bool (decide (a < b))) := rfl
theorem aLeq8 : A.leq (.int .u8 a) (.int .u8 b) = some (.bool (decide (a ≤ b))) := rfl
theorem aGtr8 : A.gtr (.int .u8 a) (.int .u8 b) = some (.bool (decide (b < a))) := rfl
theorem aGeq8 : A.geq (.int .u8 a) (.int .u8 b) = some (.bool (decide (b ≤ a))) := rfl
theorem aEq : A.eql .i (.int k a) (.int k b) = some (.bool (decide (a = b))) := by
 simp only [A.eql, A.eqK, A.eqI, if_true, Option.map_some]; congr 2
theorem aNe : A.neq .i (.int k a) (.int k b) = some (.bool (decide (¬ a = b))) := by
 simp only [A.neq, A.eqK, A.eqI, if_true, Option.map_some]
 congr 2
 rw [Bool.eq_iff_iff]; simp
theorem aEqZ : A.eql .z (.str s) (.str t) = some (.bool (decide (s = t))) := by
 simp only [A.eql, A.eqK, A.eqZ, Option.map_some, bq]
theorem aNeZ : A.neq .z (.str s) (.str t) = some (.bool (decide (¬ s = t))) := by
 simp only [A.neq, A.eqK, A.eqZ, Option.map_some, bq]; simp
theorem aNot (b : Bool) : A.not (.bool b) = some (.bool (!b)) := rfl
theorem aNotD : A.not (.bool (decide p)) = some (.bool (decide (¬ p))) := by simp [A.not]
theorem aLb : A.lb (.lbx cs) = some cs := rfl
theorem aExt0 (l : List AV) : A.ext 0 (.tup (x :: l)) = some x := rfl
theorem aExt1 (x0 x : AV) (l : List AV) : A.ext 1 (.tup (x0 :: x :: l)) = some x := rfl
theorem aExt2 (x0 x1 x : AV) (l : List AV) : A.ext 2 (.tup (x0 :: x1 :: x :: l)) = some x := rfl
theorem aExt3 (x0 x1 x2 x : AV) (l : List AV) : A.ext 3 (.tup (x0 :: x1 :: x2 :: x :: l)) = some x := rfl
theorem aDe : A.deref (.rp cs) σ = some cs := rfl
theorem aFa (o : Nat) : A.faddr o (.rp cs) = some (.rp (cs.drop o)) := rfl
theorem aLenZ : A.lenZ (.str s) = some (.int .i64 s.size) := rfl
theorem aCI (n : Int) : A.cell (.int k n) = some (.int k n) := rfl
theorem aCB (b : Bool) : A.cell (.bool b) = some (.bool b) := rfl
theorem aCS : A.cell (.str s) = some (.str s) := rfl
theorem aCSl (sz : Nat) (es : List (List AV)) : A.cell (.sl sz es) = some (.sl sz es) := rfl
theorem p1D (o k : Nat) : A.part1 o (cs.drop k) = A.part1 (k + o) cs := by simp [A.part1, List.getElem?_drop]
end
theorem gd0 (a d : AV) (l : List AV) : (a :: l).getD 0 d = a := rfl
theorem gd1 (a b d : AV) (l : List AV) : (b :: a :: l).getD 1 d = a := rfl
theorem gd2 (a b c d : AV) (l : List AV) : (b :: c :: a :: l).getD 2 d = a := rfl
theorem gd3 (a b c e d : AV) (l : List AV) : (b :: c :: e :: a :: l).getD 3 d = a := rfl
theorem gd4 (a b c e f d : AV) (l : List AV) : (b :: c :: e :: f :: a :: l).getD 4 d = a := rfl
theorem gd5 (a b c e f g d : AV) (l : List AV) : (b :: c :: e :: f :: g :: a :: l).getD 5 d = a := rfl
theorem gd6 (a b c e f g h d : AV) (l : List AV) : (b :: c :: e :: f :: g :: h :: a :: l).getD 6 d = a := rfl
theorem gd7 (a b c e f g h i d : AV) (l : List AV) : (b :: c :: e :: f :: g :: h :: i :: a :: l).getD 7 d = a := rfl
theorem gd8 (a b c e f g h i j d : AV) (l : List AV) : (b :: c :: e :: f :: g :: h :: i :: j :: a :: l).getD 8 d = a := rfl
theorem wrap64 {n : Int} (h : inI n) : IntKind.i64.wrap n = n := IntWalk.i64_in n h
theorem wrap_eq {ro : Bool} {ain : List Sh} {rout : Sh} {r : List AV → Heap → Option (AV × Heap)} {args : List AV} {σ σ' : Heap} {v v' : AV} (h : args.any A.own = false) (e : r (A.nnL ain args) σ = some (v, σ')) (hv : A.nn rout v = v') : A.wrap ro ain rout r args σ = some (v', σ') := by
 unfold A.wrap
 rw [h, Bool.and_false, cond_false, e]
 simp [hv]
theorem scal2_shift {v : AV} (n : Nat) (h : A.scal2 v = true) : A.fresh v = true ∧ A.shift n v = v := by
 cases v <;> first | exact ⟨h, rfl⟩ | cases h
theorem scal_shift {v : AV} (n : Nat) (h : A.scal v = true) : A.freshT v = true ∧ A.shiftT n v = v := by
 have key : (∀ vs, v ≠ .tup vs) → A.freshT v = true ∧ A.shiftT n v = v := by
  intro k
  have := scal2_shift (v := v) n
  cases v <;> first | exact absurd rfl (k _) | exact this h
 by_cases ht : ∃ vs, v = .tup vs
 ·obtain ⟨vs, rfl⟩ := ht
  simp only [A.scal, List.all_eq_true] at h
  refine ⟨by simp only [A.freshT, List.all_eq_true]; exact fun x hx => (scal2_shift n (h x hx)).1, ?_⟩
  simp only [A.shiftT]
  congr 1
  calc vs.map (A.shift n) = vs.map id := List.map_congr_left fun x hx => (scal2_shift n (h x hx)).2
   _ = vs := List.map_id vs
 ·exact key fun vs e => ht ⟨vs, e⟩
theorem wrap_own {ain : List Sh} {rout : Sh} {r : List AV → Heap → Option (AV × Heap)} {args args' : List AV} {σ : Heap} {v : AV} (h : args.any A.own = true) (hz : A.frzL σ 0 8 args = some args') (ho : args'.any A.own = false) (e : A.wrap true ain rout r args' [] = some (v, [])) (hs : A.scal v = true) : A.wrap true ain rout r args σ = some (v, σ) := by
 unfold A.wrap at e ⊢
 rw [ho, Bool.and_false, cond_false] at e
 obtain ⟨⟨q1, q2⟩, e1, e2⟩ := Option.map_eq_some_iff.1 e
 simp only [Prod.mk.injEq] at e2
 obtain ⟨rfl, rfl⟩ := e2
 rw [h, Bool.and_self, cond_true, hz]
 simp [e1, (scal_shift σ.length hs).1, (scal_shift σ.length hs).2]
theorem fin_same (σ : Heap) (r : AV) : A.fin σ r σ = some (r, σ) := by simp [A.fin]
theorem frz_scal1 (σ : Heap) (n d : Nat) {a : AV} (h : A.scal1 a = true) : A.frz σ n d a = some a := by
 cases a <;> simp only [A.scal1] at h <;> first | (cases h; done) | skip
 case sl sz es => cases es with
  | nil => cases d <;> simp [A.frz, A.frzLL]
  | cons _ _ => simp at h
 all_goals cases d <;> simp [A.frz]
theorem frzL_scal1 (σ : Heap) (n d : Nat) : ∀ {l : List AV}, l.all A.scal1 = true → A.frzL σ n d l = some l
 | [], _ => by simp [A.frzL]
 | a :: l, h => by
  simp only [List.all_cons, Bool.and_eq_true] at h
  simp [A.frzL, frz_scal1 σ n d h.1, frzL_scal1 σ n d h.2]
theorem frz_scal2 (σ : Heap) (n d : Nat) {a : AV} (h : A.scal2 a = true) : A.frz σ n d a = some a := by
 unfold A.scal2 at h
 split at h
 ·cases d <;> simp [A.frz, frzL_scal1 σ n _ h]
 ·exact frz_scal1 σ n d h
theorem frzL_scal2 (σ : Heap) (n d : Nat) : ∀ {l : List AV}, l.all A.scal2 = true → A.frzL σ n d l = some l
 | [], _ => by simp [A.frzL]
 | a :: l, h => by
  simp only [List.all_cons, Bool.and_eq_true] at h
  simp [A.frzL, frz_scal2 σ n d h.1, frzL_scal2 σ n d h.2]
theorem frz_scal (σ : Heap) (n d : Nat) {a : AV} (h : A.scal a = true) : A.frz σ n d a = some a := by
 unfold A.scal at h
 split at h
 ·cases d <;> simp [A.frz, frzL_scal2 σ n _ h]
 ·exact frz_scal2 σ n d h
theorem fin_scal (σ bs : Heap) {r : AV} (h : A.scal r = true) : A.fin σ r (σ ++ bs) = some (r, σ) := by
 unfold A.fin
 split
 ·rfl
 ·rw [if_pos (by simp), frz_scal _ _ _ h]; rfl
theorem fin_int (σ bs : Heap) (k : IntKind) (n : Int) : A.fin σ (.int k n) (σ ++ bs) = some (.int k n, σ) := fin_scal σ bs rfl
theorem fin_bool (σ bs : Heap) (b : Bool) : A.fin σ (.bool b) (σ ++ bs) = some (.bool b, σ) := fin_scal σ bs rfl
theorem fin_str (σ bs : Heap) (s : ByteArray) : A.fin σ (.str s) (σ ++ bs) = some (.str s, σ) := fin_scal σ bs rfl
theorem fin_unit (σ bs : Heap) : A.fin σ (.tup []) (σ ++ bs) = some (.tup [], σ) := fin_scal σ bs rfl
theorem hat (σ bs : Heap) (j : Nat) : (σ ++ bs)[σ.length + j]? = bs[j]? := by rw [List.getElem?_append_right (by omega)]; congr 1; omega
theorem hat0 (σ bs : Heap) : (σ ++ bs)[σ.length]? = bs[0]? := by rw [List.getElem?_append_right (Nat.le_refl _), Nat.sub_self]
theorem hset (σ bs : Heap) (j : Nat) (b : Blk) : (σ ++ bs).set (σ.length + j) b = σ ++ bs.set j b := by rw [List.set_append_right _ _ (by omega)]; congr 2; omega
theorem hset0 (σ bs : Heap) (b : Blk) : (σ ++ bs).set σ.length b = σ ++ bs.set 0 b := by rw [List.set_append_right _ _ (Nat.le_refl _), Nat.sub_self]
section
variable {α : Type} (sz : Nat) (c : α → List AV) (l : List α)
theorem lenS_sl : A.lenS (sl sz c l) = some (.int .i64 l.length) := by simp [sl, A.lenS]
theorem iaddr_sl {k : Nat} {x : α} (h : l[k]? = some x) : A.iaddr sz (sl sz c l) (.int .i64 (k : Int)) = some (.rp (c x)) := by
 have hk : k < l.length := (List.getElem?_eq_some_iff.1 h).1
 have hx : l[k] = x := (List.getElem?_eq_some_iff.1 h).2
 simp [A.iaddr, sl, A.idx, hk, hx]
theorem iaddr_int {i : Int} {x : α} (h0 : 0 ≤ i) (h : l[i.toNat]? = some x) : A.iaddr sz (sl sz c l) (.int .i64 i) = some (.rp (c x)) := by
 have := iaddr_sl sz c l h
 rwa [Int.toNat_of_nonneg h0] at this
end
inductive Rd (S R : Type) where
 | go (s : S)
 | out (r : R)
def Rd.el {S R γ : Type} (x : Rd S R) (f : S → γ) (g : R → γ) : γ := match x with | .go s => f s | .out r => g r
theorem el_go {S R γ : Type} (s : S) (f : S → γ) (g : R → γ) : (Rd.go s : Rd S R).el f g = f s := rfl
theorem el_out {S R γ : Type} (r : R) (f : S → γ) (g : R → γ) : (Rd.out r : Rd S R).el f g = g r := rfl
theorem el_ite {S R γ : Type} {p : Prop} [Decidable p] (x y : Rd S R) (f : S → γ) (g : R → γ) : (if p then x else y).el f g = if p then x.el f g else y.el f g := by split <;> rfl
def runP {α S R : Type} (body : List α → α → S → Rd S R) : List α → List α → S → Rd S R
 | _, [], s => .go s
 | pre, x :: l, s => match body pre x s with | .go s' => runP body (pre ++ [x]) l s' | .out r => .out r
theorem iter_loop {f : List AV → Heap → Option (AX × List AV × Heap)} {v : List AV} {σ : Heap} : ∀ {n m : Nat} {r r' : AX × List AV × Heap}, A.iter f n v σ = some r → A.iter f m v σ = some r' → r = r' := by
 intro n
 induction n generalizing v σ with
 | zero => intro m r r' h; cases h
 | succ n ih =>
  intro m r r' h1 h2
  cases m with
  | zero => cases h2
  | succ m =>
   simp only [A.iter] at h1 h2
   cases hf : f v σ with
   | none => rw [hf] at h1; cases h1
   | some q =>
    rw [hf] at h1 h2
    simp only [Option.bind_some] at h1 h2
    obtain ⟨e, v', σ'⟩ := q
    cases e with
    | normal => exact ih h1 h2
    | exit i => simp only at h1 h2; rw [h1] at h2; injection h2
    | ret => simp only at h1 h2; rw [h1] at h2; injection h2
theorem loop_of_iter {f : List AV → Heap → Option (AX × List AV × Heap)} {v : List AV} {σ : Heap} {n : Nat} {r : AX × List AV × Heap} (h : A.iter f n v σ = some r) : A.loop f v σ = some r := by
 have hex : ∃ n r, A.iter f n v σ = some r := ⟨n, r, h⟩
 unfold A.loop
 rw [dif_pos hex]
 exact congrArg some (iter_loop (Classical.choose_spec (Classical.choose_spec hex)) h)
theorem loop_step {f : List AV → Heap → Option (AX × List AV × Heap)} {v v' : List AV} {σ σ' : Heap} {r : AX × List AV × Heap} (h : f v σ = some (.normal, v', σ')) (k : ∃ n, A.iter f n v' σ' = some r) : ∃ n, A.iter f n v σ = some r := by
 obtain ⟨n, k⟩ := k
 exact ⟨n + 1, by simp [A.iter, h, k]⟩
theorem loop_done {f : List AV → Heap → Option (AX × List AV × Heap)} {v : List AV} {σ : Heap} {r : AX × List AV × Heap} (h : f v σ = some r) (hr : r.1 ≠ .normal) : ∃ n, A.iter f n v σ = some r := by
 obtain ⟨e, v', σ'⟩ := r
 refine ⟨1, ?_⟩
 cases e <;> first | (simp [A.iter, h]; done) | exact absurd rfl hr
theorem loop_pre {α S R γ : Type} {f : List AV → Heap → Option (AX × List AV × Heap)} (l : List α) (body : List α → α → S → Rd S R) (st : List α → S → List AV) (hp : List α → S → Heap)
  (fin : S → AX × List AV × Heap) (out : List α → S → R → AX × List AV × Heap) (P : List α → S → Prop) (s0 : S) {k : AX × List AV × Heap → Option γ} (K1 : S → Option γ) (K2 : R → Option γ)
  (hstep : ∀ pre x rest s, l = pre ++ x :: rest → P pre s → f (st pre s) (hp pre s) = some ((body pre x s).el (fun s' => (.normal, st (pre ++ [x]) s', hp (pre ++ [x]) s')) (fun r => out pre s r)))
  (hend : ∀ s, P l s → f (st l s) (hp l s) = some (fin s)) (h0 : P [] s0)
  (hP : ∀ pre x rest s s', l = pre ++ x :: rest → P pre s → body pre x s = .go s' → P (pre ++ [x]) s')
  (hk1 : ∀ s, P l s → k (fin s) = K1 s) (hk2 : ∀ pre x rest s r, l = pre ++ x :: rest → P pre s → body pre x s = .out r → k (out pre s r) = K2 r)
  (hfin : ∀ s, (fin s).1 ≠ .normal := by intros; simp) (hout : ∀ pre s r, (out pre s r).1 ≠ .normal := by intros; simp) {v : List AV} {σ : Heap} (hv : v = st [] s0 := by rfl) (hσ : σ = hp [] s0 := by rfl) :
  (A.loop f v σ).bind k = (runP body [] l s0).el K1 K2 := by
 have key : ∀ (rest pre : List α) (s : S), l = pre ++ rest → P pre s → ∃ q, (∃ n, A.iter f n (st pre s) (hp pre s) = some q) ∧ k q = (runP body pre rest s).el K1 K2 := by
  intro rest
  induction rest with
  | nil =>
   intro pre s hl hp'
   rw [List.append_nil] at hl
   subst hl
   exact ⟨fin s, loop_done (hend s hp') (hfin s), by rw [runP, el_go, hk1 s hp']⟩
  | cons x rest ih =>
   intro pre s hl hp'
   have h := hstep pre x rest s hl hp'
   rw [runP]
   cases hb : body pre x s with
   | go s' =>
    rw [hb] at h
    obtain ⟨q, h1, h2⟩ := ih (pre ++ [x]) s' (by simpa using hl) (hP pre x rest s s' hl hp' hb)
    exact ⟨q, loop_step h h1, h2⟩
   | out r =>
    rw [hb] at h
    exact ⟨out pre s r, loop_done h (hout pre s r), by rw [el_out, hk2 pre x rest s r hl hp' hb]⟩
 obtain ⟨q, ⟨n, h1⟩, h2⟩ := key l [] s0 rfl h0
 rw [hv, hσ, loop_of_iter h1, Option.bind_some, h2]
theorem pre_get {α : Type} {l pre rest : List α} {x : α} (h : l = pre ++ x :: rest) : l[pre.length]? = some x := by rw [h]; simp
theorem pre_lt {α : Type} {l pre rest : List α} {x : α} (h : l = pre ++ x :: rest) : pre.length < l.length := by rw [h]; simp
section
variable {α : Type} (g : α → ByteArray) (gi : α → Int) (v : α → AV)
theorem find_z (k : ByteArray) : ∀ (l : List α), A.find .z (.str k) (l.map fun x => (AV.str (g x), v x)) = some ((l.find? fun x => decide (k = g x)).map v)
 | [] => rfl
 | x :: l => by
  simp only [List.map_cons, A.find, A.eqK, A.eqZ, Option.bind_some, List.find?]
  by_cases h : k = g x
  ·rw [bq]; simp [h]
  ·rw [bq]; simp [h, find_z k l]
theorem find_i (kk : IntKind) (k : Int) : ∀ (l : List α), A.find .i (.int kk k) (l.map fun x => (AV.int kk (gi x), v x)) = some ((l.find? fun x => decide (k = gi x)).map v)
 | [] => rfl
 | x :: l => by
  simp only [List.map_cons, A.find, A.eqK, A.eqI, if_true, Option.bind_some, List.find?]
  by_cases h : k = gi x
  ·have : (k == gi x) = true := by simpa using h
   simp [this, h]
  ·have : (k == gi x) = false := by simpa using h
   simp [this, h, find_i kk k l]
theorem upd_z {k : ByteArray} {w : AV} : ∀ {l : List α}, (∀ x ∈ l, g x ≠ k) → A.upd .z (.str k) w (l.map fun x => (AV.str (g x), v x)) = some ((l.map fun x => (AV.str (g x), v x)) ++ [(.str k, w)])
 | [], _ => rfl
 | x :: l, h => by
  have h1 : (k == g x) = false := by rw [bq]; exact decide_eq_false fun e : k = g x => h x (by simp) e.symm
  simp only [List.map_cons, A.upd, A.eqK, A.eqZ, Option.bind_some, h1, cond_false]
  rw [upd_z (fun y hy => h y (by simp [hy]))]
  rfl
theorem upd_i {kk : IntKind} {k : Int} {w : AV} : ∀ {l : List α}, (∀ x ∈ l, gi x ≠ k) → A.upd .i (.int kk k) w (l.map fun x => (AV.int kk (gi x), v x)) = some ((l.map fun x => (AV.int kk (gi x), v x)) ++ [(.int kk k, w)])
 | [], _ => rfl
 | x :: l, h => by
  have h1 : (k == gi x) = false := by simpa using fun e : k = gi x => h x (by simp) e.symm
  simp only [List.map_cons, A.upd, A.eqK, A.eqI, if_true, Option.bind_some, h1, cond_false]
  rw [upd_i (fun y hy => h y (by simp [hy]))]
  rfl
end
theorem look_at (e : A.EK) {k z : AV} {σ : Heap} {id : Nat} {es : List (AV × AV)} (hk : A.keyOk e k = true) (h : σ[id]? = some (.map es)) : A.look e (.om id) k z σ = (A.find e k es).map fun r => r.getD z := by
 simp [A.look, hk, A.entries, h]
theorem mupd_at (e : A.EK) {k w : AV} {σ : Heap} {id : Nat} {es : List (AV × AV)} (hk : A.keyOk e k = true) (h : σ[id]? = some (.map es)) : A.mupd e (.om id) k w σ = (A.upd e k w es).map fun es => σ.set id (.map es) := by
 simp [A.mupd, hk, h]
theorem len_snoc {α : Type} (l : List α) (x : α) : (((l ++ [x]).length : Nat) : Int) = (l.length : Int) + 1 := by simp
def setZ {α : Type} (g : α → ByteArray) (l : List α) : List (AV × AV) := l.map fun x => (AV.str (g x), AV.bool true)
def setI {α : Type} (g : α → Int) (l : List α) : List (AV × AV) := l.map fun x => (AV.int .i64 (g x), AV.bool true)
theorem any_find {α : Type} (p : α → Bool) : ∀ (l : List α), ((l.find? p).map fun _ => AV.bool true).getD (AV.bool false) = AV.bool (l.any p)
 | [] => rfl
 | x :: l => by
  simp only [List.find?, List.any_cons]
  cases h : p x
  ·simpa using any_find p l
  ·rfl
theorem setZ_find {α : Type} (g : α → ByteArray) (k : ByteArray) (l : List α) : (A.find .z (.str k) (setZ g l)).map (fun r => r.getD (.bool false)) = some (.bool (memB k (l.map g))) := by
 unfold setZ
 rw [find_z g (fun _ => AV.bool true) k l, Option.map_some, any_find]
 refine congrArg some (congrArg AV.bool ?_)
 rw [Bool.eq_iff_iff, memB_iff]
 simp only [List.any_eq_true, decide_eq_true_eq, List.mem_map]
 exact ⟨fun ⟨x, h, e⟩ => ⟨x, h, e.symm⟩, fun ⟨x, h, e⟩ => ⟨x, h, e.symm⟩⟩
theorem setI_find {α : Type} (g : α → Int) (k : Int) (l : List α) : (A.find .i (.int .i64 k) (setI g l)).map (fun r => r.getD (.bool false)) = some (.bool (memB k (l.map g))) := by
 unfold setI
 rw [find_i g (fun _ => AV.bool true) .i64 k l, Option.map_some, any_find]
 refine congrArg some (congrArg AV.bool ?_)
 rw [Bool.eq_iff_iff, memB_iff]
 simp only [List.any_eq_true, decide_eq_true_eq, List.mem_map]
 exact ⟨fun ⟨x, h, e⟩ => ⟨x, h, e.symm⟩, fun ⟨x, h, e⟩ => ⟨x, h, e.symm⟩⟩
section
variable {α : Type} (g : α → ByteArray) (gi : α → Int) (l : List α) (k : ByteArray) (n : Int) (σ bs : Heap) (b0 : Blk)
theorem setZ_look0 : A.look .z (.om σ.length) (.str k) (.bool false) (σ ++ Blk.map (setZ g l) :: bs) = some (.bool (memB k (l.map g))) := by
 rw [look_at .z rfl (by rw [hat0]; rfl), setZ_find]
theorem setI_look0 : A.look .i (.om σ.length) (.int .i64 n) (.bool false) (σ ++ Blk.map (setI gi l) :: bs) = some (.bool (memB n (l.map gi))) := by
 rw [look_at .i rfl (by rw [hat0]; rfl), setI_find]
theorem setZ_look1 : A.look .z (.om (σ.length + 1)) (.str k) (.bool false) (σ ++ b0 :: Blk.map (setZ g l) :: bs) = some (.bool (memB k (l.map g))) := by
 rw [look_at .z rfl (by rw [hat]; rfl), setZ_find]
theorem setI_look1 : A.look .i (.om (σ.length + 1)) (.int .i64 n) (.bool false) (σ ++ b0 :: Blk.map (setI gi l) :: bs) = some (.bool (memB n (l.map gi))) := by
 rw [look_at .i rfl (by rw [hat]; rfl), setI_find]
theorem setZ_upd0 (h : memB k (l.map g) = false) : A.mupd .z (.om σ.length) (.str k) (.bool true) (σ ++ Blk.map (setZ g l) :: bs) = some (σ ++ Blk.map (setZ g l ++ [(.str k, .bool true)]) :: bs) := by
 rw [mupd_at .z rfl (by rw [hat0]; rfl), setZ, upd_z g _ (fun x hx e => memB_false.1 h (by rw [← e]; exact List.mem_map_of_mem hx)), Option.map_some, hset0]; rfl
theorem setI_upd0 (h : memB n (l.map gi) = false) : A.mupd .i (.om σ.length) (.int .i64 n) (.bool true) (σ ++ Blk.map (setI gi l) :: bs) = some (σ ++ Blk.map (setI gi l ++ [(.int .i64 n, .bool true)]) :: bs) := by
 rw [mupd_at .i rfl (by rw [hat0]; rfl), setI, upd_i gi _ (fun x hx e => memB_false.1 h (by rw [← e]; exact List.mem_map_of_mem hx)), Option.map_some, hset0]; rfl
theorem setZ_upd1 (h : memB k (l.map g) = false) : A.mupd .z (.om (σ.length + 1)) (.str k) (.bool true) (σ ++ b0 :: Blk.map (setZ g l) :: bs) = some (σ ++ b0 :: Blk.map (setZ g l ++ [(.str k, .bool true)]) :: bs) := by
 rw [mupd_at .z rfl (by rw [hat]; rfl), setZ, upd_z g _ (fun x hx e => memB_false.1 h (by rw [← e]; exact List.mem_map_of_mem hx)), Option.map_some, hset]; rfl
theorem setI_upd1 (h : memB n (l.map gi) = false) : A.mupd .i (.om (σ.length + 1)) (.int .i64 n) (.bool true) (σ ++ b0 :: Blk.map (setI gi l) :: bs) = some (σ ++ b0 :: Blk.map (setI gi l ++ [(.int .i64 n, .bool true)]) :: bs) := by
 rw [mupd_at .i rfl (by rw [hat]; rfl), setI, upd_i gi _ (fun x hx e => memB_false.1 h (by rw [← e]; exact List.mem_map_of_mem hx)), Option.map_some, hset]; rfl
end
theorem setZ_snoc {α : Type} (g : α → ByteArray) (l : List α) (x : α) : setZ g (l ++ [x]) = setZ g l ++ [(.str (g x), .bool true)] := by simp [setZ]
theorem quiet_same (σ : Heap) (v : AV) : A.quiet (some (v, σ)) σ = some v := by simp [A.quiet]
def Fz (a : AV) : Prop := ∀ σ n d, A.frz σ n d a = some a
def FzL (l : List AV) : Prop := ∀ σ n d, A.frzL σ n d l = some l
theorem fz_int (k : IntKind) (n : Int) : Fz (.int k n) := fun _ _ d => by cases d <;> simp [A.frz]
theorem fz_bool (b : Bool) : Fz (.bool b) := fun _ _ d => by cases d <;> simp [A.frz]
theorem fz_nsl : Fz .nsl := fun _ _ d => by cases d <;> simp [A.frz]
theorem fzL_nil : FzL [] := fun _ _ _ => by simp [A.frzL]
theorem fzL_cons {a : AV} {l : List AV} (h : Fz a) (k : FzL l) : FzL (a :: l) := fun σ n d => by simp [A.frzL, h σ n d, k σ n d]
theorem fzLL {α : Type} {c : α → List AV} (h : ∀ x, FzL (c x)) (l : List α) (σ : Heap) (n d : Nat) : A.frzLL σ n d (l.map c) = some (l.map c) := by
 induction l with
 | nil => simp [A.frzLL]
 | cons x l ih => simp [A.frzLL, h x σ n d, ih]
def idxI {α : Type} (p : α → Bool) (l : List α) : Int := match l.findIdx? p with | some i => i | none => -1
theorem idxI_cases {α : Type} (p : α → Bool) (l : List α) : (idxI p l = -1 ∧ (∀ x ∈ l, p x = false) ∧ l.find? p = none) ∨ ∃ (k : Nat) (x : α), l[k]? = some x ∧ p x = true ∧ idxI p l = k ∧ l.find? p = some x ∧ ∀ (j : Nat) (y : α), j < k → l[j]? = some y → p y = false := by
 induction l with
 | nil => left; exact ⟨rfl, by simp, rfl⟩
 | cons x l ih =>
  cases h : p x
  ·rcases ih with ⟨h1, h2, h3⟩ | ⟨k, y, h1, h2, h3, h4, h5⟩
   ·left
    refine ⟨?_, ?_, ?_⟩
    ·unfold idxI at h1 ⊢
     rw [List.findIdx?_cons, h]
     cases hf : l.findIdx? p with
     | none => simp
     | some i => rw [hf] at h1; simp at h1
    ·intro y hy
     rcases List.mem_cons.1 hy with rfl | hy
     ·exact h
     ·exact h2 y hy
    ·simp [List.find?, h, h3]
   ·right
    refine ⟨k + 1, y, by simpa using h1, h2, ?_, by simp [List.find?, h, h4], ?_⟩
    ·unfold idxI at h3 ⊢
     rw [List.findIdx?_cons, h]
     cases hf : l.findIdx? p with
     | none => rw [hf] at h3; simp at h3
     | some i => rw [hf] at h3; simp at h3 ⊢; omega
    ·intro j z hj hz
     cases j with
     | zero => simp at hz; subst hz; exact h
     | succ j => exact h5 j z (by omega) (by simpa using hz)
  ·right
   refine ⟨0, x, rfl, h, ?_, by simp [List.find?, h], by intro j y hj; omega⟩
   unfold idxI
   rw [List.findIdx?_cons, h]; rfl
theorem idxI_run {α : Type} {γ : Type} (p : α → Bool) (K1 : Option γ) (K2 : Int → Option γ) : ∀ (l pre : List α), (∀ x ∈ pre, p x = false) → (runP (fun pre x (_ : Unit) => if p x = true then (Rd.out (pre.length : Int) : Rd Unit Int) else .go ()) pre l ()).el (fun _ => K1) K2 = if idxI p (pre ++ l) = -1 then K1 else K2 (idxI p (pre ++ l))
 | [], pre, h => by
  have : idxI p (pre ++ []) = -1 := by
   rcases idxI_cases p (pre ++ []) with h1 | ⟨k, x, h1, h2, _⟩
   ·exact h1.1
   ·have := h x (by have := List.mem_of_getElem? h1; simpa using this)
    rw [h2] at this; cases this
  rw [runP, el_go, if_pos this]
 | x :: l, pre, h => by
  rw [runP]
  cases hx : p x
  ·simp only [Bool.false_eq_true, if_false]
   have := idxI_run p K1 K2 l (pre ++ [x]) (fun y hy => by
    rcases List.mem_append.1 hy with hy | hy
    ·exact h y hy
    ·simp at hy; subst hy; exact hx)
   simpa using this
  ·simp only [if_true, el_out]
   have : idxI p (pre ++ x :: l) = pre.length := by
    rcases idxI_cases p (pre ++ x :: l) with h1 | ⟨k, y, h1, h2, h3, _, h5⟩
    ·have := h1.2.1 x (by simp); rw [hx] at this; cases this
    ·rw [h3]
     rcases Nat.lt_trichotomy k pre.length with hk | hk | hk
     ·rw [List.getElem?_append_left hk] at h1
      have := h y (List.mem_of_getElem? h1); rw [h2] at this; cases this
     ·omega
     ·have := h5 pre.length x hk (by simp); rw [hx] at this; cases this
   rw [this, if_neg (by omega)]
theorem nn_eNil (sz : Nat) (sh : List Sh) : A.nn (.e sz sh) .nsl = .sl sz [] := by simp [A.nn]
section
variable {α β : Type}
theorem cond_lazy {c c' : AV} (h : c = c') (t e : Option α) : A.cond c t e = A.cond c' t e := by rw [h]
theorem guard_lazy {c c' : AV} (h : c = c') (w : Bool) (e d : Option α) : A.guard c w e d = A.guard c' w e d := by rw [h]
theorem bind_lazy {x y : Option α} (h : x = y) (f : α → Option β) : x.bind f = y.bind f := by rw [h]
attribute [congr] cond_lazy guard_lazy bind_lazy
end
theorem MSb : type_of% @Option.bind_some.{0,0} ∧ type_of% @Option.map_some.{0,0} ∧ type_of% @cT ∧ type_of% @cF ∧ type_of% @gTT ∧ type_of% @gTF ∧ type_of% @gFT ∧ type_of% @gFF ∧ type_of% @gN ∧ type_of% @pT ∧ type_of% @pF ∧ type_of% @cond_true.{1} ∧ type_of% @cond_false.{1} ∧ type_of% @xN ∧ type_of% @aAdd ∧ type_of% @aSub ∧ type_of% @aMul ∧ type_of% @aLss ∧ type_of% @aLeq ∧ type_of% @aGtr ∧ type_of% @aGeq ∧ type_of% @aLss8 ∧ type_of% @aLeq8 ∧ type_of% @aGtr8 ∧ type_of% @aGeq8 ∧ type_of% @aEq ∧ type_of% @aNe ∧ type_of% @aEqZ ∧ type_of% @aNeZ ∧ type_of% @aNot ∧ type_of% @aNotD ∧ type_of% @aLb ∧ type_of% @aExt0 ∧ type_of% @aExt1 ∧ type_of% @aExt2 ∧ type_of% @aExt3 ∧ type_of% @aDe ∧ type_of% @aFa ∧ type_of% @aLenZ ∧ type_of% @aCI ∧ type_of% @aCB ∧ type_of% @aCS ∧ type_of% @aCSl ∧ type_of% @p1D ∧ type_of% @gd0 ∧ type_of% @gd1 ∧ type_of% @gd2 ∧ type_of% @gd3 ∧ type_of% @gd4 ∧ type_of% @gd5 ∧ type_of% @gd6 ∧ type_of% @gd7 ∧ type_of% @gd8 ∧ type_of% @fin_same ∧ type_of% @fin_int ∧ type_of% @fin_bool ∧ type_of% @fin_str ∧ type_of% @fin_unit ∧ type_of% @lenS_sl ∧ type_of% @ite_true.{1} ∧ type_of% @ite_false.{1} ∧ type_of% @if_true.{1} ∧ type_of% @if_false.{1} ∧ type_of% @Bool.false_eq_true ∧ type_of% @not_true_eq_false ∧ type_of% @not_false_eq_true ∧ type_of% @decide_true ∧ type_of% @decide_false ∧ type_of% @Bool.not_true ∧ type_of% @Bool.not_false ∧ type_of% @List.append_assoc.{0} ∧ type_of% @List.cons_append.{0} ∧ type_of% @List.nil_append.{0} ∧ type_of% @List.drop_zero.{0} ∧ type_of% @p1_cInt ∧ type_of% @p1_cStr ∧ type_of% @len_snoc ∧ type_of% @Int.natCast_add ∧ type_of% @Int.cast_ofNat_Int ∧ type_of% @quiet_same ∧ type_of% @el_go ∧ type_of% @el_out ∧ type_of% @el_ite ∧ type_of% @setZ_look0 ∧ type_of% @setI_look0 ∧ type_of% @setZ_look1 ∧ type_of% @setI_look1 ∧ type_of% @setZ_snoc ∧ type_of% @setZ_upd0 ∧ type_of% @setI_upd0 ∧ type_of% @setZ_upd1 ∧ type_of% @setI_upd1 ∧ type_of% @true_and ∧ type_of% @and_true ∧ type_of% @false_and ∧ type_of% @and_false ∧ type_of% @true_or ∧ type_of% @or_true ∧ type_of% @false_or ∧ type_of% @or_false ∧ type_of% @Option.getD_some.{0} ∧ type_of% @Option.getD_none.{0} ∧ type_of% @List.length_append.{0} ∧ type_of% @List.length_cons.{0} ∧ type_of% @List.length_nil.{0} ∧ type_of% @Nat.zero_add ∧ type_of% @Nat.add_zero :=
 ⟨@Option.bind_some.{0,0}, @Option.map_some.{0,0}, @cT, @cF, @gTT, @gTF, @gFT, @gFF, @gN, @pT, @pF, @cond_true.{1}, @cond_false.{1}, @xN, @aAdd, @aSub, @aMul, @aLss, @aLeq, @aGtr, @aGeq, @aLss8, @aLeq8, @aGtr8, @aGeq8, @aEq, @aNe, @aEqZ, @aNeZ, @aNot, @aNotD, @aLb, @aExt0, @aExt1, @aExt2, @aExt3, @aDe, @aFa, @aLenZ, @aCI, @aCB, @aCS, @aCSl, @p1D, @gd0, @gd1, @gd2, @gd3, @gd4, @gd5, @gd6, @gd7, @gd8, @fin_same, @fin_int, @fin_bool, @fin_str, @fin_unit, @lenS_sl, @ite_true.{1}, @ite_false.{1}, @if_true.{1}, @if_false.{1}, @Bool.false_eq_true, @not_true_eq_false, @not_false_eq_true, @decide_true, @decide_false, @Bool.not_true, @Bool.not_false, @List.append_assoc.{0}, @List.cons_append.{0}, @List.nil_append.{0}, @List.drop_zero.{0}, @p1_cInt, @p1_cStr, @len_snoc, @Int.natCast_add, @Int.cast_ofNat_Int, @quiet_same, @el_go, @el_out, @el_ite, @setZ_look0, @setI_look0, @setZ_look1, @setI_look1, @setZ_snoc, @setZ_upd0, @setI_upd0, @setZ_upd1, @setI_upd1, @true_and, @and_true, @false_and, @and_false, @true_or, @or_true, @false_or, @or_false, @Option.getD_some.{0}, @Option.getD_none.{0}, @List.length_append.{0}, @List.length_cons.{0}, @List.length_nil.{0}, @Nat.zero_add, @Nat.add_zero⟩
end Go.Proofs.Ytgjglkakhmikjaa

namespace Go.Proofs.Ytgjglkakhmikjaa
set_option linter.unusedSectionVars false
set_option linter.unusedSimpArgs false
set_option linter.unusedVariables false
theorem fz_cInt (n : Int) : FzL (cInt n) := fzL_cons (fz_int _ _) fzL_nil
end Go.Proofs.Ytgjglkakhmikjaa

namespace Go.Proofs.Ytgjglkakhmikjaa
set_option linter.unusedSectionVars false
set_option linter.unusedVariables false
set_option linter.unusedSimpArgs false
instance : Inhabited ByteArray := ⟨⟨#[]⟩⟩
instance : Inhabited PointD := ⟨⟨0, 0⟩⟩
instance : Inhabited CurveD := ⟨⟨0, []⟩⟩
instance : Inhabited FadeD := ⟨⟨0, 0, 0, 0, 0, ⟨0, []⟩⟩⟩
instance : Inhabited ChangeD := ⟨⟨0, 0⟩⟩
instance : Inhabited RangeD := ⟨⟨0, 0, ⟨#[]⟩⟩⟩
instance : Inhabited ParamD := ⟨⟨⟨#[]⟩, 0, 0, 0, 0, false, []⟩⟩
instance : Inhabited ProfileD := ⟨⟨⟨#[]⟩, 0, []⟩⟩
instance : Inhabited UnitD := ⟨⟨0, ⟨#[]⟩, 0, 0⟩⟩
instance : Inhabited RigD := ⟨⟨[], []⟩⟩
instance : Inhabited KeyD := ⟨⟨0, ⟨#[]⟩⟩⟩
instance : Inhabited SettingD := ⟨⟨⟨0, ⟨#[]⟩⟩, 0⟩⟩
instance : Inhabited PresetD := ⟨⟨0, ⟨#[]⟩, []⟩⟩
instance : Inhabited FanD := ⟨⟨[], 0, 0⟩⟩
instance : Inhabited ValueD := ⟨⟨0, 0⟩⟩
instance : Inhabited MoveD := ⟨⟨⟨0, ⟨#[]⟩⟩, ⟨0, 0⟩, false, false, 0, 0⟩⟩
instance : Inhabited CueD := ⟨⟨0, ⟨#[]⟩, 0, 0, 0, 0, ⟨0, []⟩, false, 0, []⟩⟩
instance : Inhabited EntryD := ⟨⟨⟨0, ⟨#[]⟩⟩, ⟨0, 0⟩, 0⟩⟩
instance : Inhabited MarkD := ⟨⟨0, 0, 0⟩⟩
instance : Inhabited ListD := ⟨⟨0, []⟩⟩
instance : Inhabited PlaybackD := ⟨⟨0, 0, 0⟩⟩
instance : Inhabited SetupD := ⟨⟨⟨[], []⟩, [], [], []⟩⟩
instance : Inhabited ActionD := ⟨⟨0, 0, 0, 0, 0⟩⟩
instance : Inhabited EventD := ⟨⟨0, ⟨0, 0, 0, 0, 0⟩⟩⟩
instance : Inhabited StampD := ⟨⟨0, 0, 0, 0⟩⟩
instance : Inhabited RunD := ⟨⟨⟨0, ⟨#[]⟩⟩, ⟨0, 0, 0, 0, 0, ⟨0, []⟩⟩, 0, false⟩⟩
instance : Inhabited StandingD := ⟨⟨0, 0, 0, false, 0, []⟩⟩
instance : Inhabited EffectStepD := ⟨⟨0, 0, 0⟩⟩
instance : Inhabited EffectD := ⟨⟨0, 0, 0, 0, 0, 0, false, false, []⟩⟩
instance : Inhabited RateD := ⟨⟨0, 0⟩⟩
instance : Inhabited RunningD := ⟨⟨⟨0, 0, 0, 0, 0, 0, false, false, []⟩, [], 0, [], 0, 0, 0⟩⟩
end Go.Proofs.Ytgjglkakhmikjaa

namespace Go.Proofs.Ytgjglkakhmikjaa
set_option linter.unusedSectionVars false
set_option linter.unusedVariables false
set_option linter.unusedSimpArgs false
def Rf {β τ : Type} (M : Option β) (T : Option τ) (Q : τ → β → Prop) : Prop := ∀ t, T = some t → ∃ b, M = some b ∧ Q t b
section
variable {α β ω τ ζ : Type}
theorem rf_s {M0 : Option α} {K : α → Option β} {T : Option τ} {Q : τ → β → Prop} (a : α) (h : M0 = some a) (k : Rf (K a) T Q) : Rf (M0.bind K) T Q := by
 intro t ht; obtain ⟨b, h1, h2⟩ := k t ht; exact ⟨b, by rw [h]; exact h1, h2⟩
theorem rf_o {M0 : Option α} {K : α → Option β} {o : Option ω} {K' : ω → Option τ} {Q : τ → β → Prop} (e : ω → α) (h : ∀ t, o = some t → M0 = some (e t)) (k : ∀ t, o = some t → Rf (K (e t)) (K' t) Q) : Rf (M0.bind K) (o.bind K') Q := by
 intro t ht
 obtain ⟨x, h1, h2⟩ := Option.bind_eq_some_iff.1 ht
 obtain ⟨b, h3, h4⟩ := k x h1 t h2
 exact ⟨b, by rw [h x h1]; exact h3, h4⟩
theorem rf_b {M0 : Option α} {K : α → Option β} {o : Option ω} {K' : ω → Option τ} {Q : τ → β → Prop} (Q0 : ω → α → Prop) (h : Rf M0 o Q0) (k : ∀ t a, Q0 t a → Rf (K a) (K' t) Q) : Rf (M0.bind K) (o.bind K') Q := by
 intro t ht
 obtain ⟨x, h1, h2⟩ := Option.bind_eq_some_iff.1 ht
 obtain ⟨a, h3, h4⟩ := h x h1
 obtain ⟨b, h5, h6⟩ := k x a h4 t h2
 exact ⟨b, by rw [h3]; exact h5, h6⟩
theorem rf_ret {t : τ} {b : β} {Q : τ → β → Prop} (h : Q t b) : Rf (some b) (some t) Q := by
 intro u hu; cases hu; exact ⟨b, rfl, h⟩
theorem rf_fin {M : Option β} {t : τ} {Q : τ → β → Prop} (b : β) (e : M = some b) (h : Q t b) : Rf M (some t) Q := by
 rw [e]; exact rf_ret h
theorem rf_none {M : Option β} {Q : τ → β → Prop} : Rf M (none : Option τ) Q := by intro u hu; cases hu
theorem rf_tq {M : Option β} {p : Prop} [Decidable p] {T : Option τ} {Q : τ → β → Prop} (h : p → Rf M T Q) : Rf M (if p then T else none) Q := by
 split
 ·exact h ‹_›
 ·exact rf_none
theorem rf_c {p : Prop} [Decidable p] {X Y : Option β} {X' Y' : Option τ} {Q : τ → β → Prop} (h1 : p → Rf X X' Q) (h2 : ¬ p → Rf Y Y' Q) : Rf (A.cond (.bool (decide p)) X Y) (if p then X' else Y') Q := by
 by_cases h : p
 ·simp only [h, decide_true, if_true]; exact h1 h
 ·simp only [h, decide_false, if_false]; exact h2 h
theorem rf_cb {c : Bool} {X Y : Option β} {X' Y' : Option τ} {Q : τ → β → Prop} (h1 : c = true → Rf X X' Q) (h2 : c = false → Rf Y Y' Q) : Rf (A.cond (.bool c) X Y) (if c = true then X' else Y') Q := by
 cases c
 ·exact h2 rfl
 ·exact h1 rfl
theorem rf_ct {X Y : Option β} {T : Option τ} {Q : τ → β → Prop} (h : Rf X T Q) : Rf (A.cond (.bool true) X Y) T Q := h
theorem rf_cf {X Y : Option β} {T : Option τ} {Q : τ → β → Prop} (h : Rf Y T Q) : Rf (A.cond (.bool false) X Y) T Q := h
theorem rf_bt {c : Bool} {X Y : Option β} {T : Option τ} {Q : τ → β → Prop} (e : c = true) (h : Rf X T Q) : Rf (bif c then X else Y) T Q := by rw [e]; exact h
theorem rf_bf {c : Bool} {X Y : Option β} {T : Option τ} {Q : τ → β → Prop} (e : c = false) (h : Rf Y T Q) : Rf (bif c then X else Y) T Q := by rw [e]; exact h
def gv {α : Type} (g : Bool) (e : α → AV) (t : α) : AV := bif g then e t else .tup []
end
inductive Lr (S B R : Type) where
 | go (s : S)
 | brk (b : B)
 | ret (r : R)
def forL {α S B R : Type} (body : Nat → α → S → Option (Lr S B R)) (fin : S → Option B) : List α → Nat → S → Option (B ⊕ R)
 | [], _, s => (fin s).map .inl
 | x :: l, i, s => (body i x s).bind fun q => match q with | .go s' => forL body fin l (i + 1) s' | .brk b => some (.inl b) | .ret r => some (.inr r)
def forE {α S B R γ : Type} (l : List α) (body : Nat → α → S → Option (Lr S B R)) (fin : S → Option B) (s : S) (K1 : B → Option γ) (K2 : R → Option γ) : Option γ :=
 if l.length ≤ mxl then (forL body fin l 0 s).bind fun q => q.elim K1 K2 else none
section
variable {α S B R β τ : Type}
abbrev LS := AX × List AV × Heap
def Rnd (I : S → List AV → Heap → Prop) (QB : B → LS → Prop) (QR : R → LS → Prop) (t : Lr S B R) (q : LS) : Prop := match t with
 | .go s => q.1 = .normal ∧ I s q.2.1 q.2.2
 | .brk b => q.1 ≠ .normal ∧ QB b q
 | .ret r => q.1 ≠ .normal ∧ QR r q
theorem rnd_go {I : S → List AV → Heap → Prop} {QB : B → LS → Prop} {QR : R → LS → Prop} {s : S} {v : List AV} {σ : Heap} (h : I s v σ) : Rnd I QB QR (.go s) (.normal, v, σ) := ⟨rfl, h⟩
theorem rnd_ret {I : S → List AV → Heap → Prop} {QB : B → LS → Prop} {QR : R → LS → Prop} {r : R} {q : LS} (n : q.1 ≠ .normal) (h : QR r q) : Rnd I QB QR (.ret r) q := ⟨n, h⟩
theorem rf_for {f : List AV → Heap → Option LS} {K : LS → Option β} {Q : τ → β → Prop} {l : List α} {body : Nat → α → S → Option (Lr S B R)} {fin : S → Option B} {s0 : S} {K1 : B → Option τ} {K2 : R → Option τ} {v0 : List AV} {σ0 : Heap}
  (I : Nat → S → List AV → Heap → Prop) (QB : B → LS → Prop) (QR : R → LS → Prop)
  (hstep : l.length ≤ mxl → ∀ i x s v σ, l[i]? = some x → I i s v σ → Rf (f v σ) (body i x s) (Rnd (I (i + 1)) QB QR))
  (hend : l.length ≤ mxl → ∀ s v σ, I l.length s v σ → Rf (f v σ) (fin s) (fun b q => q.1 ≠ .normal ∧ QB b q))
  (h0 : I 0 s0 v0 σ0) (k1 : l.length ≤ mxl → ∀ b q, QB b q → Rf (K q) (K1 b) Q) (k2 : l.length ≤ mxl → ∀ r q, QR r q → Rf (K q) (K2 r) Q) :
  Rf ((A.loop f v0 σ0).bind K) (forE l body fin s0 K1 K2) Q := by
 unfold forE
 refine rf_tq fun hl => ?_
 have hstep := hstep hl
 have hend := hend hl
 have key : ∀ (rest pre : List α) (s : S) (v : List AV) (σ : Heap), l = pre ++ rest → I pre.length s v σ → ∀ t, forL body fin rest pre.length s = some t → ∃ q, (∃ n, A.iter f n v σ = some q) ∧ (match t with | .inl b => QB b q | .inr r => QR r q) := by
  intro rest
  induction rest with
  | nil =>
   intro pre s v σ hl hI t ht
   rw [List.append_nil] at hl
   subst hl
   simp only [forL] at ht
   obtain ⟨b, hb, rfl⟩ := Option.map_eq_some_iff.1 ht
   obtain ⟨q, h1, h2, h3⟩ := hend s v σ hI b hb
   exact ⟨q, loop_done h1 h2, h3⟩
  | cons x rest ih =>
   intro pre s v σ hl hI t ht
   simp only [forL] at ht
   obtain ⟨y, hy, h2⟩ := Option.bind_eq_some_iff.1 ht
   obtain ⟨q, h3, h4⟩ := hstep pre.length x s v σ (by rw [hl]; simp) hI y hy
   obtain ⟨e, v', σ'⟩ := q
   cases y with
   | go s' =>
    obtain ⟨rfl, hI'⟩ := h4
    obtain ⟨q, h5, h6⟩ := ih (pre ++ [x]) s' v' σ' (by simpa using hl) (by simpa using hI') t (by simpa using h2)
    exact ⟨q, loop_step h3 h5, h6⟩
   | brk b => simp only [Option.some.injEq] at h2; subst h2; exact ⟨_, loop_done h3 h4.1, h4.2⟩
   | ret b => simp only [Option.some.injEq] at h2; subst h2; exact ⟨_, loop_done h3 h4.1, h4.2⟩
 intro t ht
 obtain ⟨y, hy, h2⟩ := Option.bind_eq_some_iff.1 ht
 obtain ⟨q, ⟨n, hn⟩, h3⟩ := key l [] s0 v0 σ0 rfl h0 y hy
 cases y with
 | inl b => obtain ⟨z, h4, h5⟩ := k1 hl b q h3 t h2; exact ⟨z, by rw [loop_of_iter hn]; exact h4, h5⟩
 | inr b => obtain ⟨z, h4, h5⟩ := k2 hl b q h3 t h2; exact ⟨z, by rw [loop_of_iter hn]; exact h4, h5⟩
theorem ix_lt {l : List α} {i : Nat} {x : α} (h : l[i]? = some x) : A.lss (.int .i64 (i : Int)) (.int .i64 (l.length : Int)) = some (.bool true) := by
 have := (List.getElem?_eq_some_iff.1 h).1
 rw [aLss]; simp; omega
theorem ix_end (l : List α) : A.lss (.int .i64 (l.length : Int)) (.int .i64 (l.length : Int)) = some (.bool false) := by rw [aLss]; simp
theorem ix_inc {l : List α} {i : Nat} {x : α} (h : l[i]? = some x) (hl : l.length ≤ mxl) : A.add (.int .i64 (i : Int)) (.int .i64 1) = some (.int .i64 ((i + 1 : Nat) : Int)) := by
 have := (List.getElem?_eq_some_iff.1 h).1
 rw [aAdd, wrap64 (by unfold inI; unfold mxl at hl; omega)]
 simp
def tIx (l : List α) (i : Int) : Option α := if 0 ≤ i then l[i.toNat]? else none
theorem ix_at {sz : Nat} {c : α → List AV} {l : List α} {i : Int} {x : α} (h : tIx l i = some x) : A.iaddr sz (sl sz c l) (.int .i64 i) = some (.rp (c x)) := by
 unfold tIx at h
 split at h
 ·exact iaddr_int sz c l ‹_› h
 ·cases h
theorem ix_for {sz : Nat} {c : α → List AV} {l : List α} {i : Nat} {x : α} (h : l[i]? = some x) : A.iaddr sz (sl sz c l) (.int .i64 (i : Int)) = some (.rp (c x)) := iaddr_sl sz c l h
end
theorem quiet_of {M : Option (AV × Heap)} {v : AV} {σ : Heap} (h : M = some (v, σ)) : A.quiet M σ = some v := by rw [h, quiet_same]
noncomputable def tq {α : Type} (p : Prop) (x : α) : Option α := open Classical in if p then some x else none
theorem tq_pos {α : Type} {p : Prop} {x : α} (h : p) : tq p x = some x := if_pos h
theorem tq_of {α β : Type} {p : Prop} {x r : α} {M : Option β} {e : α → β} (h : p → M = some (e x)) (k : tq p x = some r) : M = some (e r) := by
 unfold tq at k
 split at k
 ·rename_i hp; injection k with k; subst k; exact h hp
 ·cases k
theorem pk_and (b t : Bool) : A.pick (.bool b) (bif b then .bool t else .tup []) (.bool false) = some (.bool (b && t)) := by cases b <;> rfl
theorem pk_or (b t : Bool) : A.pick (.bool b) (.bool true) (bif !b then .bool t else .tup []) = some (.bool (b || t)) := by cases b <;> rfl
section
variable {α β ω τ : Type} {G b : Bool} {M0 : Option AV} {K : AV → Option β} {T : Option τ} {K' : ω → Option τ} {o : Option ω} {Q : τ → β → Prop}
theorem rf_gt (a : AV) (h : b = true → M0 = some a) (k : Rf (K (bif b then a else .tup [])) T Q) : Rf ((A.guard (.bool b) true M0 (some (.tup []))).bind K) T Q := by
 refine rf_s _ ?_ k
 cases b <;> simp_all [A.guard]
theorem rf_gf (a : AV) (h : (!b) = true → M0 = some a) (k : Rf (K (bif !b then a else .tup [])) T Q) : Rf ((A.guard (.bool b) false M0 (some (.tup []))).bind K) T Q := by
 refine rf_s _ ?_ k
 cases b <;> simp_all [A.guard]
theorem rf_ggt (a : AV) (h : (G && b) = true → M0 = some a) (k : Rf (K (bif G && b then a else .tup [])) T Q) : Rf ((A.guard (bif G then .bool b else .tup []) true M0 (some (.tup []))).bind K) T Q := by
 refine rf_s _ ?_ k
 cases G <;> cases b <;> simp_all [A.guard]
theorem rf_go {g : Bool} {M : Option AV} {d : ω} (e : ω → AV) (hM : M = bif g then M0 else some (.tup [])) (h : g = true → ∀ t, o = some t → M0 = some (e t)) (k : ∀ t, (g = true → o = some t) → Rf (K (bif g then e t else .tup [])) (K' t) Q) : Rf (M.bind K) ((if g = true then o else some d).bind K') Q := by
 subst hM
 cases g
 ·exact k d (by simp)
 ·intro t ht
  simp only [if_true] at ht
  obtain ⟨x, h1, h2⟩ := Option.bind_eq_some_iff.1 ht
  obtain ⟨y, h3, h4⟩ := k x (fun _ => h1) t h2
  refine ⟨y, ?_, h4⟩
  simp only [cond_true, h rfl x h1, Option.bind_some]
  exact h3
theorem rf_gto {d : ω} (e : ω → AV) (h : b = true → ∀ t, o = some t → M0 = some (e t)) (k : ∀ t, (b = true → o = some t) → Rf (K (bif b then e t else .tup [])) (K' t) Q) : Rf ((A.guard (.bool b) true M0 (some (.tup []))).bind K) ((if b = true then o else some d).bind K') Q := rf_go e (by cases b <;> rfl) h k
end
theorem wrap_nn {ro : Bool} {ain : List Sh} {rout : Sh} {r : List AV → Heap → Option (AV × Heap)} {args args' : List AV} {σ : Heap} (hn : A.nnL ain args = A.nnL ain args') (h1 : args.any A.own = false) (h2 : args'.any A.own = false) : A.wrap ro ain rout r args σ = A.wrap ro ain rout r args' σ := by
 unfold A.wrap
 rw [h1, h2, hn, Bool.and_false, cond_false, cond_false]
theorem rf_wrap {τ : Type} {ro : Bool} {ain : List Sh} {rout : Sh} {r : List AV → Heap → Option (AV × Heap)} {args args' : List AV} {σ : Heap} {T : Option τ} {enc : τ → AV} (hn : A.nnL ain args = args') (h : args.any A.own = false) (e : Rf (r args' σ) T (fun t b => A.nn rout b.1 = enc t ∧ b.2 = σ)) : ∀ t, T = some t → A.wrap ro ain rout r args σ = some (enc t, σ) := by
 intro t ht
 obtain ⟨⟨v, σ'⟩, h1, h2, h3⟩ := e t ht
 simp only at h2 h3
 subst h3
 exact wrap_eq h (by rw [hn]; exact h1) h2
theorem rf_wrap1 {τ : Type} {ro : Bool} {ain : List Sh} {rout : Sh} {f : AV → Heap → Option (AV × Heap)} {x0 y0 : AV} {σ : Heap} {T : Option τ} {enc : τ → AV} (hn : A.nnL ain [x0] = [y0]) (h : ([x0] : List AV).any A.own = false) (e : Rf (f y0 σ) T (fun t b => A.nn rout b.1 = enc t ∧ b.2 = σ)) : ∀ t, T = some t → A.wrap ro ain rout (A.ar1 f) [x0] σ = some (enc t, σ) := rf_wrap hn h e
theorem rf_wrap2 {τ : Type} {ro : Bool} {ain : List Sh} {rout : Sh} {f : AV → AV → Heap → Option (AV × Heap)} {x0 x1 y0 y1 : AV} {σ : Heap} {T : Option τ} {enc : τ → AV} (hn : A.nnL ain [x0, x1] = [y0, y1]) (h : ([x0, x1] : List AV).any A.own = false) (e : Rf (f y0 y1 σ) T (fun t b => A.nn rout b.1 = enc t ∧ b.2 = σ)) : ∀ t, T = some t → A.wrap ro ain rout (A.ar2 f) [x0, x1] σ = some (enc t, σ) := rf_wrap hn h e
end Go.Proofs.Ytgjglkakhmikjaa

namespace Go.Proofs.Ytgjglkakhmikjaa
set_option linter.unusedSectionVars false
set_option linter.unusedVariables false
set_option linter.unusedSimpArgs false
inductive Ct where
 | s (sz : Nat) (es : List (List AV))
 | m (es : List (AV × AV))
 | b (cs : List AV)
def idOf : AV → Option Nat
 | .os id _ _ _ _ => some id
 | .om id => some id
 | .op id _ => some id
 | _ => none
def Own (n : Nat) (σ : Heap) (p : AV × Ct) : Prop := match p.2 with
 | .s sz es => (p.1 = .nsl ∧ es = []) ∨ ∃ id g off a, p.1 = .os id g sz off es.length ∧ n ≤ id ∧ σ[id]? = some (.arr g sz a) ∧ off ≤ a.length ∧ a.drop off = es
 | .m es => ∃ id, p.1 = .om id ∧ n ≤ id ∧ σ[id]? = some (.map es)
 | .b cs => ∃ id, p.1 = .op id 0 ∧ n ≤ id ∧ σ[id]? = some (.box cs)
structure Hp (σ0 σ : Heap) (L : List (AV × Ct)) : Prop where
 pre : ∃ bs, σ = σ0 ++ bs
 own : ∀ (i : Nat) p, L[i]? = some p → Own σ0.length σ p
 sep : ∀ (i j : Nat) p q a, L[i]? = some p → L[j]? = some q → idOf p.1 = some a → idOf q.1 = some a → i = j
section
variable {σ0 σ σ' : Heap} {L : List (AV × Ct)} {n : Nat}
theorem hp_nil (σ : Heap) : Hp σ σ [] := ⟨⟨[], by simp⟩, by simp, by simp⟩
theorem own_lt {p : AV × Ct} {a : Nat} (h : Own n σ p) (e : idOf p.1 = some a) : n ≤ a ∧ a < σ.length := by
 obtain ⟨v, c⟩ := p
 cases c with
 | s sz es =>
  rcases h with ⟨h1, _⟩ | ⟨id, g, off, x, h1, h2, h3, _⟩
  ·simp only at h1; subst h1; cases e
  ·simp only at h1; subst h1; injection e with e; subst e; exact ⟨h2, (List.getElem?_eq_some_iff.1 h3).1⟩
 | m es => obtain ⟨id, h1, h2, h3⟩ := h; simp only at h1; subst h1; injection e with e; subst e; exact ⟨h2, (List.getElem?_eq_some_iff.1 h3).1⟩
 | b es => obtain ⟨id, h1, h2, h3⟩ := h; simp only at h1; subst h1; injection e with e; subst e; exact ⟨h2, (List.getElem?_eq_some_iff.1 h3).1⟩
theorem own_mono {p : AV × Ct} (h : Own n σ p) (k : ∀ a, idOf p.1 = some a → σ'[a]? = σ[a]?) : Own n σ' p := by
 obtain ⟨v, c⟩ := p
 cases c with
 | s sz es =>
  rcases h with h | ⟨id, g, off, x, h1, h2, h3, h4⟩
  ·exact .inl h
  ·simp only at h1; subst h1; exact .inr ⟨id, g, off, x, rfl, h2, by rw [k id rfl]; exact h3, h4⟩
 | m es => obtain ⟨id, h1, h2, h3⟩ := h; simp only at h1; subst h1; exact ⟨id, rfl, h2, by rw [k id rfl]; exact h3⟩
 | b es => obtain ⟨id, h1, h2, h3⟩ := h; simp only at h1; subst h1; exact ⟨id, rfl, h2, by rw [k id rfl]; exact h3⟩
theorem pre_set (h : ∃ bs, σ = σ0 ++ bs) {id : Nat} (hn : σ0.length ≤ id) (b : Blk) : ∃ bs, σ.set id b = σ0 ++ bs := by
 obtain ⟨bs, rfl⟩ := h
 exact ⟨bs.set (id - σ0.length) b, by rw [List.set_append_right _ _ hn]⟩
theorem hp_set (H : Hp σ0 σ L) {k id : Nat} {h h' : AV} {c c' : Ct} {b : Blk} (hk : L[k]? = some (h, c)) (hi : idOf h = some id) (hi' : idOf h' = some id) (ho : Own σ0.length (σ.set id b) (h', c')) : Hp σ0 (σ.set id b) (L.set k (h', c')) := by
 have hid := own_lt (H.own k _ hk) hi
 have hkl := (List.getElem?_eq_some_iff.1 hk).1
 refine ⟨pre_set H.pre hid.1 b, fun i p hp => ?_, fun i j p q a hp hq e1 e2 => ?_⟩
 ·rw [List.getElem?_set] at hp
  split at hp
  ·rename_i e; subst e; simp [hkl] at hp; subst hp; exact ho
  ·rename_i e
   refine own_mono (H.own i p hp) fun a ha => ?_
   rw [List.getElem?_set]
   split
   ·rename_i e'; subst e'; exact absurd (H.sep k i _ _ id hk hp hi ha) e
   ·rfl
 ·have key : ∀ (i : Nat) (p : AV × Ct), (L.set k (h', c'))[i]? = some p → idOf p.1 = some a → ∃ p', L[i]? = some p' ∧ idOf p'.1 = some a := by
   intro i p hp e
   rw [List.getElem?_set] at hp
   split at hp
   ·rename_i e'; subst e'; simp [hkl] at hp; subst hp; exact ⟨_, hk, by rw [hi]; rw [hi'] at e; exact e⟩
   ·exact ⟨p, hp, e⟩
  obtain ⟨p', hp', e1'⟩ := key i p hp e1
  obtain ⟨q', hq', e2'⟩ := key j q hq e2
  exact H.sep i j p' q' a hp' hq' e1' e2'
theorem hp_put (H : Hp σ0 σ L) {k : Nat} {h h' : AV} {c c' : Ct} {b : Blk} (hk : L[k]? = some (h, c)) (hi : idOf h = none) (hi' : idOf h' = some σ.length) (ho : Own σ0.length (σ ++ [b]) (h', c')) : Hp σ0 (σ ++ [b]) (L.set k (h', c')) := by
 have hkl := (List.getElem?_eq_some_iff.1 hk).1
 refine ⟨?_, fun i p hp => ?_, fun i j p q a hp hq e1 e2 => ?_⟩
 ·obtain ⟨bs, rfl⟩ := H.pre; exact ⟨bs ++ [b], by simp⟩
 ·rw [List.getElem?_set] at hp
  split at hp
  ·rename_i e; subst e; simp [hkl] at hp; subst hp; exact ho
  ·refine own_mono (H.own i p hp) fun a ha => ?_
   have := (own_lt (H.own i p hp) ha).2
   rw [List.getElem?_append_left this]
 ·have key : ∀ (i : Nat) (p : AV × Ct), (L.set k (h', c'))[i]? = some p → idOf p.1 = some a → (i = k ∧ a = σ.length) ∨ (L[i]? = some p ∧ a < σ.length) := by
   intro i p hp e
   rw [List.getElem?_set] at hp
   split at hp
   ·rename_i e'; subst e'; simp [hkl] at hp; subst hp; rw [hi'] at e; injection e with e; exact .inl ⟨rfl, e.symm⟩
   ·exact .inr ⟨hp, (own_lt (H.own i p hp) e).2⟩
  rcases key i p hp e1 with ⟨a1, a2⟩ | ⟨a1, a2⟩ <;> rcases key j q hq e2 with ⟨b1, b2⟩ | ⟨b1, b2⟩
  ·omega
  ·omega
  ·omega
  ·exact H.sep i j p q a a1 b1 e1 e2
theorem hp_nsl (H : Hp σ0 σ L) (sz : Nat) : Hp σ0 σ (L ++ [(.nsl, .s sz [])]) := by
 refine ⟨H.pre, fun i p hp => ?_, fun i j p q a hp hq e1 e2 => ?_⟩
 ·rw [List.getElem?_append] at hp
  split at hp
  ·exact H.own i p hp
  ·have hp' := (List.getElem?_eq_some_iff.1 hp).2
   simp at hp'; subst hp'; exact .inl ⟨rfl, rfl⟩
 ·have key : ∀ (i : Nat) (p : AV × Ct), (L ++ [((.nsl : AV), Ct.s sz [])])[i]? = some p → idOf p.1 = some a → L[i]? = some p := by
   intro i p hp e
   rw [List.getElem?_append] at hp
   split at hp
   ·exact hp
   ·have hp' := (List.getElem?_eq_some_iff.1 hp).2
    simp at hp'; subst hp'; cases e
  exact H.sep i j p q a (key i p hp e1) (key j q hq e2) e1 e2
theorem hp_app (H : Hp σ0 σ L) {k sz most : Nat} {h : AV} {es ys : List (List AV)} (hk : L[k]? = some (h, .s sz es)) (hm : es.length + ys.length ≤ most) : ∃ h' σ', A.append sz most h (.sl sz ys) σ = some (h', σ') ∧ Hp σ0 σ' (L.set k (h', .s sz (es ++ ys))) := by
 have hl : σ0.length ≤ σ.length := by obtain ⟨bs, rfl⟩ := H.pre; simp
 rcases H.own k _ hk with ⟨h1, h2⟩ | ⟨id, g, off, a, h1, h2, h3, h4, h5⟩
 ·simp only at h1 h2
  subst h1 h2
  by_cases hy : ys = []
  ·subst hy
   refine ⟨.nsl, σ, by simp [A.append, A.appendL, A.elems], ?_⟩
   have : L.set k (.nsl, .s sz ([] ++ [])) = L := by
    apply List.ext_getElem?
    intro i
    rw [List.getElem?_set]
    split
    ·rename_i e; subst e; rw [hk]; simp [(List.getElem?_eq_some_iff.1 hk).1]
    ·rfl
   rw [this]; exact H
  ·refine ⟨.os σ.length ys.length sz 0 ys.length, σ ++ [.arr ys.length sz ys], ?_, ?_⟩
   ·have : ys.length ≤ most := by simpa using hm
    simp [A.append, A.appendL, A.elems, hy, this]
   ·exact hp_put H hk rfl rfl (.inr ⟨σ.length, ys.length, 0, ys, by simp, hl, by simp, by simp, by simp⟩)
 ·simp only at h1 h5
  subst h1
  have hid := (List.getElem?_eq_some_iff.1 h3).1
  have h6 : off + es.length = a.length := by rw [← h5, List.length_drop]; omega
  by_cases hy : ys = []
  ·subst hy
   refine ⟨.os id g sz off es.length, σ, ?_, ?_⟩
   ·have : es.length ≤ most := by simpa using hm
    simp [A.append, A.appendL, A.elems, h3, h6, this]
   ·have : L.set k (.os id g sz off es.length, .s sz (es ++ [])) = L := by
     apply List.ext_getElem?
     intro i
     rw [List.getElem?_set]
     split
     ·rename_i e; subst e; rw [hk]; simp [(List.getElem?_eq_some_iff.1 hk).1]
     ·rfl
    rw [this]; exact H
  ·refine ⟨.os id (g + ys.length) sz 0 (es.length + ys.length), σ.set id (.arr (g + ys.length) sz (es ++ ys)), ?_, ?_⟩
   ·have ht : (a.drop off).take es.length = es := by rw [h5]; simp
    have hp : 0 < ys.length := List.length_pos_iff.2 hy
    simp [A.append, A.appendL, A.elems, h3, h6, hm, hy, ht, hp]
   ·refine hp_set H hk rfl rfl (.inr ⟨id, g + ys.length, 0, es ++ ys, by simp, h2, by simp [hid], by simp, by simp [h5]⟩)
def Fzv (σ0 σ : Heap) (r r' : AV) : Prop := (∀ d, A.frz σ σ0.length (d + 1) r = some r') ∧ (σ = σ0 → r' = r)
def FzvL (σ0 σ : Heap) (l l' : List AV) : Prop := (∀ d, A.frzL σ σ0.length (d + 1) l = some l') ∧ (σ = σ0 → l' = l)
theorem fzv_fz {r : AV} (h : Fz r) : Fzv σ0 σ r r := ⟨fun d => h σ _ (d + 1), fun _ => rfl⟩
theorem fzvL_nil : FzvL σ0 σ [] [] := ⟨fun d => by simp [A.frzL], fun _ => rfl⟩
theorem fzvL_cons {a a' : AV} {l l' : List AV} (h : Fzv σ0 σ a a') (k : FzvL σ0 σ l l') : FzvL σ0 σ (a :: l) (a' :: l') := ⟨fun d => by simp [A.frzL, h.1 d, k.1 d], fun e => by rw [h.2 e, k.2 e]⟩
theorem fzv_tup {l l' : List AV} (h : FzvL σ0 σ l l') : Fzv σ0 σ (.tup l) (.tup l') := ⟨fun d => by simp [A.frz, h.1 d], fun e => by rw [h.2 e]⟩
theorem fzv_own {α : Type} (H : Hp σ0 σ L) {k sz : Nat} {h : AV} {c : α → List AV} {l : List α} (hk : L[k]? = some (h, .s sz (l.map c))) (hc : ∀ x, FzL (c x)) : ∃ r', Fzv σ0 σ h r' ∧ ((r' = .nsl ∧ l = []) ∨ r' = sl sz c l) := by
 rcases H.own k _ hk with ⟨h1, h2⟩ | ⟨id, g, off, a, h1, h2, h3, h4, h5⟩
 ·simp only at h1 h2
  have : l = [] := by simpa using h2
  subst this; subst h1
  exact ⟨.nsl, fzv_fz fz_nsl, .inl ⟨rfl, rfl⟩⟩
 ·simp only at h1 h5
  subst h1
  refine ⟨sl sz c l, ⟨fun d => ?_, fun e => ?_⟩, .inr rfl⟩
  ·have h6 : off + (l.map c).length = a.length := by rw [← h5, List.length_drop]; omega
   simp only [A.frz, Nat.not_lt.2 h2, if_false, h3]
   rw [if_pos (by simp; simp at h6; omega), frzLL_eq, h5, List.take_of_length_le (Nat.le_refl _), fzLL hc]
   rfl
  ·subst e
   have := (List.getElem?_eq_some_iff.1 h3).1
   omega
theorem nn_own' {α : Type} {sz : Nat} {c : α → List AV} {l : List α} {r : AV} (h : (r = .nsl ∧ l = []) ∨ r = sl sz c l) : A.nn (.s sz) r = sl sz c l := by
 rcases h with ⟨rfl, rfl⟩ | rfl <;> rfl
theorem nn_t1 {s1 : Sh} {v1 w1 : AV} {ss : List Sh} {vs ws : List AV} (h1 : A.nn s1 v1 = w1) (h2 : A.nnL ss vs = ws) : A.nnL (s1 :: ss) (v1 :: vs) = w1 :: ws := by simp only [A.nnL, h1, h2]
theorem nn_t0 : A.nnL [] [] = [] := by simp [A.nnL]
theorem nn_t {ss : List Sh} {vs ws : List AV} (h : A.nnL ss vs = ws) : A.nn (.t ss) (.tup vs) = .tup ws := by simp only [A.nn, h]
theorem frzM_fz (d : Nat) : ∀ {es : List (AV × AV)}, (∀ p ∈ es, Fz p.1 ∧ Fz p.2) → A.frzM' σ n d es = some es
 | [], _ => by simp [A.frzM']
 | (k, v) :: es, h => by
  have h1 := h (k, v) (by simp)
  simp only [A.frzM', h1.1 σ n d, h1.2 σ n d, Option.bind_some, frzM_fz d (es := es) (fun p hp => h p (by simp [hp])), Option.map_some]
theorem hp_fin (H : Hp σ0 σ L) {r r' : AV} (h : Fzv σ0 σ r r') : A.fin σ0 r σ = some (r', σ0) := by
 obtain ⟨bs, hb⟩ := H.pre
 subst hb
 by_cases hbs : bs = []
 ·subst hbs
  rw [List.append_nil] at h ⊢
  rw [fin_same, h.2 rfl]
 ·unfold A.fin
  rw [if_neg (by simpa using hbs), if_pos (by simp), h.1 7]; rfl
end
section
variable {κ ν : Type} [DecidableEq κ]
def tfind (k : κ) : List (κ × ν) → Option ν
 | [] => none
 | (k', v) :: r => if k = k' then some v else tfind k r
def tupd (k : κ) (v : ν) : List (κ × ν) → List (κ × ν)
 | [] => [(k, v)]
 | (k', v') :: r => if k = k' then (k, v) :: r else (k', v') :: tupd k v r
variable {ek : A.EK} {eK : κ → AV} {eV : ν → AV} (hq : ∀ a b, A.eqK ek (eK a) (eK b) = some (decide (a = b)))
include hq
theorem find_t (k : κ) : ∀ l : List (κ × ν), A.find ek (eK k) (l.map fun p => (eK p.1, eV p.2)) = some ((tfind k l).map eV)
 | [] => rfl
 | (k', v) :: r => by
  simp only [List.map_cons, A.find, hq, Option.bind_some, tfind]
  by_cases h : k = k'
  ·simp [h]
  ·simp [h, find_t k r]
theorem upd_t (k : κ) (v : ν) : ∀ l : List (κ × ν), A.upd ek (eK k) (eV v) (l.map fun p => (eK p.1, eV p.2)) = some ((tupd k v l).map fun p => (eK p.1, eV p.2))
 | [] => rfl
 | (k', v') :: r => by
  simp only [List.map_cons, A.upd, hq, Option.bind_some, tupd]
  by_cases h : k = k'
  ·simp [h]
  ·simp [h, upd_t k v r]
end
theorem eqk_int (k : IntKind) (a b : Int) : A.eqK .i (.int k a) (.int k b) = some (decide (a = b)) := by
 simp only [A.eqK, A.eqI, if_true]
 congr 1
theorem getD_map {α : Type} (o : Option α) (f : α → AV) (d : α) : (o.map f).getD (f d) = f (o.getD d) := by cases o <;> rfl
theorem isSome_map {α : Type} (o : Option α) (f : α → AV) : (o.map f).isSome = o.isSome := by cases o <;> rfl
def fmE {κ ν : Type} (eK : κ → AV) (eV : ν → AV) (l : List (κ × ν)) : AV := .fm (l.map fun p => (eK p.1, eV p.2))
section
variable {κ ν : Type} [DecidableEq κ] {ek : A.EK} {eK : κ → AV} {eV : ν → AV} {σ0 σ : Heap} {L : List (AV × Ct)} {h : AV} {l : List (κ × ν)}
theorem fm_lookT (hq : ∀ a b, A.eqK ek (eK a) (eK b) = some (decide (a = b))) (x : κ) (z : ν) (hok : A.keyOk ek (eK x) = true) : A.look ek (fmE eK eV l) (eK x) (eV z) σ = some (eV ((tfind x l).getD z)) := by
 simp only [A.look, fmE, hok, cond_true, A.entries, Option.bind_some, find_t hq, Option.map_some, getD_map]
theorem fm_lookOkT (hq : ∀ a b, A.eqK ek (eK a) (eK b) = some (decide (a = b))) (x : κ) (z : ν) (hok : A.keyOk ek (eK x) = true) : A.lookOk ek (fmE eK eV l) (eK x) (eV z) σ = some (.tup [eV ((tfind x l).getD z), .bool (tfind x l).isSome]) := by
 simp only [A.lookOk, fmE, hok, cond_true, A.entries, Option.bind_some, find_t hq, Option.map_some, getD_map, isSome_map]
end
section
variable {α : Type} {c : α → List AV} {l ys : List α} {σ0 σ : Heap} {L : List (AV × Ct)} {h : AV} {sz : Nat}
theorem hp_appT (H : Hp σ0 σ L) (k : Nat) {most : Nat} (hk : L[k]? = some (h, .s sz (l.map c))) (hm : l.length + ys.length ≤ most) : ∃ h' σ', A.append sz most h (sl sz c ys) σ = some (h', σ') ∧ Hp σ0 σ' (L.set k (h', .s sz ((l ++ ys).map c))) := by
 rw [List.map_append]
 exact hp_app H hk (by simpa using hm)
end
end Go.Proofs.Ytgjglkakhmikjaa

namespace Go.Proofs.Ytgjglkakhmikjaa
set_option linter.unusedSectionVars false
set_option linter.unusedVariables false
set_option linter.unusedSimpArgs false
inductive PickD where
 | mk (kind from_ to_ : Int) (args : List PickD)
namespace PickD
set_option linter.unusedSectionVars false
def kind : PickD → Int | .mk k _ _ _ => k
def from_ : PickD → Int | .mk _ f _ _ => f
def to_ : PickD → Int | .mk _ _ t _ => t
def args : PickD → List PickD | .mk _ _ _ l => l
end PickD
mutual
def pSize : PickD → Nat
 | .mk _ _ _ l => 1 + pSizes l
def pSizes : List PickD → Nat
 | [] => 0
 | p :: l => pSize p + pSizes l
end
mutual
def pDeep : PickD → Nat
 | .mk _ _ _ l => 1 + pDeeps l
def pDeeps : List PickD → Nat
 | [] => 0
 | p :: l => max (pDeep p) (pDeeps l)
end
theorem pSize_eq (p : PickD) : pSize p = 1 + pSizes p.args := by cases p; rw [pSize]; rfl
theorem pDeep_eq (p : PickD) : pDeep p = 1 + pDeeps p.args := by cases p; rw [pDeep]; rfl
theorem pSizes_mem {p : PickD} : ∀ {l : List PickD}, p ∈ l → pSize p ≤ pSizes l
 | q :: l, h => by
  rw [pSizes]
  rcases List.mem_cons.1 h with rfl | h
  ·omega
  ·have := pSizes_mem h; omega
theorem pSizes_sum : ∀ l : List PickD, pSizes l = (l.map pSize).sum
 | [] => by rw [pSizes]; rfl
 | p :: l => by rw [pSizes, List.map_cons, List.sum_cons, pSizes_sum l]
theorem pSize_arg {p q : PickD} (h : q ∈ p.args) : pSize q < pSize p := by
 rw [pSize_eq p]
 have := pSizes_mem h
 omega
namespace PickD
set_option linter.unusedSectionVars false
def frm : PickD → Int := from_
def to : PickD → Int := to_
end PickD
mutual
def cPick : PickD → List AV
 | .mk k f t l => [.int .i64 k, .int .i64 f, .int .i64 t, .sl 4 (cPicks l)]
def cPicks : List PickD → List (List AV)
 | [] => []
 | p :: l => cPick p :: cPicks l
end
theorem cPicks_eq : ∀ l : List PickD, cPicks l = l.map cPick
 | [] => by rw [cPicks]; rfl
 | p :: l => by rw [cPicks, cPicks_eq l]; rfl
theorem cPick_eq (p : PickD) : cPick p = [.int .i64 p.kind, .int .i64 p.frm, .int .i64 p.to, sl 4 cPick p.args] := by
 cases p; rw [cPick, cPicks_eq]; rfl
theorem cPick_len (p : PickD) : (cPick p).length = 4 := by rw [cPick_eq]; rfl
structure GroupD where
 number : Int
 pick : PickD
instance : Inhabited PickD := ⟨.mk 0 0 0 []⟩
instance : Inhabited GroupD := ⟨⟨0, default⟩⟩
def cGroup (g : GroupD) : List AV := [.int .i64 g.number, .int .i64 g.pick.kind, .int .i64 g.pick.frm, .int .i64 g.pick.to, sl 4 cPick g.pick.args]
theorem cGroup_len (g : GroupD) : (cGroup g).length = 5 := rfl
theorem cGroup_pick (g : GroupD) : cGroup g = .int .i64 g.number :: cPick g.pick := by rw [cPick_eq]; rfl
theorem ce_cPick (p : PickD) : A.cells 4 (.agg (cPick p)) = some (cPick p) := by rw [cPick_eq]; rfl
theorem pA_cPick (p : PickD) : A.partA 0 4 (cPick p) = some (.agg (cPick p)) := by rw [cPick_eq]; rfl
theorem sp_cPick (x : PickD) (l : List AV) (h : l.length = 4) : A.splice 0 (cPick x) l = some (cPick x) := by
 simp [A.splice, cPick_len, h]
theorem sp_cGroup (x : GroupD) (l : List AV) (h : l.length = 5) : A.splice 0 (cGroup x) l = some (cGroup x) := by
 simp [A.splice, cGroup_len, h]
end Go.Proofs.Ytgjglkakhmikjaa

namespace Go.Proofs.Ytgjglkakhmikjaa
set_option linter.unusedSectionVars false
set_option linter.unusedVariables false
set_option linter.unusedSimpArgs false
def withinB (n lo hi : Int) : Bool := decide (lo ≤ n ∧ n ≤ hi)
def profOf (nm : ByteArray) : List ProfileD → ProfileD × Bool
 | [] => (⟨⟨#[]⟩, 0, []⟩, false)
 | p :: rest => if p.name = nm then (p, true) else profOf nm rest
def markF (f : Int → Nat → Bool) (u : Int) (a s : Nat) : Int → Nat → Bool := fun v k => if v = u ∧ a ≤ k ∧ k < a + s then true else f v k
def lastU (lib : List ProfileD) (u : UnitD) : Int := u.address + (profOf u.profile lib).1.size - 1
def UnitsOk (lib : List ProfileD) (pre : List UnitD) : Prop := ∀ x ∈ pre, 1 ≤ x.address ∧ x.address ≤ lastU lib x ∧ lastU lib x ≤ 512
def MarksP (lib : List ProfileD) (pre : List UnitD) (f : Int → Nat → Bool) : Prop := ∀ v k, f v k = true ↔ ∃ x ∈ pre, x.univ = v ∧ x.address ≤ (k : Int) ∧ (k : Int) ≤ lastU lib x
end Go.Proofs.Ytgjglkakhmikjaa

namespace Go.Proofs.Ytgjglkakhmikjaa
set_option linter.unusedSectionVars false
set_option linter.unusedVariables false
set_option linter.unusedSimpArgs false
theorem Within_eq (n lo hi : Int) (σ : Heap) : m_word_Within [.int .i64 n, .int .i64 lo, .int .i64 hi] σ = some (.bool (withinB n lo hi), σ) := by
 refine wrap_eq rfl ?_ rfl
 show r_word_Within _ _ _ σ = _
 unfold r_word_Within withinB
 by_cases h : lo ≤ n <;> simp only [MSb, reduceCtorEq, h, true_and, false_and]
theorem Within1_eq (n lo hi : Int) (σ : Heap) : m_R1_Within [.int .i64 n, .int .i64 lo, .int .i64 hi] σ = some (.bool (withinB n lo hi), σ) := by
 refine wrap_eq rfl ?_ rfl
 show r_R1_Within _ _ _ σ = _
 unfold r_R1_Within withinB
 by_cases h : lo ≤ n <;> simp only [MSb, reduceCtorEq, h, true_and, false_and]
end Go.Proofs.Ytgjglkakhmikjaa

