/- Parts of the proof of PickParsesMatchSpec, in order. -/
import Derived.Orders
import Derived.Below
import Derived.WalkKit
import Derived.Test.YtfalbgflabajbaaDoorRows
import Derived.Lib.LaidTab
import Derived.Lib.ItoaNum
import Derived.KernelRfl
import Derived.Laws.StructEq
import Derived.Laws.Append
import Derived.Laws.AppendOwn
import Derived.Lib.Bytealg
import Derived.Sort.Defs
import Derived.Lib.BitFns
import Derived.Lib.Strings
import Derived.Lib.Split
import Derived.Lib.IndexMore
import Derived.Lib.TrimByte
import Derived.Lib.Join
import Derived.Lib.Atoi
import Derived.Test.YtfalbgflabajbaaDoorShelf
import Derived.WalkSpells
import Derived.ProofKit
import Derived.OpenShut
import Derived.Deep.QuietTactic
import Derived.BigQuiet
import Derived.Lib.Hide
import Derived.IntWalk
import Derived.Deep.RegionHeld3
import Derived.Test.YtfalbgflabajbaaDoorTrim
import Derived.Lib.SmallJoins
import Derived.Deep.Slices
import Derived.OwnWalk
import Derived.Laws.OwnMore
import Derived.Deep.AppendLies
import Derived.StillTail
import Derived.Lib.QuietBelow
import Derived.WalkLawsBesides
import Derived.Test.YtfalbgflabajbaaDoorKPickParsesMatchSpec2
namespace Go.Proofs.YtfalbgflabajbaaDoor
set_option linter.unusedSectionVars false
open Go.RowKit
set_option linter.unusedVariables false
set_option linter.unusedSimpArgs false
section
variable {X : Fx} {z : Z} {s : AS} {a : Act} {w w' : World} {E : List Pl} {pb : Nat → Option Nat}
def resM (tmps : Array Value) : ResultVar → Sem Value
 | .tmp t => pure (tmps.getD t undef)
 | .cell a t => do loadVar t (← asAddr (tmps.getD a undef))
theorem resA_run (h : St X z s a w E pb) {R : Type} : ∀ (rs : List ResultVar) (k : List AV → Option R) (r : R), resA X s rs k = some r → ∃ vs avs, (rs.mapM (resM a.tmps)).run X.P w = .ok vs w ∧ RepL (ctx z w E pb) avs vs ∧ k avs = some r
 | [], k, r, hk => ⟨[], [], by simp, by simp [RepL], hk⟩
 | .tmp t :: rs, k, r, hk => by
  simp only [resA] at hk
  obtain ⟨vs, avs, h1, h2, h3⟩ := resA_run h rs _ r hk
  refine ⟨a.tmps.getD t undef :: vs, ev X s (.tmp t) :: avs, ?_, by simp only [RepL]; exact ⟨_, _, rfl, ev_rep h (.tmp t), h2⟩, h3⟩
  simp only [List.mapM_cons, Sem.run_bind, resM, Sem.run_pure, Result.andThen_ok, h1]
 | .cell q t :: rs, k, r, hk => by
  simp only [resA] at hk
  have fin : ∀ (v : Value) (av : AV), (resM a.tmps (.cell q t)).run X.P w = .ok v w → Rep (ctx z w E pb) av v → resA X s rs (fun vs => k (av :: vs)) = some r → ∃ vs avs, ((ResultVar.cell q t :: rs).mapM (resM a.tmps)).run X.P w = .ok vs w ∧ RepL (ctx z w E pb) avs vs ∧ k avs = some r := by
   intro v av hv hr hk
   obtain ⟨vs, avs, h1, h2, h3⟩ := resA_run h rs _ r hk
   refine ⟨v :: vs, av :: avs, ?_, by simp only [RepL]; exact ⟨_, _, rfl, hr, h2⟩, h3⟩
   simp only [List.mapM_cons, Sem.run_bind, hv, Sem.run_pure, Result.andThen_ok, h1]
  split at hk
  ·rename_i b off hp
   obtain ⟨av, e1, e2⟩ := Option.bind_eq_some_iff.1 hk
   obtain ⟨cs, e3, e4⟩ := Option.bind_eq_some_iff.1 e1
   obtain ⟨n, k1, k2, k3, k4⟩ := place_rep h (tag := none) trivial hp e3
   obtain ⟨v, j1, j2⟩ := partT_load (c := ctx z w E pb) w X rfl k3.2 e4
   rw [Nat.zero_add] at j1
   simp only [Act.eval] at k2
   exact fin v av (by simp [resM, k2, asAddr, j1]) j2 e2
  ·obtain ⟨av, e1, e2⟩ := Option.bind_eq_some_iff.1 hk
   obtain ⟨cs, e3, e4⟩ := Option.bind_eq_some_iff.1 e1
   obtain ⟨b, off, k2, k3⟩ := deref_rep h.heap e3 (ev_rep h (.tmp q))
   obtain ⟨v, j1, j2⟩ := partT_load (c := ctx z w E pb) w X rfl k3 e4
   rw [Nat.add_zero] at j1
   simp only [Act.eval] at k2
   exact fin v av (by simp [resM, k2, asAddr, j1]) j2 e2
theorem results_run {P : Program} {fn : Func} {tmps : Array Value} {vs : List Value} (h : (fn.results.toList.mapM (resM tmps)).run P w = .ok vs w) : ∃ v, (results fn tmps).run P w = .ok v w ∧ ∀ (c : RC) (avs : List AV), RepL c avs vs → Rep c (one avs) v := by
 have e : results fn tmps = (do let vs ← fn.results.mapM (resM tmps); pure (if h : vs.size = 1 then vs[0] else .tuple vs)) := by
  unfold results
  congr 1
 have hm : (fn.results.mapM (resM tmps)).run P w = .ok vs.toArray w := by
  rw [Array.mapM_eq_mapM_toList, Sem.run_map, h]; rfl
 have hrun : (results fn tmps).run P w = .ok (if h : vs.toArray.size = 1 then vs.toArray[0] else .tuple vs.toArray) w := by
  rw [e, Sem.run_bind, hm]; rfl
 refine ⟨_, hrun, fun c avs r => ?_⟩
 match avs, vs, r with
 | [x], [v], r => simp only [RepL] at r; obtain ⟨v', _, e', r1, rfl⟩ := r; injection e' with e1 _; subst e1; simpa [one] using r1
 | [], [], r => simp only [one, Rep]; exact ⟨#[], by simp, by simp [RepL]⟩
 | x :: y :: xs, v :: u :: us, r => simp only [one, Rep]; exact ⟨(v :: u :: us).toArray, by simp, by simpa using r⟩
 | [_], _ :: _ :: _, r => exact absurd r.length (by simp)
 | _ :: _ :: _, [_], r => exact absurd r.length (by simp)
 | [], _ :: _, r => exact absurd r.length (by simp)
 | _ :: _, [], r => exact absurd r.length (by simp)
end
section
variable {c c' : RC} {σ : Heap} {n : Nat}
structure Cold (c c' : RC) (σ : Heap) (n : Nat) : Prop where
 w : c'.w = c.w
 nm : c'.nm = c.nm
 X : ∀ b, c'.X b → c.X b
 E : ∀ (id : Nat) (p : Pl), id < n → c.E[id]? = some p → c'.E[id]? = some p
 heap : HeapRel c σ
 cold : ∀ (id : Nat) (p : Pl), n ≤ id → c.E[id]? = some p → ¬ c'.X p.b
theorem frzL_len (d : Nat) : ∀ (l l' : List AV), A.frzL σ n d l = some l' → l'.length = l.length
 | [], l', e => by simp only [A.frzL] at e; injection e with e; subst e; rfl
 | x :: l, l', e => by
  simp only [A.frzL] at e
  obtain ⟨y, h1, h2⟩ := Option.bind_eq_some_iff.1 e
  obtain ⟨l2, h3, rfl⟩ := Option.map_eq_some_iff.1 h2
  simp [frzL_len d l l2 h3]
theorem frzLL_len (d : Nat) : ∀ (l l' : List (List AV)), A.frzLL σ n d l = some l' → l'.length = l.length
 | [], l', e => by simp only [A.frzLL] at e; injection e with e; subst e; rfl
 | x :: l, l', e => by
  simp only [A.frzLL] at e
  obtain ⟨y, h1, h2⟩ := Option.bind_eq_some_iff.1 e
  obtain ⟨l2, h3, rfl⟩ := Option.map_eq_some_iff.1 h2
  simp [frzLL_len d l l2 h3]
theorem frzLL_eq (d : Nat) : ∀ (l : List (List AV)), A.frzLL' σ n d l = A.frzLL σ n d l
 | [] => by simp [A.frzLL, A.frzLL']
 | x :: l => by simp [A.frzLL, A.frzLL', frzLL_eq d l]
def isOwn : AV → Bool
 | .os .. => true
 | .op .. => true
 | .oe .. => true
 | .om .. => true
 | _ => false
theorem frzL_eq (d : Nat) : ∀ (l : List AV), A.frzL' σ n d l = A.frzL σ n d l
 | [] => by simp [A.frzL, A.frzL']
 | x :: l => by simp [A.frzL, A.frzL', frzL_eq d l]
theorem frzM_eq (d : Nat) : ∀ (l : List (AV × AV)), A.frzM' σ n d l = A.frzM σ n d l
 | [] => by simp [A.frzM, A.frzM']
 | (k, v) :: l => by simp [A.frzM, A.frzM', frzM_eq d l]
theorem frz_key (d : Nat) (m : Int) (s : ByteArray) : A.frz σ n d (.agg [.int .i64 m, .str s]) = some (.agg [.int .i64 m, .str s]) := by
 cases d <;> simp [A.frz, A.frzL]
theorem frzM_keys {d : Nat} : ∀ {es es' : List (AV × AV)}, (∀ p ∈ es, ∃ m s, p.1 = .agg [.int .i64 m, .str s]) → A.frzM σ n d es = some es' → es'.map (·.1) = es.map (·.1)
 | [], es', _, h => by simp only [A.frzM] at h; injection h with h; subst h; rfl
 | (k, v) :: r, es', hk, h => by
  simp only [A.frzM] at h
  obtain ⟨m, s, e⟩ := hk (k, v) List.mem_cons_self
  simp only at e
  subst e
  rw [frz_key] at h
  simp only [Option.bind_some] at h
  obtain ⟨v', h1, h2⟩ := Option.bind_eq_some_iff.1 h
  obtain ⟨r', h3, rfl⟩ := Option.map_eq_some_iff.1 h2
  simp only [List.map_cons, frzM_keys (fun p hp => hk p (List.mem_cons_of_mem _ hp)) h3]
theorem frzM_dist {d : Nat} {es es' : List (AV × AV)} (hd : DistK es) (h : A.frzM σ n d es = some es') : DistK es' := by
 have e := frzM_keys hd.1 h
 refine ⟨fun p hp => ?_, by rw [e]; exact hd.2⟩
 have : p.1 ∈ es.map (·.1) := by rw [← e]; exact List.mem_map_of_mem hp
 obtain ⟨q, hq, e2⟩ := List.mem_map.1 this
 rw [← e2]
 exact hd.1 q hq
mutual
theorem frz_rep (h : Cold c c' σ n) (d : Nat) (hos : ∀ av av' v, isOwn av = true → A.frz σ n d av = some av' → Rep c av v → Rep c' av' v) : ∀ (av av' : AV) (v : Value), A.frz σ n d av = some av' → Rep c av v → Rep c' av' v
 | .undef, av', v, e, r => by cases d <;> simp [A.frz] at e
 | .int k m, av', v, e, r => by
  have : av' = .int k m := by cases d <;> simpa [A.frz] using e.symm
  subst this; simpa [Rep] using r
 | .bool b, av', v, e, r => by
  have : av' = .bool b := by cases d <;> simpa [A.frz] using e.symm
  subst this; simpa [Rep] using r
 | .str s, av', v, e, r => by
  have : av' = .str s := by cases d <;> simpa [A.frz] using e.symm
  subst this; simpa [Rep] using r
 | .nsl, av', v, e, r => by
  have : av' = .nsl := by cases d <;> simpa [A.frz] using e.symm
  subst this; simpa [Rep] using r
 | .ez, av', v, e, r => by
  have : av' = .ez := by cases d <;> simpa [A.frz] using e.symm
  subst this; simpa [Rep] using r
 | .np, av', v, e, r => by
  have : av' = .np := by cases d <;> simpa [A.frz] using e.symm
  subst this; simpa [Rep] using r
 | .nm, av', v, e, r => by
  have : av' = .nm := by cases d <;> simpa [A.frz] using e.symm
  subst this; simpa [Rep] using r
 | .nfn, av', v, e, r => by
  have : av' = .nfn := by cases d <;> simpa [A.frz] using e.symm
  subst this; simpa [Rep] using r
 | .agg cs, av', v, e, r => by
  have e' : (A.frzL σ n d cs).map .agg = some av' := by cases d <;> simpa [A.frz] using e
  obtain ⟨cs', h1, rfl⟩ := Option.map_eq_some_iff.1 e'
  simp only [Rep] at r ⊢
  obtain ⟨vs, e, r1, r2⟩ := r
  exact ⟨vs, e, frzL_rep h d hos cs cs' _ h1 r1, r2⟩
 | .tup cs, av', v, e, r => by
  have e' : (A.frzL σ n d cs).map .tup = some av' := by cases d <;> simpa [A.frz] using e
  obtain ⟨cs', h1, rfl⟩ := Option.map_eq_some_iff.1 e'
  simp only [Rep] at r ⊢
  obtain ⟨vs, e, r1⟩ := r
  exact ⟨vs, e, frzL_rep h d hos cs cs' _ h1 r1⟩
 | .sl sz es, av', v, e, r => by
  have e' : (A.frzLL σ n d es).map (.sl sz) = some av' := by cases d <;> simpa [A.frz] using e
  obtain ⟨es', h1, rfl⟩ := Option.map_eq_some_iff.1 e'
  simp only [Rep] at r ⊢
  obtain ⟨q, cap, e, k1, k2, r⟩ := r
  have hl : es'.length = es.length := frzLL_len d es es' h1
  refine ⟨q, cap, by rw [hl]; exact e, by rw [hl]; exact k1, k2, ?_⟩
  rcases r with r | ⟨b, off, e2, hb, hx, r⟩
  ·left; subst r; simpa using hl
  ·right; exact ⟨b, off, e2, by rw [h.w]; exact hb, fun k => hx (h.X b k), frzE_rep h d hos sz b es es' off h1 r⟩
 | .rp cs, av', v, e, r => by
  have e' : (A.frzL σ n d cs).map .rp = some av' := by cases d <;> simpa [A.frz] using e
  obtain ⟨cs', h1, rfl⟩ := Option.map_eq_some_iff.1 e'
  simp only [Rep] at r ⊢
  obtain ⟨b, off, e2, hb, hx, r⟩ := r
  exact ⟨b, off, e2, by rw [h.w]; exact hb, fun k => hx (h.X b k), frzC_rep h d hos b cs cs' off h1 r⟩
 | .fm es, av', v, e, r => by
  have e' : (A.frzM σ n d es).map .fm = some av' := by cases d <;> simpa [A.frz] using e
  obtain ⟨es', h1, rfl⟩ := Option.map_eq_some_iff.1 e'
  simp only [Rep] at r ⊢
  obtain ⟨b, e2, hb, hx, ents, clock, k1, kw, l, k2, k3⟩ := r
  exact ⟨b, e2, by rw [h.w]; exact hb, fun k => hx (h.X b k), ents, clock, by rw [h.w]; exact k1, kw, l, frzM_rep h d hos es es' _ h1 k2, k3.imp_right fun q => ⟨q.1, frzM_dist q.2 h1⟩⟩
 | .op id off, av', v, e, r => hos _ av' v rfl e r
 | .oe id g i off, av', v, e, r => hos _ av' v rfl e r
 | .om id, av', v, e, r => hos _ av' v rfl e r
 | .fn f cs, av', v, e, r => by
  have e' : (A.frzL σ n d cs).map (.fn f) = some av' := by cases d <;> simpa [A.frz] using e
  obtain ⟨cs', h1, rfl⟩ := Option.map_eq_some_iff.1 e'
  simp only [Rep] at r ⊢
  obtain ⟨g, vs, e, k, r1⟩ := r
  exact ⟨g, vs, e, by rw [h.nm]; exact k, frzL_rep h d hos cs cs' _ h1 r1⟩
 | .lbx cs, av', v, e, r => by cases d <;> simp [A.frz] at e
 | .os id g sz off len, av', v, e, r => hos _ av' v rfl e r
theorem frzL_rep (h : Cold c c' σ n) (d : Nat) (hos : ∀ av av' v, isOwn av = true → A.frz σ n d av = some av' → Rep c av v → Rep c' av' v) : ∀ (l l' : List AV) (vs : List Value), A.frzL σ n d l = some l' → RepL c l vs → RepL c' l' vs
 | [], l', vs, e, r => by simp only [A.frzL] at e; injection e with e; subst e; simpa [RepL] using r
 | x :: l, l', vs, e, r => by
  simp only [A.frzL] at e
  obtain ⟨y, h1, h2⟩ := Option.bind_eq_some_iff.1 e
  obtain ⟨l2, h3, rfl⟩ := Option.map_eq_some_iff.1 h2
  simp only [RepL] at r ⊢
  obtain ⟨v, vs', e, r1, r2⟩ := r
  exact ⟨v, vs', e, frz_rep h d hos x y v h1 r1, frzL_rep h d hos l l2 vs' h3 r2⟩
theorem frzM_rep (h : Cold c c' σ n) (d : Nat) (hos : ∀ av av' v, isOwn av = true → A.frz σ n d av = some av' → Rep c av v → Rep c' av' v) : ∀ (l l' : List (AV × AV)) (es : List MapEntry), A.frzM σ n d l = some l' → RepM c l es → RepM c' l' es
 | [], l', es, e, r => by simp only [A.frzM] at e; injection e with e; subst e; simpa [RepM] using r
 | (k, v) :: l, l', es, e, r => by
  simp only [A.frzM] at e
  obtain ⟨k', h1, h2⟩ := Option.bind_eq_some_iff.1 e
  obtain ⟨v', h3, h4⟩ := Option.bind_eq_some_iff.1 h2
  obtain ⟨l2, h5, rfl⟩ := Option.map_eq_some_iff.1 h4
  simp only [RepM] at r ⊢
  obtain ⟨x, es', e, r1, r2, r3⟩ := r
  exact ⟨x, es', e, frz_rep h d hos k k' _ h1 r1, frz_rep h d hos v v' _ h3 r2, frzM_rep h d hos l l2 es' h5 r3⟩
theorem frzC_rep (h : Cold c c' σ n) (d : Nat) (hos : ∀ av av' v, isOwn av = true → A.frz σ n d av = some av' → Rep c av v → Rep c' av' v) (b : Nat) : ∀ (l l' : List AV) (off : Nat), A.frzL σ n d l = some l' → RepCs c b off l → RepCs c' b off l'
 | [], l', off, e, r => by simp only [A.frzL] at e; injection e with e; subst e; simp [RepCs]
 | x :: l, l', off, e, r => by
  simp only [A.frzL] at e
  obtain ⟨y, h1, h2⟩ := Option.bind_eq_some_iff.1 e
  obtain ⟨l2, h3, rfl⟩ := Option.map_eq_some_iff.1 h2
  simp only [RepCs] at r ⊢
  obtain ⟨⟨v, e1, e2, r1⟩, r2⟩ := r
  exact ⟨⟨v, by rw [h.w]; exact e1, e2, frz_rep h d hos x y v h1 r1⟩, frzC_rep h d hos b l l2 (off + 1) h3 r2⟩
theorem frzE_rep (h : Cold c c' σ n) (d : Nat) (hos : ∀ av av' v, isOwn av = true → A.frz σ n d av = some av' → Rep c av v → Rep c' av' v) (sz b : Nat) : ∀ (l l' : List (List AV)) (off : Nat), A.frzLL σ n d l = some l' → RepEs c sz b off l → RepEs c' sz b off l'
 | [], l', off, e, r => by simp only [A.frzLL] at e; injection e with e; subst e; simp [RepEs]
 | x :: l, l', off, e, r => by
  simp only [A.frzLL] at e
  obtain ⟨y, h1, h2⟩ := Option.bind_eq_some_iff.1 e
  obtain ⟨l2, h3, rfl⟩ := Option.map_eq_some_iff.1 h2
  simp only [RepEs] at r ⊢
  exact ⟨by rw [frzL_len d x y h1]; exact r.1, frzC_rep h d hos b x y off h1 r.2.1, frzE_rep h d hos sz b l l2 (off + sz) h3 r.2.2⟩
end
structure Eld (c0 c c' : RC) : Prop where
 w : c'.w = c.w
 nm : c'.nm = c.nm
 X : ∀ b, c'.X b → c.X b
 E : ∀ (id : Nat) (p0 p : Pl), c0.E[id]? = some p0 → c.E[id]? = some p → c'.E[id]? = some p
mutual
theorem eld_rep {c0 c c' : RC} (h : Eld c0 c c') : ∀ (av : AV) (v0 v : Value), Rep c0 av v0 → Rep c av v → Rep c' av v
 | .undef, v0, v, r0, r => by simp [Rep]
 | .int k m, v0, v, r0, r => by simpa [Rep] using r
 | .bool b, v0, v, r0, r => by simpa [Rep] using r
 | .str s, v0, v, r0, r => by simpa [Rep] using r
 | .nsl, v0, v, r0, r => by simpa [Rep] using r
 | .ez, v0, v, r0, r => by simpa [Rep] using r
 | .np, v0, v, r0, r => by simpa [Rep] using r
 | .nm, v0, v, r0, r => by simpa [Rep] using r
 | .fm es, v0, v, r0, r => by
  simp only [Rep] at r0 r ⊢
  obtain ⟨_, _, _, _, _, _, _, _, _, r0, _⟩ := r0
  obtain ⟨b, e, hb, hx, ents, clock, k1, kw, l, k2, k3⟩ := r
  exact ⟨b, e, by rw [h.w]; exact hb, fun k => hx (h.X b k), ents, clock, by rw [h.w]; exact k1, kw, l, eldM_rep h es _ _ r0 k2, k3⟩
 | .nfn, v0, v, r0, r => by simpa [Rep] using r
 | .agg cs, v0, v, r0, r => by
  simp only [Rep] at r0 r ⊢
  obtain ⟨vs0, _, r01, _⟩ := r0
  obtain ⟨vs, e, r1, r2⟩ := r
  exact ⟨vs, e, eldL_rep h cs _ _ r01 r1, r2⟩
 | .tup cs, v0, v, r0, r => by
  simp only [Rep] at r0 r ⊢
  obtain ⟨vs0, _, r01⟩ := r0
  obtain ⟨vs, e, r1⟩ := r
  exact ⟨vs, e, eldL_rep h cs _ _ r01 r1⟩
 | .sl sz es, v0, v, r0, r => by
  simp only [Rep] at r0 r ⊢
  obtain ⟨_, _, _, _, _, r0⟩ := r0
  obtain ⟨q, cap, e, k1, k2, r⟩ := r
  refine ⟨q, cap, e, k1, k2, ?_⟩
  rcases r with r | ⟨b, off, e2, hb, hx, r⟩
  ·exact .inl r
  ·rcases r0 with r0 | ⟨b0, off0, _, _, _, r0⟩
   ·exact .inl r0
   ·exact .inr ⟨b, off, e2, by rw [h.w]; exact hb, fun k => hx (h.X b k), eldE_rep h sz b0 b es off0 off r0 r⟩
 | .rp cs, v0, v, r0, r => by
  simp only [Rep] at r0 r ⊢
  obtain ⟨b0, off0, _, _, _, r0⟩ := r0
  obtain ⟨b, off, e2, hb, hx, r⟩ := r
  exact ⟨b, off, e2, by rw [h.w]; exact hb, fun k => hx (h.X b k), eldC_rep h b0 b cs off0 off r0 r⟩
 | .op id off, v0, v, r0, r => by
  simp only [Rep] at r0 r ⊢
  obtain ⟨p0, e0, _⟩ := r0
  obtain ⟨p, e1, e2, e3⟩ := r
  exact ⟨p, h.E id p0 p e0 e1, e2, e3⟩
 | .oe id g i off, v0, v, r0, r => by
  simp only [Rep] at r0 r ⊢
  obtain ⟨_, p0, e0, _⟩ := r0
  obtain ⟨hg, p, e1, e2⟩ := r
  exact ⟨hg, p, h.E id p0 p e0 e1, e2⟩
 | .os id g sz off len, v0, v, r0, r => by
  simp only [Rep] at r0 r ⊢
  obtain ⟨_, p0, e0, _⟩ := r0
  obtain ⟨hg, p, e1, e2⟩ := r
  exact ⟨hg, p, h.E id p0 p e0 e1, e2⟩
 | .om id, v0, v, r0, r => by
  simp only [Rep] at r0 r ⊢
  obtain ⟨p0, e0, _⟩ := r0
  obtain ⟨p, e1, e2, e3⟩ := r
  exact ⟨p, h.E id p0 p e0 e1, e2, e3⟩
 | .fn f cs, v0, v, r0, r => by
  simp only [Rep] at r0 r ⊢
  obtain ⟨_, _, _, _, r0⟩ := r0
  obtain ⟨g, vs, e1, e2, r⟩ := r
  exact ⟨g, vs, e1, by rw [h.nm]; exact e2, eldL_rep h cs _ _ r0 r⟩
 | .lbx cs, v0, v, r0, r => by simp [Rep] at r
theorem eldL_rep {c0 c c' : RC} (h : Eld c0 c c') : ∀ (l : List AV) (vs0 vs : List Value), RepL c0 l vs0 → RepL c l vs → RepL c' l vs
 | [], vs0, vs, r0, r => by simpa [RepL] using r
 | x :: l, vs0, vs, r0, r => by
  simp only [RepL] at r0 r ⊢
  obtain ⟨v0, us0, _, r01, r02⟩ := r0
  obtain ⟨v, us, e, r1, r2⟩ := r
  exact ⟨v, us, e, eld_rep h x _ _ r01 r1, eldL_rep h l _ _ r02 r2⟩
theorem eldM_rep {c0 c c' : RC} (h : Eld c0 c c') : ∀ (l : List (AV × AV)) (es0 es : List MapEntry), RepM c0 l es0 → RepM c l es → RepM c' l es
 | [], es0, es, r0, r => by simpa [RepM] using r
 | (k, v) :: l, es0, es, r0, r => by
  simp only [RepM] at r0 r ⊢
  obtain ⟨e0, es0', _, k1, k2, k3⟩ := r0
  obtain ⟨e, es', e1, j1, j2, j3⟩ := r
  exact ⟨e, es', e1, eld_rep h k _ _ k1 j1, eld_rep h v _ _ k2 j2, eldM_rep h l es0' es' k3 j3⟩
theorem eldC_rep {c0 c c' : RC} (h : Eld c0 c c') (b0 b : Nat) : ∀ (l : List AV) (off0 off : Nat), RepCs c0 b0 off0 l → RepCs c b off l → RepCs c' b off l
 | [], off0, off, r0, r => by simp [RepCs]
 | x :: l, off0, off, r0, r => by
  simp only [RepCs] at r0 r ⊢
  obtain ⟨⟨v0, _, _, r01⟩, r02⟩ := r0
  obtain ⟨⟨v, e1, e2, r1⟩, r2⟩ := r
  exact ⟨⟨v, by rw [h.w]; exact e1, e2, eld_rep h x _ _ r01 r1⟩, eldC_rep h b0 b l _ _ r02 r2⟩
theorem eldE_rep {c0 c c' : RC} (h : Eld c0 c c') (sz b0 b : Nat) : ∀ (l : List (List AV)) (off0 off : Nat), RepEs c0 sz b0 off0 l → RepEs c sz b off l → RepEs c' sz b off l
 | [], off0, off, r0, r => by simp [RepEs]
 | x :: l, off0, off, r0, r => by
  simp only [RepEs] at r0 r ⊢
  exact ⟨r.1, eldC_rep h b0 b x _ _ r0.2.1 r.2.1, eldE_rep h sz b0 b l _ _ r0.2.2 r.2.2⟩
end
theorem eldB_rep {c0 c c' : RC} (h : Eld c0 c c') {p0 p : Pl} {x : Blk} (k0 : BlkAt c0 p0 x) (k : BlkAt c p x) : BlkAt c' p x := by
 cases x with
 | box cs =>
  obtain ⟨h1, ⟨⟨arr, t, h2, h3⟩, h4⟩⟩ := k
  exact ⟨h1, ⟨arr, t, by rw [h.w]; exact h2, h3⟩, eldC_rep h _ _ cs _ _ k0.2.2 h4⟩
 | arr g sz es =>
  obtain ⟨h1, h2, h3, h4, ⟨arr, t, h5, h6⟩, h7, h8, h9⟩ := k
  obtain ⟨_, _, _, _, _, _, k8, _⟩ := k0
  exact ⟨h1, h2, h3, h4, ⟨arr, t, by rw [h.w]; exact h5, h6⟩, h7, eldE_rep h sz _ _ es _ _ k8 h8, fun arr t fz e => h9 arr t fz (by rw [← h.w]; exact e)⟩
 | arrF g sz es =>
  obtain ⟨h1, h2, h3, h4, ⟨arr, t, h5, h6⟩, h7, h8, h9⟩ := k
  obtain ⟨_, _, _, _, _, _, k8, _⟩ := k0
  exact ⟨h1, h2, h3, h4, ⟨arr, t, by rw [h.w]; exact h5, h6⟩, h7, eldE_rep h sz _ _ es _ _ k8 h8, fun arr t fz e => h9 arr t fz (by rw [← h.w]; exact e)⟩
 | map es =>
  obtain ⟨h1, ents, clock, h2, hw, h3⟩ := k
  obtain ⟨_, _, _, _, _, k3⟩ := k0
  exact ⟨h1, ents, clock, by rw [h.w]; exact h2, hw, eldM_rep h es _ _ k3 h3⟩
 | it cur left =>
  obtain ⟨h1, h2⟩ := k
  obtain ⟨_, k2⟩ := k0
  refine ⟨h1, ?_⟩
  rcases h2 with ⟨h2, h2', since, seen, last, h3⟩ | ⟨m, seen, ents, clock, h3, h4, h5, h6, h7, h8, h9⟩
  ·exact .inl ⟨h2, h2', since, seen, last, by rw [h.w]; exact h3⟩
  ·rcases k2 with ⟨q1, q2, _⟩ | ⟨m0, seen0, ents0, clock0, q3, q4, q5, q6, q7, q8, q9⟩
   ·refine .inr ⟨m, seen, ents, clock, by rw [h.w]; exact h3, by rw [h.w]; exact h4, fun k => h5 (h.X m k), by rw [h.w]; exact h6, h7, by rw [q2] at h8 ⊢; exact h8, .inl q1⟩
   ·refine .inr ⟨m, seen, ents, clock, by rw [h.w]; exact h3, by rw [h.w]; exact h4, fun k => h5 (h.X m k), by rw [h.w]; exact h6, h7, (by obtain ⟨l0, q8, _⟩ := q8; obtain ⟨l, h8, hp⟩ := h8; exact ⟨l, eldM_rep h left _ _ q8 h8, hp⟩), ?_⟩
    rcases h9 with h9 | ⟨kk, v, e, e1, e2, e3, e4, e5⟩
    ·exact .inl h9
    ·rcases q9 with q9 | ⟨kk', v', e', f1, f2, f3, f4, f5⟩
     ·exact .inl q9
     ·rw [e1] at f1
      simp only [List.cons.injEq, Prod.mk.injEq, and_true] at f1
      obtain ⟨rfl, rfl⟩ := f1
      exact .inr ⟨_, _, e, e1, e2, e3, eld_rep h _ _ _ f4 e4, eld_rep h _ _ _ f5 e5⟩
def genB : Blk → Nat
 | .arr g _ _ => g
 | .arrF g _ _ => g
 | _ => 0
theorem blk_gen {c : RC} {p : Pl} {x : Blk} (k : BlkAt c p x) : p.g = genB x := by cases x <;> exact k.1
theorem eldRows {c0 c c' : RC} (h : Eld c0 c c') (sz b : Nat) : ∀ (l : List (List AV)) (off : Nat), (∀ y ∈ l, ∃ b0 o0, RepCs c0 b0 o0 y) → RepEs c sz b off l → RepEs c' sz b off l
 | [], off, h0, r => by simp [RepEs]
 | x :: l, off, h0, r => by
  simp only [RepEs] at r ⊢
  obtain ⟨b0, o0, k⟩ := h0 x (by simp)
  exact ⟨r.1, eldC_rep h b0 b x _ _ k r.2.1, eldRows h sz b l _ (fun y hy => h0 y (by simp [hy])) r.2.2⟩
theorem rows_rep {c : RC} : ∀ {args : List AV} {vs : List Value}, RepL c args vs → ∀ y ∈ A.rowsOf args, ∃ b0 o0, RepCs c b0 o0 y
 | [], _, _, y, hy => by simp [A.rowsOf] at hy
 | a :: args, vs, h, y, hy => by
  simp only [RepL] at h
  obtain ⟨v, vs', rfl, h1, h2⟩ := h
  simp only [A.rowsOf, List.mem_append] at hy
  rcases hy with hy | hy
  ·cases a <;> simp only [List.not_mem_nil] at hy
   rename_i sz es
   simp only [Rep] at h1
   obtain ⟨a, cap, rfl, _, _, h3⟩ := h1
   rcases h3 with h3 | ⟨b, off, _, _, _, h4⟩
   ·rw [h3] at hy; cases hy
   ·obtain ⟨i, hi⟩ := List.mem_iff_getElem?.1 hy
    exact ⟨_, _, (RepEs.nth h4 hi).2⟩
  ·exact rows_rep h2 y hy
theorem frz_all (h : Cold c c' σ n) : ∀ (d : Nat) (av av' : AV) (v : Value), A.frz σ n d av = some av' → Rep c av v → Rep c' av' v
 | 0 => frz_rep h 0 (fun av av' v ho e r => by cases av <;> first | (simp [A.frz] at e; done) | (simp [isOwn] at ho; done))
 | d + 1 => frz_rep h (d + 1) (fun av av' v ho e r => match av, ho, e, r with
  | .op id off, _, e, r => by
   simp only [A.frz] at e
   simp only [Rep] at r
   obtain ⟨p, h1, h2, rfl⟩ := r
   split at e
   ·rename_i hlt
    injection e with e; subst e
    simp only [Rep]
    exact ⟨p, h.E id p hlt h1, h2, rfl⟩
   ·rename_i hge
    split at e
    ·rename_i cs hs
     obtain ⟨cs', e1, rfl⟩ := Option.map_eq_some_iff.1 e
     rw [frzL_eq] at e1
     obtain ⟨j1, ⟨⟨arr, t, j2, j3⟩, j4⟩⟩ := h.heap.blk id p _ h1 hs
     simp only [Rep]
     refine ⟨p.b, off, rfl, by rw [h.w]; exact (Array.getElem?_eq_some_iff.1 j2).1, h.cold id p (by omega) h1, ?_⟩
     have j5 := j4.drop off
     rw [Nat.zero_add] at j5
     exact frzC_rep h d (fun av av' v _ e r => frz_all h d _ _ _ e r) p.b _ cs' _ e1 j5
    ·cases e
  | .oe id g i off, _, e, r => by
   simp only [A.frz] at e
   simp only [Rep] at r
   obtain ⟨hg, p, h1, h2, a, rfl, h3⟩ := r
   split at e
   ·rename_i hlt
    injection e with e; subst e
    simp only [Rep]
    exact ⟨hg, p, h.E id p hlt h1, h2, a, rfl, h3⟩
   ·rename_i hge
    split at e
    ·rename_i g' sz' es hs
     split at e
     ·rename_i hc
      subst hc
      split at e
      ·rename_i el hel
       obtain ⟨cs', e1, rfl⟩ := Option.map_eq_some_iff.1 e
       rw [frzL_eq] at e1
       obtain ⟨j1, j2, j3, j4, ⟨arr, bt, j5, j6⟩, j7, j8, j9⟩ := h.heap.blk id p _ h1 hs
       have ha := h3 j1.symm
       subst ha
       simp only [Rep]
       refine ⟨p.b, _, rfl, by rw [h.w]; exact (Array.getElem?_eq_some_iff.1 j5).1, h.cold id p (by omega) h1, ?_⟩
       rw [j3]
       have j9 := (j8.nth hel).2.drop off
       exact frzC_rep h d (fun av av' v _ e r => frz_all h d _ _ _ e r) p.b _ cs' _ e1 j9
      ·cases e
     ·cases e
    ·cases e
  | .om id, _, e, r => by
   simp only [A.frz] at e
   simp only [Rep] at r
   obtain ⟨p, h1, h2, rfl⟩ := r
   split at e
   ·rename_i hlt
    injection e with e; subst e
    simp only [Rep]
    exact ⟨p, h.E id p hlt h1, h2, rfl⟩
   ·rename_i hge
    split at e
    ·rename_i es hs
     obtain ⟨es', e1, rfl⟩ := Option.map_eq_some_iff.1 e
     rw [frzM_eq] at e1
     obtain ⟨j1, ents, clock, j2, jw, j3⟩ := h.heap.blk id p _ h1 hs
     simp only [Rep]
     exact ⟨p.b, rfl, by rw [h.w]; exact (Array.getElem?_eq_some_iff.1 j2).1, h.cold id p (by omega) h1, ents, clock, by rw [h.w]; exact j2, jw, _, frzM_rep h d (fun av av' v _ e r => frz_all h d _ _ _ e r) _ es' _ e1 j3, .inl rfl⟩
    ·cases e
  | .os id g sz off len, _, e, r => by
   simp only [A.frz] at e
   simp only [Rep] at r
   obtain ⟨hg, p, h1, h2, q, cap, rfl, h3, r⟩ := r
   split at e
   ·rename_i hlt
    injection e with e; subst e
    simp only [Rep]
    exact ⟨hg, p, h.E id p hlt h1, h2, q, cap, rfl, h3, r⟩
   ·rename_i hge
    split at e
    ·rename_i g' sz' es hs
     split at e
     ·rename_i hc
      obtain ⟨rfl, rfl, hle⟩ := hc
      obtain ⟨es', e1, rfl⟩ := Option.map_eq_some_iff.1 e
      rw [frzLL_eq] at e1
      obtain ⟨j1, j2, j3, j4, ⟨arr, bt, j5, j6⟩, j7, j8, j9⟩ := h.heap.blk id p _ h1 hs
      obtain ⟨k1, k2, k3⟩ := r j1.symm
      have hl := frzLL_len d _ _ e1
      have hl2 : ((es.drop off).take len).length = len := by simp; omega
      simp only [Rep]
      refine ⟨some q, cap, by rw [hl, hl2], by rw [hl, hl2]; exact h3, j4, ?_⟩
      by_cases hz : len = 0
      ·left; apply List.eq_nil_of_length_eq_zero; rw [hl, hl2, hz]
      ·right
       have hq : q = ⟨p.b, p.base + off * p.sz, none⟩ := by
        rcases k2 with k2 | k2
        ·omega
        ·exact k2
       refine ⟨p.b, p.base + off * p.sz, by rw [hq], by rw [h.w]; exact (Array.getElem?_eq_some_iff.1 j5).1, h.cold id p (by omega) h1, ?_⟩
       refine frzE_rep h d (fun av av' v _ e r => frz_all h d _ _ _ e r) sz p.b _ es' _ e1 ?_
       rw [j3]
       exact (j8.drop off).take len
     ·cases e
    ·cases e)
end
section
variable {c c' : RC} {σ : Heap} {n : Nat}
theorem perm_rep2 {es es' : List (AV × AV)} (hp : es.Perm es') : ∀ {l : List MapEntry}, RepM c es l → ∃ l', RepM c es' l' ∧ l'.Perm l := by
 induction hp with
 | nil => intro l h; exact ⟨l, h, .refl _⟩
 | cons x _ ih =>
  intro l h
  obtain ⟨e, l1, rfl, h2, h3, h4⟩ := h
  obtain ⟨l', k1, k2⟩ := ih h4
  exact ⟨e :: l', ⟨_, _, rfl, h2, h3, k1⟩, k2.cons e⟩
 | swap x y l0 =>
  intro l h
  obtain ⟨e, l1, rfl, h2, h3, e', l2, rfl, h4, h5, h6⟩ := h
  exact ⟨e' :: e :: l2, ⟨_, _, rfl, h4, h5, _, _, rfl, h2, h3, h6⟩, .swap _ _ _⟩
 | trans _ _ ih1 ih2 =>
  intro l h
  obtain ⟨l1, k1, k2⟩ := ih1 h
  obtain ⟨l2, k3, k4⟩ := ih2 k1
  exact ⟨l2, k3, k4.trans k2⟩
theorem canM_spec (es : List (AV × AV)) : (A.canM es).Perm es := Classical.choose_spec (p := fun l : List (AV × AV) => l.Perm es) ⟨es, .refl _⟩
theorem can_rep {x : AV} {v : Value} (r : Rep c x v) : Rep c (A.can x) v := by
 cases x <;> try exact r
 case fm es =>
  unfold A.can
  simp only
  split
  ·rename_i hd
   simp only [Rep] at r ⊢
   obtain ⟨b, e, hb, hx, ents, clock, k1, kw, l, k2, k3⟩ := r
   have hp := canM_spec es
   obtain ⟨l', j1, j2⟩ := perm_rep2 hp.symm k2
   refine ⟨b, e, hb, hx, ents, clock, k1, kw, l', j1, .inr ⟨?_, ?_⟩⟩
   ·rcases k3 with rfl | ⟨k3, _⟩
    ·exact j2
    ·exact j2.trans k3
   ·exact ⟨fun p hp' => hd.1 p (hp.mem_iff.1 hp'), (hp.map _).nodup_iff.2 hd.2⟩
  ·exact r
theorem canCs_rep {b : Nat} : ∀ {l : List AV} {off : Nat}, RepCs c b off l → RepCs c b off (l.map A.can)
 | [], off, _ => by simp [RepCs]
 | x :: l, off, r => by
  simp only [List.map_cons, RepCs] at r ⊢
  obtain ⟨⟨v, h1, h2, h3⟩, h4⟩ := r
  exact ⟨⟨v, h1, h2, can_rep h3⟩, canCs_rep h4⟩
theorem canEs_rep {sz b : Nat} : ∀ {l : List (List AV)} {off : Nat}, RepEs c sz b off l → RepEs c sz b off (l.map (·.map A.can))
 | [], off, _ => by simp [RepEs]
 | x :: l, off, r => by
  simp only [List.map_cons, RepEs, List.length_map] at r ⊢
  exact ⟨r.1, canCs_rep r.2.1, canEs_rep r.2.2⟩
theorem frzB_rep (h : Cold c c' σ n) {p : Pl} {x x' : Blk} (e : A.frzB σ n x = some x') (k : BlkAt c p x) : BlkAt c' p x' := by
 have hos : ∀ av av' v, isOwn av = true → A.frz σ n 8 av = some av' → Rep c av v → Rep c' av' v := fun av av' v _ e r => frz_all h 8 _ _ _ e r
 cases x with
 | box cs =>
  obtain ⟨cs', e1, rfl⟩ := Option.map_eq_some_iff.1 e
  obtain ⟨h1, ⟨⟨arr, t, h2, h3⟩, h4⟩⟩ := k
  exact ⟨h1, ⟨arr, t, by rw [h.w]; exact h2, by rw [List.length_map, frzL_len 8 _ _ e1]; exact h3⟩, canCs_rep (frzC_rep h 8 hos _ _ _ _ e1 h4)⟩
 | arr g sz es =>
  obtain ⟨es', e1, rfl⟩ := Option.map_eq_some_iff.1 e
  obtain ⟨h1, h2, h3, h4, ⟨arr, t, h5, h6⟩, h7, h8, h9⟩ := k
  exact ⟨h1, h2, h3, h4, ⟨arr, t, by rw [h.w]; exact h5, h6⟩, by rw [List.length_map, frzLL_len 8 _ _ e1]; exact h7, canEs_rep (frzE_rep h 8 hos _ _ _ _ _ e1 h8), fun arr t fz e => h9 arr t fz (by rw [← h.w]; exact e)⟩
 | arrF g sz es =>
  obtain ⟨es', e1, rfl⟩ := Option.map_eq_some_iff.1 e
  obtain ⟨h1, h2, h3, h4, ⟨arr, t, h5, h6⟩, h7, h8, h9⟩ := k
  exact ⟨h1, h2, h3, h4, ⟨arr, t, by rw [h.w]; exact h5, h6⟩, by rw [List.length_map, frzLL_len 8 _ _ e1]; exact h7, canEs_rep (frzE_rep h 8 hos _ _ _ _ _ e1 h8), fun arr t fz e => h9 arr t fz (by rw [← h.w]; exact e)⟩
 | map es =>
  obtain ⟨es', e1, rfl⟩ := Option.map_eq_some_iff.1 e
  obtain ⟨h1, ents, clock, h2, hwf, h3⟩ := k
  exact ⟨h1, ents, clock, by rw [h.w]; exact h2, hwf, frzM_rep h 8 hos _ _ _ e1 h3⟩
 | it cur left => cases e
theorem frzBs_nth {n : Nat} : ∀ {τ0 τ1 τ : Heap}, A.frzBs σ n τ0 τ1 = some τ → τ.length = τ0.length ∧ τ0.length ≤ τ1.length ∧ ∀ (i : Nat) x, τ[i]? = some x → ∃ b b', τ0[i]? = some b ∧ τ1[i]? = some b' ∧ ((b' = b ∧ x = b) ∨ A.frzB σ n b' = some x)
 | [], τ1, τ, h => by simp only [A.frzBs] at h; injection h with h; subst h; simp
 | _ :: _, [], τ, h => by simp [A.frzBs] at h
 | b :: r, b' :: r', τ, h => by
  simp only [A.frzBs] at h
  obtain ⟨y, h1, h2⟩ := Option.bind_eq_some_iff.1 h
  obtain ⟨τ', h3, rfl⟩ := Option.map_eq_some_iff.1 h2
  obtain ⟨k1, k2, k3⟩ := frzBs_nth h3
  refine ⟨by simp [k1], by simp; omega, fun i x hi => ?_⟩
  cases i with
  | zero =>
   simp only [List.getElem?_cons_zero, Option.some.injEq] at hi
   subst hi
   refine ⟨b, b', rfl, rfl, ?_⟩
   split at h1
   ·rename_i e
    injection h1 with h1
    exact .inl ⟨e, h1.symm⟩
   ·exact .inr h1
  | succ i => exact k3 i x hi
end
section
variable {X : Fx}
def Back.Ok : Back → Prop
 | .N g => ∀ c a v, Rep c a v → Rep c (g a) v
 | _ => True
theorem runA_sound (hs : Snd X) {f : FuncId} {fn : Func} {keep : Back} (hkeep : keep.Ok) {ann : Ann} {args : List AV} {σ σ' : Heap} {r : AV} (hf : X.P.funcs[f]? = some fn) (hcall : ∀ aas w, (callFunc f aas).run X.P w = .ok (.enter f aas) w)
  (hr : runA X keep ann fn args σ = some (r, σ')) : ACalls X.P X.nm f args σ r σ' := by
 refine .inl ⟨f, hcall, fun z vs hnm hlt hh ha => ?_⟩
 unfold runA at hr
 cases hb : fn.body with
 | none => rw [hb] at hr; cases hr
 | some c =>
  rw [hb] at hr
  simp only at hr
  cases hc : (Nat.ble args.length fn.ntmps && X.n == fn.ntmps)
  ·rw [hc] at hr; cases hr
  ·rw [hc] at hr
   simp only [Bool.not_true, cond_false] at hr
   simp only [Bool.and_eq_true, beq_iff_eq] at hc
   obtain ⟨hc1, hc2⟩ := hc
   have hle : args.length ≤ fn.ntmps := Nat.le_of_ble_eq_true hc1
   have hal := ha.length
   have hal' : args.length = vs.size := by simpa using hal
   have hst : St X z ⟨args ++ List.replicate (fn.ntmps - args.length) (.tup []), fun _ => none, σ⟩ { tmps := vs ++ Array.replicate (fn.ntmps - vs.size) undef, defers := [] } z.w z.E nopb := by
    have hslot : ∀ i av, (args ++ List.replicate (fn.ntmps - args.length) (.tup []))[i]? = some av → Rep (ctx z z.w z.E nopb) av ((vs ++ Array.replicate (fn.ntmps - vs.size) undef).getD i undef) := by
     intro i av hi
     by_cases hlt' : i < args.length
     ·rw [List.getElem?_append_left hlt'] at hi
      obtain ⟨v, k1, k2⟩ := ha.nth hi
      have : (vs ++ Array.replicate (fn.ntmps - vs.size) undef).getD i undef = v := by
       rw [Array.getD_eq_getD_getElem?, Array.getElem?_append_left (by omega), ← Array.getElem?_toList, k1]; rfl
      rw [this]; exact k2
     ·rw [List.getElem?_append_right (by omega)] at hi
      have hm := List.mem_of_getElem? hi
      rw [List.mem_replicate] at hm
      rw [hm.2]
      have : (vs ++ Array.replicate (fn.ntmps - vs.size) undef).getD i undef = undef := by
       rw [Array.getD_eq_getD_getElem?, Array.getElem?_append_right (by omega), Array.getElem?_replicate]
       split <;> rfl
      rw [this]
      simp only [Rep]; exact ⟨#[], rfl, by simp [RepL]⟩
    refine ⟨by simp; omega, by simp; omega, fun i av hi => Slot.of (hslot i av hi), fun i cs hi => ?_, (fun t p hp => by cases hp), (fun i b hb => by cases hb), (fun i j b hb => by cases hb), hh, rfl, ?_, hnm.symm⟩
    ·have := hslot i _ hi; simp [Rep] at this
    ·exact ⟨rfl, rfl, rfl, Nat.le_refl _, fun _ _ _ => rfl, fun i p hp => .inr ⟨p, hp, rfl⟩, fun i p hp => ⟨p, hp, .inl rfl⟩, hlt, fun p hp => hh.lt hp⟩
   refine calls_of_wp hf hb (exec_wp hs c ann _ _ _ _ _ _ _ _ hr hst fun e s' a' w' E' pb' h' _ hk => ?_)
   have hno : Ext (ctx z w' E' pb') (ctx z w' E' nopb) := Ext.same rfl rfl (fun b k => by
    rcases k with k | k | ⟨i, k⟩
    ·exact .inl k
    ·exact .inr (.inl k)
    ·cases k) rfl
   have finF : ∀ (x : AV) (v : Value) (r : AV) (σ' : Heap), Rep (ctx z w' E' pb') x v → A.fin σ x s'.σ = some (r, σ') → ∃ E'', Out z w' E'' ∧ HeapRel (ctx z w' E'' nopb) σ' ∧ Rep (ctx z w' E'' nopb) r v := by
     intro x v r σ' rv k3
     unfold A.fin at k3
     split at k3
     ·rename_i he
      simp only [Option.some.injEq, Prod.mk.injEq] at k3
      obtain ⟨rfl, rfl⟩ := k3
      exact ⟨E', h'.out, by rw [← he]; exact h'.heap.mono hno rfl (fun p hp => rfl), Rep.mono hno _ _ rv⟩
     ·split at k3
      ·rename_i he
       obtain ⟨r', k6, k7⟩ := Option.map_eq_some_iff.1 k3
       simp only [Prod.mk.injEq] at k7
       obtain ⟨rfl, rfl⟩ := k7
       have hlen := h'.heap.len
       simp only [ctx] at hlen
       have hzl : z.E.length = σ.length := hh.len
       have hle2 : σ.length ≤ s'.σ.length := by
        have := congrArg List.length he
        simp at this; omega
       have htk : ∀ (id : Nat) (p : Pl), id < σ.length → E'[id]? = some p → (E'.take σ.length)[id]? = some p := fun id p hlt' hp => by rw [List.getElem?_take_of_lt hlt']; exact hp
       have htk2 : ∀ (id : Nat) (p : Pl), (E'.take σ.length)[id]? = some p → id < σ.length ∧ E'[id]? = some p := fun id p hp => by
        rw [List.getElem?_take] at hp
        split at hp
        ·exact ⟨by assumption, hp⟩
        ·cases hp
       have hcold : Cold (ctx z w' E' pb') (ctx z w' (E'.take σ.length) nopb) s'.σ σ.length := by
        refine ⟨rfl, rfl, fun b k => ?_, htk, h'.heap, fun id p hge hp k => ?_⟩
        ·rcases k with k | ⟨p, hp, k⟩ | ⟨i, k⟩
         ·exact .inl k
         ·exact .inr (.inl ⟨p, List.mem_of_mem_take hp, k⟩)
         ·cases k
        ·rcases k with k | ⟨q, hq, k⟩ | ⟨i, k⟩
         ·have hb := hlt _ k
          rcases h'.out.fresh' id p hp with e | ⟨q, hq, _⟩
          ·omega
          ·rw [List.getElem?_eq_none (by omega)] at hq; cases hq
         ·obtain ⟨j, hj, rfl⟩ := List.mem_iff_getElem.1 hq
          obtain ⟨h1, h2⟩ := htk2 j _ (List.getElem?_eq_getElem hj)
          have := h'.heap.inj j id _ p h2 hp k
          omega
         ·cases k
       have heq : ∀ (id : Nat), id < σ.length → σ[id]? = s'.σ[id]? := fun id hlt' => by
        have h1 : (List.take σ.length s'.σ)[id]? = s'.σ[id]? := List.getElem?_take_of_lt hlt'
        rw [he] at h1; exact h1
       have held : Eld (ctx z z.w z.E nopb) (ctx z w' E' pb') (ctx z w' (E'.take σ.length) nopb) :=
        ⟨rfl, rfl, hcold.X, fun id p0 p e0 e1 => htk id p (by have := (List.getElem?_eq_some_iff.1 e0).1; simp only [ctx] at this; omega) e1⟩
       refine ⟨E'.take σ.length, ?_, ?_, frz_all hcold 8 _ _ _ k6 rv⟩
       ·have o := h'.out
        exact ⟨o.os, o.tape, o.output, o.size, o.stay, fun i p hp => o.fresh' i p (htk2 i p hp).2, fun i p hp => by
         obtain ⟨p', m1, m2⟩ := o.env i p hp
         exact ⟨p', htk i p' (by have := (List.getElem?_eq_some_iff.1 hp).1; omega) m1, m2⟩, o.lt, o.mine⟩
       ·refine ⟨by simp only [ctx, List.length_take]; omega, fun i j p q hp hq e => h'.heap.inj i j p q (htk2 i p hp).2 (htk2 j q hq).2 e, fun i p x hp hx => ?_⟩
        obtain ⟨hi, hp2⟩ := htk2 i p hp
        have hz0 : z.E[i]? = some z.E[i] := List.getElem?_eq_getElem (by omega)
        exact eldB_rep held (hh.blk i _ x hz0 hx) (h'.heap.blk i p x hp2 (by rw [← heq i hi]; exact hx))
      ·cases k3
   have finG : ∀ (x : AV) (v : Value) (r : AV) (σ' : Heap), Rep (ctx z w' E' pb') x v → A.finG σ x s'.σ = some (r, σ') → ∃ E'', Out z w' E'' ∧ HeapRel (ctx z w' E'' nopb) σ' ∧ Rep (ctx z w' E'' nopb) r v := by
     intro x v r σ' rv k3
     unfold A.finG at k3
     obtain ⟨τ, q0, k4⟩ := Option.bind_eq_some_iff.1 k3
     obtain ⟨r', k6, k7⟩ := Option.map_eq_some_iff.1 k4
     simp only [Prod.mk.injEq] at k7
     obtain ⟨rfl, rfl⟩ := k7
     obtain ⟨q1, hle2, q3⟩ := frzBs_nth q0
     have hlen := h'.heap.len
     simp only [ctx] at hlen
     have hzl : z.E.length = σ.length := hh.len
     have htk : ∀ (id : Nat) (p : Pl), id < σ.length → E'[id]? = some p → (E'.take σ.length)[id]? = some p := fun id p hlt' hp => by rw [List.getElem?_take_of_lt hlt']; exact hp
     have htk2 : ∀ (id : Nat) (p : Pl), (E'.take σ.length)[id]? = some p → id < σ.length ∧ E'[id]? = some p := fun id p hp => by
      rw [List.getElem?_take] at hp
      split at hp
      ·exact ⟨by assumption, hp⟩
      ·cases hp
     have hcold : Cold (ctx z w' E' pb') (ctx z w' (E'.take σ.length) nopb) s'.σ σ.length := by
      refine ⟨rfl, rfl, fun b k => ?_, htk, h'.heap, fun id p hge hp k => ?_⟩
      ·rcases k with k | ⟨p, hp, k⟩ | ⟨i, k⟩
       ·exact .inl k
       ·exact .inr (.inl ⟨p, List.mem_of_mem_take hp, k⟩)
       ·cases k
      ·rcases k with k | ⟨q, hq, k⟩ | ⟨i, k⟩
       ·have hb := hlt _ k
        rcases h'.out.fresh' id p hp with e | ⟨q, hq, _⟩
        ·omega
        ·rw [List.getElem?_eq_none (by omega)] at hq; cases hq
       ·obtain ⟨j, hj, rfl⟩ := List.mem_iff_getElem.1 hq
        obtain ⟨h1, h2⟩ := htk2 j _ (List.getElem?_eq_getElem hj)
        have := h'.heap.inj j id _ p h2 hp k
        omega
       ·cases k
     have held : Eld (ctx z z.w z.E nopb) (ctx z w' E' pb') (ctx z w' (E'.take σ.length) nopb) :=
      ⟨rfl, rfl, hcold.X, fun id p0 p e0 e1 => htk id p (by have := (List.getElem?_eq_some_iff.1 e0).1; simp only [ctx] at this; omega) e1⟩
     refine ⟨E'.take σ.length, ?_, ?_, frz_all hcold 8 _ _ _ k6 rv⟩
     ·have o := h'.out
      exact ⟨o.os, o.tape, o.output, o.size, o.stay, fun i p hp => o.fresh' i p (htk2 i p hp).2, fun i p hp => by
       obtain ⟨p', m1, m2⟩ := o.env i p hp
       exact ⟨p', htk i p' (by have := (List.getElem?_eq_some_iff.1 hp).1; omega) m1, m2⟩, o.lt, o.mine⟩
     ·refine ⟨by simp only [ctx, List.length_take]; omega, fun i j p q hp hq e => h'.heap.inj i j p q (htk2 i p hp).2 (htk2 j q hq).2 e, fun i p x hp hx => ?_⟩
      obtain ⟨hi, hp2⟩ := htk2 i p hp
      obtain ⟨b, b', m1, m2, m3⟩ := q3 i x hx
      rcases m3 with ⟨rfl, rfl⟩ | m3
      ·have hz0 : z.E[i]? = some z.E[i] := List.getElem?_eq_getElem (by omega)
       exact eldB_rep held (hh.blk i _ x hz0 m1) (h'.heap.blk i p x hp2 m2)
      ·exact frzB_rep hcold m3 (h'.heap.blk i p b' hp2 m2)
   have done : ∀ (hk : resA X s' fn.results.toList (fun vs => keep.run args σ (one vs) s'.σ) = some (r, σ')),
     a'.defers = [] ∧ ∃ v, (results fn a'.tmps).run X.P w' = .ok v w' ∧ ∃ v' E', Ending.returned v = .returned v' ∧ Out z w' E' ∧ HeapRel (ctx z w' E' nopb) σ' ∧ Rep (ctx z w' E' nopb) r v' := by
    intro hk
    refine ⟨h'.defers, ?_⟩
    obtain ⟨us, avs, k1, k2, k3⟩ := resA_run h' _ _ _ hk
    obtain ⟨v, k4, k5⟩ := results_run k1
    have rv := k5 _ _ k2
    refine ⟨v, k4, v, ?_⟩
    have kept : ∃ E', Ending.returned v = .returned v ∧ Out z w' E' ∧ HeapRel (ctx z w' E' nopb) s'.σ ∧ Rep (ctx z w' E' nopb) (one avs) v :=
     ⟨E', rfl, h'.out, h'.heap.mono hno rfl (fun p hp => rfl), Rep.mono hno _ _ rv⟩
    cases keep with
    | K =>
     simp only [Back.run, Option.some.injEq, Prod.mk.injEq] at k3
     obtain ⟨rfl, rfl⟩ := k3
     exact kept
    | F =>
     obtain ⟨E'', q1, q2, q3⟩ := finF _ _ _ _ rv k3
     exact ⟨E'', rfl, q1, q2, q3⟩
    | G =>
     obtain ⟨E'', q1, q2, q3⟩ := finG _ _ _ _ rv k3
     exact ⟨E'', rfl, q1, q2, q3⟩
    | N g =>
     simp only [Back.run] at k3
     obtain ⟨⟨r0, σ0⟩, k6, k7⟩ := Option.map_eq_some_iff.1 k3
     simp only [Prod.mk.injEq] at k7
     obtain ⟨rfl, rfl⟩ := k7
     obtain ⟨E'', q1, q2, q3⟩ := finF _ _ _ _ rv k6
     exact ⟨E'', rfl, q1, q2, hkeep _ _ _ q3⟩
    | R =>
     simp only [Back.run] at k3
     obtain ⟨x, hx⟩ : ∃ x, x = one avs := ⟨_, rfl⟩
     rw [← hx] at rv k3 kept
     unfold A.renew at k3
     split at k3
     ·rename_i id g sz off len
      split at k3
      ·rename_i g' sz' es hs'
       split at k3
       ·rename_i hc
        obtain ⟨rfl, rfl, hle, hlt2⟩ := hc
        simp only [Rep] at rv
        obtain ⟨hg, p, e1, e2, qa, cp, rfl, hcap, rx⟩ := rv
        obtain ⟨j1, j2, j3, j4, ⟨arr, bt, j5, j6⟩, j7, j8, j9⟩ := h'.heap.blk id p _ e1 hs'
        obtain ⟨q1, q2, q3⟩ := rx j1.symm
        have hid : id < E'.length := (List.getElem?_eq_some_iff.1 e1).1
        have hdl : ((es.drop off).take len).length = len := by simp; omega
        have hmul : (off + len) * sz ≤ es.length * sz := Nat.mul_le_mul_right _ hle
        rw [Nat.add_mul] at hmul
        split at k3
        ·simp only [Option.some.injEq, Prod.mk.injEq] at k3
         obtain ⟨rfl, rfl⟩ := k3
         have hmv := h'.move (id := id) (p := p) (p' := ⟨p.b, p.base + off * sz, A.gen args + 1, sz, p.csz⟩) (w' := w') (blk := .arr (A.gen args + 1) sz ((es.drop off).take len)) e1
          ⟨by omega, by show p.g < A.gen args + 1; omega⟩ rfl rfl rfl (Nat.le_refl _) (fun b _ _ => rfl) (.inl rfl) (fun hx => by
           refine ⟨rfl, by show 0 < A.gen args + 1; omega, rfl, j4, ⟨arr, bt, j5, j6⟩, ?_, ?_, j9⟩
           ·rw [hdl]; show p.base + off * sz + len * sz ≤ p.csz; omega
           ·exact RepEs.mono hx sz p.b rfl _ _ ((j8.drop off).take len))
         have hno2 : Ext (ctx z w' (E'.set id ⟨p.b, p.base + off * sz, A.gen args + 1, sz, p.csz⟩) pb') (ctx z w' (E'.set id ⟨p.b, p.base + off * sz, A.gen args + 1, sz, p.csz⟩) nopb) := Ext.same rfl rfl (fun b k => by
          rcases k with k | k | ⟨i, k⟩
          ·exact .inl k
          ·exact .inr (.inl k)
          ·cases k) rfl
         refine ⟨_, rfl, hmv.1.out, hmv.1.heap.mono hno2 rfl (fun p hp => rfl), ?_⟩
         simp only [Rep]
         refine ⟨by omega, ⟨p.b, p.base + off * sz, A.gen args + 1, sz, p.csz⟩, by simp [ctx, hid], Nat.le_refl _, qa, cp, rfl, hcap, fun _ => ⟨rfl, ?_, ?_⟩⟩
         ·rcases q2 with q2 | q2
          ·exact .inl q2
          ·exact .inr (by rw [q2, q1]; simp)
         ·simp only [Nat.zero_add]
          rw [q1, Nat.add_mul] at q3; omega
        ·unfold A.merge at k3
         split at k3
         ·rename_i id0 g0 sz00 off0 len0 rest _ _ _
          split at k3
          ·rename_i g1 sz1 es1 hs0
           split at k3
           ·rename_i hcond
            obtain ⟨hidn, hlenn, rfl, hg1, hsame, hF, hseg⟩ := hcond
            simp only [Option.some.injEq, Prod.mk.injEq] at k3
            obtain ⟨rfl, rfl⟩ := k3
            have hzl : z.E.length = σ.length := hh.len
            have hEl : E'.length = s'.σ.length := h'.heap.len
            have hid0 : id0 < σ.length := (List.getElem?_eq_some_iff.1 hs0).1
            obtain ⟨pz, hpz⟩ : ∃ pz, z.E[id0]? = some pz := ⟨_, List.getElem?_eq_getElem (by omega)⟩
            obtain ⟨y1, y2, y3, y4, y5, y6, y7, y8⟩ := hh.blk id0 pz _ hpz hs0
            obtain ⟨p'', hp''⟩ : ∃ p'' : Pl, p'' = ⟨p.b, p.base + off * sz1, A.gen (.os id0 g0 sz00 off0 len0 :: rest) + 1, sz1, p.csz⟩ := ⟨_, rfl⟩
            have hne : id ≠ id0 := by omega
            have hgen0 : ∀ (j : Nat) (q p2 : Pl), j ≠ id0 → z.E[j]? = some q → E'[j]? = some p2 → p2 = q := by
             intro j q p2 hj hq hp2
             have hjl : j < σ.length := by rw [← hzl]; exact (List.getElem?_eq_some_iff.1 hq).1
             obtain ⟨p3, m1, m2⟩ := h'.out.env j q hq
             rw [hp2] at m1; injection m1 with m1; subst m1
             rcases m2 with m2 | ⟨m2, m3⟩
             ·exact m2
             ·have hsj := hsame j hjl hj
              have hx0 : σ[j]? = some σ[j] := List.getElem?_eq_getElem hjl
              have u1 := blk_gen (hh.blk j q _ hq hx0)
              have u2 := blk_gen (h'.heap.blk j p2 _ hp2 (by rw [hsj]; exact hx0))
              omega
            have hp0 : ∃ p0, E'[id0]? = some p0 := ⟨_, List.getElem?_eq_getElem (by omega)⟩
            obtain ⟨p0, hp0⟩ := hp0
            have hp0g : p0.g = g1 := blk_gen (h'.heap.blk id0 p0 _ hp0 hF)
            have hfr : z.w.heap.size ≤ p.b := by
             rcases h'.out.fresh' id p e1 with k | ⟨q, hq, _⟩
             ·exact k
             ·rw [List.getElem?_eq_none (by omega)] at hq; cases hq
            have hm : p ∈ E' := List.mem_of_getElem? e1
            have hx : Ext (ctx z w' E' pb') (ctx z w' (E'.set id0 p'') nopb) := by
             refine ⟨Nat.le_refl _, fun b hb hn => ⟨rfl, ?_⟩, fun j q hq => ?_, rfl⟩
             ·rintro (k | ⟨q, hq, k⟩ | ⟨i, k⟩)
              ·exact hn (.inl k)
              ·rcases List.mem_or_eq_of_mem_set hq with hq | hq
               ·exact hn (.inr (.inl ⟨q, hq, k⟩))
               ·exact hn (.inr (.inl ⟨p, hm, by rw [← k, hq, hp'']⟩))
              ·cases k
             ·by_cases e : id0 = j
              ·subst e
               simp only [ctx] at hq
               rw [hp0] at hq; injection hq with hq; subst hq
               exact ⟨p'', by simp only [ctx]; rw [List.getElem?_set_self (List.getElem?_eq_some_iff.1 hp0).1], .inr ⟨by omega, by rw [hp'']; show p0.g < A.gen (.os id0 g0 sz00 off0 len0 :: rest) + 1; omega⟩⟩
              ·exact ⟨q, by simp only [ctx] at hq ⊢; rw [List.getElem?_set_ne e]; exact hq, .inl rfl⟩
            have hE2 : ∀ (j : Nat) (q : Pl), (z.E.set id0 p'')[j]? = some q → (j = id0 ∧ q = p'') ∨ (j ≠ id0 ∧ z.E[j]? = some q) := fun j q hq => by
             by_cases e : id0 = j
             ·subst e; rw [List.getElem?_set_self (List.getElem?_eq_some_iff.1 hpz).1] at hq; injection hq with hq; exact .inl ⟨rfl, hq.symm⟩
             ·rw [List.getElem?_set_ne e] at hq; exact .inr ⟨fun e' => e e'.symm, hq⟩
            have hE3 : ∀ (j : Nat) (q : Pl), j ≠ id0 → z.E[j]? = some q → E'[j]? = some q := fun j q hj hq => by
             have hjl : j < z.E.length := (List.getElem?_eq_some_iff.1 hq).1
             obtain ⟨p3, m1, _⟩ := h'.out.env j q hq
             rw [m1, hgen0 j q p3 hj hq m1]
            have held : Eld (ctx z z.w z.E nopb) (ctx z w' (E'.set id0 p'') nopb) (ctx z w' (z.E.set id0 p'') nopb) := by
             refine ⟨rfl, rfl, fun b k => ?_, fun j q0 q hq0 hq => ?_⟩
             ·rcases k with k | ⟨q, hq, k⟩ | ⟨i, k⟩
              ·exact .inl k
              ·obtain ⟨j, hj⟩ := List.mem_iff_getElem?.1 hq
               rcases hE2 j q hj with ⟨e3, e4⟩ | ⟨e3, e4⟩
               ·subst e3; exact .inr (.inl ⟨q, List.mem_of_getElem? (i := j) (by rw [List.getElem?_set_self (List.getElem?_eq_some_iff.1 hp0).1, e4]), k⟩)
               ·exact .inr (.inl ⟨q, List.mem_of_getElem? (i := j) (by rw [List.getElem?_set_ne (fun e => e3 e.symm)]; exact hE3 j q e3 e4), k⟩)
              ·cases k
             ·simp only [ctx] at hq0 hq ⊢
              by_cases e : id0 = j
              ·subst e
               rw [List.getElem?_set_self (List.getElem?_eq_some_iff.1 hp0).1] at hq
               rw [List.getElem?_set_self (List.getElem?_eq_some_iff.1 hpz).1]; exact hq
              ·rw [List.getElem?_set_ne e] at hq ⊢
               rw [hgen0 j q0 q (fun e' => e e'.symm) hq0 hq]; exact hq0
            refine ⟨z.E.set id0 p'', rfl, ?_, ?_, ?_⟩
            ·have o := h'.out
             refine ⟨o.os, o.tape, o.output, o.size, o.stay, fun j q hq => ?_, fun j q hq => ?_, o.lt, o.mine⟩
             ·rcases hE2 j q hq with ⟨e3, e4⟩ | ⟨e3, e4⟩
              ·left; rw [e4, hp'']; exact hfr
              ·exact .inr ⟨q, e4, rfl⟩
             ·by_cases e : id0 = j
              ·subst e
               rw [hpz] at hq; injection hq with hq; subst hq
               exact ⟨p'', List.getElem?_set_self (List.getElem?_eq_some_iff.1 hpz).1, .inr ⟨by omega, by rw [hp'']; show pz.g < A.gen (.os id0 g0 sz00 off0 len0 :: rest) + 1; omega⟩⟩
              ·exact ⟨q, by rw [List.getElem?_set_ne e]; exact hq, .inl rfl⟩
            ·refine ⟨by simp [ctx, hzl], fun i j q r hq hr he => ?_, fun i q x hq hxx => ?_⟩
             ·have hlt0 : ∀ (j : Nat) (q : Pl), z.E[j]? = some q → q.b < z.w.heap.size := fun j q hq => hh.lt (p := q) (List.mem_of_getElem? hq)
              rcases hE2 i q hq with ⟨e3, e4⟩ | ⟨e3, e4⟩ <;> rcases hE2 j r hr with ⟨e5, e6⟩ | ⟨e5, e6⟩
              ·rw [e3, e5]
              ·have := hlt0 j r e6; rw [e4, hp''] at he; simp only at he; omega
              ·have := hlt0 i q e4; rw [e6, hp''] at he; simp only at he; omega
              ·exact hh.inj i j q r e4 e6 he
             ·rcases hE2 i q hq with ⟨e3, e4⟩ | ⟨e3, e4⟩
              ·subst e3
               rw [List.getElem?_set_self hid0] at hxx
               injection hxx with hxx
               subst hxx; subst e4; subst hp''
               refine ⟨rfl, Nat.succ_pos _, rfl, j4, ⟨arr, bt, j5, j6⟩, ?_, ?_, j9⟩
               ·rw [hdl]; show p.base + off * sz1 + len * sz1 ≤ p.csz; omega
               ·refine eldRows held sz1 p.b _ _ (fun y hy => ?_) (RepEs.mono hx sz1 p.b rfl _ _ ((j8.drop off).take len))
                rcases hseg y hy with k | k
                ·obtain ⟨i, hi⟩ := List.mem_iff_getElem?.1 k
                 exact ⟨_, _, (RepEs.nth y7 hi).2⟩
                ·exact rows_rep ha y k
              ·rw [List.getElem?_set_ne (fun e => e3 e.symm)] at hxx
               have hil : i < σ.length := (List.getElem?_eq_some_iff.1 hxx).1
               exact eldB_rep held (hh.blk i q x e4 hxx) ((h'.heap.blk i q x (hE3 i q e3 e4) (by rw [hsame i hil e3]; exact hxx)).mono hx rfl)
            ·simp only [Rep]
             refine ⟨Nat.succ_pos _, p'', by simp only [ctx]; exact List.getElem?_set_self (List.getElem?_eq_some_iff.1 hpz).1, by rw [hp'']; exact Nat.le_refl _, qa, cp, by rw [hdl], by rw [hdl]; exact hcap, fun _ => ⟨by rw [hp''], ?_, ?_⟩⟩
             ·rcases q2 with q2 | q2
              ·exact .inl q2
              ·exact .inr (by rw [q2, q1, hp'']; simp)
             ·rw [hp'']
              simp only [Nat.zero_add]
              rw [q1, Nat.add_mul] at q3; omega
           ·cases k3
          ·cases k3
         ·cases k3
       ·cases k3
      ·cases k3
     ·simp only [Option.some.injEq, Prod.mk.injEq] at k3
      obtain ⟨rfl, rfl⟩ := k3
      exact kept
     ·simp only [Option.some.injEq, Prod.mk.injEq] at k3
      obtain ⟨rfl, rfl⟩ := k3
      exact kept
     ·simp only [Option.some.injEq, Prod.mk.injEq] at k3
      obtain ⟨rfl, rfl⟩ := k3
      exact kept
     ·cases k3
   cases e with
   | normal => exact done hk
   | ret => exact done hk
   | exit i => cases hk
end
end Go.Proofs.YtfalbgflabajbaaDoor

namespace Go.Proofs.YtfalbgflabajbaaDoor
set_option linter.unusedSectionVars false
open Go.RowKit
set_option linter.unusedVariables false
set_option linter.unusedSimpArgs false

inductive Sh where
 | k
 | s (sz : Nat)
 | e (sz : Nat) (l : List Sh)
 | a (l : List Sh)
 | t (l : List Sh)
 | p (l : List Sh)
namespace A
set_option linter.unusedSectionVars false
mutual
def nn : Sh → AV → AV
 | .k, v => v
 | .s sz, v => match v with | .nsl => .sl sz [] | .ez => .sl sz [] | v => v
 | .e sz l, v => match v with | .nsl => .sl sz [] | .ez => .sl sz [] | .sl sz' es => .sl sz' (es.map (nnL l)) | v => v
 | .a l, v => match v with | .agg cs => .agg (nnL l cs) | v => v
 | .t l, v => match v with | .tup vs => .tup (nnL l vs) | v => v
 | .p l, v => match v with | .rp cs => .rp (nnL l cs) | v => v
def nnL : List Sh → List AV → List AV
 | [], vs => vs
 | s :: ss, vs => match vs with | [] => [] | v :: vs => nn s v :: nnL ss vs
end
def own1 : AV → Bool
 | .os .. => true
 | .op .. => true
 | .oe .. => true
 | .om .. => true
 | _ => false
def own : AV → Bool
 | .agg cs => cs.any own1
 | v => own1 v
def scal1 : AV → Bool
 | .int .. => true
 | .bool .. => true
 | .str .. => true
 | .np => true
 | .nsl => true
 | .ez => true
 | .nm => true
 | .nfn => true
 | .sl _ [] => true
 | _ => false
def scal2 : AV → Bool
 | .agg cs => cs.all scal1
 | v => scal1 v
def scal : AV → Bool
 | .tup vs => vs.all scal2
 | v => scal2 v
def fresh (v : AV) : Bool := match v with
 | .os .. => true
 | .om _ => true
 | v => scal2 v
def freshT : AV → Bool
 | .tup vs => vs.all fresh
 | v => fresh v
def freshB : Blk → Bool
 | .box cs => cs.all scal1
 | .arr _ _ es => es.all fun e => e.all scal1
 | .map es => es.all fun p => scal2 p.1 && scal2 p.2
 | _ => false
def shift (n : Nat) (v : AV) : AV := match v with
 | .os id g sz off len => .os (id + n) g sz off len
 | .om id => .om (id + n)
 | v => v
def shiftT (n : Nat) : AV → AV
 | .tup vs => .tup (vs.map (shift n))
 | v => shift n v
noncomputable def wrap (ro : Bool) (ain : List Sh) (rout : Sh) (r : List AV → Heap → Option (AV × Heap)) (args : List AV) (σ : Heap) : Option (AV × Heap) :=
 bif ro && args.any own then
  (frzL σ 0 8 args).bind fun args => (r (nnL ain args) []).bind fun q => bif freshT (nn rout q.1) && q.2.all freshB then some (shiftT σ.length (nn rout q.1), σ ++ q.2) else none
 else (r (nnL ain args) σ).map fun q => (nn rout q.1, q.2)
end A

def Sound (P : Program) (nm : List Nat) (f : FuncId) (m : List AV → Heap → Option (AV × Heap)) : Prop := ∀ args σ r σ', m args σ = some (r, σ') → ACalls P nm f args σ r σ'
section
variable {P : Program} {nm : List Nat} {f : FuncId} {c c' : RC}
theorem nsl_sl {v : Value} (sz : Nat) (hsz : 0 < sz) (h : Rep c .nsl v) : Rep c (.sl sz []) v := by
 simp only [Rep] at h ⊢
 subst h
 exact ⟨none, 0, rfl, Nat.le_refl _, hsz, .inl trivial⟩
theorem ez_sl {v : Value} (sz : Nat) (hsz : 0 < sz) (h : Rep c .ez v) : Rep c (.sl sz []) v := by
 simp only [Rep] at h ⊢
 obtain ⟨a, rfl⟩ := h
 exact ⟨a, 0, rfl, Nat.le_refl _, hsz, .inl trivial⟩
mutual
def Sh.ok : Sh → Bool
 | .k => true
 | .s sz => Nat.blt 0 sz
 | .e sz l => Nat.blt 0 sz && Sh.okL l
 | .a l => Sh.okL l
 | .t l => Sh.okL l
 | .p l => Sh.okL l
def Sh.okL : List Sh → Bool
 | [] => true
 | x :: l => x.ok && Sh.okL l
end
theorem nnL_len : ∀ (l : List Sh) (cs : List AV), (A.nnL l cs).length = cs.length
 | [], cs => by simp [A.nnL]
 | _ :: _, [] => by simp [A.nnL]
 | o :: l, v :: cs => by simp [A.nnL, nnL_len l cs]
mutual
theorem nn_rep : ∀ (s : Sh) (a : AV) (v : Value), s.ok = true → Rep c a v → Rep c (A.nn s a) v
 | .k, a, v, _, h => by simpa [A.nn] using h
 | .s sz, a, v, ho, h => by
  cases a <;> simp only [A.nn] <;> first | exact h | exact nsl_sl sz (by simpa [Sh.ok] using ho) h | exact ez_sl sz (by simpa [Sh.ok] using ho) h
 | .e sz l, a, v, ho, h => by
  simp only [Sh.ok, Bool.and_eq_true] at ho
  cases a <;> simp only [A.nn] <;> first | exact h | exact nsl_sl sz (by simpa using ho.1) h | exact ez_sl sz (by simpa using ho.1) h | skip
  simp only [Rep] at h ⊢
  obtain ⟨a, cap, e, h1, h2, h3⟩ := h
  refine ⟨a, cap, by rw [List.length_map]; exact e, by rw [List.length_map]; exact h1, h2, ?_⟩
  rcases h3 with h3 | ⟨b, off, e1, e2, e3, e4⟩
  ·left; rw [h3]; rfl
  ·right; exact ⟨b, off, e1, e2, e3, nnL_es l ho.2 _ _ e4⟩
 | .a l, a, v, ho, h => by
  simp only [Sh.ok] at ho
  cases a <;> simp only [A.nn] <;> first | exact h | skip
  simp only [Rep] at h ⊢
  obtain ⟨vs, e, h1, h2⟩ := h
  exact ⟨vs, e, nnL_rep l _ _ ho h1, h2⟩
 | .t ss, a, v, ho, h => by
  simp only [Sh.ok] at ho
  cases a <;> simp only [A.nn] <;> first | exact h | skip
  simp only [Rep] at h ⊢
  obtain ⟨vs, e, h1⟩ := h
  exact ⟨vs, e, nnL_rep ss _ _ ho h1⟩
 | .p l, a, v, ho, h => by
  simp only [Sh.ok] at ho
  cases a <;> simp only [A.nn] <;> first | exact h | skip
  simp only [Rep] at h ⊢
  obtain ⟨b, off, e, h1, h2, h3⟩ := h
  exact ⟨b, off, e, h1, h2, nnL_cs l _ _ ho h3⟩
theorem nnL_rep : ∀ (ss : List Sh) (l : List AV) (vs : List Value), Sh.okL ss = true → RepL c l vs → RepL c (A.nnL ss l) vs
 | [], l, vs, _, h => by simpa [A.nnL] using h
 | _ :: _, [], vs, _, h => by simpa [A.nnL] using h
 | s :: ss, a :: l, vs, ho, h => by
  simp only [Sh.okL, Bool.and_eq_true] at ho
  simp only [A.nnL, RepL] at h ⊢
  obtain ⟨v, vs', e, h1, h2⟩ := h
  exact ⟨v, vs', e, nn_rep s a v ho.1 h1, nnL_rep ss l vs' ho.2 h2⟩
theorem nnL_cs {b : Nat} : ∀ (l : List Sh) (cs : List AV) (off : Nat), Sh.okL l = true → RepCs c b off cs → RepCs c b off (A.nnL l cs)
 | [], cs, off, _, h => by simpa [A.nnL] using h
 | _ :: _, [], off, _, h => by simpa [A.nnL] using h
 | o :: l, a :: cs, off, ho, h => by
  simp only [Sh.okL, Bool.and_eq_true] at ho
  simp only [A.nnL, RepCs] at h ⊢
  obtain ⟨⟨v, h1, h2, h3⟩, h4⟩ := h
  exact ⟨⟨v, h1, h2, nn_rep o a v ho.1 h3⟩, nnL_cs l cs (off + 1) ho.2 h4⟩
theorem nnL_es {sz b : Nat} (l : List Sh) (hl : Sh.okL l = true) : ∀ (es : List (List AV)) (off : Nat), RepEs c sz b off es → RepEs c sz b off (es.map (A.nnL l))
 | [], off, h => by simp [RepEs]
 | e :: es, off, h => by
  simp only [List.map_cons, RepEs] at h ⊢
  exact ⟨by rw [nnL_len]; exact h.1, nnL_cs l e off hl h.2.1, nnL_es l hl es _ h.2.2⟩
end
theorem scal1_rep : ∀ {a : AV} {v : Value}, A.scal1 a = true → Rep c a v → Rep c' a v := by
 intro a v h r
 cases a <;> simp only [A.scal1] at h <;> first | (cases h; done) | skip
 case sl sz es =>
  cases es with
  | nil =>
   simp only [Rep] at r ⊢
   obtain ⟨q, cap, e, h1, h2, _⟩ := r
   exact ⟨q, cap, e, h1, h2, .inl trivial⟩
  | cons _ _ => simp at h
 all_goals simpa [Rep] using r
theorem scal1L_rep : ∀ {l : List AV} {vs : List Value}, l.all A.scal1 = true → RepL c l vs → RepL c' l vs
 | [], vs, _, r => by simpa [RepL] using r
 | a :: l, vs, h, r => by
  simp only [List.all_cons, Bool.and_eq_true] at h
  simp only [RepL] at r ⊢
  obtain ⟨v, vs', e, h1, h2⟩ := r
  exact ⟨v, vs', e, scal1_rep h.1 h1, scal1L_rep h.2 h2⟩
theorem scal2_rep {a : AV} {v : Value} (h : A.scal2 a = true) (r : Rep c a v) : Rep c' a v := by
 unfold A.scal2 at h
 split at h
 ·simp only [Rep] at r ⊢
  obtain ⟨vs, e, h1, h2⟩ := r
  exact ⟨vs, e, scal1L_rep h h1, h2⟩
 ·exact scal1_rep h r
theorem ACalls.conv {args args' : List AV} {σ σ' : Heap} {r r' : AV} (h : ACalls P nm f args' σ r σ') (ha : ∀ c vs, RepL c args vs → RepL c args' vs) (hr : ∀ c v, Rep c r v → Rep c r' v) : ACalls P nm f args σ r' σ' := by
 rcases h with ⟨g, h1, h2⟩ | h
 ·refine .inl ⟨g, h1, fun z vs e1 e2 e3 e4 => (h2 z vs e1 e2 e3 (ha _ _ e4)).mono ?_⟩
  rintro e w' ⟨v, E', k1, k2, k3, k4⟩
  exact ⟨v, E', k1, k2, k3, hr _ _ k4⟩
 ·refine .inr fun z vs e1 e2 e3 e4 => ?_
  obtain ⟨v, w', E', k1, k2, k3, k4⟩ := h z vs e1 e2 e3 (ha _ _ e4)
  exact ⟨v, w', E', k1, k2, k3, hr _ _ k4⟩
theorem shift_rep {z0 z : Z} {w' : World} {E' : List Pl} {n : Nat} (hn : n = z.E.length) {a : AV} {v : Value} (h : A.fresh a = true) (r : Rep (ctx z0 w' E' nopb) a v) : Rep (ctx z w' (z.E ++ E') nopb) (A.shift n a) v := by
 have key : ∀ (id : Nat) (p : Pl), E'[id]? = some p → (z.E ++ E')[id + n]? = some p := fun id p hp => by
  rw [List.getElem?_append_right (by omega), hn, Nat.add_sub_cancel]; exact hp
 unfold A.fresh at h
 unfold A.shift
 split at h
 ·simp only [Rep] at r ⊢
  obtain ⟨hg, p, h1, h2, r⟩ := r
  exact ⟨hg, p, key _ _ h1, h2, r⟩
 ·simp only [Rep] at r ⊢
  obtain ⟨p, h1, h2, r⟩ := r
  exact ⟨p, key _ _ h1, h2, r⟩
 ·exact scal2_rep h r
theorem shiftT_rep' {z0 z : Z} {w' : World} {E' : List Pl} {n : Nat} (hn : n = z.E.length) {vs : List AV} {v : Value} (h : vs.all A.fresh = true) (r : Rep (ctx z0 w' E' nopb) (.tup vs) v) : Rep (ctx z w' (z.E ++ E') nopb) (A.shiftT n (.tup vs)) v := by
 simp only [Rep, A.shiftT] at r ⊢
 obtain ⟨us, rfl, r⟩ := r
 refine ⟨us, rfl, ?_⟩
 generalize us.toList = us' at r ⊢
 induction vs generalizing us' with
 | nil => simpa [RepL] using r
 | cons x l ih =>
  simp only [List.all_cons, Bool.and_eq_true] at h
  simp only [RepL, List.map_cons] at r ⊢
  obtain ⟨v, vs', e, h1, h2⟩ := r
  exact ⟨v, vs', e, shift_rep hn h.1 h1, ih h.2 _ h2⟩
theorem shiftT_rep {z0 z : Z} {w' : World} {E' : List Pl} {n : Nat} (hn : n = z.E.length) {a : AV} {v : Value} (h : A.freshT a = true) (r : Rep (ctx z0 w' E' nopb) a v) : Rep (ctx z w' (z.E ++ E') nopb) (A.shiftT n a) v := by
 by_cases ht : ∃ vs, a = .tup vs
 ·obtain ⟨vs, rfl⟩ := ht
  exact shiftT_rep' hn h r
 ·have e1 : A.freshT a = A.fresh a := by cases a <;> first | rfl | exact absurd ⟨_, rfl⟩ ht
  have e2 : A.shiftT n a = A.shift n a := by cases a <;> first | rfl | exact absurd ⟨_, rfl⟩ ht
  rw [e1] at h
  rw [e2]
  exact shift_rep hn h r
theorem scal1Cs_rep {b : Nat} : ∀ {l : List AV} {off : Nat}, l.all A.scal1 = true → c'.w = c.w → RepCs c b off l → RepCs c' b off l
 | [], off, _, _, _ => by simp [RepCs]
 | a :: l, off, h, hw, r => by
  simp only [List.all_cons, Bool.and_eq_true] at h
  simp only [RepCs] at r ⊢
  obtain ⟨⟨v, h1, h2, h3⟩, h4⟩ := r
  exact ⟨⟨v, by rw [hw]; exact h1, h2, scal1_rep h.1 h3⟩, scal1Cs_rep h.2 hw h4⟩
theorem scal1Es_rep {sz b : Nat} : ∀ {l : List (List AV)} {off : Nat}, (l.all fun e => e.all A.scal1) = true → c'.w = c.w → RepEs c sz b off l → RepEs c' sz b off l
 | [], off, _, _, _ => by simp [RepEs]
 | a :: l, off, h, hw, r => by
  simp only [List.all_cons, Bool.and_eq_true] at h
  simp only [RepEs] at r ⊢
  obtain ⟨h1, h2, h3⟩ := r
  exact ⟨h1, scal1Cs_rep h.1 hw h2, scal1Es_rep h.2 hw h3⟩
theorem scal2M_rep : ∀ {l : List (AV × AV)} {es : List MapEntry}, (l.all fun p => A.scal2 p.1 && A.scal2 p.2) = true → RepM c l es → RepM c' l es
 | [], es, _, r => by simpa [RepM] using r
 | (k, v) :: l, es, h, r => by
  simp only [List.all_cons, Bool.and_eq_true] at h
  simp only [RepM] at r ⊢
  obtain ⟨e, es', h1, h2, h3, h4⟩ := r
  exact ⟨e, es', h1, scal2_rep h.1.1 h2, scal2_rep h.1.2 h3, scal2M_rep h.2 h4⟩
theorem freshB_rep {p : Pl} {x : Blk} (h : A.freshB x = true) (hw : c'.w = c.w) (r : BlkAt c p x) : BlkAt c' p x := by
 cases x with
 | box cs =>
  obtain ⟨h1, ⟨⟨arr, t, h2, h3⟩, h4⟩⟩ := r
  exact ⟨h1, ⟨arr, t, by rw [hw]; exact h2, h3⟩, scal1Cs_rep h hw h4⟩
 | arr g sz es =>
  obtain ⟨h1, h2, h3, h4, ⟨arr, t, h5, h6⟩, h7, h8, h9⟩ := r
  exact ⟨h1, h2, h3, h4, ⟨arr, t, by rw [hw]; exact h5, h6⟩, h7, scal1Es_rep h hw h8, fun arr t fz e => h9 arr t fz (by rw [← hw]; exact e)⟩
 | map es =>
  obtain ⟨h1, ents, clock, h2, hwf, h3⟩ := r
  exact ⟨h1, ents, clock, by rw [hw]; exact h2, hwf, scal2M_rep h h3⟩
 | arrF g sz es => cases h
 | it cur left => cases h
theorem lent_out {z : Z} {σ σ' : Heap} {r : AV} {v : Value} {w' : World} {E' : List Pl} (e2 : ZLt z) (hh : HeapRel (ctx z z.w z.E nopb) σ) (hv : A.freshT r = true) (hb : σ'.all A.freshB = true)
  (k2 : Out ⟨z.w, [], fun _ => False, z.nm⟩ w' E') (k3 : HeapRel (ctx ⟨z.w, [], fun _ => False, z.nm⟩ w' E' nopb) σ') (k4 : Rep (ctx ⟨z.w, [], fun _ => False, z.nm⟩ w' E' nopb) r v) :
  ∃ E'', Out z w' E'' ∧ HeapRel (ctx z w' E'' nopb) (σ ++ σ') ∧ Rep (ctx z w' E'' nopb) (A.shiftT σ.length r) v := by
 have hlen : z.E.length = σ.length := hh.len
 have hlen' : E'.length = σ'.length := k3.len
 have hst : ∀ b, b < z.w.heap.size → w'.heap[b]? = z.w.heap[b]? := fun b hb => k2.stay b hb (fun p hp => by cases hp)
 have hlt : ∀ p ∈ z.E, p.b < z.w.heap.size := fun p hp => hh.lt hp
 have hfr : ∀ p ∈ E', z.w.heap.size ≤ p.b := fun p hp => by
  rcases k2.fresh p hp with k | ⟨q, hq, _⟩
  ·exact k
  ·cases hq
 have hx : Ext (ctx z z.w z.E nopb) (ctx z w' (z.E ++ E') nopb) := by
  refine ⟨k2.size, fun b hb hn => ⟨hst b hb, ?_⟩, fun i p hp => ⟨p, ?_, .inl rfl⟩, rfl⟩
  ·rintro (k | ⟨p, hp, k⟩ | ⟨i, k⟩)
   ·exact hn (.inl k)
   ·rcases List.mem_append.1 hp with hp | hp
    ·exact hn (.inr (.inl ⟨p, hp, k⟩))
    ·have := hfr p hp; simp only [ctx] at hb; omega
   ·cases k
  ·simp only [ctx] at hp ⊢
   rw [List.getElem?_append_left (List.getElem?_eq_some_iff.1 hp).1]; exact hp
 have key : ∀ (i : Nat) (p : Pl), (z.E ++ E')[i]? = some p → (i < z.E.length ∧ z.E[i]? = some p) ∨ (z.E.length ≤ i ∧ E'[i - z.E.length]? = some p) := fun i p hp => by
  by_cases hi : i < z.E.length
  ·rw [List.getElem?_append_left hi] at hp; exact .inl ⟨hi, hp⟩
  ·rw [List.getElem?_append_right (by omega)] at hp; exact .inr ⟨by omega, hp⟩
 refine ⟨z.E ++ E', ⟨k2.os, k2.tape, k2.output, k2.size, fun b hb _ => hst b hb, fun i p hp => ?_, fun i p hp => ⟨p, ?_, .inl rfl⟩, e2, hlt⟩, ⟨by simp [ctx, hlen, hlen'], fun i j p q hp hq e => ?_, fun i p x hp hxx => ?_⟩, shiftT_rep hlen.symm hv k4⟩
 ·rcases key i p hp with ⟨_, k⟩ | ⟨_, k⟩
  ·exact .inr ⟨p, k, rfl⟩
  ·exact .inl (hfr p (List.mem_of_getElem? k))
 ·rw [List.getElem?_append_left (List.getElem?_eq_some_iff.1 hp).1]; exact hp
 ·simp only [ctx] at hp hq
  rcases key i p hp with ⟨i1, k⟩ | ⟨i1, k⟩ <;> rcases key j q hq with ⟨j1, m⟩ | ⟨j1, m⟩
  ·exact hh.inj i j p q k m e
  ·have := hlt p (List.mem_of_getElem? k); have := hfr q (List.mem_of_getElem? m); omega
  ·have := hlt q (List.mem_of_getElem? m); have := hfr p (List.mem_of_getElem? k); omega
  ·have := k3.inj _ _ p q k m e; omega
 ·simp only [ctx] at hp
  rcases key i p hp with ⟨i1, k⟩ | ⟨i1, k⟩
  ·rw [List.getElem?_append_left (by omega)] at hxx
   exact (hh.blk i p x k hxx).mono hx (hst _ (hlt p (List.mem_of_getElem? k)))
  ·rw [List.getElem?_append_right (by omega), ← hlen] at hxx
   exact freshB_rep (c := ctx ⟨z.w, [], fun _ => False, z.nm⟩ w' E' nopb) (List.all_eq_true.1 hb x (List.mem_of_getElem? hxx)) rfl (k3.blk _ p x k hxx)
theorem ACalls.lent {args args' : List AV} {σ σ' : Heap} {r : AV} (h : ACalls P nm f args' [] r σ') (ha : A.frzL σ 0 8 args = some args') (hv : A.freshT r = true) (hb : σ'.all A.freshB = true) : ACalls P nm f args σ (A.shiftT σ.length r) (σ ++ σ') := by
 have hX : ∀ (z : Z) b, ¬ (ctx ⟨z.w, [], fun _ => False, z.nm⟩ z.w [] nopb).X b := by
  rintro z b (k | ⟨p, hp, _⟩ | ⟨i, k⟩)
  ·exact k.elim
  ·cases hp
  ·cases k
 have hcold : ∀ (z : Z), HeapRel (ctx z z.w z.E nopb) σ → Cold (ctx z z.w z.E nopb) (ctx ⟨z.w, [], fun _ => False, z.nm⟩ z.w [] nopb) σ 0 := fun z hh =>
  ⟨rfl, rfl, fun b k => (hX z b k).elim, fun id p k => absurd k (Nat.not_lt_zero _), hh, fun id p _ _ => hX z _⟩
 have h0 : ∀ (z : Z), HeapRel (ctx ⟨z.w, [], fun _ => False, z.nm⟩ z.w [] nopb) [] := fun z => by
  refine ⟨rfl, fun i j p q hp => ?_, fun i p x hp => ?_⟩
  ·simp [ctx] at hp
  ·simp [ctx] at hp
 rcases h with ⟨g, h1, h2⟩ | h2
 ·refine .inl ⟨g, h1, fun z vs e1 e2 hh e4 => ?_⟩
  have ha' : RepL (ctx ⟨z.w, [], fun _ => False, z.nm⟩ z.w [] nopb) args' vs.toList := frzL_rep (hcold z hh) 8 (fun av av' v _ e r => frz_all (hcold z hh) 8 _ _ _ e r) _ _ _ ha e4
  refine (h2 ⟨z.w, [], fun _ => False, z.nm⟩ vs e1 e2.none (h0 z) ha').mono ?_
  rintro e w' ⟨v, E', k1, k2, k3, k4⟩
  obtain ⟨E'', q1, q2, q3⟩ := lent_out e2 hh hv hb k2 k3 k4
  exact ⟨v, E'', k1, q1, q2, q3⟩
 ·refine .inr fun z vs e1 e2 hh e4 => ?_
  have ha' : RepL (ctx ⟨z.w, [], fun _ => False, z.nm⟩ z.w [] nopb) args' vs.toList := frzL_rep (hcold z hh) 8 (fun av av' v _ e r => frz_all (hcold z hh) 8 _ _ _ e r) _ _ _ ha e4
  obtain ⟨v, w', E', k1, k2, k3, k4⟩ := h2 ⟨z.w, [], fun _ => False, z.nm⟩ vs e1 e2.none (h0 z) ha'
  obtain ⟨E'', q1, q2, q3⟩ := lent_out e2 hh hv hb k2 k3 k4
  exact ⟨v, w', E'', k1, q1, q2, q3⟩
theorem Sound.wrap {r : List AV → Heap → Option (AV × Heap)} (h : Sound P nm f r) (ro : Bool) (ain : List Sh) (rout : Sh) (hi : Sh.okL ain = true) (ho : rout.ok = true) : Sound P nm f (A.wrap ro ain rout r) := by
 intro args σ v σ' e
 unfold A.wrap at e
 cases hc : (ro && args.any A.own)
 ·rw [hc] at e
  simp only [cond_false] at e
  obtain ⟨q, e1, e2⟩ := Option.map_eq_some_iff.1 e
  injection e2 with e2 e3
  subst e2 e3
  exact (h _ _ _ _ e1).conv (fun c vs k => nnL_rep _ _ _ hi k) (fun c v k => nn_rep _ _ _ ho k)
 ·rw [hc] at e
  simp only [cond_true] at e
  obtain ⟨args', e1, e2⟩ := Option.bind_eq_some_iff.1 e
  obtain ⟨q, e3, e4⟩ := Option.bind_eq_some_iff.1 e2
  obtain ⟨q1, q2⟩ := q
  simp only at e4
  cases hs : (A.freshT (A.nn rout q1) && q2.all A.freshB)
  ·rw [hs] at e4; cases e4
  ·rw [hs] at e4
   simp only [cond_true, Option.some.injEq, Prod.mk.injEq] at e4
   obtain ⟨rfl, rfl⟩ := e4
   simp only [Bool.and_eq_true] at hs
   exact ((h _ _ _ _ e3).conv (args := args') (fun c vs k => nnL_rep _ _ _ hi k) (fun c v k => nn_rep _ _ _ ho k)).lent e1 hs.1 hs.2
end
theorem Snd.of {X : Fx} {t : List (FuncId × (List AV → Heap → Option (AV × Heap)))} (hc : X.call = A.tab (fun _ _ => none) t) (ht : ∀ p ∈ t, Sound X.P X.nm p.1 p.2) (hd : ∀ f, Sound X.P X.nm f (X.dyn (X.nm.getD f 0))) : Snd X := by
 refine ⟨fun f args σ r σ' h => ?_, fun f => hd f⟩
 rw [hc] at h
 clear hc
 induction t with
 | nil => cases h
 | cons p t ih =>
  obtain ⟨m, x⟩ := p
  simp only [A.tab] at h
  cases hm : (f == m)
  ·rw [hm] at h; exact ih (fun p hp => ht p (List.mem_cons_of_mem _ hp)) h
  ·rw [hm] at h
   have : f = m := by simpa using hm
   subst this
   exact ht (f, x) (List.mem_cons_self) _ _ _ _ h
theorem Sound.none {P : Program} {nm : List Nat} {f : FuncId} : Sound P nm f (fun _ _ => Option.none) := fun _ _ _ _ h => by cases h
theorem All.nil {P : Program} {nm : List Nat} : ∀ p ∈ ([] : List (FuncId × (List AV → Heap → Option (AV × Heap)))), Sound P nm p.1 p.2 := fun _ h => by cases h
theorem All.cons {P : Program} {nm : List Nat} {f : FuncId} {m : List AV → Heap → Option (AV × Heap)} {l : List (FuncId × (List AV → Heap → Option (AV × Heap)))} (h : Sound P nm f m) (t : ∀ p ∈ l, Sound P nm p.1 p.2) : ∀ p ∈ (f, m) :: l, Sound P nm p.1 p.2 :=
 fun p hp => by rcases List.mem_cons.1 hp with rfl | hp; exact h; exact t p hp
theorem DAll.nil {P : Program} {nm : List Nat} : ∀ p ∈ ([] : List (Nat × (List AV → Heap → Option (AV × Heap)))), ∀ f, nm.getD f 0 = p.1 → Sound P nm f p.2 := fun _ h => by cases h
theorem DAll.cons {P : Program} {nm : List Nat} {k : Nat} {m : List AV → Heap → Option (AV × Heap)} {l : List (Nat × (List AV → Heap → Option (AV × Heap)))} (h : ∀ f, nm.getD f 0 = k → Sound P nm f m) (t : ∀ p ∈ l, ∀ f, nm.getD f 0 = p.1 → Sound P nm f p.2) : ∀ p ∈ (k, m) :: l, ∀ f, nm.getD f 0 = p.1 → Sound P nm f p.2 :=
 fun p hp => by rcases List.mem_cons.1 hp with rfl | hp; exact h; exact t p hp
theorem dyn_of {P : Program} {nm : List Nat} {t : List (Nat × (List AV → Heap → Option (AV × Heap)))} (ht : ∀ p ∈ t, ∀ f, nm.getD f 0 = p.1 → Sound P nm f p.2) (f : FuncId) : Sound P nm f (A.tab (fun _ _ => Option.none) t (nm.getD f 0)) := by
 induction t with
 | nil => exact Sound.none
 | cons p t ih =>
  obtain ⟨k, x⟩ := p
  simp only [A.tab]
  cases hm : (nm.getD f 0 == k)
  ·exact ih (fun p hp => ht p (List.mem_cons_of_mem _ hp))
  ·exact ht (k, x) List.mem_cons_self f (by simpa using hm)
theorem nm_one {nm : List Nat} {k g : Nat} (h : (nm.zipIdx.filter fun p => p.1 == k) = [(k, g)]) (hk : (0 == k) = false) {f : Nat} (hf : nm.getD f 0 = k) : f = g := by
 have hlt : f < nm.length := by
  rcases Nat.lt_or_ge f nm.length with e | e
  ·exact e
  ·simp only [List.getD, List.getElem?_eq_none e, Option.getD_none] at hf; subst hf; simp at hk
 have : (k, f) ∈ nm.zipIdx.filter fun p => p.1 == k := by
  refine List.mem_filter.2 ⟨List.mem_iff_getElem?.2 ⟨f, ?_⟩, by simp⟩
  simp only [List.getD] at hf
  rw [List.getElem?_eq_getElem hlt] at hf
  simp [List.getElem?_eq_getElem hlt, ← hf]
 rw [h] at this
 simpa using this
theorem nm_sound {P : Program} {nm : List Nat} {k g : Nat} {m : List AV → Heap → Option (AV × Heap)} (hs : Sound P nm g m) (h : (nm.zipIdx.filter fun p => p.1 == k) = [(k, g)]) (hk : (0 == k) = false) : ∀ f, nm.getD f 0 = k → Sound P nm f m :=
 fun f hf => by have e := nm_one h hk hf; subst e; exact hs
def fuel (F : (Nat → List AV → Heap → Option (AV × Heap)) → List (Nat × (List AV → Heap → Option (AV × Heap)))) : Nat → Nat → List AV → Heap → Option (AV × Heap)
 | 0, _ => fun _ _ => none
 | n + 1, k => A.tab (fun _ _ => none) (F (fuel F n)) k
theorem fuel_sound {P : Program} {nm : List Nat} {F : (Nat → List AV → Heap → Option (AV × Heap)) → List (Nat × (List AV → Heap → Option (AV × Heap)))}
  (h : ∀ rec, (∀ f, Sound P nm f (rec (nm.getD f 0))) → ∀ p ∈ F rec, ∀ f, nm.getD f 0 = p.1 → Sound P nm f p.2) : ∀ n f, Sound P nm f (fuel F n (nm.getD f 0))
 | 0, f => Sound.none
 | n + 1, f => dyn_of (h (fuel F n) (fuel_sound h n)) f
namespace A
set_option linter.unusedSectionVars false
def ar1 (f : AV → Heap → Option (AV × Heap)) : List AV → Heap → Option (AV × Heap)
 | [x0], σ => f x0 σ
 | _, _ => none
def ar2 (f : AV → AV → Heap → Option (AV × Heap)) : List AV → Heap → Option (AV × Heap)
 | [x0, x1], σ => f x0 x1 σ
 | _, _ => none
def ar3 (f : AV → AV → AV → Heap → Option (AV × Heap)) : List AV → Heap → Option (AV × Heap)
 | [x0, x1, x2], σ => f x0 x1 x2 σ
 | _, _ => none
def ar4 (f : AV → AV → AV → AV → Heap → Option (AV × Heap)) : List AV → Heap → Option (AV × Heap)
 | [x0, x1, x2, x3], σ => f x0 x1 x2 x3 σ
 | _, _ => none
def ar5 (f : AV → AV → AV → AV → AV → Heap → Option (AV × Heap)) : List AV → Heap → Option (AV × Heap)
 | [x0, x1, x2, x3, x4], σ => f x0 x1 x2 x3 x4 σ
 | _, _ => none
def ar6 (f : AV → AV → AV → AV → AV → AV → Heap → Option (AV × Heap)) : List AV → Heap → Option (AV × Heap)
 | [x0, x1, x2, x3, x4, x5], σ => f x0 x1 x2 x3 x4 x5 σ
 | _, _ => none
def ar7 (f : AV → AV → AV → AV → AV → AV → AV → Heap → Option (AV × Heap)) : List AV → Heap → Option (AV × Heap)
 | [x0, x1, x2, x3, x4, x5, x6], σ => f x0 x1 x2 x3 x4 x5 x6 σ
 | _, _ => none
end A
section
variable {X : Fx} {f : FuncId} {fn : Func} {ann : Ann}
theorem Sound.run1 {m : AV → Heap → Option (AV × Heap)} (keep : Back) (hkeep : keep.Ok) (hs : Snd X) (hf : X.P.funcs[f]? = some fn) (hc : ∀ aas w, (callFunc f aas).run X.P w = .ok (.enter f aas) w) (he : ∀ (x0 : AV) (σ : Heap), runA X keep ann fn [x0] σ = m x0 σ) : Sound X.P X.nm f (A.ar1 m) := by
 intro args σ r σ' h
 unfold A.ar1 at h
 split at h
 ·exact runA_sound hs hkeep hf hc ((he _ _).trans h)
 ·cases h
theorem Sound.run2 {m : AV → AV → Heap → Option (AV × Heap)} (keep : Back) (hkeep : keep.Ok) (hs : Snd X) (hf : X.P.funcs[f]? = some fn) (hc : ∀ aas w, (callFunc f aas).run X.P w = .ok (.enter f aas) w) (he : ∀ (x0 x1 : AV) (σ : Heap), runA X keep ann fn [x0, x1] σ = m x0 x1 σ) : Sound X.P X.nm f (A.ar2 m) := by
 intro args σ r σ' h
 unfold A.ar2 at h
 split at h
 ·exact runA_sound hs hkeep hf hc ((he _ _ _).trans h)
 ·cases h
theorem Sound.run3 {m : AV → AV → AV → Heap → Option (AV × Heap)} (keep : Back) (hkeep : keep.Ok) (hs : Snd X) (hf : X.P.funcs[f]? = some fn) (hc : ∀ aas w, (callFunc f aas).run X.P w = .ok (.enter f aas) w) (he : ∀ (x0 x1 x2 : AV) (σ : Heap), runA X keep ann fn [x0, x1, x2] σ = m x0 x1 x2 σ) : Sound X.P X.nm f (A.ar3 m) := by
 intro args σ r σ' h
 unfold A.ar3 at h
 split at h
 ·exact runA_sound hs hkeep hf hc ((he _ _ _ _).trans h)
 ·cases h
theorem Sound.run4 {m : AV → AV → AV → AV → Heap → Option (AV × Heap)} (keep : Back) (hkeep : keep.Ok) (hs : Snd X) (hf : X.P.funcs[f]? = some fn) (hc : ∀ aas w, (callFunc f aas).run X.P w = .ok (.enter f aas) w) (he : ∀ (x0 x1 x2 x3 : AV) (σ : Heap), runA X keep ann fn [x0, x1, x2, x3] σ = m x0 x1 x2 x3 σ) : Sound X.P X.nm f (A.ar4 m) := by
 intro args σ r σ' h
 unfold A.ar4 at h
 split at h
 ·exact runA_sound hs hkeep hf hc ((he _ _ _ _ _).trans h)
 ·cases h
theorem Sound.run5 {m : AV → AV → AV → AV → AV → Heap → Option (AV × Heap)} (keep : Back) (hkeep : keep.Ok) (hs : Snd X) (hf : X.P.funcs[f]? = some fn) (hc : ∀ aas w, (callFunc f aas).run X.P w = .ok (.enter f aas) w) (he : ∀ (x0 x1 x2 x3 x4 : AV) (σ : Heap), runA X keep ann fn [x0, x1, x2, x3, x4] σ = m x0 x1 x2 x3 x4 σ) : Sound X.P X.nm f (A.ar5 m) := by
 intro args σ r σ' h
 unfold A.ar5 at h
 split at h
 ·exact runA_sound hs hkeep hf hc ((he _ _ _ _ _ _).trans h)
 ·cases h
theorem Sound.run6 {m : AV → AV → AV → AV → AV → AV → Heap → Option (AV × Heap)} (keep : Back) (hkeep : keep.Ok) (hs : Snd X) (hf : X.P.funcs[f]? = some fn) (hc : ∀ aas w, (callFunc f aas).run X.P w = .ok (.enter f aas) w) (he : ∀ (x0 x1 x2 x3 x4 x5 : AV) (σ : Heap), runA X keep ann fn [x0, x1, x2, x3, x4, x5] σ = m x0 x1 x2 x3 x4 x5 σ) : Sound X.P X.nm f (A.ar6 m) := by
 intro args σ r σ' h
 unfold A.ar6 at h
 split at h
 ·exact runA_sound hs hkeep hf hc ((he _ _ _ _ _ _ _).trans h)
 ·cases h
theorem Sound.run7 {m : AV → AV → AV → AV → AV → AV → AV → Heap → Option (AV × Heap)} (keep : Back) (hkeep : keep.Ok) (hs : Snd X) (hf : X.P.funcs[f]? = some fn) (hc : ∀ aas w, (callFunc f aas).run X.P w = .ok (.enter f aas) w) (he : ∀ (x0 x1 x2 x3 x4 x5 x6 : AV) (σ : Heap), runA X keep ann fn [x0, x1, x2, x3, x4, x5, x6] σ = m x0 x1 x2 x3 x4 x5 x6 σ) : Sound X.P X.nm f (A.ar7 m) := by
 intro args σ r σ' h
 unfold A.ar7 at h
 split at h
 ·exact runA_sound hs hkeep hf hc ((he _ _ _ _ _ _ _ _).trans h)
 ·cases h
end
end Go.Proofs.YtfalbgflabajbaaDoor

namespace Go.Proofs.YtfalbgflabajbaaDoor
set_option linter.unusedSectionVars false
set_option linter.unusedSimpArgs false
set_option linter.unusedVariables false
set_option maxRecDepth 100000
noncomputable def nmT : List Nat := [0, 0, 0, 586, 587, 0, 585, 500, 463, 490, 475, 582, 476, 487, 39, 492, 498, 493, 495, 49, 499, 462, 474, 489, 477, 37, 38, 491, 497, 494, 46, 48, 0, 461, 581, 488, 583, 1, 496, 584, 4, 47, 0, 527, 0, 0, 0, 0, 0, 0, 0, 0, 0, 0, 0, 0, 257, 0, 0, 0, 0, 0, 0, 0, 0, 0, 0, 0, 479, 478, 480, 483, 482, 0, 0, 0, 0, 486, 481, 0, 0, 0, 0, 0, 0, 0, 0, 0, 484, 485, 0, 0, 0, 0, 0, 0, 0, 0, 0, 0, 0, 0, 0, 0, 0, 0, 0, 0, 0, 0, 0, 0, 0, 0, 0, 0, 0, 0, 0, 0, 0, 0]
section
variable {l : List (FuncId × (List AV → Heap → Option (AV × Heap)))} {f : FuncId} {fn : Func} {ro : Bool} {ain : List Sh} {rout : Sh}
noncomputable def fxT (l : List (FuncId × (List AV → Heap → Option (AV × Heap)))) (L : List Nat) (n : Nat) : Fx := ⟨Tryd.prog, nmT, A.tab (fun _ _ => none) l, fun _ _ _ => none, L, [], n, []⟩
theorem q1 {m : AV → Heap → Option (AV × Heap)} (L : List Nat) (n : Nat) (ann : Ann) (h : ∀ p ∈ l, Sound Tryd.prog nmT p.1 p.2) (hf : Tryd.prog.funcs[f]? = some fn) (hc : ∀ aas w, (callFunc f aas).run Tryd.prog w = .ok (.enter f aas) w) (he : ∀ (x0 : AV) (σ : Heap), runA (fxT l L n) .F ann fn [x0] σ = m x0 σ) (hi : Sh.okL ain = true) (ho : rout.ok = true) : Sound Tryd.prog nmT f (A.wrap ro ain rout (A.ar1 m)) := Sound.wrap (Sound.run1 .F trivial (Snd.of rfl h fun _ => Sound.none) hf hc he) _ _ _ hi ho
theorem q2 {m : AV → AV → Heap → Option (AV × Heap)} (L : List Nat) (n : Nat) (ann : Ann) (h : ∀ p ∈ l, Sound Tryd.prog nmT p.1 p.2) (hf : Tryd.prog.funcs[f]? = some fn) (hc : ∀ aas w, (callFunc f aas).run Tryd.prog w = .ok (.enter f aas) w) (he : ∀ (x0 x1 : AV) (σ : Heap), runA (fxT l L n) .F ann fn [x0, x1] σ = m x0 x1 σ) (hi : Sh.okL ain = true) (ho : rout.ok = true) : Sound Tryd.prog nmT f (A.wrap ro ain rout (A.ar2 m)) := Sound.wrap (Sound.run2 .F trivial (Snd.of rfl h fun _ => Sound.none) hf hc he) _ _ _ hi ho
theorem q3 {m : AV → AV → AV → Heap → Option (AV × Heap)} (L : List Nat) (n : Nat) (ann : Ann) (h : ∀ p ∈ l, Sound Tryd.prog nmT p.1 p.2) (hf : Tryd.prog.funcs[f]? = some fn) (hc : ∀ aas w, (callFunc f aas).run Tryd.prog w = .ok (.enter f aas) w) (he : ∀ (x0 x1 x2 : AV) (σ : Heap), runA (fxT l L n) .F ann fn [x0, x1, x2] σ = m x0 x1 x2 σ) (hi : Sh.okL ain = true) (ho : rout.ok = true) : Sound Tryd.prog nmT f (A.wrap ro ain rout (A.ar3 m)) := Sound.wrap (Sound.run3 .F trivial (Snd.of rfl h fun _ => Sound.none) hf hc he) _ _ _ hi ho
theorem q4 {m : AV → AV → AV → AV → Heap → Option (AV × Heap)} (L : List Nat) (n : Nat) (ann : Ann) (h : ∀ p ∈ l, Sound Tryd.prog nmT p.1 p.2) (hf : Tryd.prog.funcs[f]? = some fn) (hc : ∀ aas w, (callFunc f aas).run Tryd.prog w = .ok (.enter f aas) w) (he : ∀ (x0 x1 x2 x3 : AV) (σ : Heap), runA (fxT l L n) .F ann fn [x0, x1, x2, x3] σ = m x0 x1 x2 x3 σ) (hi : Sh.okL ain = true) (ho : rout.ok = true) : Sound Tryd.prog nmT f (A.wrap ro ain rout (A.ar4 m)) := Sound.wrap (Sound.run4 .F trivial (Snd.of rfl h fun _ => Sound.none) hf hc he) _ _ _ hi ho
theorem q5 {m : AV → AV → AV → AV → AV → Heap → Option (AV × Heap)} (L : List Nat) (n : Nat) (ann : Ann) (h : ∀ p ∈ l, Sound Tryd.prog nmT p.1 p.2) (hf : Tryd.prog.funcs[f]? = some fn) (hc : ∀ aas w, (callFunc f aas).run Tryd.prog w = .ok (.enter f aas) w) (he : ∀ (x0 x1 x2 x3 x4 : AV) (σ : Heap), runA (fxT l L n) .F ann fn [x0, x1, x2, x3, x4] σ = m x0 x1 x2 x3 x4 σ) (hi : Sh.okL ain = true) (ho : rout.ok = true) : Sound Tryd.prog nmT f (A.wrap ro ain rout (A.ar5 m)) := Sound.wrap (Sound.run5 .F trivial (Snd.of rfl h fun _ => Sound.none) hf hc he) _ _ _ hi ho
theorem q6 {m : AV → AV → AV → AV → AV → AV → Heap → Option (AV × Heap)} (L : List Nat) (n : Nat) (ann : Ann) (h : ∀ p ∈ l, Sound Tryd.prog nmT p.1 p.2) (hf : Tryd.prog.funcs[f]? = some fn) (hc : ∀ aas w, (callFunc f aas).run Tryd.prog w = .ok (.enter f aas) w) (he : ∀ (x0 x1 x2 x3 x4 x5 : AV) (σ : Heap), runA (fxT l L n) .F ann fn [x0, x1, x2, x3, x4, x5] σ = m x0 x1 x2 x3 x4 x5 σ) (hi : Sh.okL ain = true) (ho : rout.ok = true) : Sound Tryd.prog nmT f (A.wrap ro ain rout (A.ar6 m)) := Sound.wrap (Sound.run6 .F trivial (Snd.of rfl h fun _ => Sound.none) hf hc he) _ _ _ hi ho
theorem q7 {m : AV → AV → AV → AV → AV → AV → AV → Heap → Option (AV × Heap)} (L : List Nat) (n : Nat) (ann : Ann) (h : ∀ p ∈ l, Sound Tryd.prog nmT p.1 p.2) (hf : Tryd.prog.funcs[f]? = some fn) (hc : ∀ aas w, (callFunc f aas).run Tryd.prog w = .ok (.enter f aas) w) (he : ∀ (x0 x1 x2 x3 x4 x5 x6 : AV) (σ : Heap), runA (fxT l L n) .F ann fn [x0, x1, x2, x3, x4, x5, x6] σ = m x0 x1 x2 x3 x4 x5 x6 σ) (hi : Sh.okL ain = true) (ho : rout.ok = true) : Sound Tryd.prog nmT f (A.wrap ro ain rout (A.ar7 m)) := Sound.wrap (Sound.run7 .F trivial (Snd.of rfl h fun _ => Sound.none) hf hc he) _ _ _ hi ho
end
end Go.Proofs.YtfalbgflabajbaaDoor

namespace Go.Proofs.YtfalbgflabajbaaDoor
set_option linter.unusedSectionVars false
set_option linter.unusedVariables false
set_option linter.unusedSimpArgs false
abbrev inI (n : Int) : Prop := -9223372036854775808 ≤ n ∧ n ≤ 9223372036854775807
abbrev mxl : Nat := 9223372036854775807
def memB {κ : Type} [DecidableEq κ] (k : κ) (S : List κ) : Bool := S.any fun x => decide (x = k)
theorem memB_iff {κ : Type} [DecidableEq κ] {k : κ} {S : List κ} : memB k S = true ↔ k ∈ S := by
 simp only [memB, List.any_eq_true, decide_eq_true_eq]
 exact ⟨fun ⟨x, h, e⟩ => e ▸ h, fun h => ⟨k, h, rfl⟩⟩
theorem memB_false {κ : Type} [DecidableEq κ] {k : κ} {S : List κ} : memB k S = false ↔ k ∉ S := by
 rw [← memB_iff]; simp
def cInt (n : Int) : List AV := [.int .i64 n]
def cStr (s : ByteArray) : List AV := [.str s]
def sl {α : Type} (sz : Nat) (c : α → List AV) (l : List α) : AV := .sl sz (l.map c)
def okL {α : Type} (p : α → Prop) (l : List α) : Prop := l.length ≤ mxl ∧ ∀ x ∈ l, p x
def okS (s : ByteArray) : Prop := s.size ≤ mxl
theorem p1_cInt (n : Int) : A.part1 0 (cInt n) = some (.int .i64 n) := rfl
theorem p1_cStr (s : ByteArray) : A.part1 0 (cStr s) = some (.str s) := rfl

structure PointD where
 time : Int
 way : Int
deriving DecidableEq
structure CurveD where
 kind : Int
 points : (List PointD)
structure FadeD where
 frm : Int
 to : Int
 start : Int
 delay : Int
 time : Int
 curve : CurveD
structure ChangeD where
 time : Int
 level : Int
deriving DecidableEq
structure RangeD where
 low : Int
 high : Int
 name : ByteArray
deriving DecidableEq
structure ParamD where
 name : ByteArray
 group : Int
 att : Int
 fine : Int
 default : Int
 snap : Bool
 ranges : (List RangeD)
structure ProfileD where
 name : ByteArray
 size : Int
 params : (List ParamD)
structure UnitD where
 number : Int
 profile : ByteArray
 univ : Int
 address : Int
deriving DecidableEq
structure RigD where
 library : (List ProfileD)
 units : (List UnitD)
structure KeyD where
 unit : Int
 param : ByteArray
deriving DecidableEq
structure SettingD where
 key : KeyD
 level : Int
deriving DecidableEq
structure PresetD where
 number : Int
 title : ByteArray
 settings : (List SettingD)
structure FanD where
 corners : (List Int)
 block : Int
 wings : Int
structure ValueD where
 level : Int
 preset : Int
deriving DecidableEq
structure MoveD where
 key : KeyD
 value : ValueD
 release : Bool
 timed : Bool
 delay : Int
 time : Int
deriving DecidableEq
structure CueD where
 number : Int
 title : ByteArray
 delay : Int
 up : Int
 down : Int
 other : Int
 curve : CurveD
 block : Bool
 follow : Int
 moves : (List MoveD)
structure EntryD where
 key : KeyD
 value : ValueD
 cue : Int
deriving DecidableEq
structure MarkD where
 unit : Int
 frm : Int
 to : Int
deriving DecidableEq
structure ListD where
 number : Int
 cues : (List CueD)
structure PlaybackD where
 number : Int
 list : Int
 priority : Int
deriving DecidableEq
structure SetupD where
 rig : RigD
 presets : (List PresetD)
 lists : (List ListD)
 playbacks : (List PlaybackD)
structure ActionD where
 time : Int
 kind : Int
 playback : Int
 cue : Int
 level : Int
deriving DecidableEq
structure EventD where
 att : Int
 action : ActionD
deriving DecidableEq
structure StampD where
 hours : Int
 minutes : Int
 seconds : Int
 frames : Int
deriving DecidableEq
structure RunD where
 key : KeyD
 fade : FadeD
 claim : Int
 ending : Bool
structure StandingD where
 playback : Int
 cue : Int
 fader : Int
 paused : Bool
 follow : Int
 runs : (List RunD)
structure EffectStepD where
 level : Int
 hold : Int
 fade : Int
deriving DecidableEq
structure EffectD where
 form : Int
 low : Int
 high : Int
 cycle : Int
 width : Int
 spread : Int
 back : Bool
 relative : Bool
 steps : (List EffectStepD)
structure RateD where
 time : Int
 percent : Int
deriving DecidableEq
structure RunningD where
 effect : EffectD
 keys : (List KeyD)
 start : Int
 rates : (List RateD)
 inn : Int
 fin : Int
 out : Int
end Go.Proofs.YtfalbgflabajbaaDoor

namespace Go.Proofs.YtfalbgflabajbaaDoor
set_option linter.unusedSectionVars false
set_option linter.unusedSimpArgs false
set_option linter.unusedVariables false
def itoaB (n : Int) : ByteArray := ⟨(Lib.itoa n).toArray⟩
end Go.Proofs.YtfalbgflabajbaaDoor

namespace Go.Proofs.YtfalbgflabajbaaDoor
set_option linter.unusedSectionVars false
set_option linter.unusedSimpArgs false
set_option linter.unusedVariables false
set_option maxRecDepth 100000
noncomputable def r_slices_EqualFunc_api_Pick (dyn : Nat → List AV → Heap → Option (AV × Heap)) (a0 a1 a2 : AV) (σ : Heap) : Option (AV × Heap) :=
 (A.lenS a0).bind fun x1 =>
 (A.lenS a1).bind fun x2 =>
 (A.neq .i x1 x2).bind fun x3 =>
 A.cond x3 (
  A.fin σ (AV.bool false) σ) (
  (A.lenS a0).bind fun x4 =>
  (A.loop (fun v5 s6 =>
    (A.lss (v5.getD 1 AV.undef) x4).bind fun x8 =>
    A.cond x8 (
     (A.iaddr 4 a0 (v5.getD 1 AV.undef)).bind fun x9 =>
     ((A.deref x9 s6).bind fun c10 => A.partA 0 4 c10).bind fun x11 =>
     (A.cells 4 x11).bind fun c12 =>
     (A.splice 0 c12 [(AV.int .i64 0), (AV.int .i64 0), (AV.int .i64 0), AV.nsl]).bind fun c13 =>
     (A.iaddr 4 a1 (v5.getD 1 AV.undef)).bind fun x14 =>
     ((A.deref x14 s6).bind fun c15 => A.partA 0 4 c15).bind fun x16 =>
     (A.cells 4 x16).bind fun c17 =>
     (A.splice 0 c17 [(AV.int .i64 0), (AV.int .i64 0), (AV.int .i64 0), AV.nsl]).bind fun c18 =>
     (A.partA 0 4 c13).bind fun x19 =>
     (A.partA 0 4 c18).bind fun x20 =>
     (A.callv dyn a2 [x19, x20] s6).bind fun r21 =>
     (A.not r21.1).bind fun x22 =>
     A.cond x22 (
      some (AX.ret, [(AV.bool false), (v5.getD 1 AV.undef)], r21.2)) (
      (A.add (v5.getD 1 AV.undef) (AV.int .i64 1)).bind fun x23 =>
      some (AX.normal, [(v5.getD 0 AV.undef), x23], r21.2))) (
     some (AX.exit 0, [(v5.getD 0 AV.undef), (v5.getD 1 AV.undef)], s6))) [(AV.bool false), (AV.int .i64 0)] σ).bind fun r24 =>
  bif r24.1 == AX.exit 0 then (
   A.fin σ (AV.bool true) r24.2.2) else
  bif r24.1 == AX.ret then (
   A.fin σ (r24.2.1.getD 0 AV.undef) r24.2.2) else
  none)
noncomputable def m_slices_EqualFunc_api_Pick (dyn : Nat → List AV → Heap → Option (AV × Heap)) : List AV → Heap → Option (AV × Heap) := A.wrap true [(.s 4), (.s 4)] .k (A.ar3 (r_slices_EqualFunc_api_Pick dyn))
end Go.Proofs.YtfalbgflabajbaaDoor

namespace Go.Proofs.YtfalbgflabajbaaDoor
set_option linter.unusedSectionVars false
set_option linter.unusedSimpArgs false
set_option linter.unusedVariables false
def bZ (l : List UInt8) : ByteArray := ⟨l.toArray⟩
abbrev lZ (s : ByteArray) : List UInt8 := s.data.toList
def digB (b : UInt8) : Bool := decide (48 ≤ b.toNat ∧ b.toNat ≤ 57)
def digZ (s : ByteArray) : Bool := !(lZ s).isEmpty && (lZ s).all digB
def numZ (s : ByteArray) (most : Int) : Int × Bool :=
 if digZ s = false ∨ most < (s.size : Int) ∨ (1 < s.size ∧ (lZ s).head? = some 48) then (0, false) else (((Lib.decNat (lZ s)).getD 0 : Nat), true)
end Go.Proofs.YtfalbgflabajbaaDoor

namespace Go.Proofs.YtfalbgflabajbaaDoor
set_option linter.unusedSectionVars false
set_option linter.unusedSimpArgs false
set_option linter.unusedVariables false
set_option maxRecDepth 100000
noncomputable def r_word_Within (a0 a1 a2 : AV) (σ : Heap) : Option (AV × Heap) :=
 (A.geq a0 a1).bind fun x1 =>
 (A.guard x1 true (some a0) (some (AV.tup []))).bind fun x2 =>
 (A.guard x1 true (some a2) (some (AV.tup []))).bind fun x3 =>
 (A.guard x1 true (A.leq x2 x3) (some (AV.tup []))).bind fun x4 =>
 (A.pick x1 x4 (AV.bool false)).bind fun x5 =>
 A.fin σ x5 σ
noncomputable def m_word_Within : List AV → Heap → Option (AV × Heap) := A.wrap true [] .k (A.ar3 r_word_Within)
end Go.Proofs.YtfalbgflabajbaaDoor

namespace Go.Proofs.YtfalbgflabajbaaDoor
set_option linter.unusedSectionVars false
set_option linter.unusedSimpArgs false
set_option linter.unusedVariables false
set_option maxRecDepth 100000
noncomputable def r_pick_size (rec : Nat → List AV → Heap → Option (AV × Heap)) (a0 : AV) (σ : Heap) : Option (AV × Heap) :=
 (A.cells 4 a0).bind fun c1 =>
 (A.part1 3 c1).bind fun x2 =>
 (A.lenS x2).bind fun x3 =>
 (A.loop (fun v4 s5 =>
   (A.lss (v4.getD 2 AV.undef) x3).bind fun x7 =>
   A.cond x7 (
    (A.iaddr 4 x2 (v4.getD 2 AV.undef)).bind fun x8 =>
    ((A.deref x8 s5).bind fun c9 => A.partA 0 4 c9).bind fun x10 =>
    (A.cells 4 x10).bind fun c11 =>
    (A.splice 0 c11 [(AV.int .i64 0), (AV.int .i64 0), (AV.int .i64 0), AV.nsl]).bind fun c12 =>
    (A.partA 0 4 c12).bind fun x13 =>
    (rec 37 [x13] s5).bind fun r14 =>
    (A.ext 0 r14.1).bind fun x15 =>
    (A.ext 1 r14.1).bind fun x16 =>
    (A.add (v4.getD 0 AV.undef) x15).bind fun x17 =>
    (A.add x16 (AV.int .i64 1)).bind fun x18 =>
    (A.max (v4.getD 1 AV.undef) x18).bind fun x19 =>
    (A.add (v4.getD 2 AV.undef) (AV.int .i64 1)).bind fun x20 =>
    some (AX.normal, [x17, x19, x20], r14.2)) (
    some (AX.exit 0, [(v4.getD 0 AV.undef), (v4.getD 1 AV.undef), (v4.getD 2 AV.undef)], s5))) [(AV.int .i64 1), (AV.int .i64 1), (AV.int .i64 0)] σ).bind fun r21 =>
 bif r21.1 == AX.exit 0 then (
  A.fin σ (AV.tup [(r21.2.1.getD 0 AV.undef), (r21.2.1.getD 1 AV.undef)]) r21.2.2) else
 none
noncomputable def R_pick_size (rec : Nat → List AV → Heap → Option (AV × Heap)) : List (Nat × (List AV → Heap → Option (AV × Heap))) := [(37, A.wrap true [(.a [.k, .k, .k, (.s 4)])] .k (A.ar1 (r_pick_size rec)))]
noncomputable def m_pick_size : List AV → Heap → Option (AV × Heap) := fuel (R_pick_size) 2000000 37
noncomputable def r_pick_check (rec : Nat → List AV → Heap → Option (AV × Heap)) (a0 : AV) (σ : Heap) : Option (AV × Heap) :=
 (A.cells 4 a0).bind fun c1 =>
 (A.part1 0 c1).bind fun x2 =>
 (A.eql .i x2 (AV.int .i64 1)).bind fun x3 =>
 A.cond x3 (
  (A.part1 3 c1).bind fun x4 =>
  (A.lenS x4).bind fun x5 =>
  (A.neq .i x5 (AV.int .i64 0)).bind fun x6 =>
  (A.part1 0 c1).bind fun x7 =>
  (A.eql .i x7 (AV.int .i64 4)).bind fun x8 =>
  (A.cond x8 (
   (A.part1 3 c1).bind fun x10 =>
   (A.lenS x10).bind fun x11 =>
   (A.lss x11 (AV.int .i64 2)).bind fun x12 =>
   some ([(AV.lbx c1), x12], σ)) (
   some ([(AV.lbx c1), x6], σ))).bind fun r9 =>
  (A.guard (r9.1.getD 1 AV.undef) false (some (AV.bool true)) (some (AV.tup []))).bind fun x13 =>
  (A.guard (r9.1.getD 1 AV.undef) false (A.not x13) (some (AV.tup []))).bind fun x14 =>
  (A.guard (r9.1.getD 1 AV.undef) false (some x14) (some (AV.tup []))).bind fun x15 =>
  ((A.lb (r9.1.getD 0 AV.undef)).bind fun _ => some (1)).bind fun p16 =>
    (A.guard x15 true ((A.lb (r9.1.getD 0 AV.undef)).bind fun c17 => A.part1 p16 c17) (some (AV.tup []))).bind fun x18 =>
  (A.guard x15 true (A.neq .i x18 (AV.int .i64 0)) (some (AV.tup []))).bind fun x19 =>
  (A.guard (r9.1.getD 1 AV.undef) false (A.pick x15 x19 (AV.bool false)) (some (AV.tup []))).bind fun x20 =>
  (A.pick (r9.1.getD 1 AV.undef) (AV.bool true) x20).bind fun x21 =>
  (A.guard x21 false (some (AV.bool true)) (some (AV.tup []))).bind fun x22 =>
  (A.guard x21 false (A.not x22) (some (AV.tup []))).bind fun x23 =>
  (A.guard x21 false (some x23) (some (AV.tup []))).bind fun x24 =>
  ((A.lb (r9.1.getD 0 AV.undef)).bind fun _ => some (2)).bind fun p25 =>
    (A.guard x24 true ((A.lb (r9.1.getD 0 AV.undef)).bind fun c26 => A.part1 p25 c26) (some (AV.tup []))).bind fun x27 =>
  (A.guard x24 true (A.neq .i x27 (AV.int .i64 0)) (some (AV.tup []))).bind fun x28 =>
  (A.guard x21 false (A.pick x24 x28 (AV.bool false)) (some (AV.tup []))).bind fun x29 =>
  (A.pick x21 (AV.bool true) x29).bind fun x30 =>
  A.cond x30 (
   A.fin σ (AV.int .i64 3) r9.2) (
   ((A.lb (r9.1.getD 0 AV.undef)).bind fun _ => some (0)).bind fun p31 =>
   ((A.lb (r9.1.getD 0 AV.undef)).bind fun c32 => A.part1 p31 c32).bind fun x33 =>
   (A.eql .i x33 (AV.int .i64 2)).bind fun x34 =>
   (A.cond x34 (
    some ([(r9.1.getD 0 AV.undef), (AV.int .i64 999)], r9.2)) (
    (A.eql .i x33 (AV.int .i64 3)).bind fun x36 =>
    (A.cond x36 (
     some ([(r9.1.getD 0 AV.undef), (AV.int .i64 999)], r9.2)) (
     some ([(r9.1.getD 0 AV.undef), (AV.int .i64 9999)], r9.2))).bind fun r37 =>
    some ([(r37.1.getD 0 AV.undef), (r37.1.getD 1 AV.undef)], r37.2))).bind fun r35 =>
   ((A.lb (r35.1.getD 0 AV.undef)).bind fun _ => some (1)).bind fun p38 =>
      (A.guard (AV.bool true) true ((A.lb (r35.1.getD 0 AV.undef)).bind fun c39 => A.part1 p38 c39) (some (AV.tup []))).bind fun x40 =>
   (A.guard (AV.bool true) true (some (r35.1.getD 1 AV.undef)) (some (AV.tup []))).bind fun x41 =>
   (A.guard (AV.bool true) true (A.quiet (m_word_Within [x40, (AV.int .i64 1), x41] r35.2) r35.2) (some (AV.tup []))).bind fun x42 =>
   (A.guard (AV.bool true) true (A.not x42) (some (AV.tup []))).bind fun x43 =>
   (A.pick (AV.bool true) x43 (AV.bool false)).bind fun x44 =>
   (A.guard x44 false (some (AV.bool true)) (some (AV.tup []))).bind fun x45 =>
   (A.guard x44 false (some x45) (some (AV.tup []))).bind fun x46 =>
   ((A.lb (r35.1.getD 0 AV.undef)).bind fun _ => some (2)).bind fun p47 =>
      (A.guard x46 true ((A.lb (r35.1.getD 0 AV.undef)).bind fun c48 => A.part1 p47 c48) (some (AV.tup []))).bind fun x49 =>
   (A.guard x46 true (some (r35.1.getD 1 AV.undef)) (some (AV.tup []))).bind fun x50 =>
   (A.guard x46 true (A.quiet (m_word_Within [x49, (AV.int .i64 1), x50] r35.2) r35.2) (some (AV.tup []))).bind fun x51 =>
   (A.guard x46 true (A.not x51) (some (AV.tup []))).bind fun x52 =>
   (A.guard x44 false (A.pick x46 x52 (AV.bool false)) (some (AV.tup []))).bind fun x53 =>
   (A.pick x44 (AV.bool true) x53).bind fun x54 =>
   A.cond x54 (
    A.fin σ (AV.int .i64 1) r35.2) (
    ((A.lb (r35.1.getD 0 AV.undef)).bind fun _ => some (3)).bind fun p55 =>
    ((A.lb (r35.1.getD 0 AV.undef)).bind fun c56 => A.part1 p55 c56).bind fun x57 =>
    (A.lenS x57).bind fun x58 =>
    (A.loop (fun v59 s60 =>
      (A.lss (v59.getD 1 AV.undef) x58).bind fun x62 =>
      A.cond x62 (
       (A.iaddr 4 x57 (v59.getD 1 AV.undef)).bind fun x63 =>
       ((A.deref x63 s60).bind fun c64 => A.partA 0 4 c64).bind fun x65 =>
       (A.cells 4 x65).bind fun c66 =>
       (A.splice 0 c66 [(AV.int .i64 0), (AV.int .i64 0), (AV.int .i64 0), AV.nsl]).bind fun c67 =>
       (A.partA 0 4 c67).bind fun x68 =>
       (rec 38 [x68] s60).bind fun r69 =>
       (A.neq .i r69.1 (AV.int .i64 0)).bind fun x70 =>
       A.cond x70 (
        some (AX.ret, [r69.1, (v59.getD 1 AV.undef)], r69.2)) (
        (A.add (v59.getD 1 AV.undef) (AV.int .i64 1)).bind fun x71 =>
        some (AX.normal, [(v59.getD 0 AV.undef), x71], r69.2))) (
       some (AX.exit 2, [(v59.getD 0 AV.undef), (v59.getD 1 AV.undef)], s60))) [(AV.int .i64 0), (AV.int .i64 0)] r35.2).bind fun r72 =>
    bif r72.1 == AX.exit 2 then (
     A.fin σ (AV.int .i64 0) r72.2.2) else
    bif r72.1 == AX.ret then (
     A.fin σ (r72.2.1.getD 0 AV.undef) r72.2.2) else
    none))) (
  (A.eql .i x2 (AV.int .i64 2)).bind fun x73 =>
  (A.cond x73 (
   some ([(AV.lbx c1), x73], σ)) (
   (A.eql .i x2 (AV.int .i64 3)).bind fun x75 =>
   some ([(AV.lbx c1), x75], σ))).bind fun r74 =>
  A.cond (r74.1.getD 1 AV.undef) (
   ((A.lb (r74.1.getD 0 AV.undef)).bind fun _ => some (3)).bind fun p76 =>
   ((A.lb (r74.1.getD 0 AV.undef)).bind fun c77 => A.part1 p76 c77).bind fun x78 =>
   (A.lenS x78).bind fun x79 =>
   (A.neq .i x79 (AV.int .i64 0)).bind fun x80 =>
   ((A.lb (r74.1.getD 0 AV.undef)).bind fun _ => some (0)).bind fun p81 =>
   ((A.lb (r74.1.getD 0 AV.undef)).bind fun c82 => A.part1 p81 c82).bind fun x83 =>
   (A.eql .i x83 (AV.int .i64 4)).bind fun x84 =>
   (A.cond x84 (
    ((A.lb (r74.1.getD 0 AV.undef)).bind fun _ => some (3)).bind fun p86 =>
    ((A.lb (r74.1.getD 0 AV.undef)).bind fun c87 => A.part1 p86 c87).bind fun x88 =>
    (A.lenS x88).bind fun x89 =>
    (A.lss x89 (AV.int .i64 2)).bind fun x90 =>
    some ([(r74.1.getD 0 AV.undef), x90], r74.2)) (
    some ([(r74.1.getD 0 AV.undef), x80], r74.2))).bind fun r85 =>
   (A.guard (r85.1.getD 1 AV.undef) false (some (AV.bool true)) (some (AV.tup []))).bind fun x91 =>
   (A.guard (r85.1.getD 1 AV.undef) false (A.not x91) (some (AV.tup []))).bind fun x92 =>
   (A.guard (r85.1.getD 1 AV.undef) false (some x92) (some (AV.tup []))).bind fun x93 =>
   ((A.lb (r85.1.getD 0 AV.undef)).bind fun _ => some (1)).bind fun p94 =>
      (A.guard x93 true ((A.lb (r85.1.getD 0 AV.undef)).bind fun c95 => A.part1 p94 c95) (some (AV.tup []))).bind fun x96 =>
   (A.guard x93 true (A.neq .i x96 (AV.int .i64 0)) (some (AV.tup []))).bind fun x97 =>
   (A.guard (r85.1.getD 1 AV.undef) false (A.pick x93 x97 (AV.bool false)) (some (AV.tup []))).bind fun x98 =>
   (A.pick (r85.1.getD 1 AV.undef) (AV.bool true) x98).bind fun x99 =>
   (A.guard x99 false (some (AV.bool false)) (some (AV.tup []))).bind fun x100 =>
   (A.guard x99 false (A.not x100) (some (AV.tup []))).bind fun x101 =>
   (A.guard x99 false (some x101) (some (AV.tup []))).bind fun x102 =>
   ((A.lb (r85.1.getD 0 AV.undef)).bind fun _ => some (2)).bind fun p103 =>
      (A.guard x102 true ((A.lb (r85.1.getD 0 AV.undef)).bind fun c104 => A.part1 p103 c104) (some (AV.tup []))).bind fun x105 =>
   (A.guard x102 true (A.neq .i x105 (AV.int .i64 0)) (some (AV.tup []))).bind fun x106 =>
   (A.guard x99 false (A.pick x102 x106 (AV.bool false)) (some (AV.tup []))).bind fun x107 =>
   (A.pick x99 (AV.bool true) x107).bind fun x108 =>
   A.cond x108 (
    A.fin σ (AV.int .i64 3) r85.2) (
    ((A.lb (r85.1.getD 0 AV.undef)).bind fun _ => some (0)).bind fun p109 =>
    ((A.lb (r85.1.getD 0 AV.undef)).bind fun c110 => A.part1 p109 c110).bind fun x111 =>
    (A.eql .i x111 (AV.int .i64 2)).bind fun x112 =>
    (A.cond x112 (
     some ([(r85.1.getD 0 AV.undef), (AV.int .i64 999)], r85.2)) (
     (A.eql .i x111 (AV.int .i64 3)).bind fun x114 =>
     (A.cond x114 (
      some ([(r85.1.getD 0 AV.undef), (AV.int .i64 999)], r85.2)) (
      some ([(r85.1.getD 0 AV.undef), (AV.int .i64 9999)], r85.2))).bind fun r115 =>
     some ([(r115.1.getD 0 AV.undef), (r115.1.getD 1 AV.undef)], r115.2))).bind fun r113 =>
    ((A.lb (r113.1.getD 0 AV.undef)).bind fun _ => some (1)).bind fun p116 =>
        (A.guard (AV.bool true) true ((A.lb (r113.1.getD 0 AV.undef)).bind fun c117 => A.part1 p116 c117) (some (AV.tup []))).bind fun x118 =>
    (A.guard (AV.bool true) true (some (r113.1.getD 1 AV.undef)) (some (AV.tup []))).bind fun x119 =>
    (A.guard (AV.bool true) true (A.quiet (m_word_Within [x118, (AV.int .i64 1), x119] r113.2) r113.2) (some (AV.tup []))).bind fun x120 =>
    (A.guard (AV.bool true) true (A.not x120) (some (AV.tup []))).bind fun x121 =>
    (A.pick (AV.bool true) x121 (AV.bool false)).bind fun x122 =>
    (A.guard x122 false (some (AV.bool false)) (some (AV.tup []))).bind fun x123 =>
    (A.guard x122 false (some x123) (some (AV.tup []))).bind fun x124 =>
    ((A.lb (r113.1.getD 0 AV.undef)).bind fun _ => some (2)).bind fun p125 =>
        (A.guard x124 true ((A.lb (r113.1.getD 0 AV.undef)).bind fun c126 => A.part1 p125 c126) (some (AV.tup []))).bind fun x127 =>
    (A.guard x124 true (some (r113.1.getD 1 AV.undef)) (some (AV.tup []))).bind fun x128 =>
    (A.guard x124 true (A.quiet (m_word_Within [x127, (AV.int .i64 1), x128] r113.2) r113.2) (some (AV.tup []))).bind fun x129 =>
    (A.guard x124 true (A.not x129) (some (AV.tup []))).bind fun x130 =>
    (A.guard x122 false (A.pick x124 x130 (AV.bool false)) (some (AV.tup []))).bind fun x131 =>
    (A.pick x122 (AV.bool true) x131).bind fun x132 =>
    A.cond x132 (
     A.fin σ (AV.int .i64 1) r113.2) (
     ((A.lb (r113.1.getD 0 AV.undef)).bind fun _ => some (3)).bind fun p133 =>
     ((A.lb (r113.1.getD 0 AV.undef)).bind fun c134 => A.part1 p133 c134).bind fun x135 =>
     (A.lenS x135).bind fun x136 =>
     (A.loop (fun v137 s138 =>
       (A.lss (v137.getD 1 AV.undef) x136).bind fun x140 =>
       A.cond x140 (
        (A.iaddr 4 x135 (v137.getD 1 AV.undef)).bind fun x141 =>
        ((A.deref x141 s138).bind fun c142 => A.partA 0 4 c142).bind fun x143 =>
        (A.cells 4 x143).bind fun c144 =>
        (A.splice 0 c144 [(AV.int .i64 0), (AV.int .i64 0), (AV.int .i64 0), AV.nsl]).bind fun c145 =>
        (A.partA 0 4 c145).bind fun x146 =>
        (rec 38 [x146] s138).bind fun r147 =>
        (A.neq .i r147.1 (AV.int .i64 0)).bind fun x148 =>
        A.cond x148 (
         some (AX.ret, [r147.1, (v137.getD 1 AV.undef)], r147.2)) (
         (A.add (v137.getD 1 AV.undef) (AV.int .i64 1)).bind fun x149 =>
         some (AX.normal, [(v137.getD 0 AV.undef), x149], r147.2))) (
        some (AX.exit 2, [(v137.getD 0 AV.undef), (v137.getD 1 AV.undef)], s138))) [(AV.int .i64 0), (AV.int .i64 0)] r113.2).bind fun r150 =>
     bif r150.1 == AX.exit 2 then (
      A.fin σ (AV.int .i64 0) r150.2.2) else
     bif r150.1 == AX.ret then (
      A.fin σ (r150.2.1.getD 0 AV.undef) r150.2.2) else
     none))) (
   (A.eql .i x2 (AV.int .i64 4)).bind fun x151 =>
   (A.cond x151 (
    some ([(r74.1.getD 0 AV.undef), x151], r74.2)) (
    (A.eql .i x2 (AV.int .i64 5)).bind fun x153 =>
    some ([(r74.1.getD 0 AV.undef), x153], r74.2))).bind fun r152 =>
   A.cond (r152.1.getD 1 AV.undef) (
    ((A.lb (r152.1.getD 0 AV.undef)).bind fun _ => some (3)).bind fun p154 =>
    ((A.lb (r152.1.getD 0 AV.undef)).bind fun c155 => A.part1 p154 c155).bind fun x156 =>
    (A.lenS x156).bind fun x157 =>
    (A.neq .i x157 (AV.int .i64 2)).bind fun x158 =>
    ((A.lb (r152.1.getD 0 AV.undef)).bind fun _ => some (0)).bind fun p159 =>
    ((A.lb (r152.1.getD 0 AV.undef)).bind fun c160 => A.part1 p159 c160).bind fun x161 =>
    (A.eql .i x161 (AV.int .i64 4)).bind fun x162 =>
    (A.cond x162 (
     ((A.lb (r152.1.getD 0 AV.undef)).bind fun _ => some (3)).bind fun p164 =>
     ((A.lb (r152.1.getD 0 AV.undef)).bind fun c165 => A.part1 p164 c165).bind fun x166 =>
     (A.lenS x166).bind fun x167 =>
     (A.lss x167 (AV.int .i64 2)).bind fun x168 =>
     some ([(r152.1.getD 0 AV.undef), x168], r152.2)) (
     some ([(r152.1.getD 0 AV.undef), x158], r152.2))).bind fun r163 =>
    (A.guard (r163.1.getD 1 AV.undef) false (some (AV.bool false)) (some (AV.tup []))).bind fun x169 =>
    (A.guard (r163.1.getD 1 AV.undef) false (A.not x169) (some (AV.tup []))).bind fun x170 =>
    (A.guard (r163.1.getD 1 AV.undef) false (some x170) (some (AV.tup []))).bind fun x171 =>
    ((A.lb (r163.1.getD 0 AV.undef)).bind fun _ => some (1)).bind fun p172 =>
        (A.guard x171 true ((A.lb (r163.1.getD 0 AV.undef)).bind fun c173 => A.part1 p172 c173) (some (AV.tup []))).bind fun x174 =>
    (A.guard x171 true (A.neq .i x174 (AV.int .i64 0)) (some (AV.tup []))).bind fun x175 =>
    (A.guard (r163.1.getD 1 AV.undef) false (A.pick x171 x175 (AV.bool false)) (some (AV.tup []))).bind fun x176 =>
    (A.pick (r163.1.getD 1 AV.undef) (AV.bool true) x176).bind fun x177 =>
    (A.guard x177 false (some (AV.bool false)) (some (AV.tup []))).bind fun x178 =>
    (A.guard x177 false (A.not x178) (some (AV.tup []))).bind fun x179 =>
    (A.guard x177 false (some x179) (some (AV.tup []))).bind fun x180 =>
    ((A.lb (r163.1.getD 0 AV.undef)).bind fun _ => some (2)).bind fun p181 =>
        (A.guard x180 true ((A.lb (r163.1.getD 0 AV.undef)).bind fun c182 => A.part1 p181 c182) (some (AV.tup []))).bind fun x183 =>
    (A.guard x180 true (A.neq .i x183 (AV.int .i64 0)) (some (AV.tup []))).bind fun x184 =>
    (A.guard x177 false (A.pick x180 x184 (AV.bool false)) (some (AV.tup []))).bind fun x185 =>
    (A.pick x177 (AV.bool true) x185).bind fun x186 =>
    A.cond x186 (
     A.fin σ (AV.int .i64 3) r163.2) (
     ((A.lb (r163.1.getD 0 AV.undef)).bind fun _ => some (0)).bind fun p187 =>
     ((A.lb (r163.1.getD 0 AV.undef)).bind fun c188 => A.part1 p187 c188).bind fun x189 =>
     (A.eql .i x189 (AV.int .i64 2)).bind fun x190 =>
     (A.cond x190 (
      some ([(r163.1.getD 0 AV.undef), (AV.int .i64 999)], r163.2)) (
      (A.eql .i x189 (AV.int .i64 3)).bind fun x192 =>
      (A.cond x192 (
       some ([(r163.1.getD 0 AV.undef), (AV.int .i64 999)], r163.2)) (
       some ([(r163.1.getD 0 AV.undef), (AV.int .i64 9999)], r163.2))).bind fun r193 =>
      some ([(r193.1.getD 0 AV.undef), (r193.1.getD 1 AV.undef)], r193.2))).bind fun r191 =>
     ((A.lb (r191.1.getD 0 AV.undef)).bind fun _ => some (1)).bind fun p194 =>
          (A.guard (AV.bool false) true ((A.lb (r191.1.getD 0 AV.undef)).bind fun c195 => A.part1 p194 c195) (some (AV.tup []))).bind fun x196 =>
     (A.guard (AV.bool false) true (some (r191.1.getD 1 AV.undef)) (some (AV.tup []))).bind fun x197 =>
     (A.guard (AV.bool false) true (A.quiet (m_word_Within [x196, (AV.int .i64 1), x197] r191.2) r191.2) (some (AV.tup []))).bind fun x198 =>
     (A.guard (AV.bool false) true (A.not x198) (some (AV.tup []))).bind fun x199 =>
     (A.pick (AV.bool false) x199 (AV.bool false)).bind fun x200 =>
     (A.guard x200 false (some (AV.bool false)) (some (AV.tup []))).bind fun x201 =>
     (A.guard x200 false (some x201) (some (AV.tup []))).bind fun x202 =>
     ((A.lb (r191.1.getD 0 AV.undef)).bind fun _ => some (2)).bind fun p203 =>
          (A.guard x202 true ((A.lb (r191.1.getD 0 AV.undef)).bind fun c204 => A.part1 p203 c204) (some (AV.tup []))).bind fun x205 =>
     (A.guard x202 true (some (r191.1.getD 1 AV.undef)) (some (AV.tup []))).bind fun x206 =>
     (A.guard x202 true (A.quiet (m_word_Within [x205, (AV.int .i64 1), x206] r191.2) r191.2) (some (AV.tup []))).bind fun x207 =>
     (A.guard x202 true (A.not x207) (some (AV.tup []))).bind fun x208 =>
     (A.guard x200 false (A.pick x202 x208 (AV.bool false)) (some (AV.tup []))).bind fun x209 =>
     (A.pick x200 (AV.bool true) x209).bind fun x210 =>
     A.cond x210 (
      A.fin σ (AV.int .i64 1) r191.2) (
      ((A.lb (r191.1.getD 0 AV.undef)).bind fun _ => some (3)).bind fun p211 =>
      ((A.lb (r191.1.getD 0 AV.undef)).bind fun c212 => A.part1 p211 c212).bind fun x213 =>
      (A.lenS x213).bind fun x214 =>
      (A.loop (fun v215 s216 =>
        (A.lss (v215.getD 1 AV.undef) x214).bind fun x218 =>
        A.cond x218 (
         (A.iaddr 4 x213 (v215.getD 1 AV.undef)).bind fun x219 =>
         ((A.deref x219 s216).bind fun c220 => A.partA 0 4 c220).bind fun x221 =>
         (A.cells 4 x221).bind fun c222 =>
         (A.splice 0 c222 [(AV.int .i64 0), (AV.int .i64 0), (AV.int .i64 0), AV.nsl]).bind fun c223 =>
         (A.partA 0 4 c223).bind fun x224 =>
         (rec 38 [x224] s216).bind fun r225 =>
         (A.neq .i r225.1 (AV.int .i64 0)).bind fun x226 =>
         A.cond x226 (
          some (AX.ret, [r225.1, (v215.getD 1 AV.undef)], r225.2)) (
          (A.add (v215.getD 1 AV.undef) (AV.int .i64 1)).bind fun x227 =>
          some (AX.normal, [(v215.getD 0 AV.undef), x227], r225.2))) (
         some (AX.exit 2, [(v215.getD 0 AV.undef), (v215.getD 1 AV.undef)], s216))) [(AV.int .i64 0), (AV.int .i64 0)] r191.2).bind fun r228 =>
      bif r228.1 == AX.exit 2 then (
       A.fin σ (AV.int .i64 0) r228.2.2) else
      bif r228.1 == AX.ret then (
       A.fin σ (r228.2.1.getD 0 AV.undef) r228.2.2) else
      none))) (
    (A.eql .i x2 (AV.int .i64 6)).bind fun x229 =>
    (A.cond x229 (
     some ([(r152.1.getD 0 AV.undef), x229], r152.2)) (
     (A.eql .i x2 (AV.int .i64 7)).bind fun x231 =>
     (A.cond x231 (
      some ([(r152.1.getD 0 AV.undef), x231], r152.2)) (
      (A.eql .i x2 (AV.int .i64 8)).bind fun x233 =>
      some ([(r152.1.getD 0 AV.undef), x233], r152.2))).bind fun r232 =>
     some ([(r232.1.getD 0 AV.undef), (r232.1.getD 1 AV.undef)], r232.2))).bind fun r230 =>
    A.cond (r230.1.getD 1 AV.undef) (
     ((A.lb (r230.1.getD 0 AV.undef)).bind fun _ => some (3)).bind fun p234 =>
     ((A.lb (r230.1.getD 0 AV.undef)).bind fun c235 => A.part1 p234 c235).bind fun x236 =>
     (A.lenS x236).bind fun x237 =>
     (A.neq .i x237 (AV.int .i64 1)).bind fun x238 =>
     ((A.lb (r230.1.getD 0 AV.undef)).bind fun _ => some (0)).bind fun p239 =>
     ((A.lb (r230.1.getD 0 AV.undef)).bind fun c240 => A.part1 p239 c240).bind fun x241 =>
     (A.eql .i x241 (AV.int .i64 4)).bind fun x242 =>
     (A.cond x242 (
      ((A.lb (r230.1.getD 0 AV.undef)).bind fun _ => some (3)).bind fun p244 =>
      ((A.lb (r230.1.getD 0 AV.undef)).bind fun c245 => A.part1 p244 c245).bind fun x246 =>
      (A.lenS x246).bind fun x247 =>
      (A.lss x247 (AV.int .i64 2)).bind fun x248 =>
      some ([(r230.1.getD 0 AV.undef), x248], r230.2)) (
      some ([(r230.1.getD 0 AV.undef), x238], r230.2))).bind fun r243 =>
     (A.guard (r243.1.getD 1 AV.undef) false (some (AV.bool false)) (some (AV.tup []))).bind fun x249 =>
     (A.guard (r243.1.getD 1 AV.undef) false (A.not x249) (some (AV.tup []))).bind fun x250 =>
     (A.guard (r243.1.getD 1 AV.undef) false (some x250) (some (AV.tup []))).bind fun x251 =>
     ((A.lb (r243.1.getD 0 AV.undef)).bind fun _ => some (1)).bind fun p252 =>
          (A.guard x251 true ((A.lb (r243.1.getD 0 AV.undef)).bind fun c253 => A.part1 p252 c253) (some (AV.tup []))).bind fun x254 =>
     (A.guard x251 true (A.neq .i x254 (AV.int .i64 0)) (some (AV.tup []))).bind fun x255 =>
     (A.guard (r243.1.getD 1 AV.undef) false (A.pick x251 x255 (AV.bool false)) (some (AV.tup []))).bind fun x256 =>
     (A.pick (r243.1.getD 1 AV.undef) (AV.bool true) x256).bind fun x257 =>
     (A.guard x257 false (some (AV.bool false)) (some (AV.tup []))).bind fun x258 =>
     (A.guard x257 false (A.not x258) (some (AV.tup []))).bind fun x259 =>
     (A.guard x257 false (some x259) (some (AV.tup []))).bind fun x260 =>
     ((A.lb (r243.1.getD 0 AV.undef)).bind fun _ => some (2)).bind fun p261 =>
          (A.guard x260 true ((A.lb (r243.1.getD 0 AV.undef)).bind fun c262 => A.part1 p261 c262) (some (AV.tup []))).bind fun x263 =>
     (A.guard x260 true (A.neq .i x263 (AV.int .i64 0)) (some (AV.tup []))).bind fun x264 =>
     (A.guard x257 false (A.pick x260 x264 (AV.bool false)) (some (AV.tup []))).bind fun x265 =>
     (A.pick x257 (AV.bool true) x265).bind fun x266 =>
     A.cond x266 (
      A.fin σ (AV.int .i64 3) r243.2) (
      ((A.lb (r243.1.getD 0 AV.undef)).bind fun _ => some (0)).bind fun p267 =>
      ((A.lb (r243.1.getD 0 AV.undef)).bind fun c268 => A.part1 p267 c268).bind fun x269 =>
      (A.eql .i x269 (AV.int .i64 2)).bind fun x270 =>
      (A.cond x270 (
       some ([(r243.1.getD 0 AV.undef), (AV.int .i64 999)], r243.2)) (
       (A.eql .i x269 (AV.int .i64 3)).bind fun x272 =>
       (A.cond x272 (
        some ([(r243.1.getD 0 AV.undef), (AV.int .i64 999)], r243.2)) (
        some ([(r243.1.getD 0 AV.undef), (AV.int .i64 9999)], r243.2))).bind fun r273 =>
       some ([(r273.1.getD 0 AV.undef), (r273.1.getD 1 AV.undef)], r273.2))).bind fun r271 =>
      ((A.lb (r271.1.getD 0 AV.undef)).bind fun _ => some (1)).bind fun p274 =>
            (A.guard (AV.bool false) true ((A.lb (r271.1.getD 0 AV.undef)).bind fun c275 => A.part1 p274 c275) (some (AV.tup []))).bind fun x276 =>
      (A.guard (AV.bool false) true (some (r271.1.getD 1 AV.undef)) (some (AV.tup []))).bind fun x277 =>
      (A.guard (AV.bool false) true (A.quiet (m_word_Within [x276, (AV.int .i64 1), x277] r271.2) r271.2) (some (AV.tup []))).bind fun x278 =>
      (A.guard (AV.bool false) true (A.not x278) (some (AV.tup []))).bind fun x279 =>
      (A.pick (AV.bool false) x279 (AV.bool false)).bind fun x280 =>
      (A.guard x280 false (some (AV.bool false)) (some (AV.tup []))).bind fun x281 =>
      (A.guard x280 false (some x281) (some (AV.tup []))).bind fun x282 =>
      ((A.lb (r271.1.getD 0 AV.undef)).bind fun _ => some (2)).bind fun p283 =>
            (A.guard x282 true ((A.lb (r271.1.getD 0 AV.undef)).bind fun c284 => A.part1 p283 c284) (some (AV.tup []))).bind fun x285 =>
      (A.guard x282 true (some (r271.1.getD 1 AV.undef)) (some (AV.tup []))).bind fun x286 =>
      (A.guard x282 true (A.quiet (m_word_Within [x285, (AV.int .i64 1), x286] r271.2) r271.2) (some (AV.tup []))).bind fun x287 =>
      (A.guard x282 true (A.not x287) (some (AV.tup []))).bind fun x288 =>
      (A.guard x280 false (A.pick x282 x288 (AV.bool false)) (some (AV.tup []))).bind fun x289 =>
      (A.pick x280 (AV.bool true) x289).bind fun x290 =>
      A.cond x290 (
       A.fin σ (AV.int .i64 1) r271.2) (
       ((A.lb (r271.1.getD 0 AV.undef)).bind fun _ => some (3)).bind fun p291 =>
       ((A.lb (r271.1.getD 0 AV.undef)).bind fun c292 => A.part1 p291 c292).bind fun x293 =>
       (A.lenS x293).bind fun x294 =>
       (A.loop (fun v295 s296 =>
         (A.lss (v295.getD 1 AV.undef) x294).bind fun x298 =>
         A.cond x298 (
          (A.iaddr 4 x293 (v295.getD 1 AV.undef)).bind fun x299 =>
          ((A.deref x299 s296).bind fun c300 => A.partA 0 4 c300).bind fun x301 =>
          (A.cells 4 x301).bind fun c302 =>
          (A.splice 0 c302 [(AV.int .i64 0), (AV.int .i64 0), (AV.int .i64 0), AV.nsl]).bind fun c303 =>
          (A.partA 0 4 c303).bind fun x304 =>
          (rec 38 [x304] s296).bind fun r305 =>
          (A.neq .i r305.1 (AV.int .i64 0)).bind fun x306 =>
          A.cond x306 (
           some (AX.ret, [r305.1, (v295.getD 1 AV.undef)], r305.2)) (
           (A.add (v295.getD 1 AV.undef) (AV.int .i64 1)).bind fun x307 =>
           some (AX.normal, [(v295.getD 0 AV.undef), x307], r305.2))) (
          some (AX.exit 2, [(v295.getD 0 AV.undef), (v295.getD 1 AV.undef)], s296))) [(AV.int .i64 0), (AV.int .i64 0)] r271.2).bind fun r308 =>
       bif r308.1 == AX.exit 2 then (
        A.fin σ (AV.int .i64 0) r308.2.2) else
       bif r308.1 == AX.ret then (
        A.fin σ (r308.2.1.getD 0 AV.undef) r308.2.2) else
       none))) (
     (A.eql .i x2 (AV.int .i64 9)).bind fun x309 =>
     A.cond x309 (
      ((A.lb (r230.1.getD 0 AV.undef)).bind fun _ => some (3)).bind fun p310 =>
      ((A.lb (r230.1.getD 0 AV.undef)).bind fun c311 => A.part1 p310 c311).bind fun x312 =>
      (A.lenS x312).bind fun x313 =>
      (A.neq .i x313 (AV.int .i64 1)).bind fun x314 =>
      ((A.lb (r230.1.getD 0 AV.undef)).bind fun _ => some (0)).bind fun p315 =>
      ((A.lb (r230.1.getD 0 AV.undef)).bind fun c316 => A.part1 p315 c316).bind fun x317 =>
      (A.eql .i x317 (AV.int .i64 4)).bind fun x318 =>
      (A.cond x318 (
       ((A.lb (r230.1.getD 0 AV.undef)).bind fun _ => some (3)).bind fun p320 =>
       ((A.lb (r230.1.getD 0 AV.undef)).bind fun c321 => A.part1 p320 c321).bind fun x322 =>
       (A.lenS x322).bind fun x323 =>
       (A.lss x323 (AV.int .i64 2)).bind fun x324 =>
       some ([(r230.1.getD 0 AV.undef), x324], r230.2)) (
       some ([(r230.1.getD 0 AV.undef), x314], r230.2))).bind fun r319 =>
      (A.guard (r319.1.getD 1 AV.undef) false (some (AV.bool true)) (some (AV.tup []))).bind fun x325 =>
      (A.guard (r319.1.getD 1 AV.undef) false (A.not x325) (some (AV.tup []))).bind fun x326 =>
      (A.guard (r319.1.getD 1 AV.undef) false (some x326) (some (AV.tup []))).bind fun x327 =>
      ((A.lb (r319.1.getD 0 AV.undef)).bind fun _ => some (1)).bind fun p328 =>
            (A.guard x327 true ((A.lb (r319.1.getD 0 AV.undef)).bind fun c329 => A.part1 p328 c329) (some (AV.tup []))).bind fun x330 =>
      (A.guard x327 true (A.neq .i x330 (AV.int .i64 0)) (some (AV.tup []))).bind fun x331 =>
      (A.guard (r319.1.getD 1 AV.undef) false (A.pick x327 x331 (AV.bool false)) (some (AV.tup []))).bind fun x332 =>
      (A.pick (r319.1.getD 1 AV.undef) (AV.bool true) x332).bind fun x333 =>
      (A.guard x333 false (some (AV.bool true)) (some (AV.tup []))).bind fun x334 =>
      (A.guard x333 false (A.not x334) (some (AV.tup []))).bind fun x335 =>
      (A.guard x333 false (some x335) (some (AV.tup []))).bind fun x336 =>
      ((A.lb (r319.1.getD 0 AV.undef)).bind fun _ => some (2)).bind fun p337 =>
            (A.guard x336 true ((A.lb (r319.1.getD 0 AV.undef)).bind fun c338 => A.part1 p337 c338) (some (AV.tup []))).bind fun x339 =>
      (A.guard x336 true (A.neq .i x339 (AV.int .i64 0)) (some (AV.tup []))).bind fun x340 =>
      (A.guard x333 false (A.pick x336 x340 (AV.bool false)) (some (AV.tup []))).bind fun x341 =>
      (A.pick x333 (AV.bool true) x341).bind fun x342 =>
      A.cond x342 (
       A.fin σ (AV.int .i64 3) r319.2) (
       ((A.lb (r319.1.getD 0 AV.undef)).bind fun _ => some (0)).bind fun p343 =>
       ((A.lb (r319.1.getD 0 AV.undef)).bind fun c344 => A.part1 p343 c344).bind fun x345 =>
       (A.eql .i x345 (AV.int .i64 2)).bind fun x346 =>
       (A.cond x346 (
        some ([(r319.1.getD 0 AV.undef), (AV.int .i64 999)], r319.2)) (
        (A.eql .i x345 (AV.int .i64 3)).bind fun x348 =>
        (A.cond x348 (
         some ([(r319.1.getD 0 AV.undef), (AV.int .i64 999)], r319.2)) (
         some ([(r319.1.getD 0 AV.undef), (AV.int .i64 9999)], r319.2))).bind fun r349 =>
        some ([(r349.1.getD 0 AV.undef), (r349.1.getD 1 AV.undef)], r349.2))).bind fun r347 =>
       ((A.lb (r347.1.getD 0 AV.undef)).bind fun _ => some (1)).bind fun p350 =>
              (A.guard (AV.bool true) true ((A.lb (r347.1.getD 0 AV.undef)).bind fun c351 => A.part1 p350 c351) (some (AV.tup []))).bind fun x352 =>
       (A.guard (AV.bool true) true (some (r347.1.getD 1 AV.undef)) (some (AV.tup []))).bind fun x353 =>
       (A.guard (AV.bool true) true (A.quiet (m_word_Within [x352, (AV.int .i64 1), x353] r347.2) r347.2) (some (AV.tup []))).bind fun x354 =>
       (A.guard (AV.bool true) true (A.not x354) (some (AV.tup []))).bind fun x355 =>
       (A.pick (AV.bool true) x355 (AV.bool false)).bind fun x356 =>
       (A.guard x356 false (some (AV.bool true)) (some (AV.tup []))).bind fun x357 =>
       (A.guard x356 false (some x357) (some (AV.tup []))).bind fun x358 =>
       ((A.lb (r347.1.getD 0 AV.undef)).bind fun _ => some (2)).bind fun p359 =>
              (A.guard x358 true ((A.lb (r347.1.getD 0 AV.undef)).bind fun c360 => A.part1 p359 c360) (some (AV.tup []))).bind fun x361 =>
       (A.guard x358 true (some (r347.1.getD 1 AV.undef)) (some (AV.tup []))).bind fun x362 =>
       (A.guard x358 true (A.quiet (m_word_Within [x361, (AV.int .i64 1), x362] r347.2) r347.2) (some (AV.tup []))).bind fun x363 =>
       (A.guard x358 true (A.not x363) (some (AV.tup []))).bind fun x364 =>
       (A.guard x356 false (A.pick x358 x364 (AV.bool false)) (some (AV.tup []))).bind fun x365 =>
       (A.pick x356 (AV.bool true) x365).bind fun x366 =>
       A.cond x366 (
        A.fin σ (AV.int .i64 1) r347.2) (
        ((A.lb (r347.1.getD 0 AV.undef)).bind fun _ => some (3)).bind fun p367 =>
        ((A.lb (r347.1.getD 0 AV.undef)).bind fun c368 => A.part1 p367 c368).bind fun x369 =>
        (A.lenS x369).bind fun x370 =>
        (A.loop (fun v371 s372 =>
          (A.lss (v371.getD 1 AV.undef) x370).bind fun x374 =>
          A.cond x374 (
           (A.iaddr 4 x369 (v371.getD 1 AV.undef)).bind fun x375 =>
           ((A.deref x375 s372).bind fun c376 => A.partA 0 4 c376).bind fun x377 =>
           (A.cells 4 x377).bind fun c378 =>
           (A.splice 0 c378 [(AV.int .i64 0), (AV.int .i64 0), (AV.int .i64 0), AV.nsl]).bind fun c379 =>
           (A.partA 0 4 c379).bind fun x380 =>
           (rec 38 [x380] s372).bind fun r381 =>
           (A.neq .i r381.1 (AV.int .i64 0)).bind fun x382 =>
           A.cond x382 (
            some (AX.ret, [r381.1, (v371.getD 1 AV.undef)], r381.2)) (
            (A.add (v371.getD 1 AV.undef) (AV.int .i64 1)).bind fun x383 =>
            some (AX.normal, [(v371.getD 0 AV.undef), x383], r381.2))) (
           some (AX.exit 2, [(v371.getD 0 AV.undef), (v371.getD 1 AV.undef)], s372))) [(AV.int .i64 0), (AV.int .i64 0)] r347.2).bind fun r384 =>
        bif r384.1 == AX.exit 2 then (
         A.fin σ (AV.int .i64 0) r384.2.2) else
        bif r384.1 == AX.ret then (
         A.fin σ (r384.2.1.getD 0 AV.undef) r384.2.2) else
        none))) (
      A.fin σ (AV.int .i64 4) r230.2)))))
noncomputable def R_pick_check (rec : Nat → List AV → Heap → Option (AV × Heap)) : List (Nat × (List AV → Heap → Option (AV × Heap))) := [(38, A.wrap true [(.a [.k, .k, .k, (.s 4)])] .k (A.ar1 (r_pick_check rec)))]
noncomputable def m_pick_check : List AV → Heap → Option (AV × Heap) := fuel (R_pick_check) 2000000 38
noncomputable def r_pick_Check (a0 : AV) (σ : Heap) : Option (AV × Heap) :=
 (A.cells 4 a0).bind fun c1 =>
 (A.partA 0 4 c1).bind fun x2 =>
 (m_pick_size [x2] σ).bind fun r3 =>
 (A.ext 0 r3.1).bind fun x4 =>
 (A.ext 1 r3.1).bind fun x5 =>
 (A.gtr x4 (AV.int .i64 200)).bind fun x6 =>
 (A.guard x6 false (some x5) (some (AV.tup []))).bind fun x7 =>
 (A.guard x6 false (A.gtr x7 (AV.int .i64 12)) (some (AV.tup []))).bind fun x8 =>
 (A.pick x6 (AV.bool true) x8).bind fun x9 =>
 A.cond x9 (
  A.fin σ (AV.int .i64 2) r3.2) (
  (A.partA 0 4 c1).bind fun x10 =>
  (m_pick_check [x10] r3.2).bind fun r11 =>
  A.fin σ r11.1 r11.2)
noncomputable def m_pick_Check : List AV → Heap → Option (AV × Heap) := A.wrap true [(.a [.k, .k, .k, (.s 4)])] .k (A.ar1 r_pick_Check)
noncomputable def r_pick_class (a0 : AV) (σ : Heap) : Option (AV × Heap) :=
 (A.geq a0 (AV.int .u8 97)).bind fun x1 =>
 (A.guard x1 true (some a0) (some (AV.tup []))).bind fun x2 =>
 (A.guard x1 true (A.leq x2 (AV.int .u8 122)) (some (AV.tup []))).bind fun x3 =>
 (A.pick x1 x3 (AV.bool false)).bind fun x4 =>
 A.cond x4 (
  A.fin σ (AV.int .i64 1) σ) (
  (A.geq a0 (AV.int .u8 48)).bind fun x5 =>
  (A.guard x5 true (some a0) (some (AV.tup []))).bind fun x6 =>
  (A.guard x5 true (A.leq x6 (AV.int .u8 57)) (some (AV.tup []))).bind fun x7 =>
  (A.pick x5 x7 (AV.bool false)).bind fun x8 =>
  A.cond x8 (
   A.fin σ (AV.int .i64 2) σ) (
   A.fin σ (AV.int .i64 0) σ))
noncomputable def m_pick_class : List AV → Heap → Option (AV × Heap) := A.wrap true [] .k (A.ar1 r_pick_class)
noncomputable def r_pick_words (a0 : AV) (σ : Heap) : Option (AV × Heap) :=
 (A.loop (fun v1 s2 =>
   (A.lenZ a0).bind fun x4 =>
   (A.lss (v1.getD 1 AV.undef) x4).bind fun x5 =>
   A.cond x5 (
    (A.sidx a0 (v1.getD 1 AV.undef)).bind fun x6 =>
    (A.eql .i x6 (AV.int .u8 32)).bind fun x7 =>
    A.cond x7 (
     (A.add (v1.getD 1 AV.undef) (AV.int .i64 1)).bind fun x8 =>
     some (AX.normal, [(v1.getD 0 AV.undef), x8], s2)) (
     (A.add (v1.getD 1 AV.undef) (AV.int .i64 1)).bind fun x9 =>
     (A.sidx a0 (v1.getD 1 AV.undef)).bind fun x10 =>
     (m_pick_class [x10] s2).bind fun r11 =>
     (A.loop (fun v12 s13 =>
       (A.gtr r11.1 (AV.int .i64 0)).bind fun x15 =>
       (A.guard x15 true (some (v12.getD 0 AV.undef)) (some (AV.tup []))).bind fun x16 =>
       (A.guard x15 true (some a0) (some (AV.tup []))).bind fun x17 =>
       (A.guard x15 true (A.lenZ x17) (some (AV.tup []))).bind fun x18 =>
       (A.guard x15 true (A.lss x16 x18) (some (AV.tup []))).bind fun x19 =>
       (A.pick x15 x19 (AV.bool false)).bind fun x20 =>
       (A.guard x20 true (some a0) (some (AV.tup []))).bind fun x21 =>
       (A.guard x20 true (some (v12.getD 0 AV.undef)) (some (AV.tup []))).bind fun x22 =>
       (A.guard x20 true (A.sidx x21 x22) (some (AV.tup []))).bind fun x23 =>
       (A.guard x20 true (A.quiet (m_pick_class [x23] s13) s13) (some (AV.tup []))).bind fun x24 =>
       (A.guard x20 true (some r11.1) (some (AV.tup []))).bind fun x25 =>
       (A.guard x20 true (A.eql .i x24 x25) (some (AV.tup []))).bind fun x26 =>
       (A.pick x20 x26 (AV.bool false)).bind fun x27 =>
       A.cond x27 (
        (A.add (v12.getD 0 AV.undef) (AV.int .i64 1)).bind fun x28 =>
        some (AX.normal, [x28], s13)) (
        some (AX.exit 2, [(v12.getD 0 AV.undef)], s13))) [x9] r11.2).bind fun r29 =>
     bif r29.1 == AX.exit 2 then (
      (A.sliceZ a0 (some (v1.getD 1 AV.undef)) (some (r29.2.1.getD 0 AV.undef))).bind fun x30 =>
      (A.gtr r11.1 (AV.int .i64 0)).bind fun x31 =>
      (A.guard x31 true (some (v1.getD 1 AV.undef)) (some (AV.tup []))).bind fun x32 =>
      (A.guard x31 true (A.gtr x32 (AV.int .i64 0)) (some (AV.tup []))).bind fun x33 =>
      (A.pick x31 x33 (AV.bool false)).bind fun x34 =>
      (A.guard x34 true (some a0) (some (AV.tup []))).bind fun x35 =>
      (A.guard x34 true (some (v1.getD 1 AV.undef)) (some (AV.tup []))).bind fun x36 =>
      (A.guard x34 true (A.sub x36 (AV.int .i64 1)) (some (AV.tup []))).bind fun x37 =>
      (A.guard x34 true (A.sidx x35 x37) (some (AV.tup []))).bind fun x38 =>
      (A.guard x34 true (A.quiet (m_pick_class [x38] r29.2.2) r29.2.2) (some (AV.tup []))).bind fun x39 =>
      (A.guard x34 true (A.gtr x39 (AV.int .i64 0)) (some (AV.tup []))).bind fun x40 =>
      (A.pick x34 x40 (AV.bool false)).bind fun x41 =>
      ((((A.cell x30).bind fun v => some [v]).bind fun c42 => (A.splice 0 c42 [(AV.str ⟨#[]⟩), (AV.int .i64 0), (AV.bool false)]).bind fun c43 => ((A.cell (v1.getD 1 AV.undef)).bind fun v => some [v]).bind fun c44 => (A.splice 1 c44 c43).bind fun c45 => ((A.cell x41).bind fun v => some [v]).bind fun c46 => (A.splice 2 c46 c45).bind fun c47 => some c47).bind fun cs => some (AV.agg cs)).bind fun x48 =>
      (((A.cells 3 x48).bind fun c49 => (A.splice 0 c49 [(AV.str ⟨#[]⟩), (AV.int .i64 0), (AV.bool false)]).bind fun c50 => some c50).bind fun cs => some (AV.sl 3 (chunks 3 1 cs))).bind fun x51 =>
      (A.append 3 (140737488355328 / 32) (v1.getD 0 AV.undef) x51 r29.2.2).bind fun r52 =>
      some (AX.normal, [r52.1, (r29.2.1.getD 0 AV.undef)], r52.2)) else
     none)) (
    some (AX.exit 0, [(v1.getD 0 AV.undef), (v1.getD 1 AV.undef)], s2))) [AV.nsl, (AV.int .i64 0)] σ).bind fun r53 =>
 bif r53.1 == AX.exit 0 then (
  (A.lenZ a0).bind fun x54 =>
  ((((A.cell (AV.str ⟨#[]⟩)).bind fun v => some [v]).bind fun c55 => (A.splice 0 c55 [(AV.str ⟨#[]⟩), (AV.int .i64 0), (AV.bool false)]).bind fun c56 => ((A.cell x54).bind fun v => some [v]).bind fun c57 => (A.splice 1 c57 c56).bind fun c58 => ((A.cell (AV.bool false)).bind fun v => some [v]).bind fun c59 => (A.splice 2 c59 c58).bind fun c60 => some c60).bind fun cs => some (AV.agg cs)).bind fun x61 =>
  (((A.cells 3 x61).bind fun c62 => (A.splice 0 c62 [(AV.str ⟨#[]⟩), (AV.int .i64 0), (AV.bool false)]).bind fun c63 => some c63).bind fun cs => some (AV.sl 3 (chunks 3 1 cs))).bind fun x64 =>
  (A.append 3 (140737488355328 / 32) (r53.2.1.getD 0 AV.undef) x64 r53.2.2).bind fun r65 =>
  A.fin σ r65.1 r65.2) else
 none
noncomputable def m_pick_words : List AV → Heap → Option (AV × Heap) := A.wrap true [] (.s 3) (A.ar1 r_pick_words)
end Go.Proofs.YtfalbgflabajbaaDoor

namespace Go.Proofs.YtfalbgflabajbaaDoor
set_option linter.unusedSectionVars false
set_option linter.unusedVariables false
set_option linter.unusedSimpArgs false
inductive PickD where
 | mk (kind from_ to_ : Int) (args : List PickD)
namespace PickD
set_option linter.unusedSectionVars false
def kind : PickD → Int | .mk k _ _ _ => k
def from_ : PickD → Int | .mk _ f _ _ => f
def to_ : PickD → Int | .mk _ _ t _ => t
def args : PickD → List PickD | .mk _ _ _ l => l
end PickD
mutual
def pSize : PickD → Nat
 | .mk _ _ _ l => 1 + pSizes l
def pSizes : List PickD → Nat
 | [] => 0
 | p :: l => pSize p + pSizes l
end
mutual
def pDeep : PickD → Nat
 | .mk _ _ _ l => 1 + pDeeps l
def pDeeps : List PickD → Nat
 | [] => 0
 | p :: l => max (pDeep p) (pDeeps l)
end
theorem pSize_eq (p : PickD) : pSize p = 1 + pSizes p.args := by cases p; rw [pSize]; rfl
theorem pDeep_eq (p : PickD) : pDeep p = 1 + pDeeps p.args := by cases p; rw [pDeep]; rfl
theorem pSizes_mem {p : PickD} : ∀ {l : List PickD}, p ∈ l → pSize p ≤ pSizes l
 | q :: l, h => by
  rw [pSizes]
  rcases List.mem_cons.1 h with rfl | h
  ·omega
  ·have := pSizes_mem h; omega
theorem pSizes_sum : ∀ l : List PickD, pSizes l = (l.map pSize).sum
 | [] => by rw [pSizes]; rfl
 | p :: l => by rw [pSizes, List.map_cons, List.sum_cons, pSizes_sum l]
theorem pSize_arg {p q : PickD} (h : q ∈ p.args) : pSize q < pSize p := by
 rw [pSize_eq p]
 have := pSizes_mem h
 omega
namespace PickD
set_option linter.unusedSectionVars false
def frm : PickD → Int := from_
def to : PickD → Int := to_
end PickD
mutual
def cPick : PickD → List AV
 | .mk k f t l => [.int .i64 k, .int .i64 f, .int .i64 t, .sl 4 (cPicks l)]
def cPicks : List PickD → List (List AV)
 | [] => []
 | p :: l => cPick p :: cPicks l
end
theorem cPicks_eq : ∀ l : List PickD, cPicks l = l.map cPick
 | [] => by rw [cPicks]; rfl
 | p :: l => by rw [cPicks, cPicks_eq l]; rfl
theorem cPick_eq (p : PickD) : cPick p = [.int .i64 p.kind, .int .i64 p.frm, .int .i64 p.to, sl 4 cPick p.args] := by
 cases p; rw [cPick, cPicks_eq]; rfl
theorem cPick_len (p : PickD) : (cPick p).length = 4 := by rw [cPick_eq]; rfl
structure GroupD where
 number : Int
 pick : PickD
instance : Inhabited PickD := ⟨.mk 0 0 0 []⟩
instance : Inhabited GroupD := ⟨⟨0, default⟩⟩
theorem ce_cPick (p : PickD) : A.cells 4 (.agg (cPick p)) = some (cPick p) := by rw [cPick_eq]; rfl
theorem pA_cPick (p : PickD) : A.partA 0 4 (cPick p) = some (.agg (cPick p)) := by rw [cPick_eq]; rfl
theorem sp_cPick (x : PickD) (l : List AV) (h : l.length = 4) : A.splice 0 (cPick x) l = some (cPick x) := by
 simp [A.splice, cPick_len, h]
end Go.Proofs.YtfalbgflabajbaaDoor

namespace Go.Proofs.YtfalbgflabajbaaDoor
set_option linter.unusedSectionVars false
set_option linter.unusedVariables false
set_option linter.unusedSimpArgs false
def clsB (b : UInt8) : Nat := if 97 ≤ b.toNat ∧ b.toNat ≤ 122 then 1 else if 48 ≤ b.toNat ∧ b.toNat ≤ 57 then 2 else 0
structure TokD where
 text : List UInt8
 pos : Nat
 touch : Bool
def runB (b : UInt8) (r : List UInt8) : Nat := if clsB b = 0 then 0 else (r.takeWhile fun c => decide (clsB c = clsB b)).length
def toksP : Nat → Nat → Nat → List UInt8 → List TokD
 | _, pos, _, [] => [⟨[], pos, false⟩]
 | 0, pos, _, _ => [⟨[], pos, false⟩]
 | f + 1, pos, prev, b :: r =>
  if b = 32 then toksP f (pos + 1) 0 r
  else ⟨(b :: r).take (runB b r + 1), pos, decide (0 < clsB b ∧ 0 < prev)⟩ :: toksP f (pos + runB b r + 1) (clsB b) (r.drop (runB b r))
inductive PR (α : Type) where
 | ok (x : α) (l : List TokD)
 | bad (pos : Nat)
 | large
 | out
namespace PR
set_option linter.unusedSectionVars false
def bind {α β : Type} (r : PR α) (k : α → List TokD → PR β) : PR β := match r with
 | .ok x l => k x l
 | .bad n => .bad n
 | .large => .large
 | .out => .out
end PR
def takP (s : List UInt8) : List TokD → Option (List TokD)
 | [] => none
 | t :: r => if t.text = s ∧ t.touch = false then some r else none
def posP : List TokD → Nat
 | [] => 0
 | t :: _ => t.pos
def numP : List TokD → PR Int
 | [] => .bad 0
 | t :: r => if (numZ (bZ t.text) 9).2 = true ∧ t.touch = false then .ok (numZ (bZ t.text) 9).1 r else .bad t.pos
def wPlus : List UInt8 := [43]
def wMinus : List UInt8 := [45]
def wOpen : List UInt8 := [40]
def wShut : List UInt8 := [41]
def wGroup : List UInt8 := [103, 114, 111, 117, 112]
def wPreset : List UInt8 := [112, 114, 101, 115, 101, 116]
def wOdd : List UInt8 := [111, 100, 100]
def wEven : List UInt8 := [101, 118, 101, 110]
def wBk : List UInt8 := [98, 97, 99, 107]
def wEvery : List UInt8 := [101, 118, 101, 114, 121]
def wFrom : List UInt8 := [102, 114, 111, 109]
def wThru : List UInt8 := [116, 104, 114, 117]
mutual
def whlP : Nat → Nat → List TokD → PR PickD
 | 0, _, _ => .out
 | f + 1, deep, l => (parP f deep l).bind fun p l => rowP f deep p false l
def rowP : Nat → Nat → PickD → Bool → List TokD → PR PickD
 | 0, _, _, _, _ => .out
 | f + 1, deep, p, row, l => match takP wPlus l with
  | some l1 => (parP f deep l1).bind fun q l2 => rowP f deep (if row then .mk p.kind p.frm p.to (p.args ++ [q]) else .mk 4 0 0 [p, q]) true l2
  | none => match takP wMinus l with
   | some l1 => (parP f deep l1).bind fun q l2 => rowP f deep (.mk 5 0 0 [p, q]) false l2
   | none => .ok p l
def parP : Nat → Nat → List TokD → PR PickD
 | 0, _, _ => .out
 | f + 1, deep, l => match takP wGroup l with
  | some l1 => (numP l1).bind fun n l2 => .ok (.mk 2 n 0 []) l2
  | none => match takP wPreset l with
   | some l1 => (numP l1).bind fun n l2 => .ok (.mk 3 n 0 []) l2
   | none => match takP wOpen l with
    | some l1 => if 100 ≤ deep then .large else (whlP f (deep + 1) l1).bind fun p l2 => match takP wShut l2 with
     | some l3 => .ok p l3
     | none => .bad (posP l2)
    | none => match takP wOdd l with
     | some l1 => prfP f deep (.mk 6 0 0 []) l1
     | none => match takP wEven l with
      | some l1 => prfP f deep (.mk 7 0 0 []) l1
      | none => match takP wBk l with
       | some l1 => prfP f deep (.mk 8 0 0 []) l1
       | none => match takP wEvery l with
        | some l1 => if 100 ≤ deep then .large else (numP l1).bind fun n l2 => match takP wFrom l2 with
         | some l3 => (numP l3).bind fun m l4 => prfP f deep (.mk 9 n m []) l4
         | none => .bad (posP l2)
        | none => (numP l).bind fun n l1 => match takP wThru l1 with
         | some l2 => (numP l2).bind fun m l3 => if m = n then .bad (posP l2) else .ok (.mk 1 n m []) l3
         | none => .ok (.mk 1 n n []) l1
def prfP : Nat → Nat → PickD → List TokD → PR PickD
 | 0, _, _, _ => .out
 | f + 1, deep, p, l => if 100 ≤ deep then .large else (parP f (deep + 1) l).bind fun q l1 => .ok (.mk p.kind p.frm p.to [q]) l1
end
end Go.Proofs.YtfalbgflabajbaaDoor

namespace Go.Proofs.YtfalbgflabajbaaDoor
set_option linter.unusedSectionVars false
set_option linter.unusedVariables false
set_option linter.unusedSimpArgs false
theorem takP_len {s : List UInt8} {l l1 : List TokD} (h : takP s l = some l1) : l1.length < l.length := by
 cases l with
 | nil => cases h
 | cons t r =>
  simp only [takP] at h
  split at h
  ·injection h with h; subst h; simp
  ·cases h
theorem numP_len {l l1 : List TokD} {n : Int} (h : numP l = .ok n l1) : l1.length < l.length := by
 cases l with
 | nil => cases h
 | cons t r =>
  simp only [numP] at h
  split at h
  ·injection h with _ h; subst h; simp
  ·cases h
theorem bind_ok {α β : Type} {r : PR α} {k : α → List TokD → PR β} {x : β} {l : List TokD} (h : r.bind k = .ok x l) : ∃ y m, r = .ok y m ∧ k y m = .ok x l := by
 cases r with
 | ok y m => exact ⟨y, m, rfl, h⟩
 | bad _ => cases h
 | large => cases h
 | out => cases h
theorem par_len (f : Nat) : (∀ deep l p l', parP f deep l = .ok p l' → l'.length < l.length) ∧ (∀ deep l p l', whlP f deep l = .ok p l' → l'.length < l.length) ∧ (∀ deep p b l q l', rowP f deep p b l = .ok q l' → l'.length ≤ l.length) ∧ (∀ deep p l q l', prfP f deep p l = .ok q l' → l'.length < l.length) := by
 induction f with
 | zero => exact ⟨fun _ _ _ _ h => (by rw [parP] at h; cases h), fun _ _ _ _ h => (by rw [whlP] at h; cases h), fun _ _ _ _ _ _ h => (by rw [rowP] at h; cases h), fun _ _ _ _ _ h => (by rw [prfP] at h; cases h)⟩
 | succ f ih =>
  obtain ⟨i1, i2, i3, i4⟩ := ih
  refine ⟨fun deep l p l' h => ?_, fun deep l p l' h => ?_, fun deep p b l q l' h => ?_, fun deep p l q l' h => ?_⟩
  ·rw [parP] at h
   split at h
   ·rename_i h1
    obtain ⟨n, m, h2, h3⟩ := bind_ok h
    injection h3 with _ h3; subst h3
    have := takP_len h1; have := numP_len h2; omega
   split at h
   ·rename_i h1
    obtain ⟨n, m, h2, h3⟩ := bind_ok h
    injection h3 with _ h3; subst h3
    have := takP_len h1; have := numP_len h2; omega
   split at h
   ·rename_i h1
    split at h
    ·cases h
    obtain ⟨n, m, h2, h3⟩ := bind_ok h
    split at h3
    ·rename_i h4
     injection h3 with _ h3; subst h3
     have := takP_len h1; have := takP_len h4; have := i2 _ _ _ _ h2; omega
    ·cases h3
   split at h
   ·rename_i h1; have := takP_len h1; have := i4 _ _ _ _ _ h; omega
   split at h
   ·rename_i h1; have := takP_len h1; have := i4 _ _ _ _ _ h; omega
   split at h
   ·rename_i h1; have := takP_len h1; have := i4 _ _ _ _ _ h; omega
   split at h
   ·rename_i h1
    split at h
    ·cases h
    obtain ⟨n, m, h2, h3⟩ := bind_ok h
    split at h3
    ·rename_i h4
     obtain ⟨n2, m2, h5, h6⟩ := bind_ok h3
     have := takP_len h1; have := takP_len h4; have := numP_len h2; have := numP_len h5; have := i4 _ _ _ _ _ h6; omega
    ·cases h3
   obtain ⟨n, m, h2, h3⟩ := bind_ok h
   split at h3
   ·rename_i h4
    obtain ⟨n2, m2, h5, h6⟩ := bind_ok h3
    split at h6
    ·cases h6
    injection h6 with _ h6; subst h6
    have := takP_len h4; have := numP_len h2; have := numP_len h5; omega
   ·injection h3 with _ h3; subst h3
    exact numP_len h2
  ·rw [whlP] at h
   obtain ⟨n, m, h2, h3⟩ := bind_ok h
   have := i1 _ _ _ _ h2; have := i3 _ _ _ _ _ _ h3; omega
  ·rw [rowP] at h
   split at h
   ·rename_i h1
    obtain ⟨n, m, h2, h3⟩ := bind_ok h
    have := takP_len h1; have := i1 _ _ _ _ h2; have := i3 _ _ _ _ _ _ h3; omega
   split at h
   ·rename_i h1
    obtain ⟨n, m, h2, h3⟩ := bind_ok h
    have := takP_len h1; have := i1 _ _ _ _ h2; have := i3 _ _ _ _ _ _ h3; omega
   ·injection h with _ h; subst h; exact Nat.le_refl _
  ·rw [prfP] at h
   split at h
   ·cases h
   obtain ⟨n, m, h2, h3⟩ := bind_ok h
   injection h3 with _ h3; subst h3
   exact i1 _ _ _ _ h2
end Go.Proofs.YtfalbgflabajbaaDoor

namespace Go.Proofs.YtfalbgflabajbaaDoor
set_option linter.unusedSectionVars false
set_option linter.unusedVariables false
set_option linter.unusedSimpArgs false
theorem bind_out {α β : Type} {r : PR α} {k : α → List TokD → PR β} (h : r.bind k = .out) : r = .out ∨ ∃ y m, r = .ok y m ∧ k y m = .out := by
 cases r with
 | ok y m => exact .inr ⟨y, m, rfl, h⟩
 | bad _ => cases h
 | large => cases h
 | out => exact .inl rfl
theorem numP_out {l : List TokD} : numP l ≠ .out := by
 cases l with
 | nil => intro h; cases h
 | cons t r =>
  simp only [numP]
  split <;> (intro h; cases h)
theorem par_fuel (f : Nat) : (∀ deep l, 2 * l.length + 1 ≤ f → parP f deep l ≠ .out) ∧ (∀ deep l, 2 * l.length + 2 ≤ f → whlP f deep l ≠ .out) ∧ (∀ deep p b l, 2 * l.length + 1 ≤ f → rowP f deep p b l ≠ .out) ∧ (∀ deep p l, 2 * l.length + 2 ≤ f → prfP f deep p l ≠ .out) := by
 induction f with
 | zero => exact ⟨fun _ _ h => by omega, fun _ _ h => by omega, fun _ _ _ _ h => by omega, fun _ _ _ h => by omega⟩
 | succ f ih =>
  obtain ⟨i1, i2, i3, i4⟩ := ih
  refine ⟨fun deep l hl h => ?_, fun deep l hl h => ?_, fun deep p b l hl h => ?_, fun deep p l hl h => ?_⟩
  ·rw [parP] at h
   split at h
   ·rcases bind_out h with h | ⟨_, _, _, h⟩
    ·exact numP_out h
    ·cases h
   split at h
   ·rcases bind_out h with h | ⟨_, _, _, h⟩
    ·exact numP_out h
    ·cases h
   split at h
   ·rename_i h1
    have := takP_len h1
    split at h
    ·cases h
    rcases bind_out h with h | ⟨_, _, _, h⟩
    ·exact i2 _ _ (by omega) h
    ·split at h <;> cases h
   split at h
   ·rename_i h1; have := takP_len h1; exact i4 _ _ _ (by omega) h
   split at h
   ·rename_i h1; have := takP_len h1; exact i4 _ _ _ (by omega) h
   split at h
   ·rename_i h1; have := takP_len h1; exact i4 _ _ _ (by omega) h
   split at h
   ·rename_i h1
    have := takP_len h1
    split at h
    ·cases h
    rcases bind_out h with h | ⟨_, _, h2, h⟩
    ·exact numP_out h
    have := numP_len h2
    split at h
    ·rename_i h3
     have := takP_len h3
     rcases bind_out h with h | ⟨_, _, h4, h⟩
     ·exact numP_out h
     have := numP_len h4
     exact i4 _ _ _ (by omega) h
    ·cases h
   rcases bind_out h with h | ⟨_, _, _, h⟩
   ·exact numP_out h
   split at h
   ·rcases bind_out h with h | ⟨_, _, _, h⟩
    ·exact numP_out h
    split at h <;> cases h
   ·cases h
  ·rw [whlP] at h
   rcases bind_out h with h | ⟨_, _, h2, h⟩
   ·exact i1 _ _ (by omega) h
   have := (par_len f).1 _ _ _ _ h2
   exact i3 _ _ _ _ (by omega) h
  ·rw [rowP] at h
   split at h
   ·rename_i h1
    have := takP_len h1
    rcases bind_out h with h | ⟨_, _, h2, h⟩
    ·exact i1 _ _ (by omega) h
    have := (par_len f).1 _ _ _ _ h2
    exact i3 _ _ _ _ (by omega) h
   split at h
   ·rename_i h1
    have := takP_len h1
    rcases bind_out h with h | ⟨_, _, h2, h⟩
    ·exact i1 _ _ (by omega) h
    have := (par_len f).1 _ _ _ _ h2
    exact i3 _ _ _ _ (by omega) h
   ·cases h
  ·rw [prfP] at h
   split at h
   ·cases h
   rcases bind_out h with h | ⟨_, _, _, h⟩
   ·exact i1 _ _ (by omega) h
   ·cases h
end Go.Proofs.YtfalbgflabajbaaDoor

namespace Go.Proofs.YtfalbgflabajbaaDoor
set_option linter.unusedSectionVars false
set_option linter.unusedSimpArgs false
set_option linter.unusedVariables false
def prT (p : PickD) (at_ e : Int) : AV := .tup [.agg (cPick p), .int .i64 at_, .int .i64 e]
def prS (s : List UInt8) : PR PickD := match whlP (2 * s.length + 10) 0 (toksP s.length 0 0 s) with
 | .ok p l => if posP l < s.length then .bad (posP l) else .ok p l
 | .bad n => .bad n
 | .large => .large
 | .out => .out
noncomputable def prE (p : PickD) : Option (AV × Heap) := (m_pick_Check [.agg (cPick p)] []).bind fun q => match q with
 | (.int .i64 e, []) => some (if e = 0 then prT p 0 0 else prT (.mk 0 0 0 []) 0 e, [])
 | _ => none
noncomputable def m_pick_Parse : List AV → Heap → Option (AV × Heap) := A.ar1 fun x σ => match σ, x with
 | [], .str s => if 4000 < s.size then some (prT (.mk 0 0 0 []) 0 2, []) else match prS (lZ s) with
  | .ok p _ => prE p
  | .bad n => some (prT (.mk 0 0 0 []) n 9, [])
  | .large => some (prT (.mk 0 0 0 []) 0 2, [])
  | .out => none
 | _, _ => none
end Go.Proofs.YtfalbgflabajbaaDoor

namespace Go.Proofs.YtfalbgflabajbaaDoor
set_option linter.unusedSectionVars false
set_option linter.unusedSimpArgs false
set_option linter.unusedVariables false
set_option maxRecDepth 100000
noncomputable def r_R1_Within (a0 a1 a2 : AV) (σ : Heap) : Option (AV × Heap) :=
 (A.geq a0 a1).bind fun x1 =>
 (A.guard x1 true (some a0) (some (AV.tup []))).bind fun x2 =>
 (A.guard x1 true (some a2) (some (AV.tup []))).bind fun x3 =>
 (A.guard x1 true (A.leq x2 x3) (some (AV.tup []))).bind fun x4 =>
 (A.pick x1 x4 (AV.bool false)).bind fun x5 =>
 A.fin σ x5 σ
noncomputable def m_R1_Within : List AV → Heap → Option (AV × Heap) := A.wrap true [] .k (A.ar3 r_R1_Within)
end Go.Proofs.YtfalbgflabajbaaDoor

namespace Go.Proofs.YtfalbgflabajbaaDoor
set_option linter.unusedSectionVars false
set_option linter.unusedSimpArgs false
set_option linter.unusedVariables false
set_option maxRecDepth 100000
noncomputable def r_R4_parts (rec : Nat → List AV → Heap → Option (AV × Heap)) (a0 a1 : AV) (σ : Heap) : Option (AV × Heap) :=
 (A.cells 4 a0).bind fun c1 =>
 (A.gtr a1 (AV.int .i64 12)).bind fun x2 =>
 A.cond x2 (
  A.fin σ (AV.tup [(AV.int .i64 1), a1]) σ) (
  (A.part1 3 c1).bind fun x3 =>
  (A.lenS x3).bind fun x4 =>
  (A.loop (fun v5 s6 =>
    (A.lss (v5.getD 2 AV.undef) x4).bind fun x8 =>
    A.cond x8 (
     (A.iaddr 4 x3 (v5.getD 2 AV.undef)).bind fun x9 =>
     ((A.deref x9 s6).bind fun c10 => A.partA 0 4 c10).bind fun x11 =>
     (A.cells 4 x11).bind fun c12 =>
     (A.splice 0 c12 [(AV.int .i64 0), (AV.int .i64 0), (AV.int .i64 0), AV.nsl]).bind fun c13 =>
     (A.partA 0 4 c13).bind fun x14 =>
     (A.add a1 (AV.int .i64 1)).bind fun x15 =>
     (rec 46 [x14, x15] s6).bind fun r16 =>
     (A.ext 0 r16.1).bind fun x17 =>
     (A.ext 1 r16.1).bind fun x18 =>
     (A.add (v5.getD 0 AV.undef) x17).bind fun x19 =>
     (A.min x19 (AV.int .i64 201)).bind fun x20 =>
     (A.max (v5.getD 1 AV.undef) x18).bind fun x21 =>
     (A.add (v5.getD 2 AV.undef) (AV.int .i64 1)).bind fun x22 =>
     some (AX.normal, [x20, x21, x22], r16.2)) (
     some (AX.exit 0, [(v5.getD 0 AV.undef), (v5.getD 1 AV.undef), (v5.getD 2 AV.undef)], s6))) [(AV.int .i64 1), a1, (AV.int .i64 0)] σ).bind fun r23 =>
  bif r23.1 == AX.exit 0 then (
   A.fin σ (AV.tup [(r23.2.1.getD 0 AV.undef), (r23.2.1.getD 1 AV.undef)]) r23.2.2) else
  none)
noncomputable def R_R4_parts (rec : Nat → List AV → Heap → Option (AV × Heap)) : List (Nat × (List AV → Heap → Option (AV × Heap))) := [(46, A.wrap true [(.a [.k, .k, .k, (.s 4)])] .k (A.ar2 (r_R4_parts rec)))]
noncomputable def m_R4_parts : List AV → Heap → Option (AV × Heap) := fuel (R_R4_parts) 2000000 46
noncomputable def r_R4_used (a0 : AV) (σ : Heap) : Option (AV × Heap) :=
 (A.eql .i a0 (AV.int .i64 1)).bind fun x1 =>
 A.cond x1 (
  A.fin σ (AV.tup [(AV.bool true), (AV.bool true), (AV.int .i64 0)]) σ) (
  (A.eql .i a0 (AV.int .i64 2)).bind fun x2 =>
  (A.cond x2 (
   some ([x2], σ)) (
   (A.eql .i a0 (AV.int .i64 3)).bind fun x4 =>
   some ([x4], σ))).bind fun r3 =>
  A.cond (r3.1.getD 0 AV.undef) (
   A.fin σ (AV.tup [(AV.bool true), (AV.bool false), (AV.int .i64 0)]) r3.2) (
   (A.eql .i a0 (AV.int .i64 4)).bind fun x5 =>
   A.cond x5 (
    A.fin σ (AV.tup [(AV.bool false), (AV.bool false), (AV.int .i64 (-1))]) r3.2) (
    (A.eql .i a0 (AV.int .i64 5)).bind fun x6 =>
    A.cond x6 (
     A.fin σ (AV.tup [(AV.bool false), (AV.bool false), (AV.int .i64 2)]) r3.2) (
     (A.eql .i a0 (AV.int .i64 9)).bind fun x7 =>
     A.cond x7 (
      A.fin σ (AV.tup [(AV.bool true), (AV.bool true), (AV.int .i64 1)]) r3.2) (
      A.fin σ (AV.tup [(AV.bool false), (AV.bool false), (AV.int .i64 1)]) r3.2)))))
noncomputable def m_R4_used : List AV → Heap → Option (AV × Heap) := A.wrap true [] .k (A.ar1 r_R4_used)
noncomputable def r_R4_checkPart (rec : Nat → List AV → Heap → Option (AV × Heap)) (a0 : AV) (σ : Heap) : Option (AV × Heap) :=
 (A.cells 4 a0).bind fun c1 =>
 (A.part1 0 c1).bind fun x2 =>
 (m_R1_Within [x2, (AV.int .i64 1), (AV.int .i64 9)] σ).bind fun r3 =>
 (A.not r3.1).bind fun x4 =>
 A.cond x4 (
  A.fin σ (AV.int .i64 4) r3.2) (
  (A.part1 0 c1).bind fun x5 =>
  (m_R4_used [x5] r3.2).bind fun r6 =>
  (A.ext 0 r6.1).bind fun x7 =>
  (A.ext 1 r6.1).bind fun x8 =>
  (A.ext 2 r6.1).bind fun x9 =>
  (A.not x7).bind fun x10 =>
  (A.guard x10 true (A.part1 1 c1) (some (AV.tup []))).bind fun x11 =>
  (A.guard x10 true (A.neq .i x11 (AV.int .i64 0)) (some (AV.tup []))).bind fun x12 =>
  (A.pick x10 x12 (AV.bool false)).bind fun x13 =>
  (A.guard x13 false (some x8) (some (AV.tup []))).bind fun x14 =>
  (A.guard x13 false (A.not x14) (some (AV.tup []))).bind fun x15 =>
  (A.guard x13 false (some x15) (some (AV.tup []))).bind fun x16 =>
  (A.guard x16 true (A.part1 2 c1) (some (AV.tup []))).bind fun x17 =>
  (A.guard x16 true (A.neq .i x17 (AV.int .i64 0)) (some (AV.tup []))).bind fun x18 =>
  (A.guard x13 false (A.pick x16 x18 (AV.bool false)) (some (AV.tup []))).bind fun x19 =>
  (A.pick x13 (AV.bool true) x19).bind fun x20 =>
  (A.guard x20 false (some x9) (some (AV.tup []))).bind fun x21 =>
  (A.guard x20 false (A.geq x21 (AV.int .i64 0)) (some (AV.tup []))).bind fun x22 =>
  (A.guard x20 false (some x22) (some (AV.tup []))).bind fun x23 =>
  (A.guard x23 true (A.part1 3 c1) (some (AV.tup []))).bind fun x24 =>
  (A.guard x23 true (A.lenS x24) (some (AV.tup []))).bind fun x25 =>
  (A.guard x23 true (some x9) (some (AV.tup []))).bind fun x26 =>
  (A.guard x23 true (A.neq .i x25 x26) (some (AV.tup []))).bind fun x27 =>
  (A.guard x20 false (A.pick x23 x27 (AV.bool false)) (some (AV.tup []))).bind fun x28 =>
  (A.pick x20 (AV.bool true) x28).bind fun x29 =>
  (A.guard x29 false (some x9) (some (AV.tup []))).bind fun x30 =>
  (A.guard x29 false (A.lss x30 (AV.int .i64 0)) (some (AV.tup []))).bind fun x31 =>
  (A.guard x29 false (some x31) (some (AV.tup []))).bind fun x32 =>
  (A.guard x32 true (A.part1 3 c1) (some (AV.tup []))).bind fun x33 =>
  (A.guard x32 true (A.lenS x33) (some (AV.tup []))).bind fun x34 =>
  (A.guard x32 true (A.lss x34 (AV.int .i64 2)) (some (AV.tup []))).bind fun x35 =>
  (A.guard x29 false (A.pick x32 x35 (AV.bool false)) (some (AV.tup []))).bind fun x36 =>
  (A.pick x29 (AV.bool true) x36).bind fun x37 =>
  A.cond x37 (
   A.fin σ (AV.int .i64 3) r6.2) (
   (A.part1 0 c1).bind fun x38 =>
   (A.eql .i x38 (AV.int .i64 2)).bind fun x39 =>
   (A.cond x39 (
    some ([(AV.lbx c1), (AV.int .i64 999)], r6.2)) (
    (A.eql .i x38 (AV.int .i64 3)).bind fun x41 =>
    (A.cond x41 (
     some ([(AV.lbx c1), (AV.int .i64 999)], r6.2)) (
     some ([(AV.lbx c1), (AV.int .i64 9999)], r6.2))).bind fun r42 =>
    some ([(r42.1.getD 0 AV.undef), (r42.1.getD 1 AV.undef)], r42.2))).bind fun r40 =>
   ((A.lb (r40.1.getD 0 AV.undef)).bind fun _ => some (1)).bind fun p43 =>
      (A.guard x7 true ((A.lb (r40.1.getD 0 AV.undef)).bind fun c44 => A.part1 p43 c44) (some (AV.tup []))).bind fun x45 =>
   (A.guard x7 true (some (r40.1.getD 1 AV.undef)) (some (AV.tup []))).bind fun x46 =>
   (A.guard x7 true (A.quiet (m_R1_Within [x45, (AV.int .i64 1), x46] r40.2) r40.2) (some (AV.tup []))).bind fun x47 =>
   (A.guard x7 true (A.not x47) (some (AV.tup []))).bind fun x48 =>
   (A.pick x7 x48 (AV.bool false)).bind fun x49 =>
   (A.guard x49 false (some x8) (some (AV.tup []))).bind fun x50 =>
   (A.guard x49 false (some x50) (some (AV.tup []))).bind fun x51 =>
   ((A.lb (r40.1.getD 0 AV.undef)).bind fun _ => some (2)).bind fun p52 =>
      (A.guard x51 true ((A.lb (r40.1.getD 0 AV.undef)).bind fun c53 => A.part1 p52 c53) (some (AV.tup []))).bind fun x54 =>
   (A.guard x51 true (A.quiet (m_R1_Within [x54, (AV.int .i64 1), (AV.int .i64 9999)] r40.2) r40.2) (some (AV.tup []))).bind fun x55 =>
   (A.guard x51 true (A.not x55) (some (AV.tup []))).bind fun x56 =>
   (A.guard x49 false (A.pick x51 x56 (AV.bool false)) (some (AV.tup []))).bind fun x57 =>
   (A.pick x49 (AV.bool true) x57).bind fun x58 =>
   A.cond x58 (
    A.fin σ (AV.int .i64 1) r40.2) (
    ((A.lb (r40.1.getD 0 AV.undef)).bind fun _ => some (3)).bind fun p59 =>
    ((A.lb (r40.1.getD 0 AV.undef)).bind fun c60 => A.part1 p59 c60).bind fun x61 =>
    (A.lenS x61).bind fun x62 =>
    (A.loop (fun v63 s64 =>
      (A.lss (v63.getD 1 AV.undef) x62).bind fun x66 =>
      A.cond x66 (
       (A.iaddr 4 x61 (v63.getD 1 AV.undef)).bind fun x67 =>
       ((A.deref x67 s64).bind fun c68 => A.partA 0 4 c68).bind fun x69 =>
       (A.cells 4 x69).bind fun c70 =>
       (A.splice 0 c70 [(AV.int .i64 0), (AV.int .i64 0), (AV.int .i64 0), AV.nsl]).bind fun c71 =>
       (A.partA 0 4 c71).bind fun x72 =>
       (rec 48 [x72] s64).bind fun r73 =>
       (A.neq .i r73.1 (AV.int .i64 0)).bind fun x74 =>
       A.cond x74 (
        some (AX.ret, [r73.1, (v63.getD 1 AV.undef)], r73.2)) (
        (A.add (v63.getD 1 AV.undef) (AV.int .i64 1)).bind fun x75 =>
        some (AX.normal, [(v63.getD 0 AV.undef), x75], r73.2))) (
       some (AX.exit 1, [(v63.getD 0 AV.undef), (v63.getD 1 AV.undef)], s64))) [(AV.int .i64 0), (AV.int .i64 0)] r40.2).bind fun r76 =>
    bif r76.1 == AX.exit 1 then (
     A.fin σ (AV.int .i64 0) r76.2.2) else
    bif r76.1 == AX.ret then (
     A.fin σ (r76.2.1.getD 0 AV.undef) r76.2.2) else
    none)))
noncomputable def R_R4_checkPart (rec : Nat → List AV → Heap → Option (AV × Heap)) : List (Nat × (List AV → Heap → Option (AV × Heap))) := [(48, A.wrap true [(.a [.k, .k, .k, (.s 4)])] .k (A.ar1 (r_R4_checkPart rec)))]
noncomputable def m_R4_checkPart : List AV → Heap → Option (AV × Heap) := fuel (R_R4_checkPart) 2000000 48
noncomputable def r_R4_Check (a0 : AV) (σ : Heap) : Option (AV × Heap) :=
 (A.cells 4 a0).bind fun c1 =>
 (A.partA 0 4 c1).bind fun x2 =>
 (m_R4_parts [x2, (AV.int .i64 1)] σ).bind fun r3 =>
 (A.ext 0 r3.1).bind fun x4 =>
 (A.ext 1 r3.1).bind fun x5 =>
 (A.gtr x4 (AV.int .i64 200)).bind fun x6 =>
 (A.guard x6 false (some x5) (some (AV.tup []))).bind fun x7 =>
 (A.guard x6 false (A.gtr x7 (AV.int .i64 12)) (some (AV.tup []))).bind fun x8 =>
 (A.pick x6 (AV.bool true) x8).bind fun x9 =>
 A.cond x9 (
  A.fin σ (AV.int .i64 2) r3.2) (
  (A.partA 0 4 c1).bind fun x10 =>
  (m_R4_checkPart [x10] r3.2).bind fun r11 =>
  A.fin σ r11.1 r11.2)
noncomputable def m_R4_Check : List AV → Heap → Option (AV × Heap) := A.wrap true [(.a [.k, .k, .k, (.s 4)])] .k (A.ar1 r_R4_Check)
noncomputable def r_R4_kindOf (a0 : AV) (σ : Heap) : Option (AV × Heap) :=
 (A.eql .i a0 (AV.int .u8 32)).bind fun x1 =>
 A.cond x1 (
  A.fin σ (AV.int .i64 0) σ) (
  (A.geq a0 (AV.int .u8 97)).bind fun x2 =>
  (A.guard x2 true (some a0) (some (AV.tup []))).bind fun x3 =>
  (A.guard x2 true (A.leq x3 (AV.int .u8 122)) (some (AV.tup []))).bind fun x4 =>
  (A.pick x2 x4 (AV.bool false)).bind fun x5 =>
  A.cond x5 (
   A.fin σ (AV.int .i64 1) σ) (
   (A.geq a0 (AV.int .u8 48)).bind fun x6 =>
   (A.guard x6 true (some a0) (some (AV.tup []))).bind fun x7 =>
   (A.guard x6 true (A.leq x7 (AV.int .u8 57)) (some (AV.tup []))).bind fun x8 =>
   (A.pick x6 x8 (AV.bool false)).bind fun x9 =>
   A.cond x9 (
    A.fin σ (AV.int .i64 2) σ) (
    A.fin σ (AV.int .i64 3) σ)))
noncomputable def m_R4_kindOf : List AV → Heap → Option (AV × Heap) := A.wrap true [] .k (A.ar1 r_R4_kindOf)
noncomputable def r_R4_wordsOf (a0 : AV) (σ : Heap) : Option (AV × Heap) :=
 (A.loop (fun v1 s2 =>
   (A.lenZ a0).bind fun x4 =>
   (A.lss (v1.getD 1 AV.undef) x4).bind fun x5 =>
   A.cond x5 (
    (A.sidx a0 (v1.getD 1 AV.undef)).bind fun x6 =>
    (m_R4_kindOf [x6] s2).bind fun r7 =>
    (A.add (v1.getD 1 AV.undef) (AV.int .i64 1)).bind fun x8 =>
    (A.loop (fun v9 s10 =>
      (A.neq .i r7.1 (AV.int .i64 0)).bind fun x12 =>
      (A.guard x12 true (some r7.1) (some (AV.tup []))).bind fun x13 =>
      (A.guard x12 true (A.neq .i x13 (AV.int .i64 3)) (some (AV.tup []))).bind fun x14 =>
      (A.pick x12 x14 (AV.bool false)).bind fun x15 =>
      (A.guard x15 true (some (v9.getD 0 AV.undef)) (some (AV.tup []))).bind fun x16 =>
      (A.guard x15 true (some a0) (some (AV.tup []))).bind fun x17 =>
      (A.guard x15 true (A.lenZ x17) (some (AV.tup []))).bind fun x18 =>
      (A.guard x15 true (A.lss x16 x18) (some (AV.tup []))).bind fun x19 =>
      (A.pick x15 x19 (AV.bool false)).bind fun x20 =>
      (A.guard x20 true (some a0) (some (AV.tup []))).bind fun x21 =>
      (A.guard x20 true (some (v9.getD 0 AV.undef)) (some (AV.tup []))).bind fun x22 =>
      (A.guard x20 true (A.sidx x21 x22) (some (AV.tup []))).bind fun x23 =>
      (A.guard x20 true (A.quiet (m_R4_kindOf [x23] s10) s10) (some (AV.tup []))).bind fun x24 =>
      (A.guard x20 true (some r7.1) (some (AV.tup []))).bind fun x25 =>
      (A.guard x20 true (A.eql .i x24 x25) (some (AV.tup []))).bind fun x26 =>
      (A.pick x20 x26 (AV.bool false)).bind fun x27 =>
      A.cond x27 (
       (A.add (v9.getD 0 AV.undef) (AV.int .i64 1)).bind fun x28 =>
       some (AX.normal, [x28], s10)) (
       some (AX.exit 2, [(v9.getD 0 AV.undef)], s10))) [x8] r7.2).bind fun r29 =>
    bif r29.1 == AX.exit 2 then (
     (A.neq .i r7.1 (AV.int .i64 0)).bind fun x30 =>
     (A.cond x30 (
      (A.sliceZ a0 (some (v1.getD 1 AV.undef)) (some (r29.2.1.getD 0 AV.undef))).bind fun x32 =>
      ((((A.cell x32).bind fun v => some [v]).bind fun c33 => (A.splice 0 c33 [(AV.str ⟨#[]⟩), (AV.int .i64 0)]).bind fun c34 => ((A.cell (v1.getD 1 AV.undef)).bind fun v => some [v]).bind fun c35 => (A.splice 1 c35 c34).bind fun c36 => some c36).bind fun cs => some (AV.agg cs)).bind fun x37 =>
      (A.cells 2 x37).bind fun c38 =>
      (A.splice 0 c38 [(AV.str ⟨#[]⟩), (AV.int .i64 0)]).bind fun c39 =>
      (A.gtr (v1.getD 1 AV.undef) (AV.int .i64 0)).bind fun x40 =>
      (A.guard x40 true (some r7.1) (some (AV.tup []))).bind fun x41 =>
      (A.guard x40 true (A.neq .i x41 (AV.int .i64 3)) (some (AV.tup []))).bind fun x42 =>
      (A.pick x40 x42 (AV.bool false)).bind fun x43 =>
      (A.guard x43 true (some a0) (some (AV.tup []))).bind fun x44 =>
      (A.guard x43 true (some (v1.getD 1 AV.undef)) (some (AV.tup []))).bind fun x45 =>
      (A.guard x43 true (A.sub x45 (AV.int .i64 1)) (some (AV.tup []))).bind fun x46 =>
      (A.guard x43 true (A.sidx x44 x46) (some (AV.tup []))).bind fun x47 =>
      (A.guard x43 true (A.quiet (m_R4_kindOf [x47] r29.2.2) r29.2.2) (some (AV.tup []))).bind fun x48 =>
      (A.guard x43 true (some r7.1) (some (AV.tup []))).bind fun x49 =>
      (A.guard x43 true (A.add x48 x49) (some (AV.tup []))).bind fun x50 =>
      (A.guard x43 true (A.eql .i x50 (AV.int .i64 3)) (some (AV.tup []))).bind fun x51 =>
      (A.pick x43 x51 (AV.bool false)).bind fun x52 =>
      (A.cond x52 (
       (A.part1 0 c39).bind fun x54 =>
       (A.add (AV.str ⟨#[32]⟩) x54).bind fun x55 =>
       ((A.cell x55).bind fun v => some [v]).bind fun c56 =>
       (A.splice 0 c56 c39).bind fun c57 =>
       some ([(AV.lbx c57)], r29.2.2)) (
       some ([(AV.lbx c39)], r29.2.2))).bind fun r53 =>
      ((A.lb (r53.1.getD 0 AV.undef)).bind fun c58 => A.partA 0 2 c58).bind fun x59 =>
      (((A.cells 2 x59).bind fun c60 => (A.splice 0 c60 [(AV.str ⟨#[]⟩), (AV.int .i64 0)]).bind fun c61 => some c61).bind fun cs => some (AV.sl 2 (chunks 2 1 cs))).bind fun x62 =>
      (A.append 2 (140737488355328 / 24) (v1.getD 0 AV.undef) x62 r53.2).bind fun r63 =>
      some ([r63.1], r63.2)) (
      some ([(v1.getD 0 AV.undef)], r29.2.2))).bind fun r31 =>
     some (AX.normal, [(r31.1.getD 0 AV.undef), (r29.2.1.getD 0 AV.undef)], r31.2)) else
    none) (
    some (AX.exit 0, [(v1.getD 0 AV.undef), (v1.getD 1 AV.undef)], s2))) [AV.nsl, (AV.int .i64 0)] σ).bind fun r64 =>
 bif r64.1 == AX.exit 0 then (
  (A.lenZ a0).bind fun x65 =>
  ((((A.cell (AV.str ⟨#[]⟩)).bind fun v => some [v]).bind fun c66 => (A.splice 0 c66 [(AV.str ⟨#[]⟩), (AV.int .i64 0)]).bind fun c67 => ((A.cell x65).bind fun v => some [v]).bind fun c68 => (A.splice 1 c68 c67).bind fun c69 => some c69).bind fun cs => some (AV.agg cs)).bind fun x70 =>
  (((A.cells 2 x70).bind fun c71 => (A.splice 0 c71 [(AV.str ⟨#[]⟩), (AV.int .i64 0)]).bind fun c72 => some c72).bind fun cs => some (AV.sl 2 (chunks 2 1 cs))).bind fun x73 =>
  (A.append 2 (140737488355328 / 24) (r64.2.1.getD 0 AV.undef) x73 r64.2.2).bind fun r74 =>
  A.fin σ r74.1 r74.2) else
 none
noncomputable def m_R4_wordsOf : List AV → Heap → Option (AV × Heap) := A.wrap true [] (.s 2) (A.ar1 r_R4_wordsOf)
end Go.Proofs.YtfalbgflabajbaaDoor

namespace Go.Proofs.YtfalbgflabajbaaDoor
set_option linter.unusedSectionVars false
set_option linter.unusedSimpArgs false
set_option linter.unusedVariables false
noncomputable def prE4 (p : PickD) : Option (AV × Heap) := (m_R4_Check [.agg (cPick p)] []).bind fun q => match q with
 | (.int .i64 e, []) => some (if e = 0 then prT p 0 0 else prT (.mk 0 0 0 []) 0 e, [])
 | _ => none
noncomputable def m_R4_Parse : List AV → Heap → Option (AV × Heap) := A.ar1 fun x σ => match σ, x with
 | [], .str s => if 4000 < s.size then some (prT (.mk 0 0 0 []) 0 2, []) else match prS (lZ s) with
  | .ok p _ => prE4 p
  | .bad n => some (prT (.mk 0 0 0 []) n 9, [])
  | .large => some (prT (.mk 0 0 0 []) 0 2, [])
  | .out => none
 | _, _ => none
end Go.Proofs.YtfalbgflabajbaaDoor

namespace Go.Proofs.YtfalbgflabajbaaDoor
set_option linter.unusedSectionVars false
set_option linter.unusedSimpArgs false
set_option linter.unusedVariables false
set_option maxRecDepth 100000
noncomputable def r_W4_samePick (rec : Nat → List AV → Heap → Option (AV × Heap)) (a0 a1 : AV) (σ : Heap) : Option (AV × Heap) :=
 (A.cells 4 a0).bind fun c1 =>
 (A.cells 4 a1).bind fun c2 =>
 (A.part1 0 c1).bind fun x3 =>
 (A.part1 0 c2).bind fun x4 =>
 (A.eql .i x3 x4).bind fun x5 =>
 (A.guard x5 true (A.part1 1 c1) (some (AV.tup []))).bind fun x6 =>
 (A.guard x5 true (A.part1 1 c2) (some (AV.tup []))).bind fun x7 =>
 (A.guard x5 true (A.eql .i x6 x7) (some (AV.tup []))).bind fun x8 =>
 (A.pick x5 x8 (AV.bool false)).bind fun x9 =>
 (A.guard x9 true (A.part1 2 c1) (some (AV.tup []))).bind fun x10 =>
 (A.guard x9 true (A.part1 2 c2) (some (AV.tup []))).bind fun x11 =>
 (A.guard x9 true (A.eql .i x10 x11) (some (AV.tup []))).bind fun x12 =>
 (A.pick x9 x12 (AV.bool false)).bind fun x13 =>
 (A.guard x13 true (A.part1 3 c1) (some (AV.tup []))).bind fun x14 =>
 (A.guard x13 true (A.part1 3 c2) (some (AV.tup []))).bind fun x15 =>
 (A.guard x13 true (A.quiet (m_slices_EqualFunc_api_Pick (A.tab (fun _ _ => none) [(500, rec 500)]) [x14, x15, (AV.fn 500 [])] σ) σ) (some (AV.tup []))).bind fun x16 =>
 (A.pick x13 x16 (AV.bool false)).bind fun x17 =>
 A.fin σ x17 σ
noncomputable def R_W4_samePick (rec : Nat → List AV → Heap → Option (AV × Heap)) : List (Nat × (List AV → Heap → Option (AV × Heap))) := [(500, A.wrap true [(.a [.k, .k, .k, (.s 4)]), (.a [.k, .k, .k, (.s 4)])] .k (A.ar2 (r_W4_samePick rec)))]
noncomputable def m_W4_samePick : List AV → Heap → Option (AV × Heap) := fuel (R_W4_samePick) 2000000 500
noncomputable def r_W4_PickParsesMatchSpec (a0 : AV) (σ : Heap) : Option (AV × Heap) :=
 (m_pick_Parse [a0] σ).bind fun r1 =>
 (A.ext 0 r1.1).bind fun x2 =>
 (A.ext 1 r1.1).bind fun x3 =>
 (A.ext 2 r1.1).bind fun x4 =>
 (A.cells 4 x2).bind fun c5 =>
 (A.splice 0 c5 [(AV.int .i64 0), (AV.int .i64 0), (AV.int .i64 0), AV.nsl]).bind fun c6 =>
 (m_R4_Parse [a0] r1.2).bind fun r7 =>
 (A.ext 0 r7.1).bind fun x8 =>
 (A.ext 1 r7.1).bind fun x9 =>
 (A.ext 2 r7.1).bind fun x10 =>
 (A.cells 4 x8).bind fun c11 =>
 (A.splice 0 c11 [(AV.int .i64 0), (AV.int .i64 0), (AV.int .i64 0), AV.nsl]).bind fun c12 =>
 (A.partA 0 4 c6).bind fun x13 =>
 (A.partA 0 4 c12).bind fun x14 =>
 (m_W4_samePick [x13, x14] r7.2).bind fun r15 =>
 (A.guard r15.1 true (some x3) (some (AV.tup []))).bind fun x16 =>
 (A.guard r15.1 true (some x9) (some (AV.tup []))).bind fun x17 =>
 (A.guard r15.1 true (A.eql .i x16 x17) (some (AV.tup []))).bind fun x18 =>
 (A.pick r15.1 x18 (AV.bool false)).bind fun x19 =>
 (A.guard x19 true (some x4) (some (AV.tup []))).bind fun x20 =>
 (A.guard x19 true (some x10) (some (AV.tup []))).bind fun x21 =>
 (A.guard x19 true (A.eql .i x20 x21) (some (AV.tup []))).bind fun x22 =>
 (A.pick x19 x22 (AV.bool false)).bind fun x23 =>
 A.fin σ x23 r15.2
noncomputable def m_W4_PickParsesMatchSpec : List AV → Heap → Option (AV × Heap) := A.wrap true [] .k (A.ar1 r_W4_PickParsesMatchSpec)
end Go.Proofs.YtfalbgflabajbaaDoor

namespace Go.Proofs.YtfalbgflabajbaaDoor
set_option linter.unusedSectionVars false
set_option maxRecDepth 100000
set_option linter.unusedVariables false
set_option linter.unusedSimpArgs false
noncomputable def x_slices_EqualFunc_api_Pick (dyn : Nat → List AV → Heap → Option (AV × Heap)) : Fx := ⟨Tryd.prog, nmT, A.tab (fun _ _ => none) [], dyn, [8, 9], [], 32, []⟩
theorem w_slices_EqualFunc_api_Pick (dyn : Nat → List AV → Heap → Option (AV × Heap)) (hd : ∀ f, Sound Tryd.prog nmT f (dyn (nmT.getD f 0))) : Sound Tryd.prog nmT 20 (A.wrap true [(.s 4), (.s 4)] .k (A.ar3 (r_slices_EqualFunc_api_Pick dyn))) :=
 Sound.wrap (Sound.run3 (X := x_slices_EqualFunc_api_Pick dyn) (fn := Tryd.f20) (ann := (.s .n (.s (.s .n (.j (.s .n .n) .n)) (.s (.s .n (.b (.l [6, 17] [.exit 0, .ret] (.s .n (.s (.j .n .n) (.s (.b (.s .n (.s .n (.s .n (.j (.s .n .n) .n))))) .n)))))) (.s .n .n))))) .F trivial (Snd.of rfl All.nil (hd)) Tryd.func20 Tryd.call20 (fun a0 a1 a2 σ => by kernel_rfl)) _ _ _ rfl rfl
theorem s_slices_EqualFunc_api_Pick (dyn : Nat → List AV → Heap → Option (AV × Heap)) (hd : ∀ f, Sound Tryd.prog nmT f (dyn (nmT.getD f 0))) : Sound Tryd.prog nmT 20 (m_slices_EqualFunc_api_Pick dyn) := w_slices_EqualFunc_api_Pick dyn hd
noncomputable def x_W4_samePick (rec : Nat → List AV → Heap → Option (AV × Heap)) : Fx := ⟨Tryd.prog, nmT, A.tab (fun _ _ => none) [(20, m_slices_EqualFunc_api_Pick (A.tab (fun _ _ => none) [(500, rec 500)]))], (A.tab (fun _ _ => none) [(500, rec 500)]), [2, 3], [], 31, []⟩
theorem w_W4_samePick (rec : Nat → List AV → Heap → Option (AV × Heap)) (hrec : ∀ f, Sound Tryd.prog nmT f (rec (nmT.getD f 0))) : Sound Tryd.prog nmT 7 (A.wrap true [(.a [.k, .k, .k, (.s 4)]), (.a [.k, .k, .k, (.s 4)])] .k (A.ar2 (r_W4_samePick rec))) :=
 Sound.wrap (Sound.run2 (X := x_W4_samePick rec) (fn := Tryd.f7) (ann := (.s .n (.s .n .n))) .F trivial (Snd.of rfl (All.cons (s_slices_EqualFunc_api_Pick _ (dyn_of (DAll.cons (fun f hf => hf ▸ hrec f) DAll.nil))) All.nil) (dyn_of (DAll.cons (fun f hf => hf ▸ hrec f) DAll.nil))) Tryd.func7 Tryd.call7 (fun a0 a1 σ => by kernel_rfl)) _ _ _ rfl rfl
theorem g_W4_samePick : ∀ n f, Sound Tryd.prog nmT f (fuel (R_W4_samePick) n (nmT.getD f 0)) :=
 fuel_sound (fun rec hrec => (DAll.cons (nm_sound (w_W4_samePick rec hrec) (by kernel_rfl) rfl) DAll.nil))
theorem s_W4_samePick : Sound Tryd.prog nmT 7 m_W4_samePick := g_W4_samePick 2000000 7
noncomputable def x_pick_size (rec : Nat → List AV → Heap → Option (AV × Heap)) : Fx := ⟨Tryd.prog, nmT, A.tab (fun _ _ => none) [(25, rec 37)], (fun _ _ _ => none), [1, 5], [], 30, []⟩
theorem w_pick_size (rec : Nat → List AV → Heap → Option (AV × Heap)) (hrec : ∀ f, Sound Tryd.prog nmT f (rec (nmT.getD f 0))) : Sound Tryd.prog nmT 25 (A.wrap true [(.a [.k, .k, .k, (.s 4)])] .k (A.ar1 (r_pick_size rec))) :=
 Sound.wrap (Sound.run1 (X := x_pick_size rec) (fn := Tryd.f25) (ann := (.s .n (.s .n (.s (.s .n (.b (.l [2, 3, 11] [.exit 0] (.s .n (.s (.j .n .n) (.s (.b (.s .n (.s .n .n))) .n)))))) (.s .n .n))))) .F trivial (Snd.of rfl (All.cons (hrec 25) All.nil) (fun _ => Sound.none)) Tryd.func25 Tryd.call25 (fun a0 σ => by kernel_rfl)) _ _ _ rfl rfl
theorem g_pick_size : ∀ n f, Sound Tryd.prog nmT f (fuel (R_pick_size) n (nmT.getD f 0)) :=
 fuel_sound (fun rec hrec => (DAll.cons (nm_sound (w_pick_size rec hrec) (by kernel_rfl) rfl) DAll.nil))
theorem s_pick_size : Sound Tryd.prog nmT 25 m_pick_size := g_pick_size 2000000 25
theorem s_word_Within : Sound Tryd.prog nmT 37 m_word_Within := q3 [] 15 (.s .n (.s .n .n)) All.nil Tryd.func37 Tryd.call37 (fun a0 a1 a2 σ => by kernel_rfl) rfl rfl
noncomputable def x_pick_check (rec : Nat → List AV → Heap → Option (AV × Heap)) : Fx := ⟨Tryd.prog, nmT, A.tab (fun _ _ => none) [(37, m_word_Within), (26, rec 38)], (fun _ _ _ => none), [1, 9], [], 95, []⟩
theorem w_pick_check (rec : Nat → List AV → Heap → Option (AV × Heap)) (hrec : ∀ f, Sound Tryd.prog nmT f (rec (nmT.getD f 0))) : Sound Tryd.prog nmT 26 (A.wrap true [(.a [.k, .k, .k, (.s 4)])] .k (A.ar1 (r_pick_check rec))) :=
 Sound.wrap (Sound.run1 (X := x_pick_check rec) (fn := Tryd.f26) (ann := (.s .n (.s .n (.s (.s .n (.b (.s .n (.j .n (.s (.s .n (.c [1, 15] .n .n)) (.j .n (.s (.s .n (.c [1, 18] .n .n)) (.j .n (.s (.s .n (.c [1, 21] .n (.s .n (.c [1, 21] .n .n)))) (.j .n (.s .n (.j .n (.s .n .n))))))))))))) (.s .n (.s (.s .n (.c [1, 6] .n .n)) (.s (.s .n (.j (.s .n .n) .n)) (.s .n (.s (.s .n (.b (.s .n (.c [1, 7] .n (.s .n (.c [1, 7] .n .n)))))) (.s (.s .n (.j (.s .n .n) .n)) (.s (.s .n (.b (.l [2, 85] [.exit 2, .ret] (.s .n (.s (.j .n .n) (.s (.b (.s .n (.s .n (.s .n (.j (.s .n .n) .n))))) .n)))))) (.s .n .n)))))))))))) .F trivial (Snd.of rfl (All.cons s_word_Within (All.cons (hrec 26) All.nil)) (fun _ => Sound.none)) Tryd.func26 Tryd.call26 (fun a0 σ => by kernel_rfl)) _ _ _ rfl rfl
theorem g_pick_check : ∀ n f, Sound Tryd.prog nmT f (fuel (R_pick_check) n (nmT.getD f 0)) :=
 fuel_sound (fun rec hrec => (DAll.cons (nm_sound (w_pick_check rec hrec) (by kernel_rfl) rfl) DAll.nil))
theorem s_pick_check : Sound Tryd.prog nmT 26 m_pick_check := g_pick_check 2000000 26
theorem s_pick_Check : Sound Tryd.prog nmT 14 m_pick_Check := q1 [1] 18 (.s .n (.s (.s .n (.s .n (.j (.s .n .n) .n))) (.s .n .n))) (All.cons s_pick_size (All.cons s_pick_check All.nil)) Tryd.func14 Tryd.call14 (fun a0 σ => by kernel_rfl) rfl rfl
theorem s_pick_class : Sound Tryd.prog nmT 22 m_pick_class := q1 [] 17 (.s .n (.s (.b (.s .n (.j (.s .n .n) (.s .n (.j (.s .n .n) .n))))) (.s .n .n))) All.nil Tryd.func22 Tryd.call22 (fun a0 σ => by kernel_rfl) rfl rfl
theorem s_pick_words : Sound Tryd.prog nmT 10 m_pick_words := q1 [] 71 (.s .n (.s .n (.s (.s .n (.b (.l [3, 4] [.exit 0] (.s (.s .n (.j .n .n)) (.b (.s (.s .n (.j (.s .n .n) .n)) (.s .n (.s .n (.s (.b (.l [5] [.exit 2] (.s (.s .n (.j .n .n)) (.b .n)))) (.s .n .n)))))))))) (.s .n .n)))) (All.cons s_pick_class All.nil) Tryd.func10 Tryd.call10 (fun a0 σ => by kernel_rfl) rfl rfl
noncomputable def x_R4_parts (rec : Nat → List AV → Heap → Option (AV × Heap)) : Fx := ⟨Tryd.prog, nmT, A.tab (fun _ _ => none) [(30, rec 46)], (fun _ _ _ => none), [2, 9], [], 41, []⟩
theorem w_R4_parts (rec : Nat → List AV → Heap → Option (AV × Heap)) (hrec : ∀ f, Sound Tryd.prog nmT f (rec (nmT.getD f 0))) : Sound Tryd.prog nmT 30 (A.wrap true [(.a [.k, .k, .k, (.s 4)])] .k (A.ar2 (r_R4_parts rec))) :=
 Sound.wrap (Sound.run2 (X := x_R4_parts rec) (fn := Tryd.f30) (ann := (.s .n (.s .n (.s (.s .n (.j (.s .n .n) .n)) (.s (.s .n (.b (.l [6, 7, 20] [.exit 0] (.s .n (.s (.j .n .n) (.s (.b (.s .n (.s .n .n))) .n)))))) (.s .n .n)))))) .F trivial (Snd.of rfl (All.cons (hrec 30) All.nil) (fun _ => Sound.none)) Tryd.func30 Tryd.call30 (fun a0 a1 σ => by kernel_rfl)) _ _ _ rfl rfl
theorem g_R4_parts : ∀ n f, Sound Tryd.prog nmT f (fuel (R_R4_parts) n (nmT.getD f 0)) :=
 fuel_sound (fun rec hrec => (DAll.cons (nm_sound (w_R4_parts rec hrec) (by kernel_rfl) rfl) DAll.nil))
theorem s_R4_parts : Sound Tryd.prog nmT 30 m_R4_parts := g_R4_parts 2000000 30
theorem s_R1_Within : Sound Tryd.prog nmT 40 m_R1_Within := q3 [] 15 (.s .n (.s .n .n)) All.nil Tryd.func40 Tryd.call40 (fun a0 a1 a2 σ => by kernel_rfl) rfl rfl
theorem s_R4_used : Sound Tryd.prog nmT 41 m_R4_used := q1 [] 17 (.s .n (.s (.s .n (.b (.s .n (.j (.s .n .n) (.s (.s .n (.c [8] .n .n)) (.j (.s .n .n) (.s .n (.j (.s .n .n) (.s .n (.j (.s .n .n) (.s .n (.j (.s .n .n) .n)))))))))))) (.s .n .n))) All.nil Tryd.func41 Tryd.call41 (fun a0 σ => by kernel_rfl) rfl rfl
noncomputable def x_R4_checkPart (rec : Nat → List AV → Heap → Option (AV × Heap)) : Fx := ⟨Tryd.prog, nmT, A.tab (fun _ _ => none) [(40, m_R1_Within), (41, m_R4_used), (31, rec 48)], (fun _ _ _ => none), [1, 8], [], 94, []⟩
theorem w_R4_checkPart (rec : Nat → List AV → Heap → Option (AV × Heap)) (hrec : ∀ f, Sound Tryd.prog nmT f (rec (nmT.getD f 0))) : Sound Tryd.prog nmT 31 (A.wrap true [(.a [.k, .k, .k, (.s 4)])] .k (A.ar1 (r_R4_checkPart rec))) :=
 Sound.wrap (Sound.run1 (X := x_R4_checkPart rec) (fn := Tryd.f31) (ann := (.s .n (.s (.s .n (.j (.s .n .n) .n)) (.s .n (.s (.s .n (.j (.s .n .n) .n)) (.s .n (.s (.s .n (.b (.s .n (.c [1, 6] .n (.s .n (.c [1, 6] .n .n)))))) (.s (.s .n (.j (.s .n .n) .n)) (.s (.s .n (.b (.l [2, 84] [.exit 1, .ret] (.s .n (.s (.j .n .n) (.s (.b (.s .n (.s .n (.s .n (.j (.s .n .n) .n))))) .n)))))) (.s .n .n)))))))))) .F trivial (Snd.of rfl (All.cons s_R1_Within (All.cons s_R4_used (All.cons (hrec 31) All.nil))) (fun _ => Sound.none)) Tryd.func31 Tryd.call31 (fun a0 σ => by kernel_rfl)) _ _ _ rfl rfl
theorem g_R4_checkPart : ∀ n f, Sound Tryd.prog nmT f (fuel (R_R4_checkPart) n (nmT.getD f 0)) :=
 fuel_sound (fun rec hrec => (DAll.cons (nm_sound (w_R4_checkPart rec hrec) (by kernel_rfl) rfl) DAll.nil))
theorem s_R4_checkPart : Sound Tryd.prog nmT 31 m_R4_checkPart := g_R4_checkPart 2000000 31
theorem s_R4_Check : Sound Tryd.prog nmT 19 m_R4_Check := q1 [1] 18 (.s .n (.s (.s .n (.s .n (.j (.s .n .n) .n))) (.s .n .n))) (All.cons s_R4_parts (All.cons s_R4_checkPart All.nil)) Tryd.func19 Tryd.call19 (fun a0 σ => by kernel_rfl) rfl rfl
theorem s_R4_kindOf : Sound Tryd.prog nmT 27 m_R4_kindOf := q1 [] 20 (.s .n (.s (.b (.s .n (.j (.s .n .n) (.s .n (.j (.s .n .n) (.s .n (.j (.s .n .n) .n))))))) (.s .n .n))) All.nil Tryd.func27 Tryd.call27 (fun a0 σ => by kernel_rfl) rfl rfl
theorem s_R4_wordsOf : Sound Tryd.prog nmT 15 m_R4_wordsOf := q1 [7] 79 (.s .n (.s .n (.s (.s .n (.b (.l [3, 4] [.exit 0] (.s (.s .n (.j .n .n)) (.b (.s .n (.s .n (.s (.b (.l [6] [.exit 2] (.s (.s .n (.j .n .n)) (.b .n)))) (.s (.s .n (.c [3] (.s .n (.s (.s .n (.c [7] .n .n)) .n)) .n)) .n))))))))) (.s .n .n)))) (All.cons s_R4_kindOf All.nil) Tryd.func15 Tryd.call15 (fun a0 σ => by kernel_rfl) rfl rfl
end Go.Proofs.YtfalbgflabajbaaDoor

namespace Go.Proofs.YtfalbgflabajbaaDoor
set_option linter.unusedSectionVars false
open Go.RowKit
set_option linter.unusedVariables false
set_option linter.unusedSimpArgs false

def Gr (w w' : World) : Prop := Below w.heap.size w w'
theorem Gr.refl (w : World) : Gr w w := Below.refl _ _
theorem Gr.below {w w' : World} (h : Gr w w') : Below w.heap.size w w' := h
theorem Gr.of {w w' : World} (h : Below w.heap.size w w') : Gr w w' := h
theorem Gr.trans {a b c : World} (h : Gr a b) (k : Gr b c) : Gr a c := Below.trans h (Below.mono k (Below.size h))
theorem Gr.alloc {a b : World} (h : Gr a b) (o : Obj) : Gr a (b.alloc o) := Below.alloc h (Below.size h) o
theorem Gr.drew {a b : World} (h : Gr a b) : Gr a b.drew := Below.drew h
theorem Gr.drewN {a b : World} (h : Gr a b) (n : Nat) : Gr a (b.drewN n) := ⟨h.os, h.tape, h.output, h.size, h.block⟩
theorem Gr.put {a b : World} {k o : Nat} (hp : a.heap.size ≤ k) (h : Gr a b) (u : Value) : Gr a (b.setCell ⟨k, o, none⟩ u) := Below.setCell h hp u
theorem Gr.after {a b c : World} (k : Gr b c) (h : Gr a b) : Gr a c := h.trans k
theorem Gr.size {a b : World} (h : Gr a b) : a.heap.size ≤ b.heap.size := Below.size h
theorem Gr.cell {a b : World} (h : Gr a b) {p : Addr} {v : Value} (hc : a.cell? p = some v) : b.cell? p = some v := by
 by_cases hp : p.block < a.heap.size
 ·rw [Below.cell h hp]; exact hc
 ·have : a.heap[p.block]? = none := Array.getElem?_eq_none (by omega)
  simp [World.cell?, this] at hc
theorem Gr.free {a b : World} (h : Gr a b) {p : Addr} (hp : p.block < a.heap.size) {x : Bool} (hc : a.frozen? p = x) : b.frozen? p = x := by
 rw [Below.frozen h hp]; exact hc
theorem heap_last (w : World) (o : Obj) : (w.alloc o).heap[w.heap.size]? = some o := (MapKept.heap_alloc w o).1
theorem heap_at (w : World) (o : Obj) (n : Nat) (h : n = w.heap.size) : (w.alloc o).heap[n]? = some o := h ▸ heap_last w o
theorem heap_old (w : World) (o u : Obj) (n : Nat) (h : n < w.heap.size) (hu : w.heap[n]? = some u) : (w.alloc o).heap[n]? = some u := by rw [Below.heap_alloc w o n h]; exact hu
theorem wrap_in {n : Int} (h : -9223372036854775808 ≤ n ∧ n ≤ 9223372036854775807) : IntKind.i64.wrap n = n := IntWalk.i64_in n h

abbrev Box1 (w : World) (b : Nat) (v0 : Value) : Prop := (w.cell? ⟨b, 0, none⟩ = some v0) ∧ (w.frozen? ⟨b, 0, none⟩ = false) ∧ b < w.heap.size
theorem Box1.mono {w w1 : World} {b : Nat} {v0 : Value} (k : Box1 w b v0) (h : Gr w w1) : Box1 w1 b v0 := by
 obtain ⟨k0, f0, hlt⟩ := k
 exact ⟨h.cell k0, h.free (by exact hlt) f0, Nat.lt_of_lt_of_le hlt h.size⟩
theorem Box1.of {w : World} {b : Nat} {v0 : Value} {t : TypeId} (h : w.heap[b]? = some (.cells #[v0] t (0, 0))) : Box1 w b v0 := by
 have hlt : b < w.heap.size := (Array.getElem?_eq_some_iff.1 h).1
 refine ⟨?_, ?_, hlt⟩ <;> simp [World.cell?, World.frozen?, h]
abbrev Box2 (w : World) (b : Nat) (v0 v1 : Value) : Prop := (w.cell? ⟨b, 0, none⟩ = some v0 ∧ w.cell? ⟨b, 1, none⟩ = some v1) ∧ (w.frozen? ⟨b, 0, none⟩ = false ∧ w.frozen? ⟨b, 1, none⟩ = false) ∧ b < w.heap.size
theorem Box2.of {w : World} {b : Nat} {v0 v1 : Value} {t : TypeId} (h : w.heap[b]? = some (.cells #[v0, v1] t (0, 0))) : Box2 w b v0 v1 := by
 have hlt : b < w.heap.size := (Array.getElem?_eq_some_iff.1 h).1
 refine ⟨⟨?_, ?_⟩, ⟨?_, ?_⟩, hlt⟩ <;> simp [World.cell?, World.frozen?, h]
abbrev Box3 (w : World) (b : Nat) (v0 v1 v2 : Value) : Prop := (w.cell? ⟨b, 0, none⟩ = some v0 ∧ w.cell? ⟨b, 1, none⟩ = some v1 ∧ w.cell? ⟨b, 2, none⟩ = some v2) ∧ (w.frozen? ⟨b, 0, none⟩ = false ∧ w.frozen? ⟨b, 1, none⟩ = false ∧ w.frozen? ⟨b, 2, none⟩ = false) ∧ b < w.heap.size
theorem Box3.mono {w w1 : World} {b : Nat} {v0 v1 v2 : Value} (k : Box3 w b v0 v1 v2) (h : Gr w w1) : Box3 w1 b v0 v1 v2 := by
 obtain ⟨⟨k0, k1, k2⟩, ⟨f0, f1, f2⟩, hlt⟩ := k
 exact ⟨⟨h.cell k0, h.cell k1, h.cell k2⟩, ⟨h.free (by exact hlt) f0, h.free (by exact hlt) f1, h.free (by exact hlt) f2⟩, Nat.lt_of_lt_of_le hlt h.size⟩
theorem Box3.of {w : World} {b : Nat} {v0 v1 v2 : Value} {t : TypeId} (h : w.heap[b]? = some (.cells #[v0, v1, v2] t (0, 0))) : Box3 w b v0 v1 v2 := by
 have hlt : b < w.heap.size := (Array.getElem?_eq_some_iff.1 h).1
 refine ⟨⟨?_, ?_, ?_⟩, ⟨?_, ?_, ?_⟩, hlt⟩ <;> simp [World.cell?, World.frozen?, h]
abbrev Box4 (w : World) (b : Nat) (v0 v1 v2 v3 : Value) : Prop := (w.cell? ⟨b, 0, none⟩ = some v0 ∧ w.cell? ⟨b, 1, none⟩ = some v1 ∧ w.cell? ⟨b, 2, none⟩ = some v2 ∧ w.cell? ⟨b, 3, none⟩ = some v3) ∧ (w.frozen? ⟨b, 0, none⟩ = false ∧ w.frozen? ⟨b, 1, none⟩ = false ∧ w.frozen? ⟨b, 2, none⟩ = false ∧ w.frozen? ⟨b, 3, none⟩ = false) ∧ b < w.heap.size
theorem Box4.mono {w w1 : World} {b : Nat} {v0 v1 v2 v3 : Value} (k : Box4 w b v0 v1 v2 v3) (h : Gr w w1) : Box4 w1 b v0 v1 v2 v3 := by
 obtain ⟨⟨k0, k1, k2, k3⟩, ⟨f0, f1, f2, f3⟩, hlt⟩ := k
 exact ⟨⟨h.cell k0, h.cell k1, h.cell k2, h.cell k3⟩, ⟨h.free (by exact hlt) f0, h.free (by exact hlt) f1, h.free (by exact hlt) f2, h.free (by exact hlt) f3⟩, Nat.lt_of_lt_of_le hlt h.size⟩
theorem Box4.of {w : World} {b : Nat} {v0 v1 v2 v3 : Value} {t : TypeId} (h : w.heap[b]? = some (.cells #[v0, v1, v2, v3] t (0, 0))) : Box4 w b v0 v1 v2 v3 := by
 have hlt : b < w.heap.size := (Array.getElem?_eq_some_iff.1 h).1
 refine ⟨⟨?_, ?_, ?_, ?_⟩, ⟨?_, ?_, ?_, ?_⟩, hlt⟩ <;> simp [World.cell?, World.frozen?, h]
abbrev Box5 (w : World) (b : Nat) (v0 v1 v2 v3 v4 : Value) : Prop := (w.cell? ⟨b, 0, none⟩ = some v0 ∧ w.cell? ⟨b, 1, none⟩ = some v1 ∧ w.cell? ⟨b, 2, none⟩ = some v2 ∧ w.cell? ⟨b, 3, none⟩ = some v3 ∧ w.cell? ⟨b, 4, none⟩ = some v4) ∧ (w.frozen? ⟨b, 0, none⟩ = false ∧ w.frozen? ⟨b, 1, none⟩ = false ∧ w.frozen? ⟨b, 2, none⟩ = false ∧ w.frozen? ⟨b, 3, none⟩ = false ∧ w.frozen? ⟨b, 4, none⟩ = false) ∧ b < w.heap.size
abbrev Box6 (w : World) (b : Nat) (v0 v1 v2 v3 v4 v5 : Value) : Prop := (w.cell? ⟨b, 0, none⟩ = some v0 ∧ w.cell? ⟨b, 1, none⟩ = some v1 ∧ w.cell? ⟨b, 2, none⟩ = some v2 ∧ w.cell? ⟨b, 3, none⟩ = some v3 ∧ w.cell? ⟨b, 4, none⟩ = some v4 ∧ w.cell? ⟨b, 5, none⟩ = some v5) ∧ (w.frozen? ⟨b, 0, none⟩ = false ∧ w.frozen? ⟨b, 1, none⟩ = false ∧ w.frozen? ⟨b, 2, none⟩ = false ∧ w.frozen? ⟨b, 3, none⟩ = false ∧ w.frozen? ⟨b, 4, none⟩ = false ∧ w.frozen? ⟨b, 5, none⟩ = false) ∧ b < w.heap.size
abbrev Box7 (w : World) (b : Nat) (v0 v1 v2 v3 v4 v5 v6 : Value) : Prop := (w.cell? ⟨b, 0, none⟩ = some v0 ∧ w.cell? ⟨b, 1, none⟩ = some v1 ∧ w.cell? ⟨b, 2, none⟩ = some v2 ∧ w.cell? ⟨b, 3, none⟩ = some v3 ∧ w.cell? ⟨b, 4, none⟩ = some v4 ∧ w.cell? ⟨b, 5, none⟩ = some v5 ∧ w.cell? ⟨b, 6, none⟩ = some v6) ∧ (w.frozen? ⟨b, 0, none⟩ = false ∧ w.frozen? ⟨b, 1, none⟩ = false ∧ w.frozen? ⟨b, 2, none⟩ = false ∧ w.frozen? ⟨b, 3, none⟩ = false ∧ w.frozen? ⟨b, 4, none⟩ = false ∧ w.frozen? ⟨b, 5, none⟩ = false ∧ w.frozen? ⟨b, 6, none⟩ = false) ∧ b < w.heap.size
abbrev Box8 (w : World) (b : Nat) (v0 v1 v2 v3 v4 v5 v6 v7 : Value) : Prop := (w.cell? ⟨b, 0, none⟩ = some v0 ∧ w.cell? ⟨b, 1, none⟩ = some v1 ∧ w.cell? ⟨b, 2, none⟩ = some v2 ∧ w.cell? ⟨b, 3, none⟩ = some v3 ∧ w.cell? ⟨b, 4, none⟩ = some v4 ∧ w.cell? ⟨b, 5, none⟩ = some v5 ∧ w.cell? ⟨b, 6, none⟩ = some v6 ∧ w.cell? ⟨b, 7, none⟩ = some v7) ∧ (w.frozen? ⟨b, 0, none⟩ = false ∧ w.frozen? ⟨b, 1, none⟩ = false ∧ w.frozen? ⟨b, 2, none⟩ = false ∧ w.frozen? ⟨b, 3, none⟩ = false ∧ w.frozen? ⟨b, 4, none⟩ = false ∧ w.frozen? ⟨b, 5, none⟩ = false ∧ w.frozen? ⟨b, 6, none⟩ = false ∧ w.frozen? ⟨b, 7, none⟩ = false) ∧ b < w.heap.size
abbrev Box9 (w : World) (b : Nat) (v0 v1 v2 v3 v4 v5 v6 v7 v8 : Value) : Prop := (w.cell? ⟨b, 0, none⟩ = some v0 ∧ w.cell? ⟨b, 1, none⟩ = some v1 ∧ w.cell? ⟨b, 2, none⟩ = some v2 ∧ w.cell? ⟨b, 3, none⟩ = some v3 ∧ w.cell? ⟨b, 4, none⟩ = some v4 ∧ w.cell? ⟨b, 5, none⟩ = some v5 ∧ w.cell? ⟨b, 6, none⟩ = some v6 ∧ w.cell? ⟨b, 7, none⟩ = some v7 ∧ w.cell? ⟨b, 8, none⟩ = some v8) ∧ (w.frozen? ⟨b, 0, none⟩ = false ∧ w.frozen? ⟨b, 1, none⟩ = false ∧ w.frozen? ⟨b, 2, none⟩ = false ∧ w.frozen? ⟨b, 3, none⟩ = false ∧ w.frozen? ⟨b, 4, none⟩ = false ∧ w.frozen? ⟨b, 5, none⟩ = false ∧ w.frozen? ⟨b, 6, none⟩ = false ∧ w.frozen? ⟨b, 7, none⟩ = false ∧ w.frozen? ⟨b, 8, none⟩ = false) ∧ b < w.heap.size
abbrev Box10 (w : World) (b : Nat) (v0 v1 v2 v3 v4 v5 v6 v7 v8 v9 : Value) : Prop := (w.cell? ⟨b, 0, none⟩ = some v0 ∧ w.cell? ⟨b, 1, none⟩ = some v1 ∧ w.cell? ⟨b, 2, none⟩ = some v2 ∧ w.cell? ⟨b, 3, none⟩ = some v3 ∧ w.cell? ⟨b, 4, none⟩ = some v4 ∧ w.cell? ⟨b, 5, none⟩ = some v5 ∧ w.cell? ⟨b, 6, none⟩ = some v6 ∧ w.cell? ⟨b, 7, none⟩ = some v7 ∧ w.cell? ⟨b, 8, none⟩ = some v8 ∧ w.cell? ⟨b, 9, none⟩ = some v9) ∧ (w.frozen? ⟨b, 0, none⟩ = false ∧ w.frozen? ⟨b, 1, none⟩ = false ∧ w.frozen? ⟨b, 2, none⟩ = false ∧ w.frozen? ⟨b, 3, none⟩ = false ∧ w.frozen? ⟨b, 4, none⟩ = false ∧ w.frozen? ⟨b, 5, none⟩ = false ∧ w.frozen? ⟨b, 6, none⟩ = false ∧ w.frozen? ⟨b, 7, none⟩ = false ∧ w.frozen? ⟨b, 8, none⟩ = false ∧ w.frozen? ⟨b, 9, none⟩ = false) ∧ b < w.heap.size
abbrev Box11 (w : World) (b : Nat) (v0 v1 v2 v3 v4 v5 v6 v7 v8 v9 v10 : Value) : Prop := (w.cell? ⟨b, 0, none⟩ = some v0 ∧ w.cell? ⟨b, 1, none⟩ = some v1 ∧ w.cell? ⟨b, 2, none⟩ = some v2 ∧ w.cell? ⟨b, 3, none⟩ = some v3 ∧ w.cell? ⟨b, 4, none⟩ = some v4 ∧ w.cell? ⟨b, 5, none⟩ = some v5 ∧ w.cell? ⟨b, 6, none⟩ = some v6 ∧ w.cell? ⟨b, 7, none⟩ = some v7 ∧ w.cell? ⟨b, 8, none⟩ = some v8 ∧ w.cell? ⟨b, 9, none⟩ = some v9 ∧ w.cell? ⟨b, 10, none⟩ = some v10) ∧ (w.frozen? ⟨b, 0, none⟩ = false ∧ w.frozen? ⟨b, 1, none⟩ = false ∧ w.frozen? ⟨b, 2, none⟩ = false ∧ w.frozen? ⟨b, 3, none⟩ = false ∧ w.frozen? ⟨b, 4, none⟩ = false ∧ w.frozen? ⟨b, 5, none⟩ = false ∧ w.frozen? ⟨b, 6, none⟩ = false ∧ w.frozen? ⟨b, 7, none⟩ = false ∧ w.frozen? ⟨b, 8, none⟩ = false ∧ w.frozen? ⟨b, 9, none⟩ = false ∧ w.frozen? ⟨b, 10, none⟩ = false) ∧ b < w.heap.size
abbrev Box12 (w : World) (b : Nat) (v0 v1 v2 v3 v4 v5 v6 v7 v8 v9 v10 v11 : Value) : Prop := (w.cell? ⟨b, 0, none⟩ = some v0 ∧ w.cell? ⟨b, 1, none⟩ = some v1 ∧ w.cell? ⟨b, 2, none⟩ = some v2 ∧ w.cell? ⟨b, 3, none⟩ = some v3 ∧ w.cell? ⟨b, 4, none⟩ = some v4 ∧ w.cell? ⟨b, 5, none⟩ = some v5 ∧ w.cell? ⟨b, 6, none⟩ = some v6 ∧ w.cell? ⟨b, 7, none⟩ = some v7 ∧ w.cell? ⟨b, 8, none⟩ = some v8 ∧ w.cell? ⟨b, 9, none⟩ = some v9 ∧ w.cell? ⟨b, 10, none⟩ = some v10 ∧ w.cell? ⟨b, 11, none⟩ = some v11) ∧ (w.frozen? ⟨b, 0, none⟩ = false ∧ w.frozen? ⟨b, 1, none⟩ = false ∧ w.frozen? ⟨b, 2, none⟩ = false ∧ w.frozen? ⟨b, 3, none⟩ = false ∧ w.frozen? ⟨b, 4, none⟩ = false ∧ w.frozen? ⟨b, 5, none⟩ = false ∧ w.frozen? ⟨b, 6, none⟩ = false ∧ w.frozen? ⟨b, 7, none⟩ = false ∧ w.frozen? ⟨b, 8, none⟩ = false ∧ w.frozen? ⟨b, 9, none⟩ = false ∧ w.frozen? ⟨b, 10, none⟩ = false ∧ w.frozen? ⟨b, 11, none⟩ = false) ∧ b < w.heap.size
abbrev Box13 (w : World) (b : Nat) (v0 v1 v2 v3 v4 v5 v6 v7 v8 v9 v10 v11 v12 : Value) : Prop := (w.cell? ⟨b, 0, none⟩ = some v0 ∧ w.cell? ⟨b, 1, none⟩ = some v1 ∧ w.cell? ⟨b, 2, none⟩ = some v2 ∧ w.cell? ⟨b, 3, none⟩ = some v3 ∧ w.cell? ⟨b, 4, none⟩ = some v4 ∧ w.cell? ⟨b, 5, none⟩ = some v5 ∧ w.cell? ⟨b, 6, none⟩ = some v6 ∧ w.cell? ⟨b, 7, none⟩ = some v7 ∧ w.cell? ⟨b, 8, none⟩ = some v8 ∧ w.cell? ⟨b, 9, none⟩ = some v9 ∧ w.cell? ⟨b, 10, none⟩ = some v10 ∧ w.cell? ⟨b, 11, none⟩ = some v11 ∧ w.cell? ⟨b, 12, none⟩ = some v12) ∧ (w.frozen? ⟨b, 0, none⟩ = false ∧ w.frozen? ⟨b, 1, none⟩ = false ∧ w.frozen? ⟨b, 2, none⟩ = false ∧ w.frozen? ⟨b, 3, none⟩ = false ∧ w.frozen? ⟨b, 4, none⟩ = false ∧ w.frozen? ⟨b, 5, none⟩ = false ∧ w.frozen? ⟨b, 6, none⟩ = false ∧ w.frozen? ⟨b, 7, none⟩ = false ∧ w.frozen? ⟨b, 8, none⟩ = false ∧ w.frozen? ⟨b, 9, none⟩ = false ∧ w.frozen? ⟨b, 10, none⟩ = false ∧ w.frozen? ⟨b, 11, none⟩ = false ∧ w.frozen? ⟨b, 12, none⟩ = false) ∧ b < w.heap.size
abbrev Box14 (w : World) (b : Nat) (v0 v1 v2 v3 v4 v5 v6 v7 v8 v9 v10 v11 v12 v13 : Value) : Prop := (w.cell? ⟨b, 0, none⟩ = some v0 ∧ w.cell? ⟨b, 1, none⟩ = some v1 ∧ w.cell? ⟨b, 2, none⟩ = some v2 ∧ w.cell? ⟨b, 3, none⟩ = some v3 ∧ w.cell? ⟨b, 4, none⟩ = some v4 ∧ w.cell? ⟨b, 5, none⟩ = some v5 ∧ w.cell? ⟨b, 6, none⟩ = some v6 ∧ w.cell? ⟨b, 7, none⟩ = some v7 ∧ w.cell? ⟨b, 8, none⟩ = some v8 ∧ w.cell? ⟨b, 9, none⟩ = some v9 ∧ w.cell? ⟨b, 10, none⟩ = some v10 ∧ w.cell? ⟨b, 11, none⟩ = some v11 ∧ w.cell? ⟨b, 12, none⟩ = some v12 ∧ w.cell? ⟨b, 13, none⟩ = some v13) ∧ (w.frozen? ⟨b, 0, none⟩ = false ∧ w.frozen? ⟨b, 1, none⟩ = false ∧ w.frozen? ⟨b, 2, none⟩ = false ∧ w.frozen? ⟨b, 3, none⟩ = false ∧ w.frozen? ⟨b, 4, none⟩ = false ∧ w.frozen? ⟨b, 5, none⟩ = false ∧ w.frozen? ⟨b, 6, none⟩ = false ∧ w.frozen? ⟨b, 7, none⟩ = false ∧ w.frozen? ⟨b, 8, none⟩ = false ∧ w.frozen? ⟨b, 9, none⟩ = false ∧ w.frozen? ⟨b, 10, none⟩ = false ∧ w.frozen? ⟨b, 11, none⟩ = false ∧ w.frozen? ⟨b, 12, none⟩ = false ∧ w.frozen? ⟨b, 13, none⟩ = false) ∧ b < w.heap.size
end Go.Proofs.YtfalbgflabajbaaDoor

namespace Go.Proofs.YtfalbgflabajbaaDoor
set_option linter.unusedSectionVars false
open Go.RowKit Go.Sort
set_option linter.unusedVariables false
set_option linter.unusedSimpArgs false
set_option maxRecDepth 100000
def zDigs : List UInt8 := [48, 49, 50, 51, 52, 53, 54, 55, 56, 57]
theorem zcon_fin : ∀ n : Fin 256, zDigs.contains (UInt8.ofNat n.val) = digB (UInt8.ofNat n.val) := by decide +kernel
theorem zcon (b : UInt8) : zDigs.contains b = digB b := by
 have := zcon_fin ⟨b.toNat, b.toNat_lt⟩
 simpa using this
theorem drop_nil {p : UInt8 → Bool} : ∀ l : List UInt8, l.dropWhile p = [] ↔ l.all p = true
 | [] => by simp
 | x :: l => by
  rw [List.dropWhile_cons]
  cases h : p x
  ·simp [h]
  ·simp [h, drop_nil l]
theorem trim_all (l : List UInt8) : (Lib.trimS l zDigs).isEmpty = l.all digB := by
 have hp : (fun b => zDigs.contains b) = digB := funext zcon
 unfold Lib.trimS Lib.trimLeftS Lib.trimRightS
 rw [show (fun x => zDigs.contains x) = digB from hp]
 rw [Bool.eq_iff_iff, List.isEmpty_iff, drop_nil]
 constructor
 ·intro h
  rw [List.all_reverse] at h
  cases hd : l.reverse.dropWhile digB with
  | nil => rw [drop_nil, List.all_reverse] at hd; exact hd
  | cons y r =>
   have hy : digB y = false := by
    have := List.head?_dropWhile_not digB l.reverse
    rw [hd] at this
    simpa using this
   rw [hd] at h
   simp [hy] at h
 ·intro h
  have : l.reverse.dropWhile digB = [] := by rw [drop_nil, List.all_reverse]; exact h
  rw [this]; rfl
theorem zbytes_ne {a b : ByteArray} (h : ¬ a = b) : (a.toList == b.toList) = false := by
 rw [beq_eq_false_iff_ne]
 intro e
 rw [ByteArray.toList_eq, ByteArray.toList_eq] at e
 cases a; cases b
 exact h (congrArg _ (Array.toList_inj.1 e))
theorem Digits_any (s : ByteArray) (hs : s.size ≤ 9223372036854775807) (w : World) :
  Calls Tryd.prog 52 #[.string s] w fun e w' => e = .returned (.bool (digZ s)) ∧ Gr w w' := by
 have hcon := fun W => Tryd.strings_Trim s ⟨#[48, 49, 50, 51, 52, 53, 54, 55, 56, 57]⟩ W hs (by decide) (by
  intro j c h
  have : c ∈ zDigs := List.mem_of_getElem? h
  have h2 : zDigs.contains c = true := by simpa using this
  rw [zcon] at h2
  have := of_decide_eq_true h2
  omega)
 obtain ⟨r, hr⟩ : ∃ r, r = (⟨(Lib.trimS s.data.toList zDigs).toArray⟩ : ByteArray) := ⟨_, rfl⟩
 have hcon' : ∀ W, Calls Tryd.prog 60 #[.string s, .string ⟨#[48, 49, 50, 51, 52, 53, 54, 55, 56, 57]⟩] W fun e w' => e = .returned (.string r) ∧ Gr W w' := fun W => by rw [hr]; exact hcon W
 clear hcon
 have HC := Lib.hid hcon'; clear hcon'
 have hre : (r.toList == []) = (lZ s).all digB := by
  rw [hr, ByteArray.toList_eq, ← trim_all]
  cases Lib.trimS s.data.toList zDigs <;> rfl
 clear hr
 unfold digZ
 have hse : (s.toList == []) = (lZ s).isEmpty := by
  rw [ByteArray.toList_eq]
  unfold lZ
  cases s.data.toList <;> rfl
 generalize (lZ s).all digB = q at *
 generalize (lZ s).isEmpty = u at *
 go_enter Tryd.func52, Tryd.ntmps52
 go_wp2_with (go_at_call 60; refine (HC.out _).mono ?_; rintro e w' ⟨rfl, hb⟩)
 ·rename_i hu
  rw [hu]
  go_ret
  exact ⟨rfl, (by repeat (first | exact Gr.refl _ | assumption | refine Gr.alloc ?_ _ | refine Gr.drew ?_ | refine Gr.drewN ?_ _ | (refine Gr.put ?_ ?_ _; first | exact Nat.le_refl _ | (simp; done) | omega) | (apply Gr.after; assumption)))⟩
 ·rename_i hu
  rw [Bool.eq_false_iff.2 hu]
  go_ret
  exact ⟨rfl, hb⟩
theorem dig_dec : ∀ (l : List UInt8) (acc : Nat), l.all digB = true → ∃ m, Lib.decFrom acc l = some m
 | [], acc, _ => ⟨acc, rfl⟩
 | b :: r, acc, h => by
  rw [List.all_cons, Bool.and_eq_true] at h
  have hb := of_decide_eq_true h.1
  rw [Lib.decFrom, show Lib.digitVal b = some (b.toNat - 48) from if_pos hb]
  exact dig_dec r _ h.2
theorem dig_atoi {s : ByteArray} (h : digZ s = true) : Lib.atoi s.data.toList = some ((Lib.decNat (lZ s)).getD 0 : Nat) := by
 unfold digZ at h
 rw [Bool.and_eq_true, Bool.not_eq_true'] at h
 show Lib.atoi (lZ s) = _
 cases hl : lZ s with
 | nil => rw [hl] at h; cases h.1
 | cons b r =>
  rw [hl] at h
  obtain ⟨m, hm⟩ := dig_dec (b :: r) 0 h.2
  rw [List.all_cons, Bool.and_eq_true] at h
  have hb := of_decide_eq_true h.2.1
  have h45 : (b == 45) = false := by rw [beq_eq_false_iff_ne]; rintro rfl; exact absurd hb.1 (by decide)
  have h43 : (b == 43) = false := by rw [beq_eq_false_iff_ne]; rintro rfl; exact absurd hb.1 (by decide)
  have hd : Lib.decNat (b :: r) = some m := by unfold Lib.decNat; exact hm
  rw [Lib.atoi, h45, h43, hd]
  rfl
theorem head_get {s : ByteArray} (h : 0 < s.size) : (lZ s).head? = some s[0] := by
 rw [List.head?_eq_getElem?, List.getElem?_eq_getElem (by exact h)]
 rfl
theorem NumberOf_any (s : ByteArray) (n : Int) (hs : s.size ≤ 9223372036854775807) (hn : n ≤ 18) (w : World) :
  Calls Tryd.prog 46 #[.string s, .int .i64 n] w fun e w' => e = .returned (.tuple #[.int .i64 (numZ s n).1, .bool (numZ s n).2]) ∧ Gr w w' := by
 have HD := Lib.hid (Digits_any s hs)
 obtain ⟨r, hr⟩ : ∃ r, r = numZ s n := ⟨_, rfl⟩
 rw [← hr]
 have HR := Lib.hid hr; clear hr
 cases hd : digZ s with
 | false =>
  have h1 := HR.out
  unfold numZ at h1
  rw [if_pos (.inl hd)] at h1
  subst h1
  clear HR
  rw [hd] at HD
  go_enter Tryd.func46, Tryd.ntmps46
  go_wp2_with (go_at_call 52; refine (HD.out _).mono ?_; rintro e w' ⟨rfl, hb⟩)
  exact bodyPost_ret (v := .tuple #[.int .i64 0, .bool false]) (by simp [results, Tryd.results46, go_sem]) rfl ⟨rfl, hb⟩
 | true =>
  rw [hd] at HD
  by_cases h1 : n < (s.size : Int)
  ·have h2 := HR.out
   unfold numZ at h2
   rw [if_pos (.inr (.inl h1))] at h2
   subst h2
   clear HR
   go_enter Tryd.func46, Tryd.ntmps46
   go_wp2_with (go_at_call 52; refine (HD.out _).mono ?_; rintro e w' ⟨rfl, hb⟩)
   exact bodyPost_ret (v := .tuple #[.int .i64 0, .bool false]) (by simp [results, Tryd.results46, go_sem]) rfl ⟨rfl, hb⟩
  ·by_cases h2 : 1 < s.size ∧ (lZ s).head? = some 48
   ·have h3 := HR.out
    unfold numZ at h3
    rw [if_pos (.inr (.inr h2))] at h3
    subst h3
    clear HR
    obtain ⟨h2, h4⟩ := h2
    go_enter Tryd.func46, Tryd.ntmps46
    go_wp2_with (go_at_call 52; refine (HD.out _).mono ?_; rintro e w' ⟨rfl, hb⟩)
    all_goals first
     | exact bodyPost_ret (v := .tuple #[.int .i64 0, .bool false]) (by simp [results, Tryd.results46, go_sem]) rfl ⟨rfl, hb⟩
     | (exfalso; rename_i q0 q _ _ _ _; have h5 := (head_get q0).symm.trans h4; have h6 : s[0].toNat = 48 := (by injection h5 with h5; rw [h5]; rfl); have h7 := q.2; rw [h6] at h7; exact absurd h7 (by decide))
   ·have h3 := HR.out
    unfold numZ at h3
    have h0 : ¬ digZ s = false := fun q => by rw [hd] at q; cases q
    rw [if_neg (fun q => q.elim h0 (fun q => q.elim h1 h2))] at h3
    subst h3
    clear HR
    have hA : ∀ W : World, Calls Tryd.prog 47 #[.string s] W fun e w' => e = .returned (.tuple #[.int .i64 ((Lib.decNat (lZ s)).getD 0 : Nat), .nilIface]) ∧ Gr W w' := fun W =>
     (Tryd.strconv_Atoi s _ (by omega) (dig_atoi hd) W).mono fun e w' ⟨h, t, hw⟩ => ⟨h, by rw [hw]; exact Go.Joins.below_bytesWorld _ _ _ _ (Nat.le_refl _)⟩
    generalize ((Lib.decNat (lZ s)).getD 0 : Nat) = m at *
    have HA := Lib.hid hA; clear hA
    go_enter Tryd.func46, Tryd.ntmps46
    go_wp2_with (first
     | (go_at_call 52; refine (HD.out _).mono ?_; rintro e w' ⟨rfl, hb⟩)
     | (go_at_call 47; refine (HA.out _).mono ?_; rintro e w2 ⟨rfl, hb2⟩))
    ·exfalso
     rename_i q0 q
     rcases q with q | q
     ·omega
     ·refine h2 ⟨by omega, ?_⟩
      rw [head_get q0]
      have h6 : (s[0].toNat : Int) = 48 := by simpa using q
      congr 1
      exact UInt8.toNat_inj.1 (by show s[0].toNat = 48; omega)
    all_goals
     go_quiet (fail)
     go_wp2
     exact bodyPost_ret (v := .tuple #[.int .i64 (m : Int), .bool true]) (by simp [results, Tryd.results46, go_sem]) rfl ⟨rfl, (by repeat (first | exact Gr.refl _ | assumption | refine Gr.alloc ?_ _ | refine Gr.drew ?_ | refine Gr.drewN ?_ _ | (refine Gr.put ?_ ?_ _; first | exact Nat.le_refl _ | (simp; done) | omega) | (apply Gr.after; assumption)))⟩
end Go.Proofs.YtfalbgflabajbaaDoor

namespace Go.Proofs.YtfalbgflabajbaaDoor
set_option linter.unusedSectionVars false
open Go.RowKit Go.Deep
set_option linter.unusedVariables false
set_option linter.unusedSimpArgs false

structure Cod (α : Type) where
 size : Nat
 is : World → List Value → α → Prop
 len : ∀ {w cs a}, is w cs a → cs.length = size
 mono : ∀ {w w' cs a}, is w cs a → Gr w w' → is w' cs a
 bulk : α → Nat

def sliceC {α : Type} (c : Cod α) : Cod (List α) where
 size := 1
 is := fun w cs l => (cs = [.slice none 0 0] ∧ l = []) ∨ ∃ (b off : Nat) (sp : Option Nat) (cap : Nat), cs = [.slice (some ⟨b, off, sp⟩) l.length cap] ∧ l.length ≤ cap ∧ l.length ≤ maxLen ∧
  ∀ i (h : i < l.length), sp = none ∧ ∃ cs', (∀ j, j < c.size → w.cell? ⟨b, off + (i * c.size + j), none⟩ = cs'[j]?) ∧ c.is w cs' l[i]
 len := fun h => by
  rcases h with ⟨rfl, _⟩ | ⟨b, off, sp, cap, rfl, _⟩ <;> rfl
 mono := fun {w w' cs l} h g => by
  rcases h with h | ⟨b, off, sp, cap, h1, h2, h3, h4⟩
  ·exact .inl h
  ·refine .inr ⟨b, off, sp, cap, h1, h2, h3, fun i hi => ?_⟩
   obtain ⟨e, cs', h5, h6⟩ := h4 i hi
   refine ⟨e, cs', fun j hj => ?_, c.mono h6 g⟩
   have h7 := h5 j hj
   have hl := c.len h6
   rw [List.getElem?_eq_getElem (by omega)] at h7 ⊢
   exact g.cell h7
 bulk := fun l => (l.map c.bulk).sum + 1

def ReadsF {α : Type} (F : Nat → Prop) (P : Program) (c : Cod α) (t : TypeId) : Prop :=
 ∀ ⦃H : Type⦄ ⦃enc : TypeId × Value → H⦄ ⦃w : World⦄ ⦃base : Nat⦄ ⦃spare : Nat → Bool⦄ ⦃held : Bool⦄ ⦃fuel : Nat⦄ ⦃cs : List Value⦄ ⦃x : DataW H × List MemPlace⦄, F fuel →
  DataW.trod enc P w base spare held fuel t cs = some x → ∃ a, c.is w cs a ∧ c.bulk a ≤ Rows.uptoBulk x.1
end Go.Proofs.YtfalbgflabajbaaDoor

namespace Go.Proofs.YtfalbgflabajbaaDoor
set_option linter.unusedSectionVars false
open Go.RowKit
set_option linter.unusedVariables false
set_option linter.unusedSimpArgs false

def OwnN {α : Type} (w : World) (base : Nat) (e : TypeId) (c : Cod α) (v : Value) (l : List α) : Prop :=
 ∃ xs : List Value, w.ownsRow base e c.size v l.length xs ∧ ∀ i (h : i < l.length), c.is w ((xs.drop (i * c.size)).take c.size) l[i]
end Go.Proofs.YtfalbgflabajbaaDoor

namespace Go.Proofs.YtfalbgflabajbaaDoor
set_option linter.unusedSectionVars false
set_option linter.unusedSimpArgs false
open Go.RowKit
set_option linter.unusedVariables false

theorem Box1.other {w : World} {b c o : Nat} {u : Value} {v0 : Value} (k : Box1 w b v0) (h : c ≠ b) : Box1 (w.setCell ⟨c, o, none⟩ u) b v0 := by
 obtain ⟨k0, f0, hlt⟩ := k
 have hb : (w.setCell ⟨c, o, none⟩ u).heap[b]? = w.heap[b]? := Below.heap_setCell w ⟨c, o, none⟩ u b (fun e => h e.symm)
 refine ⟨by rw [World.cell?_of_block (w := w) hb]; exact k0, by rw [World.frozen?_of_block (w := w) hb]; exact f0, by simpa [World.setCell] using hlt⟩
theorem Box3.other {w : World} {b c o : Nat} {u : Value} {v0 v1 v2 : Value} (k : Box3 w b v0 v1 v2) (h : c ≠ b) : Box3 (w.setCell ⟨c, o, none⟩ u) b v0 v1 v2 := by
 obtain ⟨⟨k0, k1, k2⟩, ⟨f0, f1, f2⟩, hlt⟩ := k
 have hb : (w.setCell ⟨c, o, none⟩ u).heap[b]? = w.heap[b]? := Below.heap_setCell w ⟨c, o, none⟩ u b (fun e => h e.symm)
 refine ⟨⟨by rw [World.cell?_of_block (w := w) hb]; exact k0, by rw [World.cell?_of_block (w := w) hb]; exact k1, by rw [World.cell?_of_block (w := w) hb]; exact k2⟩, ⟨by rw [World.frozen?_of_block (w := w) hb]; exact f0, by rw [World.frozen?_of_block (w := w) hb]; exact f1, by rw [World.frozen?_of_block (w := w) hb]; exact f2⟩, by simpa [World.setCell] using hlt⟩
theorem Box4.other {w : World} {b c o : Nat} {u : Value} {v0 v1 v2 v3 : Value} (k : Box4 w b v0 v1 v2 v3) (h : c ≠ b) : Box4 (w.setCell ⟨c, o, none⟩ u) b v0 v1 v2 v3 := by
 obtain ⟨⟨k0, k1, k2, k3⟩, ⟨f0, f1, f2, f3⟩, hlt⟩ := k
 have hb : (w.setCell ⟨c, o, none⟩ u).heap[b]? = w.heap[b]? := Below.heap_setCell w ⟨c, o, none⟩ u b (fun e => h e.symm)
 refine ⟨⟨by rw [World.cell?_of_block (w := w) hb]; exact k0, by rw [World.cell?_of_block (w := w) hb]; exact k1, by rw [World.cell?_of_block (w := w) hb]; exact k2, by rw [World.cell?_of_block (w := w) hb]; exact k3⟩, ⟨by rw [World.frozen?_of_block (w := w) hb]; exact f0, by rw [World.frozen?_of_block (w := w) hb]; exact f1, by rw [World.frozen?_of_block (w := w) hb]; exact f2, by rw [World.frozen?_of_block (w := w) hb]; exact f3⟩, by simpa [World.setCell] using hlt⟩
end Go.Proofs.YtfalbgflabajbaaDoor

namespace Go.Proofs.YtfalbgflabajbaaDoor
set_option linter.unusedSectionVars false
set_option linter.unusedSimpArgs false
open Go.RowKit
set_option linter.unusedVariables false

theorem Box1.st0 {w : World} {b : Nat} {u v0 : Value} (k : Box1 w b v0) : Box1 (w.setCell ⟨b, 0, none⟩ u) b u := by
 obtain ⟨k0, f0, hlt⟩ := k
 exact ⟨World.cell?_setCell_same _ _ _ k0, (World.frozen?_setCell _ _ _ _).trans f0, by simpa [World.setCell] using hlt⟩
theorem Box3.st0 {w : World} {b : Nat} {u v0 v1 v2 : Value} (k : Box3 w b v0 v1 v2) : Box3 (w.setCell ⟨b, 0, none⟩ u) b u v1 v2 := by
 obtain ⟨⟨k0, k1, k2⟩, ⟨f0, f1, f2⟩, hlt⟩ := k
 exact ⟨⟨World.cell?_setCell_same _ _ _ k0, (World.cell?_setCell_other _ _ _ _ (by simp)).trans k1, (World.cell?_setCell_other _ _ _ _ (by simp)).trans k2⟩, ⟨(World.frozen?_setCell _ _ _ _).trans f0, (World.frozen?_setCell _ _ _ _).trans f1, (World.frozen?_setCell _ _ _ _).trans f2⟩, by simpa [World.setCell] using hlt⟩
theorem Box3.st1 {w : World} {b : Nat} {u v0 v1 v2 : Value} (k : Box3 w b v0 v1 v2) : Box3 (w.setCell ⟨b, 1, none⟩ u) b v0 u v2 := by
 obtain ⟨⟨k0, k1, k2⟩, ⟨f0, f1, f2⟩, hlt⟩ := k
 exact ⟨⟨(World.cell?_setCell_other _ _ _ _ (by simp)).trans k0, World.cell?_setCell_same _ _ _ k1, (World.cell?_setCell_other _ _ _ _ (by simp)).trans k2⟩, ⟨(World.frozen?_setCell _ _ _ _).trans f0, (World.frozen?_setCell _ _ _ _).trans f1, (World.frozen?_setCell _ _ _ _).trans f2⟩, by simpa [World.setCell] using hlt⟩
theorem Box3.st2 {w : World} {b : Nat} {u v0 v1 v2 : Value} (k : Box3 w b v0 v1 v2) : Box3 (w.setCell ⟨b, 2, none⟩ u) b v0 v1 u := by
 obtain ⟨⟨k0, k1, k2⟩, ⟨f0, f1, f2⟩, hlt⟩ := k
 exact ⟨⟨(World.cell?_setCell_other _ _ _ _ (by simp)).trans k0, (World.cell?_setCell_other _ _ _ _ (by simp)).trans k1, World.cell?_setCell_same _ _ _ k2⟩, ⟨(World.frozen?_setCell _ _ _ _).trans f0, (World.frozen?_setCell _ _ _ _).trans f1, (World.frozen?_setCell _ _ _ _).trans f2⟩, by simpa [World.setCell] using hlt⟩
theorem Box4.st0 {w : World} {b : Nat} {u v0 v1 v2 v3 : Value} (k : Box4 w b v0 v1 v2 v3) : Box4 (w.setCell ⟨b, 0, none⟩ u) b u v1 v2 v3 := by
 obtain ⟨⟨k0, k1, k2, k3⟩, ⟨f0, f1, f2, f3⟩, hlt⟩ := k
 exact ⟨⟨World.cell?_setCell_same _ _ _ k0, (World.cell?_setCell_other _ _ _ _ (by simp)).trans k1, (World.cell?_setCell_other _ _ _ _ (by simp)).trans k2, (World.cell?_setCell_other _ _ _ _ (by simp)).trans k3⟩, ⟨(World.frozen?_setCell _ _ _ _).trans f0, (World.frozen?_setCell _ _ _ _).trans f1, (World.frozen?_setCell _ _ _ _).trans f2, (World.frozen?_setCell _ _ _ _).trans f3⟩, by simpa [World.setCell] using hlt⟩
theorem Box4.st1 {w : World} {b : Nat} {u v0 v1 v2 v3 : Value} (k : Box4 w b v0 v1 v2 v3) : Box4 (w.setCell ⟨b, 1, none⟩ u) b v0 u v2 v3 := by
 obtain ⟨⟨k0, k1, k2, k3⟩, ⟨f0, f1, f2, f3⟩, hlt⟩ := k
 exact ⟨⟨(World.cell?_setCell_other _ _ _ _ (by simp)).trans k0, World.cell?_setCell_same _ _ _ k1, (World.cell?_setCell_other _ _ _ _ (by simp)).trans k2, (World.cell?_setCell_other _ _ _ _ (by simp)).trans k3⟩, ⟨(World.frozen?_setCell _ _ _ _).trans f0, (World.frozen?_setCell _ _ _ _).trans f1, (World.frozen?_setCell _ _ _ _).trans f2, (World.frozen?_setCell _ _ _ _).trans f3⟩, by simpa [World.setCell] using hlt⟩
theorem Box4.st2 {w : World} {b : Nat} {u v0 v1 v2 v3 : Value} (k : Box4 w b v0 v1 v2 v3) : Box4 (w.setCell ⟨b, 2, none⟩ u) b v0 v1 u v3 := by
 obtain ⟨⟨k0, k1, k2, k3⟩, ⟨f0, f1, f2, f3⟩, hlt⟩ := k
 exact ⟨⟨(World.cell?_setCell_other _ _ _ _ (by simp)).trans k0, (World.cell?_setCell_other _ _ _ _ (by simp)).trans k1, World.cell?_setCell_same _ _ _ k2, (World.cell?_setCell_other _ _ _ _ (by simp)).trans k3⟩, ⟨(World.frozen?_setCell _ _ _ _).trans f0, (World.frozen?_setCell _ _ _ _).trans f1, (World.frozen?_setCell _ _ _ _).trans f2, (World.frozen?_setCell _ _ _ _).trans f3⟩, by simpa [World.setCell] using hlt⟩
theorem Box4.st3 {w : World} {b : Nat} {u v0 v1 v2 v3 : Value} (k : Box4 w b v0 v1 v2 v3) : Box4 (w.setCell ⟨b, 3, none⟩ u) b v0 v1 v2 u := by
 obtain ⟨⟨k0, k1, k2, k3⟩, ⟨f0, f1, f2, f3⟩, hlt⟩ := k
 exact ⟨⟨(World.cell?_setCell_other _ _ _ _ (by simp)).trans k0, (World.cell?_setCell_other _ _ _ _ (by simp)).trans k1, (World.cell?_setCell_other _ _ _ _ (by simp)).trans k2, World.cell?_setCell_same _ _ _ k3⟩, ⟨(World.frozen?_setCell _ _ _ _).trans f0, (World.frozen?_setCell _ _ _ _).trans f1, (World.frozen?_setCell _ _ _ _).trans f2, (World.frozen?_setCell _ _ _ _).trans f3⟩, by simpa [World.setCell] using hlt⟩
theorem Box3.grown {w w' : World} {b C : Nat} {v0 v1 v2 : Value} (k : Box3 w b v0 v1 v2) (g : w.grownBy w' (some C)) (hne : b ≠ C) : Box3 w' b v0 v1 v2 := by
 obtain ⟨⟨k0, k1, k2⟩, ⟨f0, f1, f2⟩, hlt⟩ := k
 exact ⟨⟨(g.cell_far _ hlt (fun e => hne (by injection e))).trans k0, (g.cell_far _ hlt (fun e => hne (by injection e))).trans k1, (g.cell_far _ hlt (fun e => hne (by injection e))).trans k2⟩, ⟨(g.frozen_far _ hlt (fun e => hne (by injection e))).trans f0, (g.frozen_far _ hlt (fun e => hne (by injection e))).trans f1, (g.frozen_far _ hlt (fun e => hne (by injection e))).trans f2⟩, Nat.lt_of_lt_of_le hlt g.size⟩
theorem Box4.grown {w w' : World} {b C : Nat} {v0 v1 v2 v3 : Value} (k : Box4 w b v0 v1 v2 v3) (g : w.grownBy w' (some C)) (hne : b ≠ C) : Box4 w' b v0 v1 v2 v3 := by
 obtain ⟨⟨k0, k1, k2, k3⟩, ⟨f0, f1, f2, f3⟩, hlt⟩ := k
 exact ⟨⟨(g.cell_far _ hlt (fun e => hne (by injection e))).trans k0, (g.cell_far _ hlt (fun e => hne (by injection e))).trans k1, (g.cell_far _ hlt (fun e => hne (by injection e))).trans k2, (g.cell_far _ hlt (fun e => hne (by injection e))).trans k3⟩, ⟨(g.frozen_far _ hlt (fun e => hne (by injection e))).trans f0, (g.frozen_far _ hlt (fun e => hne (by injection e))).trans f1, (g.frozen_far _ hlt (fun e => hne (by injection e))).trans f2, (g.frozen_far _ hlt (fun e => hne (by injection e))).trans f3⟩, Nat.lt_of_lt_of_le hlt g.size⟩
end Go.Proofs.YtfalbgflabajbaaDoor

namespace Go.Proofs.YtfalbgflabajbaaDoor
set_option linter.unusedSectionVars false
open Go.RowKit Go.Sort
set_option linter.unusedVariables false
set_option linter.unusedSimpArgs false
theorem heap_setCell_ne (w : World) {b k : Nat} (h : b ≠ k) (o : Nat) (u : Value) : (w.setCell ⟨b, o, none⟩ u).heap[k]? = w.heap[k]? := by
 simp [World.setCell, Array.getElem?_modify, h]
structure GrX (rb : Nat) (w w' : World) : Prop where
 os : w'.os = w.os
 tape : w'.tape = w.tape
 output : w'.output = w.output
 size : w.heap.size ≤ w'.heap.size
 block : ∀ k, k < w.heap.size → k ≠ rb → w'.heap[k]? = w.heap[k]?
namespace GrX
set_option linter.unusedSectionVars false
theorem refl (rb : Nat) (w : World) : GrX rb w w := ⟨rfl, rfl, rfl, Nat.le_refl _, fun _ _ _ => rfl⟩
theorem trans {rb : Nat} {w w' w'' : World} (h : GrX rb w w') (k : GrX rb w' w'') : GrX rb w w'' :=
 ⟨k.os.trans h.os, k.tape.trans h.tape, k.output.trans h.output, Nat.le_trans h.size k.size, fun i hi hne => (k.block i (Nat.lt_of_lt_of_le hi h.size) hne).trans (h.block i hi hne)⟩
theorem of {rb : Nat} {w w' : World} (h : Below w.heap.size w w') : GrX rb w w' := ⟨h.os, h.tape, h.output, h.size, fun k hk _ => h.block k hk⟩
theorem cell {rb : Nat} {w w' : World} (h : GrX rb w w') {b i : Nat} {row : Option (Nat × Nat)} {v : Value} (hne : b ≠ rb) (hc : w.cell? ⟨b, i, none⟩ = some v) : w'.cell? ⟨b, i, none⟩ = some v := by
 have hlt := block_lt_of_cell hc
 rw [← hc]
 simp only [World.cell?]
 rw [h.block b hlt hne]
theorem set {rb o : Nat} {w w' : World} (h : GrX rb w w') (u : Value) : GrX rb w (w'.setCell ⟨rb, o, none⟩ u) := by
 have k : Below rb w' (w'.setCell ⟨rb, o, none⟩ u) := Below.setCell (p := ⟨rb, o, none⟩) (Below.refl rb w') (Nat.le_refl rb) u
 refine ⟨k.os.trans h.os, k.tape.trans h.tape, k.output.trans h.output, Nat.le_trans h.size k.size, fun i hi hne => ?_⟩
 rw [← h.block i hi hne]
 exact heap_setCell_ne w' (Ne.symm hne) o u
end GrX
structure RdAt (T : List TokD) (tb off cap rb : Nat) (w : World) (n : Nat) (deep : Nat) : Prop where
 here : Box3 w rb (.slice (some ⟨tb, off, none⟩) T.length cap) (.int .i64 n) (.int .i64 deep)
 ne : tb ≠ rb
 word : ∀ (i : Nat) (t : TokD), T[i]? = some t → w.cell? ⟨tb, off + i * 3, none⟩ = some (.string (bZ t.text)) ∧ w.cell? ⟨tb, off + i * 3 + 1, none⟩ = some (.int .i64 t.pos) ∧ w.cell? ⟨tb, off + i * 3 + 2, none⟩ = some (.bool t.touch)
theorem RdAt.mono {T : List TokD} {tb off cap rb n deep : Nat} {w w' : World} (h : RdAt T tb off cap rb w n deep) (g : Gr w w') : RdAt T tb off cap rb w' n deep := by
 refine ⟨h.here.mono g, h.ne, fun i t ht => ?_⟩
 obtain ⟨a, b, c⟩ := h.word i t ht
 exact ⟨g.cell a, g.cell b, g.cell c⟩
theorem RdAt.to {T : List TokD} {tb off cap rb n deep n' deep' : Nat} {w w' : World} (h : RdAt T tb off cap rb w n deep) (g : GrX rb w w') (hh : Box3 w' rb (.slice (some ⟨tb, off, none⟩) T.length cap) (.int .i64 n') (.int .i64 deep')) : RdAt T tb off cap rb w' n' deep' := by
 refine ⟨hh, h.ne, fun i t ht => ?_⟩
 obtain ⟨a, b, c⟩ := h.word i t ht
 exact ⟨g.cell (row := none) h.ne a, g.cell (row := none) h.ne b, g.cell (row := none) h.ne c⟩
end Go.Proofs.YtfalbgflabajbaaDoor

namespace Go.Proofs.YtfalbgflabajbaaDoor
set_option linter.unusedSectionVars false
set_option linter.unusedSimpArgs false
open Go Go.Sort Go.RowKit
set_option linter.unusedVariables false
section
variable {P : Program} {ops : Array Oper} {md : Region.Mode} {C : World → Prop}
def headQ (P : Program) (md : Region.Mode) (ops : Array Oper) (C : World → Prop) (n : Nat) (L : Array Bool → Act → Prop) : Nat → Array Bool → Act → Prop
 | 0, done, a => L done a
 | f + 1, done, a => Region.ready md ops done ≠ [] ∧ ∀ i ∈ Region.ready md ops done, i < n ∧ qOp P ops C i (headQ P md ops C n L f (done.setIfInBounds i true)) a
theorem headQ_any {n g : Nat} {L : Array Bool → Act → Prop} {Q' : Exit → Act → World → Prop} (hL : ∀ done a w, C w → L done a → wpAny P md ops Q' g done a w) (f : Nat) : ∀ (done : Array Bool) (a : Act) (w : World), C w → headQ P md ops C n L f done a → wpAny P md ops Q' (f + g) done a w := by
 induction f with
 | zero => intro done a w hw h; rw [Nat.zero_add]; exact hL _ _ _ hw h
 | succ f ih =>
  intro done a w hw h
  rw [show f + 1 + g = (f + g) + 1 by omega]
  exact ⟨fun h0 => absurd h0 h.1, fun i hi => wpOp_of_qOp hw (fun a' w' hw' k => ih _ a' w' hw' k) (h.2 i hi).2⟩
theorem headQ_first {n i : Nat} {oi : Oper} {v : Value} {L : Array Bool → Act → Prop} (hi : ops[i]? = some oi) (hsel : ∀ (j : Nat) (o : Oper) cs b, ops[j]? = some o → o.op ≠ .select cs b)
  (hs : Region.sinkB md ops n = true) (hc : Region.chainB md ops n = true) (hn : n < ops.size) (hin : i < n) (hdone : ∀ done a, L done a → ∀ j ∈ Region.ready md ops done, n ≤ j) (f : Nat) :
  ∀ (done : Array Bool) (a : Act), HeadInv md ops n done →
   (∀ j oj, ops[j]? = some oj → j ≠ i → done.getD j true = false → (∀ e ∈ oj.after, Region.binds md e = true → e.on ≠ i) → oi.apart ops oj = true) →
   i ∈ Region.ready md ops done → YieldsIn P ops C oi v a → headQ P md ops C n L f (done.setIfInBounds i true) (a.put oi.dst v) → headQ P md ops C n L (f + 1) done a := by
 induction f with
 | zero =>
  intro done a inv _ hr hy H
  refine ⟨fun h => (by rw [h] at hr; cases hr), fun j hj => ?_⟩
  have hjn : j < n := Nat.lt_of_not_le fun h => tail_waits hs hc hn inv _ i rfl hin (mem_ready.1 hr).1 j h hj
  by_cases hji : j = i
  ·subst hji; exact ⟨hjn, hy.qOp hi H⟩
  ·exact absurd (hdone _ _ H j (ready_mono hj hji)) (by omega)
 | succ f ih =>
  intro done a inv hfree hr hy H
  refine ⟨fun h => (by rw [h] at hr; cases hr), fun j hj => ?_⟩
  have hjn : j < n := Nat.lt_of_not_le fun h => tail_waits hs hc hn inv _ i rfl hin (mem_ready.1 hr).1 j h hj
  refine ⟨hjn, ?_⟩
  by_cases hji : j = i
  ·subst hji; exact hy.qOp hi H
  obtain ⟨hjun, oj, hoj, hall⟩ := mem_ready.1 hj
  have hnot : ∀ e ∈ oj.after, Region.binds md e = true → e.on ≠ i := fun e he hb heq => by
   have h1 := hall e he hb
   rw [heq, getD_both (mem_ready.1 hr).1] at h1
   cases h1
  refine qOp_mono (fun a' h3 => ih (done.setIfInBounds j true) a' (inv.set hj hjn) (fun k ok hk hki hun hno => ?_) (ready_mono hr (Ne.symm hji)) h3.1 ?_) (qOp_put hoj (hfree j oj hoj hji hjun hnot) (fun cs b => hsel i oi cs b hi) (fun cs b => hsel j oj cs b hoj) hy (H.2 j (ready_mono hj hji)).2)
  ·refine hfree k ok hk hki ?_ hno
   by_cases hjk : j = k
   ·subst hjk; exact hjun
   ·rw [getD_set_ne true hjk] at hun; exact hun
  ·rw [Array.setIfInBounds_comm _ _ hji]
   exact h3.2
theorem headQ_lex {n g : Nat} {Lq : Act → Prop} (hsel : Region.noSelect ops = true) (hs : Region.sinkB md ops n = true) (hc : Region.chainB md ops n = true) (hn : n < ops.size) (l : List Oper) :
  ∀ (k : Nat) (done : Array Bool) (a : Act), (∀ j, j < l.length → l[j]? = ops[k + j]?) → k + l.length = n → HeadInv md ops n done → Region.lexHead md ops g l.length k done = true → wpQuiet P ops C Lq l a →
  headQ P md ops C n (fun d' a' => Region.seqB md ops g n d' = true ∧ Lq a') l.length done a := by
 induction l with
 | nil =>
  intro k done a _ hk _ hB h
  obtain rfl : k = n := by simpa using hk
  exact ⟨by simpa [Region.lexHead] using hB, h⟩
 | cons o l ih =>
  intro k done a hl hk inv hB h
  have h0 : ops[k]? = some o := by simpa using (hl 0 (by simp)).symm
  simp only [List.length_cons, Region.lexHead, Bool.and_eq_true] at hB
  obtain ⟨⟨hr, hf⟩, hB'⟩ := hB
  simp only [List.length_cons] at hk hl
  have hr' : k ∈ Region.ready md ops done := by simpa using hr
  have hst : qOp P ops C k (wpQuiet P ops C Lq l) a := by unfold qOp; simp only [h0]; exact h
  obtain ⟨v, hy, hK⟩ := yieldsIn_of_qOp h0 hst
  exact headQ_first h0 (Region.noSelect_spec hsel) hs hc hn (by omega) (fun d' a' hL => seqB_ready hL.1) l.length done a inv (Region.free_spec h0 hf) hr' hy
   (ih (k + 1) _ _ (fun j hj => by have := hl (j + 1) (by omega); simpa [Nat.add_assoc, Nat.add_comm 1 j] using this) (by omega) (inv.set hr' (by omega)) hB' hK)
theorem wp_region_quiet_tail {id : Nat} {Q : Exit → Act → World → Prop} {a : Act} {w : World} {l : List Oper} (n : Nat) (hm : P.follows .mixedOrders = true) (hB : Region.lexTailB .any l.toArray n = true) (hC : C { w with drawn := w.drawn + 1 })
  (h : wpQuiet P l.toArray C (fun a' => ∀ w', C w' → wpList P l.toArray Q (l.drop n) a' w') (l.take n) a) : (Code.region id l.toArray true).wp P Q a w := by
 simp only [Region.lexTailB, Bool.and_eq_true, decide_eq_true_eq] at hB
 obtain ⟨⟨⟨⟨hsel, hn⟩, hs⟩, hc⟩, hlex⟩ := hB
 have hn' : n < l.length := by simpa using hn
 have htl : (l.take n).length = n := by simp; omega
 have hdl : (l.drop n).length = l.toArray.size - n := by simp
 have inv0 : HeadInv .any l.toArray n (Array.replicate l.toArray.size false) :=
  ⟨by simp, fun j oj _ hl => (by rw [getD_replicate_false] at hl; cases hl), fun t _ ht => getD_in (by simpa using ht) (getD_replicate_false _ _)⟩
 have H := headQ_lex (md := .any) (g := l.toArray.size - n) hsel hs hc hn (l.take n) 0 _ a (fun j hj => by rw [htl] at hj; simp [hj]) (by simpa using htl) inv0 (by rw [htl]; exact hlex) h
 have K := headQ_any (Q' := Q) (g := l.toArray.size - n) (fun d' a' w' hw' hL => by
  have := wpAny_of_seq (md := .any) (Q' := Q) (l.drop n) n d' a' w' (fun j => by simp [List.getElem?_drop]) (by rw [hdl]; exact hL.1) (hL.2 w' hw')
  rwa [hdl] at this) _ _ _ _ hC H
 rw [htl, show n + (l.toArray.size - n) = l.toArray.size by omega] at K
 exact wp_region_any hm K
theorem wp_region_below_tail {id : Nat} {Q : Exit → Act → World → Prop} {a : Act} {w : World} {l : List Oper} (n : Nat) (hm : P.follows .mixedOrders = true) (hB : Region.lexTailB .any l.toArray n = true)
  (h : wpQuiet P l.toArray (fun w' => ∃ p : Regrown, w' = grow (redrawn w p.d) p.os) (fun a' => ∀ w', (∃ p : Regrown, w' = grow (redrawn w p.d) p.os) → wpList P l.toArray Q (l.drop n) a' w') (l.take n) a) : (Code.region id l.toArray true).wp P Q a w :=
 wp_region_quiet_tail n hm hB ⟨⟨w.drawn + 1, #[]⟩, by rw [grow_empty]; rfl⟩ h
end
end Go.Proofs.YtfalbgflabajbaaDoor

namespace Go.Proofs.YtfalbgflabajbaaDoor
set_option linter.unusedSectionVars false
open Go.RowKit Go.Sort
set_option linter.unusedVariables false
set_option linter.unusedSimpArgs false
set_option maxRecDepth 100000
theorem put3 {w : World} {b : Nat} {v0 v1 v2 : Value} (K : Box3 w b v0 v1 v2) (u0 u1 u2 : Value) : (w.setCell ⟨b, 0, none⟩ u0).cell? ⟨b, 0, none⟩ = some u0 ∧ ((w.setCell ⟨b, 0, none⟩ u0).setCell ⟨b, 1, none⟩ u1).cell? ⟨b, 1, none⟩ = some u1 ∧ (((w.setCell ⟨b, 0, none⟩ u0).setCell ⟨b, 1, none⟩ u1).setCell ⟨b, 2, none⟩ u2).cell? ⟨b, 2, none⟩ = some u2 :=
 ⟨(Box3.st0 K).1.1, (Box3.st1 (Box3.st0 K)).1.2.1, (Box3.st2 (Box3.st1 (Box3.st0 K))).1.2.2⟩
theorem peek_any {T : List TokD} {tb off cap rb n deep : Nat} {t : TokD} {W : World} (h : RdAt T tb off cap rb W n deep) (ht : T[n]? = some t) (hl : T.length ≤ 4611686018427387904) :
  Calls Tryd.prog 12 #[.pointer (some ⟨rb, 0, none⟩)] W fun e w' => e = .returned (.agg #[.string (bZ t.text), .int .i64 t.pos, .bool t.touch]) ∧ Gr W w' := by
 have hlt : n < T.length := (List.getElem?_eq_some_iff.1 ht).1
 obtain ⟨⟨k0, k1, k2⟩, _, hrb⟩ := h.here
 obtain ⟨q0, q1, q2⟩ := h.word n t ht
 have hb : (0 : Int) ≤ (n : Int) ∧ (n : Int) < (T.length : Int) := ⟨by omega, by omega⟩
 have htb := block_lt_of_cell q0
 clear h ht
 go_enter Tryd.func12, Tryd.ntmps12
 go_wp2
 generalize hW2 : W.alloc (.cells #[.string ⟨#[]⟩, .int .i64 0, .bool false] 43) = W2
 have g2 : Below W.heap.size W W2 := by rw [← hW2]; exact (Below.refl _ _).alloc (Nat.le_refl _) _
 have hcel : W2.heap[W.heap.size]? = some (.cells #[.string ⟨#[]⟩, .int .i64 0, .bool false] 43 (0, 0)) := by rw [← hW2]; exact heap_alloc_new W _
 clear hW2
 have k0' := cell_regrown ((g2.cell hrb).trans k0)
 have k1' := cell_regrown ((g2.cell (p := ⟨rb, 1, none⟩) hrb).trans k1)
 have q0' := cell_regrown ((g2.cell htb).trans q0)
 have q1' := cell_regrown ((g2.cell (p := ⟨tb, off + n * 3 + 1, none⟩) htb).trans q1)
 have q2' := cell_regrown ((g2.cell (p := ⟨tb, off + n * 3 + 2, none⟩) htb).trans q2)
 refine wp_region_below_tail 10 (by kernel_rfl) (by kernel_rfl) ?_
 simp only [List.take_succ_cons, List.take_zero, List.drop_succ_cons, List.drop_zero]
 repeat (quiet_step (fail))
 refine wpQuiet_nil ?_
 intro w' hw'
 obtain ⟨⟨dq, osq⟩, rfl⟩ := hw'
 have g3 : Below W.heap.size W (grow (redrawn W2 dq) osq) := g2.trans ((below_regrown W2 dq osq).mono g2.size)
 have hcel3 : (grow (redrawn W2 dq) osq).heap[W.heap.size]? = some (.cells #[.string ⟨#[]⟩, .int .i64 0, .bool false] 43 (0, 0)) := ((below_regrown W2 dq osq).block _ (Array.getElem?_eq_some_iff.1 hcel).1).trans hcel
 clear k0' k1' q0' q1' q2' g2 hcel
 generalize grow (redrawn W2 dq) osq = W3 at *
 have K := Box3.of hcel3
 obtain ⟨c0, c1, c2⟩ := put3 K (.string (bZ t.text)) (.int .i64 t.pos) (.bool t.touch)
 obtain ⟨⟨e0, e1, e2⟩, ⟨f0, f1, f2⟩, hW3⟩ := K
 clear hcel3
 go_wp2
 exact bodyPost_ret (v := .agg #[.string (bZ t.text), .int .i64 t.pos, .bool t.touch]) (by simp [results, Tryd.results12, go_sem, c0, c1, c2]) rfl ⟨rfl, Gr.of (((Below.setCell (Below.setCell (Below.setCell g3 (Nat.le_refl _) _) (Nat.le_refl _) _) (Nat.le_refl _) _)))⟩
end Go.Proofs.YtfalbgflabajbaaDoor

namespace Go.Proofs.YtfalbgflabajbaaDoor
set_option linter.unusedSectionVars false
open Go.RowKit Go.Sort
set_option linter.unusedVariables false
set_option linter.unusedSimpArgs false
set_option maxRecDepth 100000
def flt (n e : Int) : List PanicEntry := [{ v := .iface 34 (.agg #[.int .i64 n, .int .i64 e]), recovered := false }]
theorem fld_tok (a b c : Value) (w : World) : (Instr.field 43 (.agg #[a, b, c]) 1).run Tryd.prog w = .ok b w := by kernel_rfl
theorem mk_flt (x : Value) (w : World) : (Instr.makeInterface 34 x).run Tryd.prog w = .ok (.iface 34 x) w := run_makeInterface w 34 x (by kernel_rfl)
theorem refuse_any {T : List TokD} {tb off cap rb n deep : Nat} {t : TokD} {W : World} (h : RdAt T tb off cap rb W n deep) (ht : T[n]? = some t) (hl : T.length ≤ 4611686018427387904) :
  Calls Tryd.prog 13 #[.pointer (some ⟨rb, 0, none⟩)] W fun e w' => e = .panicked (flt t.pos 9) ∧ Gr W w' := by
 have hp := peek_any h ht hl
 clear h
 have hf := fld_tok
 have hm := mk_flt
 go_enter Tryd.func13, Tryd.ntmps13
 go_wp2_with (go_at_call 12; refine hp.mono ?_; rintro e w' ⟨rfl, hb⟩)
 exact ⟨rfl, rfl, hb⟩
theorem enter_any {T : List TokD} {tb off cap rb n deep : Nat} {W : World} (h : RdAt T tb off cap rb W n deep) (hd : deep < 100) :
  Calls Tryd.prog 35 #[.pointer (some ⟨rb, 0, none⟩)] W fun e w' => e = .returned (.tuple #[]) ∧ GrX rb W w' ∧ RdAt T tb off cap rb w' n (deep + 1) := by
 have K := h.here
 obtain ⟨⟨k0, k1, k2⟩, ⟨f0, f1, f2⟩, hrb⟩ := K
 have hw : IntKind.i64.wrap ((deep : Int) + 1) = (deep : Int) + 1 := wrap_in (by omega)
 have hg : ¬ (100 : Int) < (deep : Int) + 1 := by omega
 have K2 := Box3.st2 h.here (u := .int .i64 ((deep : Int) + 1))
 obtain ⟨⟨l0, l1, l2⟩, ⟨m0, m1, m2⟩, hrb2⟩ := K2
 have hG : GrX rb W (W.setCell ⟨rb, 2, none⟩ (.int .i64 ((deep : Int) + 1))) := (GrX.refl rb W).set _
 have hR := h.to hG (n' := n) (deep' := deep + 1) ⟨⟨l0, l1, l2⟩, ⟨m0, m1, m2⟩, hrb2⟩
 have HR := Lib.hid hR
 have HG := Lib.hid hG
 clear hR hG h
 go_enter Tryd.func35, Tryd.ntmps35
 go_wp2
 go_end0
 exact ⟨rfl, HG.out, HR.out⟩
theorem enter_deep {T : List TokD} {tb off cap rb n deep : Nat} {W : World} (h : RdAt T tb off cap rb W n deep) (hd : 100 ≤ deep) (hd2 : deep ≤ 1000) :
  Calls Tryd.prog 35 #[.pointer (some ⟨rb, 0, none⟩)] W fun e w' => e = .panicked (flt 0 2) ∧ GrX rb W w' := by
 have K := h.here
 obtain ⟨⟨k0, k1, k2⟩, ⟨f0, f1, f2⟩, hrb⟩ := K
 have hw : IntKind.i64.wrap ((deep : Int) + 1) = (deep : Int) + 1 := wrap_in (by omega)
 have hg : (100 : Int) < (deep : Int) + 1 := by omega
 have K2 := Box3.st2 h.here (u := .int .i64 ((deep : Int) + 1))
 obtain ⟨⟨l0, l1, l2⟩, ⟨m0, m1, m2⟩, hrb2⟩ := K2
 have HG := Lib.hid (show GrX rb W (W.setCell ⟨rb, 2, none⟩ (.int .i64 ((deep : Int) + 1))) from (GrX.refl rb W).set _)
 clear h
 have hm := mk_flt
 go_enter Tryd.func35, Tryd.ntmps35
 go_wp2
 exact ⟨rfl, rfl, HG.out⟩
def takB (s : ByteArray) (t : TokD) : Bool := decide (bZ t.text = s) && !t.touch
theorem take_any {T : List TokD} {tb off cap rb n deep : Nat} {t : TokD} {W : World} (s : ByteArray) (h : RdAt T tb off cap rb W n deep) (ht : T[n]? = some t) (hl : T.length ≤ 4611686018427387904) :
  Calls Tryd.prog 24 #[.pointer (some ⟨rb, 0, none⟩), .string s] W fun e w' => e = .returned (.bool (takB s t)) ∧ GrX rb W w' ∧ RdAt T tb off cap rb w' (if takB s t then n + 1 else n) deep := by
 have hp := peek_any h ht hl
 have hlt : n < T.length := (List.getElem?_eq_some_iff.1 ht).1
 have HW := Lib.hid (show IntKind.i64.wrap ((n : Int) + 1) = (n : Int) + 1 from wrap_in (by omega))
 have H := Lib.hid h
 clear h ht hlt hl
 obtain ⟨tx, tp, tt⟩ := t
 simp only at hp
 have HT := Lib.hid (show takB s ⟨tx, tp, tt⟩ = (decide (bZ tx = s) && !tt) from rfl)
 generalize takB s ⟨tx, tp, tt⟩ = q at HT ⊢
 by_cases he : bZ tx = s
 ·subst he
  cases tt
  ·have hq : q = true := by rw [HT.out]; simp
   subst hq
   clear HT
   go_enter Tryd.func24, Tryd.ntmps24
   go_wp2_with (go_at_call 12; refine hp.mono ?_; rintro e w' ⟨rfl, hb⟩; have hG := Gr.alloc hb (.cells #[.string (bZ tx), .int .i64 tp, .bool false] 43); have hw := HW.out; have hR := H.out.mono hG; have K := hR.here; obtain ⟨⟨k0, k1, k2⟩, ⟨f0, f1, f2⟩, hrb⟩ := K)
   go_ret
   exact ⟨rfl, GrX.set (GrX.of hG) _, hR.to ((GrX.refl _ _).set _) (Box3.st1 hR.here)⟩
  ·have hq : q = false := by rw [HT.out]; simp
   subst hq
   clear HT
   go_enter Tryd.func24, Tryd.ntmps24
   go_wp2_with (go_at_call 12; refine hp.mono ?_; rintro e w' ⟨rfl, hb⟩)
   go_ret
   exact ⟨rfl, GrX.of (Gr.alloc hb _), H.out.mono (Gr.alloc hb _)⟩
 ·have hq : q = false := by rw [HT.out, decide_eq_false he]; rfl
  subst hq
  clear HT
  have hne := zbytes_ne he
  go_enter Tryd.func24, Tryd.ntmps24
  go_wp2_with (go_at_call 12; refine hp.mono ?_; rintro e w' ⟨rfl, hb⟩)
  go_ret
  exact ⟨rfl, GrX.of (Gr.alloc hb _), H.out.mono (Gr.alloc hb _)⟩
end Go.Proofs.YtfalbgflabajbaaDoor

namespace Go.Proofs.YtfalbgflabajbaaDoor
set_option linter.unusedSectionVars false
open Go.RowKit Go.Sort
set_option linter.unusedVariables false
set_option linter.unusedSimpArgs false
set_option maxRecDepth 100000
theorem wNumber_any (s : ByteArray) (hs : s.size ≤ 9223372036854775807) (w : World) :
  Calls Tryd.prog 43 #[.string s] w fun e w' => e = .returned (.tuple #[.int .i64 (numZ s 9).1, .bool (numZ s 9).2]) ∧ Gr w w' := by
 have hN := NumberOf_any s 9 hs (by decide)
 generalize numZ s 9 = q at *
 go_enter Tryd.func43, Tryd.ntmps43
 go_wp2_with (go_at_call 46; refine (hN _).mono ?_; rintro e w' ⟨rfl, hb⟩)
 exact bodyPost_ret (v := .tuple #[.int .i64 q.1, .bool q.2]) (by simp [results, Tryd.results43, go_sem]) rfl ⟨rfl, hb⟩
def nmB (t : TokD) : Bool := (numZ (bZ t.text) 9).2 && !t.touch
theorem number_ok {T : List TokD} {tb off cap rb n deep : Nat} {t : TokD} {W : World} (h : RdAt T tb off cap rb W n deep) (ht : T[n]? = some t) (hl : T.length ≤ 4611686018427387904) (hs : (bZ t.text).size ≤ 9223372036854775807) (hq : nmB t = true) :
  Calls Tryd.prog 34 #[.pointer (some ⟨rb, 0, none⟩)] W fun e w' => e = .returned (.int .i64 (numZ (bZ t.text) 9).1) ∧ GrX rb W w' ∧ RdAt T tb off cap rb w' (n + 1) deep := by
 have hp := peek_any h ht hl
 have hlt : n < T.length := (List.getElem?_eq_some_iff.1 ht).1
 have HW := Lib.hid (show IntKind.i64.wrap ((n : Int) + 1) = (n : Int) + 1 from wrap_in (by omega))
 have H := Lib.hid h
 have HN := Lib.hid (wNumber_any (bZ t.text) hs)
 unfold nmB at hq
 rw [Bool.and_eq_true, Bool.not_eq_true'] at hq
 obtain ⟨hq1, hq2⟩ := hq
 clear h ht hlt hl hs
 obtain ⟨tx, tp, tt⟩ := t
 simp only at hp hq1 hq2 HN ⊢
 subst hq2
 generalize numZ (bZ tx) 9 = r at *
 obtain ⟨r1, r2⟩ := r
 simp only at hq1 HN ⊢
 subst hq1
 go_enter Tryd.func34, Tryd.ntmps34
 go_wp2_with (first
  | (go_at_call 12; refine hp.mono ?_; rintro e w' ⟨rfl, hb⟩; have hG := Gr.alloc hb (.cells #[.string (bZ tx), .int .i64 tp, .bool false] 43))
  | (go_at_call 43; refine (HN.out _).mono ?_; rintro e w2 ⟨rfl, hb2⟩; have B3 := (Box3.of (heap_last _ (.cells #[.string (bZ tx), .int .i64 tp, .bool false] 43))).mono hb2; obtain ⟨⟨b0, b1, b2⟩, _, _⟩ := B3; have hG2 := hG.trans hb2; have hR := H.out.mono hG2; have hw := HW.out; have K := hR.here; obtain ⟨⟨k0, k1, k2⟩, ⟨f0, f1, f2⟩, hrb⟩ := K))
 go_ret
 exact ⟨rfl, GrX.set (GrX.of hG2) _, hR.to ((GrX.refl _ _).set _) (Box3.st1 hR.here)⟩
theorem number_bad {T : List TokD} {tb off cap rb n deep : Nat} {t : TokD} {W : World} (h : RdAt T tb off cap rb W n deep) (ht : T[n]? = some t) (hl : T.length ≤ 4611686018427387904) (hs : (bZ t.text).size ≤ 9223372036854775807) (hq : nmB t = false) :
  Calls Tryd.prog 34 #[.pointer (some ⟨rb, 0, none⟩)] W fun e w' => e = .panicked (flt t.pos 9) ∧ GrX rb W w' := by
 have hp := peek_any h ht hl
 have HF := Lib.hid (show ∀ W2, Gr W W2 → _ from fun W2 g => refuse_any (h.mono g) ht hl)
 have HN := Lib.hid (wNumber_any (bZ t.text) hs)
 unfold nmB at hq
 clear h ht hl hs
 obtain ⟨tx, tp, tt⟩ := t
 simp only at hp hq HN HF ⊢
 generalize numZ (bZ tx) 9 = r at *
 obtain ⟨r1, r2⟩ := r
 simp only at hq HN ⊢
 cases r2
 ·clear hq
  go_enter Tryd.func34, Tryd.ntmps34
  go_wp2_with (first
   | (go_at_call 12; refine hp.mono ?_; rintro e w' ⟨rfl, hb⟩; have hG := Gr.alloc hb (.cells #[.string (bZ tx), .int .i64 tp, .bool tt] 43))
   | (go_at_call 43; refine (HN.out _).mono ?_; rintro e w2 ⟨rfl, hb2⟩; have B3 := (Box3.of (heap_last _ (.cells #[.string (bZ tx), .int .i64 tp, .bool tt] 43))).mono hb2; obtain ⟨⟨b0, b1, b2⟩, _, _⟩ := B3; have hG2 := hG.trans hb2)
   | (go_at_call 13; refine (HF.out _ hG2).mono ?_; rintro e w3 ⟨rfl, hb3⟩))
  exact ⟨rfl, rfl, GrX.of (hG2.trans hb3)⟩
 ·have htt : tt = true := by simpa using hq
  subst htt
  clear hq
  go_enter Tryd.func34, Tryd.ntmps34
  go_wp2_with (first
   | (go_at_call 12; refine hp.mono ?_; rintro e w' ⟨rfl, hb⟩; have hG := Gr.alloc hb (.cells #[.string (bZ tx), .int .i64 tp, .bool true] 43))
   | (go_at_call 43; refine (HN.out _).mono ?_; rintro e w2 ⟨rfl, hb2⟩; have B3 := (Box3.of (heap_last _ (.cells #[.string (bZ tx), .int .i64 tp, .bool true] 43))).mono hb2; obtain ⟨⟨b0, b1, b2⟩, _, _⟩ := B3; have hG2 := hG.trans hb2)
   | (go_at_call 13; refine (HF.out _ hG2).mono ?_; rintro e w3 ⟨rfl, hb3⟩))
  exact ⟨rfl, rfl, GrX.of (hG2.trans hb3)⟩
end Go.Proofs.YtfalbgflabajbaaDoor

namespace Go.Proofs.YtfalbgflabajbaaDoor
set_option linter.unusedSectionVars false
open Go.RowKit Go.Sort
set_option linter.unusedVariables false
set_option linter.unusedSimpArgs false
mutual
def SvAt (w : World) (P : Nat → Prop) : PickD → Value → Prop
 | .mk _ _ _ l, sv => (l = [] ∧ sv = .slice none 0 0) ∨ ∃ b c, sv = .slice (some ⟨b, 0, none⟩) l.length c ∧ l.length ≤ c ∧ c ≤ maxLen ∧ P b ∧ b < w.heap.size ∧ RwAt w P b 0 l
def RwAt (w : World) (P : Nat → Prop) (b : Nat) : Nat → List PickD → Prop
 | _, [] => True
 | i, p :: l => (w.cell? ⟨b, i * 4, none⟩ = some (.int .i64 p.kind) ∧ w.cell? ⟨b, i * 4 + 1, none⟩ = some (.int .i64 p.frm) ∧ w.cell? ⟨b, i * 4 + 2, none⟩ = some (.int .i64 p.to) ∧ ∃ sv, w.cell? ⟨b, i * 4 + 3, none⟩ = some sv ∧ SvAt w P p sv) ∧ RwAt w P b (i + 1) l
end
def PkAt (w : World) (P : Nat → Prop) (p : PickD) (v : Value) : Prop := ∃ sv, v = .agg #[.int .i64 p.kind, .int .i64 p.frm, .int .i64 p.to, sv] ∧ SvAt w P p sv
theorem svAt_leaf (w : World) (P : Nat → Prop) (k f t : Int) : SvAt w P (.mk k f t []) (.slice none 0 0) := by
 rw [SvAt]; exact .inl ⟨rfl, rfl⟩
mutual
theorem SvAt.mono {w w' : World} {P Q : Nat → Prop} (hs : w.heap.size ≤ w'.heap.size) (hk : ∀ k, P k → k < w.heap.size → w'.heap[k]? = w.heap[k]?) (hQ : ∀ k, P k → k < w.heap.size → Q k) : ∀ (p : PickD) (sv : Value), SvAt w P p sv → SvAt w' Q p sv
 | .mk k f t l, sv, h => by
  rw [SvAt] at h ⊢
  rcases h with h | ⟨b, c, h1, h2, h3, h4, h5, h6⟩
  ·exact .inl h
  ·exact .inr ⟨b, c, h1, h2, h3, hQ b h4 h5, Nat.lt_of_lt_of_le h5 hs, RwAt.mono hs hk hQ b h4 h5 l 0 h6⟩
theorem RwAt.mono {w w' : World} {P Q : Nat → Prop} (hs : w.heap.size ≤ w'.heap.size) (hk : ∀ k, P k → k < w.heap.size → w'.heap[k]? = w.heap[k]?) (hQ : ∀ k, P k → k < w.heap.size → Q k) (b : Nat) (hb : P b) (hb2 : b < w.heap.size) : ∀ (l : List PickD) (i : Nat), RwAt w P b i l → RwAt w' Q b i l
 | [], _, _ => by rw [RwAt]; trivial
 | p :: l, i, h => by
  rw [RwAt] at h ⊢
  obtain ⟨⟨a0, a1, a2, sv, a3, a4⟩, h2⟩ := h
  have e := hk b hb hb2
  refine ⟨⟨?_, ?_, ?_, sv, ?_, SvAt.mono hs hk hQ p sv a4⟩, RwAt.mono hs hk hQ b hb hb2 l (i + 1) h2⟩
  ·rw [← a0]; simp only [World.cell?, e]
  ·rw [← a1]; simp only [World.cell?, e]
  ·rw [← a2]; simp only [World.cell?, e]
  ·rw [← a3]; simp only [World.cell?, e]
end
theorem svAt_shape {w : World} {P : Nat → Prop} : ∀ {p : PickD} {sv : Value}, SvAt w P p sv → ∃ a n c, sv = .slice a n c
 | .mk k f t l, sv, h => by
  rw [SvAt] at h
  rcases h with ⟨_, h⟩ | ⟨b, c, h, _⟩
  ·exact ⟨_, _, _, h⟩
  ·exact ⟨_, _, _, h⟩
def newB (w w' : World) (k : Nat) : Prop := w.heap.size ≤ k ∧ k < w'.heap.size
theorem svAt_one {w : World} {P : Nat → Prop} {b : Nat} {k f t : Int} {q : PickD} {sv : Value} {T : TypeId} (hb : P b) (h : w.heap[b]? = some (.cells #[.int .i64 q.kind, .int .i64 q.frm, .int .i64 q.to, sv] T (0, 0))) (hq : SvAt w P q sv) : SvAt w P (.mk k f t [q]) (.slice (some ⟨b, 0, none⟩) 1 1) := by
 rw [SvAt]
 have hc := fun j => Lib.cell_of_heap h j
 refine .inr ⟨b, 1, rfl, Nat.le_refl _, by unfold maxLen; omega, hb, (Array.getElem?_eq_some_iff.1 h).1, ?_⟩
 rw [RwAt, RwAt]
 exact ⟨⟨(hc 0).trans rfl, (hc 1).trans rfl, (hc 2).trans rfl, sv, (hc 3).trans rfl, hq⟩, trivial⟩
def PostP (T : List TokD) (tb off cap rb deep : Nat) (W : World) (R : PR PickD) (e : Ending) (w' : World) : Prop := match R with
 | .ok p l => ∃ v n', e = .returned v ∧ l = T.drop n' ∧ n' < T.length ∧ GrX rb W w' ∧ RdAt T tb off cap rb w' n' deep ∧ PkAt w' (newB W w') p v
 | .bad n => e = .panicked (flt n 9) ∧ GrX rb W w'
 | .large => e = .panicked (flt 0 2) ∧ GrX rb W w'
 | .out => True
structure Toks (T : List TokD) : Prop where
 few : T.length ≤ 5000
 text : ∀ t ∈ T, t.text.length ≤ 9223372036854775807
 last : ∃ T' n, T = T' ++ [⟨[], n, false⟩]
theorem Toks.len {T : List TokD} (h : Toks T) : T.length ≤ 4611686018427387904 := Nat.le_trans h.few (by decide)
theorem Toks.next {T : List TokD} (h : Toks T) {n : Nat} {t : TokD} (ht : T[n]? = some t) (hn : t.text ≠ []) : n + 1 < T.length := by
 obtain ⟨T', m, rfl⟩ := h.last
 have hlt := (List.getElem?_eq_some_iff.1 ht).1
 simp only [List.length_append, List.length_cons, List.length_nil] at hlt ⊢
 by_cases hq : n < T'.length
 ·omega
 ·exfalso
  have hn2 : n = T'.length := by omega
  subst hn2
  rw [List.getElem?_append_right (Nat.le_refl _), Nat.sub_self, List.getElem?_cons_zero] at ht
  injection ht with ht
  subst ht
  exact hn rfl
theorem drop_at {T : List TokD} {n : Nat} {t : TokD} (ht : T[n]? = some t) : T.drop n = t :: T.drop (n + 1) := by
 obtain ⟨hlt, rfl⟩ := List.getElem?_eq_some_iff.1 ht
 exact List.drop_eq_getElem_cons hlt
end Go.Proofs.YtfalbgflabajbaaDoor

namespace Go.Proofs.YtfalbgflabajbaaDoor
set_option linter.unusedSectionVars false
open Go.RowKit Go.Sort
set_option linter.unusedVariables false
set_option linter.unusedSimpArgs false
set_option maxRecDepth 100000
section
variable {T : List TokD} {tb off cap rb : Nat}
def PartS (T : List TokD) (tb off cap rb f : Nat) : Prop := ∀ (W : World) (n deep : Nat), deep ≤ 100 → RdAt T tb off cap rb W n deep → n < T.length → parP f deep (T.drop n) ≠ .out → Calls Tryd.prog 23 #[.pointer (some ⟨rb, 0, none⟩)] W (PostP T tb off cap rb deep W (parP f deep (T.drop n)))
def WholeS (T : List TokD) (tb off cap rb f : Nat) : Prop := ∀ (W : World) (n deep : Nat), deep ≤ 100 → RdAt T tb off cap rb W n deep → n < T.length → whlP f deep (T.drop n) ≠ .out → Calls Tryd.prog 11 #[.pointer (some ⟨rb, 0, none⟩)] W (PostP T tb off cap rb deep W (whlP f deep (T.drop n)))
def PrefS (T : List TokD) (tb off cap rb f : Nat) : Prop := ∀ (W : World) (n deep : Nat) (p : PickD), deep ≤ 100 → RdAt T tb off cap rb W n deep → n < T.length → prfP f deep p (T.drop n) ≠ .out → Calls Tryd.prog 36 #[.pointer (some ⟨rb, 0, none⟩), .agg #[.int .i64 p.kind, .int .i64 p.frm, .int .i64 p.to, .slice none 0 0]] W (PostP T tb off cap rb deep W (prfP f deep p (T.drop n)))
theorem putP {w : World} {b : Nat} {v0 v1 v2 v3 : Value} (K : Box4 w b v0 v1 v2 v3) (u0 u1 u2 u3 : Value) : (w.setCell ⟨b, 0, none⟩ u0).cell? ⟨b, 0, none⟩ = some u0 ∧ ((w.setCell ⟨b, 0, none⟩ u0).setCell ⟨b, 1, none⟩ u1).cell? ⟨b, 1, none⟩ = some u1 ∧ (((w.setCell ⟨b, 0, none⟩ u0).setCell ⟨b, 1, none⟩ u1).setCell ⟨b, 2, none⟩ u2).cell? ⟨b, 2, none⟩ = some u2 ∧ ((((w.setCell ⟨b, 0, none⟩ u0).setCell ⟨b, 1, none⟩ u1).setCell ⟨b, 2, none⟩ u2).setCell ⟨b, 3, none⟩ u3).cell? ⟨b, 3, none⟩ = some u3 :=
 ⟨(Box4.st0 K).1.1, (Box4.st1 (Box4.st0 K)).1.2.1, (Box4.st2 (Box4.st1 (Box4.st0 K))).1.2.2.1, (Box4.st3 (Box4.st2 (Box4.st1 (Box4.st0 K)))).1.2.2.2⟩
theorem GrX.put {rb b o : Nat} {w w' : World} (h : GrX rb w w') (hb : w.heap.size ≤ b) (u : Value) : GrX rb w (w'.setCell ⟨b, o, none⟩ u) := by
 have k : Below b w' (w'.setCell ⟨b, o, none⟩ u) := Below.setCell (p := ⟨b, o, none⟩) (Below.refl b w') (Nat.le_refl b) u
 refine ⟨k.os.trans h.os, k.tape.trans h.tape, k.output.trans h.output, Nat.le_trans h.size k.size, fun i hi hne => ?_⟩
 rw [← h.block i hi hne]
 exact heap_setCell_ne w' (by omega) o u
theorem GrX.ofG {rb : Nat} {w w' : World} (h : Gr w w') : GrX rb w w' := GrX.of h
theorem GrX.alloc {rb : Nat} {w w' : World} (h : GrX rb w w') (o : Obj) : GrX rb w (w'.alloc o) := h.trans (GrX.of (Gr.alloc (Gr.refl w') o))
theorem GrX.heap {rb : Nat} {w w' : World} (h : GrX rb w w') {k : Nat} {o : Obj} (hk : w.heap[k]? = some o) (hne : k ≠ rb) : w'.heap[k]? = some o := (h.block k (Array.getElem?_eq_some_iff.1 hk).1 hne).trans hk
theorem pref_step {f : Nat} (ih : PartS T tb off cap rb f) : PrefS T tb off cap rb (f + 1) := by
 intro W n deep p hd h hn ho
 rw [prfP] at ho ⊢
 by_cases h100 : 100 ≤ deep
 ·rw [if_pos h100]
  have he := enter_deep (h.mono (Gr.alloc (Gr.alloc (Gr.refl W) (.cells #[.int .i64 p.kind, .int .i64 p.frm, .int .i64 p.to, .slice none 0 0] 24)) (.cells #[.int .i64 0, .int .i64 0, .int .i64 0, .slice none 0 0] 24))) h100 (by omega)
  go_enter Tryd.func36, Tryd.ntmps36
  go_wp2_with (go_at_call 35; refine he.mono ?_; rintro e w' ⟨rfl, hb⟩)
  exact ⟨rfl, rfl, (GrX.of (Gr.alloc (Gr.alloc (Gr.refl W) _) _)).trans hb⟩
 ·rw [if_neg h100] at ho ⊢
  have hrb := h.here.2.2
  have hne : W.heap.size ≠ rb := by omega
  have hne2 : W.heap.size + 1 ≠ rb := by omega
  have hG1 : Gr W ((W.alloc (.cells #[.int .i64 p.kind, .int .i64 p.frm, .int .i64 p.to, .slice none 0 0] 24)).alloc (.cells #[.int .i64 0, .int .i64 0, .int .i64 0, .slice none 0 0] 24)) := Gr.alloc (Gr.alloc (Gr.refl W) _) _
  have he := enter_any (h.mono hG1) (by omega)
  have hA : ((W.alloc (.cells #[.int .i64 p.kind, .int .i64 p.frm, .int .i64 p.to, .slice none 0 0] 24)).alloc (.cells #[.int .i64 0, .int .i64 0, .int .i64 0, .slice none 0 0] 24)).heap[W.heap.size]? = some (.cells #[.int .i64 p.kind, .int .i64 p.frm, .int .i64 p.to, .slice none 0 0] 24 (0, 0)) := heap_old _ _ _ _ (by simp) (heap_last W _)
  have hB : ((W.alloc (.cells #[.int .i64 p.kind, .int .i64 p.frm, .int .i64 p.to, .slice none 0 0] 24)).alloc (.cells #[.int .i64 0, .int .i64 0, .int .i64 0, .slice none 0 0] 24)).heap[W.heap.size + 1]? = some (.cells #[.int .i64 0, .int .i64 0, .int .i64 0, .slice none 0 0] 24 (0, 0)) := heap_at _ _ _ (by simp)
  have hP : ∀ W2, RdAt T tb off cap rb W2 n (deep + 1) → _ := fun W2 h2 => ih W2 n (deep + 1) (by omega) h2 hn (fun e => ho (by rw [e]; rfl))
  have HW := Lib.hid (show IntKind.i64.wrap (((deep + 1 : Nat) : Int) - 1) = (deep : Int) by rw [wrap_in (by omega)]; omega)
  have HE := Lib.hid he
  have HA := Lib.hid hA
  have HB := Lib.hid hB
  have HG := Lib.hid hG1
  have HR0 := Lib.hid h
  clear he hA hB hG1 h ih
  generalize hd1 : deep + 1 = d1 at *
  cases hR : parP f d1 (T.drop n) with
  | out => rw [hR] at ho; exact absurd rfl ho
  | bad m =>
   rw [hR] at hP
   have HP := Lib.hid hP
   clear hP
   go_enter Tryd.func36, Tryd.ntmps36
   go_wp2_with (first
    | (go_at_call 35; refine HE.out.mono ?_; rintro e W2 ⟨rfl, hX, hR2⟩)
    | (go_at_call 23; refine (HP.out _ hR2).mono ?_; rintro e W3 ⟨rfl, hX3⟩))
   exact ⟨rfl, rfl, ((GrX.of HG.out).trans hX).trans hX3⟩
  | large =>
   rw [hR] at hP
   have HP := Lib.hid hP
   clear hP
   go_enter Tryd.func36, Tryd.ntmps36
   go_wp2_with (first
    | (go_at_call 35; refine HE.out.mono ?_; rintro e W2 ⟨rfl, hX, hR2⟩)
    | (go_at_call 23; refine (HP.out _ hR2).mono ?_; rintro e W3 ⟨rfl, hX3⟩))
   exact ⟨rfl, rfl, ((GrX.of HG.out).trans hX).trans hX3⟩
  | ok q l =>
   rw [hR] at hP
   have HP := Lib.hid hP
   clear hP
   go_enter Tryd.func36, Tryd.ntmps36
   go_wp2_with (first
    | (go_at_call 35; refine HE.out.mono ?_; rintro e W2 ⟨rfl, hX, hR2⟩)
    | (go_at_call 23; refine (HP.out _ hR2).mono ?_; rintro e W3 ⟨v, n', rfl, rfl, hn', hX3, hR3, sv, rfl, hS⟩; have hA3 := hX3.heap (hX.heap HA.out hne) hne; have hB3 := hX3.heap (hX.heap HB.out hne2) hne2; have hGa := Gr.alloc (Gr.refl W3) (.cells #[.int .i64 q.kind, .int .i64 q.frm, .int .i64 q.to, sv] 24); have BA := (Box4.of hA3).mono hGa; have BB := (Box4.of hB3).mono hGa; have KR := (hR3.mono hGa).here; have BA1 := Box4.st3 BA (u := .slice (some ⟨W3.heap.size, 0, none⟩) 1 1); have hw := HW.out))
   have hs1 : W.heap.size + 2 ≤ W2.heap.size := by have := hX.size; simpa using this
   have hs2 := hX3.size
   have hal : ∀ k o, k < W3.heap.size → (W3.alloc o).heap[k]? = W3.heap[k]? := fun k o hk => Below.heap_alloc W3 o k hk
   have hnx := heap_last W3 (.cells #[.int .i64 q.kind, .int .i64 q.frm, .int .i64 q.to, sv] 24)
   have hGX := ((((((((((GrX.of HG.out).trans hX).trans hX3).alloc (.cells #[.int .i64 q.kind, .int .i64 q.frm, .int .i64 q.to, sv] 24)).put (o := 3) (Nat.le_refl W.heap.size) (.slice (some ⟨W3.heap.size, 0, none⟩) 1 1)).set (o := 2) (.int .i64 (deep : Int))).put (b := W.heap.size + 1) (o := 0) (by omega) (.int .i64 p.kind)).put (b := W.heap.size + 1) (o := 1) (by omega) (.int .i64 p.frm)).put (b := W.heap.size + 1) (o := 2) (by omega) (.int .i64 p.to)).put (b := W.heap.size + 1) (o := 3) (by omega) (.slice (some ⟨W3.heap.size, 0, none⟩) 1 1))
   have BB1 := Box4.other (Box4.other BB (c := W.heap.size) (o := 3) (u := .slice (some ⟨W3.heap.size, 0, none⟩) 1 1) (by omega)) (c := rb) (o := 2) (u := .int .i64 (deep : Int)) (by omega)
   obtain ⟨c0, c1, c2, c3⟩ := putP BB1 (.int .i64 p.kind) (.int .i64 p.frm) (.int .i64 p.to) (.slice (some ⟨W3.heap.size, 0, none⟩) 1 1)
   have KR1 := Box3.other (Box3.other (Box3.other (Box3.other (Box3.st2 (Box3.other KR (c := W.heap.size) (o := 3) (u := .slice (some ⟨W3.heap.size, 0, none⟩) 1 1) (by omega)) (u := .int .i64 (deep : Int))) (c := W.heap.size + 1) (o := 0) (u := .int .i64 p.kind) (by omega)) (c := W.heap.size + 1) (o := 1) (u := .int .i64 p.frm) (by omega)) (c := W.heap.size + 1) (o := 2) (u := .int .i64 p.to) (by omega)) (c := W.heap.size + 1) (o := 3) (u := .slice (some ⟨W3.heap.size, 0, none⟩) 1 1) (by omega)
   refine bodyPost_ret (v := .agg #[.int .i64 p.kind, .int .i64 p.frm, .int .i64 p.to, .slice (some ⟨W3.heap.size, 0, none⟩) 1 1]) (by simp [results, Tryd.results36, go_sem, c0, c1, c2, c3]) rfl ?_
   refine ⟨_, n', rfl, rfl, hn', hGX, HR0.out.to hGX KR1, _, rfl, ?_⟩
   have hsz := hGX.size
   refine svAt_one (T := 24) ⟨by omega, ?_⟩ ?_ (SvAt.mono ?_ ?_ ?_ q sv hS)
   ·simp
   ·rw [heap_setCell_ne _ (by omega), heap_setCell_ne _ (by omega), heap_setCell_ne _ (by omega), heap_setCell_ne _ (by omega), heap_setCell_ne _ (by omega), heap_setCell_ne _ (by omega)]
    exact hnx
   ·simp
   ·intro k hk1 hk2
    have := hk1.1
    rw [heap_setCell_ne _ (by omega), heap_setCell_ne _ (by omega), heap_setCell_ne _ (by omega), heap_setCell_ne _ (by omega), heap_setCell_ne _ (by omega), heap_setCell_ne _ (by omega)]
    exact hal k _ hk2
   ·intro k hk1 hk2
    have := hk1.1
    refine ⟨by omega, ?_⟩
    simp
    omega
end
end Go.Proofs.YtfalbgflabajbaaDoor

namespace Go.Proofs.YtfalbgflabajbaaDoor
set_option linter.unusedSectionVars false
open Go.RowKit Go.Sort
set_option linter.unusedVariables false
set_option linter.unusedSimpArgs false
set_option maxRecDepth 100000
theorem bZ_inj' {a b : List UInt8} (h : bZ a = bZ b) : a = b := by
 unfold bZ at h
 injection h with h
 simpa using congrArg Array.toList h
theorem takP_eq (s : List UInt8) (t : TokD) (r : List TokD) : takP s (t :: r) = if takB (bZ s) t = true then some r else none := by
 unfold takP takB
 by_cases h1 : t.text = s
 ·cases h2 : t.touch <;> simp [h1, h2]
 ·have : ¬ bZ t.text = bZ s := fun e => h1 (bZ_inj' e)
  simp [h1, this]
theorem takB_ne {s : List UInt8} {t : TokD} (hs : s ≠ []) (h : takB (bZ s) t = true) : t.text ≠ [] := by
 unfold takB at h
 rw [Bool.and_eq_true, decide_eq_true_eq] at h
 rw [bZ_inj' h.1]
 exact hs
theorem numP_eq (t : TokD) (r : List TokD) : numP (t :: r) = if nmB t = true then .ok (numZ (bZ t.text) 9).1 r else .bad t.pos := by
 unfold numP nmB
 cases h1 : (numZ (bZ t.text) 9).2 <;> cases h2 : t.touch <;> simp [h1, h2]
theorem nmB_ne {t : TokD} (h : nmB t = true) : t.text ≠ [] := by
 intro e
 unfold nmB at h
 rw [Bool.and_eq_true] at h
 have h1 := h.1
 rw [e] at h1
 unfold numZ at h1
 rw [if_pos (.inl rfl)] at h1
 cases h1
section
variable {T : List TokD} {tb off cap rb : Nat}
theorem take_no {n deep : Nat} {t : TokD} {s : ByteArray} (hT : Toks T) (ht : T[n]? = some t) (hq : takB s t = false) (W : World) (h : RdAt T tb off cap rb W n deep) :
  Calls Tryd.prog 24 #[.pointer (some ⟨rb, 0, none⟩), .string s] W fun e w' => e = .returned (.bool false) ∧ GrX rb W w' ∧ RdAt T tb off cap rb w' n deep :=
 (take_any s h ht hT.len).mono fun e w' k => by rw [hq] at k; exact k
theorem take_yes {n deep : Nat} {t : TokD} {s : ByteArray} (hT : Toks T) (ht : T[n]? = some t) (hq : takB s t = true) (W : World) (h : RdAt T tb off cap rb W n deep) :
  Calls Tryd.prog 24 #[.pointer (some ⟨rb, 0, none⟩), .string s] W fun e w' => e = .returned (.bool true) ∧ GrX rb W w' ∧ RdAt T tb off cap rb w' (n + 1) deep :=
 (take_any s h ht hT.len).mono fun e w' k => by rw [hq] at k; exact k
theorem num_yes {n deep : Nat} {t : TokD} (hT : Toks T) (ht : T[n]? = some t) (hq : nmB t = true) (W : World) (h : RdAt T tb off cap rb W n deep) :
  Calls Tryd.prog 34 #[.pointer (some ⟨rb, 0, none⟩)] W fun e w' => e = .returned (.int .i64 (numZ (bZ t.text) 9).1) ∧ GrX rb W w' ∧ RdAt T tb off cap rb w' (n + 1) deep :=
 number_ok h ht hT.len (hT.text t (List.mem_of_getElem? ht)) hq
theorem num_no {n deep : Nat} {t : TokD} (hT : Toks T) (ht : T[n]? = some t) (hq : nmB t = false) (W : World) (h : RdAt T tb off cap rb W n deep) :
  Calls Tryd.prog 34 #[.pointer (some ⟨rb, 0, none⟩)] W fun e w' => e = .panicked (flt t.pos 9) ∧ GrX rb W w' :=
 number_bad h ht hT.len (hT.text t (List.mem_of_getElem? ht)) hq
theorem RdAt.other {n deep b o : Nat} {w : World} {u : Value} (h : RdAt T tb off cap rb w n deep) (h1 : b ≠ rb) (h2 : b ≠ tb) : RdAt T tb off cap rb (w.setCell ⟨b, o, none⟩ u) n deep := by
 refine ⟨h.here.other h1, h.ne, fun i t ht => ?_⟩
 have k := h.word i t ht
 have e : ∀ j, (w.setCell ⟨b, o, none⟩ u).cell? ⟨tb, j, none⟩ = w.cell? ⟨tb, j, none⟩ := fun j => by simp only [World.cell?, heap_setCell_ne w h2]
 rw [e, e, e]
 exact k
theorem fin4 {W W3 : World} {b n' deep : Nat} {v0 v1 v2 v3 : Value} (hX : GrX rb W W3) (hb : W.heap.size ≤ b) (h1 : b ≠ rb) (h2 : b ≠ tb) (BA : Box4 W3 b v0 v1 v2 v3) (hR : RdAt T tb off cap rb W3 n' deep) (u0 u1 u2 u3 : Value) :
  ((W3.setCell ⟨b, 0, none⟩ u0).cell? ⟨b, 0, none⟩ = some u0 ∧ ((W3.setCell ⟨b, 0, none⟩ u0).setCell ⟨b, 1, none⟩ u1).cell? ⟨b, 1, none⟩ = some u1 ∧ (((W3.setCell ⟨b, 0, none⟩ u0).setCell ⟨b, 1, none⟩ u1).setCell ⟨b, 2, none⟩ u2).cell? ⟨b, 2, none⟩ = some u2 ∧ ((((W3.setCell ⟨b, 0, none⟩ u0).setCell ⟨b, 1, none⟩ u1).setCell ⟨b, 2, none⟩ u2).setCell ⟨b, 3, none⟩ u3).cell? ⟨b, 3, none⟩ = some u3) ∧
  GrX rb W ((((W3.setCell ⟨b, 0, none⟩ u0).setCell ⟨b, 1, none⟩ u1).setCell ⟨b, 2, none⟩ u2).setCell ⟨b, 3, none⟩ u3) ∧
  RdAt T tb off cap rb ((((W3.setCell ⟨b, 0, none⟩ u0).setCell ⟨b, 1, none⟩ u1).setCell ⟨b, 2, none⟩ u2).setCell ⟨b, 3, none⟩ u3) n' deep ∧
  (∀ k, k ≠ b → ((((W3.setCell ⟨b, 0, none⟩ u0).setCell ⟨b, 1, none⟩ u1).setCell ⟨b, 2, none⟩ u2).setCell ⟨b, 3, none⟩ u3).heap[k]? = W3.heap[k]?) ∧
  ((((W3.setCell ⟨b, 0, none⟩ u0).setCell ⟨b, 1, none⟩ u1).setCell ⟨b, 2, none⟩ u2).setCell ⟨b, 3, none⟩ u3).heap.size = W3.heap.size := by
 refine ⟨putP BA u0 u1 u2 u3, (((hX.put hb u0).put hb u1).put hb u2).put hb u3, (((hR.other h1 h2).other h1 h2).other h1 h2).other h1 h2, fun k hk => ?_, by simp⟩
 rw [heap_setCell_ne _ (Ne.symm hk), heap_setCell_ne _ (Ne.symm hk), heap_setCell_ne _ (Ne.symm hk), heap_setCell_ne _ (Ne.symm hk)]
theorem RdAt.tb_lt {n deep : Nat} {w : World} (h : RdAt T tb off cap rb w n deep) (hn : n < T.length) : tb < w.heap.size := block_lt_of_cell (h.word n T[n] (List.getElem?_eq_getElem hn)).1
theorem part_group {n deep : Nat} {t : TokD} {f : Nat} {W : World} (hT : Toks T) (h : RdAt T tb off cap rb W n deep) (ht : T[n]? = some t) (q1 : takB ⟨#[103, 114, 111, 117, 112]⟩ t = true) :
  Calls Tryd.prog 23 #[.pointer (some ⟨rb, 0, none⟩)] W (PostP T tb off cap rb deep W ((numP (T.drop (n + 1))).bind fun m l2 => .ok (.mk 2 m 0 []) l2)) := by
 have hn := hT.next ht (takB_ne (s := wGroup) (by decide) q1)
 have hrb := h.here.2.2
 have htb := h.tb_lt (List.getElem?_eq_some_iff.1 ht).1
 obtain ⟨t2, ht2⟩ : ∃ t2, T[n + 1]? = some t2 := ⟨_, List.getElem?_eq_getElem hn⟩
 rw [drop_at ht2, numP_eq]
 have hG1 : Gr W (W.alloc (.cells #[.int .i64 0, .int .i64 0, .int .i64 0, .slice none 0 0] 24)) := Gr.alloc (Gr.refl W) _
 have hA := heap_last W (.cells #[.int .i64 0, .int .i64 0, .int .i64 0, .slice none 0 0] 24)
 have C1 := Lib.hid (take_yes (tb := tb) (off := off) (cap := cap) (rb := rb) (deep := deep) hT ht q1)
 have HR := Lib.hid (h.mono hG1)
 have HA := Lib.hid hA
 have HG := Lib.hid hG1
 clear h hA hG1
 cases q2 : nmB t2
 ·rw [if_neg (by simp)]
  have C2 := Lib.hid (num_no (tb := tb) (off := off) (cap := cap) (rb := rb) (deep := deep) hT ht2 q2)
  go_enter Tryd.func23, Tryd.ntmps23
  go_wp2_with (first
   | (go_at_call 24; (with_reducible refine (C1.out _ HR.out).mono ?_); rintro e w1 ⟨rfl, hX1, hR1⟩)
   | (go_at_call 34; (with_reducible refine (C2.out _ hR1).mono ?_); rintro e w2 ⟨rfl, hX2⟩))
  exact ⟨rfl, rfl, ((GrX.ofG HG.out).trans hX1).trans hX2⟩
 ·rw [if_pos rfl]
  have hn2 := hT.next ht2 (nmB_ne q2)
  have C2 := Lib.hid (num_yes (tb := tb) (off := off) (cap := cap) (rb := rb) (deep := deep) hT ht2 q2)
  generalize (numZ (bZ t2.text) 9).1 = m at *
  go_enter Tryd.func23, Tryd.ntmps23
  go_wp2_with (first
   | (go_at_call 24; (with_reducible refine (C1.out _ HR.out).mono ?_); rintro e w1 ⟨rfl, hX1, hR1⟩)
   | (go_at_call 34; (with_reducible refine (C2.out _ hR1).mono ?_); rintro e w2 ⟨rfl, hX2, hR2⟩; have hX := ((GrX.ofG HG.out).trans hX1).trans hX2; have hA2 := hX2.heap (hX1.heap HA.out (by omega)) (by omega); have BA := Box4.of hA2; obtain ⟨⟨k0, k1, k2, k3⟩, ⟨f0, f1, f2, f3⟩, hbl⟩ := BA))
  obtain ⟨⟨c0, c1, c2, c3⟩, hXf, hRf, hkf, hsf⟩ := fin4 hX (Nat.le_refl _) (by omega) (by omega) (Box4.of hA2) hR2 (.int .i64 2) (.int .i64 m) (.int .i64 0) (.slice none 0 0)
  refine bodyPost_ret (v := .agg #[.int .i64 2, .int .i64 m, .int .i64 0, .slice none 0 0]) (by simp [results, Tryd.results23, go_sem, c0, c1, c2, c3]) rfl ?_
  exact ⟨_, n + 1 + 1, rfl, rfl, hn2, hXf, hRf, _, rfl, svAt_leaf _ _ _ _ _⟩
end
end Go.Proofs.YtfalbgflabajbaaDoor

