/- Parts of the proof of StampDueMatchesSpec, in order. -/
import Derived.Orders
import Derived.Below
import Derived.WalkKit
import Derived.Laws.StructEq
import Derived.Laws.Append
import Derived.Laws.AppendOwn
import Derived.IntWalk
import Derived.Lib.Bytealg
import Derived.Test.YtohbeolimnpehaaKStampDueMatchesSpec1
/- Operations that do not touch each other may be carried out in either order. -/
namespace Go.Proofs.Ytohbeolimnpehaa
set_option linter.unusedSectionVars false
set_option linter.unusedVariables false
set_option linter.unusedSimpArgs false
/-- What an operation changes. -/
structure Up where
 d : Option Nat
 v : AV
 bx : Option (Nat × AV)
 new : Option Pl0
 isBox : Bool
 σ : Option Heap
def filt (isBox : Bool) (d : Nat) (a : Option Pl0) : Option Pl0 := match keepTag d a with | some p => bif isBox && p.slot == d then none else some p | none => none
def Up.sl (u : Up) (l : List AV) : List AV := match u.d with
 | some d => (match u.bx with | some (b, x) => l.set b x | none => l).set d u.v
 | none => (match u.bx with | some (b, x) => l.set b x | none => l)
def Up.A (u : Up) (A : Nat → Option Pl0) (t : Nat) : Option Pl0 := match u.d with | none => A t | some d => bif t == d then u.new else filt u.isBox d (A t)
def Up.ap (u : Up) (s : AS) : AS := ⟨u.sl s.sl, u.A s.A, u.σ.getD s.σ⟩
theorem filt_false (d : Nat) (a : Option Pl0) : filt false d a = keepTag d a := by unfold filt; cases keepTag d a <;> rfl
theorem filt_cases (i : Bool) (d : Nat) (a : Option Pl0) : filt i d a = a ∨ filt i d a = none := by
 cases a with
 | none => left; rfl
 | some p =>
  unfold filt
  cases hk : keepTag d (some p) with
  | none => right; rfl
  | some q =>
   simp only
   have : q = p := by
    simp only [keepTag] at hk
    cases ht : p.tag with
    | none => rw [ht] at hk; simpa using hk.symm
    | some g =>
     obtain ⟨g, w⟩ := g
     rw [ht] at hk
     simp only at hk
     cases hg : (g == d)
     ·rw [hg] at hk; simpa using hk.symm
     ·rw [hg] at hk; cases hk
   subst this
   cases hb : (i && q.slot == d)
   ·left; rfl
   ·right; rfl
theorem filt_none (i : Bool) (d : Nat) : filt i d none = none := rfl
theorem filt_comm (i j : Bool) (d e : Nat) (a : Option Pl0) : filt i d (filt j e a) = filt j e (filt i d a) := by
 rcases filt_cases i d a with h1 | h1 <;> rcases filt_cases j e a with h2 | h2
 ·rw [h2, h1, h2]
 ·rw [h2, filt_none, h1, h2]
 ·rw [h2, h1, filt_none]
 ·rw [h2, filt_none, h1, filt_none]
structure Up.Apart (x y : Up) : Prop where
 d : ∀ d, x.d = some d → y.d ≠ some d
 bx : ∀ b v, x.bx = some (b, v) → (∀ c w, y.bx = some (c, w) → c ≠ b) ∧ y.d ≠ some b
 by' : ∀ b v, y.bx = some (b, v) → (∀ c w, x.bx = some (c, w) → c ≠ b) ∧ x.d ≠ some b
 nx : ∀ d, y.d = some d → filt y.isBox d x.new = x.new
 ny : ∀ d, x.d = some d → filt x.isBox d y.new = y.new
 σ : x.σ = none ∨ y.σ = none
theorem Up.comm {x y : Up} (h : x.Apart y) (s : AS) : x.ap (y.ap s) = y.ap (x.ap s) := by
 obtain ⟨hd, hbx, hby, hnx, hny, hσ⟩ := h
 unfold Up.ap
 congr 1
 ·show x.sl (y.sl s.sl) = y.sl (x.sl s.sl)
  generalize s.sl = l
  obtain ⟨xd, xv, xb, xn, xi, xs⟩ := x
  obtain ⟨yd, yv, yb, yn, yi, ys⟩ := y
  simp only at hd hbx hby
  cases xb with
  | none =>
   cases yb with
   | none =>
    cases xd with
    | none => cases yd <;> simp [Up.sl]
    | some dx => cases yd with
     | none => simp [Up.sl]
     | some dy => simp only [Up.sl]; rw [List.set_comm]; intro e; exact hd dx rfl (by rw [e])
   | some bv =>
    obtain ⟨b, v⟩ := bv
    obtain ⟨_, hb⟩ := hby b v rfl
    cases xd with
    | none => cases yd <;> simp [Up.sl]
    | some dx =>
     have hne : dx ≠ b := fun e => hb (by rw [e])
     cases yd with
     | none => simp only [Up.sl]; rw [List.set_comm _ _ (fun e => hne e.symm)]
     | some dy =>
      have hdd : dx ≠ dy := fun e => hd dx rfl (by rw [e])
      simp only [Up.sl]
      rw [List.set_comm _ _ (fun e => hdd e.symm), List.set_comm _ _ (fun e => hne e.symm)]
  | some bv =>
   obtain ⟨b, v⟩ := bv
   obtain ⟨hyb, hb⟩ := hbx b v rfl
   cases yb with
   | none =>
    cases yd with
    | none => cases xd <;> simp [Up.sl]
    | some dy =>
     have hne : dy ≠ b := fun e => hb (by rw [e])
     cases xd with
     | none => simp only [Up.sl]; rw [List.set_comm _ _ hne]
     | some dx =>
      have hdd : dx ≠ dy := fun e => hd dx rfl (by rw [e])
      simp only [Up.sl]
      rw [List.set_comm _ _ hne, List.set_comm _ _ (fun e => hdd e.symm)]
   | some cw =>
    obtain ⟨c, u⟩ := cw
    have hcb : c ≠ b := hyb c u rfl
    obtain ⟨_, hc⟩ := hby c u rfl
    cases xd with
    | none =>
     cases yd with
     | none => simp only [Up.sl]; rw [List.set_comm _ _ hcb]
     | some dy =>
      have hne : dy ≠ b := fun e => hb (by rw [e])
      simp only [Up.sl]
      rw [List.set_comm _ _ hne, List.set_comm _ _ hcb]
    | some dx =>
     have hnc : dx ≠ c := fun e => hc (by rw [e])
     cases yd with
     | none =>
      simp only [Up.sl]
      rw [List.set_comm _ _ hcb, List.set_comm _ _ (fun e => hnc e.symm)]
     | some dy =>
      have hne : dy ≠ b := fun e => hb (by rw [e])
      have hdd : dx ≠ dy := fun e => hd dx rfl (by rw [e])
      simp only [Up.sl]
      rw [List.set_comm _ _ hne, List.set_comm _ _ (fun e => hdd e.symm), List.set_comm _ _ hcb, List.set_comm _ _ (fun e => hnc e.symm)]
 ·funext t
  show x.A (y.A s.A) t = y.A (x.A s.A) t
  generalize s.A t = a0 
  unfold Up.A
  cases hxd : x.d with
  | none => cases y.d <;> rfl
  | some dx =>
   cases hyd : y.d with
   | none => rfl
   | some dy =>
    have hdd : dx ≠ dy := fun e => hd dx hxd (by rw [hyd, e])
    simp only
    by_cases h1 : t = dx
    ·subst h1
     have : (t == dy) = false := by simpa using hdd
     simp only [beq_self_eq_true, cond_true, this, cond_false]
     exact (hnx dy hyd).symm
    ·have h1' : (t == dx) = false := by simpa using h1
     by_cases h2 : t = dy
     ·subst h2
      simp only [beq_self_eq_true, cond_true, h1', cond_false]
      exact hny dx hxd
     ·have h2' : (t == dy) = false := by simpa using h2
      simp only [h1', h2', cond_false]
      exact filt_comm ..
 ·rcases hσ with e | e <;> simp [e]

/-- The temporaries that are addresses within a slot's own box are what the table says. -/
structure RI (X : Fx) (Rt : List (Nat × Nat)) (s : AS) : Prop where
 l : ∀ t b, Rt.lookup t = some b → X.L.contains b = true
 a : ∀ t p, s.A t = some p → Rt.lookup t = some p.slot
 v : ∀ t b, Rt.lookup t = some b → X.L.contains t = false → noAd (s.sl.getD t .undef) = true
section
variable {R : Type} {X : Fx} {Rt : List (Nat × Nat)} {s s' : AS}
theorem place_rt (h : RI X Rt s) {tag : Option (Nat × Bool)} {x : Operand} {b off : Nat} (hp : place X s tag x = some (b, off)) : rtX X Rt x = some b := by
 cases x with
 | tmp t =>
  simp only [place] at hp
  simp only [rtX]
  cases hL : X.L.contains t
  ·rw [hL] at hp
   simp only [cond_false] at hp ⊢
   split at hp
   ·rename_i p hA
    cases hc : X.L.contains p.slot
    ·rw [hc] at hp; cases hp
    ·rw [hc] at hp
     simp only [cond_true] at hp
     have ha := h.a t p hA
     split at hp
     ·simp only [Option.some.injEq, Prod.mk.injEq] at hp; rw [ha, hp.1]
     ·rename_i g hg
      cases ht : (tag == some g)
      ·rw [ht] at hp; cases hp
      ·rw [ht] at hp; simp only [cond_true, Option.some.injEq, Prod.mk.injEq] at hp; rw [ha, hp.1]
   ·cases hp
  ·rw [hL] at hp
   simp only [cond_true, Option.some.injEq, Prod.mk.injEq] at hp ⊢
   exact hp.1
 | _ => simp [place] at hp
theorem place_no (h : RI X Rt s) {tag : Option (Nat × Bool)} {x : Operand} {b : Nat} (hr : rtX X Rt x = some b) (hp : place X s tag x = none) : noAd (ev X s x) = true := by
 cases x with
 | tmp t =>
  simp only [rtX] at hr
  cases hL : X.L.contains t
  ·rw [hL] at hr
   simp only [cond_false] at hr
   simp only [ev, hL, cond_false]
   exact h.v t b hr hL
  ·simp only [place, hL, cond_true] at hp; cases hp
 | _ => simp [rtX] at hr
theorem deref_no {v : AV} {σ : Heap} (h : noAd v = true) : A.deref v σ = none := by
 unfold noAd at h; split at h <;> first | rfl | cases h
theorem storeAt_no {v : AV} {new : List AV} {σ : Heap} (h : noAd v = true) : A.storeAt v new σ = none := by
 unfold noAd at h; split at h <;> first | rfl | cases h
theorem fillA_congr {pl : Nat → Option (Nat × TypeId)} : ∀ (ps : List (Nat × Operand)) (cs : List AV), (∀ p ∈ ps, ev X s p.2 = ev X s' p.2) → fillA X s pl ps cs = fillA X s' pl ps cs
 | [], cs, _ => rfl
 | (i, x) :: ps, cs, h => by
  have hx := h (i, x) (by simp)
  simp only at hx
  simp only [fillA, hx]
  cases pl i with
  | none => rfl
  | some ot =>
   simp only
   congr 1; funext new; congr 1; funext cs'
   exact fillA_congr ps cs' (fun p hp => h p (by simp [hp]))
theorem opP_congr {o : Oper} {tag : Option (Nat × Bool)} (hev : ∀ x ∈ o.op.operands.toList, ev X s x = ev X s' x) (hpl : ∀ x, adO o = some x → place X s tag x = place X s' tag x) (hb : ∀ b, rt X Rt o = some b → s.sl.getD b .undef = s'.sl.getD b .undef)
  (hpL : ∀ x b off, adO o = some x → place X s' tag x = some (b, off) → rt X Rt o = some b) : opP X o s tag = opP X o s' tag := by
 obtain ⟨dst, op, ty, pos, af, g⟩ := o
 cases op <;> simp only [opP]
 case nilCheck x =>
  rw [hpl x rfl]
  split
  ·rename_i b off hp; rw [hb b (hpL x b off rfl hp)]
  ·rfl
 case fieldAddr t x f =>
  rw [hpl x rfl]
  split
  ·rename_i b off hp; rw [hb b (hpL x b off rfl hp)]
  ·rfl
 case indexAddr t x i =>
  rw [hpl x rfl, hev i (by simp [Op.operands])]
  split
  ·rename_i b off hp; rw [hb b (hpL x b off rfl hp)]
  ·rfl
theorem opV_congr {o : Oper} {tag : Option (Nat × Bool)} (hev : ∀ x ∈ o.op.operands.toList, ev X s x = ev X s' x) (hpl : ∀ x, adO o = some x → place X s tag x = place X s' tag x) (hb : ∀ b, rt X Rt o = some b → s.sl.getD b .undef = s'.sl.getD b .undef)
  (hpL : ∀ x b off, adO o = some x → place X s' tag x = some (b, off) → rt X Rt o = some b) (hno : ∀ x b, adO o = some x → rt X Rt o = some b → place X s' tag x = none → noAd (ev X s' x) = true) (hσ : rH' X Rt o = true → s.σ = s'.σ) : opV X o s tag = opV X o s' tag := by
 obtain ⟨dst, op, ty, pos, af, g⟩ := o
 cases op <;> simp only [opV]
 case move x => rw [hev x (by simp [Op.operands])]
 case assign x => rw [hev x (by simp [Op.operands])]
 case pick x y u => rw [hev x (by simp [Op.operands]), hev y (by simp [Op.operands]), hev u (by simp [Op.operands])]
 case box t x => rw [hev x (by simp [Op.operands])]
 case build t ps =>
  have hps : ∀ p ∈ ps.toList, ev X s p.2 = ev X s' p.2 := fun p hp => hev p.2 (by simp only [Op.operands]; simp; exact ⟨p.1, by simpa using hp⟩)
  split
  ·rw [fillA_congr ps.toList _ hps]
  ·rfl
 case buildSlice t n ps =>
  have hps : ∀ p ∈ ps.toList, ev X s p.2 = ev X s' p.2 := fun p hp => hev p.2 (by simp only [Op.operands]; simp; exact ⟨p.1, by simpa using hp⟩)
  split
  ·split
   ·rw [fillA_congr ps.toList _ hps]
   ·rfl
  ·rfl
 case load t x =>
  rw [hpl x rfl, hev x (by simp [Op.operands])]
  split
  ·rename_i b off hp; rw [hb b (hpL x b off rfl hp)]
  ·rename_i hp
   cases hr : rt X Rt ⟨dst, .load t x, ty, pos, af, g⟩ with
   | none => rw [hσ (by simp only [rH', hr, Option.isNone_none])]
   | some b => rw [deref_no (hno x b rfl hr hp), deref_no (hno x b rfl hr hp)]
 case nilCheck x => rw [hev x (by simp [Op.operands])]
 case binOp op t x y u => rw [hev x (by simp [Op.operands]), hev y (by simp [Op.operands])]
 case unOp op t x => rw [hev x (by simp [Op.operands])]
 case convert a b x => rw [hev x (by simp [Op.operands])]
 case makeFunc fn first caps =>
  have : caps.toList.map (ev X s) = caps.toList.map (ev X s') := List.map_congr_left fun x hx => hev x (by simp [Op.operands]; exact .inr (by simpa using hx))
  rw [this]
 case slice t x lo hi mx =>
  have h1 : lo.map (ev X s) = lo.map (ev X s') := by cases lo with | none => rfl | some y => simp only [Option.map_some]; rw [hev y (by simp [Op.operands])]
  have h2 : hi.map (ev X s) = hi.map (ev X s') := by cases hi with | none => rfl | some y => simp only [Option.map_some]; rw [hev y (by simp [Op.operands])]
  rw [hev x (by simp [Op.operands]), h1, h2]
 case fieldAddr t x f => rw [hev x (by simp [Op.operands])]
 case field t x f => rw [hev x (by simp [Op.operands])]
 case indexAddr t x i => rw [hev x (by simp [Op.operands]), hev i (by simp [Op.operands])]
 case index t x i => rw [hev x (by simp [Op.operands]), hev i (by simp [Op.operands])]
 case lookup t x i ok => rw [hev x (by simp [Op.operands]), hev i (by simp [Op.operands]), hσ rfl]
 case extract x i => rw [hev x (by simp [Op.operands])]
 case call c =>
  have ha : c.args.toList.map (ev X s) = c.args.toList.map (ev X s') := List.map_congr_left fun x hx => hev x (by simp [Op.operands, Call.operands]; exact .inr (by simpa using hx))
  rw [ha, hσ rfl]
  cases hc : c.callee with
  | value f =>
   have hf := hev f (by simp [Op.operands, Call.operands, hc])
   cases f <;> simp only [hf]
  | _ => rfl
/-- What an operation changes, out of what it reads. -/
structure Ag (X : Fx) (Rt : List (Nat × Nat)) (o : Oper) (ls : List Nat) (tag : Option (Nat × Bool)) (s s' : AS) : Prop where
 r1 : RI X Rt s
 r2 : RI X Rt s'
 hev : ∀ t ∈ ls, X.L.contains t = false → s.sl.getD t .undef = s'.sl.getD t .undef
 pl : ∀ t, adO o = some (.tmp t) → place X s tag (.tmp t) = place X s' tag (.tmp t)
 bx : ∀ b, rt X Rt o = some b → s.sl.getD b .undef = s'.sl.getD b .undef
 σ : rH' X Rt o = true → s.σ = s'.σ
theorem place_L' {tag : Option (Nat × Bool)} {x : Operand} {b off : Nat} (h : place X s tag x = some (b, off)) : X.L.contains b = true := by
 cases x with
 | tmp t =>
  simp only [place] at h
  cases hL : X.L.contains t
  ·rw [hL] at h
   simp only [cond_false] at h
   split at h
   ·rename_i p hA
    cases hp : X.L.contains p.slot
    ·rw [hp] at h; cases h
    ·rw [hp] at h
     simp only [cond_true] at h
     split at h
     ·simp only [Option.some.injEq, Prod.mk.injEq] at h; rw [← h.1]; exact hp
     ·rename_i g hg
      cases ht : (tag == some g)
      ·rw [ht] at h; cases h
      ·rw [ht] at h; simp only [cond_true, Option.some.injEq, Prod.mk.injEq] at h; rw [← h.1]; exact hp
   ·cases h
  ·rw [hL] at h
   simp only [cond_true, Option.some.injEq, Prod.mk.injEq] at h
   rw [← h.1]; exact hL
 | _ => simp [place] at h
theorem Ag.evs {o : Oper} {ls : List Nat} {tag : Option (Nat × Bool)} (h : Ag X Rt o ls tag s s') (hls : ∀ t, Operand.tmp t ∈ o.op.operands.toList → t ∈ ls) : ∀ x ∈ o.op.operands.toList, ev X s x = ev X s' x := by
 intro x hx
 cases x with
 | tmp t =>
  simp only [ev]
  cases hL : X.L.contains t
  ·simp only [cond_false]; exact h.hev t (hls t hx) hL
  ·rfl
 | _ => rfl
theorem Ag.pls {o : Oper} {ls : List Nat} {tag : Option (Nat × Bool)} (h : Ag X Rt o ls tag s s') : ∀ x, adO o = some x → place X s tag x = place X s' tag x := by
 intro x hx
 cases x with
 | tmp t => exact h.pl t hx
 | _ => rfl
def upV (X : Fx) (d : Option Nat) (v : AV) : Up := ⟨d, match d with | some d => bif X.L.contains d then .undef else v | none => .undef, none, none, false, none⟩
def upH (X : Fx) (d : Option Nat) (σ : Heap) (v : AV) : Up := ⟨d, match d with | some d => bif X.L.contains d then .undef else v | none => .undef, none, none, false, some σ⟩
def upS (X : Fx) (d : Option Nat) (b : Nat) (cs : List AV) : Up := ⟨d, match d with | some d => bif X.L.contains d then .undef else .tup [] | none => .undef, some (b, .lbx cs), none, false, none⟩
def upB (d : Nat) (cs : List AV) : Up := ⟨some d, .lbx cs, none, none, true, none⟩
def upA (X : Fx) (d : Option Nat) (b off : Nat) (tag : Option (Nat × Bool)) : Up :=
 ⟨d, .undef, none, match d with | some d => (bif X.L.contains d || !Nat.blt d X.n then none else match tag with | some (g, w) => (bif g == d then none else some ⟨b, off, some (g, w)⟩) | none => some ⟨b, off, none⟩) | none => none, false, none⟩
theorem put_up (d : Option Nat) (v : AV) (s : AS) : s.put X d v = (upV X d v).ap s := by
 cases d with
 | none => rfl
 | some d =>
  simp only [AS.put, Up.ap, upV, Up.sl, Option.getD_none]
  congr 1; funext t; simp only [Up.A, filt_false]
theorem heapPut_up (d : Option Nat) (v : AV) (σ : Heap) (s : AS) : (s.heap σ).put X d v = (upH X d σ v).ap s := by
 cases d with
 | none => rfl
 | some d =>
  simp only [AS.put, AS.heap, Up.ap, upH, Up.sl, Option.getD_some]
  congr 1; funext t; simp only [Up.A, filt_false]
theorem boxPut_up (d : Option Nat) (b : Nat) (cs : List AV) (s : AS) : (⟨s.sl.set b (.lbx cs), s.A, s.σ⟩ : AS).put X d (.tup []) = (upS X d b cs).ap s := by
 cases d with
 | none => rfl
 | some d =>
  simp only [AS.put, Up.ap, upS, Up.sl, Option.getD_none]
  congr 1; funext t; simp only [Up.A, filt_false]
theorem newBox_up (d : Nat) (cs : List AV) (s : AS) : s.newBox d cs = (upB d cs).ap s := by
 simp only [AS.newBox, Up.ap, upB, Up.sl, Option.getD_none]
 congr 1
theorem adr_up (d : Option Nat) (b off : Nat) (tag : Option (Nat × Bool)) (s : AS) : s.adr X d b off tag = (upA X d b off tag).ap s := by
 cases d with
 | none => rfl
 | some d =>
  simp only [AS.adr, Up.ap, upA, Up.sl, Option.getD_none]
  congr 1; funext t; simp only [Up.A, filt_false]; rfl
/-- What is known of an operation's change. -/
structure UpOk (X : Fx) (Rt : List (Nat × Nat)) (o : Oper) (ls : List Nat) (u : Up) : Prop where
 d : u.d = o.dst
 bx : ∀ b v, u.bx = some (b, v) → X.L.contains b = true ∧ wb X Rt o = some b
 new : ∀ p, u.new = some p → rL o = true ∧ (∀ g w, p.tag = some (g, w) → g ∈ ls) ∧ rt X Rt o = some p.slot ∧ ∀ d, u.d = some d → Rt.lookup d = some p.slot
 box : u.isBox = true → ∃ d, o.dst = some d ∧ X.L.contains d = true
 σ : u.σ ≠ none → wH' X Rt o = true
 v : ∀ d b, u.d = some d → Rt.lookup d = some b → X.L.contains d = false → noAd u.v = true
/-- What the table says of one operation. -/
def Rok (X : Fx) (Rt : List (Nat × Nat)) (o : Oper) : Prop := ∀ d, o.dst = some d → X.L.contains d = false → Rt.lookup d = (bif isAdr o then rt X Rt o else none)
theorem Rok.of {o : Oper} (h : Rok1 X Rt o = true) : Rok X Rt o := by
 intro d hd hL
 unfold Rok1 at h
 rw [hd] at h
 simp only [hL, Bool.false_or, beq_iff_eq] at h
 exact h
theorem upV_ok {o : Oper} {ls : List Nat} (v : AV) (hR : Rok X Rt o) (hv : isAdr o = true → ∀ b, rt X Rt o = some b → noAd v = true) : UpOk X Rt o ls (upV X o.dst v) := by
 refine ⟨rfl, (fun b v h => by cases h), (fun p h => by cases h), (fun h => by cases h), (fun h => absurd rfl h), fun d b hd hl hL => ?_⟩
 simp only [upV] at hd ⊢
 rw [hd]
 simp only [hL, cond_false]
 rw [hR d hd hL] at hl
 cases ha : isAdr o
 ·rw [ha] at hl; cases hl
 ·rw [ha] at hl; exact hv ha b hl
theorem upH_ok {o : Oper} {ls : List Nat} (σ : Heap) (v : AV) (hR : Rok X Rt o) (h : wH' X Rt o = true) (hn : isAdr o = false) : UpOk X Rt o ls (upH X o.dst σ v) := by
 refine ⟨rfl, (fun b v h => by cases h), (fun p h => by cases h), (fun h => by cases h), (fun _ => h), fun d b hd hl hL => ?_⟩
 simp only [upH] at hd
 rw [hR d hd hL, hn] at hl
 cases hl
theorem upA_ok {o : Oper} {ls : List Nat} {b off : Nat} {tag : Option (Nat × Bool)} (hR : Rok X Rt o) (ha : isAdr o = true) (hr : rt X Rt o = some b) (h : rL o = true) (ht : ∀ g w, tag = some (g, w) → g ∈ ls) : UpOk X Rt o ls (upA X o.dst b off tag) := by
 refine ⟨rfl, (fun b v h => by cases h), (fun p hp => ?_), (fun h => by cases h), (fun h => absurd rfl h), fun d b hd hl hL => rfl⟩
 have key : p.slot = b ∧ (∀ g w, p.tag = some (g, w) → g ∈ ls) ∧ ∀ d, o.dst = some d → X.L.contains d = false := by
  unfold upA at hp
  simp only at hp
  cases hd : o.dst with
  | none => rw [hd] at hp; cases hp
  | some d =>
   rw [hd] at hp
   simp only at hp
   cases hc : (X.L.contains d || !Nat.blt d X.n)
   ·rw [hc] at hp
    simp only [cond_false] at hp
    have hL : X.L.contains d = false := by simp only [Bool.or_eq_false_iff] at hc; exact hc.1
    cases tag with
    | none => simp only [Option.some.injEq] at hp; subst hp; exact ⟨rfl, (fun g w e => by cases e), fun d' e => by injection e with e; rw [← e]; exact hL⟩
    | some gw =>
     obtain ⟨g', w'⟩ := gw
     simp only at hp
     cases hg : (g' == d)
     ·rw [hg] at hp; simp only [cond_false, Option.some.injEq] at hp; subst hp
      refine ⟨rfl, fun g w e => ?_, fun d' e => by injection e with e; rw [← e]; exact hL⟩
      simp only [Option.some.injEq, Prod.mk.injEq] at e
      rw [← e.1]; exact ht g' w' rfl
     ·rw [hg] at hp; cases hp
   ·rw [hc] at hp; cases hp
 refine ⟨h, key.2.1, by rw [hr, key.1], fun d hd => ?_⟩
 have hd' : o.dst = some d := hd
 rw [hR d hd' (key.2.2 d hd'), ha, cond_true, hr, key.1]
theorem getD_set' (l : List AV) (d t : Nat) (v : AV) (h : t ≠ d) : (l.set d v).getD t .undef = l.getD t .undef := by
 have h' : ¬ d = t := fun e => h (Eq.symm e)
 simp only [List.getD, List.getElem?_set, if_neg h']
theorem up_sl {u : Up} {l : List AV} {t : Nat} (h1 : u.d ≠ some t) (h2 : ∀ b v, u.bx = some (b, v) → t ≠ b) : (u.sl l).getD t .undef = l.getD t .undef := by
 unfold Up.sl
 cases hd : u.d with
 | none =>
  cases hb : u.bx with
  | none => rfl
  | some bv => obtain ⟨b, v⟩ := bv; exact getD_set' _ _ _ _ (h2 b v hb)
 | some d =>
  have hne : t ≠ d := fun e => h1 (by rw [hd, e])
  cases hb : u.bx with
  | none => exact getD_set' _ _ _ _ hne
  | some bv => obtain ⟨b, v⟩ := bv; simp only; rw [getD_set' _ _ _ _ hne, getD_set' _ _ _ _ (h2 b v hb)]
theorem UpOk.ri {o : Oper} {ls : List Nat} {u : Up} (h : UpOk X Rt o ls u) (hs : RI X Rt s) : RI X Rt (u.ap s) := by
 refine ⟨hs.l, fun t p hp => ?_, fun t b ht hL => ?_⟩
 ·have hp' : u.A s.A t = some p := hp
  unfold Up.A at hp'
  cases hd : u.d with
  | none => rw [hd] at hp'; exact hs.a t p hp'
  | some d =>
   rw [hd] at hp'
   simp only at hp'
   cases hc : (t == d)
   ·rw [hc] at hp'
    simp only [cond_false] at hp'
    rcases filt_cases u.isBox d (s.A t) with e | e
    ·rw [e] at hp'; exact hs.a t p hp'
    ·rw [e] at hp'; cases hp'
   ·rw [hc] at hp'
    simp only [cond_true] at hp'
    have : t = d := by simpa using hc
    subst this
    exact (h.new p hp').2.2.2 t hd
 ·show noAd ((u.sl s.sl).getD t .undef) = true
  by_cases hd : u.d = some t
  ·have hv := h.v t b hd ht hL
   have : (u.sl s.sl).getD t .undef = u.v ∨ (u.sl s.sl).getD t .undef = .undef := by
    unfold Up.sl
    rw [hd]
    simp only [List.getD]
    rw [List.getElem?_set]
    simp only [if_true]
    generalize (match u.bx with | some (b, x) => s.sl.set b x | none => s.sl) = q
    by_cases hq : t < q.length
    ·left; simp [hq]
    ·right; simp [hq]
   rcases this with e | e
   ·rw [e]; exact hv
   ·rw [e]; rfl
  ·rw [up_sl hd (fun b' v hb e => by have := (h.bx b' v hb).1; rw [← e, hL] at this; cases this)]
   exact hs.v t b ht hL
theorem opP_rL {o : Oper} {tag : Option (Nat × Bool)} {p : Nat × Option Nat} (h : opP X o s tag = some p) : rL o = true := by
 obtain ⟨dst, op, ty, pos, af, g⟩ := o
 cases op <;> simp only [opP] at h <;> first | (cases h; done) | rfl
theorem opP_adr {o : Oper} {tag : Option (Nat × Bool)} {p : Nat × Option Nat} (h : opP X o s tag = some p) : isAdr o = true := by
 obtain ⟨dst, op, ty, pos, af, g⟩ := o
 cases op <;> simp only [opP] at h <;> first | (cases h; done) | rfl
theorem opP_rt (hI : RI X Rt s) {o : Oper} {tag : Option (Nat × Bool)} {b : Nat} {rr : Option Nat} (h : opP X o s tag = some (b, rr)) : rt X Rt o = some b := by
 obtain ⟨dst, op, ty, pos, af, g⟩ := o
 cases op <;> simp only [opP] at h <;> first | (cases h; done) | skip
 all_goals
  split at h
  ·rename_i b' off hp
   simp only [Option.some.injEq, Prod.mk.injEq] at h
   simp only [rt, adO]
   rw [← h.1]
   exact place_rt hI hp
  ·cases h
/-- An address operation that yields a value is none within a slot's own box. -/
theorem opV_adr (hI : RI X Rt s) {o : Oper} {tag : Option (Nat × Bool)} {v : AV} (ha : isAdr o = true) {b : Nat} (hr : rt X Rt o = some b) (hp : opP X o s tag = none) (h : opV X o s tag = some v) : False := by
 obtain ⟨dst, op, ty, pos, af, g⟩ := o
 have nf : ∀ (x : AV) (n : Nat), noAd x = true → A.faddr n x = none := fun x n h => by unfold noAd at h; split at h <;> first | rfl | cases h
 have nn : ∀ (x : AV), noAd x = true → A.nilck x = none := fun x h => by unfold noAd at h; split at h <;> first | rfl | cases h
 have ni : ∀ (x i : AV) (n : Nat), noAd x = true → A.iaddr n x i = none := fun x i n h => by unfold noAd at h; split at h <;> first | rfl | cases h
 have na : ∀ (x i : AV) (m n : Nat), noAd x = true → A.aaddr m n x i = none := fun x i m n h => by
  unfold noAd at h
  unfold A.aaddr
  split at h <;> first | (cases h; done) | skip
  all_goals cases A.idx m i <;> rfl
 cases op <;> simp only [isAdr] at ha <;> first | (cases ha; done) | skip
 case nilCheck x =>
  simp only [opP] at hp
  simp only [rt, adO] at hr
  split at hp
  ·cases hp
  ·rename_i hpl
   simp only [opV, nn _ (place_no hI hr hpl)] at h
   cases h
 case fieldAddr t x f =>
  simp only [opP] at hp
  simp only [rt, adO] at hr
  split at hp
  ·cases hp
  ·rename_i hpl
   simp only [opV] at h
   split at h
   ·split at h
    ·rename_i i _
     cases hz : (i.size == 0)
     ·rw [hz] at h; simp only [cond_false, nf _ _ (place_no hI hr hpl)] at h; cases h
     ·rw [hz] at h; cases h
    ·cases h
   ·cases h
 case indexAddr t x i =>
  simp only [opP] at hp
  simp only [rt, adO] at hr
  split at hp
  ·cases hp
  ·rename_i hpl
   simp only [opV] at h
   split at h
   ·split at h
    ·simp only [ni _ _ _ (place_no hI hr hpl)] at h; cases h
    ·cases h
   ·split at h
    ·simp only [na _ _ _ _ (place_no hI hr hpl)] at h; cases h
    ·cases h
   ·cases h
theorem bind_some' {α β : Type} {x : Option α} {f : α → Option β} {b : β} (h : x.bind f = some b) : ∃ a, x = some a ∧ f a = some b := Option.bind_eq_some_iff.1 h
/-- One operation: there is a change that it makes, and it makes it wherever it reads the same. -/
theorem opA_up {o : Oper} {ls : List Nat} (hR : Rok X Rt o) (hI : RI X Rt s) (hls : ∀ t, Operand.tmp t ∈ o.op.operands.toList → t ∈ ls) {k : AS → Option R} {r : R} (h : opA X true o s k = some r) :
  ∃ u, UpOk X Rt o ls u ∧ k (u.ap s) = some r ∧ ∀ (R' : Type) (k' : AS → Option R') (s' : AS), Ag X Rt o ls none s s' → opA X true o s' k' = k' (u.ap s') := by
 have hpLL : ∀ (s' : AS), RI X Rt s' → ∀ x b off, adO o = some x → place X s' none x = some (b, off) → rt X Rt o = some b := fun s' hi x b off hx hp => by simp only [rt, hx]; exact place_rt hi hp
 have hnoo : ∀ (s' : AS), RI X Rt s' → ∀ x b, adO o = some x → rt X Rt o = some b → place X s' none x = none → noAd (ev X s' x) = true := fun s' hi x b hx hr hp => by simp only [rt, hx] at hr; exact place_no hi hr hp
 unfold opA at h
 cases hp : opP X o s none with
 | some p =>
  obtain ⟨b, rr⟩ := p
  rw [hp] at h
  simp only at h
  obtain ⟨off, e1, e2⟩ := bind_some' h
  subst e1
  refine ⟨upA X o.dst b off none, upA_ok hR (opP_adr hp) (opP_rt hI hp) (opP_rL hp) (fun g w e => by cases e), by rw [← adr_up]; exact e2, fun R' k' s' ha => ?_⟩
  have : opP X o s' none = some (b, some off) := by rw [← hp]; exact (opP_congr (ha.evs hls) ha.pls ha.bx (hpLL s' ha.r2)).symm
  unfold opA
  rw [this]
  simp only [Option.bind_some]
  rw [adr_up]
 | none =>
  rw [hp] at h
  simp only at h
  have hP : ∀ s', Ag X Rt o ls none s s' → opP X o s' none = none := fun s' ha => by rw [← hp]; exact (opP_congr (ha.evs hls) ha.pls ha.bx (hpLL s' ha.r2)).symm
  have dflt : ((opV X o s none).bind fun v => k (s.put X o.dst v)) = some r → (∀ (R' : Type) (k' : AS → Option R') (s' : AS), Ag X Rt o ls none s s' → opA X true o s' k' = (opV X o s' none).bind fun v => k' (s'.put X o.dst v)) →
    ∃ u, UpOk X Rt o ls u ∧ k (u.ap s) = some r ∧ ∀ (R' : Type) (k' : AS → Option R') (s' : AS), Ag X Rt o ls none s s' → opA X true o s' k' = k' (u.ap s') := by
   intro hd hsame
   obtain ⟨v, e1, e2⟩ := bind_some' hd
   refine ⟨upV X o.dst v, upV_ok v hR (fun ha b hr => (opV_adr hI ha hr hp e1).elim), by rw [← put_up]; exact e2, fun R' k' s' ha => ?_⟩
   have : opV X o s' none = some v := by rw [← e1]; exact (opV_congr (ha.evs hls) ha.pls ha.bx (hpLL s' ha.r2) (hnoo s' ha.r2) ha.σ).symm
   rw [hsame R' k' s' ha, this, Option.bind_some, put_up]
  obtain ⟨dst, op, ty, pos, af, g⟩ := o
  have hevs : ∀ s', Ag X Rt ⟨dst, op, ty, pos, af, g⟩ ls none s s' → ∀ x ∈ op.operands.toList, ev X s x = ev X s' x := fun s' ha => ha.evs hls
  have unf : ∀ {R' : Type} (k' : AS → Option R') (s' : AS), Ag X Rt ⟨dst, op, ty, pos, af, g⟩ ls none s s' → opP X ⟨dst, op, ty, pos, af, g⟩ s' none = none := fun k' s' ha => hP s' ha
  cases op <;> simp only at h <;> first
   | exact dflt h (fun R' k' s' ha => by unfold opA; rw [hP s' ha])
   | skip
  case alloc t =>
   cases dst with
   | none => cases h
   | some d =>
    simp only at h
    cases hL : X.L.contains d
    ·rw [hL] at h
     simp only [cond_false] at h
     cases hO : X.O.contains d
     ·rw [hO] at h
      exact dflt h (fun R' k' s' ha => by unfold opA; rw [hP s' ha]; simp only [hL, hO, cond_false])
     ·rw [hO] at h
      simp only [cond_true] at h
      split at h
      ·rename_i cs hz
       rw [heapPut_up] at h
       refine ⟨_, upH_ok _ _ hR (by simp [wH', wH]; simpa using hO) rfl, h, fun R' k' s' ha => ?_⟩
       have hσ := ha.σ rfl
       unfold opA
       rw [hP s' ha]
       simp only [hL, hO, cond_false, cond_true, hz, hσ]
       rw [heapPut_up]
      ·cases h
    ·rw [hL] at h
     simp only [cond_true] at h
     split at h
     ·rename_i cs hz
      rw [newBox_up] at h
      refine ⟨_, ⟨rfl, (fun b v h => by cases h), (fun p h => by cases h), (fun _ => ⟨d, rfl, hL⟩), (fun h => absurd rfl h), (fun d' b e _ hL' => by simp only [upB, Option.some.injEq] at e; rw [← e, hL] at hL'; cases hL')⟩, h, fun R' k' s' ha => ?_⟩
      unfold opA
      rw [hP s' ha]
      simp only [hL, cond_true, hz]
      rw [newBox_up]
     ·cases h
  case box t x =>
   cases dst with
   | none => cases h
   | some d =>
    simp only at h
    cases hL : X.L.contains d
    ·rw [hL] at h
     simp only [cond_false] at h
     cases hO : X.O.contains d
     ·rw [hO] at h
      exact dflt h (fun R' k' s' ha => by unfold opA; rw [hP s' ha]; simp only [hL, hO, cond_false])
     ·rw [hO] at h
      simp only [cond_true] at h
      obtain ⟨cs, e1, e2⟩ := bind_some' h
      rw [heapPut_up] at e2
      refine ⟨_, upH_ok _ _ hR (by simp [wH', wH]; simpa using hO) rfl, e2, fun R' k' s' ha => ?_⟩
      have hσ := ha.σ rfl
      have hx := hevs s' ha x (by simp [Op.operands])
      unfold opA
      rw [hP s' ha]
      simp only [hL, hO, cond_false, cond_true, ← hx, e1, Option.bind_some, hσ]
      rw [heapPut_up]
    ·rw [hL] at h
     simp only [cond_true] at h
     obtain ⟨cs, e1, e2⟩ := bind_some' h
     rw [newBox_up] at e2
     refine ⟨_, ⟨rfl, (fun b v h => by cases h), (fun p h => by cases h), (fun _ => ⟨d, rfl, hL⟩), (fun h => absurd rfl h), (fun d' b e _ hL' => by simp only [upB, Option.some.injEq] at e; rw [← e, hL] at hL'; cases hL')⟩, e2, fun R' k' s' ha => ?_⟩
     have hx := hevs s' ha x (by simp [Op.operands])
     unfold opA
     rw [hP s' ha]
     simp only [hL, cond_true, ← hx, e1, Option.bind_some]
     rw [newBox_up]
  case store t x v =>
   split at h
   ·rename_i b off hpl
    obtain ⟨cs, e1, e2⟩ := bind_some' h
    obtain ⟨new, e3, e4⟩ := bind_some' e2
    obtain ⟨cs', e5, e6⟩ := bind_some' e4
    rw [boxPut_up] at e6
    have hrt : rt X Rt ⟨dst, .store t x v, ty, pos, af, g⟩ = some b := by simp only [rt, adO]; exact place_rt hI hpl
    refine ⟨_, ⟨rfl, (fun b' v' hb => by simp only [upS, Option.some.injEq, Prod.mk.injEq] at hb; rw [← hb.1]; exact ⟨place_L' hpl, hrt⟩), (fun p h => by cases h), (fun h => by cases h), (fun h => absurd rfl h), (fun d b' e hl hL => by rw [hR d e hL] at hl; cases hl)⟩, e6, fun R' k' s' ha => ?_⟩
    have hv := hevs s' ha v (by simp [Op.operands])
    have hpx : place X s' none x = some (b, off) := by rw [← hpl]; exact (ha.pls x rfl).symm
    have hbx := ha.bx b hrt
    unfold opA
    rw [hP s' ha]
    simp only [hpx, ← hbx, e1, Option.bind_some, ← hv, e3, e5]
    rw [boxPut_up]
   ·rename_i hpl
    obtain ⟨new, e3, e4⟩ := bind_some' h
    obtain ⟨σ', e5, e6⟩ := bind_some' e4
    rw [heapPut_up] at e6
    have hrt : rt X Rt ⟨dst, .store t x v, ty, pos, af, g⟩ = none := by
     cases hr : rt X Rt ⟨dst, .store t x v, ty, pos, af, g⟩ with
     | none => rfl
     | some b => rw [storeAt_no (hnoo s hI x b rfl hr hpl)] at e5; cases e5
    have hw : wH' X Rt ⟨dst, .store t x v, ty, pos, af, g⟩ = true := by simp only [wH', hrt, Option.isNone_none]
    refine ⟨_, upH_ok _ _ hR hw rfl, e6, fun R' k' s' ha => ?_⟩
    have hv := hevs s' ha v (by simp [Op.operands])
    have hx := hevs s' ha x (by simp [Op.operands])
    have hσ := ha.σ (by simp only [rH', hrt, Option.isNone_none])
    have hpx : place X s' none x = none := by rw [← hpl]; exact (ha.pls x rfl).symm
    unfold opA
    rw [hP s' ha]
    simp only [hpx, ← hv, ← hx, e3, Option.bind_some, ← hσ, e5]
    rw [heapPut_up]
  case makeMap t rr =>
   cases rr with
   | some x => cases h
   | none =>
    simp only at h
    rw [heapPut_up] at h
    refine ⟨_, upH_ok _ _ hR rfl rfl, h, fun R' k' s' ha => ?_⟩
    have hσ := ha.σ rfl
    unfold opA
    rw [hP s' ha]
    simp only [← hσ]
    rw [heapPut_up]
  case mapUpdate t m i v =>
   split at h
   ·rename_i kt et hd
    split at h
    ·rename_i ek he
     obtain ⟨σ', e1, e2⟩ := bind_some' h
     rw [heapPut_up] at e2
     refine ⟨_, upH_ok _ _ hR rfl rfl, e2, fun R' k' s' ha => ?_⟩
     have hm := hevs s' ha m (by simp [Op.operands])
     have hi := hevs s' ha i (by simp [Op.operands])
     have hv := hevs s' ha v (by simp [Op.operands])
     have hσ := ha.σ rfl
     unfold opA
     rw [hP s' ha]
     simp only [hd, he, ← hm, ← hi, ← hv, ← hσ, e1, Option.bind_some]
     rw [heapPut_up]
    ·cases h
   ·cases h
  case call c =>
   have hargs : ∀ s', Ag X Rt ⟨dst, .call c, ty, pos, af, g⟩ ls none s s' → c.args.toList.map (ev X s) = c.args.toList.map (ev X s') := fun s' ha =>
    List.map_congr_left fun x hx => hevs s' ha x (by simp [Op.operands, Call.operands]; exact .inr (by simpa using hx))
   split at h
   ·rename_i hc
    split at h
    ·rename_i t u x y h1 h2
     split at h
     ·rename_i e e' hd hu
      split at h
      ·rename_i i hi
       cases hz0 : zeroBad i
       ·rw [hz0] at h
        simp only [cond_false] at h
        obtain ⟨⟨rr, σ'⟩, e1, e2⟩ := bind_some' h
        simp only at e2
        rw [heapPut_up] at e2
        refine ⟨_, upH_ok _ _ hR (by simp [wH', wH, hc]) rfl, e2, fun R' k' s' ha => ?_⟩
        have hσ := ha.σ rfl
        unfold opA
        rw [hP s' ha]
        simp only [hc, ← hargs s' ha, h1, h2, hd, hu, hi, hz0, cond_false, ← hσ, e1, Option.bind_some]
        rw [heapPut_up]
       ·rw [hz0] at h; cases h
      ·cases h
     ·cases h
    ·cases h
   ·rename_i hc
    split at h
    ·rename_i t u m key h1 h2
     split at h
     ·rename_i kt et hd
      split at h
      ·rename_i ek he
       obtain ⟨σ', e1, e2⟩ := bind_some' h
       rw [heapPut_up] at e2
       refine ⟨_, upH_ok _ _ hR (by simp [wH', wH, hc]) rfl, e2, fun R' k' s' ha => ?_⟩
       have hσ := ha.σ rfl
       unfold opA
       rw [hP s' ha]
       simp only [hc, ← hargs s' ha, h1, h2, hd, he, ← hσ, e1, Option.bind_some]
       rw [heapPut_up]
      ·cases h
     ·cases h
    ·cases h
   ·rename_i b hn1 hn2 hc
    exact dflt h (fun R' k' s' ha => by
     unfold opA; rw [hP s' ha]; simp only [hc]
     all_goals (first | rfl | (cases b <;> first | rfl | exact absurd rfl hn1 | exact absurd rfl hn2)))
   ·rename_i f hc
    simp only [cond_true] at h
    exact dflt h (fun R' k' s' ha => by unfold opA; rw [hP s' ha]; simp only [hc, cond_true])
   ·rename_i x hnf hc
    simp only [cond_true] at h
    exact dflt h (fun R' k' s' ha => by
     unfold opA; rw [hP s' ha]; simp only [hc]
     cases x <;> first | exact absurd rfl (hnf _) | simp only [cond_true])
   ·cases h
end
end Go.Proofs.Ytohbeolimnpehaa

/- Regions whose order is drawn: every order gives what the order of the text gives. -/
namespace Go.Proofs.Ytohbeolimnpehaa
set_option linter.unusedSectionVars false
set_option linter.unusedVariables false
set_option linter.unusedSimpArgs false
section
variable {R : Type} {X : Fx} {Rt : List (Nat × Nat)} {s s' : AS} {ops : Array Oper}
theorem looks_op {o : Oper} {t : Nat} (h : Operand.tmp t ∈ o.op.operands.toList) : t ∈ o.looksAt ops := by
 unfold Oper.looksAt
 refine List.mem_append.2 (.inl (List.mem_filterMap.2 ⟨.tmp t, h, rfl⟩))
theorem looks_guard {o : Oper} {j d : Nat} {want : Bool} (hg : o.guard = some (j, want)) (hd : (ops[j]?).bind (·.dst) = some d) : d ∈ o.looksAt ops := by
 unfold Oper.looksAt
 refine List.mem_append.2 (.inr ?_)
 rw [hg]
 simp only [hd]
 simp
def AgT (X : Fx) (Rt : List (Nat × Nat)) (ops : Array Oper) (o : Oper) (s s' : AS) : Prop := ∀ tag : Option (Nat × Bool), (∀ g w, tag = some (g, w) → g ∈ o.looksAt ops) → Ag X Rt o (o.looksAt ops) tag s s'
theorem Ag.symm {o : Oper} {ls : List Nat} {tag : Option (Nat × Bool)} (h : Ag X Rt o ls tag s s') : Ag X Rt o ls tag s' s :=
 ⟨h.r2, h.r1, fun t ht hL => (h.hev t ht hL).symm, fun t ht => (h.pl t ht).symm, fun b hb => (h.bx b hb).symm, fun hr => (h.σ hr).symm⟩
theorem AgT.symm {o : Oper} (h : AgT X Rt ops o s s') : AgT X Rt ops o s' s := fun tag ht => (h tag ht).symm
theorem opG_up {o : Oper} {k : AS → Option R} {r : R} (hR : Rok X Rt o) (hI : RI X Rt s) (h : opG X true ops o s k = some r) :
  ∃ u, UpOk X Rt o (o.looksAt ops) u ∧ k (u.ap s) = some r ∧ ∀ (R' : Type) (k' : AS → Option R') (s' : AS), AgT X Rt ops o s s' → opG X true ops o s' k' = k' (u.ap s') := by
 unfold opG at h
 cases hg : o.guard with
 | none =>
  rw [hg] at h
  obtain ⟨u, h1, h2, h3⟩ := opA_up (ls := o.looksAt ops) hR hI (fun t ht => looks_op ht) h
  refine ⟨u, h1, h2, fun R' k' s' ha => ?_⟩
  unfold opG; rw [hg]
  exact h3 R' k' s' (ha none (fun g w e => by cases e))
 | some jw =>
  obtain ⟨j, want⟩ := jw
  rw [hg] at h
  simp only at h
  cases hd : (ops[j]?).bind (·.dst) with
  | none => rw [hd] at h; cases h
  | some d =>
   rw [hd] at h
   simp only at h
   cases hb : guardBad X o d
   ·rw [hb] at h
    simp only [cond_false] at h
    have hdl := looks_guard (ops := ops) hg hd
    have htag : ∀ g w, (some (d, want) : Option (Nat × Bool)) = some (g, w) → g ∈ o.looksAt ops := fun g w e => by injection e with e; injection e with e _; rw [← e]; exact hdl
    have hdL : X.L.contains d = false := by simp only [guardBad, Bool.or_eq_false_iff] at hb; exact hb.1
    have hpLL : ∀ (s' : AS), RI X Rt s' → ∀ x b off, adO o = some x → place X s' (some (d, want)) x = some (b, off) → rt X Rt o = some b := fun s' hi x b off hx hp => by simp only [rt, hx]; exact place_rt hi hp
    have hnoo : ∀ (s' : AS), RI X Rt s' → ∀ x b, adO o = some x → rt X Rt o = some b → place X s' (some (d, want)) x = none → noAd (ev X s' x) = true := fun s' hi x b hx hr hp => by simp only [rt, hx] at hr; exact place_no hi hr hp
    have hP : ∀ s', AgT X Rt ops o s s' → opP X o s' (some (d, want)) = opP X o s (some (d, want)) := fun s' ha => by
     have a := ha _ htag
     exact (opP_congr (a.evs fun t ht => looks_op ht) a.pls a.bx (hpLL s' a.r2)).symm
    cases hp : opP X o s (some (d, want)) with
    | some p =>
     obtain ⟨b, rr⟩ := p
     rw [hp] at h
     simp only at h
     obtain ⟨off, e1, e2⟩ := bind_some' h
     subst e1
     refine ⟨upA X o.dst b off (some (d, want)), upA_ok hR (opP_adr hp) (opP_rt hI hp) (opP_rL hp) htag, by rw [← adr_up]; exact e2, fun R' k' s' ha => ?_⟩
     unfold opG
     rw [hg]
     simp only [hd, hb, cond_false, hP s' ha, hp, Option.bind_some]
     rw [adr_up]
    | none =>
     rw [hp] at h
     simp only at h
     obtain ⟨v, e1, e2⟩ := bind_some' h
     have hv : isAdr o = true → ∀ b, rt X Rt o = some b → noAd v = true := by
      intro ha b hr
      unfold A.guard at e1
      split at e1
      ·rename_i c _
       cases hc : (c == want)
       ·rw [hc] at e1; simp only [cond_false, Option.some.injEq] at e1; subst e1; rfl
       ·rw [hc] at e1; exact (opV_adr hI ha hr hp e1).elim
      ·simp only [Option.some.injEq] at e1; subst e1; rfl
      ·cases e1
     refine ⟨upV X o.dst v, upV_ok v hR hv, by rw [← put_up]; exact e2, fun R' k' s' ha => ?_⟩
     have a := ha _ htag
     have hV : opV X o s' (some (d, want)) = opV X o s (some (d, want)) := (opV_congr (a.evs fun t ht => looks_op ht) a.pls a.bx (hpLL s' a.r2) (hnoo s' a.r2) a.σ).symm
     have hsl := a.hev d hdl hdL
     unfold opG
     rw [hg]
     simp only [hd, hb, cond_false, hP s' ha, hp, hV, ← hsl, e1, Option.bind_some]
     rw [put_up]
   ·rw [hb] at h; cases h
structure Ind (X : Fx) (Rt : List (Nat × Nat)) (ops : Array Oper) (x y : Oper) : Prop where
 dx : ∀ d, x.dst = some d → d ∉ y.looksAt ops
 dd : ∀ d, x.dst = some d → y.dst ≠ some d
 dy : ∀ d, y.dst = some d → d ∉ x.looksAt ops
 c1 : confl X Rt x y = false
 c2 : confl X Rt y x = false
theorem Ind.symm {x y : Oper} (h : Ind X Rt ops x y) : Ind X Rt ops y x := ⟨h.dy, fun d hd e => h.dd d e hd, h.dx, h.c2, h.c1⟩
theorem indep_ind {x y : Oper} (h : indep X Rt ops x y = true) : Ind X Rt ops x y := by
 simp only [indep, Bool.and_eq_true, Bool.not_eq_true'] at h
 obtain ⟨⟨h1, h2⟩, h3⟩ := h
 obtain ⟨a1, a2, a3⟩ := Oper.apart_spec h1
 exact ⟨a1, a2, a3, h2, h3⟩
theorem confl_b {x y : Oper} (h : confl X Rt x y = false) {b : Nat} (hb : wb X Rt x = some b) : rt X Rt y ≠ some b := by
 unfold confl at h
 simp only [Bool.or_eq_false_iff] at h
 have := h.1.1
 rw [hb] at this
 simpa using this
theorem confl_d {x y : Oper} (h : confl X Rt x y = false) {d : Nat} (hd : x.dst = some d) (hL : X.L.contains d = true) : rt X Rt y ≠ some d := by
 unfold confl at h
 simp only [Bool.or_eq_false_iff] at h
 have := h.1.2
 rw [hd] at this
 simp only [hL, Bool.true_and] at this
 simpa using this
theorem confl_h {x y : Oper} (h : confl X Rt x y = false) (hw : wH' X Rt x = true) : rH' X Rt y = false ∧ wH' X Rt y = false := by
 unfold confl at h
 simp only [Bool.or_eq_false_iff] at h
 have := h.2
 rw [hw] at this
 simpa using this
theorem adO_op {x : Oper} {a : Operand} (h : adO x = some a) : a ∈ x.op.operands.toList := by
 obtain ⟨dst, op, ty, pos, af, g⟩ := x
 cases op <;> simp only [adO] at h <;> first | (cases h; done) | (injection h with h; subst h; simp [Op.operands])
theorem rt_L (h : RI X Rt s) {x : Oper} {b : Nat} (hr : rt X Rt x = some b) (hL : X.L.contains b = false) : False := by
 unfold rt at hr
 split at hr
 ·rename_i a _
  cases a with
  | tmp t =>
   simp only [rtX] at hr
   cases hc : X.L.contains t
   ·rw [hc] at hr; have := h.l t b hr; rw [hL] at this; cases this
   ·rw [hc] at hr; simp only [cond_true, Option.some.injEq] at hr; subst hr; rw [hL] at hc; cases hc
  | _ => simp [rtX] at hr
 ·cases hr
theorem wb_rt {x : Oper} {b : Nat} (h : wb X Rt x = some b) : rt X Rt x = some b := by
 unfold wb at h; split at h
 ·exact h
 ·cases h
/-- An operation that is apart from another reads the same behind it. -/
theorem ag_ap {x y : Oper} (h : Ind X Rt ops x y) {u : Up} (hu : UpOk X Rt y (y.looksAt ops) u) (s : AS) (hs : RI X Rt s) : AgT X Rt ops x s (u.ap s) := by
 intro tag ht
 have hnd : ∀ t, t ∈ x.looksAt ops → u.d ≠ some t := fun t ht e => by rw [hu.d] at e; exact h.dy t e ht
 refine ⟨hs, hu.ri hs, fun t htl hL => ?_, fun t hax => ?_, fun b hb => ?_, fun hr => ?_⟩
 ·exact (up_sl (hnd t htl) (fun b v hb e => by have := (hu.bx b v hb).1; rw [← e, hL] at this; cases this)).symm
 ·have htl : t ∈ x.looksAt ops := looks_op (adO_op hax)
  simp only [place]
  cases hL : X.L.contains t
  ·simp only [cond_false]
   show _ = match u.A s.A t with | some p => _ | none => none
   unfold Up.A
   cases hd : u.d with
   | none => rfl
   | some d =>
    have htd : (t == d) = false := by simp only [beq_eq_false_iff_ne]; intro e; exact hnd t htl (by rw [hd, e])
    simp only [htd, cond_false]
    cases hA : s.A t with
    | none => rfl
    | some p =>
     have hrt : rtX X Rt (.tmp t) = some p.slot := by simp only [rtX, hL, cond_false]; exact hs.a t p hA
     have hf : filt u.isBox d (some p) = keepTag d (some p) := by
      cases hi : u.isBox with
      | false => exact filt_false d _
      | true =>
       obtain ⟨d', hd', hL'⟩ := hu.box hi
       have hdd : d' = d := by rw [hu.d] at hd; rw [hd] at hd'; injection hd' with e; exact e.symm
       subst hdd
       unfold filt
       cases hk : keepTag d' (some p) with
       | none => rfl
       | some q =>
        have hqs : q = p := by
         simp only [keepTag] at hk
         cases htg : p.tag with
         | none => rw [htg] at hk; simpa using hk.symm
         | some g =>
          obtain ⟨g, w⟩ := g
          rw [htg] at hk
          simp only at hk
          cases hg : (g == d')
          ·rw [hg] at hk; simpa using hk.symm
          ·rw [hg] at hk; cases hk
        subst hqs
        have hne : (q.slot == d') = false := by
         rw [beq_eq_false_iff_ne]
         intro e
         have : rt X Rt x = some q.slot := by simp only [rt, hax]; exact hrt
         exact confl_d h.c2 hd' hL' (by rw [this, e])
        simp only [hne, Bool.and_false, cond_false]
     rw [hf]
     simp only [keepTag]
     cases htg : p.tag with
     | none => simp only [htg]
     | some gw =>
      obtain ⟨g, w⟩ := gw
      simp only
      cases hgd : (g == d)
      ·simp only [cond_false, htg]
      ·simp only [cond_true]
       have hgd' : g = d := by simpa using hgd
       have : (tag == some (g, w)) = false := by
        rw [beq_eq_false_iff_ne]
        intro e
        exact hnd g (ht g w e) (by rw [hd, hgd'])
       rw [this]
       cases X.L.contains p.slot <;> rfl
  ·rfl
 ·refine (up_sl (fun e => ?_) (fun b' v hb' e => ?_)).symm
  ·rw [hu.d] at e
   have hLb : X.L.contains b = true := by
    cases hc : X.L.contains b with
    | true => rfl
    | false =>
     exfalso
     exact rt_L hs hb hc
   exact confl_d h.c2 e hLb hb
  ·exact confl_b h.c2 (hu.bx b' v hb').2 (by rw [← e]; exact hb)
 ·show s.σ = u.σ.getD s.σ
  cases hs' : u.σ with
  | none => rfl
  | some σ => have := (confl_h h.c2 (hu.σ (by rw [hs']; intro e; cases e))).1; rw [hr] at this; cases this
theorem up_apart {x y : Oper} (h : Ind X Rt ops x y) {u v : Up} (hu : UpOk X Rt x (x.looksAt ops) u) (hv : UpOk X Rt y (y.looksAt ops) v) : u.Apart v := by
 have half : ∀ {x y : Oper} {u v : Up}, Ind X Rt ops x y → UpOk X Rt x (x.looksAt ops) u → UpOk X Rt y (y.looksAt ops) v → (∀ b a, u.bx = some (b, a) → (∀ c a', v.bx = some (c, a') → c ≠ b) ∧ v.d ≠ some b) ∧ (∀ d, v.d = some d → filt v.isBox d u.new = u.new) := by
  intro x y u v h hu hv
  refine ⟨fun b a hb => ?_, fun d hd => ?_⟩
  ·obtain ⟨k1, k2⟩ := hu.bx b a hb
   refine ⟨fun c a' hc e => ?_, fun e => ?_⟩
   ·have := (hv.bx c a' hc).2
    subst e
    exact confl_b h.c1 k2 (wb_rt this)
   ·rw [hv.d] at e
    exact confl_d h.c2 e k1 (wb_rt k2)
  ·cases hn : u.new with
   | none => rfl
   | some p =>
    obtain ⟨k1, k2, k3, k4⟩ := hu.new p hn
    have hkt : keepTag d (some p) = some p := by
     simp only [keepTag]
     cases htg : p.tag with
     | none => rfl
     | some gw =>
      obtain ⟨g, w⟩ := gw
      simp only
      have : (g == d) = false := by
       rw [beq_eq_false_iff_ne]; intro e
       rw [hv.d] at hd
       exact h.dy d hd (e ▸ k2 g w htg)
      rw [this]; rfl
    unfold filt
    rw [hkt]
    simp only
    cases hi : v.isBox with
    | false => rfl
    | true =>
     obtain ⟨d', hd', hL'⟩ := hv.box hi
     have hdd : d' = d := by rw [hv.d] at hd; rw [hd] at hd'; injection hd' with e; exact e.symm
     subst hdd
     have : (p.slot == d') = false := by
      rw [beq_eq_false_iff_ne]; intro e
      exact confl_d h.c2 hd' hL' (by rw [k3, e])
     simp only [this, Bool.and_false, cond_false]
 obtain ⟨a1, a2⟩ := half h hu hv
 obtain ⟨b1, b2⟩ := half h.symm hv hu
 refine ⟨fun d hd e => ?_, a1, b1, a2, b2, ?_⟩
 ·rw [hu.d] at hd; rw [hv.d] at e; exact h.dd d hd e
 ·cases hs : u.σ with
  | none => exact .inl rfl
  | some σ =>
   right
   have hw := hu.σ (by rw [hs]; intro e; cases e)
   have hnw := (confl_h h.c1 hw).2
   cases hs2 : v.σ with
   | none => rfl
   | some σ2 => rw [hv.σ (by rw [hs2]; intro e; cases e)] at hnw; cases hnw
/-- An operation may be taken first. -/
theorem ops_first {o : Oper} {k : AS → Option R} {r : R} (ho : Rok X Rt o) : ∀ (l1 l2 : List Oper) (s : AS), RI X Rt s → (∀ y ∈ l1, Rok X Rt y) → (∀ y ∈ l1, Ind X Rt ops y o) → opsA X true ops (l1 ++ o :: l2) s k = some r → opG X true ops o s (fun s1 => opsA X true ops (l1 ++ l2) s1 k) = some r
 | [], l2, s, _, _, _, h => h
 | y :: l1, l2, s, hs, hr, hi, h => by
  simp only [List.cons_append, opsA] at h
  obtain ⟨u, u1, u2, u3⟩ := opG_up (hr y (by simp)) hs h
  have ih := ops_first ho l1 l2 (u.ap s) (u1.ri hs) (fun z hz => hr z (by simp [hz])) (fun z hz => hi z (by simp [hz])) u2
  obtain ⟨v, v1, v2, v3⟩ := opG_up ho (u1.ri hs) ih
  have hy := hi y (by simp)
  rw [v3 R _ s (ag_ap hy.symm u1 s hs).symm]
  simp only [List.cons_append, opsA]
  rw [u3 R _ (v.ap s) (ag_ap hy v1 s hs), Up.comm (up_apart hy u1 v1)]
  exact v2
/-- A set of operations with all that come ahead of them. -/
def Down (ops : Array Oper) (S : Nat → Prop) : Prop := ∀ i o e, S i → ops[i]? = some o → e ∈ o.after → Region.binds .any e = true → S e.on
def Deps (ops : Array Oper) (i : Nat) (S : Nat → Prop) : Prop := ∀ o e, ops[i]? = some o → e ∈ o.after → Region.binds .any e = true → S e.on
theorem fold_bit (acc : List Nat) : ∀ (es : List Edge) (m j : Nat), (es.foldl (fun s e => bif Region.binds .any e then s ||| 2 ^ e.on ||| acc.getD e.on 0 else s) m).testBit j = true →
  m.testBit j = true ∨ ∃ e ∈ es, Region.binds .any e = true ∧ (e.on = j ∨ (acc.getD e.on 0).testBit j = true)
 | [], m, j, h => .inl h
 | e :: es, m, j, h => by
  simp only [List.foldl_cons] at h
  rcases fold_bit acc es _ j h with h | ⟨e', he', hb, hx⟩
  ·cases hb : Region.binds .any e
   ·rw [hb] at h; exact .inl h
   ·rw [hb] at h
    simp only [cond_true, Nat.testBit_or, Bool.or_eq_true] at h
    rcases h with (h | h) | h
    ·exact .inl h
    ·refine .inr ⟨e, by simp, hb, .inl ?_⟩
     rw [Nat.testBit_two_pow] at h
     simpa using h
    ·exact .inr ⟨e, by simp, hb, .inr h⟩
  ·exact .inr ⟨e', by simp [he'], hb, hx⟩
theorem anc_spec : ∀ (l : List Oper) (acc : List Nat), (∀ i, l[i]? = ops[acc.length + i]?) →
  (∀ (m j : Nat), (acc.getD m 0).testBit j = true → ∀ S, Down ops S → Deps ops m S → S j) →
  ∀ (m j : Nat), ((ancGo l acc).getD m 0).testBit j = true → ∀ S, Down ops S → Deps ops m S → S j
 | [], acc, hl, hacc => hacc
 | o :: l, acc, hl, hacc => by
  simp only [ancGo]
  refine anc_spec l _ (fun i => by have := hl (i + 1); simp at this; rw [this]; simp; congr 1; omega) ?_
  intro m j h S hS hD
  have h0 := hl 0
  simp at h0
  by_cases hm : m < acc.length
  ·rw [List.getD, List.getElem?_append_left hm] at h
   exact hacc m j h S hS hD
  ·by_cases hm2 : m = acc.length
   ·subst hm2
    rw [List.getD, List.getElem?_append_right (Nat.le_refl _)] at h
    simp only [Nat.sub_self, List.getElem?_cons_zero, Option.getD_some] at h
    rcases fold_bit acc _ _ j h with h | ⟨e, he, hb, hx⟩
    ·simp at h
    ·have hon : S e.on := hD o e h0.symm (by simpa using he) hb
     rcases hx with hx | hx
     ·exact hx ▸ hon
     ·exact hacc e.on j hx S hS (fun o' e' ho' he' hb' => hS e.on o' e' hon ho' he' hb')
   ·rw [List.getD, List.getElem?_append_right (by omega), List.getElem?_eq_none (by simp; omega)] at h
    simp at h
theorem pairs_spec {anc : List Nat} : ∀ (l : List Oper) (i : Nat), (∀ j, l[j]? = ops[i + j]?) → pairsOk X Rt ops anc l i = true → ∀ n o, i ≤ n → ops[n]? = some o → ∀ m y, m < n → ops[m]? = some y → (anc.getD n 0).testBit m = true ∨ indep X Rt ops y o = true
 | [], i, hl, _, n, o, hn, ho, m, y, hm, hy => by
  have := hl (n - i)
  rw [show i + (n - i) = n by omega, ho] at this
  simp at this
 | x :: l, i, hl, h, n, o, hn, ho, m, y, hm, hy => by
  simp only [pairsOk, Bool.and_eq_true] at h
  by_cases hni : n = i
  ·subst hni
   have h0 := hl 0
   simp at h0
   rw [ho] at h0; injection h0 with h0; subst h0
   have := List.all_eq_true.1 h.1 (y, m) (by
    rw [List.mem_zipIdx_iff_getElem?]
    simp only
    rw [List.getElem?_take_of_lt hm, Array.getElem?_toList]
    exact hy)
   simpa using this
  ·exact pairs_spec l (i + 1) (fun j => by have := hl (j + 1); simp at this; rw [this]; congr 1; omega) h.2 n o (by omega) ho m y hm hy
theorem back_spec : ∀ (l : List Oper) (i : Nat), (∀ j, l[j]? = ops[i + j]?) → backOk l i = true → ∀ n o e, i ≤ n → ops[n]? = some o → e ∈ o.after → Region.binds .any e = true → e.on < n
 | [], i, hl, _, n, o, e, hn, ho, he, hb => by
  have := hl (n - i)
  rw [show i + (n - i) = n by omega, ho] at this
  simp at this
 | x :: l, i, hl, h, n, o, e, hn, ho, he, hb => by
  simp only [backOk, Bool.and_eq_true] at h
  by_cases hni : n = i
  ·subst hni
   have h0 := hl 0
   simp at h0
   rw [ho] at h0; injection h0 with h0; subst h0
   have := List.all_eq_true.1 h.1 e (by simpa using he)
   rw [hb] at this
   simpa [Nat.blt_eq] using this
  ·exact back_spec l (i + 1) (fun j => by have := hl (j + 1); simp at this; rw [this]; congr 1; omega) h.2 n o e (by omega) ho he hb
/-- The operations that have not come up yet. -/
def remI (listed : Array Bool) (n : Nat) : List Nat := (List.range n).filter fun i => !listed.getD i true
def remO (ops : Array Oper) (listed : Array Bool) : List Oper := (remI listed ops.size).filterMap (ops[·]?)
theorem remI_split {listed : Array Bool} {n i : Nat} (hi : i < n) (hl : listed.getD i true = false) (hs : listed.size = n) :
  ∃ l1 l2, remI listed n = l1 ++ i :: l2 ∧ remI (listed.setIfInBounds i true) n = l1 ++ l2 ∧ ∀ j ∈ l1, j < i ∧ listed.getD j true = false := by
 refine ⟨(List.range i).filter fun j => !listed.getD j true, ((List.range' (i + 1) (n - i - 1))).filter fun j => !listed.getD j true, ?_, ?_, fun j hj => ?_⟩
 ·unfold remI
  rw [show List.range n = List.range i ++ i :: List.range' (i + 1) (n - i - 1) by
   rw [List.range_eq_range', List.range_eq_range', ← List.range'_succ, show n - i - 1 + 1 = n - i by omega]
   have := List.range'_append_1 (s := 0) (m := i) (n := n - i)
   rw [show 0 + i = i by omega, show i + (n - i) = n by omega] at this
   exact this.symm]
  rw [List.filter_append, List.filter_cons, hl]
  simp
 ·unfold remI
  rw [show List.range n = List.range i ++ i :: List.range' (i + 1) (n - i - 1) by
   rw [List.range_eq_range', List.range_eq_range', ← List.range'_succ, show n - i - 1 + 1 = n - i by omega]
   have := List.range'_append_1 (s := 0) (m := i) (n := n - i)
   rw [show 0 + i = i by omega, show i + (n - i) = n by omega] at this
   exact this.symm]
  rw [List.filter_append, List.filter_cons]
  have hset : (listed.setIfInBounds i true).getD i true = true := by simp [Array.getD, hs, hi]
  rw [hset]
  simp only [Bool.not_true, Bool.false_eq_true, if_false]
  congr 1
  ·apply List.filter_congr
   intro j hj
   have : j < i := by simpa using hj
   rw [Array.getD_eq_getD_getElem?, Array.getD_eq_getD_getElem?, Array.getElem?_setIfInBounds_ne (by omega)]
  ·apply List.filter_congr
   intro j hj
   have : i < j := by simp at hj; omega
   rw [Array.getD_eq_getD_getElem?, Array.getD_eq_getD_getElem?, Array.getElem?_setIfInBounds_ne (by omega)]
 ·rw [List.mem_filter] at hj
  exact ⟨by simpa using hj.1, by simpa using hj.2⟩
end
end Go.Proofs.Ytohbeolimnpehaa

/- Regions, branches, loops, functions. -/
namespace Go.Proofs.Ytohbeolimnpehaa
set_option linter.unusedSectionVars false
open Go.RowKit
set_option linter.unusedVariables false
set_option linter.unusedSimpArgs false
section
variable {X : Fx} {z : Z} {s : AS} {a : Act} {w w' : World} {E : List Pl} {pb : Nat → Option Nat} {R : Type}
theorem slot_tmp (h : St X z s a w E pb) {d : Nat} {av : AV} (hav : s.sl.getD d .undef = av) (h1 : av ≠ .undef) (h2 : ∀ cs, av ≠ .lbx cs) : ∃ v, a.tmps[d]? = some v ∧ a.tmps.getD d undef = v ∧ Rep (ctx z w E pb) av v := by
 by_cases hd : d < s.sl.length
 ·have e : s.sl[d]? = some av := by rw [List.getElem?_eq_getElem hd]; rw [← hav]; simp [List.getD, hd]
  have r := (h.slot d av e).rep h2
  have hd' : d < a.tmps.size := by rw [h.len]; exact hd
  exact ⟨a.tmps.getD d undef, by simp [Array.getD, hd'], rfl, r⟩
 ·exact absurd (by rw [← hav]; simp [List.getD, Nat.le_of_not_lt hd]) h1
theorem opG_wp (hs : Snd X) (h : St X z s a w E pb) {q : Bool} {ops : Array Oper} {i : Nat} {o : Oper} (hi : ops[i]? = some o) {k : AS → Option R} {r : R} (hk : opG X q ops o s k = some r) {K : Act → World → Prop} {Q : Exit → Act → World → Prop}
  (hK : ∀ s' a' w' E' pb', St X z s' a' w' E' pb' → k s' = some r → K a' w') : wpOp X.P ops Q i K a w := by
 unfold wpOp
 rw [hi]
 simp only
 unfold opG at hk
 cases hg : o.guard with
 | none =>
  rw [hg] at hk
  rw [if_pos (by simp [Region.wanted, hg])]
  exact .inl (opA_wp hs h hk hK)
 | some jw =>
  obtain ⟨j, want⟩ := jw
  rw [hg] at hk
  simp only at hk
  cases hd : (ops[j]?).bind (·.dst) with
  | none => rw [hd] at hk; cases hk
  | some d =>
   rw [hd] at hk
   simp only at hk
   cases hL : guardBad X o d
   ·rw [hL] at hk
    simp only [cond_false] at hk
    have hwant : Region.wanted o (yielded ops a.tmps) = (yielded ops a.tmps j == some want) := by simp [Region.wanted, hg]
    have hy : yielded ops a.tmps j = match a.tmps[d]? with | some (.bool b) => some b | _ => none := by
     simp only [yielded, hd, Option.bind_some]
     rfl
    cases hp : opP X o s (some (d, want)) with
    | some p =>
     obtain ⟨b, rr⟩ := p
     rw [hp] at hk
     simp only at hk
     obtain ⟨off, e1, e2⟩ := Option.bind_eq_some_iff.1 hk
     subst e1
     by_cases hw : Region.wanted o (yielded ops a.tmps) = true
     ·rw [if_pos hw]
      have ht : tagOk a (some (d, want)) := by
       rw [hwant, hy] at hw
       simp only [tagOk]
       split at hw
       ·rename_i b' hb'
        simp at hw; subst hw
        rw [Array.getD_eq_getD_getElem?, hb']; rfl
       ·simp at hw
      obtain ⟨n, k1, k2⟩ := opP_wp h ht hp
      exact .inl (wp_value k2 (hK _ _ _ _ _ (h.adr' o.dst (fun _ => ⟨n, k1, rfl⟩)) e2))
     ·rw [if_neg hw]
      refine hK _ _ _ _ _ (h.adr' o.dst (fun ht => absurd ?_ hw)) e2
      rw [hwant, hy]
      simp only [tagOk] at ht
      rw [Array.getD_eq_getD_getElem?] at ht
      cases hc : a.tmps[d]? with
      | none => rw [hc] at ht; simp [undef] at ht
      | some v => rw [hc] at ht; simp at ht; subst ht; simp
    | none =>
     rw [hp] at hk
     simp only at hk
     obtain ⟨av, e1, e2⟩ := Option.bind_eq_some_iff.1 hk
     generalize hsl : s.sl.getD d .undef = gv at e1
     cases gv <;> simp only [A.guard] at e1 <;> first | (cases e1; done) | skip
     case bool b =>
      obtain ⟨v, v1, v2, v3⟩ := slot_tmp h hsl (by intro e; cases e) (by intro cs e; cases e)
      simp only [Rep] at v3
      subst v3
      cases hbw : (b == want)
      ·rw [hbw] at e1
       simp only [cond_false] at e1
       injection e1 with e1; subst e1
       have hw : ¬ Region.wanted o (yielded ops a.tmps) = true := by
        rw [hwant, hy, v1]
        simp at hbw ⊢
        exact hbw
       rw [if_neg hw]
       exact hK _ _ _ _ _ (h.undef o.dst) e2
      ·rw [hbw] at e1
       simp only [cond_true] at e1
       have hbw' : b = want := by simpa using hbw
       have hw : Region.wanted o (yielded ops a.tmps) = true := by rw [hwant, hy, v1]; simp [hbw']
       rw [if_pos hw]
       have ht : tagOk a (some (d, want)) := by simp only [tagOk]; rw [v2, hbw']
       exact .inl (opV_wp hs h ht e1 fun v w' E' h3 h4 => hK _ _ _ _ _ (h3.put o.dst h4) e2)
     case tup vs =>
      cases vs with
      | cons x xs => cases e1
      | nil =>
       injection e1 with e1; subst e1
       obtain ⟨v, v1, v2, v3⟩ := slot_tmp h hsl (by intro e; cases e) (by intro cs e; cases e)
       simp only [Rep] at v3
       obtain ⟨us, rfl, _⟩ := v3
       have hw : ¬ Region.wanted o (yielded ops a.tmps) = true := by rw [hwant, hy, v1]; simp
       rw [if_neg hw]
       exact hK _ _ _ _ _ (h.undef o.dst) e2
   ·rw [hL] at hk; cases hk
/-- Slots that an operation leaves. -/
def Fr (X : Fx) (ds : List Nat) (s s' : AS) : Prop := ∀ i, i ∉ ds → X.L.contains i = false → s'.sl[i]? = s.sl[i]?
theorem Fr.refl (ds : List Nat) (s : AS) : Fr X ds s s := fun _ _ _ => rfl
theorem Fr.trans {d1 d2 : List Nat} {s s' s'' : AS} (h : Fr X d1 s s') (k : Fr X d2 s' s'') : Fr X (d1 ++ d2) s s'' := fun i hi hL => by
 rw [List.mem_append] at hi
 exact (k i (fun e => hi (.inr e)) hL).trans (h i (fun e => hi (.inl e)) hL)
theorem Fr.mono {d1 d2 : List Nat} {s s' : AS} (h : Fr X d1 s s') (k : ∀ i ∈ d1, i ∈ d2) : Fr X d2 s s' := fun i hi hL => h i (fun e => hi (k i e)) hL
theorem Fr.put (d : Option Nat) (v : AV) (s : AS) : Fr X d.toList s (s.put X d v) := fun i hi hL => by
 cases d with
 | none => rfl
 | some d => simp only [AS.put]; rw [List.getElem?_set, if_neg]; intro e; subst e; simp at hi
theorem Fr.adr (d : Option Nat) (b off : Nat) (tag : Option (Nat × Bool)) (s : AS) : Fr X d.toList s (s.adr X d b off tag) := fun i hi hL => by
 cases d with
 | none => rfl
 | some d => simp only [AS.adr]; rw [List.getElem?_set, if_neg]; intro e; subst e; simp at hi
theorem Fr.newBox (d : Nat) (cs : List AV) (s : AS) : Fr X [d] s (s.newBox d cs) := fun i hi hL => by
 simp only [AS.newBox]; rw [List.getElem?_set, if_neg]; intro e; subst e; simp at hi
theorem Fr.heapPut (d : Option Nat) (v : AV) (σ : Heap) (s : AS) : Fr X d.toList s ((s.heap σ).put X d v) := fun i hi hL => by
 cases d with
 | none => rfl
 | some d => simp only [AS.put, AS.heap]; rw [List.getElem?_set, if_neg]; intro e; subst e; simp at hi
theorem Fr.boxPut (d : Option Nat) (v : AV) (b : Nat) (cs : List AV) (hb : X.L.contains b = true) (s : AS) : Fr X d.toList s ((⟨s.sl.set b (.lbx cs), s.A, s.σ⟩ : AS).put X d v) := fun i hi hL => by
 have hbi : b ≠ i := fun e => by rw [e, hL] at hb; cases hb
 cases d with
 | none => simp only [AS.put]; rw [List.getElem?_set, if_neg hbi]
 | some d => simp only [AS.put]; rw [List.getElem?_set, if_neg, List.getElem?_set, if_neg hbi]; intro e; subst e; simp at hi
theorem place_L {tag : Option (Nat × Bool)} {x : Operand} {b off : Nat} (h : place X s tag x = some (b, off)) : X.L.contains b = true := by
 cases x with
 | tmp t =>
  simp only [place] at h
  cases hL : X.L.contains t
  ·rw [hL] at h
   simp only [cond_false] at h
   split at h
   ·rename_i p hA
    cases hp : X.L.contains p.slot
    ·rw [hp] at h; cases h
    ·rw [hp] at h
     simp only [cond_true] at h
     split at h
     ·simp only [Option.some.injEq, Prod.mk.injEq] at h; rw [← h.1]; exact hp
     ·rename_i g hg
      cases ht : (tag == some g)
      ·rw [ht] at h; cases h
      ·rw [ht] at h; simp only [cond_true, Option.some.injEq, Prod.mk.injEq] at h; rw [← h.1]; exact hp
   ·cases h
  ·rw [hL] at h
   simp only [cond_true, Option.some.injEq, Prod.mk.injEq] at h
   rw [← h.1]; exact hL
 | _ => simp [place] at h
theorem bind_congr {α β : Type} {x : Option α} {f g : α → Option β} (h : ∀ a, x = some a → f a = g a) : x.bind f = x.bind g := by cases x with | none => rfl | some a => exact h a rfl
theorem opA_congr {q : Bool} {o : Oper} {k k2 : AS → Option R} (h : ∀ s', Fr X o.dst.toList s s' → k s' = k2 s') : opA X q o s k = opA X q o s k2 := by
 unfold opA
 cases hp : opP X o s none with
 | some p => obtain ⟨b, rr⟩ := p; exact bind_congr fun p _ => h _ (Fr.adr _ _ _ _ _)
 | none =>
  simp only
  have dflt : ((opV X o s none).bind fun v => k (s.put X o.dst v)) = (opV X o s none).bind fun v => k2 (s.put X o.dst v) := bind_congr fun v _ => h _ (Fr.put _ _ _)
  obtain ⟨dst, op, ty, pos, af, g⟩ := o
  cases op <;> simp only <;> first | exact dflt | skip
  case alloc t =>
   cases dst with
   | none => rfl
   | some d =>
    simp only
    cases X.L.contains d
    ·simp only [cond_false]
     cases X.O.contains d
     ·exact dflt
     ·simp only [cond_true]; split
      ·exact h _ (Fr.heapPut _ _ _ _)
      ·rfl
    ·simp only [cond_true]; split
     ·exact h _ (Fr.newBox _ _ _)
     ·rfl
  case box t x =>
   cases dst with
   | none => rfl
   | some d =>
    simp only
    cases X.L.contains d
    ·simp only [cond_false]
     cases X.O.contains d
     ·exact dflt
     ·exact bind_congr fun cs _ => h _ (Fr.heapPut _ _ _ _)
    ·exact bind_congr fun cs _ => h _ (Fr.newBox _ _ _)
  case store t x v =>
   split
   ·rename_i b off hpl
    exact bind_congr fun _ _ => bind_congr fun _ _ => bind_congr fun _ _ => h _ (Fr.boxPut _ _ _ _ (place_L hpl) _)
   ·exact bind_congr fun _ _ => bind_congr fun _ _ => h _ (Fr.heapPut _ _ _ _)
  case makeMap t rr =>
   cases rr with
   | none => exact h _ (Fr.heapPut _ _ _ _)
   | some x => rfl
  case mapUpdate t m i v =>
   split
   ·split
    ·exact bind_congr fun _ _ => h _ (Fr.heapPut _ _ _ _)
    ·rfl
   ·rfl
  case call c =>
   split
   ·split
    ·split
     ·split
      ·cases zeroBad _
       ·exact bind_congr fun _ _ => h _ (Fr.heapPut _ _ _ _)
       ·rfl
      ·rfl
     ·rfl
    ·rfl
   ·split
    ·split
     ·split
      ·exact bind_congr fun _ _ => h _ (Fr.heapPut _ _ _ _)
      ·rfl
     ·rfl
    ·rfl
   ·exact dflt
   ·cases q
    ·exact bind_congr fun _ _ => h _ (Fr.heapPut _ _ _ _)
    ·exact dflt
   ·cases q
    ·exact bind_congr fun _ _ => h _ (Fr.heapPut _ _ _ _)
    ·exact dflt
   ·rfl
theorem opG_congr {q : Bool} {ops : Array Oper} {o : Oper} {k k2 : AS → Option R} (h : ∀ s', Fr X o.dst.toList s s' → k s' = k2 s') : opG X q ops o s k = opG X q ops o s k2 := by
 unfold opG
 split
 ·exact opA_congr h
 ·split
  ·cases guardBad X o _
   ·simp only [cond_false]
    split
    ·exact bind_congr fun _ _ => h _ (Fr.adr _ _ _ _ _)
    ·exact bind_congr fun _ _ => h _ (Fr.put _ _ _)
   ·rfl
  ·rfl
theorem opG_wp' (hs : Snd X) (h : St X z s a w E pb) {q : Bool} {ops : Array Oper} {i : Nat} {o : Oper} (hi : ops[i]? = some o) {k : AS → Option R} {r : R} (hk : opG X q ops o s k = some r) {K : Act → World → Prop} {Q : Exit → Act → World → Prop}
  (hK : ∀ s' a' w' E' pb', St X z s' a' w' E' pb' → Fr X o.dst.toList s s' → k s' = some r → K a' w') : wpOp X.P ops Q i K a w := by
 classical
 have e : opG X q ops o s k = opG X q ops o s (fun s' => if Fr X o.dst.toList s s' then k s' else none) := opG_congr fun s' hf => by rw [if_pos hf]
 rw [e] at hk
 refine opG_wp hs h hi hk fun s' a' w' E' pb' h' hk' => ?_
 split at hk'
 ·exact hK s' a' w' E' pb' h' (by assumption) hk'
 ·cases hk'
/-- A region in its order. -/
theorem opsA_wp (hs : Snd X) {q : Bool} {ops : Array Oper} {Q : Exit → Act → World → Prop} {r : R} {k : AS → Option R} {s0 : AS} :
  ∀ (l : List Oper) (i : Nat) (s : AS) (a : Act) (w : World) (E : List Pl) (pb : Nat → Option Nat), (∀ j, l[j]? = ops[i + j]?) → St X z s a w E pb → opsA X q ops l s k = some r →
   (∀ s' a' w' E' pb', St X z s' a' w' E' pb' → Fr X (l.filterMap (·.dst)) s s' → k s' = some r → Q .normal a' w') → wpOps X.P ops Q (List.range' i l.length) a w
 | [], i, s, a, w, E, pb, _, h, hk, hQ => by simpa [wpOps] using hQ _ _ _ _ _ h (Fr.refl _ _) hk
 | o :: l, i, s, a, w, E, pb, hl, h, hk, hQ => by
  have h0 := hl 0
  simp at h0
  simp only [List.length_cons, List.range'_succ]
  rw [wpOps_cons]
  refine opG_wp' hs h h0.symm hk fun s' a' w' E' pb' h' hf hk' => ?_
  refine opsA_wp hs (s0 := s0) l (i + 1) s' a' w' E' pb' (fun j => by have := hl (j + 1); simp at this; rw [this]; congr 1; omega) h' hk' fun s2 a2 w2 E2 pb2 h2 hf2 hk2 => hQ s2 a2 w2 E2 pb2 h2 ((hf.trans hf2).mono ?_) hk2
  intro j hj
  rw [List.filterMap_cons]
  cases hd : o.dst with
  | none => rw [hd] at hj; simpa using hj
  | some d => rw [hd] at hj; simpa using hj
/-- .. and the table goes on to hold. -/
theorem opG_wpR (hs : Snd X) {Rt : List (Nat × Nat)} (h : St X z s a w E pb) (hI : RI X Rt s) {ops : Array Oper} {i : Nat} {o : Oper} (hR : Rok X Rt o) (hi : ops[i]? = some o) {k : AS → Option R} {r : R} (hk : opG X true ops o s k = some r) {K : Act → World → Prop} {Q : Exit → Act → World → Prop}
  (hK : ∀ s' a' w' E' pb', St X z s' a' w' E' pb' → Fr X o.dst.toList s s' → RI X Rt s' → k s' = some r → K a' w') : wpOp X.P ops Q i K a w := by
 classical
 have e : opG X true ops o s (fun s' => if RI X Rt s' then k s' else none) = some r := by
  obtain ⟨u, h1, h2, h3⟩ := opG_up hR hI hk
  rw [h3 R _ s (fun tag _ => ⟨hI, hI, fun _ _ _ => rfl, fun _ _ => rfl, fun _ _ => rfl, fun _ => rfl⟩), if_pos (h1.ri hI)]
  exact h2
 refine opG_wp' hs h hi e fun s' a' w' E' pb' h' hf hk' => ?_
 split at hk'
 ·exact hK s' a' w' E' pb' h' hf (by assumption) hk'
 ·cases hk'
theorem draw_any (hs : Snd X) {Rt : List (Nat × Nat)} {ops : Array Oper} {Q : Exit → Act → World → Prop} {r : R} {k : AS → Option R} {s0 : AS} (hback : ∀ n o e, ops[n]? = some o → e ∈ o.after → Region.binds .any e = true → e.on < n)
  (hpair : ∀ n o m y, ops[n]? = some o → m < n → ops[m]? = some y → (∀ S, Down ops S → Deps ops n S → S m) ∨ Ind X Rt ops y o) (hRok : ∀ (n : Nat) (o : Oper), ops[n]? = some o → Rok X Rt o)
  (hQ : ∀ s' a' w' E' pb', St X z s' a' w' E' pb' → Fr X (ops.toList.filterMap (·.dst)) s0 s' → k s' = some r → Q .normal a' w') :
  ∀ (fuel : Nat) (listed : Array Bool) (s : AS) (a : Act) (w : World) (E : List Pl) (pb : Nat → Option Nat), listed.size = ops.size → (remI listed ops.size).length ≤ fuel → Down ops (fun i => listed.getD i true = true) → St X z s a w E pb → RI X Rt s → opsA X true ops (remO ops listed) s k = some r → Fr X (ops.toList.filterMap (·.dst)) s0 s →
   wpAny X.P .any ops Q fuel listed a w := by
 have hnone : ∀ (listed : Array Bool), remI listed ops.size = [] → Region.ready .any ops listed = [] := by
  intro listed h
  unfold Region.ready
  rw [List.filter_eq_nil_iff]
  intro i hi hr
  simp only [Bool.and_eq_true] at hr
  have : i ∈ remI listed ops.size := List.mem_filter.2 ⟨hi, hr.1⟩
  rw [h] at this; simp at this
 have hsome : ∀ (listed : Array Bool), listed.size = ops.size → Region.ready .any ops listed = [] → remI listed ops.size = [] := by
  intro listed hsz hr
  cases hrem : remI listed ops.size with
  | nil => rfl
  | cons i0 tl =>
   exfalso
   have hm : i0 ∈ remI listed ops.size := by rw [hrem]; simp
   obtain ⟨h1, h2⟩ := List.mem_filter.1 hm
   have hlt : i0 < ops.size := by simpa using h1
   have hpw : (remI listed ops.size).Pairwise (· < ·) := List.Pairwise.filter _ List.pairwise_lt_range
   rw [hrem, List.pairwise_cons] at hpw
   have hall : ∀ j, j < i0 → listed.getD j true = true := by
    intro j hj
    cases hc : listed.getD j true with
    | true => rfl
    | false =>
     have : j ∈ remI listed ops.size := List.mem_filter.2 ⟨by simp; omega, by simp [hc]⟩
     rw [hrem] at this
     rcases List.mem_cons.1 this with e | e
     ·omega
     ·have := hpw.1 j e; omega
   have : i0 ∈ Region.ready .any ops listed := by
    unfold Region.ready
    refine List.mem_filter.2 ⟨h1, ?_⟩
    rw [Bool.and_eq_true]
    refine ⟨h2, ?_⟩
    rw [Array.getElem?_eq_getElem hlt]
    simp only [Option.map_some, Option.getD_some]
    rw [Array.all_eq_true_iff_forall_mem]
    intro e he
    cases hb : Region.binds .any e with
    | false => rfl
    | true =>
     have hon := hback i0 _ e (Array.getElem?_eq_getElem hlt) he hb
     have := hall e.on hon
     rw [Array.getD_eq_getD_getElem?, Array.getElem?_eq_getElem (by omega)] at this
     simp only [Option.getD_some] at this
     rw [Array.getD_eq_getD_getElem?, Array.getElem?_eq_getElem (by omega)]
     simp [this]
   rw [hr] at this; simp at this
 intro fuel
 induction fuel with
 | zero =>
  intro listed s a w E pb hsz hle hdn h hI hk hf
  have hrem : remI listed ops.size = [] := List.eq_nil_of_length_eq_zero (by omega)
  refine ⟨hnone listed hrem, hQ s a w E pb h hf ?_⟩
  simpa [remO, hrem, opsA] using hk
 | succ fuel ih =>
  intro listed s a w E pb hsz hle hdn h hI hk hf
  refine ⟨fun hr => hQ s a w E pb h hf (by simpa [remO, hsome listed hsz hr, opsA] using hk), fun i hi => ?_⟩
  unfold Region.ready at hi
  obtain ⟨h1, h2⟩ := List.mem_filter.1 hi
  rw [Bool.and_eq_true] at h2
  obtain ⟨h2, h3⟩ := h2
  have hlt : i < ops.size := by simpa using h1
  have hun : listed.getD i true = false := by simpa using h2
  have ho : ops[i]? = some ops[i] := Array.getElem?_eq_getElem hlt
  have hdeps : Deps ops i (fun j => listed.getD j true = true) := by
   intro o e hoo he hb
   rw [hoo] at h3
   simp only [Option.map_some, Option.getD_some] at h3
   rw [Array.all_eq_true_iff_forall_mem] at h3
   have h4 := h3 e he
   rw [hb] at h4
   simp only [Bool.not_true, Bool.false_or] at h4
   have hon := hback i o e hoo he hb
   rw [Array.getD_eq_getD_getElem?, Array.getElem?_eq_getElem (by omega)] at h4
   simp only [Option.getD_some] at h4
   show listed.getD e.on true = true
   rw [Array.getD_eq_getD_getElem?, Array.getElem?_eq_getElem (by omega)]
   simpa using h4
  obtain ⟨l1, l2, e1, e2, e3⟩ := remI_split hlt hun hsz
  have hrem : remO ops listed = l1.filterMap (ops[·]?) ++ ops[i] :: l2.filterMap (ops[·]?) := by
   unfold remO; rw [e1, List.filterMap_append, List.filterMap_cons, ho]
  have hrem2 : remO ops (listed.setIfInBounds i true) = l1.filterMap (ops[·]?) ++ l2.filterMap (ops[·]?) := by
   unfold remO; rw [e2, List.filterMap_append]
  rw [hrem] at hk
  have hrok : ∀ y ∈ l1.filterMap (ops[·]?), Rok X Rt y := by
   intro y hy
   obtain ⟨j, hj, hjy⟩ := List.mem_filterMap.1 hy
   exact hRok j y hjy
  have hind : ∀ y ∈ l1.filterMap (ops[·]?), Ind X Rt ops y ops[i] := by
   intro y hy
   obtain ⟨j, hj, hjy⟩ := List.mem_filterMap.1 hy
   obtain ⟨j1, j2⟩ := e3 j hj
   rcases hpair i ops[i] j y ho j1 hjy with k1 | k1
   ·have := k1 _ hdn hdeps
    rw [j2] at this; cases this
   ·exact k1
  have hfirst := ops_first (hRok i _ ho) _ _ s hI hrok hind hk
  refine opG_wpR hs h hI (hRok i _ ho) ho hfirst fun s' a' w' E' pb' h' hf' hI' hk' => ?_
  rw [← hrem2] at hk'
  refine ih _ s' a' w' E' pb' (by simpa using hsz) ?_ ?_ h' hI' hk' ((hf.trans hf').mono ?_)
  ·rw [e2]; rw [e1] at hle; simp at hle ⊢; omega
  ·intro j o e hj hoj he hb
   by_cases hji : j = i
   ·subst hji
    have := hdeps o e hoj he hb
    show (listed.setIfInBounds j true).getD e.on true = true
    have hon := hback j o e hoj he hb
    rw [Array.getD_eq_getD_getElem?, Array.getElem?_setIfInBounds_ne (by omega), ← Array.getD_eq_getD_getElem?]; exact this
   ·have hj' : listed.getD j true = true := by
     replace hj : (listed.setIfInBounds i true).getD j true = true := hj
     rw [Array.getD_eq_getD_getElem?, Array.getElem?_setIfInBounds_ne (fun e => hji e.symm), ← Array.getD_eq_getD_getElem?] at hj; exact hj
    have := hdn j o e hj' hoj he hb
    show (listed.setIfInBounds i true).getD e.on true = true
    by_cases hei : e.on = i
    ·rw [hei]; simp [Array.getD, hsz, hlt]
    ·rw [Array.getD_eq_getD_getElem?, Array.getElem?_setIfInBounds_ne (fun e' => hei e'.symm), ← Array.getD_eq_getD_getElem?]; exact this
  ·intro d hd
   rcases List.mem_append.1 hd with hd | hd
   ·exact hd
   ·refine List.mem_filterMap.2 ⟨ops[i], by simp, ?_⟩
    cases hdd : ops[i].dst with
    | none => rw [hdd] at hd; simp at hd
    | some d' => rw [hdd] at hd; simp at hd; rw [hd]
theorem lookup_mem {t b : Nat} : ∀ {l : List (Nat × Nat)}, l.lookup t = some b → (t, b) ∈ l
 | [], h => by cases h
 | (t', b') :: l, h => by
  simp only [List.lookup] at h
  cases hc : (t == t')
  ·rw [hc] at h; exact List.mem_cons_of_mem _ (lookup_mem h)
  ·rw [hc] at h
   simp only [Option.some.injEq] at h
   have : t = t' := by simpa using hc
   subst this; subst h
   exact List.mem_cons_self
theorem draw_wp (hs : Snd X) {ops : Array Oper} {Q : Exit → Act → World → Prop} {r : R} {k : AS → Option R} (hok : regionOk X ops s.sl = true) (hA : ∀ t, s.A t = none) (hQ : ∀ s' a' w' E' pb', St X z s' a' w' E' pb' → Fr X (ops.toList.filterMap (·.dst)) s s' → k s' = some r → Q .normal a' w') {id : Nat}
  (h : St X z s a w E pb) (hk : opsA X true ops ops.toList s k = some r) : (Code.region id ops true).wp X.P Q a w := by
 unfold regionOk regionOk' at hok
 simp only [Bool.and_eq_true] at hok
 obtain ⟨⟨⟨⟨⟨h1, h2⟩, h3⟩, h4⟩, h5⟩, h6⟩ := hok
 generalize rootsL X ops.toList [] = Rt at h3 h4 h5 h6
 have hI : RI X Rt s := by
  refine ⟨fun t b hl => ?_, fun t p hp => (by rw [hA t] at hp; cases hp), fun t b hl _ => ?_⟩
  ·have := List.all_eq_true.1 h6 (t, b) (lookup_mem hl)
   exact this
  ·have := List.all_eq_true.1 h5 (t, b) (lookup_mem hl)
   exact this
 have hlist : ∀ j, ops.toList[j]? = ops[0 + j]? := fun j => by simp
 have hrem : remI (Array.replicate ops.size false) ops.size = List.range ops.size := by
  unfold remI
  rw [List.filter_eq_self]
  intro i hi
  have : i < ops.size := by simpa using hi
  simp [Array.getD, this]
 have hremO : remO ops (Array.replicate ops.size false) = ops.toList := by
  unfold remO
  rw [hrem]
  have gen : ∀ (l pre : List Oper), (List.range' pre.length l.length).filterMap (fun i => (pre ++ l)[i]?) = l := by
   intro l
   induction l with
   | nil => intro pre; rfl
   | cons x l ih =>
    intro pre
    simp only [List.length_cons, List.range'_succ, List.filterMap_cons]
    rw [List.getElem?_append_right (Nat.le_refl _)]
    simp only [Nat.sub_self, List.getElem?_cons_zero]
    have := ih (pre ++ [x])
    simp only [List.length_append, List.length_cons, List.length_nil, Nat.zero_add, List.append_assoc, List.cons_append, List.nil_append] at this
    rw [this]
  have := gen ops.toList []
  rw [List.range_eq_range']
  simpa using this
 refine wp_region_any h1 (draw_any (s0 := s) hs (fun n o e ho he hb => back_spec ops.toList 0 hlist h2 n o e (Nat.zero_le _) ho he hb) (fun n o m y ho hm hy => ?_) (fun n o ho => Rok.of (List.all_eq_true.1 h4 o (by have := Array.mem_of_getElem? ho; simpa using this))) hQ ops.size _ s a _ E pb (by simp) (by rw [hrem]; simp) ?_ (h.grow (w' := w.drew) ((Below.refl _ _).drew)) hI (by rw [hremO]; exact hk) (Fr.refl _ _))
 ·rcases pairs_spec ops.toList 0 hlist h3 n o (Nat.zero_le _) ho m y hm hy with k1 | k1
  ·left
   exact fun S hS hD => anc_spec ops.toList [] (fun i => by simp) (fun m j h => by simp at h) n m k1 S hS hD
  ·exact .inr (indep_ind k1)
 ·intro i o e hi ho he hb
  have hlt : i < ops.size := (Array.getElem?_eq_some_iff.1 ho).1
  exfalso
  simp [Array.getD, hlt] at hi
theorem St.noA (h : St X z s a w E pb) : St X z ⟨s.sl, fun _ => none, s.σ⟩ a w E pb :=
 ⟨h.len, h.lenN, h.slot, h.box, (fun t p hp => by cases hp), h.priv, h.inj, h.heap, h.defers, h.out, h.nm⟩
def AX.to : AX → Exit
 | .normal => .normal
 | .exit i => .exit i
 | .ret => .ret
theorem clearAll_get : ∀ (ds : List Nat) (sl : List AV) (i : Nat), (clearAll sl ds).length = sl.length ∧ ((clearAll sl ds)[i]? = sl[i]? ∨ (clearAll sl ds)[i]? = some .undef) ∧ (i ∉ ds → (clearAll sl ds)[i]? = sl[i]?) ∧ (i ∈ ds → i < sl.length → (clearAll sl ds)[i]? = some .undef)
 | [], sl, i => ⟨rfl, .inl rfl, fun _ => rfl, fun h => by simp at h⟩
 | d :: ds, sl, i => by
  obtain ⟨h1, h2, h3, h4⟩ := clearAll_get ds (sl.set d .undef) i
  simp only [clearAll]
  have hset : (sl.set d .undef)[i]? = if d = i then (if i < sl.length then some .undef else none) else sl[i]? := by
   rw [List.getElem?_set]; by_cases e : d = i
   ·subst e; simp
   ·simp [e]
  have hnone : ¬ i < sl.length → sl[i]? = none := fun k => List.getElem?_eq_none (by omega)
  refine ⟨by rw [h1]; simp, ?_, fun hi => ?_, fun hi hl => ?_⟩
  ·rcases h2 with h2 | h2
   ·rw [h2, hset]
    by_cases e : d = i
    ·rw [if_pos e]; split
     ·exact .inr rfl
     ·rename_i k; rw [hnone k]; exact .inl rfl
    ·rw [if_neg e]; exact .inl rfl
   ·exact .inr h2
  ·simp only [List.mem_cons, not_or] at hi
   rw [h3 hi.2, hset, if_neg (fun e => hi.1 e.symm)]
  ·by_cases hm : i ∈ ds
   ·exact h4 hm (by simpa using hl)
   ·simp only [List.mem_cons] at hi
    have : i = d := hi.resolve_right hm
    rw [h3 hm, hset, if_pos this.symm, if_pos hl]
theorem setAll_get (vs : List AV) : ∀ (live : List Nat) (j : Nat) (sl : List AV) (i : Nat), (setAll vs sl live j).length = sl.length ∧ (i ∉ live → (setAll vs sl live j)[i]? = sl[i]?) ∧ (i ∈ live → i < sl.length → ∃ n, n < live.length ∧ live[n]? = some i ∧ (setAll vs sl live j)[i]? = some (vs.getD (j + n) .undef))
 | [], j, sl, i => ⟨rfl, fun _ => rfl, fun h => by simp at h⟩
 | d :: live, j, sl, i => by
  obtain ⟨h1, h2, h3⟩ := setAll_get vs live (j + 1) (sl.set d (vs.getD j .undef)) i
  simp only [setAll]
  refine ⟨by rw [h1]; simp, fun hi => ?_, fun hi hl => ?_⟩
  ·simp only [List.mem_cons, not_or] at hi
   rw [h2 hi.2, List.getElem?_set, if_neg (fun e => hi.1 e.symm)]
  ·by_cases hm : i ∈ live
   ·obtain ⟨n, k1, k2, k3⟩ := h3 hm (by simpa using hl)
    exact ⟨n + 1, by simp; omega, by simpa using k2, by rw [k3]; congr 2; omega⟩
   ·simp only [List.mem_cons] at hi
    have : i = d := hi.resolve_right hm
    subst this
    exact ⟨0, by simp, rfl, by rw [h2 hm, List.getElem?_set]; simp [hl]⟩
/-- The state behind a branch is the state of the way that was taken, with some slots forgotten. -/
theorem St.meet {s s' : AS} (h : St X z s' a w E pb) {mods live : List Nat} (hl : s.sl.length = s'.sl.length) (hf : ∀ i, i ∉ mods → s'.sl[i]? = s.sl[i]?) : St X z (s.meet mods live (vals s'.sl live) s'.σ) a w E pb := by
 have hget : ∀ i : Nat, (s.meet mods live (vals s'.sl live) s'.σ).sl[i]? = s'.sl[i]? ∨ (s.meet mods live (vals s'.sl live) s'.σ).sl[i]? = some AV.undef := by
  intro i
  simp only [AS.meet]
  obtain ⟨c1, c2, c3, c4⟩ := clearAll_get mods s.sl i
  obtain ⟨m1, m2, m3⟩ := setAll_get (vals s'.sl live) live 0 (clearAll s.sl mods) i
  by_cases hm : i ∈ live
  ·by_cases hlt : i < s.sl.length
   ·obtain ⟨n, k1, k2, k3⟩ := m3 hm (by rw [c1]; exact hlt)
    left
    rw [k3, Nat.zero_add]
    have : (vals s'.sl live).getD n .undef = s'.sl.getD i .undef := by
     simp only [vals, List.getD, List.getElem?_map, k2]; rfl
    rw [this, List.getElem?_eq_getElem (by omega)]
    simp [List.getD, show i < s'.sl.length by omega]
   ·left
    rw [List.getElem?_eq_none (by rw [m1, c1]; omega), List.getElem?_eq_none (by omega)]
  ·rw [m2 hm]
   by_cases hd : i ∈ mods
   ·by_cases hlt : i < s.sl.length
    ·exact .inr (c4 hd hlt)
    ·left; rw [List.getElem?_eq_none (by rw [c1]; omega), List.getElem?_eq_none (by omega)]
   ·left; rw [c3 hd, hf i hd]
 have hlen : (s.meet mods live (vals s'.sl live) s'.σ).sl.length = s'.sl.length := by
  simp only [AS.meet]
  rw [(setAll_get (vals s'.sl live) live 0 (clearAll s.sl mods) 0).1, (clearAll_get mods s.sl 0).1]; exact hl
 refine ⟨by rw [h.len, hlen], by rw [hlen, h.lenN], fun i av hi => ?_, fun i cs hi => ?_, (fun t p hp => by cases hp), h.priv, h.inj, h.heap, h.defers, h.out, h.nm⟩
 ·rcases hget i with e | e
  ·rw [e] at hi; exact h.slot i av hi
  ·rw [e] at hi; injection hi with hi; subst hi; trivial
 ·rcases hget i with e | e
  ·rw [e] at hi; exact h.box i cs hi
  ·rw [e] at hi; cases hi
end
end Go.Proofs.Ytohbeolimnpehaa

/- Code and functions: the abstract run is sound. -/
namespace Go.Proofs.Ytohbeolimnpehaa
set_option linter.unusedSectionVars false
open Go.RowKit
set_option linter.unusedVariables false
set_option linter.unusedSimpArgs false
section
variable {X : Fx} {z : Z}
theorem force_eq {R : Type} : ∀ (l : List AV) (k : List AV → Option R), force l k = k l
 | [], k => rfl
 | x :: l, k => by simp only [force]; rw [force_eq l]
theorem opsF_eq {R : Type} {q : Bool} {ops : Array Oper} : ∀ (l : List Oper) (s : AS) (k : AS → Option R), opsF X q ops l s k = opsA X q ops l s k
 | [], s, k => rfl
 | o :: l, s, k => by
  simp only [opsF, opsA]
  congr 1; funext s
  rw [force_eq]; exact opsF_eq l _ k
theorem cond_some {α : Type} {c : AV} {t e : Option α} {r : α} (h : A.cond c t e = some r) : (c = .bool true ∧ t = some r) ∨ (c = .bool false ∧ e = some r) := by
 cases c <;> simp only [A.cond] at h <;> first | (cases h; done) | skip
 rename_i b
 cases b
 ·exact .inr ⟨rfl, h⟩
 ·exact .inl ⟨rfl, h⟩
theorem loop_iter {f : List AV → Heap → Option (AX × List AV × Heap)} {v : List AV} {σ : Heap} {r : AX × List AV × Heap} (h : A.loop f v σ = some r) : ∃ n, A.iter f n v σ = some r := by
 unfold A.loop at h
 split at h
 ·rename_i hx
  injection h with h
  exact ⟨_, h ▸ Classical.choose_spec (Classical.choose_spec hx)⟩
 ·cases h
theorem sel_some {R : Type} {e : AX} {k : AX → Option R} {r : R} : ∀ {xs : List AX}, A.sel e k xs = some r → k e = some r
 | [], h => by cases h
 | x :: xs, h => by
  simp only [A.sel] at h
  cases he : (e == x)
  ·rw [he] at h; exact sel_some h
  ·rw [he] at h
   have : e = x := by simpa using he
   subst this; exact h
theorem fr_mods {X : Fx} {c : Code} {ds : List Nat} {s s' : AS} (h : Fr X ds s s') : ∀ i, i ∉ ds ++ X.L → s'.sl[i]? = s.sl[i]? := fun i hi => by
 rw [List.mem_append] at hi
 exact h i (fun e => hi (.inl e)) (by
  cases hc : X.L.contains i
  ·rfl
  ·exact absurd (List.contains_iff_mem.1 hc) (fun e => hi (.inr e)))
theorem meet_fr {X : Fx} {s : AS} {ds live : List Nat} {vs : List AV} {σ : Heap} (hl : (live.all fun d => (ds ++ X.L).contains d) = true) : Fr X ds s (s.meet (ds ++ X.L) live vs σ) := fun i hi hL => by
 have hni : i ∉ ds ++ X.L := by
  rw [List.mem_append]; rintro (e | e)
  ·exact hi e
  ·rw [List.contains_iff_mem.2 e] at hL; cases hL
 simp only [AS.meet]
 rw [(setAll_get vs live 0 (clearAll s.sl (ds ++ X.L)) i).2.1 (fun e => hni ?_), (clearAll_get (ds ++ X.L) s.sl i).2.2.1 hni]
 exact List.contains_iff_mem.1 (List.all_eq_true.1 hl i e)
theorem leaveN_some {live : List Nat} {e : AX} {s : AS} {r : List AV × Heap} (h : leaveN live e s = some r) : e = .normal ∧ r = (vals s.sl live, s.σ) := by
 cases e <;> simp only [leaveN] at h <;> first | (cases h; done) | (injection h with h; exact ⟨rfl, h.symm⟩)
/-- A loop whose rounds are counted by a number that stands in no slot. -/
theorem loop_wp {P : Program} {c : Code} {Q : Exit → Act → World → Prop} (I : Nat → Act → World → Prop) (round : ∀ n a w, I n a w → c.wp P (Exit.then (fun a' w' => ∃ m, m < n ∧ I m a' w') Q) a w) {n : Nat} {a : Act} {w : World} (h : I n a w) : (Code.loop c).wp P Q a w := by
 intro b k cs
 have key : ∀ n a w, I n a w → ∃ e a' w', Q e a' w' ∧ Arrives P (lone (b.at a (.code c :: .inLoop c :: k)) cs w) b k cs e a' w' := by
  intro n
  induction n using Nat.strongRecOn with
  | _ n ih =>
   intro a w hI
   obtain ⟨e, a1, w1, hq, harr⟩ := round n a w hI b (.inLoop c :: k) cs
   cases e with
   | normal =>
    obtain ⟨m, hlt, hm⟩ := hq
    obtain ⟨e2, a2, w2, hq2, harr2⟩ := ih m hlt a1 w1 hm
    exact ⟨e2, a2, w2, hq2, .of_steps (Steps.trans harr (.one step_inLoop)) harr2⟩
   | exit id => exact ⟨_, a1, w1, hq, .pass (x := .inLoop c) rfl (fun _ _ => .inl (by simp)) harr⟩
   | goto l => exact ⟨_, a1, w1, hq, .pass (x := .inLoop c) rfl (fun _ _ => .inl (by simp)) harr⟩
   | ret => exact ⟨_, a1, w1, hq, .pass (x := .inLoop c) rfl (fun _ _ => .inl (by simp)) harr⟩
   | panic ch => exact ⟨_, a1, w1, hq, .pass (x := .inLoop c) rfl (fun _ _ => .inl (by simp)) harr⟩
   | outgrown => exact ⟨_, a1, w1, hq, .pass (x := .inLoop c) rfl (fun _ _ => .inl (by simp)) harr⟩
 obtain ⟨e, a', w', hq, harr⟩ := key n a w h
 exact ⟨e, a', w', hq, .of_steps (.one step_loop) harr⟩
theorem exec_wp (hs : Snd X) : ∀ (c : Code) {R : Type} (ann : Ann) (s : AS) (a : Act) (w : World) (E : List Pl) (pb : Nat → Option Nat) (k : AX → AS → Option R) (r : R) (Q : Exit → Act → World → Prop), exec X ann c s k = some r → St X z s a w E pb →
  (∀ e s' a' w' E' pb', St X z s' a' w' E' pb' → Fr X (dsts c) s s' → k e s' = some r → Q e.to a' w') → c.wp X.P Q a w
 | .skip, R, ann, s, a, w, E, pb, k, r, Q, hk, h, hQ => by
  have hk' : k .normal s = some r := by cases ann <;> simpa [exec] using hk
  exact wp_skip (hQ .normal s a w E pb h (Fr.refl _ _) hk')
 | .label l, R, ann, s, a, w, E, pb, k, r, Q, hk, h, hQ => by
  have hk' : k .normal s = some r := by cases ann <;> simpa [exec] using hk
  exact wp_label (hQ .normal s a w E pb h (Fr.refl _ _) hk')
 | .exit id, R, ann, s, a, w, E, pb, k, r, Q, hk, h, hQ => by
  have hk' : k (.exit id) s = some r := by cases ann <;> simpa [exec] using hk
  exact wp_exit (hQ (.exit id) s a w E pb h (Fr.refl _ _) hk')
 | .ret, R, ann, s, a, w, E, pb, k, r, Q, hk, h, hQ => by
  have hk' : k .ret s = some r := by cases ann <;> simpa [exec] using hk
  exact wp_ret (hQ .ret s a w E pb h (Fr.refl _ _) hk')
 | .region id ops draw, R, ann, s, a, w, E, pb, k, r, Q, hk, h, hQ => by
  have hk' : (bif draw then (bif regionOk X ops s.sl then opsA X true ops ops.toList ⟨s.sl, fun _ => none, s.σ⟩ fun s => k .normal ⟨s.sl, fun _ => none, s.σ⟩ else none) else opsA X false ops ops.toList s fun s => k .normal ⟨s.sl, fun _ => none, s.σ⟩) = some r := by
   cases ann <;> simpa [exec, force_eq, opsF_eq] using hk
  cases draw
  ·simp only [cond_false] at hk'
   refine wp_region ?_
   have := opsA_wp (z := z) (Q := Q) (s0 := s) hs ops.toList 0 s a w E pb (fun j => by simp) h hk' (fun s' a' w' E' pb' h' hf hk2 => hQ .normal _ a' w' E' pb' h'.noA (fun i hi hL => hf i (by simpa [dsts] using hi) hL) hk2)
   rw [List.range_eq_range']
   simpa using this
  ·simp only [cond_true] at hk'
   cases hok : regionOk X ops s.sl
   ·rw [hok] at hk'; cases hk'
   ·rw [hok] at hk'
    simp only [cond_true] at hk'
    exact draw_wp (s := ⟨s.sl, fun _ => none, s.σ⟩) hs hok (fun _ => rfl) (fun s' a' w' E' pb' h' hf hk2 => hQ .normal _ a' w' E' pb' h'.noA (fun i hi hL => hf i (by simpa [dsts] using hi) hL) hk2) h.noA hk'
 | .seq x y, R, ann, s, a, w, E, pb, k, r, Q, hk, h, hQ => by
  cases ann <;> simp only [exec] at hk <;> first | (cases hk; done) | skip
  rename_i aa bb
  refine wp_seq (exec_wp hs x aa s a w E pb _ r _ hk h fun e s' a' w' E' pb' h' hf hk' => ?_)
  cases e with
  | normal => exact exec_wp hs y bb s' a' w' E' pb' k r Q hk' h' fun e2 s2 a2 w2 E2 pb2 h2 hf2 hk2 => hQ e2 s2 a2 w2 E2 pb2 h2 (by simpa [dsts] using hf.trans hf2) hk2
  | exit i => exact hQ (.exit i) s' a' w' E' pb' h' (hf.mono fun i hi => by simp [dsts, hi]) hk'
  | ret => exact hQ .ret s' a' w' E' pb' h' (hf.mono fun i hi => by simp [dsts, hi]) hk'
 | .cond c x y, R, ann, s, a, w, E, pb, k, r, Q, hk, h, hQ => by
  have rc := ev_rep h c
  cases ann <;> simp only [exec, force_eq] at hk <;> first | (cases hk; done) | skip
  case c live aa bb =>
   cases hl : (live.all fun d => (dsts x ++ dsts y ++ X.L).contains d)
   ·rw [hl] at hk; cases hk
   ·rw [hl] at hk
    simp only [Bool.not_true, cond_false] at hk
    obtain ⟨⟨vs, σ'⟩, h1, h2⟩ := Option.bind_eq_some_iff.1 hk
    rcases cond_some h1 with ⟨ec, hb⟩ | ⟨ec, hb⟩
    ·rw [ec] at rc; simp only [Rep] at rc
     refine wp_cond_true rc (exec_wp hs x aa s a w E pb _ _ Q hb h fun e s' a' w' E' pb' h' hf hk' => ?_)
     obtain ⟨rfl, hv⟩ := leaveN_some hk'
     simp only [Prod.mk.injEq] at hv
     obtain ⟨rfl, rfl⟩ := hv
     have hf2 : Fr X (dsts x ++ dsts y) s s' := hf.mono fun i hi => by simp [hi]
     exact hQ .normal _ a' w' E' pb' (h'.meet (by rw [h.lenN, h'.lenN]) (fr_mods (c := x) hf2)) (by simpa [dsts] using meet_fr (X := X) hl) h2
    ·rw [ec] at rc; simp only [Rep] at rc
     refine wp_cond_false rc (exec_wp hs y bb s a w E pb _ _ Q hb h fun e s' a' w' E' pb' h' hf hk' => ?_)
     obtain ⟨rfl, hv⟩ := leaveN_some hk'
     simp only [Prod.mk.injEq] at hv
     obtain ⟨rfl, rfl⟩ := hv
     have hf2 : Fr X (dsts x ++ dsts y) s s' := hf.mono fun i hi => by simp [hi]
     exact hQ .normal _ a' w' E' pb' (h'.meet (by rw [h.lenN, h'.lenN]) (fr_mods (c := x) hf2)) (by simpa [dsts] using meet_fr (X := X) hl) h2
  case j aa bb =>
   rcases cond_some hk with ⟨ec, hb⟩ | ⟨ec, hb⟩
   ·rw [ec] at rc; simp only [Rep] at rc
    exact wp_cond_true rc (exec_wp hs x aa s a w E pb k r Q hb h fun e s' a' w' E' pb' h' hf hk' => hQ e s' a' w' E' pb' h' (hf.mono fun i hi => by simp [dsts, hi]) hk')
   ·rw [ec] at rc; simp only [Rep] at rc
    exact wp_cond_false rc (exec_wp hs y bb s a w E pb k r Q hb h fun e s' a' w' E' pb' h' hf hk' => hQ e s' a' w' E' pb' h' (hf.mono fun i hi => by simp [dsts, hi]) hk')
 | .block id c, R, ann, s, a, w, E, pb, k, r, Q, hk, h, hQ => by
  cases ann <;> simp only [exec] at hk <;> first | (cases hk; done) | skip
  rename_i aa
  refine wp_block (exec_wp hs c aa s a w E pb _ r _ hk h fun e s' a' w' E' pb' h' hf hk' => ?_)
  cases e with
  | normal => exact hQ .normal s' a' w' E' pb' h' (by simpa [dsts] using hf) hk'
  | ret => exact hQ .ret s' a' w' E' pb' h' (by simpa [dsts] using hf) hk'
  | exit i =>
   simp only [AX.to, Exit.inBlock]
   simp only at hk'
   by_cases e : i = id
   ·have : (i == id) = true := by simpa using e
    rw [this] at hk'
    rw [if_pos e]
    exact hQ .normal s' a' w' E' pb' h' (by simpa [dsts] using hf) hk'
   ·have : (i == id) = false := by simpa using e
    rw [this] at hk'
    rw [if_neg e]
    exact hQ (.exit i) s' a' w' E' pb' h' (by simpa [dsts] using hf) hk'
 | .loop c, R, ann, s, a, w, E, pb, k, r, Q, hk, h, hQ => by
  cases ann <;> simp only [exec, force_eq] at hk <;> first | (cases hk; done) | skip
  rename_i live xs aa
  cases hl : (live.all fun d => (dsts c ++ X.L).contains d)
  ·rw [hl] at hk; cases hk
  ·rw [hl] at hk
   simp only [Bool.not_true, cond_false] at hk
   obtain ⟨⟨e0, vs0, σ0⟩, h1, h2⟩ := Option.bind_eq_some_iff.1 hk
   have hsel := sel_some h2
   obtain ⟨n, hn⟩ := loop_iter h1
   refine loop_wp (fun n a w => ∃ vs σ E pb, A.iter (fun vs σ => exec X aa c (s.meet (dsts c ++ X.L) live vs σ) (leave live)) n vs σ = some (e0, vs0, σ0) ∧ St X z (s.meet (dsts c ++ X.L) live vs σ) a w E pb) ?_ (n := n) ⟨_, _, E, pb, hn, h.meet rfl (fun i _ => rfl)⟩
   rintro n a w ⟨vs, σ, E, pb, hit, hst⟩
   cases n with
   | zero => cases hit
   | succ n =>
    simp only [A.iter] at hit
    obtain ⟨⟨e1, vs1, σ1⟩, g1, g2⟩ := Option.bind_eq_some_iff.1 hit
    refine exec_wp hs c aa _ a w E pb _ _ _ g1 hst fun e s' a' w' E' pb' h' hf hk' => ?_
    simp only [leave, Option.some.injEq, Prod.mk.injEq] at hk'
    obtain ⟨rfl, rfl, rfl⟩ := hk'
    have hfr : ∀ i, i ∉ dsts c ++ X.L → s'.sl[i]? = s.sl[i]? := fun i hi => by
     rw [fr_mods (c := c) hf i hi]
     exact fr_mods (c := c) (meet_fr (X := X) (s := s) (vs := vs) (σ := σ) hl) i hi
    have hst2 := h'.meet (s := s) (mods := dsts c ++ X.L) (live := live) (by rw [h.lenN, h'.lenN]) hfr
    cases e with
    | normal => exact ⟨n, Nat.lt_succ_self n, _, _, E', pb', g2, hst2⟩
    | exit i =>
     simp only [Option.some.injEq, Prod.mk.injEq] at g2
     obtain ⟨rfl, rfl, rfl⟩ := g2
     exact hQ (.exit i) _ a' w' E' pb' hst2 (by simpa [dsts] using meet_fr (X := X) hl) hsel
    | ret =>
     simp only [Option.some.injEq, Prod.mk.injEq] at g2
     obtain ⟨rfl, rfl, rfl⟩ := g2
     exact hQ .ret _ a' w' E' pb' hst2 (by simpa [dsts] using meet_fr (X := X) hl) hsel
 | .rangeFunc .., R, ann, s, a, w, E, pb, k, r, Q, hk, h, hQ => by cases ann <;> simp [exec] at hk
 | .scope _, R, ann, s, a, w, E, pb, k, r, Q, hk, h, hQ => by cases ann <;> simp [exec] at hk
 | .goto _, R, ann, s, a, w, E, pb, k, r, Q, hk, h, hQ => by cases ann <;> simp [exec] at hk
 | .refuse _, R, ann, s, a, w, E, pb, k, r, Q, hk, h, hQ => by cases ann <;> simp [exec] at hk
end
end Go.Proofs.Ytohbeolimnpehaa

/- Functions: what a run yields is what a call does. -/
namespace Go.Proofs.Ytohbeolimnpehaa
set_option linter.unusedSectionVars false
open Go.RowKit
set_option linter.unusedVariables false
set_option linter.unusedSimpArgs false
section
variable {X : Fx} {z : Z} {s : AS} {a : Act} {w w' : World} {E : List Pl} {pb : Nat → Option Nat}
def resM (tmps : Array Value) : ResultVar → Sem Value
 | .tmp t => pure (tmps.getD t undef)
 | .cell a t => do loadVar t (← asAddr (tmps.getD a undef))
theorem resA_run (h : St X z s a w E pb) {R : Type} : ∀ (rs : List ResultVar) (k : List AV → Option R) (r : R), resA X s rs k = some r → ∃ vs avs, (rs.mapM (resM a.tmps)).run X.P w = .ok vs w ∧ RepL (ctx z w E pb) avs vs ∧ k avs = some r
 | [], k, r, hk => ⟨[], [], by simp, by simp [RepL], hk⟩
 | .tmp t :: rs, k, r, hk => by
  simp only [resA] at hk
  obtain ⟨vs, avs, h1, h2, h3⟩ := resA_run h rs _ r hk
  refine ⟨a.tmps.getD t undef :: vs, ev X s (.tmp t) :: avs, ?_, by simp only [RepL]; exact ⟨_, _, rfl, ev_rep h (.tmp t), h2⟩, h3⟩
  simp only [List.mapM_cons, Sem.run_bind, resM, Sem.run_pure, Result.andThen_ok, h1]
 | .cell q t :: rs, k, r, hk => by
  simp only [resA] at hk
  have fin : ∀ (v : Value) (av : AV), (resM a.tmps (.cell q t)).run X.P w = .ok v w → Rep (ctx z w E pb) av v → resA X s rs (fun vs => k (av :: vs)) = some r → ∃ vs avs, ((ResultVar.cell q t :: rs).mapM (resM a.tmps)).run X.P w = .ok vs w ∧ RepL (ctx z w E pb) avs vs ∧ k avs = some r := by
   intro v av hv hr hk
   obtain ⟨vs, avs, h1, h2, h3⟩ := resA_run h rs _ r hk
   refine ⟨v :: vs, av :: avs, ?_, by simp only [RepL]; exact ⟨_, _, rfl, hr, h2⟩, h3⟩
   simp only [List.mapM_cons, Sem.run_bind, hv, Sem.run_pure, Result.andThen_ok, h1]
  split at hk
  ·rename_i b off hp
   obtain ⟨av, e1, e2⟩ := Option.bind_eq_some_iff.1 hk
   obtain ⟨cs, e3, e4⟩ := Option.bind_eq_some_iff.1 e1
   obtain ⟨n, k1, k2, k3, k4⟩ := place_rep h (tag := none) trivial hp e3
   obtain ⟨v, j1, j2⟩ := partT_load (c := ctx z w E pb) w X rfl k3.2 e4
   rw [Nat.zero_add] at j1
   simp only [Act.eval] at k2
   exact fin v av (by simp [resM, k2, asAddr, j1]) j2 e2
  ·obtain ⟨av, e1, e2⟩ := Option.bind_eq_some_iff.1 hk
   obtain ⟨cs, e3, e4⟩ := Option.bind_eq_some_iff.1 e1
   obtain ⟨b, off, k2, k3⟩ := deref_rep h.heap e3 (ev_rep h (.tmp q))
   obtain ⟨v, j1, j2⟩ := partT_load (c := ctx z w E pb) w X rfl k3 e4
   rw [Nat.add_zero] at j1
   simp only [Act.eval] at k2
   exact fin v av (by simp [resM, k2, asAddr, j1]) j2 e2
theorem results_run {P : Program} {fn : Func} {tmps : Array Value} {vs : List Value} (h : (fn.results.toList.mapM (resM tmps)).run P w = .ok vs w) : ∃ v, (results fn tmps).run P w = .ok v w ∧ ∀ (c : RC) (avs : List AV), RepL c avs vs → Rep c (one avs) v := by
 have e : results fn tmps = (do let vs ← fn.results.mapM (resM tmps); pure (if h : vs.size = 1 then vs[0] else .tuple vs)) := by
  unfold results
  congr 1
 have hm : (fn.results.mapM (resM tmps)).run P w = .ok vs.toArray w := by
  rw [Array.mapM_eq_mapM_toList, Sem.run_map, h]; rfl
 have hrun : (results fn tmps).run P w = .ok (if h : vs.toArray.size = 1 then vs.toArray[0] else .tuple vs.toArray) w := by
  rw [e, Sem.run_bind, hm]; rfl
 refine ⟨_, hrun, fun c avs r => ?_⟩
 match avs, vs, r with
 | [x], [v], r => simp only [RepL] at r; obtain ⟨v', _, e', r1, rfl⟩ := r; injection e' with e1 _; subst e1; simpa [one] using r1
 | [], [], r => simp only [one, Rep]; exact ⟨#[], by simp, by simp [RepL]⟩
 | x :: y :: xs, v :: u :: us, r => simp only [one, Rep]; exact ⟨(v :: u :: us).toArray, by simp, by simpa using r⟩
 | [_], _ :: _ :: _, r => exact absurd r.length (by simp)
 | _ :: _ :: _, [_], r => exact absurd r.length (by simp)
 | [], _ :: _, r => exact absurd r.length (by simp)
 | _ :: _, [], r => exact absurd r.length (by simp)
end
section
variable {c c' : RC} {σ : Heap} {n : Nat}
/-- How a reading goes over where some blocks are written no more. -/
structure Cold (c c' : RC) (σ : Heap) (n : Nat) : Prop where
 w : c'.w = c.w
 nm : c'.nm = c.nm
 X : ∀ b, c'.X b → c.X b
 E : ∀ (id : Nat) (p : Pl), id < n → c.E[id]? = some p → c'.E[id]? = some p
 heap : HeapRel c σ
 cold : ∀ (id : Nat) (p : Pl), n ≤ id → c.E[id]? = some p → ¬ c'.X p.b
theorem frzL_len (d : Nat) : ∀ (l l' : List AV), A.frzL σ n d l = some l' → l'.length = l.length
 | [], l', e => by simp only [A.frzL] at e; injection e with e; subst e; rfl
 | x :: l, l', e => by
  simp only [A.frzL] at e
  obtain ⟨y, h1, h2⟩ := Option.bind_eq_some_iff.1 e
  obtain ⟨l2, h3, rfl⟩ := Option.map_eq_some_iff.1 h2
  simp [frzL_len d l l2 h3]
theorem frzLL_len (d : Nat) : ∀ (l l' : List (List AV)), A.frzLL σ n d l = some l' → l'.length = l.length
 | [], l', e => by simp only [A.frzLL] at e; injection e with e; subst e; rfl
 | x :: l, l', e => by
  simp only [A.frzLL] at e
  obtain ⟨y, h1, h2⟩ := Option.bind_eq_some_iff.1 e
  obtain ⟨l2, h3, rfl⟩ := Option.map_eq_some_iff.1 h2
  simp [frzLL_len d l l2 h3]
theorem frzLL_eq (d : Nat) : ∀ (l : List (List AV)), A.frzLL' σ n d l = A.frzLL σ n d l
 | [] => by simp [A.frzLL, A.frzLL']
 | x :: l => by simp [A.frzLL, A.frzLL', frzLL_eq d l]
def isOwn : AV → Bool
 | .os .. => true
 | .op .. => true
 | .oe .. => true
 | .om .. => true
 | _ => false
theorem frzL_eq (d : Nat) : ∀ (l : List AV), A.frzL' σ n d l = A.frzL σ n d l
 | [] => by simp [A.frzL, A.frzL']
 | x :: l => by simp [A.frzL, A.frzL', frzL_eq d l]
theorem frzM_eq (d : Nat) : ∀ (l : List (AV × AV)), A.frzM' σ n d l = A.frzM σ n d l
 | [] => by simp [A.frzM, A.frzM']
 | (k, v) :: l => by simp [A.frzM, A.frzM', frzM_eq d l]
mutual
theorem frz_rep (h : Cold c c' σ n) (d : Nat) (hos : ∀ av av' v, isOwn av = true → A.frz σ n d av = some av' → Rep c av v → Rep c' av' v) : ∀ (av av' : AV) (v : Value), A.frz σ n d av = some av' → Rep c av v → Rep c' av' v
 | .undef, av', v, e, r => by cases d <;> simp [A.frz] at e
 | .int k m, av', v, e, r => by
  have : av' = .int k m := by cases d <;> simpa [A.frz] using e.symm
  subst this; simpa [Rep] using r
 | .bool b, av', v, e, r => by
  have : av' = .bool b := by cases d <;> simpa [A.frz] using e.symm
  subst this; simpa [Rep] using r
 | .str s, av', v, e, r => by
  have : av' = .str s := by cases d <;> simpa [A.frz] using e.symm
  subst this; simpa [Rep] using r
 | .nsl, av', v, e, r => by
  have : av' = .nsl := by cases d <;> simpa [A.frz] using e.symm
  subst this; simpa [Rep] using r
 | .np, av', v, e, r => by
  have : av' = .np := by cases d <;> simpa [A.frz] using e.symm
  subst this; simpa [Rep] using r
 | .nm, av', v, e, r => by
  have : av' = .nm := by cases d <;> simpa [A.frz] using e.symm
  subst this; simpa [Rep] using r
 | .nfn, av', v, e, r => by
  have : av' = .nfn := by cases d <;> simpa [A.frz] using e.symm
  subst this; simpa [Rep] using r
 | .agg cs, av', v, e, r => by
  have e' : (A.frzL σ n d cs).map .agg = some av' := by cases d <;> simpa [A.frz] using e
  obtain ⟨cs', h1, rfl⟩ := Option.map_eq_some_iff.1 e'
  simp only [Rep] at r ⊢
  obtain ⟨vs, e, r1, r2⟩ := r
  exact ⟨vs, e, frzL_rep h d hos cs cs' _ h1 r1, r2⟩
 | .tup cs, av', v, e, r => by
  have e' : (A.frzL σ n d cs).map .tup = some av' := by cases d <;> simpa [A.frz] using e
  obtain ⟨cs', h1, rfl⟩ := Option.map_eq_some_iff.1 e'
  simp only [Rep] at r ⊢
  obtain ⟨vs, e, r1⟩ := r
  exact ⟨vs, e, frzL_rep h d hos cs cs' _ h1 r1⟩
 | .sl sz es, av', v, e, r => by
  have e' : (A.frzLL σ n d es).map (.sl sz) = some av' := by cases d <;> simpa [A.frz] using e
  obtain ⟨es', h1, rfl⟩ := Option.map_eq_some_iff.1 e'
  simp only [Rep] at r ⊢
  obtain ⟨q, cap, e, k1, k2, r⟩ := r
  have hl : es'.length = es.length := frzLL_len d es es' h1
  refine ⟨q, cap, by rw [hl]; exact e, by rw [hl]; exact k1, k2, ?_⟩
  rcases r with r | ⟨b, off, e2, hb, hx, r⟩
  ·left; subst r; simpa using hl
  ·right; exact ⟨b, off, e2, by rw [h.w]; exact hb, fun k => hx (h.X b k), frzE_rep h d hos sz b es es' off h1 r⟩
 | .rp cs, av', v, e, r => by
  have e' : (A.frzL σ n d cs).map .rp = some av' := by cases d <;> simpa [A.frz] using e
  obtain ⟨cs', h1, rfl⟩ := Option.map_eq_some_iff.1 e'
  simp only [Rep] at r ⊢
  obtain ⟨b, off, e2, hb, hx, r⟩ := r
  exact ⟨b, off, e2, by rw [h.w]; exact hb, fun k => hx (h.X b k), frzC_rep h d hos b cs cs' off h1 r⟩
 | .fm es, av', v, e, r => by
  have e' : (A.frzM σ n d es).map .fm = some av' := by cases d <;> simpa [A.frz] using e
  obtain ⟨es', h1, rfl⟩ := Option.map_eq_some_iff.1 e'
  simp only [Rep] at r ⊢
  obtain ⟨b, e2, hb, hx, ents, clock, k1, k2⟩ := r
  exact ⟨b, e2, by rw [h.w]; exact hb, fun k => hx (h.X b k), ents, clock, by rw [h.w]; exact k1, frzM_rep h d hos es es' _ h1 k2⟩
 | .op id off, av', v, e, r => hos _ av' v rfl e r
 | .oe id g i off, av', v, e, r => hos _ av' v rfl e r
 | .om id, av', v, e, r => hos _ av' v rfl e r
 | .fn f cs, av', v, e, r => by cases d <;> simp [A.frz] at e
 | .lbx cs, av', v, e, r => by cases d <;> simp [A.frz] at e
 | .os id g sz off len, av', v, e, r => hos _ av' v rfl e r
theorem frzL_rep (h : Cold c c' σ n) (d : Nat) (hos : ∀ av av' v, isOwn av = true → A.frz σ n d av = some av' → Rep c av v → Rep c' av' v) : ∀ (l l' : List AV) (vs : List Value), A.frzL σ n d l = some l' → RepL c l vs → RepL c' l' vs
 | [], l', vs, e, r => by simp only [A.frzL] at e; injection e with e; subst e; simpa [RepL] using r
 | x :: l, l', vs, e, r => by
  simp only [A.frzL] at e
  obtain ⟨y, h1, h2⟩ := Option.bind_eq_some_iff.1 e
  obtain ⟨l2, h3, rfl⟩ := Option.map_eq_some_iff.1 h2
  simp only [RepL] at r ⊢
  obtain ⟨v, vs', e, r1, r2⟩ := r
  exact ⟨v, vs', e, frz_rep h d hos x y v h1 r1, frzL_rep h d hos l l2 vs' h3 r2⟩
theorem frzM_rep (h : Cold c c' σ n) (d : Nat) (hos : ∀ av av' v, isOwn av = true → A.frz σ n d av = some av' → Rep c av v → Rep c' av' v) : ∀ (l l' : List (AV × AV)) (es : List MapEntry), A.frzM σ n d l = some l' → RepM c l es → RepM c' l' es
 | [], l', es, e, r => by simp only [A.frzM] at e; injection e with e; subst e; simpa [RepM] using r
 | (k, v) :: l, l', es, e, r => by
  simp only [A.frzM] at e
  obtain ⟨k', h1, h2⟩ := Option.bind_eq_some_iff.1 e
  obtain ⟨v', h3, h4⟩ := Option.bind_eq_some_iff.1 h2
  obtain ⟨l2, h5, rfl⟩ := Option.map_eq_some_iff.1 h4
  simp only [RepM] at r ⊢
  obtain ⟨x, es', e, r1, r2, r3⟩ := r
  exact ⟨x, es', e, frz_rep h d hos k k' _ h1 r1, frz_rep h d hos v v' _ h3 r2, frzM_rep h d hos l l2 es' h5 r3⟩
theorem frzC_rep (h : Cold c c' σ n) (d : Nat) (hos : ∀ av av' v, isOwn av = true → A.frz σ n d av = some av' → Rep c av v → Rep c' av' v) (b : Nat) : ∀ (l l' : List AV) (off : Nat), A.frzL σ n d l = some l' → RepCs c b off l → RepCs c' b off l'
 | [], l', off, e, r => by simp only [A.frzL] at e; injection e with e; subst e; simp [RepCs]
 | x :: l, l', off, e, r => by
  simp only [A.frzL] at e
  obtain ⟨y, h1, h2⟩ := Option.bind_eq_some_iff.1 e
  obtain ⟨l2, h3, rfl⟩ := Option.map_eq_some_iff.1 h2
  simp only [RepCs] at r ⊢
  obtain ⟨⟨v, e1, e2, r1⟩, r2⟩ := r
  exact ⟨⟨v, by rw [h.w]; exact e1, e2, frz_rep h d hos x y v h1 r1⟩, frzC_rep h d hos b l l2 (off + 1) h3 r2⟩
theorem frzE_rep (h : Cold c c' σ n) (d : Nat) (hos : ∀ av av' v, isOwn av = true → A.frz σ n d av = some av' → Rep c av v → Rep c' av' v) (sz b : Nat) : ∀ (l l' : List (List AV)) (off : Nat), A.frzLL σ n d l = some l' → RepEs c sz b off l → RepEs c' sz b off l'
 | [], l', off, e, r => by simp only [A.frzLL] at e; injection e with e; subst e; simp [RepEs]
 | x :: l, l', off, e, r => by
  simp only [A.frzLL] at e
  obtain ⟨y, h1, h2⟩ := Option.bind_eq_some_iff.1 e
  obtain ⟨l2, h3, rfl⟩ := Option.map_eq_some_iff.1 h2
  simp only [RepEs] at r ⊢
  exact ⟨by rw [frzL_len d x y h1]; exact r.1, frzC_rep h d hos b x y off h1 r.2.1, frzE_rep h d hos sz b l l2 (off + sz) h3 r.2.2⟩
end
/-- What was known of the elder memory needs nothing of the newer one. -/
structure Eld (c0 c c' : RC) : Prop where
 w : c'.w = c.w
 nm : c'.nm = c.nm
 X : ∀ b, c'.X b → c.X b
 E : ∀ (id : Nat) (p0 p : Pl), c0.E[id]? = some p0 → c.E[id]? = some p → c'.E[id]? = some p
mutual
theorem eld_rep {c0 c c' : RC} (h : Eld c0 c c') : ∀ (av : AV) (v0 v : Value), Rep c0 av v0 → Rep c av v → Rep c' av v
 | .undef, v0, v, r0, r => by simp [Rep]
 | .int k m, v0, v, r0, r => by simpa [Rep] using r
 | .bool b, v0, v, r0, r => by simpa [Rep] using r
 | .str s, v0, v, r0, r => by simpa [Rep] using r
 | .nsl, v0, v, r0, r => by simpa [Rep] using r
 | .np, v0, v, r0, r => by simpa [Rep] using r
 | .nm, v0, v, r0, r => by simpa [Rep] using r
 | .fm es, v0, v, r0, r => by
  simp only [Rep] at r0 r ⊢
  obtain ⟨_, _, _, _, _, _, _, r0⟩ := r0
  obtain ⟨b, e, hb, hx, ents, clock, k1, k2⟩ := r
  exact ⟨b, e, by rw [h.w]; exact hb, fun k => hx (h.X b k), ents, clock, by rw [h.w]; exact k1, eldM_rep h es _ _ r0 k2⟩
 | .nfn, v0, v, r0, r => by simpa [Rep] using r
 | .agg cs, v0, v, r0, r => by
  simp only [Rep] at r0 r ⊢
  obtain ⟨vs0, _, r01, _⟩ := r0
  obtain ⟨vs, e, r1, r2⟩ := r
  exact ⟨vs, e, eldL_rep h cs _ _ r01 r1, r2⟩
 | .tup cs, v0, v, r0, r => by
  simp only [Rep] at r0 r ⊢
  obtain ⟨vs0, _, r01⟩ := r0
  obtain ⟨vs, e, r1⟩ := r
  exact ⟨vs, e, eldL_rep h cs _ _ r01 r1⟩
 | .sl sz es, v0, v, r0, r => by
  simp only [Rep] at r0 r ⊢
  obtain ⟨_, _, _, _, _, r0⟩ := r0
  obtain ⟨q, cap, e, k1, k2, r⟩ := r
  refine ⟨q, cap, e, k1, k2, ?_⟩
  rcases r with r | ⟨b, off, e2, hb, hx, r⟩
  ·exact .inl r
  ·rcases r0 with r0 | ⟨b0, off0, _, _, _, r0⟩
   ·exact .inl r0
   ·exact .inr ⟨b, off, e2, by rw [h.w]; exact hb, fun k => hx (h.X b k), eldE_rep h sz b0 b es off0 off r0 r⟩
 | .rp cs, v0, v, r0, r => by
  simp only [Rep] at r0 r ⊢
  obtain ⟨b0, off0, _, _, _, r0⟩ := r0
  obtain ⟨b, off, e2, hb, hx, r⟩ := r
  exact ⟨b, off, e2, by rw [h.w]; exact hb, fun k => hx (h.X b k), eldC_rep h b0 b cs off0 off r0 r⟩
 | .op id off, v0, v, r0, r => by
  simp only [Rep] at r0 r ⊢
  obtain ⟨p0, e0, _⟩ := r0
  obtain ⟨p, e1, e2, e3⟩ := r
  exact ⟨p, h.E id p0 p e0 e1, e2, e3⟩
 | .oe id g i off, v0, v, r0, r => by
  simp only [Rep] at r0 r ⊢
  obtain ⟨_, p0, e0, _⟩ := r0
  obtain ⟨hg, p, e1, e2⟩ := r
  exact ⟨hg, p, h.E id p0 p e0 e1, e2⟩
 | .os id g sz off len, v0, v, r0, r => by
  simp only [Rep] at r0 r ⊢
  obtain ⟨_, p0, e0, _⟩ := r0
  obtain ⟨hg, p, e1, e2⟩ := r
  exact ⟨hg, p, h.E id p0 p e0 e1, e2⟩
 | .om id, v0, v, r0, r => by
  simp only [Rep] at r0 r ⊢
  obtain ⟨p0, e0, _⟩ := r0
  obtain ⟨p, e1, e2, e3⟩ := r
  exact ⟨p, h.E id p0 p e0 e1, e2, e3⟩
 | .fn f cs, v0, v, r0, r => by
  simp only [Rep] at r0 r ⊢
  obtain ⟨_, _, _, _, r0⟩ := r0
  obtain ⟨g, vs, e1, e2, r⟩ := r
  exact ⟨g, vs, e1, by rw [h.nm]; exact e2, eldL_rep h cs _ _ r0 r⟩
 | .lbx cs, v0, v, r0, r => by simp [Rep] at r
theorem eldL_rep {c0 c c' : RC} (h : Eld c0 c c') : ∀ (l : List AV) (vs0 vs : List Value), RepL c0 l vs0 → RepL c l vs → RepL c' l vs
 | [], vs0, vs, r0, r => by simpa [RepL] using r
 | x :: l, vs0, vs, r0, r => by
  simp only [RepL] at r0 r ⊢
  obtain ⟨v0, us0, _, r01, r02⟩ := r0
  obtain ⟨v, us, e, r1, r2⟩ := r
  exact ⟨v, us, e, eld_rep h x _ _ r01 r1, eldL_rep h l _ _ r02 r2⟩
theorem eldM_rep {c0 c c' : RC} (h : Eld c0 c c') : ∀ (l : List (AV × AV)) (es0 es : List MapEntry), RepM c0 l es0 → RepM c l es → RepM c' l es
 | [], es0, es, r0, r => by simpa [RepM] using r
 | (k, v) :: l, es0, es, r0, r => by
  simp only [RepM] at r0 r ⊢
  obtain ⟨e0, es0', _, k1, k2, k3⟩ := r0
  obtain ⟨e, es', e1, j1, j2, j3⟩ := r
  exact ⟨e, es', e1, eld_rep h k _ _ k1 j1, eld_rep h v _ _ k2 j2, eldM_rep h l es0' es' k3 j3⟩
theorem eldC_rep {c0 c c' : RC} (h : Eld c0 c c') (b0 b : Nat) : ∀ (l : List AV) (off0 off : Nat), RepCs c0 b0 off0 l → RepCs c b off l → RepCs c' b off l
 | [], off0, off, r0, r => by simp [RepCs]
 | x :: l, off0, off, r0, r => by
  simp only [RepCs] at r0 r ⊢
  obtain ⟨⟨v0, _, _, r01⟩, r02⟩ := r0
  obtain ⟨⟨v, e1, e2, r1⟩, r2⟩ := r
  exact ⟨⟨v, by rw [h.w]; exact e1, e2, eld_rep h x _ _ r01 r1⟩, eldC_rep h b0 b l _ _ r02 r2⟩
theorem eldE_rep {c0 c c' : RC} (h : Eld c0 c c') (sz b0 b : Nat) : ∀ (l : List (List AV)) (off0 off : Nat), RepEs c0 sz b0 off0 l → RepEs c sz b off l → RepEs c' sz b off l
 | [], off0, off, r0, r => by simp [RepEs]
 | x :: l, off0, off, r0, r => by
  simp only [RepEs] at r0 r ⊢
  exact ⟨r.1, eldC_rep h b0 b x _ _ r0.2.1 r.2.1, eldE_rep h sz b0 b l _ _ r0.2.2 r.2.2⟩
end
theorem eldB_rep {c0 c c' : RC} (h : Eld c0 c c') {p0 p : Pl} {x : Blk} (k0 : BlkAt c0 p0 x) (k : BlkAt c p x) : BlkAt c' p x := by
 cases x with
 | box cs =>
  obtain ⟨h1, ⟨⟨arr, t, h2, h3⟩, h4⟩⟩ := k
  exact ⟨h1, ⟨arr, t, by rw [h.w]; exact h2, h3⟩, eldC_rep h _ _ cs _ _ k0.2.2 h4⟩
 | arr g sz es =>
  obtain ⟨h1, h2, h3, h4, ⟨arr, t, h5, h6⟩, h7, h8⟩ := k
  obtain ⟨_, _, _, _, _, _, k8⟩ := k0
  exact ⟨h1, h2, h3, h4, ⟨arr, t, by rw [h.w]; exact h5, h6⟩, h7, eldE_rep h sz _ _ es _ _ k8 h8⟩
 | map es =>
  obtain ⟨h1, ents, clock, h2, h3⟩ := k
  obtain ⟨_, _, _, _, k3⟩ := k0
  exact ⟨h1, ents, clock, by rw [h.w]; exact h2, eldM_rep h es _ _ k3 h3⟩
theorem frz_all (h : Cold c c' σ n) : ∀ (d : Nat) (av av' : AV) (v : Value), A.frz σ n d av = some av' → Rep c av v → Rep c' av' v
 | 0 => frz_rep h 0 (fun av av' v ho e r => by cases av <;> first | (simp [A.frz] at e; done) | (simp [isOwn] at ho; done))
 | d + 1 => frz_rep h (d + 1) (fun av av' v ho e r => match av, ho, e, r with
  | .op id off, _, e, r => by
   simp only [A.frz] at e
   simp only [Rep] at r
   obtain ⟨p, h1, h2, rfl⟩ := r
   split at e
   ·rename_i hlt
    injection e with e; subst e
    simp only [Rep]
    exact ⟨p, h.E id p hlt h1, h2, rfl⟩
   ·rename_i hge
    split at e
    ·rename_i cs hs
     obtain ⟨cs', e1, rfl⟩ := Option.map_eq_some_iff.1 e
     rw [frzL_eq] at e1
     obtain ⟨j1, ⟨⟨arr, t, j2, j3⟩, j4⟩⟩ := h.heap.blk id p _ h1 hs
     simp only [Rep]
     refine ⟨p.b, off, rfl, by rw [h.w]; exact (Array.getElem?_eq_some_iff.1 j2).1, h.cold id p (by omega) h1, ?_⟩
     have j5 := j4.drop off
     rw [Nat.zero_add] at j5
     exact frzC_rep h d (fun av av' v _ e r => frz_all h d _ _ _ e r) p.b _ cs' _ e1 j5
    ·cases e
  | .oe id g i off, _, e, r => by
   simp only [A.frz] at e
   simp only [Rep] at r
   obtain ⟨hg, p, h1, h2, a, rfl, h3⟩ := r
   split at e
   ·rename_i hlt
    injection e with e; subst e
    simp only [Rep]
    exact ⟨hg, p, h.E id p hlt h1, h2, a, rfl, h3⟩
   ·rename_i hge
    split at e
    ·rename_i g' sz' es hs
     split at e
     ·rename_i hc
      subst hc
      split at e
      ·rename_i el hel
       obtain ⟨cs', e1, rfl⟩ := Option.map_eq_some_iff.1 e
       rw [frzL_eq] at e1
       obtain ⟨j1, j2, j3, j4, ⟨arr, bt, j5, j6⟩, j7, j8⟩ := h.heap.blk id p _ h1 hs
       have ha := h3 j1.symm
       subst ha
       simp only [Rep]
       refine ⟨p.b, _, rfl, by rw [h.w]; exact (Array.getElem?_eq_some_iff.1 j5).1, h.cold id p (by omega) h1, ?_⟩
       rw [j3]
       have j9 := (j8.nth hel).2.drop off
       exact frzC_rep h d (fun av av' v _ e r => frz_all h d _ _ _ e r) p.b _ cs' _ e1 j9
      ·cases e
     ·cases e
    ·cases e
  | .om id, _, e, r => by
   simp only [A.frz] at e
   simp only [Rep] at r
   obtain ⟨p, h1, h2, rfl⟩ := r
   split at e
   ·rename_i hlt
    injection e with e; subst e
    simp only [Rep]
    exact ⟨p, h.E id p hlt h1, h2, rfl⟩
   ·rename_i hge
    split at e
    ·rename_i es hs
     obtain ⟨es', e1, rfl⟩ := Option.map_eq_some_iff.1 e
     rw [frzM_eq] at e1
     obtain ⟨j1, ents, clock, j2, j3⟩ := h.heap.blk id p _ h1 hs
     simp only [Rep]
     exact ⟨p.b, rfl, by rw [h.w]; exact (Array.getElem?_eq_some_iff.1 j2).1, h.cold id p (by omega) h1, ents, clock, by rw [h.w]; exact j2, frzM_rep h d (fun av av' v _ e r => frz_all h d _ _ _ e r) _ es' _ e1 j3⟩
    ·cases e
  | .os id g sz off len, _, e, r => by
   simp only [A.frz] at e
   simp only [Rep] at r
   obtain ⟨hg, p, h1, h2, q, cap, rfl, h3, r⟩ := r
   split at e
   ·rename_i hlt
    injection e with e; subst e
    simp only [Rep]
    exact ⟨hg, p, h.E id p hlt h1, h2, q, cap, rfl, h3, r⟩
   ·rename_i hge
    split at e
    ·rename_i g' sz' es hs
     split at e
     ·rename_i hc
      obtain ⟨rfl, rfl, hle⟩ := hc
      obtain ⟨es', e1, rfl⟩ := Option.map_eq_some_iff.1 e
      rw [frzLL_eq] at e1
      obtain ⟨j1, j2, j3, j4, ⟨arr, bt, j5, j6⟩, j7, j8⟩ := h.heap.blk id p _ h1 hs
      obtain ⟨k1, k2, k3⟩ := r j1.symm
      have hl := frzLL_len d _ _ e1
      have hl2 : ((es.drop off).take len).length = len := by simp; omega
      simp only [Rep]
      refine ⟨some q, cap, by rw [hl, hl2], by rw [hl, hl2]; exact h3, j4, ?_⟩
      by_cases hz : len = 0
      ·left; apply List.eq_nil_of_length_eq_zero; rw [hl, hl2, hz]
      ·right
       have hq : q = ⟨p.b, p.base + off * p.sz, none⟩ := by
        rcases k2 with k2 | k2
        ·omega
        ·exact k2
       refine ⟨p.b, p.base + off * p.sz, by rw [hq], by rw [h.w]; exact (Array.getElem?_eq_some_iff.1 j5).1, h.cold id p (by omega) h1, ?_⟩
       refine frzE_rep h d (fun av av' v _ e r => frz_all h d _ _ _ e r) sz p.b _ es' _ e1 ?_
       rw [j3]
       exact (j8.drop off).take len
     ·cases e
    ·cases e)
end
section
variable {X : Fx}
/-- A function's run is what a call of it does. -/
theorem runA_sound (hs : Snd X) {f : FuncId} {fn : Func} {keep : Bool} {ann : Ann} {args : List AV} {σ σ' : Heap} {r : AV} (hf : X.P.funcs[f]? = some fn) (hcall : ∀ as w, (callFunc f as).run X.P w = .ok (.enter f as) w)
  (hr : runA X keep ann fn args σ = some (r, σ')) : ACalls X.P X.nm f args σ r σ' := by
 refine ⟨f, hcall, fun z vs hnm hlt hh ha => ?_⟩
 unfold runA at hr
 cases hb : fn.body with
 | none => rw [hb] at hr; cases hr
 | some c =>
  rw [hb] at hr
  simp only at hr
  cases hc : (Nat.ble args.length fn.ntmps && X.n == fn.ntmps)
  ·rw [hc] at hr; cases hr
  ·rw [hc] at hr
   simp only [Bool.not_true, cond_false] at hr
   simp only [Bool.and_eq_true, beq_iff_eq] at hc
   obtain ⟨hc1, hc2⟩ := hc
   have hle : args.length ≤ fn.ntmps := Nat.le_of_ble_eq_true hc1
   have hal := ha.length
   have hal' : args.length = vs.size := by simpa using hal
   have hst : St X z ⟨args ++ List.replicate (fn.ntmps - args.length) (.tup []), fun _ => none, σ⟩ { tmps := vs ++ Array.replicate (fn.ntmps - vs.size) undef, defers := [] } z.w z.E nopb := by
    have hslot : ∀ i av, (args ++ List.replicate (fn.ntmps - args.length) (.tup []))[i]? = some av → Rep (ctx z z.w z.E nopb) av ((vs ++ Array.replicate (fn.ntmps - vs.size) undef).getD i undef) := by
     intro i av hi
     by_cases hlt' : i < args.length
     ·rw [List.getElem?_append_left hlt'] at hi
      obtain ⟨v, k1, k2⟩ := ha.nth hi
      have : (vs ++ Array.replicate (fn.ntmps - vs.size) undef).getD i undef = v := by
       rw [Array.getD_eq_getD_getElem?, Array.getElem?_append_left (by omega), ← Array.getElem?_toList, k1]; rfl
      rw [this]; exact k2
     ·rw [List.getElem?_append_right (by omega)] at hi
      have hm := List.mem_of_getElem? hi
      rw [List.mem_replicate] at hm
      rw [hm.2]
      have : (vs ++ Array.replicate (fn.ntmps - vs.size) undef).getD i undef = undef := by
       rw [Array.getD_eq_getD_getElem?, Array.getElem?_append_right (by omega), Array.getElem?_replicate]
       split <;> rfl
      rw [this]
      simp only [Rep]; exact ⟨#[], rfl, by simp [RepL]⟩
    refine ⟨by simp; omega, by simp; omega, fun i av hi => Slot.of (hslot i av hi), fun i cs hi => ?_, (fun t p hp => by cases hp), (fun i b hb => by cases hb), (fun i j b hb => by cases hb), hh, rfl, ?_, hnm.symm⟩
    ·have := hslot i _ hi; simp [Rep] at this
    ·exact ⟨rfl, rfl, rfl, Nat.le_refl _, fun _ _ _ => rfl, fun i p hp => .inr ⟨p, hp, rfl⟩, fun i p hp => ⟨p, hp, .inl rfl⟩, hlt, fun p hp => hh.lt hp⟩
   refine calls_of_wp hf hb (exec_wp hs c ann _ _ _ _ _ _ _ _ hr hst fun e s' a' w' E' pb' h' _ hk => ?_)
   have hno : Ext (ctx z w' E' pb') (ctx z w' E' nopb) := Ext.same rfl rfl (fun b k => by
    rcases k with k | k | ⟨i, k⟩
    ·exact .inl k
    ·exact .inr (.inl k)
    ·cases k) rfl
   have done : ∀ (hk : resA X s' fn.results.toList (fun vs => bif keep then some (one vs, s'.σ) else A.fin σ (one vs) s'.σ) = some (r, σ')),
     a'.defers = [] ∧ ∃ v, (results fn a'.tmps).run X.P w' = .ok v w' ∧ ∃ v' E', Ending.returned v = .returned v' ∧ Out z w' E' ∧ HeapRel (ctx z w' E' nopb) σ' ∧ Rep (ctx z w' E' nopb) r v' := by
    intro hk
    refine ⟨h'.defers, ?_⟩
    obtain ⟨us, avs, k1, k2, k3⟩ := resA_run h' _ _ _ hk
    obtain ⟨v, k4, k5⟩ := results_run k1
    have rv := k5 _ _ k2
    refine ⟨v, k4, v, ?_⟩
    cases keep
    ·simp only [cond_false] at k3
     unfold A.fin at k3
     split at k3
     ·rename_i he
      simp only [Option.some.injEq, Prod.mk.injEq] at k3
      obtain ⟨rfl, rfl⟩ := k3
      exact ⟨E', rfl, h'.out, by rw [← he]; exact h'.heap.mono hno rfl (fun p hp => rfl), Rep.mono hno _ _ rv⟩
     ·split at k3
      ·rename_i he
       obtain ⟨r', k6, k7⟩ := Option.map_eq_some_iff.1 k3
       simp only [Prod.mk.injEq] at k7
       obtain ⟨rfl, rfl⟩ := k7
       have hlen := h'.heap.len
       simp only [ctx] at hlen
       have hzl : z.E.length = σ.length := hh.len
       have hle2 : σ.length ≤ s'.σ.length := by
        have := congrArg List.length he
        simp at this; omega
       have htk : ∀ (id : Nat) (p : Pl), id < σ.length → E'[id]? = some p → (E'.take σ.length)[id]? = some p := fun id p hlt' hp => by rw [List.getElem?_take_of_lt hlt']; exact hp
       have htk2 : ∀ (id : Nat) (p : Pl), (E'.take σ.length)[id]? = some p → id < σ.length ∧ E'[id]? = some p := fun id p hp => by
        rw [List.getElem?_take] at hp
        split at hp
        ·exact ⟨by assumption, hp⟩
        ·cases hp
       have hcold : Cold (ctx z w' E' pb') (ctx z w' (E'.take σ.length) nopb) s'.σ σ.length := by
        refine ⟨rfl, rfl, fun b k => ?_, htk, h'.heap, fun id p hge hp k => ?_⟩
        ·rcases k with k | ⟨p, hp, k⟩ | ⟨i, k⟩
         ·exact .inl k
         ·exact .inr (.inl ⟨p, List.mem_of_mem_take hp, k⟩)
         ·cases k
        ·rcases k with k | ⟨q, hq, k⟩ | ⟨i, k⟩
         ·have hb := hlt _ k
          rcases h'.out.fresh' id p hp with e | ⟨q, hq, _⟩
          ·omega
          ·rw [List.getElem?_eq_none (by omega)] at hq; cases hq
         ·obtain ⟨j, hj, rfl⟩ := List.mem_iff_getElem.1 hq
          obtain ⟨h1, h2⟩ := htk2 j _ (List.getElem?_eq_getElem hj)
          have := h'.heap.inj j id _ p h2 hp k
          omega
         ·cases k
       have heq : ∀ (id : Nat), id < σ.length → σ[id]? = s'.σ[id]? := fun id hlt' => by
        have h1 : (List.take σ.length s'.σ)[id]? = s'.σ[id]? := List.getElem?_take_of_lt hlt'
        rw [he] at h1; exact h1
       have held : Eld (ctx z z.w z.E nopb) (ctx z w' E' pb') (ctx z w' (E'.take σ.length) nopb) :=
        ⟨rfl, rfl, hcold.X, fun id p0 p e0 e1 => htk id p (by have := (List.getElem?_eq_some_iff.1 e0).1; simp only [ctx] at this; omega) e1⟩
       refine ⟨E'.take σ.length, rfl, ?_, ?_, frz_all hcold 8 _ _ _ k6 rv⟩
       ·have o := h'.out
        exact ⟨o.os, o.tape, o.output, o.size, o.stay, fun i p hp => o.fresh' i p (htk2 i p hp).2, fun i p hp => by
         obtain ⟨p', m1, m2⟩ := o.env i p hp
         exact ⟨p', htk i p' (by have := (List.getElem?_eq_some_iff.1 hp).1; omega) m1, m2⟩, o.lt, o.mine⟩
       ·refine ⟨by simp only [ctx, List.length_take]; omega, fun i j p q hp hq e => h'.heap.inj i j p q (htk2 i p hp).2 (htk2 j q hq).2 e, fun i p x hp hx => ?_⟩
        obtain ⟨hi, hp2⟩ := htk2 i p hp
        have hz0 : z.E[i]? = some z.E[i] := List.getElem?_eq_getElem (by omega)
        exact eldB_rep held (hh.blk i _ x hz0 hx) (h'.heap.blk i p x hp2 (by rw [← heq i hi]; exact hx))
      ·cases k3
    ·simp only [cond_true, Option.some.injEq, Prod.mk.injEq] at k3
     obtain ⟨rfl, rfl⟩ := k3
     exact ⟨E', rfl, h'.out, h'.heap.mono hno rfl (fun p hp => rfl), Rep.mono hno _ _ rv⟩
   cases e with
   | normal => exact done hk
   | ret => exact done hk
   | exit i => cases hk
end
end Go.Proofs.Ytohbeolimnpehaa

/- What holds of calls: results in one form, arguments that are lent, recursion. -/
namespace Go.Proofs.Ytohbeolimnpehaa
set_option linter.unusedSectionVars false
open Go.RowKit
set_option linter.unusedVariables false
set_option linter.unusedSimpArgs false

/-- Where a value holds slices: nil ones are taken as empty ones. -/
inductive Sh where
 | k
 | s (sz : Nat)
 | e (sz : Nat) (l : List Sh)
 | a (l : List Sh)
 | t (l : List Sh)
namespace A
set_option linter.unusedSectionVars false
mutual
def nn : Sh → AV → AV
 | .k, v => v
 | .s sz, v => match v with | .nsl => .sl sz [] | v => v
 | .e sz l, v => match v with | .nsl => .sl sz [] | .sl sz' es => .sl sz' (es.map (nnL l)) | v => v
 | .a l, v => match v with | .agg cs => .agg (nnL l cs) | v => v
 | .t l, v => match v with | .tup vs => .tup (nnL l vs) | v => v
def nnL : List Sh → List AV → List AV
 | [], vs => vs
 | s :: ss, vs => match vs with | [] => [] | v :: vs => nn s v :: nnL ss vs
end
/-- Is it, on its face, memory of the call's own? -/
def own1 : AV → Bool
 | .os .. => true
 | .op .. => true
 | .oe .. => true
 | .om .. => true
 | _ => false
def own : AV → Bool
 | .agg cs => cs.any own1
 | v => own1 v
/-- A value that holds no address. -/
def scal1 : AV → Bool
 | .int .. => true
 | .bool .. => true
 | .str .. => true
 | .np => true
 | .nsl => true
 | .nm => true
 | .nfn => true
 | .sl _ [] => true
 | _ => false
def scal2 : AV → Bool
 | .agg cs => cs.all scal1
 | v => scal1 v
def scal : AV → Bool
 | .tup vs => vs.all scal2
 | v => scal2 v
/-- A function, its slices in one form; 'ro': what it is handed is lent. -/
noncomputable def wrap (ro : Bool) (ain : List Sh) (rout : Sh) (r : List AV → Heap → Option (AV × Heap)) (args : List AV) (σ : Heap) : Option (AV × Heap) :=
 bif ro && args.any own then
  (frzL σ 0 8 args).bind fun args => (r (nnL ain args) []).bind fun q => match q.2 with | [] => bif scal (nn rout q.1) then some (nn rout q.1, σ) else none | _ => none
 else (r (nnL ain args) σ).map fun q => (nn rout q.1, q.2)
end A

def Sound (P : Program) (nm : List Nat) (f : FuncId) (m : List AV → Heap → Option (AV × Heap)) : Prop := ∀ args σ r σ', m args σ = some (r, σ') → ACalls P nm f args σ r σ'
section
variable {P : Program} {nm : List Nat} {f : FuncId} {c c' : RC}
theorem nsl_sl {v : Value} (sz : Nat) (hsz : 0 < sz) (h : Rep c .nsl v) : Rep c (.sl sz []) v := by
 simp only [Rep] at h ⊢
 subst h
 exact ⟨none, 0, rfl, Nat.le_refl _, hsz, .inl trivial⟩
mutual
def Sh.ok : Sh → Bool
 | .k => true
 | .s sz => Nat.blt 0 sz
 | .e sz l => Nat.blt 0 sz && Sh.okL l
 | .a l => Sh.okL l
 | .t l => Sh.okL l
def Sh.okL : List Sh → Bool
 | [] => true
 | x :: l => x.ok && Sh.okL l
end
theorem nnL_len : ∀ (l : List Sh) (cs : List AV), (A.nnL l cs).length = cs.length
 | [], cs => by simp [A.nnL]
 | _ :: _, [] => by simp [A.nnL]
 | o :: l, v :: cs => by simp [A.nnL, nnL_len l cs]
mutual
theorem nn_rep : ∀ (s : Sh) (a : AV) (v : Value), s.ok = true → Rep c a v → Rep c (A.nn s a) v
 | .k, a, v, _, h => by simpa [A.nn] using h
 | .s sz, a, v, ho, h => by
  cases a <;> simp only [A.nn] <;> first | exact h | exact nsl_sl sz (by simpa [Sh.ok] using ho) h
 | .e sz l, a, v, ho, h => by
  simp only [Sh.ok, Bool.and_eq_true] at ho
  cases a <;> simp only [A.nn] <;> first | exact h | exact nsl_sl sz (by simpa using ho.1) h | skip
  simp only [Rep] at h ⊢
  obtain ⟨a, cap, e, h1, h2, h3⟩ := h
  refine ⟨a, cap, by rw [List.length_map]; exact e, by rw [List.length_map]; exact h1, h2, ?_⟩
  rcases h3 with h3 | ⟨b, off, e1, e2, e3, e4⟩
  ·left; rw [h3]; rfl
  ·right; exact ⟨b, off, e1, e2, e3, nnL_es l ho.2 _ _ e4⟩
 | .a l, a, v, ho, h => by
  simp only [Sh.ok] at ho
  cases a <;> simp only [A.nn] <;> first | exact h | skip
  simp only [Rep] at h ⊢
  obtain ⟨vs, e, h1, h2⟩ := h
  exact ⟨vs, e, nnL_rep l _ _ ho h1, h2⟩
 | .t ss, a, v, ho, h => by
  simp only [Sh.ok] at ho
  cases a <;> simp only [A.nn] <;> first | exact h | skip
  simp only [Rep] at h ⊢
  obtain ⟨vs, e, h1⟩ := h
  exact ⟨vs, e, nnL_rep ss _ _ ho h1⟩
theorem nnL_rep : ∀ (ss : List Sh) (l : List AV) (vs : List Value), Sh.okL ss = true → RepL c l vs → RepL c (A.nnL ss l) vs
 | [], l, vs, _, h => by simpa [A.nnL] using h
 | _ :: _, [], vs, _, h => by simpa [A.nnL] using h
 | s :: ss, a :: l, vs, ho, h => by
  simp only [Sh.okL, Bool.and_eq_true] at ho
  simp only [A.nnL, RepL] at h ⊢
  obtain ⟨v, vs', e, h1, h2⟩ := h
  exact ⟨v, vs', e, nn_rep s a v ho.1 h1, nnL_rep ss l vs' ho.2 h2⟩
theorem nnL_cs {b : Nat} : ∀ (l : List Sh) (cs : List AV) (off : Nat), Sh.okL l = true → RepCs c b off cs → RepCs c b off (A.nnL l cs)
 | [], cs, off, _, h => by simpa [A.nnL] using h
 | _ :: _, [], off, _, h => by simpa [A.nnL] using h
 | o :: l, a :: cs, off, ho, h => by
  simp only [Sh.okL, Bool.and_eq_true] at ho
  simp only [A.nnL, RepCs] at h ⊢
  obtain ⟨⟨v, h1, h2, h3⟩, h4⟩ := h
  exact ⟨⟨v, h1, h2, nn_rep o a v ho.1 h3⟩, nnL_cs l cs (off + 1) ho.2 h4⟩
theorem nnL_es {sz b : Nat} (l : List Sh) (hl : Sh.okL l = true) : ∀ (es : List (List AV)) (off : Nat), RepEs c sz b off es → RepEs c sz b off (es.map (A.nnL l))
 | [], off, h => by simp [RepEs]
 | e :: es, off, h => by
  simp only [List.map_cons, RepEs] at h ⊢
  exact ⟨by rw [nnL_len]; exact h.1, nnL_cs l e off hl h.2.1, nnL_es l hl es _ h.2.2⟩
end
theorem scal1_rep : ∀ {a : AV} {v : Value}, A.scal1 a = true → Rep c a v → Rep c' a v := by
 intro a v h r
 cases a <;> simp only [A.scal1] at h <;> first | (cases h; done) | skip
 case sl sz es =>
  cases es with
  | nil =>
   simp only [Rep] at r ⊢
   obtain ⟨q, cap, e, h1, h2, _⟩ := r
   exact ⟨q, cap, e, h1, h2, .inl trivial⟩
  | cons _ _ => simp at h
 all_goals simpa [Rep] using r
theorem scal1L_rep : ∀ {l : List AV} {vs : List Value}, l.all A.scal1 = true → RepL c l vs → RepL c' l vs
 | [], vs, _, r => by simpa [RepL] using r
 | a :: l, vs, h, r => by
  simp only [List.all_cons, Bool.and_eq_true] at h
  simp only [RepL] at r ⊢
  obtain ⟨v, vs', e, h1, h2⟩ := r
  exact ⟨v, vs', e, scal1_rep h.1 h1, scal1L_rep h.2 h2⟩
theorem scal2_rep {a : AV} {v : Value} (h : A.scal2 a = true) (r : Rep c a v) : Rep c' a v := by
 unfold A.scal2 at h
 split at h
 ·simp only [Rep] at r ⊢
  obtain ⟨vs, e, h1, h2⟩ := r
  exact ⟨vs, e, scal1L_rep h h1, h2⟩
 ·exact scal1_rep h r
theorem scal2L_rep : ∀ {l : List AV} {vs : List Value}, l.all A.scal2 = true → RepL c l vs → RepL c' l vs
 | [], vs, _, r => by simpa [RepL] using r
 | a :: l, vs, h, r => by
  simp only [List.all_cons, Bool.and_eq_true] at h
  simp only [RepL] at r ⊢
  obtain ⟨v, vs', e, h1, h2⟩ := r
  exact ⟨v, vs', e, scal2_rep h.1 h1, scal2L_rep h.2 h2⟩
theorem scal_rep {a : AV} {v : Value} (h : A.scal a = true) (r : Rep c a v) : Rep c' a v := by
 unfold A.scal at h
 split at h
 ·simp only [Rep] at r ⊢
  obtain ⟨vs, e, h1⟩ := r
  exact ⟨vs, e, scal2L_rep h h1⟩
 ·exact scal2_rep h r
theorem ACalls.conv {args args' : List AV} {σ σ' : Heap} {r r' : AV} (h : ACalls P nm f args' σ r σ') (ha : ∀ c vs, RepL c args vs → RepL c args' vs) (hr : ∀ c v, Rep c r v → Rep c r' v) : ACalls P nm f args σ r' σ' := by
 obtain ⟨g, h1, h2⟩ := h
 refine ⟨g, h1, fun z vs e1 e2 e3 e4 => (h2 z vs e1 e2 e3 (ha _ _ e4)).mono ?_⟩
 rintro e w' ⟨v, E', k1, k2, k3, k4⟩
 exact ⟨v, E', k1, k2, k3, hr _ _ k4⟩
/-- Memory that is lent to a call. -/
theorem ACalls.lent {args args' : List AV} {σ : Heap} {r : AV} (h : ACalls P nm f args' [] r []) (ha : A.frzL σ 0 8 args = some args') (hr : A.scal r = true) : ACalls P nm f args σ r σ := by
 obtain ⟨g, h1, h2⟩ := h
 refine ⟨g, h1, fun z vs e1 e2 hh e4 => ?_⟩
 have hX : ∀ b, ¬ (ctx ⟨z.w, [], fun _ => False, z.nm⟩ z.w [] nopb).X b := by
  rintro b (k | ⟨p, hp, _⟩ | ⟨i, k⟩)
  ·exact k.elim
  ·cases hp
  ·cases k
 have hcold : Cold (ctx z z.w z.E nopb) (ctx ⟨z.w, [], fun _ => False, z.nm⟩ z.w [] nopb) σ 0 :=
  ⟨rfl, rfl, fun b k => (hX b k).elim, fun id p k => absurd k (Nat.not_lt_zero _), hh, fun id p _ _ => hX _⟩
 have h0 : HeapRel (ctx ⟨z.w, [], fun _ => False, z.nm⟩ z.w [] nopb) [] := by
  refine ⟨rfl, fun i j p q hp => ?_, fun i p x hp => ?_⟩
  ·simp [ctx] at hp
  ·simp [ctx] at hp
 have ha' : RepL (ctx ⟨z.w, [], fun _ => False, z.nm⟩ z.w [] nopb) args' vs.toList := frzL_rep hcold 8 (fun av av' v _ e r => frz_all hcold 8 _ _ _ e r) _ _ _ ha e4
 refine (h2 ⟨z.w, [], fun _ => False, z.nm⟩ vs e1 (fun b k => k.elim) h0 ha').mono ?_
 rintro e w' ⟨v, E', k1, k2, k3, k4⟩
 have hE : E' = [] := List.eq_nil_of_length_eq_zero (by have := k3.len; simpa [ctx] using this)
 subst hE
 have hst : ∀ b, b < z.w.heap.size → w'.heap[b]? = z.w.heap[b]? := fun b hb => k2.stay b hb (fun p hp => by cases hp)
 have hlt : ∀ p ∈ z.E, p.b < z.w.heap.size := fun p hp => hh.lt hp
 have hx : Ext (ctx z z.w z.E nopb) (ctx z w' z.E nopb) := ⟨k2.size, fun b hb hn => ⟨hst b hb, hn⟩, fun i p hp => ⟨p, hp, .inl rfl⟩, rfl⟩
 refine ⟨v, z.E, k1, ⟨k2.os, k2.tape, k2.output, k2.size, fun b hb _ => hst b hb, fun i p hp => .inr ⟨p, hp, rfl⟩, fun i p hp => ⟨p, hp, .inl rfl⟩, e2, hlt⟩, hh.mono hx rfl (fun p hp => hst _ (hlt p hp)), scal_rep hr k4⟩
theorem Sound.wrap {r : List AV → Heap → Option (AV × Heap)} (h : Sound P nm f r) (ro : Bool) (ain : List Sh) (rout : Sh) (hi : Sh.okL ain = true) (ho : rout.ok = true) : Sound P nm f (A.wrap ro ain rout r) := by
 intro args σ v σ' e
 unfold A.wrap at e
 cases hc : (ro && args.any A.own)
 ·rw [hc] at e
  simp only [cond_false] at e
  obtain ⟨q, e1, e2⟩ := Option.map_eq_some_iff.1 e
  injection e2 with e2 e3
  subst e2 e3
  exact (h _ _ _ _ e1).conv (fun c vs k => nnL_rep _ _ _ hi k) (fun c v k => nn_rep _ _ _ ho k)
 ·rw [hc] at e
  simp only [cond_true] at e
  obtain ⟨args', e1, e2⟩ := Option.bind_eq_some_iff.1 e
  obtain ⟨q, e3, e4⟩ := Option.bind_eq_some_iff.1 e2
  obtain ⟨q1, q2⟩ := q
  cases q2 with
  | cons _ _ => simp at e4
  | nil =>
   simp only at e4
   cases hs : A.scal (A.nn rout q1)
   ·rw [hs] at e4; cases e4
   ·rw [hs] at e4
    simp only [cond_true, Option.some.injEq, Prod.mk.injEq] at e4
    obtain ⟨rfl, rfl⟩ := e4
    exact ((h _ _ _ _ e3).conv (args := args') (fun c vs k => nnL_rep _ _ _ hi k) (fun c v k => nn_rep _ _ _ ho k)).lent e1 hs
end
/-- The facts on what a function's code calls. -/
theorem Snd.of {X : Fx} {t : List (FuncId × (List AV → Heap → Option (AV × Heap)))} (hc : X.call = A.tab (fun _ _ => none) t) (ht : ∀ p ∈ t, Sound X.P X.nm p.1 p.2) (hd : ∀ f, Sound X.P X.nm f (X.dyn (X.nm.getD f 0))) : Snd X := by
 refine ⟨fun f args σ r σ' h => ?_, fun f => hd f⟩
 rw [hc] at h
 clear hc
 induction t with
 | nil => cases h
 | cons p t ih =>
  obtain ⟨m, x⟩ := p
  simp only [A.tab] at h
  cases hm : (f == m)
  ·rw [hm] at h; exact ih (fun p hp => ht p (List.mem_cons_of_mem _ hp)) h
  ·rw [hm] at h
   have : f = m := by simpa using hm
   subst this
   exact ht (f, x) (List.mem_cons_self) _ _ _ _ h
theorem Sound.none {P : Program} {nm : List Nat} {f : FuncId} : Sound P nm f (fun _ _ => Option.none) := fun _ _ _ _ h => by cases h
theorem All.nil {P : Program} {nm : List Nat} : ∀ p ∈ ([] : List (FuncId × (List AV → Heap → Option (AV × Heap)))), Sound P nm p.1 p.2 := fun _ h => by cases h
theorem All.cons {P : Program} {nm : List Nat} {f : FuncId} {m : List AV → Heap → Option (AV × Heap)} {l : List (FuncId × (List AV → Heap → Option (AV × Heap)))} (h : Sound P nm f m) (t : ∀ p ∈ l, Sound P nm p.1 p.2) : ∀ p ∈ (f, m) :: l, Sound P nm p.1 p.2 :=
 fun p hp => by rcases List.mem_cons.1 hp with rfl | hp; exact h; exact t p hp
theorem DAll.nil {P : Program} {nm : List Nat} : ∀ p ∈ ([] : List (Nat × (List AV → Heap → Option (AV × Heap)))), ∀ f, nm.getD f 0 = p.1 → Sound P nm f p.2 := fun _ h => by cases h
theorem DAll.cons {P : Program} {nm : List Nat} {k : Nat} {m : List AV → Heap → Option (AV × Heap)} {l : List (Nat × (List AV → Heap → Option (AV × Heap)))} (h : ∀ f, nm.getD f 0 = k → Sound P nm f m) (t : ∀ p ∈ l, ∀ f, nm.getD f 0 = p.1 → Sound P nm f p.2) : ∀ p ∈ (k, m) :: l, ∀ f, nm.getD f 0 = p.1 → Sound P nm f p.2 :=
 fun p hp => by rcases List.mem_cons.1 hp with rfl | hp; exact h; exact t p hp
/-- A table of closures: number k is the function g. -/
theorem dyn_of {P : Program} {nm : List Nat} {t : List (Nat × (List AV → Heap → Option (AV × Heap)))} (ht : ∀ p ∈ t, ∀ f, nm.getD f 0 = p.1 → Sound P nm f p.2) (f : FuncId) : Sound P nm f (A.tab (fun _ _ => Option.none) t (nm.getD f 0)) := by
 induction t with
 | nil => exact Sound.none
 | cons p t ih =>
  obtain ⟨k, x⟩ := p
  simp only [A.tab]
  cases hm : (nm.getD f 0 == k)
  ·exact ih (fun p hp => ht p (List.mem_cons_of_mem _ hp))
  ·exact ht (k, x) List.mem_cons_self f (by simpa using hm)
theorem nm_one {nm : List Nat} {k g : Nat} (h : (nm.zipIdx.filter fun p => p.1 == k) = [(k, g)]) (hk : (0 == k) = false) {f : Nat} (hf : nm.getD f 0 = k) : f = g := by
 have hlt : f < nm.length := by
  rcases Nat.lt_or_ge f nm.length with e | e
  ·exact e
  ·simp only [List.getD, List.getElem?_eq_none e, Option.getD_none] at hf; subst hf; simp at hk
 have : (k, f) ∈ nm.zipIdx.filter fun p => p.1 == k := by
  refine List.mem_filter.2 ⟨List.mem_iff_getElem?.2 ⟨f, ?_⟩, by simp⟩
  simp only [List.getD] at hf
  rw [List.getElem?_eq_getElem hlt] at hf
  simp [List.getElem?_eq_getElem hlt, ← hf]
 rw [h] at this
 simpa using this
theorem nm_sound {P : Program} {nm : List Nat} {k g : Nat} {m : List AV → Heap → Option (AV × Heap)} (hs : Sound P nm g m) (h : (nm.zipIdx.filter fun p => p.1 == k) = [(k, g)]) (hk : (0 == k) = false) : ∀ f, nm.getD f 0 = k → Sound P nm f m :=
 fun f hf => by have e := nm_one h hk hf; subst e; exact hs
/-- Recursion, to a depth. -/
def fuel (F : (Nat → List AV → Heap → Option (AV × Heap)) → List (Nat × (List AV → Heap → Option (AV × Heap)))) : Nat → Nat → List AV → Heap → Option (AV × Heap)
 | 0, _ => fun _ _ => none
 | n + 1, k => A.tab (fun _ _ => none) (F (fuel F n)) k
/-! Functions of so many arguments. -/
namespace A
set_option linter.unusedSectionVars false
def ar1 (f : AV → Heap → Option (AV × Heap)) : List AV → Heap → Option (AV × Heap)
 | [x0], σ => f x0 σ
 | _, _ => none
def ar2 (f : AV → AV → Heap → Option (AV × Heap)) : List AV → Heap → Option (AV × Heap)
 | [x0, x1], σ => f x0 x1 σ
 | _, _ => none
def ar3 (f : AV → AV → AV → Heap → Option (AV × Heap)) : List AV → Heap → Option (AV × Heap)
 | [x0, x1, x2], σ => f x0 x1 x2 σ
 | _, _ => none
def ar5 (f : AV → AV → AV → AV → AV → Heap → Option (AV × Heap)) : List AV → Heap → Option (AV × Heap)
 | [x0, x1, x2, x3, x4], σ => f x0 x1 x2 x3 x4 σ
 | _, _ => none
end A
section
variable {X : Fx} {f : FuncId} {fn : Func} {ann : Ann}
theorem Sound.run1 {m : AV → Heap → Option (AV × Heap)} (keep : Bool) (hs : Snd X) (hf : X.P.funcs[f]? = some fn) (hc : ∀ as w, (callFunc f as).run X.P w = .ok (.enter f as) w) (he : ∀ (x0 : AV) (σ : Heap), runA X keep ann fn [x0] σ = m x0 σ) : Sound X.P X.nm f (A.ar1 m) := by
 intro args σ r σ' h
 unfold A.ar1 at h
 split at h
 ·exact runA_sound hs hf hc ((he _ _).trans h)
 ·cases h
theorem Sound.run2 {m : AV → AV → Heap → Option (AV × Heap)} (keep : Bool) (hs : Snd X) (hf : X.P.funcs[f]? = some fn) (hc : ∀ as w, (callFunc f as).run X.P w = .ok (.enter f as) w) (he : ∀ (x0 x1 : AV) (σ : Heap), runA X keep ann fn [x0, x1] σ = m x0 x1 σ) : Sound X.P X.nm f (A.ar2 m) := by
 intro args σ r σ' h
 unfold A.ar2 at h
 split at h
 ·exact runA_sound hs hf hc ((he _ _ _).trans h)
 ·cases h
theorem Sound.run3 {m : AV → AV → AV → Heap → Option (AV × Heap)} (keep : Bool) (hs : Snd X) (hf : X.P.funcs[f]? = some fn) (hc : ∀ as w, (callFunc f as).run X.P w = .ok (.enter f as) w) (he : ∀ (x0 x1 x2 : AV) (σ : Heap), runA X keep ann fn [x0, x1, x2] σ = m x0 x1 x2 σ) : Sound X.P X.nm f (A.ar3 m) := by
 intro args σ r σ' h
 unfold A.ar3 at h
 split at h
 ·exact runA_sound hs hf hc ((he _ _ _ _).trans h)
 ·cases h
theorem Sound.run5 {m : AV → AV → AV → AV → AV → Heap → Option (AV × Heap)} (keep : Bool) (hs : Snd X) (hf : X.P.funcs[f]? = some fn) (hc : ∀ as w, (callFunc f as).run X.P w = .ok (.enter f as) w) (he : ∀ (x0 x1 x2 x3 x4 : AV) (σ : Heap), runA X keep ann fn [x0, x1, x2, x3, x4] σ = m x0 x1 x2 x3 x4 σ) : Sound X.P X.nm f (A.ar5 m) := by
 intro args σ r σ' h
 unfold A.ar5 at h
 split at h
 ·exact runA_sound hs hf hc ((he _ _ _ _ _ _).trans h)
 ·cases h
end
end Go.Proofs.Ytohbeolimnpehaa

/- api's types as Lean structures; their cells as abstract values. Written by a program. -/
namespace Go.Proofs.Ytohbeolimnpehaa
set_option linter.unusedSectionVars false
set_option linter.unusedVariables false
set_option linter.unusedSimpArgs false
abbrev inI (n : Int) : Prop := -9223372036854775808 ≤ n ∧ n ≤ 9223372036854775807
/-- The greatest length. -/
abbrev mxl : Nat := 9223372036854775807
/-- Is it among these? -/
def memB {κ : Type} [DecidableEq κ] (k : κ) (S : List κ) : Bool := S.any fun x => decide (x = k)
theorem memB_iff {κ : Type} [DecidableEq κ] {k : κ} {S : List κ} : memB k S = true ↔ k ∈ S := by
 simp only [memB, List.any_eq_true, decide_eq_true_eq]
 exact ⟨fun ⟨x, h, e⟩ => e ▸ h, fun h => ⟨k, h, rfl⟩⟩
theorem memB_false {κ : Type} [DecidableEq κ] {k : κ} {S : List κ} : memB k S = false ↔ k ∉ S := by
 rw [← memB_iff]; simp
def cInt (n : Int) : List AV := [.int .i64 n]
def cStr (s : ByteArray) : List AV := [.str s]
/-- A slice as a value. -/
def sl {α : Type} (sz : Nat) (c : α → List AV) (l : List α) : AV := .sl sz (l.map c)
def okL {α : Type} (p : α → Prop) (l : List α) : Prop := l.length ≤ mxl ∧ ∀ x ∈ l, p x
def okS (s : ByteArray) : Prop := s.size ≤ mxl
theorem p1_cInt (n : Int) : A.part1 0 (cInt n) = some (.int .i64 n) := rfl
theorem p1_cStr (s : ByteArray) : A.part1 0 (cStr s) = some (.str s) := rfl

structure PointD where
 time : Int
 way : Int
deriving DecidableEq
def cPoint (x : PointD) : List AV := [.int .i64 x.time, .int .i64 x.way]
theorem cPoint_len (x : PointD) : (cPoint x).length = 2 := rfl
def okPoint (x : PointD) : Prop := inI x.time ∧ inI x.way
theorem p1_cPoint_0 (x : PointD) : A.part1 0 (cPoint x) = some (.int .i64 x.time) := rfl
theorem p1_cPoint_1 (x : PointD) : A.part1 1 (cPoint x) = some (.int .i64 x.way) := rfl
theorem pA_cPoint (x : PointD) : A.partA 0 2 (cPoint x) = some (.agg (cPoint x)) := rfl
theorem ce_cPoint (x : PointD) : A.cells 2 (.agg (cPoint x)) = some (cPoint x) := rfl
theorem sp_cPoint (x : PointD) (l : List AV) (h : l.length = 2) : A.splice 0 (cPoint x) l = some (cPoint x) := by
 simp [A.splice, cPoint_len, h]
structure CurveD where
 kind : Int
 points : (List PointD)
def cCurve (x : CurveD) : List AV := [.int .i64 x.kind, sl 2 cPoint x.points]
theorem cCurve_len (x : CurveD) : (cCurve x).length = 2 := rfl
def okCurve (x : CurveD) : Prop := inI x.kind ∧ (okL okPoint) x.points
theorem p1_cCurve_0 (x : CurveD) : A.part1 0 (cCurve x) = some (.int .i64 x.kind) := rfl
theorem p1_cCurve_1 (x : CurveD) : A.part1 1 (cCurve x) = some (sl 2 cPoint x.points) := rfl
theorem pA_cCurve (x : CurveD) : A.partA 0 2 (cCurve x) = some (.agg (cCurve x)) := rfl
theorem ce_cCurve (x : CurveD) : A.cells 2 (.agg (cCurve x)) = some (cCurve x) := rfl
theorem sp_cCurve (x : CurveD) (l : List AV) (h : l.length = 2) : A.splice 0 (cCurve x) l = some (cCurve x) := by
 simp [A.splice, cCurve_len, h]
structure FadeD where
 frm : Int
 to : Int
 start : Int
 delay : Int
 time : Int
 curve : CurveD
structure ChangeD where
 time : Int
 level : Int
deriving DecidableEq
structure RangeD where
 low : Int
 high : Int
 name : ByteArray
deriving DecidableEq
def cRange (x : RangeD) : List AV := [.int .i64 x.low, .int .i64 x.high, .str x.name]
theorem cRange_len (x : RangeD) : (cRange x).length = 3 := rfl
def okRange (x : RangeD) : Prop := inI x.low ∧ inI x.high ∧ okS x.name
theorem p1_cRange_0 (x : RangeD) : A.part1 0 (cRange x) = some (.int .i64 x.low) := rfl
theorem p1_cRange_1 (x : RangeD) : A.part1 1 (cRange x) = some (.int .i64 x.high) := rfl
theorem p1_cRange_2 (x : RangeD) : A.part1 2 (cRange x) = some (.str x.name) := rfl
theorem pA_cRange (x : RangeD) : A.partA 0 3 (cRange x) = some (.agg (cRange x)) := rfl
theorem ce_cRange (x : RangeD) : A.cells 3 (.agg (cRange x)) = some (cRange x) := rfl
theorem sp_cRange (x : RangeD) (l : List AV) (h : l.length = 3) : A.splice 0 (cRange x) l = some (cRange x) := by
 simp [A.splice, cRange_len, h]
structure ParamD where
 name : ByteArray
 group : Int
 att : Int
 fine : Int
 default : Int
 snap : Bool
 ranges : (List RangeD)
def cParam (x : ParamD) : List AV := [.str x.name, .int .i64 x.group, .int .i64 x.att, .int .i64 x.fine, .int .i64 x.default, .bool x.snap, sl 3 cRange x.ranges]
theorem cParam_len (x : ParamD) : (cParam x).length = 7 := rfl
def okParam (x : ParamD) : Prop := okS x.name ∧ inI x.group ∧ inI x.att ∧ inI x.fine ∧ inI x.default ∧ (okL okRange) x.ranges
theorem p1_cParam_0 (x : ParamD) : A.part1 0 (cParam x) = some (.str x.name) := rfl
theorem p1_cParam_1 (x : ParamD) : A.part1 1 (cParam x) = some (.int .i64 x.group) := rfl
theorem p1_cParam_2 (x : ParamD) : A.part1 2 (cParam x) = some (.int .i64 x.att) := rfl
theorem p1_cParam_3 (x : ParamD) : A.part1 3 (cParam x) = some (.int .i64 x.fine) := rfl
theorem p1_cParam_4 (x : ParamD) : A.part1 4 (cParam x) = some (.int .i64 x.default) := rfl
theorem p1_cParam_5 (x : ParamD) : A.part1 5 (cParam x) = some (.bool x.snap) := rfl
theorem p1_cParam_6 (x : ParamD) : A.part1 6 (cParam x) = some (sl 3 cRange x.ranges) := rfl
theorem pA_cParam (x : ParamD) : A.partA 0 7 (cParam x) = some (.agg (cParam x)) := rfl
theorem ce_cParam (x : ParamD) : A.cells 7 (.agg (cParam x)) = some (cParam x) := rfl
theorem sp_cParam (x : ParamD) (l : List AV) (h : l.length = 7) : A.splice 0 (cParam x) l = some (cParam x) := by
 simp [A.splice, cParam_len, h]
structure ProfileD where
 name : ByteArray
 size : Int
 params : (List ParamD)
def cProfile (x : ProfileD) : List AV := [.str x.name, .int .i64 x.size, sl 7 cParam x.params]
theorem cProfile_len (x : ProfileD) : (cProfile x).length = 3 := rfl
def okProfile (x : ProfileD) : Prop := okS x.name ∧ inI x.size ∧ (okL okParam) x.params
theorem p1_cProfile_0 (x : ProfileD) : A.part1 0 (cProfile x) = some (.str x.name) := rfl
theorem p1_cProfile_1 (x : ProfileD) : A.part1 1 (cProfile x) = some (.int .i64 x.size) := rfl
theorem p1_cProfile_2 (x : ProfileD) : A.part1 2 (cProfile x) = some (sl 7 cParam x.params) := rfl
theorem pA_cProfile (x : ProfileD) : A.partA 0 3 (cProfile x) = some (.agg (cProfile x)) := rfl
theorem ce_cProfile (x : ProfileD) : A.cells 3 (.agg (cProfile x)) = some (cProfile x) := rfl
theorem sp_cProfile (x : ProfileD) (l : List AV) (h : l.length = 3) : A.splice 0 (cProfile x) l = some (cProfile x) := by
 simp [A.splice, cProfile_len, h]
structure UnitD where
 number : Int
 profile : ByteArray
 univ : Int
 address : Int
deriving DecidableEq
def cUnit (x : UnitD) : List AV := [.int .i64 x.number, .str x.profile, .int .i64 x.univ, .int .i64 x.address]
theorem cUnit_len (x : UnitD) : (cUnit x).length = 4 := rfl
def okUnit (x : UnitD) : Prop := inI x.number ∧ okS x.profile ∧ inI x.univ ∧ inI x.address
theorem p1_cUnit_0 (x : UnitD) : A.part1 0 (cUnit x) = some (.int .i64 x.number) := rfl
theorem p1_cUnit_1 (x : UnitD) : A.part1 1 (cUnit x) = some (.str x.profile) := rfl
theorem p1_cUnit_2 (x : UnitD) : A.part1 2 (cUnit x) = some (.int .i64 x.univ) := rfl
theorem p1_cUnit_3 (x : UnitD) : A.part1 3 (cUnit x) = some (.int .i64 x.address) := rfl
theorem pA_cUnit (x : UnitD) : A.partA 0 4 (cUnit x) = some (.agg (cUnit x)) := rfl
theorem ce_cUnit (x : UnitD) : A.cells 4 (.agg (cUnit x)) = some (cUnit x) := rfl
theorem sp_cUnit (x : UnitD) (l : List AV) (h : l.length = 4) : A.splice 0 (cUnit x) l = some (cUnit x) := by
 simp [A.splice, cUnit_len, h]
structure RigD where
 library : (List ProfileD)
 units : (List UnitD)
def cRig (x : RigD) : List AV := [sl 3 cProfile x.library, sl 4 cUnit x.units]
theorem cRig_len (x : RigD) : (cRig x).length = 2 := rfl
def okRig (x : RigD) : Prop := (okL okProfile) x.library ∧ (okL okUnit) x.units
theorem p1_cRig_0 (x : RigD) : A.part1 0 (cRig x) = some (sl 3 cProfile x.library) := rfl
theorem p1_cRig_1 (x : RigD) : A.part1 1 (cRig x) = some (sl 4 cUnit x.units) := rfl
theorem pA_cRig (x : RigD) : A.partA 0 2 (cRig x) = some (.agg (cRig x)) := rfl
theorem ce_cRig (x : RigD) : A.cells 2 (.agg (cRig x)) = some (cRig x) := rfl
theorem sp_cRig (x : RigD) (l : List AV) (h : l.length = 2) : A.splice 0 (cRig x) l = some (cRig x) := by
 simp [A.splice, cRig_len, h]
structure KeyD where
 unit : Int
 param : ByteArray
deriving DecidableEq
def cKey (x : KeyD) : List AV := [.int .i64 x.unit, .str x.param]
theorem cKey_len (x : KeyD) : (cKey x).length = 2 := rfl
def okKey (x : KeyD) : Prop := inI x.unit ∧ okS x.param
theorem p1_cKey_0 (x : KeyD) : A.part1 0 (cKey x) = some (.int .i64 x.unit) := rfl
theorem p1_cKey_1 (x : KeyD) : A.part1 1 (cKey x) = some (.str x.param) := rfl
theorem pA_cKey (x : KeyD) : A.partA 0 2 (cKey x) = some (.agg (cKey x)) := rfl
theorem ce_cKey (x : KeyD) : A.cells 2 (.agg (cKey x)) = some (cKey x) := rfl
theorem sp_cKey (x : KeyD) (l : List AV) (h : l.length = 2) : A.splice 0 (cKey x) l = some (cKey x) := by
 simp [A.splice, cKey_len, h]
structure SettingD where
 key : KeyD
 level : Int
deriving DecidableEq
def cSetting (x : SettingD) : List AV := [.int .i64 x.key.unit, .str x.key.param, .int .i64 x.level]
theorem cSetting_len (x : SettingD) : (cSetting x).length = 3 := rfl
def okSetting (x : SettingD) : Prop := okKey x.key ∧ inI x.level
theorem sp_cSetting (x : SettingD) (l : List AV) (h : l.length = 3) : A.splice 0 (cSetting x) l = some (cSetting x) := by
 simp [A.splice, cSetting_len, h]
structure PresetD where
 number : Int
 title : ByteArray
 settings : (List SettingD)
def cPreset (x : PresetD) : List AV := [.int .i64 x.number, .str x.title, sl 3 cSetting x.settings]
theorem cPreset_len (x : PresetD) : (cPreset x).length = 3 := rfl
def okPreset (x : PresetD) : Prop := inI x.number ∧ okS x.title ∧ (okL okSetting) x.settings
theorem sp_cPreset (x : PresetD) (l : List AV) (h : l.length = 3) : A.splice 0 (cPreset x) l = some (cPreset x) := by
 simp [A.splice, cPreset_len, h]
structure FanD where
 corners : (List Int)
 block : Int
 wings : Int
structure ValueD where
 level : Int
 preset : Int
deriving DecidableEq
def cValue (x : ValueD) : List AV := [.int .i64 x.level, .int .i64 x.preset]
def okValue (x : ValueD) : Prop := inI x.level ∧ inI x.preset
structure MoveD where
 key : KeyD
 value : ValueD
 release : Bool
 timed : Bool
 delay : Int
 time : Int
deriving DecidableEq
def cMove (x : MoveD) : List AV := [.int .i64 x.key.unit, .str x.key.param, .int .i64 x.value.level, .int .i64 x.value.preset, .bool x.release, .bool x.timed, .int .i64 x.delay, .int .i64 x.time]
theorem cMove_len (x : MoveD) : (cMove x).length = 8 := rfl
def okMove (x : MoveD) : Prop := okKey x.key ∧ okValue x.value ∧ inI x.delay ∧ inI x.time
theorem sp_cMove (x : MoveD) (l : List AV) (h : l.length = 8) : A.splice 0 (cMove x) l = some (cMove x) := by
 simp [A.splice, cMove_len, h]
structure CueD where
 number : Int
 title : ByteArray
 delay : Int
 up : Int
 down : Int
 other : Int
 curve : CurveD
 block : Bool
 follow : Int
 moves : (List MoveD)
def cCue (x : CueD) : List AV := [.int .i64 x.number, .str x.title, .int .i64 x.delay, .int .i64 x.up, .int .i64 x.down, .int .i64 x.other, .int .i64 x.curve.kind, sl 2 cPoint x.curve.points, .bool x.block, .int .i64 x.follow, sl 8 cMove x.moves]
theorem cCue_len (x : CueD) : (cCue x).length = 11 := rfl
def okCue (x : CueD) : Prop := inI x.number ∧ okS x.title ∧ inI x.delay ∧ inI x.up ∧ inI x.down ∧ inI x.other ∧ okCurve x.curve ∧ inI x.follow ∧ (okL okMove) x.moves
theorem p1_cCue_0 (x : CueD) : A.part1 0 (cCue x) = some (.int .i64 x.number) := rfl
theorem p1_cCue_1 (x : CueD) : A.part1 1 (cCue x) = some (.str x.title) := rfl
theorem p1_cCue_2 (x : CueD) : A.part1 2 (cCue x) = some (.int .i64 x.delay) := rfl
theorem p1_cCue_3 (x : CueD) : A.part1 3 (cCue x) = some (.int .i64 x.up) := rfl
theorem p1_cCue_4 (x : CueD) : A.part1 4 (cCue x) = some (.int .i64 x.down) := rfl
theorem p1_cCue_5 (x : CueD) : A.part1 5 (cCue x) = some (.int .i64 x.other) := rfl
theorem p1_cCue_6 (x : CueD) : A.part1 6 (cCue x) = some (.int .i64 x.curve.kind) := rfl
theorem p1_cCue_7 (x : CueD) : A.part1 7 (cCue x) = some (sl 2 cPoint x.curve.points) := rfl
theorem p1_cCue_8 (x : CueD) : A.part1 8 (cCue x) = some (.bool x.block) := rfl
theorem p1_cCue_9 (x : CueD) : A.part1 9 (cCue x) = some (.int .i64 x.follow) := rfl
theorem p1_cCue_10 (x : CueD) : A.part1 10 (cCue x) = some (sl 8 cMove x.moves) := rfl
theorem pA_cCue_curve (x : CueD) : A.partA 6 2 (cCue x) = some (.agg (cCurve x.curve)) := rfl
theorem pA_cCue (x : CueD) : A.partA 0 11 (cCue x) = some (.agg (cCue x)) := rfl
theorem ce_cCue (x : CueD) : A.cells 11 (.agg (cCue x)) = some (cCue x) := rfl
theorem sp_cCue (x : CueD) (l : List AV) (h : l.length = 11) : A.splice 0 (cCue x) l = some (cCue x) := by
 simp [A.splice, cCue_len, h]
structure EntryD where
 key : KeyD
 value : ValueD
 cue : Int
deriving DecidableEq
structure MarkD where
 unit : Int
 frm : Int
 to : Int
deriving DecidableEq
structure ListD where
 number : Int
 cues : (List CueD)
def cList (x : ListD) : List AV := [.int .i64 x.number, sl 11 cCue x.cues]
theorem cList_len (x : ListD) : (cList x).length = 2 := rfl
def okList (x : ListD) : Prop := inI x.number ∧ (okL okCue) x.cues
theorem p1_cList_0 (x : ListD) : A.part1 0 (cList x) = some (.int .i64 x.number) := rfl
theorem p1_cList_1 (x : ListD) : A.part1 1 (cList x) = some (sl 11 cCue x.cues) := rfl
theorem pA_cList (x : ListD) : A.partA 0 2 (cList x) = some (.agg (cList x)) := rfl
theorem ce_cList (x : ListD) : A.cells 2 (.agg (cList x)) = some (cList x) := rfl
theorem sp_cList (x : ListD) (l : List AV) (h : l.length = 2) : A.splice 0 (cList x) l = some (cList x) := by
 simp [A.splice, cList_len, h]
structure PlaybackD where
 number : Int
 list : Int
 priority : Int
deriving DecidableEq
def cPlayback (x : PlaybackD) : List AV := [.int .i64 x.number, .int .i64 x.list, .int .i64 x.priority]
theorem cPlayback_len (x : PlaybackD) : (cPlayback x).length = 3 := rfl
def okPlayback (x : PlaybackD) : Prop := inI x.number ∧ inI x.list ∧ inI x.priority
theorem p1_cPlayback_0 (x : PlaybackD) : A.part1 0 (cPlayback x) = some (.int .i64 x.number) := rfl
theorem p1_cPlayback_1 (x : PlaybackD) : A.part1 1 (cPlayback x) = some (.int .i64 x.list) := rfl
theorem p1_cPlayback_2 (x : PlaybackD) : A.part1 2 (cPlayback x) = some (.int .i64 x.priority) := rfl
theorem pA_cPlayback (x : PlaybackD) : A.partA 0 3 (cPlayback x) = some (.agg (cPlayback x)) := rfl
theorem ce_cPlayback (x : PlaybackD) : A.cells 3 (.agg (cPlayback x)) = some (cPlayback x) := rfl
theorem sp_cPlayback (x : PlaybackD) (l : List AV) (h : l.length = 3) : A.splice 0 (cPlayback x) l = some (cPlayback x) := by
 simp [A.splice, cPlayback_len, h]
structure SetupD where
 rig : RigD
 presets : (List PresetD)
 lists : (List ListD)
 playbacks : (List PlaybackD)
def cSetup (x : SetupD) : List AV := [sl 3 cProfile x.rig.library, sl 4 cUnit x.rig.units, sl 3 cPreset x.presets, sl 2 cList x.lists, sl 3 cPlayback x.playbacks]
def okSetup (x : SetupD) : Prop := okRig x.rig ∧ (okL okPreset) x.presets ∧ (okL okList) x.lists ∧ (okL okPlayback) x.playbacks
structure ActionD where
 time : Int
 kind : Int
 playback : Int
 cue : Int
 level : Int
deriving DecidableEq
def cAction (x : ActionD) : List AV := [.int .i64 x.time, .int .i64 x.kind, .int .i64 x.playback, .int .i64 x.cue, .int .i64 x.level]
theorem cAction_len (x : ActionD) : (cAction x).length = 5 := rfl
def okAction (x : ActionD) : Prop := inI x.time ∧ inI x.kind ∧ inI x.playback ∧ inI x.cue ∧ inI x.level
theorem sp_cAction (x : ActionD) (l : List AV) (h : l.length = 5) : A.splice 0 (cAction x) l = some (cAction x) := by
 simp [A.splice, cAction_len, h]
structure EventD where
 att : Int
 action : ActionD
deriving DecidableEq
def cEvent (x : EventD) : List AV := [.int .i64 x.att, .int .i64 x.action.time, .int .i64 x.action.kind, .int .i64 x.action.playback, .int .i64 x.action.cue, .int .i64 x.action.level]
theorem cEvent_len (x : EventD) : (cEvent x).length = 6 := rfl
def okEvent (x : EventD) : Prop := inI x.att ∧ okAction x.action
theorem sp_cEvent (x : EventD) (l : List AV) (h : l.length = 6) : A.splice 0 (cEvent x) l = some (cEvent x) := by
 simp [A.splice, cEvent_len, h]
structure StampD where
 hours : Int
 minutes : Int
 seconds : Int
 frames : Int
deriving DecidableEq
structure RunD where
 key : KeyD
 fade : FadeD
 claim : Int
 ending : Bool
structure StandingD where
 playback : Int
 cue : Int
 fader : Int
 paused : Bool
 follow : Int
 runs : (List RunD)
structure EffectStepD where
 level : Int
 hold : Int
 fade : Int
deriving DecidableEq
structure EffectD where
 form : Int
 low : Int
 high : Int
 cycle : Int
 width : Int
 spread : Int
 back : Bool
 relative : Bool
 steps : (List EffectStepD)
structure RateD where
 time : Int
 percent : Int
deriving DecidableEq
structure RunningD where
 effect : EffectD
 keys : (List KeyD)
 start : Int
 rates : (List RateD)
 inn : Int
 fin : Int
 out : Int
end Go.Proofs.Ytohbeolimnpehaa

/- How mirrors are reckoned out: operations on known values, loops over lists, maps. -/
namespace Go.Proofs.Ytohbeolimnpehaa
set_option linter.unusedSectionVars false
set_option linter.unusedVariables false
set_option linter.unusedSimpArgs false

theorem bq (s t : ByteArray) : (s == t) = decide (s = t) := by
 obtain ⟨a⟩ := s
 obtain ⟨b⟩ := t
 show (a == b) = _
 rw [Bool.eq_iff_iff]
 simp
/-! ### Operations -/
section
variable {α β : Type}
theorem cT (t e : Option α) : A.cond (.bool true) t e = t := rfl
theorem cF (t e : Option α) : A.cond (.bool false) t e = e := rfl
theorem gTT (e d : Option α) : A.guard (.bool true) true e d = e := rfl
theorem gTF (e d : Option α) : A.guard (.bool true) false e d = d := rfl
theorem gFT (e d : Option α) : A.guard (.bool false) true e d = d := rfl
theorem gFF (e d : Option α) : A.guard (.bool false) false e d = e := rfl
theorem pT (x y : AV) : A.pick (.bool true) x y = some x := rfl
theorem pF (x y : AV) : A.pick (.bool false) x y = some y := rfl
theorem gDp {p : Prop} [Decidable p] {w : Bool} {e d : Option α} {f : α → Option β} : (A.guard (.bool (decide p)) w e d).bind f = if p then (A.guard (.bool true) w e d).bind f else (A.guard (.bool false) w e d).bind f := by by_cases h : p <;> simp [h]
theorem gDb {b w : Bool} {e d : Option α} {f : α → Option β} : (A.guard (.bool b) w e d).bind f = match b with | true => (A.guard (.bool true) w e d).bind f | false => (A.guard (.bool false) w e d).bind f := by cases b <;> rfl
theorem cDp {p : Prop} [Decidable p] {t e : Option α} : A.cond (.bool (decide p)) t e = if p then t else e := by by_cases h : p <;> simp [h, A.cond]
theorem cDnp {p : Prop} [Decidable p] {t e : Option α} : A.cond (.bool (!decide p)) t e = if p then e else t := by by_cases h : p <;> simp [h, A.cond]
theorem cDn {b : Bool} {t e : Option α} : A.cond (.bool (!b)) t e = match b with | true => e | false => t := by cases b <;> rfl
theorem cDb {b : Bool} {t e : Option α} : A.cond (.bool b) t e = match b with | true => t | false => e := by cases b <;> rfl
theorem gN (w : Bool) (e d : Option α) : A.guard (.tup []) w e d = d := rfl
theorem xN (a b : AX) : (a == b) = decide (a = b) := by rw [Bool.eq_iff_iff]; simp
end
section
variable (k : IntKind) (a b : Int) (p q : Prop) [Decidable p] [Decidable q] (s t : ByteArray) (x y : AV) (σ : Heap) (cs : List AV)
theorem aAdd : A.add (.int .i64 a) (.int .i64 b) = some (.int .i64 (IntKind.i64.wrap (a + b))) := rfl
theorem aSub : A.sub (.int .i64 a) (.int .i64 b) = some (.int .i64 (IntKind.i64.wrap (a - b))) := rfl
theorem aMul : A.mul (.int .i64 a) (.int .i64 b) = some (.int .i64 (IntKind.i64.wrap (a * b))) := rfl
theorem aRem (h : b ≠ 0) : A.rem (.int .i64 a) (.int .i64 b) = some (.int .i64 (a.tmod b)) := by simp [A.rem, h]
theorem aLss : A.lss (.int .i64 a) (.int .i64 b) = some (.bool (decide (a < b))) := rfl
theorem aLeq : A.leq (.int .i64 a) (.int .i64 b) = some (.bool (decide (a ≤ b))) := rfl
theorem aGtr : A.gtr (.int .i64 a) (.int .i64 b) = some (.bool (decide (b < a))) := rfl
theorem aGeq : A.geq (.int .i64 a) (.int .i64 b) = some (.bool (decide (b ≤ a))) := rfl
theorem aLss8 : A.lss (.int .u8 a) (.int .u8 b) = some (.bool (decide (a < b))) := rfl
theorem aLeq8 : A.leq (.int .u8 a) (.int .u8 b) = some (.bool (decide (a ≤ b))) := rfl
theorem aGtr8 : A.gtr (.int .u8 a) (.int .u8 b) = some (.bool (decide (b < a))) := rfl
theorem aGeq8 : A.geq (.int .u8 a) (.int .u8 b) = some (.bool (decide (b ≤ a))) := rfl
theorem aEq : A.eql .i (.int k a) (.int k b) = some (.bool (decide (a = b))) := by
 simp only [A.eql, A.eqK, A.eqI, if_true, Option.map_some]; congr 2
theorem aNe : A.neq .i (.int k a) (.int k b) = some (.bool (decide (¬ a = b))) := by
 simp only [A.neq, A.eqK, A.eqI, if_true, Option.map_some]
 congr 2
 rw [Bool.eq_iff_iff]; simp
theorem aEqZ : A.eql .z (.str s) (.str t) = some (.bool (decide (s = t))) := by
 simp only [A.eql, A.eqK, A.eqZ, Option.map_some, bq]
theorem aNeZ : A.neq .z (.str s) (.str t) = some (.bool (decide (¬ s = t))) := by
 simp only [A.neq, A.eqK, A.eqZ, Option.map_some, bq]; simp
theorem aNot (b : Bool) : A.not (.bool b) = some (.bool (!b)) := rfl
theorem aNotD : A.not (.bool (decide p)) = some (.bool (decide (¬ p))) := by simp [A.not]
theorem aLb : A.lb (.lbx cs) = some cs := rfl
theorem aExt0 (l : List AV) : A.ext 0 (.tup (x :: l)) = some x := rfl
theorem aExt1 (x0 x : AV) (l : List AV) : A.ext 1 (.tup (x0 :: x :: l)) = some x := rfl
theorem aExt2 (x0 x1 x : AV) (l : List AV) : A.ext 2 (.tup (x0 :: x1 :: x :: l)) = some x := rfl
theorem aExt3 (x0 x1 x2 x : AV) (l : List AV) : A.ext 3 (.tup (x0 :: x1 :: x2 :: x :: l)) = some x := rfl
theorem aDe : A.deref (.rp cs) σ = some cs := rfl
theorem aFa (o : Nat) : A.faddr o (.rp cs) = some (.rp (cs.drop o)) := rfl
theorem aLenZ : A.lenZ (.str s) = some (.int .i64 s.size) := rfl
theorem aCI (n : Int) : A.cell (.int k n) = some (.int k n) := rfl
theorem aCB (b : Bool) : A.cell (.bool b) = some (.bool b) := rfl
theorem aCS : A.cell (.str s) = some (.str s) := rfl
theorem aCSl (sz : Nat) (es : List (List AV)) : A.cell (.sl sz es) = some (.sl sz es) := rfl
theorem p1D (o k : Nat) : A.part1 o (cs.drop k) = A.part1 (k + o) cs := by simp [A.part1, List.getElem?_drop]
end
theorem gd0 (a d : AV) (l : List AV) : (a :: l).getD 0 d = a := rfl
theorem gd1 (a b d : AV) (l : List AV) : (b :: a :: l).getD 1 d = a := rfl
theorem gd2 (a b c d : AV) (l : List AV) : (b :: c :: a :: l).getD 2 d = a := rfl
theorem gd3 (a b c e d : AV) (l : List AV) : (b :: c :: e :: a :: l).getD 3 d = a := rfl
theorem gd4 (a b c e f d : AV) (l : List AV) : (b :: c :: e :: f :: a :: l).getD 4 d = a := rfl
theorem gd5 (a b c e f g d : AV) (l : List AV) : (b :: c :: e :: f :: g :: a :: l).getD 5 d = a := rfl
theorem gd6 (a b c e f g h d : AV) (l : List AV) : (b :: c :: e :: f :: g :: h :: a :: l).getD 6 d = a := rfl
theorem gd7 (a b c e f g h i d : AV) (l : List AV) : (b :: c :: e :: f :: g :: h :: i :: a :: l).getD 7 d = a := rfl
theorem gd8 (a b c e f g h i j d : AV) (l : List AV) : (b :: c :: e :: f :: g :: h :: i :: j :: a :: l).getD 8 d = a := rfl
theorem wrap64 {n : Int} (h : inI n) : IntKind.i64.wrap n = n := IntWalk.i64_in n h
/-! ### Calls -/
theorem wrap_eq {ro : Bool} {ain : List Sh} {rout : Sh} {r : List AV → Heap → Option (AV × Heap)} {args : List AV} {σ σ' : Heap} {v v' : AV} (h : args.any A.own = false) (e : r (A.nnL ain args) σ = some (v, σ')) (hv : A.nn rout v = v') : A.wrap ro ain rout r args σ = some (v', σ') := by
 unfold A.wrap
 rw [h, Bool.and_false, cond_false, e]
 simp [hv]
/-- .. where what is handed over is the caller's own, and lent. -/
theorem wrap_own {ain : List Sh} {rout : Sh} {r : List AV → Heap → Option (AV × Heap)} {args args' : List AV} {σ : Heap} {v : AV} (h : args.any A.own = true) (hz : A.frzL σ 0 8 args = some args') (ho : args'.any A.own = false) (e : A.wrap true ain rout r args' [] = some (v, [])) (hs : A.scal v = true) : A.wrap true ain rout r args σ = some (v, σ) := by
 unfold A.wrap at e ⊢
 rw [ho, Bool.and_false, cond_false] at e
 obtain ⟨⟨q1, q2⟩, e1, e2⟩ := Option.map_eq_some_iff.1 e
 simp only [Prod.mk.injEq] at e2
 obtain ⟨rfl, rfl⟩ := e2
 rw [h, Bool.and_self, cond_true, hz]
 simp [e1, hs]
theorem fin_same (σ : Heap) (r : AV) : A.fin σ r σ = some (r, σ) := by simp [A.fin]
theorem frz_scal1 (σ : Heap) (n d : Nat) {a : AV} (h : A.scal1 a = true) : A.frz σ n d a = some a := by
 cases a <;> simp only [A.scal1] at h <;> first | (cases h; done) | skip
 case sl sz es => cases es with
  | nil => cases d <;> simp [A.frz, A.frzLL]
  | cons _ _ => simp at h
 all_goals cases d <;> simp [A.frz]
theorem frzL_scal1 (σ : Heap) (n d : Nat) : ∀ {l : List AV}, l.all A.scal1 = true → A.frzL σ n d l = some l
 | [], _ => by simp [A.frzL]
 | a :: l, h => by
  simp only [List.all_cons, Bool.and_eq_true] at h
  simp [A.frzL, frz_scal1 σ n d h.1, frzL_scal1 σ n d h.2]
theorem frz_scal2 (σ : Heap) (n d : Nat) {a : AV} (h : A.scal2 a = true) : A.frz σ n d a = some a := by
 unfold A.scal2 at h
 split at h
 ·cases d <;> simp [A.frz, frzL_scal1 σ n _ h]
 ·exact frz_scal1 σ n d h
theorem frzL_scal2 (σ : Heap) (n d : Nat) : ∀ {l : List AV}, l.all A.scal2 = true → A.frzL σ n d l = some l
 | [], _ => by simp [A.frzL]
 | a :: l, h => by
  simp only [List.all_cons, Bool.and_eq_true] at h
  simp [A.frzL, frz_scal2 σ n d h.1, frzL_scal2 σ n d h.2]
theorem frz_scal (σ : Heap) (n d : Nat) {a : AV} (h : A.scal a = true) : A.frz σ n d a = some a := by
 unfold A.scal at h
 split at h
 ·cases d <;> simp [A.frz, frzL_scal2 σ n _ h]
 ·exact frz_scal2 σ n d h
theorem fin_scal (σ bs : Heap) {r : AV} (h : A.scal r = true) : A.fin σ r (σ ++ bs) = some (r, σ) := by
 unfold A.fin
 split
 ·rfl
 ·rw [if_pos (by simp), frz_scal _ _ _ h]; rfl
theorem fin_int (σ bs : Heap) (k : IntKind) (n : Int) : A.fin σ (.int k n) (σ ++ bs) = some (.int k n, σ) := fin_scal σ bs rfl
theorem fin_bool (σ bs : Heap) (b : Bool) : A.fin σ (.bool b) (σ ++ bs) = some (.bool b, σ) := fin_scal σ bs rfl
theorem fin_str (σ bs : Heap) (s : ByteArray) : A.fin σ (.str s) (σ ++ bs) = some (.str s, σ) := fin_scal σ bs rfl
theorem fin_unit (σ bs : Heap) : A.fin σ (.tup []) (σ ++ bs) = some (.tup [], σ) := fin_scal σ bs rfl
/-! ### The call's own memory -/
theorem hat (σ bs : Heap) (j : Nat) : (σ ++ bs)[σ.length + j]? = bs[j]? := by rw [List.getElem?_append_right (by omega)]; congr 1; omega
theorem hat0 (σ bs : Heap) : (σ ++ bs)[σ.length]? = bs[0]? := by rw [List.getElem?_append_right (Nat.le_refl _), Nat.sub_self]
theorem hset (σ bs : Heap) (j : Nat) (b : Blk) : (σ ++ bs).set (σ.length + j) b = σ ++ bs.set j b := by rw [List.set_append_right _ _ (by omega)]; congr 2; omega
theorem hset0 (σ bs : Heap) (b : Blk) : (σ ++ bs).set σ.length b = σ ++ bs.set 0 b := by rw [List.set_append_right _ _ (Nat.le_refl _), Nat.sub_self]
/-! ### Slices that nobody writes -/
section
variable {α : Type} (sz : Nat) (c : α → List AV) (l : List α)
theorem lenS_sl : A.lenS (sl sz c l) = some (.int .i64 l.length) := by simp [sl, A.lenS]
theorem iaddr_sl {k : Nat} {x : α} (h : l[k]? = some x) : A.iaddr sz (sl sz c l) (.int .i64 (k : Int)) = some (.rp (c x)) := by
 have hk : k < l.length := (List.getElem?_eq_some_iff.1 h).1
 have hx : l[k] = x := (List.getElem?_eq_some_iff.1 h).2
 simp [A.iaddr, sl, A.idx, hk, hx]
theorem iaddr_int {i : Int} {x : α} (h0 : 0 ≤ i) (h : l[i.toNat]? = some x) : A.iaddr sz (sl sz c l) (.int .i64 i) = some (.rp (c x)) := by
 have := iaddr_sl sz c l h
 rwa [Int.toNat_of_nonneg h0] at this
end
/-! ### Loops -/
inductive Rd (S R : Type) where
 | go (s : S)
 | out (r : R)
def Rd.el {S R γ : Type} (x : Rd S R) (f : S → γ) (g : R → γ) : γ := match x with | .go s => f s | .out r => g r
theorem el_go {S R γ : Type} (s : S) (f : S → γ) (g : R → γ) : (Rd.go s : Rd S R).el f g = f s := rfl
theorem el_out {S R γ : Type} (r : R) (f : S → γ) (g : R → γ) : (Rd.out r : Rd S R).el f g = g r := rfl
theorem el_ite {S R γ : Type} {p : Prop} [Decidable p] (x y : Rd S R) (f : S → γ) (g : R → γ) : (if p then x else y).el f g = if p then x.el f g else y.el f g := by split <;> rfl
def runP {α S R : Type} (body : List α → α → S → Rd S R) : List α → List α → S → Rd S R
 | _, [], s => .go s
 | pre, x :: l, s => match body pre x s with | .go s' => runP body (pre ++ [x]) l s' | .out r => .out r
theorem iter_loop {f : List AV → Heap → Option (AX × List AV × Heap)} {v : List AV} {σ : Heap} : ∀ {n m : Nat} {r r' : AX × List AV × Heap}, A.iter f n v σ = some r → A.iter f m v σ = some r' → r = r' := by
 intro n
 induction n generalizing v σ with
 | zero => intro m r r' h; cases h
 | succ n ih =>
  intro m r r' h1 h2
  cases m with
  | zero => cases h2
  | succ m =>
   simp only [A.iter] at h1 h2
   cases hf : f v σ with
   | none => rw [hf] at h1; cases h1
   | some q =>
    rw [hf] at h1 h2
    simp only [Option.bind_some] at h1 h2
    obtain ⟨e, v', σ'⟩ := q
    cases e with
    | normal => exact ih h1 h2
    | exit i => simp only at h1 h2; rw [h1] at h2; injection h2
    | ret => simp only at h1 h2; rw [h1] at h2; injection h2
theorem loop_of_iter {f : List AV → Heap → Option (AX × List AV × Heap)} {v : List AV} {σ : Heap} {n : Nat} {r : AX × List AV × Heap} (h : A.iter f n v σ = some r) : A.loop f v σ = some r := by
 have hex : ∃ n r, A.iter f n v σ = some r := ⟨n, r, h⟩
 unfold A.loop
 rw [dif_pos hex]
 exact congrArg some (iter_loop (Classical.choose_spec (Classical.choose_spec hex)) h)
theorem loop_step {f : List AV → Heap → Option (AX × List AV × Heap)} {v v' : List AV} {σ σ' : Heap} {r : AX × List AV × Heap} (h : f v σ = some (.normal, v', σ')) (k : ∃ n, A.iter f n v' σ' = some r) : ∃ n, A.iter f n v σ = some r := by
 obtain ⟨n, k⟩ := k
 exact ⟨n + 1, by simp [A.iter, h, k]⟩
theorem loop_done {f : List AV → Heap → Option (AX × List AV × Heap)} {v : List AV} {σ : Heap} {r : AX × List AV × Heap} (h : f v σ = some r) (hr : r.1 ≠ .normal) : ∃ n, A.iter f n v σ = some r := by
 obtain ⟨e, v', σ'⟩ := r
 refine ⟨1, ?_⟩
 cases e <;> first | (simp [A.iter, h]; done) | exact absurd rfl hr
/-- A loop over a list: 'st', 'hp': the slots and the memory, by what lies behind and the state; 'fin', 'out': how it is left. -/
theorem loop_pre {α S R γ : Type} {f : List AV → Heap → Option (AX × List AV × Heap)} (l : List α) (body : List α → α → S → Rd S R) (st : List α → S → List AV) (hp : List α → S → Heap)
  (fin : S → AX × List AV × Heap) (out : List α → S → R → AX × List AV × Heap) (P : List α → S → Prop) (s0 : S) {k : AX × List AV × Heap → Option γ} (K1 : S → Option γ) (K2 : R → Option γ)
  (hstep : ∀ pre x rest s, l = pre ++ x :: rest → P pre s → f (st pre s) (hp pre s) = some ((body pre x s).el (fun s' => (.normal, st (pre ++ [x]) s', hp (pre ++ [x]) s')) (fun r => out pre s r)))
  (hend : ∀ s, P l s → f (st l s) (hp l s) = some (fin s)) (h0 : P [] s0)
  (hP : ∀ pre x rest s s', l = pre ++ x :: rest → P pre s → body pre x s = .go s' → P (pre ++ [x]) s')
  (hk1 : ∀ s, P l s → k (fin s) = K1 s) (hk2 : ∀ pre x rest s r, l = pre ++ x :: rest → P pre s → body pre x s = .out r → k (out pre s r) = K2 r)
  (hfin : ∀ s, (fin s).1 ≠ .normal := by intros; simp) (hout : ∀ pre s r, (out pre s r).1 ≠ .normal := by intros; simp) {v : List AV} {σ : Heap} (hv : v = st [] s0 := by rfl) (hσ : σ = hp [] s0 := by rfl) :
  (A.loop f v σ).bind k = (runP body [] l s0).el K1 K2 := by
 have key : ∀ (rest pre : List α) (s : S), l = pre ++ rest → P pre s → ∃ q, (∃ n, A.iter f n (st pre s) (hp pre s) = some q) ∧ k q = (runP body pre rest s).el K1 K2 := by
  intro rest
  induction rest with
  | nil =>
   intro pre s hl hp'
   rw [List.append_nil] at hl
   subst hl
   exact ⟨fin s, loop_done (hend s hp') (hfin s), by rw [runP, el_go, hk1 s hp']⟩
  | cons x rest ih =>
   intro pre s hl hp'
   have h := hstep pre x rest s hl hp'
   rw [runP]
   cases hb : body pre x s with
   | go s' =>
    rw [hb] at h
    obtain ⟨q, h1, h2⟩ := ih (pre ++ [x]) s' (by simpa using hl) (hP pre x rest s s' hl hp' hb)
    exact ⟨q, loop_step h h1, h2⟩
   | out r =>
    rw [hb] at h
    exact ⟨out pre s r, loop_done h (hout pre s r), by rw [el_out, hk2 pre x rest s r hl hp' hb]⟩
 obtain ⟨q, ⟨n, h1⟩, h2⟩ := key l [] s0 rfl h0
 rw [hv, hσ, loop_of_iter h1, Option.bind_some, h2]
/-- A check of a list, element by element. -/
theorem runP_fault {α : Type} {body : List α → α → Unit → Rd Unit Int} {chk : List α → List α → Int} (h0 : ∀ pre, chk pre [] = 0) (h : ∀ pre x rest, chk pre (x :: rest) = (body pre x ()).el (fun _ => chk (pre ++ [x]) rest) (fun r => r)) {γ : Type} (K : Int → γ) :
  ∀ (l pre : List α), (runP body pre l ()).el (fun _ => K 0) K = K (chk pre l)
 | [], pre => by rw [runP, h0]; rfl
 | x :: l, pre => by
  rw [runP, h]
  cases body pre x () with
  | go s => exact runP_fault h0 h K l (pre ++ [x])
  | out r => rfl
theorem pre_get {α : Type} {l pre rest : List α} {x : α} (h : l = pre ++ x :: rest) : l[pre.length]? = some x := by rw [h]; simp
theorem pre_lt {α : Type} {l pre rest : List α} {x : α} (h : l = pre ++ x :: rest) : pre.length < l.length := by rw [h]; simp
theorem pre_last {α : Type} {l pre rest : List α} {x : α} (h : l = pre ++ x :: rest) (h0 : 0 < pre.length) : ∃ y, pre.getLast? = some y ∧ l[pre.length - 1]? = some y := by
 cases hp : pre.getLast? with
 | none => rw [List.getLast?_eq_none_iff] at hp; subst hp; simp at h0
 | some y =>
  refine ⟨y, rfl, ?_⟩
  rw [h, List.getElem?_append_left (by omega), ← hp, List.getLast?_eq_getElem?]
/-- A loop over a text's bytes that looks for one that is not right. -/
theorem all_loop {γ : Type} {p : UInt8 → Bool} {f : List AV → Heap → Option (AX × List AV × Heap)} (s : ByteArray) {σ : Heap} {k : AX × List AV × Heap → Option γ} (K2 : Option γ)
  (hstep : ∀ (i : Nat) (c : UInt8), i < s.size → A.sidx (.str s) (.int .i64 (i : Int)) = some (.int .u8 c.toNat) → f [.bool false, .int .i64 (i : Int)] σ = if p c = true then some (.normal, [.bool false, .int .i64 ((i : Int) + 1)], σ) else some (.ret, [.bool false, .int .i64 (i : Int)], σ))
  (hend : f [.bool false, .int .i64 (s.size : Int)] σ = some (.exit 0, [.bool false, .int .i64 (s.size : Int)], σ)) (hk2 : ∀ i : Int, k (.ret, [.bool false, .int .i64 i], σ) = K2) :
  (A.loop f [.bool false, .int .i64 0] σ).bind k = if s.data.toList.all p = true then k (.exit 0, [.bool false, .int .i64 (s.size : Int)], σ) else K2 := by
 have hsz : s.data.toList.length = s.size := rfl
 refine (loop_pre (S := Unit) (R := Unit) s.data.toList (fun _ c _ => if p c = true then .go () else .out ()) (fun pre _ => [.bool false, .int .i64 (pre.length : Int)]) (fun _ _ => σ) (fun _ => (.exit 0, [.bool false, .int .i64 (s.size : Int)], σ)) (fun pre _ _ => (.ret, [.bool false, .int .i64 (pre.length : Int)], σ)) (fun _ _ => True) ()
  (fun _ => k (.exit 0, [.bool false, .int .i64 (s.size : Int)], σ)) (fun _ => K2) ?_ ?_ trivial (fun _ _ _ _ _ _ _ _ => trivial) (fun _ _ => rfl) (fun _ _ _ _ _ _ _ _ => hk2 _)).trans ?_
 ·intro pre c rest u hl _
  have hlt := pre_lt hl
  have hc := pre_get hl
  rw [hsz] at hlt
  have hsi : A.sidx (.str s) (.int .i64 (pre.length : Int)) = some (.int .u8 c.toNat) := by
   have h2 : s[pre.length] = c := (List.getElem?_eq_some_iff.1 hc).2
   simp [A.sidx, A.idx, hlt, h2]
  rw [hstep pre.length c hlt hsi]
  cases p c <;> simp [Rd.el]
 ·intro u _; rw [hsz]; exact hend
 ·have key : ∀ (l pre : List UInt8), (runP (fun (_ : List UInt8) c (_ : Unit) => if p c = true then (Rd.go () : Rd Unit Unit) else .out ()) pre l ()).el (fun _ => k (.exit 0, [.bool false, .int .i64 (s.size : Int)], σ)) (fun _ => K2) = if l.all p = true then k (.exit 0, [.bool false, .int .i64 (s.size : Int)], σ) else K2 := by
   intro l
   induction l with
   | nil => intro pre; simp [runP, Rd.el]
   | cons c l ih =>
    intro pre
    rw [runP]
    cases hc : p c
    ·simp [hc, Rd.el]
    ·simp only [if_true]
     rw [ih]
     simp [hc]
  exact key s.data.toList []
/-! ### Maps -/
section
variable {α : Type} (g : α → ByteArray) (gi : α → Int) (v : α → AV)
theorem find_z (k : ByteArray) : ∀ (l : List α), A.find .z (.str k) (l.map fun x => (AV.str (g x), v x)) = some ((l.find? fun x => decide (k = g x)).map v)
 | [] => rfl
 | x :: l => by
  simp only [List.map_cons, A.find, A.eqK, A.eqZ, Option.bind_some, List.find?]
  by_cases h : k = g x
  ·rw [bq]; simp [h]
  ·rw [bq]; simp [h, find_z k l]
theorem find_i (kk : IntKind) (k : Int) : ∀ (l : List α), A.find .i (.int kk k) (l.map fun x => (AV.int kk (gi x), v x)) = some ((l.find? fun x => decide (k = gi x)).map v)
 | [] => rfl
 | x :: l => by
  simp only [List.map_cons, A.find, A.eqK, A.eqI, if_true, Option.bind_some, List.find?]
  by_cases h : k = gi x
  ·have : (k == gi x) = true := by simpa using h
   simp [this, h]
  ·have : (k == gi x) = false := by simpa using h
   simp [this, h, find_i kk k l]
theorem upd_z {k : ByteArray} {w : AV} : ∀ {l : List α}, (∀ x ∈ l, g x ≠ k) → A.upd .z (.str k) w (l.map fun x => (AV.str (g x), v x)) = some ((l.map fun x => (AV.str (g x), v x)) ++ [(.str k, w)])
 | [], _ => rfl
 | x :: l, h => by
  have h1 : (k == g x) = false := by rw [bq]; exact decide_eq_false fun e : k = g x => h x (by simp) e.symm
  simp only [List.map_cons, A.upd, A.eqK, A.eqZ, Option.bind_some, h1, cond_false]
  rw [upd_z (fun y hy => h y (by simp [hy]))]
  rfl
theorem upd_i {kk : IntKind} {k : Int} {w : AV} : ∀ {l : List α}, (∀ x ∈ l, gi x ≠ k) → A.upd .i (.int kk k) w (l.map fun x => (AV.int kk (gi x), v x)) = some ((l.map fun x => (AV.int kk (gi x), v x)) ++ [(.int kk k, w)])
 | [], _ => rfl
 | x :: l, h => by
  have h1 : (k == gi x) = false := by simpa using fun e : k = gi x => h x (by simp) e.symm
  simp only [List.map_cons, A.upd, A.eqK, A.eqI, if_true, Option.bind_some, h1, cond_false]
  rw [upd_i (fun y hy => h y (by simp [hy]))]
  rfl
end
theorem look_at (e : A.EK) {k z : AV} {σ : Heap} {id : Nat} {es : List (AV × AV)} (hk : A.keyOk e k = true) (h : σ[id]? = some (.map es)) : A.look e (.om id) k z σ = (A.find e k es).map fun r => r.getD z := by
 simp [A.look, hk, A.entries, h]
theorem mupd_at (e : A.EK) {k w : AV} {σ : Heap} {id : Nat} {es : List (AV × AV)} (hk : A.keyOk e k = true) (h : σ[id]? = some (.map es)) : A.mupd e (.om id) k w σ = (A.upd e k w es).map fun es => σ.set id (.map es) := by
 simp [A.mupd, hk, h]
theorem len_snoc {α : Type} (l : List α) (x : α) : (((l ++ [x]).length : Nat) : Int) = (l.length : Int) + 1 := by simp
theorem iaddr_pred {α : Type} (sz : Nat) (c : α → List AV) (l : List α) {k : Nat} {x : α} (h0 : 0 < k) (h : l[k - 1]? = some x) : A.iaddr sz (sl sz c l) (.int .i64 ((k : Int) - 1)) = some (.rp (c x)) := by
 have := iaddr_sl sz c l h
 rwa [show ((k - 1 : Nat) : Int) = (k : Int) - 1 by omega] at this
/-- Sets: maps to truths. -/
def setZ {α : Type} (g : α → ByteArray) (l : List α) : List (AV × AV) := l.map fun x => (AV.str (g x), AV.bool true)
def setI {α : Type} (g : α → Int) (l : List α) : List (AV × AV) := l.map fun x => (AV.int .i64 (g x), AV.bool true)
theorem any_find {α : Type} (p : α → Bool) : ∀ (l : List α), ((l.find? p).map fun _ => AV.bool true).getD (AV.bool false) = AV.bool (l.any p)
 | [] => rfl
 | x :: l => by
  simp only [List.find?, List.any_cons]
  cases h : p x
  ·simpa using any_find p l
  ·rfl
theorem setZ_find {α : Type} (g : α → ByteArray) (k : ByteArray) (l : List α) : (A.find .z (.str k) (setZ g l)).map (fun r => r.getD (.bool false)) = some (.bool (memB k (l.map g))) := by
 unfold setZ
 rw [find_z g (fun _ => AV.bool true) k l, Option.map_some, any_find]
 refine congrArg some (congrArg AV.bool ?_)
 rw [Bool.eq_iff_iff, memB_iff]
 simp only [List.any_eq_true, decide_eq_true_eq, List.mem_map]
 exact ⟨fun ⟨x, h, e⟩ => ⟨x, h, e.symm⟩, fun ⟨x, h, e⟩ => ⟨x, h, e.symm⟩⟩
theorem setI_find {α : Type} (g : α → Int) (k : Int) (l : List α) : (A.find .i (.int .i64 k) (setI g l)).map (fun r => r.getD (.bool false)) = some (.bool (memB k (l.map g))) := by
 unfold setI
 rw [find_i g (fun _ => AV.bool true) .i64 k l, Option.map_some, any_find]
 refine congrArg some (congrArg AV.bool ?_)
 rw [Bool.eq_iff_iff, memB_iff]
 simp only [List.any_eq_true, decide_eq_true_eq, List.mem_map]
 exact ⟨fun ⟨x, h, e⟩ => ⟨x, h, e.symm⟩, fun ⟨x, h, e⟩ => ⟨x, h, e.symm⟩⟩
section
variable {α : Type} (g : α → ByteArray) (gi : α → Int) (l : List α) (k : ByteArray) (n : Int) (σ bs : Heap) (b0 : Blk)
theorem setZ_look0 : A.look .z (.om σ.length) (.str k) (.bool false) (σ ++ Blk.map (setZ g l) :: bs) = some (.bool (memB k (l.map g))) := by
 rw [look_at .z rfl (by rw [hat0]; rfl), setZ_find]
theorem setI_look0 : A.look .i (.om σ.length) (.int .i64 n) (.bool false) (σ ++ Blk.map (setI gi l) :: bs) = some (.bool (memB n (l.map gi))) := by
 rw [look_at .i rfl (by rw [hat0]; rfl), setI_find]
theorem setZ_look1 : A.look .z (.om (σ.length + 1)) (.str k) (.bool false) (σ ++ b0 :: Blk.map (setZ g l) :: bs) = some (.bool (memB k (l.map g))) := by
 rw [look_at .z rfl (by rw [hat]; rfl), setZ_find]
theorem setI_look1 : A.look .i (.om (σ.length + 1)) (.int .i64 n) (.bool false) (σ ++ b0 :: Blk.map (setI gi l) :: bs) = some (.bool (memB n (l.map gi))) := by
 rw [look_at .i rfl (by rw [hat]; rfl), setI_find]
theorem setZ_upd0 (h : memB k (l.map g) = false) : A.mupd .z (.om σ.length) (.str k) (.bool true) (σ ++ Blk.map (setZ g l) :: bs) = some (σ ++ Blk.map (setZ g l ++ [(.str k, .bool true)]) :: bs) := by
 rw [mupd_at .z rfl (by rw [hat0]; rfl), setZ, upd_z g _ (fun x hx e => memB_false.1 h (by rw [← e]; exact List.mem_map_of_mem hx)), Option.map_some, hset0]; rfl
theorem setI_upd0 (h : memB n (l.map gi) = false) : A.mupd .i (.om σ.length) (.int .i64 n) (.bool true) (σ ++ Blk.map (setI gi l) :: bs) = some (σ ++ Blk.map (setI gi l ++ [(.int .i64 n, .bool true)]) :: bs) := by
 rw [mupd_at .i rfl (by rw [hat0]; rfl), setI, upd_i gi _ (fun x hx e => memB_false.1 h (by rw [← e]; exact List.mem_map_of_mem hx)), Option.map_some, hset0]; rfl
theorem setZ_upd1 (h : memB k (l.map g) = false) : A.mupd .z (.om (σ.length + 1)) (.str k) (.bool true) (σ ++ b0 :: Blk.map (setZ g l) :: bs) = some (σ ++ b0 :: Blk.map (setZ g l ++ [(.str k, .bool true)]) :: bs) := by
 rw [mupd_at .z rfl (by rw [hat]; rfl), setZ, upd_z g _ (fun x hx e => memB_false.1 h (by rw [← e]; exact List.mem_map_of_mem hx)), Option.map_some, hset]; rfl
theorem setI_upd1 (h : memB n (l.map gi) = false) : A.mupd .i (.om (σ.length + 1)) (.int .i64 n) (.bool true) (σ ++ b0 :: Blk.map (setI gi l) :: bs) = some (σ ++ b0 :: Blk.map (setI gi l ++ [(.int .i64 n, .bool true)]) :: bs) := by
 rw [mupd_at .i rfl (by rw [hat]; rfl), setI, upd_i gi _ (fun x hx e => memB_false.1 h (by rw [← e]; exact List.mem_map_of_mem hx)), Option.map_some, hset]; rfl
end
theorem setZ_snoc {α : Type} (g : α → ByteArray) (l : List α) (x : α) : setZ g (l ++ [x]) = setZ g l ++ [(.str (g x), .bool true)] := by simp [setZ]
theorem quiet_same (σ : Heap) (v : AV) : A.quiet (some (v, σ)) σ = some v := by simp [A.quiet]
/-! ### Values that hold nothing of the call's own -/
def Fz (a : AV) : Prop := ∀ σ n d, A.frz σ n d a = some a
def FzL (l : List AV) : Prop := ∀ σ n d, A.frzL σ n d l = some l
theorem fz_int (k : IntKind) (n : Int) : Fz (.int k n) := fun _ _ d => by cases d <;> simp [A.frz]
theorem fz_bool (b : Bool) : Fz (.bool b) := fun _ _ d => by cases d <;> simp [A.frz]
theorem fz_str (s : ByteArray) : Fz (.str s) := fun _ _ d => by cases d <;> simp [A.frz]
theorem fz_nsl : Fz .nsl := fun _ _ d => by cases d <;> simp [A.frz]
theorem fz_agg {l : List AV} (h : FzL l) : Fz (.agg l) := fun σ n d => by cases d <;> simp [A.frz, h σ n]
theorem fzL_nil : FzL [] := fun _ _ _ => by simp [A.frzL]
theorem fzL_cons {a : AV} {l : List AV} (h : Fz a) (k : FzL l) : FzL (a :: l) := fun σ n d => by simp [A.frzL, h σ n d, k σ n d]
theorem fz_sl {α : Type} {sz : Nat} {c : α → List AV} (h : ∀ x, FzL (c x)) (l : List α) : Fz (sl sz c l) := by
 intro σ n d
 have : A.frzLL σ n d (l.map c) = some (l.map c) := by
  induction l with
  | nil => simp [A.frzLL]
  | cons x l ih => simp [A.frzLL, h x σ n d, ih]
 cases d <;> simp [sl, A.frz, this]
theorem fzLL {α : Type} {c : α → List AV} (h : ∀ x, FzL (c x)) (l : List α) (σ : Heap) (n d : Nat) : A.frzLL σ n d (l.map c) = some (l.map c) := by
 induction l with
 | nil => simp [A.frzLL]
 | cons x l ih => simp [A.frzLL, h x σ n d, ih]
/-! ### A slice of the call's own that has grown by append -/
def ownV {α : Type} (id sz : Nat) (l : List α) : AV := if l = [] then .nsl else .os id l.length sz 0 l.length
def ownB {α : Type} (sz : Nat) (c : α → List AV) (l : List α) : Heap := if l = [] then [] else [.arr l.length sz (l.map c)]
theorem ownB_nil {α : Type} (sz : Nat) (c : α → List AV) : ownB sz c [] = [] := rfl
theorem own_append {α : Type} {sz most : Nat} (c : α → List AV) (l : List α) (x : α) (σ : Heap) (h : l.length + 1 ≤ most) : A.append sz most (ownV σ.length sz l) (.sl sz [c x]) (σ ++ ownB sz c l) = some (ownV σ.length sz (l ++ [x]), σ ++ ownB sz c (l ++ [x])) := by
 unfold ownV ownB
 cases l with
 | nil =>
  have h1 : 1 ≤ most := by simpa using h
  simp [A.append, A.elems, h1]
 | cons y l =>
  have h1 : l.length + 1 + 1 ≤ most := by simpa using h
  simp [A.append, A.elems, h1, hat0, hset0, Nat.add_assoc]
/-- What a function hands back that has built a slice. -/
theorem own_frz {α : Type} {sz : Nat} {c : α → List AV} (hc : ∀ x, FzL (c x)) (l : List α) (σ : Heap) (d : Nat) : A.frz (σ ++ ownB sz c l) σ.length (d + 1) (ownV σ.length sz l) = some (if l = [] then .nsl else sl sz c l) := by
 unfold ownV ownB
 split
 ·simp [A.frz]
 ·rename_i hl
  simp only [A.frz, Nat.lt_irrefl, if_false, hat0, List.getElem?_cons_zero]
  rw [if_pos (by simp)]
  have e : (List.take l.length (List.drop 0 (l.map c))) = l.map c := by simp [List.take_of_length_le]
  rw [e, frzLL_eq, fzLL hc]
  rfl
theorem fin_own2 {α : Type} {sz : Nat} {c : α → List AV} (hc : ∀ x, FzL (c x)) (l : List α) (k : IntKind) (n : Int) (σ : Heap) : A.fin σ (.tup [ownV σ.length sz l, .int k n]) (σ ++ ownB sz c l) = some (.tup [if l = [] then .nsl else sl sz c l, .int k n], σ) := by
 unfold A.fin
 split
 ·rename_i h
  have : ownB sz c l = [] := by simpa using h
  have hl : l = [] := by
   unfold ownB at this
   split at this
   ·assumption
   ·cases this
  subst hl; rfl
 ·rw [if_pos (by simp)]
  have : A.frz (σ ++ ownB sz c l) σ.length 8 (.tup [ownV σ.length sz l, .int k n]) = some (.tup [if l = [] then .nsl else sl sz c l, .int k n]) := by
   simp only [A.frz, A.frzL, own_frz hc, fz_int k n _ _ _, Option.bind_some, Option.map_some]
  rw [this]; rfl
theorem nn_own {α : Type} (sz : Nat) (c : α → List AV) (l : List α) : A.nn (.s sz) (if l = [] then .nsl else sl sz c l) = sl sz c l := by
 split
 ·rename_i h; subst h; rfl
 ·rfl
/-! ### Search -/
def idxI {α : Type} (p : α → Bool) (l : List α) : Int := match l.findIdx? p with | some i => i | none => -1
theorem idxI_cases {α : Type} (p : α → Bool) (l : List α) : (idxI p l = -1 ∧ (∀ x ∈ l, p x = false) ∧ l.find? p = none) ∨ ∃ (k : Nat) (x : α), l[k]? = some x ∧ p x = true ∧ idxI p l = k ∧ l.find? p = some x ∧ ∀ (j : Nat) (y : α), j < k → l[j]? = some y → p y = false := by
 induction l with
 | nil => left; exact ⟨rfl, by simp, rfl⟩
 | cons x l ih =>
  cases h : p x
  ·rcases ih with ⟨h1, h2, h3⟩ | ⟨k, y, h1, h2, h3, h4, h5⟩
   ·left
    refine ⟨?_, ?_, ?_⟩
    ·unfold idxI at h1 ⊢
     rw [List.findIdx?_cons, h]
     cases hf : l.findIdx? p with
     | none => simp
     | some i => rw [hf] at h1; simp at h1
    ·intro y hy
     rcases List.mem_cons.1 hy with rfl | hy
     ·exact h
     ·exact h2 y hy
    ·simp [List.find?, h, h3]
   ·right
    refine ⟨k + 1, y, by simpa using h1, h2, ?_, by simp [List.find?, h, h4], ?_⟩
    ·unfold idxI at h3 ⊢
     rw [List.findIdx?_cons, h]
     cases hf : l.findIdx? p with
     | none => rw [hf] at h3; simp at h3
     | some i => rw [hf] at h3; simp at h3 ⊢; omega
    ·intro j z hj hz
     cases j with
     | zero => simp at hz; subst hz; exact h
     | succ j => exact h5 j z (by omega) (by simpa using hz)
  ·right
   refine ⟨0, x, rfl, h, ?_, by simp [List.find?, h], by intro j y hj; omega⟩
   unfold idxI
   rw [List.findIdx?_cons, h]; rfl
theorem idxI_run {α : Type} {γ : Type} (p : α → Bool) (K1 : Option γ) (K2 : Int → Option γ) : ∀ (l pre : List α), (∀ x ∈ pre, p x = false) → (runP (fun pre x (_ : Unit) => if p x = true then (Rd.out (pre.length : Int) : Rd Unit Int) else .go ()) pre l ()).el (fun _ => K1) K2 = if idxI p (pre ++ l) = -1 then K1 else K2 (idxI p (pre ++ l))
 | [], pre, h => by
  have : idxI p (pre ++ []) = -1 := by
   rcases idxI_cases p (pre ++ []) with h1 | ⟨k, x, h1, h2, _⟩
   ·exact h1.1
   ·have := h x (by have := List.mem_of_getElem? h1; simpa using this)
    rw [h2] at this; cases this
  rw [runP, el_go, if_pos this]
 | x :: l, pre, h => by
  rw [runP]
  cases hx : p x
  ·simp only [Bool.false_eq_true, if_false]
   have := idxI_run p K1 K2 l (pre ++ [x]) (fun y hy => by
    rcases List.mem_append.1 hy with hy | hy
    ·exact h y hy
    ·simp at hy; subst hy; exact hx)
   simpa using this
  ·simp only [if_true, el_out]
   have : idxI p (pre ++ x :: l) = pre.length := by
    rcases idxI_cases p (pre ++ x :: l) with h1 | ⟨k, y, h1, h2, h3, _, h5⟩
    ·have := h1.2.1 x (by simp); rw [hx] at this; cases this
    ·rw [h3]
     rcases Nat.lt_trichotomy k pre.length with hk | hk | hk
     ·rw [List.getElem?_append_left hk] at h1
      have := h y (List.mem_of_getElem? h1); rw [h2] at this; cases this
     ·omega
     ·have := h5 pre.length x hk (by simp); rw [hx] at this; cases this
   rw [this, if_neg (by omega)]
theorem runP_any {α R γ : Type} (p : α → Bool) (r : R) (K1 : Unit → γ) (K2 : R → γ) : ∀ (l pre : List α), (runP (fun _ x (_ : Unit) => if p x = true then (Rd.out r : Rd Unit R) else .go ()) pre l ()).el K1 K2 = if l.any p = true then K2 r else K1 ()
 | [], pre => by simp [runP, Rd.el]
 | x :: l, pre => by
  rw [runP]
  cases h : p x
  ·simp only [Bool.false_eq_true, if_false]
   rw [runP_any p r K1 K2 l (pre ++ [x])]
   simp [h]
  ·simp [h, Rd.el]
theorem sliceS_take {α : Type} (sz : Nat) (c : α → List AV) (l : List α) {k : Nat} (h : k ≤ l.length) : A.sliceS sz (sl sz c l) none (some (.int .i64 (k : Int))) = some (sl sz c (l.take k)) := by
 simp [A.sliceS, sl, A.bound, h, List.map_take]
theorem pre_take {α : Type} {l pre rest : List α} {x : α} (h : l = pre ++ x :: rest) : l.take pre.length = pre := by rw [h]; simp
theorem setI_fold (l : List Int) (n : Int) : setI id l ++ [(.int .i64 n, .bool true)] = setI id (l ++ [n]) := by simp [setI]
theorem memB_snoc {κ : Type} [DecidableEq κ] (k x : κ) (S : List κ) : memB k (S ++ [x]) = (memB k S || decide (x = k)) := by simp [memB]
theorem nn_e {α : Type} {sz : Nat} {c : α → List AV} {sh : List Sh} (h : ∀ x, A.nnL sh (c x) = c x) (l : List α) : A.nn (.e sz sh) (sl sz c l) = sl sz c l := by
 simp only [sl, A.nn, List.map_map]
 congr 1
 exact List.map_congr_left fun x _ => h x
theorem nn_eNil (sz : Nat) (sh : List Sh) : A.nn (.e sz sh) .nsl = .sl sz [] := by simp [A.nn]
/-- A loop that looks for an element. -/
theorem loop_any {α γ : Type} {f : List AV → Heap → Option (AX × List AV × Heap)} (l : List α) (p : α → Bool) (vs : Nat → List AV) (σ : Heap) (fin : AX × List AV × Heap) (ret : Nat → AX × List AV × Heap) {k : AX × List AV × Heap → Option γ} (K1 K2 : Option γ)
  (hstep : ∀ (i : Nat) (x : α), l[i]? = some x → f (vs i) σ = if p x = true then some (ret i) else some (.normal, vs (i + 1), σ)) (hend : f (vs l.length) σ = some fin) (hk1 : k fin = K1) (hk2 : ∀ i, k (ret i) = K2)
  (hfin : fin.1 ≠ .normal := by simp) (hret : ∀ i, (ret i).1 ≠ .normal := by intros; simp) {v : List AV} {σ' : Heap} (hv : v = vs 0 := by rfl) (hσ : σ' = σ := by rfl) :
  (A.loop f v σ').bind k = if l.any p = true then K2 else K1 := by
 subst hv hσ
 refine (loop_pre (S := Unit) (R := Unit) l (fun _ x _ => if p x = true then .out () else .go ()) (fun pre _ => vs pre.length) (fun _ _ => σ') (fun _ => fin) (fun pre _ _ => ret pre.length) (fun _ _ => True) () (fun _ => K1) (fun _ => K2)
  ?_ (fun _ _ => hend) trivial (fun _ _ _ _ _ _ _ _ => trivial) (fun _ _ => hk1) (fun _ _ _ _ _ _ _ _ => hk2 _) (fun _ => hfin) (fun _ _ _ => hret _)).trans (runP_any p () _ _ l [])
 intro pre x rest u hl _
 rw [hstep pre.length x (pre_get hl)]
 cases p x <;> simp [Rd.el]
theorem memB_map {α κ : Type} [DecidableEq κ] (k : κ) (g : α → κ) (l : List α) : memB k (l.map g) = l.any fun x => decide (g x = k) := by simp [memB, List.any_map]; rfl
theorem iaddr_at {α : Type} (sz : Nat) (c : α → List AV) {l : List α} {k : Nat} {x : α} (h : l[k]? = some x) : A.iaddr sz (sl sz c l) (.int .i64 (k : Int)) = some (.rp (c x)) ∧ (k : Int) < (l.length : Int) ∧ (l.length ≤ mxl → IntKind.i64.wrap ((k : Int) + 1) = (k : Int) + 1) :=
 ⟨iaddr_sl sz c l h, by have := (List.getElem?_eq_some_iff.1 h).1; omega, fun hl => wrap64 (by have := (List.getElem?_eq_some_iff.1 h).1; unfold inI; unfold mxl at hl; omega)⟩
/-- A loop that looks for an element and hands it back. -/
theorem loop_find {α γ : Type} {f : List AV → Heap → Option (AX × List AV × Heap)} (l : List α) (p : α → Bool) (vs : Nat → List AV) (σ : Heap) (fin : AX × List AV × Heap) (ret : Nat → α → AX × List AV × Heap) {k : AX × List AV × Heap → Option γ} (K1 : Option γ) (K2 : α → Option γ)
  (hstep : ∀ (i : Nat) (x : α), l[i]? = some x → f (vs i) σ = if p x = true then some (ret i x) else some (.normal, vs (i + 1), σ)) (hend : f (vs l.length) σ = some fin) (hk1 : k fin = K1) (hk2 : ∀ i x, k (ret i x) = K2 x)
  (hfin : fin.1 ≠ .normal := by simp) (hret : ∀ i x, (ret i x).1 ≠ .normal := by intros; simp) {v : List AV} {σ' : Heap} (hv : v = vs 0 := by rfl) (hσ : σ' = σ := by rfl) :
  (A.loop f v σ').bind k = (l.find? p).elim K1 K2 := by
 subst hv hσ
 have run : ∀ (l pre : List α), (runP (fun _ x (_ : Unit) => if p x = true then (Rd.out x : Rd Unit α) else .go ()) pre l ()).el (fun _ => K1) K2 = (l.find? p).elim K1 K2 := by
  intro l
  induction l with
  | nil => intro pre; rfl
  | cons x l ih =>
   intro pre
   rw [runP]
   cases h : p x
   ·simp only [Bool.false_eq_true, if_false]
    rw [ih, List.find?_cons, h]
   ·simp [h, Rd.el]
 refine (loop_pre (S := Unit) (R := α) l (fun _ x _ => if p x = true then .out x else .go ()) (fun pre _ => vs pre.length) (fun _ _ => σ') (fun _ => fin) (fun pre _ x => ret pre.length x) (fun _ _ => True) () (fun _ => K1) K2
  ?_ (fun _ _ => hend) trivial (fun _ _ _ _ _ _ _ _ => trivial) (fun _ _ => hk1) (fun _ _ _ _ _ _ _ _ => hk2 _ _) (fun _ => hfin) (fun _ _ _ => hret _ _)).trans (run l [])
 intro pre x rest u hl _
 rw [hstep pre.length x (pre_get hl)]
 cases p x <;> simp [Rd.el]
/-- A loop that looks for the place of an element. -/
theorem loop_idx {α γ : Type} {f : List AV → Heap → Option (AX × List AV × Heap)} (l : List α) (p : α → Bool) (vs : Nat → List AV) (σ : Heap) (fin : AX × List AV × Heap) (ret : Nat → AX × List AV × Heap) {k : AX × List AV × Heap → Option γ} (K1 : Option γ) (K2 : Int → Option γ)
  (hstep : ∀ (i : Nat) (x : α), l[i]? = some x → f (vs i) σ = if p x = true then some (ret i) else some (.normal, vs (i + 1), σ)) (hend : f (vs l.length) σ = some fin) (hk1 : k fin = K1) (hk2 : ∀ i : Nat, k (ret i) = K2 i)
  (hfin : fin.1 ≠ .normal := by simp) (hret : ∀ i, (ret i).1 ≠ .normal := by intros; simp) {v : List AV} {σ' : Heap} (hv : v = vs 0 := by rfl) (hσ : σ' = σ := by rfl) :
  (A.loop f v σ').bind k = if idxI p l = -1 then K1 else K2 (idxI p l) := by
 subst hv hσ
 refine (loop_pre (S := Unit) (R := Int) l (fun pre x _ => if p x = true then .out (pre.length : Int) else .go ()) (fun pre _ => vs pre.length) (fun _ _ => σ') (fun _ => fin) (fun pre _ _ => ret pre.length) (fun _ _ => True) () (fun _ => K1) K2
  ?_ (fun _ _ => hend) trivial (fun _ _ _ _ _ _ _ _ => trivial) (fun _ _ => hk1) ?_ (fun _ => hfin) (fun _ _ _ => hret _)).trans ?_
 ·intro pre x rest u hl _
  rw [hstep pre.length x (pre_get hl)]
  cases p x <;> simp [Rd.el]
 ·intro pre x rest s r hl _ hb
  rw [hk2]
  cases h : p x
  ·rw [h] at hb; cases hb
  ·rw [h] at hb; simp at hb; rw [hb]
 ·have := idxI_run p K1 K2 l [] (by simp)
  simpa using this
/-- The end of a loop over a list. -/
theorem hend_lss {α : Type} (n : Int) (B : AV → Option α) (s : Option α) : ((A.lss (.int .i64 n) (.int .i64 n)).bind fun x => A.cond x (B x) s) = s := by
 simp only [aLss, Int.lt_irrefl, Option.bind_some, decide_false, cF]
/-! ### simp goes only where the run goes -/
section
variable {α β : Type}
theorem cond_lazy {c c' : AV} (h : c = c') (t e : Option α) : A.cond c t e = A.cond c' t e := by rw [h]
theorem guard_lazy {c c' : AV} (h : c = c') (w : Bool) (e d : Option α) : A.guard c w e d = A.guard c' w e d := by rw [h]
theorem bind_lazy {x y : Option α} (h : x = y) (f : α → Option β) : x.bind f = y.bind f := by rw [h]
attribute [congr] cond_lazy guard_lazy bind_lazy
end
/-- All of them at once. -/
theorem MSb : type_of% @Option.bind_some.{0,0} ∧ type_of% @Option.map_some.{0,0} ∧ type_of% @cT ∧ type_of% @cF ∧ type_of% @gTT ∧ type_of% @gTF ∧ type_of% @gFT ∧ type_of% @gFF ∧ type_of% @gN ∧ type_of% @pT ∧ type_of% @pF ∧ type_of% @cond_true.{1} ∧ type_of% @cond_false.{1} ∧ type_of% @xN ∧ type_of% @aAdd ∧ type_of% @aSub ∧ type_of% @aMul ∧ type_of% @aLss ∧ type_of% @aLeq ∧ type_of% @aGtr ∧ type_of% @aGeq ∧ type_of% @aLss8 ∧ type_of% @aLeq8 ∧ type_of% @aGtr8 ∧ type_of% @aGeq8 ∧ type_of% @aEq ∧ type_of% @aNe ∧ type_of% @aEqZ ∧ type_of% @aNeZ ∧ type_of% @aNot ∧ type_of% @aNotD ∧ type_of% @aLb ∧ type_of% @aExt0 ∧ type_of% @aExt1 ∧ type_of% @aExt2 ∧ type_of% @aExt3 ∧ type_of% @aDe ∧ type_of% @aFa ∧ type_of% @aLenZ ∧ type_of% @aCI ∧ type_of% @aCB ∧ type_of% @aCS ∧ type_of% @aCSl ∧ type_of% @p1D ∧ type_of% @gd0 ∧ type_of% @gd1 ∧ type_of% @gd2 ∧ type_of% @gd3 ∧ type_of% @gd4 ∧ type_of% @gd5 ∧ type_of% @gd6 ∧ type_of% @gd7 ∧ type_of% @gd8 ∧ type_of% @fin_same ∧ type_of% @fin_int ∧ type_of% @fin_bool ∧ type_of% @fin_str ∧ type_of% @fin_unit ∧ type_of% @lenS_sl ∧ type_of% @ite_true.{1} ∧ type_of% @ite_false.{1} ∧ type_of% @if_true.{1} ∧ type_of% @if_false.{1} ∧ type_of% @Bool.false_eq_true ∧ type_of% @not_true_eq_false ∧ type_of% @not_false_eq_true ∧ type_of% @decide_true ∧ type_of% @decide_false ∧ type_of% @Bool.not_true ∧ type_of% @Bool.not_false ∧ type_of% @List.append_assoc.{0} ∧ type_of% @List.cons_append.{0} ∧ type_of% @List.nil_append.{0} ∧ type_of% @List.drop_zero.{0} ∧ type_of% @p1_cInt ∧ type_of% @p1_cStr ∧ type_of% @len_snoc ∧ type_of% @Int.natCast_add ∧ type_of% @Int.cast_ofNat_Int ∧ type_of% @quiet_same ∧ type_of% @el_go ∧ type_of% @el_out ∧ type_of% @el_ite ∧ type_of% @setZ_look0 ∧ type_of% @setI_look0 ∧ type_of% @setZ_look1 ∧ type_of% @setI_look1 ∧ type_of% @setZ_snoc ∧ type_of% @setZ_upd0 ∧ type_of% @setI_upd0 ∧ type_of% @setZ_upd1 ∧ type_of% @setI_upd1 ∧ type_of% @true_and ∧ type_of% @and_true ∧ type_of% @false_and ∧ type_of% @and_false ∧ type_of% @true_or ∧ type_of% @or_true ∧ type_of% @false_or ∧ type_of% @or_false ∧ type_of% @Option.getD_some.{0} ∧ type_of% @Option.getD_none.{0} ∧ type_of% @List.length_append.{0} ∧ type_of% @List.length_cons.{0} ∧ type_of% @List.length_nil.{0} ∧ type_of% @Nat.zero_add ∧ type_of% @Nat.add_zero :=
 ⟨@Option.bind_some.{0,0}, @Option.map_some.{0,0}, @cT, @cF, @gTT, @gTF, @gFT, @gFF, @gN, @pT, @pF, @cond_true.{1}, @cond_false.{1}, @xN, @aAdd, @aSub, @aMul, @aLss, @aLeq, @aGtr, @aGeq, @aLss8, @aLeq8, @aGtr8, @aGeq8, @aEq, @aNe, @aEqZ, @aNeZ, @aNot, @aNotD, @aLb, @aExt0, @aExt1, @aExt2, @aExt3, @aDe, @aFa, @aLenZ, @aCI, @aCB, @aCS, @aCSl, @p1D, @gd0, @gd1, @gd2, @gd3, @gd4, @gd5, @gd6, @gd7, @gd8, @fin_same, @fin_int, @fin_bool, @fin_str, @fin_unit, @lenS_sl, @ite_true.{1}, @ite_false.{1}, @if_true.{1}, @if_false.{1}, @Bool.false_eq_true, @not_true_eq_false, @not_false_eq_true, @decide_true, @decide_false, @Bool.not_true, @Bool.not_false, @List.append_assoc.{0}, @List.cons_append.{0}, @List.nil_append.{0}, @List.drop_zero.{0}, @p1_cInt, @p1_cStr, @len_snoc, @Int.natCast_add, @Int.cast_ofNat_Int, @quiet_same, @el_go, @el_out, @el_ite, @setZ_look0, @setI_look0, @setZ_look1, @setI_look1, @setZ_snoc, @setZ_upd0, @setI_upd0, @setZ_upd1, @setI_upd1, @true_and, @and_true, @false_and, @and_false, @true_or, @or_true, @false_or, @or_false, @Option.getD_some.{0}, @Option.getD_none.{0}, @List.length_append.{0}, @List.length_cons.{0}, @List.length_nil.{0}, @Nat.zero_add, @Nat.add_zero⟩
end Go.Proofs.Ytohbeolimnpehaa

/- The cells of api's types hold nothing of a call's own. Written by a program. -/
namespace Go.Proofs.Ytohbeolimnpehaa
set_option linter.unusedSectionVars false
set_option linter.unusedSimpArgs false
set_option linter.unusedVariables false
theorem fz_cPoint (x : PointD) : FzL (cPoint x) := (fzL_cons (fz_int _ _) (fzL_cons (fz_int _ _) fzL_nil))
theorem fz_cKey (x : KeyD) : FzL (cKey x) := (fzL_cons (fz_int _ _) (fzL_cons (fz_str _) fzL_nil))
theorem fz_cMove (x : MoveD) : FzL (cMove x) := (fzL_cons (fz_int _ _) (fzL_cons (fz_str _) (fzL_cons (fz_int _ _) (fzL_cons (fz_int _ _) (fzL_cons (fz_bool _) (fzL_cons (fz_bool _) (fzL_cons (fz_int _ _) (fzL_cons (fz_int _ _) fzL_nil))))))))
theorem fz_cCue (x : CueD) : FzL (cCue x) := (fzL_cons (fz_int _ _) (fzL_cons (fz_str _) (fzL_cons (fz_int _ _) (fzL_cons (fz_int _ _) (fzL_cons (fz_int _ _) (fzL_cons (fz_int _ _) (fzL_cons (fz_int _ _) (fzL_cons (fz_sl fz_cPoint _) (fzL_cons (fz_bool _) (fzL_cons (fz_int _ _) (fzL_cons (fz_sl fz_cMove _) fzL_nil)))))))))))
theorem fz_cAction (x : ActionD) : FzL (cAction x) := (fzL_cons (fz_int _ _) (fzL_cons (fz_int _ _) (fzL_cons (fz_int _ _) (fzL_cons (fz_int _ _) (fzL_cons (fz_int _ _) fzL_nil)))))
theorem fz_cEvent (x : EventD) : FzL (cEvent x) := (fzL_cons (fz_int _ _) (fzL_cons (fz_int _ _) (fzL_cons (fz_int _ _) (fzL_cons (fz_int _ _) (fzL_cons (fz_int _ _) (fzL_cons (fz_int _ _) fzL_nil))))))
end Go.Proofs.Ytohbeolimnpehaa

/- Structs compared; a value of each type. Written by a program. -/
namespace Go.Proofs.Ytohbeolimnpehaa
set_option linter.unusedSectionVars false
set_option linter.unusedVariables false
set_option linter.unusedSimpArgs false
instance : Inhabited ByteArray := ⟨⟨#[]⟩⟩
instance : Inhabited PointD := ⟨⟨0, 0⟩⟩
instance : Inhabited CurveD := ⟨⟨0, []⟩⟩
instance : Inhabited FadeD := ⟨⟨0, 0, 0, 0, 0, ⟨0, []⟩⟩⟩
instance : Inhabited ChangeD := ⟨⟨0, 0⟩⟩
instance : Inhabited RangeD := ⟨⟨0, 0, ⟨#[]⟩⟩⟩
instance : Inhabited ParamD := ⟨⟨⟨#[]⟩, 0, 0, 0, 0, false, []⟩⟩
instance : Inhabited ProfileD := ⟨⟨⟨#[]⟩, 0, []⟩⟩
instance : Inhabited UnitD := ⟨⟨0, ⟨#[]⟩, 0, 0⟩⟩
instance : Inhabited RigD := ⟨⟨[], []⟩⟩
instance : Inhabited KeyD := ⟨⟨0, ⟨#[]⟩⟩⟩
theorem eqk_Key (a b : KeyD) : A.eqK (.s [0, 2]) (.agg (cKey a)) (.agg (cKey b)) = some (decide (a = b)) := by
 obtain ⟨x1, x2⟩ := a
 obtain ⟨x101, x102⟩ := b
 simp only [A.eqK, cKey, A.eqAll, A.eqC, A.eqI, A.eqB, A.eqZ, if_true, Option.bind_some, Option.map_some, bq]
 congr 1
 rw [Bool.eq_iff_iff]
 simp [and_assoc]
theorem eq_Key (a b : KeyD) : A.eql (.s [0, 2]) (.agg (cKey a)) (.agg (cKey b)) = some (.bool (decide (a = b))) := by rw [A.eql, eqk_Key]; rfl
instance : Inhabited SettingD := ⟨⟨⟨0, ⟨#[]⟩⟩, 0⟩⟩
instance : Inhabited PresetD := ⟨⟨0, ⟨#[]⟩, []⟩⟩
instance : Inhabited FanD := ⟨⟨[], 0, 0⟩⟩
instance : Inhabited ValueD := ⟨⟨0, 0⟩⟩
theorem eqk_Value (a b : ValueD) : A.eqK (.s [0, 0]) (.agg (cValue a)) (.agg (cValue b)) = some (decide (a = b)) := by
 obtain ⟨x1, x2⟩ := a
 obtain ⟨x101, x102⟩ := b
 simp only [A.eqK, cValue, A.eqAll, A.eqC, A.eqI, A.eqB, A.eqZ, if_true, Option.bind_some, Option.map_some, bq]
 congr 1
 rw [Bool.eq_iff_iff]
 simp [and_assoc]
theorem ne_Value (a b : ValueD) : A.neq (.s [0, 0]) (.agg (cValue a)) (.agg (cValue b)) = some (.bool (decide (¬ (a = b)))) := by rw [A.neq, eqk_Value, Option.map_some, decide_not]
instance : Inhabited MoveD := ⟨⟨⟨0, ⟨#[]⟩⟩, ⟨0, 0⟩, false, false, 0, 0⟩⟩
instance : Inhabited CueD := ⟨⟨0, ⟨#[]⟩, 0, 0, 0, 0, ⟨0, []⟩, false, 0, []⟩⟩
instance : Inhabited EntryD := ⟨⟨⟨0, ⟨#[]⟩⟩, ⟨0, 0⟩, 0⟩⟩
instance : Inhabited MarkD := ⟨⟨0, 0, 0⟩⟩
instance : Inhabited ListD := ⟨⟨0, []⟩⟩
instance : Inhabited PlaybackD := ⟨⟨0, 0, 0⟩⟩
instance : Inhabited SetupD := ⟨⟨⟨[], []⟩, [], [], []⟩⟩
instance : Inhabited ActionD := ⟨⟨0, 0, 0, 0, 0⟩⟩
instance : Inhabited EventD := ⟨⟨0, ⟨0, 0, 0, 0, 0⟩⟩⟩
theorem eqk_Event (a b : EventD) : A.eqK (.s [0, 0, 0, 0, 0, 0]) (.agg (cEvent a)) (.agg (cEvent b)) = some (decide (a = b)) := by
 obtain ⟨x1, ⟨x2, x3, x4, x5, x6⟩⟩ := a
 obtain ⟨x101, ⟨x102, x103, x104, x105, x106⟩⟩ := b
 simp only [A.eqK, cEvent, A.eqAll, A.eqC, A.eqI, A.eqB, A.eqZ, if_true, Option.bind_some, Option.map_some, bq]
 congr 1
 rw [Bool.eq_iff_iff]
 simp [and_assoc]
theorem ne_Event (a b : EventD) : A.neq (.s [0, 0, 0, 0, 0, 0]) (.agg (cEvent a)) (.agg (cEvent b)) = some (.bool (decide (¬ (a = b)))) := by rw [A.neq, eqk_Event, Option.map_some, decide_not]
instance : Inhabited StampD := ⟨⟨0, 0, 0, 0⟩⟩
instance : Inhabited RunD := ⟨⟨⟨0, ⟨#[]⟩⟩, ⟨0, 0, 0, 0, 0, ⟨0, []⟩⟩, 0, false⟩⟩
instance : Inhabited StandingD := ⟨⟨0, 0, 0, false, 0, []⟩⟩
instance : Inhabited EffectStepD := ⟨⟨0, 0, 0⟩⟩
instance : Inhabited EffectD := ⟨⟨0, 0, 0, 0, 0, 0, false, false, []⟩⟩
instance : Inhabited RateD := ⟨⟨0, 0⟩⟩
instance : Inhabited RunningD := ⟨⟨⟨0, 0, 0, 0, 0, 0, false, false, []⟩, [], 0, [], 0, 0, 0⟩⟩
end Go.Proofs.Ytohbeolimnpehaa

/- Typed runs: a run of a mirror is followed by a run over plain data. -/
namespace Go.Proofs.Ytohbeolimnpehaa
set_option linter.unusedSectionVars false
set_option linter.unusedVariables false
set_option linter.unusedSimpArgs false
/-- Where the typed run T has a result, the run M has one, and they fit. -/
def Rf {β τ : Type} (M : Option β) (T : Option τ) (Q : τ → β → Prop) : Prop := ∀ t, T = some t → ∃ b, M = some b ∧ Q t b
section
variable {α β ω τ ζ : Type}
theorem rf_s {M0 : Option α} {K : α → Option β} {T : Option τ} {Q : τ → β → Prop} (a : α) (h : M0 = some a) (k : Rf (K a) T Q) : Rf (M0.bind K) T Q := by
 intro t ht; obtain ⟨b, h1, h2⟩ := k t ht; exact ⟨b, by rw [h]; exact h1, h2⟩
theorem rf_o {M0 : Option α} {K : α → Option β} {o : Option ω} {K' : ω → Option τ} {Q : τ → β → Prop} (e : ω → α) (h : ∀ t, o = some t → M0 = some (e t)) (k : ∀ t, o = some t → Rf (K (e t)) (K' t) Q) : Rf (M0.bind K) (o.bind K') Q := by
 intro t ht
 obtain ⟨x, h1, h2⟩ := Option.bind_eq_some_iff.1 ht
 obtain ⟨b, h3, h4⟩ := k x h1 t h2
 exact ⟨b, by rw [h x h1]; exact h3, h4⟩
theorem rf_b {M0 : Option α} {K : α → Option β} {o : Option ω} {K' : ω → Option τ} {Q : τ → β → Prop} (Q0 : ω → α → Prop) (h : Rf M0 o Q0) (k : ∀ t a, Q0 t a → Rf (K a) (K' t) Q) : Rf (M0.bind K) (o.bind K') Q := by
 intro t ht
 obtain ⟨x, h1, h2⟩ := Option.bind_eq_some_iff.1 ht
 obtain ⟨a, h3, h4⟩ := h x h1
 obtain ⟨b, h5, h6⟩ := k x a h4 t h2
 exact ⟨b, by rw [h3]; exact h5, h6⟩
theorem rf_ret {t : τ} {b : β} {Q : τ → β → Prop} (h : Q t b) : Rf (some b) (some t) Q := by
 intro u hu; cases hu; exact ⟨b, rfl, h⟩
theorem rf_fin {M : Option β} {t : τ} {Q : τ → β → Prop} (b : β) (e : M = some b) (h : Q t b) : Rf M (some t) Q := by
 rw [e]; exact rf_ret h
theorem rf_none {M : Option β} {Q : τ → β → Prop} : Rf M (none : Option τ) Q := by intro u hu; cases hu
theorem rf_tq {M : Option β} {p : Prop} [Decidable p] {T : Option τ} {Q : τ → β → Prop} (h : p → Rf M T Q) : Rf M (if p then T else none) Q := by
 split
 ·exact h ‹_›
 ·exact rf_none
theorem rf_c {p : Prop} [Decidable p] {X Y : Option β} {X' Y' : Option τ} {Q : τ → β → Prop} (h1 : p → Rf X X' Q) (h2 : ¬ p → Rf Y Y' Q) : Rf (A.cond (.bool (decide p)) X Y) (if p then X' else Y') Q := by
 by_cases h : p
 ·simp only [h, decide_true, if_true]; exact h1 h
 ·simp only [h, decide_false, if_false]; exact h2 h
theorem rf_cb {c : Bool} {X Y : Option β} {X' Y' : Option τ} {Q : τ → β → Prop} (h1 : c = true → Rf X X' Q) (h2 : c = false → Rf Y Y' Q) : Rf (A.cond (.bool c) X Y) (if c = true then X' else Y') Q := by
 cases c
 ·exact h2 rfl
 ·exact h1 rfl
theorem rf_ct {X Y : Option β} {T : Option τ} {Q : τ → β → Prop} (h : Rf X T Q) : Rf (A.cond (.bool true) X Y) T Q := h
theorem rf_cf {X Y : Option β} {T : Option τ} {Q : τ → β → Prop} (h : Rf Y T Q) : Rf (A.cond (.bool false) X Y) T Q := h
theorem rf_bt {c : Bool} {X Y : Option β} {T : Option τ} {Q : τ → β → Prop} (e : c = true) (h : Rf X T Q) : Rf (bif c then X else Y) T Q := by rw [e]; exact h
theorem rf_bf {c : Bool} {X Y : Option β} {T : Option τ} {Q : τ → β → Prop} (e : c = false) (h : Rf Y T Q) : Rf (bif c then X else Y) T Q := by rw [e]; exact h
/-- A value that is there only where a test says so. -/
def gv {α : Type} (g : Bool) (e : α → AV) (t : α) : AV := bif g then e t else .tup []
end
/-! ### Loops -/
inductive Lr (S B R : Type) where
 | go (s : S)
 | brk (b : B)
 | ret (r : R)
/-- Rounds of a loop over a list. -/
def forL {α S B R : Type} (body : Nat → α → S → Option (Lr S B R)) (fin : S → Option B) : List α → Nat → S → Option (B ⊕ R)
 | [], _, s => (fin s).map .inl
 | x :: l, i, s => (body i x s).bind fun q => match q with | .go s' => forL body fin l (i + 1) s' | .brk b => some (.inl b) | .ret r => some (.inr r)
def forE {α S B R γ : Type} (l : List α) (body : Nat → α → S → Option (Lr S B R)) (fin : S → Option B) (s : S) (K1 : B → Option γ) (K2 : R → Option γ) : Option γ :=
 if l.length ≤ mxl then (forL body fin l 0 s).bind fun q => q.elim K1 K2 else none
/-- Rounds of a loop. -/
def itL {S B R : Type} (body : S → Option (Lr S B R)) : Nat → S → Option (B ⊕ R)
 | 0, _ => none
 | n + 1, s => (body s).bind fun q => match q with | .go s' => itL body n s' | .brk b => some (.inl b) | .ret r => some (.inr r)
noncomputable def whL {S B R : Type} (body : S → Option (Lr S B R)) (s : S) : Option (B ⊕ R) := open Classical in if h : ∃ n r, itL body n s = some r then some (Classical.choose (Classical.choose_spec h)) else none
noncomputable def whE {S B R γ : Type} (body : S → Option (Lr S B R)) (s : S) (K1 : B → Option γ) (K2 : R → Option γ) : Option γ := (whL body s).bind fun q => q.elim K1 K2
theorem itL_one {S B R : Type} {body : S → Option (Lr S B R)} : ∀ {n m : Nat} {s : S} {r r' : B ⊕ R}, itL body n s = some r → itL body m s = some r' → r = r' := by
 intro n
 induction n with
 | zero => intro m s r r' h; cases h
 | succ n ih =>
  intro m s r r' h1 h2
  cases m with
  | zero => cases h2
  | succ m =>
   simp only [itL] at h1 h2
   cases hf : body s with
   | none => rw [hf] at h1; cases h1
   | some q =>
    rw [hf] at h1 h2
    simp only [Option.bind_some] at h1 h2
    cases q with
    | go s' => exact ih h1 h2
    | brk b => simp only at h1 h2; rw [h1] at h2; injection h2
    | ret b => simp only at h1 h2; rw [h1] at h2; injection h2
theorem whL_of {S B R : Type} {body : S → Option (Lr S B R)} {n : Nat} {s : S} {r : B ⊕ R} (h : itL body n s = some r) : whL body s = some r := by
 have hex : ∃ n r, itL body n s = some r := ⟨n, r, h⟩
 unfold whL
 rw [dif_pos hex]
 exact congrArg some (itL_one (Classical.choose_spec (Classical.choose_spec hex)) h)
theorem whL_it {S B R : Type} {body : S → Option (Lr S B R)} {s : S} {r : B ⊕ R} (h : whL body s = some r) : ∃ n, itL body n s = some r := by
 unfold whL at h
 split at h
 ·rename_i hx
  injection h with h
  subst h
  exact ⟨_, Classical.choose_spec (Classical.choose_spec hx)⟩
 ·cases h
/-- One round ahead. -/
theorem whL_step {S B R : Type} (body : S → Option (Lr S B R)) (s : S) : whL body s = (body s).bind fun q => match q with | .go s' => whL body s' | .brk b => some (.inl b) | .ret r => some (.inr r) := by
 cases hf : body s with
 | none =>
  rw [Option.bind_none]
  unfold whL
  rw [dif_neg]
  rintro ⟨n, r, h⟩
  cases n with
  | zero => cases h
  | succ n => simp [itL, hf] at h
 | some q =>
  rw [Option.bind_some]
  cases q with
  | brk b => exact whL_of (n := 1) (by simp [itL, hf])
  | ret b => exact whL_of (n := 1) (by simp [itL, hf])
  | go s' =>
   show whL body s = whL body s'
   cases h : whL body s' with
   | some r =>
    obtain ⟨n, hn⟩ := whL_it h
    exact whL_of (n := n + 1) (by simp [itL, hf, hn])
   | none =>
    cases h2 : whL body s with
    | none => rfl
    | some r =>
     obtain ⟨n, hn⟩ := whL_it h2
     cases n with
     | zero => cases hn
     | succ n =>
      simp only [itL, hf, Option.bind_some] at hn
      rw [whL_of hn] at h; cases h
section
variable {α S B R β τ : Type}
abbrev LS := AX × List AV × Heap
/-- How a round fits. -/
def Rnd (I : S → List AV → Heap → Prop) (QB : B → LS → Prop) (QR : R → LS → Prop) (t : Lr S B R) (q : LS) : Prop := match t with
 | .go s => q.1 = .normal ∧ I s q.2.1 q.2.2
 | .brk b => q.1 ≠ .normal ∧ QB b q
 | .ret r => q.1 ≠ .normal ∧ QR r q
theorem rnd_go {I : S → List AV → Heap → Prop} {QB : B → LS → Prop} {QR : R → LS → Prop} {s : S} {v : List AV} {σ : Heap} (h : I s v σ) : Rnd I QB QR (.go s) (.normal, v, σ) := ⟨rfl, h⟩
theorem rnd_brk {I : S → List AV → Heap → Prop} {QB : B → LS → Prop} {QR : R → LS → Prop} {b : B} {q : LS} (n : q.1 ≠ .normal) (h : QB b q) : Rnd I QB QR (.brk b) q := ⟨n, h⟩
theorem rnd_ret {I : S → List AV → Heap → Prop} {QB : B → LS → Prop} {QR : R → LS → Prop} {r : R} {q : LS} (n : q.1 ≠ .normal) (h : QR r q) : Rnd I QB QR (.ret r) q := ⟨n, h⟩
theorem rf_for {f : List AV → Heap → Option LS} {K : LS → Option β} {Q : τ → β → Prop} {l : List α} {body : Nat → α → S → Option (Lr S B R)} {fin : S → Option B} {s0 : S} {K1 : B → Option τ} {K2 : R → Option τ} {v0 : List AV} {σ0 : Heap}
  (I : Nat → S → List AV → Heap → Prop) (QB : B → LS → Prop) (QR : R → LS → Prop)
  (hstep : l.length ≤ mxl → ∀ i x s v σ, l[i]? = some x → I i s v σ → Rf (f v σ) (body i x s) (Rnd (I (i + 1)) QB QR))
  (hend : l.length ≤ mxl → ∀ s v σ, I l.length s v σ → Rf (f v σ) (fin s) (fun b q => q.1 ≠ .normal ∧ QB b q))
  (h0 : I 0 s0 v0 σ0) (k1 : l.length ≤ mxl → ∀ b q, QB b q → Rf (K q) (K1 b) Q) (k2 : l.length ≤ mxl → ∀ r q, QR r q → Rf (K q) (K2 r) Q) :
  Rf ((A.loop f v0 σ0).bind K) (forE l body fin s0 K1 K2) Q := by
 unfold forE
 refine rf_tq fun hl => ?_
 have hstep := hstep hl
 have hend := hend hl
 have key : ∀ (rest pre : List α) (s : S) (v : List AV) (σ : Heap), l = pre ++ rest → I pre.length s v σ → ∀ t, forL body fin rest pre.length s = some t → ∃ q, (∃ n, A.iter f n v σ = some q) ∧ (match t with | .inl b => QB b q | .inr r => QR r q) := by
  intro rest
  induction rest with
  | nil =>
   intro pre s v σ hl hI t ht
   rw [List.append_nil] at hl
   subst hl
   simp only [forL] at ht
   obtain ⟨b, hb, rfl⟩ := Option.map_eq_some_iff.1 ht
   obtain ⟨q, h1, h2, h3⟩ := hend s v σ hI b hb
   exact ⟨q, loop_done h1 h2, h3⟩
  | cons x rest ih =>
   intro pre s v σ hl hI t ht
   simp only [forL] at ht
   obtain ⟨y, hy, h2⟩ := Option.bind_eq_some_iff.1 ht
   obtain ⟨q, h3, h4⟩ := hstep pre.length x s v σ (by rw [hl]; simp) hI y hy
   obtain ⟨e, v', σ'⟩ := q
   cases y with
   | go s' =>
    obtain ⟨rfl, hI'⟩ := h4
    obtain ⟨q, h5, h6⟩ := ih (pre ++ [x]) s' v' σ' (by simpa using hl) (by simpa using hI') t (by simpa using h2)
    exact ⟨q, loop_step h3 h5, h6⟩
   | brk b => simp only [Option.some.injEq] at h2; subst h2; exact ⟨_, loop_done h3 h4.1, h4.2⟩
   | ret b => simp only [Option.some.injEq] at h2; subst h2; exact ⟨_, loop_done h3 h4.1, h4.2⟩
 intro t ht
 obtain ⟨y, hy, h2⟩ := Option.bind_eq_some_iff.1 ht
 obtain ⟨q, ⟨n, hn⟩, h3⟩ := key l [] s0 v0 σ0 rfl h0 y hy
 cases y with
 | inl b => obtain ⟨z, h4, h5⟩ := k1 hl b q h3 t h2; exact ⟨z, by rw [loop_of_iter hn]; exact h4, h5⟩
 | inr b => obtain ⟨z, h4, h5⟩ := k2 hl b q h3 t h2; exact ⟨z, by rw [loop_of_iter hn]; exact h4, h5⟩
theorem rf_wh {f : List AV → Heap → Option LS} {K : LS → Option β} {Q : τ → β → Prop} {body : S → Option (Lr S B R)} {s0 : S} {K1 : B → Option τ} {K2 : R → Option τ} {v0 : List AV} {σ0 : Heap}
  (I : S → List AV → Heap → Prop) (QB : B → LS → Prop) (QR : R → LS → Prop)
  (hstep : ∀ s v σ, I s v σ → Rf (f v σ) (body s) (Rnd I QB QR))
  (h0 : I s0 v0 σ0) (k1 : ∀ b q, QB b q → Rf (K q) (K1 b) Q) (k2 : ∀ r q, QR r q → Rf (K q) (K2 r) Q) :
  Rf ((A.loop f v0 σ0).bind K) (whE body s0 K1 K2) Q := by
 have key : ∀ (n : Nat) (s : S) (v : List AV) (σ : Heap), I s v σ → ∀ t, itL body n s = some t → ∃ q, (∃ n, A.iter f n v σ = some q) ∧ (match t with | .inl b => QB b q | .inr r => QR r q) := by
  intro n
  induction n with
  | zero => intro s v σ hI t ht; cases ht
  | succ n ih =>
   intro s v σ hI t ht
   simp only [itL] at ht
   obtain ⟨y, hy, h2⟩ := Option.bind_eq_some_iff.1 ht
   obtain ⟨q, h3, h4⟩ := hstep s v σ hI y hy
   obtain ⟨e, v', σ'⟩ := q
   cases y with
   | go s' =>
    obtain ⟨rfl, hI'⟩ := h4
    obtain ⟨q, h5, h6⟩ := ih s' v' σ' hI' t h2
    exact ⟨q, loop_step h3 h5, h6⟩
   | brk b => simp only [Option.some.injEq] at h2; subst h2; exact ⟨_, loop_done h3 h4.1, h4.2⟩
   | ret b => simp only [Option.some.injEq] at h2; subst h2; exact ⟨_, loop_done h3 h4.1, h4.2⟩
 intro t ht
 obtain ⟨y, hy, h2⟩ := Option.bind_eq_some_iff.1 ht
 obtain ⟨n, hn⟩ := whL_it hy
 obtain ⟨q, ⟨m, hm⟩, h3⟩ := key n s0 v0 σ0 h0 y hn
 cases y with
 | inl b => obtain ⟨z, h4, h5⟩ := k1 b q h3 t h2; exact ⟨z, by rw [loop_of_iter hm]; exact h4, h5⟩
 | inr b => obtain ⟨z, h4, h5⟩ := k2 b q h3 t h2; exact ⟨z, by rw [loop_of_iter hm]; exact h4, h5⟩
/-- The steps of a loop over a list. -/
theorem ix_lt {l : List α} {i : Nat} {x : α} (h : l[i]? = some x) : A.lss (.int .i64 (i : Int)) (.int .i64 (l.length : Int)) = some (.bool true) := by
 have := (List.getElem?_eq_some_iff.1 h).1
 rw [aLss]; simp; omega
theorem ix_end (l : List α) : A.lss (.int .i64 (l.length : Int)) (.int .i64 (l.length : Int)) = some (.bool false) := by rw [aLss]; simp
theorem ix_inc {l : List α} {i : Nat} {x : α} (h : l[i]? = some x) (hl : l.length ≤ mxl) : A.add (.int .i64 (i : Int)) (.int .i64 1) = some (.int .i64 ((i + 1 : Nat) : Int)) := by
 have := (List.getElem?_eq_some_iff.1 h).1
 rw [aAdd, wrap64 (by unfold inI; unfold mxl at hl; omega)]
 simp
/-- An element, if there is one. -/
def tIx (l : List α) (i : Int) : Option α := if 0 ≤ i then l[i.toNat]? else none
theorem ix_at {sz : Nat} {c : α → List AV} {l : List α} {i : Int} {x : α} (h : tIx l i = some x) : A.iaddr sz (sl sz c l) (.int .i64 i) = some (.rp (c x)) := by
 unfold tIx at h
 split at h
 ·exact iaddr_int sz c l ‹_› h
 ·cases h
theorem ix_for {sz : Nat} {c : α → List AV} {l : List α} {i : Nat} {x : α} (h : l[i]? = some x) : A.iaddr sz (sl sz c l) (.int .i64 (i : Int)) = some (.rp (c x)) := iaddr_sl sz c l h
end
theorem quiet_of {M : Option (AV × Heap)} {v : AV} {σ : Heap} (h : M = some (v, σ)) : A.quiet M σ = some v := by rw [h, quiet_same]
/-- A value under a condition. -/
noncomputable def tq {α : Type} (p : Prop) (x : α) : Option α := open Classical in if p then some x else none
theorem tq_pos {α : Type} {p : Prop} {x : α} (h : p) : tq p x = some x := if_pos h
theorem tq_of {α β : Type} {p : Prop} {x r : α} {M : Option β} {e : α → β} (h : p → M = some (e x)) (k : tq p x = some r) : M = some (e r) := by
 unfold tq at k
 split at k
 ·rename_i hp; injection k with k; subst k; exact h hp
 ·cases k
/-! ### Tests that go on only where the first says so -/
theorem pk_and (b t : Bool) : A.pick (.bool b) (bif b then .bool t else .tup []) (.bool false) = some (.bool (b && t)) := by cases b <;> rfl
theorem pk_or (b t : Bool) : A.pick (.bool b) (.bool true) (bif !b then .bool t else .tup []) = some (.bool (b || t)) := by cases b <;> rfl
section
variable {α β ω τ : Type} {G b : Bool} {M0 : Option AV} {K : AV → Option β} {T : Option τ} {K' : ω → Option τ} {o : Option ω} {Q : τ → β → Prop}
theorem rf_gt (a : AV) (h : b = true → M0 = some a) (k : Rf (K (bif b then a else .tup [])) T Q) : Rf ((A.guard (.bool b) true M0 (some (.tup []))).bind K) T Q := by
 refine rf_s _ ?_ k
 cases b <;> simp_all [A.guard]
theorem rf_gf (a : AV) (h : (!b) = true → M0 = some a) (k : Rf (K (bif !b then a else .tup [])) T Q) : Rf ((A.guard (.bool b) false M0 (some (.tup []))).bind K) T Q := by
 refine rf_s _ ?_ k
 cases b <;> simp_all [A.guard]
theorem rf_ggt (a : AV) (h : (G && b) = true → M0 = some a) (k : Rf (K (bif G && b then a else .tup [])) T Q) : Rf ((A.guard (bif G then .bool b else .tup []) true M0 (some (.tup []))).bind K) T Q := by
 refine rf_s _ ?_ k
 cases G <;> cases b <;> simp_all [A.guard]
theorem rf_ggf (a : AV) (h : (G && !b) = true → M0 = some a) (k : Rf (K (bif G && !b then a else .tup [])) T Q) : Rf ((A.guard (bif G then .bool b else .tup []) false M0 (some (.tup []))).bind K) T Q := by
 refine rf_s _ ?_ k
 cases G <;> cases b <;> simp_all [A.guard]
theorem rf_go {g : Bool} {M : Option AV} {d : ω} (e : ω → AV) (hM : M = bif g then M0 else some (.tup [])) (h : g = true → ∀ t, o = some t → M0 = some (e t)) (k : ∀ t, (g = true → o = some t) → Rf (K (bif g then e t else .tup [])) (K' t) Q) : Rf (M.bind K) ((if g = true then o else some d).bind K') Q := by
 subst hM
 cases g
 ·exact k d (by simp)
 ·intro t ht
  simp only [if_true] at ht
  obtain ⟨x, h1, h2⟩ := Option.bind_eq_some_iff.1 ht
  obtain ⟨y, h3, h4⟩ := k x (fun _ => h1) t h2
  refine ⟨y, ?_, h4⟩
  simp only [cond_true, h rfl x h1, Option.bind_some]
  exact h3
theorem rf_gto {d : ω} (e : ω → AV) (h : b = true → ∀ t, o = some t → M0 = some (e t)) (k : ∀ t, (b = true → o = some t) → Rf (K (bif b then e t else .tup [])) (K' t) Q) : Rf ((A.guard (.bool b) true M0 (some (.tup []))).bind K) ((if b = true then o else some d).bind K') Q := rf_go e (by cases b <;> rfl) h k
theorem rf_gfo {d : ω} (e : ω → AV) (h : (!b) = true → ∀ t, o = some t → M0 = some (e t)) (k : ∀ t, ((!b) = true → o = some t) → Rf (K (bif !b then e t else .tup [])) (K' t) Q) : Rf ((A.guard (.bool b) false M0 (some (.tup []))).bind K) ((if (!b) = true then o else some d).bind K') Q := rf_go e (by cases b <;> rfl) h k
end
/-- From the run of the body to the function. -/
theorem rf_wrap {τ : Type} {ro : Bool} {ain : List Sh} {rout : Sh} {r : List AV → Heap → Option (AV × Heap)} {args args' : List AV} {σ : Heap} {T : Option τ} {enc : τ → AV} (hn : A.nnL ain args = args') (h : args.any A.own = false) (e : Rf (r args' σ) T (fun t b => A.nn rout b.1 = enc t ∧ b.2 = σ)) : ∀ t, T = some t → A.wrap ro ain rout r args σ = some (enc t, σ) := by
 intro t ht
 obtain ⟨⟨v, σ'⟩, h1, h2, h3⟩ := e t ht
 simp only at h2 h3
 subst h3
 exact wrap_eq h (by rw [hn]; exact h1) h2
theorem rf_wrap1 {τ : Type} {ro : Bool} {ain : List Sh} {rout : Sh} {f : AV → Heap → Option (AV × Heap)} {x0 y0 : AV} {σ : Heap} {T : Option τ} {enc : τ → AV} (hn : A.nnL ain [x0] = [y0]) (h : ([x0] : List AV).any A.own = false) (e : Rf (f y0 σ) T (fun t b => A.nn rout b.1 = enc t ∧ b.2 = σ)) : ∀ t, T = some t → A.wrap ro ain rout (A.ar1 f) [x0] σ = some (enc t, σ) := rf_wrap hn h e
theorem rf_wrap2 {τ : Type} {ro : Bool} {ain : List Sh} {rout : Sh} {f : AV → AV → Heap → Option (AV × Heap)} {x0 x1 y0 y1 : AV} {σ : Heap} {T : Option τ} {enc : τ → AV} (hn : A.nnL ain [x0, x1] = [y0, y1]) (h : ([x0, x1] : List AV).any A.own = false) (e : Rf (f y0 y1 σ) T (fun t b => A.nn rout b.1 = enc t ∧ b.2 = σ)) : ∀ t, T = some t → A.wrap ro ain rout (A.ar2 f) [x0, x1] σ = some (enc t, σ) := rf_wrap hn h e
theorem rf_wrap3 {τ : Type} {ro : Bool} {ain : List Sh} {rout : Sh} {f : AV → AV → AV → Heap → Option (AV × Heap)} {x0 x1 x2 y0 y1 y2 : AV} {σ : Heap} {T : Option τ} {enc : τ → AV} (hn : A.nnL ain [x0, x1, x2] = [y0, y1, y2]) (h : ([x0, x1, x2] : List AV).any A.own = false) (e : Rf (f y0 y1 y2 σ) T (fun t b => A.nn rout b.1 = enc t ∧ b.2 = σ)) : ∀ t, T = some t → A.wrap ro ain rout (A.ar3 f) [x0, x1, x2] σ = some (enc t, σ) := rf_wrap hn h e
theorem rf_wrap5 {τ : Type} {ro : Bool} {ain : List Sh} {rout : Sh} {f : AV → AV → AV → AV → AV → Heap → Option (AV × Heap)} {x0 x1 x2 x3 x4 y0 y1 y2 y3 y4 : AV} {σ : Heap} {T : Option τ} {enc : τ → AV} (hn : A.nnL ain [x0, x1, x2, x3, x4] = [y0, y1, y2, y3, y4]) (h : ([x0, x1, x2, x3, x4] : List AV).any A.own = false) (e : Rf (f y0 y1 y2 y3 y4 σ) T (fun t b => A.nn rout b.1 = enc t ∧ b.2 = σ)) : ∀ t, T = some t → A.wrap ro ain rout (A.ar5 f) [x0, x1, x2, x3, x4] σ = some (enc t, σ) := rf_wrap hn h e
end Go.Proofs.Ytohbeolimnpehaa

/- The call's own memory, as a list of what it holds. -/
namespace Go.Proofs.Ytohbeolimnpehaa
set_option linter.unusedSectionVars false
set_option linter.unusedVariables false
set_option linter.unusedSimpArgs false
inductive Ct where
 | s (sz : Nat) (es : List (List AV))
 | m (es : List (AV × AV))
 | b (cs : List AV)
def idOf : AV → Option Nat
 | .os id _ _ _ _ => some id
 | .om id => some id
 | .op id _ => some id
 | _ => none
def Own (n : Nat) (σ : Heap) (p : AV × Ct) : Prop := match p.2 with
 | .s sz es => (p.1 = .nsl ∧ es = []) ∨ ∃ id g off a, p.1 = .os id g sz off es.length ∧ n ≤ id ∧ σ[id]? = some (.arr g sz a) ∧ off ≤ a.length ∧ a.drop off = es
 | .m es => ∃ id, p.1 = .om id ∧ n ≤ id ∧ σ[id]? = some (.map es)
 | .b cs => ∃ id, p.1 = .op id 0 ∧ n ≤ id ∧ σ[id]? = some (.box cs)
structure Hp (σ0 σ : Heap) (L : List (AV × Ct)) : Prop where
 pre : ∃ bs, σ = σ0 ++ bs
 own : ∀ (i : Nat) p, L[i]? = some p → Own σ0.length σ p
 sep : ∀ (i j : Nat) p q a, L[i]? = some p → L[j]? = some q → idOf p.1 = some a → idOf q.1 = some a → i = j
section
variable {σ0 σ σ' : Heap} {L : List (AV × Ct)} {n : Nat}
theorem hp_nil (σ : Heap) : Hp σ σ [] := ⟨⟨[], by simp⟩, by simp, by simp⟩
theorem own_lt {p : AV × Ct} {a : Nat} (h : Own n σ p) (e : idOf p.1 = some a) : n ≤ a ∧ a < σ.length := by
 obtain ⟨v, c⟩ := p
 cases c with
 | s sz es =>
  rcases h with ⟨h1, _⟩ | ⟨id, g, off, x, h1, h2, h3, _⟩
  ·simp only at h1; subst h1; cases e
  ·simp only at h1; subst h1; injection e with e; subst e; exact ⟨h2, (List.getElem?_eq_some_iff.1 h3).1⟩
 | m es => obtain ⟨id, h1, h2, h3⟩ := h; simp only at h1; subst h1; injection e with e; subst e; exact ⟨h2, (List.getElem?_eq_some_iff.1 h3).1⟩
 | b es => obtain ⟨id, h1, h2, h3⟩ := h; simp only at h1; subst h1; injection e with e; subst e; exact ⟨h2, (List.getElem?_eq_some_iff.1 h3).1⟩
theorem own_mono {p : AV × Ct} (h : Own n σ p) (k : ∀ a, idOf p.1 = some a → σ'[a]? = σ[a]?) : Own n σ' p := by
 obtain ⟨v, c⟩ := p
 cases c with
 | s sz es =>
  rcases h with h | ⟨id, g, off, x, h1, h2, h3, h4⟩
  ·exact .inl h
  ·simp only at h1; subst h1; exact .inr ⟨id, g, off, x, rfl, h2, by rw [k id rfl]; exact h3, h4⟩
 | m es => obtain ⟨id, h1, h2, h3⟩ := h; simp only at h1; subst h1; exact ⟨id, rfl, h2, by rw [k id rfl]; exact h3⟩
 | b es => obtain ⟨id, h1, h2, h3⟩ := h; simp only at h1; subst h1; exact ⟨id, rfl, h2, by rw [k id rfl]; exact h3⟩
theorem pre_set (h : ∃ bs, σ = σ0 ++ bs) {id : Nat} (hn : σ0.length ≤ id) (b : Blk) : ∃ bs, σ.set id b = σ0 ++ bs := by
 obtain ⟨bs, rfl⟩ := h
 exact ⟨bs.set (id - σ0.length) b, by rw [List.set_append_right _ _ hn]⟩
/-- One thing changes in its place. -/
theorem hp_set (H : Hp σ0 σ L) {k id : Nat} {h h' : AV} {c c' : Ct} {b : Blk} (hk : L[k]? = some (h, c)) (hi : idOf h = some id) (hi' : idOf h' = some id) (ho : Own σ0.length (σ.set id b) (h', c')) : Hp σ0 (σ.set id b) (L.set k (h', c')) := by
 have hid := own_lt (H.own k _ hk) hi
 have hkl := (List.getElem?_eq_some_iff.1 hk).1
 refine ⟨pre_set H.pre hid.1 b, fun i p hp => ?_, fun i j p q a hp hq e1 e2 => ?_⟩
 ·rw [List.getElem?_set] at hp
  split at hp
  ·rename_i e; subst e; simp [hkl] at hp; subst hp; exact ho
  ·rename_i e
   refine own_mono (H.own i p hp) fun a ha => ?_
   rw [List.getElem?_set]
   split
   ·rename_i e'; subst e'; exact absurd (H.sep k i _ _ id hk hp hi ha) e
   ·rfl
 ·have key : ∀ (i : Nat) (p : AV × Ct), (L.set k (h', c'))[i]? = some p → idOf p.1 = some a → ∃ p', L[i]? = some p' ∧ idOf p'.1 = some a := by
   intro i p hp e
   rw [List.getElem?_set] at hp
   split at hp
   ·rename_i e'; subst e'; simp [hkl] at hp; subst hp; exact ⟨_, hk, by rw [hi]; rw [hi'] at e; exact e⟩
   ·exact ⟨p, hp, e⟩
  obtain ⟨p', hp', e1'⟩ := key i p hp e1
  obtain ⟨q', hq', e2'⟩ := key j q hq e2
  exact H.sep i j p' q' a hp' hq' e1' e2'
/-- A new block, for a thing that was nil, or at the end. -/
theorem hp_put (H : Hp σ0 σ L) {k : Nat} {h h' : AV} {c c' : Ct} {b : Blk} (hk : L[k]? = some (h, c)) (hi : idOf h = none) (hi' : idOf h' = some σ.length) (ho : Own σ0.length (σ ++ [b]) (h', c')) : Hp σ0 (σ ++ [b]) (L.set k (h', c')) := by
 have hkl := (List.getElem?_eq_some_iff.1 hk).1
 refine ⟨?_, fun i p hp => ?_, fun i j p q a hp hq e1 e2 => ?_⟩
 ·obtain ⟨bs, rfl⟩ := H.pre; exact ⟨bs ++ [b], by simp⟩
 ·rw [List.getElem?_set] at hp
  split at hp
  ·rename_i e; subst e; simp [hkl] at hp; subst hp; exact ho
  ·refine own_mono (H.own i p hp) fun a ha => ?_
   have := (own_lt (H.own i p hp) ha).2
   rw [List.getElem?_append_left this]
 ·have key : ∀ (i : Nat) (p : AV × Ct), (L.set k (h', c'))[i]? = some p → idOf p.1 = some a → (i = k ∧ a = σ.length) ∨ (L[i]? = some p ∧ a < σ.length) := by
   intro i p hp e
   rw [List.getElem?_set] at hp
   split at hp
   ·rename_i e'; subst e'; simp [hkl] at hp; subst hp; rw [hi'] at e; injection e with e; exact .inl ⟨rfl, e.symm⟩
   ·exact .inr ⟨hp, (own_lt (H.own i p hp) e).2⟩
  rcases key i p hp e1 with ⟨a1, a2⟩ | ⟨a1, a2⟩ <;> rcases key j q hq e2 with ⟨b1, b2⟩ | ⟨b1, b2⟩
  ·omega
  ·omega
  ·omega
  ·exact H.sep i j p q a a1 b1 e1 e2
theorem hp_push (H : Hp σ0 σ L) {h' : AV} {c' : Ct} {b : Blk} (hi' : idOf h' = some σ.length) (ho : Own σ0.length (σ ++ [b]) (h', c')) : Hp σ0 (σ ++ [b]) (L ++ [(h', c')]) := by
 refine ⟨?_, fun i p hp => ?_, fun i j p q a hp hq e1 e2 => ?_⟩
 ·obtain ⟨bs, rfl⟩ := H.pre; exact ⟨bs ++ [b], by simp⟩
 ·rw [List.getElem?_append] at hp
  split at hp
  ·refine own_mono (H.own i p hp) fun a ha => ?_
   have := (own_lt (H.own i p hp) ha).2
   rw [List.getElem?_append_left this]
  ·have hp' := (List.getElem?_eq_some_iff.1 hp).2
   simp at hp'; subst hp'; exact ho
 ·have key : ∀ (i : Nat) (p : AV × Ct), (L ++ [(h', c')])[i]? = some p → idOf p.1 = some a → (i = L.length ∧ a = σ.length) ∨ (L[i]? = some p ∧ a < σ.length) := by
   intro i p hp e
   rw [List.getElem?_append] at hp
   split at hp
   ·exact .inr ⟨hp, (own_lt (H.own i p hp) e).2⟩
   ·obtain ⟨h1, h2⟩ := List.getElem?_eq_some_iff.1 hp
    simp at h1 h2; subst h2; rw [hi'] at e; injection e with e; exact .inl ⟨by omega, e.symm⟩
  rcases key i p hp e1 with ⟨a1, a2⟩ | ⟨a1, a2⟩ <;> rcases key j q hq e2 with ⟨b1, b2⟩ | ⟨b1, b2⟩
  ·omega
  ·omega
  ·omega
  ·exact H.sep i j p q a a1 b1 e1 e2
theorem hp_nsl (H : Hp σ0 σ L) (sz : Nat) : Hp σ0 σ (L ++ [(.nsl, .s sz [])]) := by
 refine ⟨H.pre, fun i p hp => ?_, fun i j p q a hp hq e1 e2 => ?_⟩
 ·rw [List.getElem?_append] at hp
  split at hp
  ·exact H.own i p hp
  ·have hp' := (List.getElem?_eq_some_iff.1 hp).2
   simp at hp'; subst hp'; exact .inl ⟨rfl, rfl⟩
 ·have key : ∀ (i : Nat) (p : AV × Ct), (L ++ [((.nsl : AV), Ct.s sz [])])[i]? = some p → idOf p.1 = some a → L[i]? = some p := by
   intro i p hp e
   rw [List.getElem?_append] at hp
   split at hp
   ·exact hp
   ·have hp' := (List.getElem?_eq_some_iff.1 hp).2
    simp at hp'; subst hp'; cases e
  exact H.sep i j p q a (key i p hp e1) (key j q hq e2) e1 e2
theorem hp_om (H : Hp σ0 σ L) : Hp σ0 (σ ++ [.map []]) (L ++ [(.om σ.length, .m [])]) := by
 have hl : σ0.length ≤ σ.length := by obtain ⟨bs, rfl⟩ := H.pre; simp
 exact hp_push H rfl ⟨σ.length, rfl, hl, by simp⟩
theorem hp_op (H : Hp σ0 σ L) (cs : List AV) : Hp σ0 (σ ++ [.box cs]) (L ++ [(.op σ.length 0, .b cs)]) := by
 have hl : σ0.length ≤ σ.length := by obtain ⟨bs, rfl⟩ := H.pre; simp
 exact hp_push H rfl ⟨σ.length, rfl, hl, by simp⟩
theorem hp_take (H : Hp σ0 σ L) (n : Nat) : Hp σ0 σ (L.take n) := by
 have key : ∀ (i : Nat) (p : AV × Ct), (L.take n)[i]? = some p → L[i]? = some p := by
  intro i p h
  rw [List.getElem?_take] at h
  split at h
  ·exact h
  ·cases h
 exact ⟨H.pre, fun i p hp => H.own i p (key i p hp), fun i j p q a hp hq => H.sep i j p q a (key i p hp) (key j q hq)⟩
theorem hp_weak (H : Hp σ0 σ L) : Hp σ0 σ [] := ⟨H.pre, by simp, by simp⟩
theorem hp_app (H : Hp σ0 σ L) {k sz most : Nat} {h : AV} {es ys : List (List AV)} (hk : L[k]? = some (h, .s sz es)) (hm : es.length + ys.length ≤ most) : ∃ h' σ', A.append sz most h (.sl sz ys) σ = some (h', σ') ∧ Hp σ0 σ' (L.set k (h', .s sz (es ++ ys))) := by
 have hl : σ0.length ≤ σ.length := by obtain ⟨bs, rfl⟩ := H.pre; simp
 rcases H.own k _ hk with ⟨h1, h2⟩ | ⟨id, g, off, a, h1, h2, h3, h4, h5⟩
 ·simp only at h1 h2
  subst h1 h2
  by_cases hy : ys = []
  ·subst hy
   refine ⟨.nsl, σ, by simp [A.append, A.elems], ?_⟩
   have : L.set k (.nsl, .s sz ([] ++ [])) = L := by
    apply List.ext_getElem?
    intro i
    rw [List.getElem?_set]
    split
    ·rename_i e; subst e; rw [hk]; simp [(List.getElem?_eq_some_iff.1 hk).1]
    ·rfl
   rw [this]; exact H
  ·refine ⟨.os σ.length ys.length sz 0 ys.length, σ ++ [.arr ys.length sz ys], ?_, ?_⟩
   ·have : ys.length ≤ most := by simpa using hm
    simp [A.append, A.elems, hy, this]
   ·exact hp_put H hk rfl rfl (.inr ⟨σ.length, ys.length, 0, ys, by simp, hl, by simp, by simp, by simp⟩)
 ·simp only at h1 h5
  subst h1
  have hid := (List.getElem?_eq_some_iff.1 h3).1
  have h6 : off + es.length = a.length := by rw [← h5, List.length_drop]; omega
  by_cases hy : ys = []
  ·subst hy
   refine ⟨.os id g sz off es.length, σ, ?_, ?_⟩
   ·have : es.length ≤ most := by simpa using hm
    simp [A.append, A.elems, h3, h6, this]
   ·have : L.set k (.os id g sz off es.length, .s sz (es ++ [])) = L := by
     apply List.ext_getElem?
     intro i
     rw [List.getElem?_set]
     split
     ·rename_i e; subst e; rw [hk]; simp [(List.getElem?_eq_some_iff.1 hk).1]
     ·rfl
    rw [this]; exact H
  ·refine ⟨.os id (g + ys.length) sz 0 (es.length + ys.length), σ.set id (.arr (g + ys.length) sz (a.drop off ++ ys)), ?_, ?_⟩
   ·simp [A.append, A.elems, h3, h6, hm, hy]
   ·refine hp_set H hk rfl rfl (.inr ⟨id, g + ys.length, 0, a.drop off ++ ys, by simp, h2, by simp [hid], by simp, by simp [h5]⟩)
theorem hp_mupd (H : Hp σ0 σ L) {k : Nat} {h key v : AV} {ek : A.EK} {es es' : List (AV × AV)} (hk : L[k]? = some (h, .m es)) (hok : A.keyOk ek key = true) (he : A.upd ek key v es = some es') : ∃ σ', A.mupd ek h key v σ = some σ' ∧ Hp σ0 σ' (L.set k (h, .m es')) := by
 obtain ⟨id, h1, h2, h3⟩ := H.own k _ hk
 simp only at h1 h3
 subst h1
 have hid := (List.getElem?_eq_some_iff.1 h3).1
 exact ⟨σ.set id (.map es'), by simp [A.mupd, hok, h3, he], hp_set H hk rfl rfl ⟨id, rfl, h2, by simp [hid]⟩⟩
theorem hp_look (H : Hp σ0 σ L) {k : Nat} {h key z : AV} {ek : A.EK} {es : List (AV × AV)} {r : Option AV} (hk : L[k]? = some (h, .m es)) (hok : A.keyOk ek key = true) (he : A.find ek key es = some r) : A.look ek h key z σ = some (r.getD z) := by
 obtain ⟨id, h1, h2, h3⟩ := H.own k _ hk
 simp only at h1 h3
 subst h1
 rw [look_at ek hok h3, he]; rfl
/-- A box of the call's own. -/
theorem hp_box (H : Hp σ0 σ L) (k : Nat) {id : Nat} {cs : List AV} (hk : L[k]? = some (.op id 0, .b cs)) (off : Nat) : A.deref (.op id off) σ = some (cs.drop off) := by
 obtain ⟨i, h1, h2, h3⟩ := H.own k _ hk
 simp only [AV.op.injEq] at h1
 obtain ⟨rfl, _⟩ := h1
 simp [A.deref, h3]
theorem hp_boxset (H : Hp σ0 σ L) (k : Nat) {id : Nat} {cs cs' new : List AV} (hk : L[k]? = some (.op id 0, .b cs)) (off : Nat) (hs : A.splice off new cs = some cs') : ∃ σ', A.storeAt (.op id off) new σ = some σ' ∧ Hp σ0 σ' (L.set k (.op id 0, .b cs')) := by
 obtain ⟨i, h1, h2, h3⟩ := H.own k _ hk
 simp only [AV.op.injEq] at h1
 obtain ⟨rfl, _⟩ := h1
 have hid := (List.getElem?_eq_some_iff.1 h3).1
 exact ⟨σ.set id (.box cs'), by simp [A.storeAt, h3, hs], hp_set H hk rfl rfl ⟨id, rfl, h2, by simp [hid]⟩⟩
/-- A closure that holds a box of the caller's. -/
theorem cap_own (H : Hp σ0 σ L) (k : Nat) {id : Nat} {cs : List AV} (hk : L[k]? = some (.op id 0, .b cs)) (hz : FzL cs) {ain : List Sh} {rout : Sh} {r : List AV → Heap → Option (AV × Heap)} {x v : AV} (hx : Fz x) (hxo : A.own x = false) (hs : A.scal v = true) (e : A.wrap true ain rout r [x, .rp cs] [] = some (v, [])) : A.wrap true ain rout r [x, .op id 0] σ = some (v, σ) := by
 obtain ⟨i, h1, h2, h3⟩ := H.own k _ hk
 simp only [AV.op.injEq] at h1
 obtain ⟨rfl, _⟩ := h1
 refine wrap_own (args' := [x, .rp cs]) (by simp [A.own, A.own1]) ?_ (by rw [List.any_cons, hxo]; rfl) e hs
 have q : A.frzL' σ 0 7 cs = some cs := by rw [frzL_eq]; exact hz σ 0 7
 simp [A.frzL, hx σ 0 8, A.frz, h3, q]
/-! What is handed back. -/
def Fzv (σ0 σ : Heap) (r r' : AV) : Prop := (∀ d, A.frz σ σ0.length (d + 1) r = some r') ∧ (σ = σ0 → r' = r)
def FzvL (σ0 σ : Heap) (l l' : List AV) : Prop := (∀ d, A.frzL σ σ0.length (d + 1) l = some l') ∧ (σ = σ0 → l' = l)
theorem fzv_fz {r : AV} (h : Fz r) : Fzv σ0 σ r r := ⟨fun d => h σ _ (d + 1), fun _ => rfl⟩
theorem fzvL_nil : FzvL σ0 σ [] [] := ⟨fun d => by simp [A.frzL], fun _ => rfl⟩
theorem fzvL_cons {a a' : AV} {l l' : List AV} (h : Fzv σ0 σ a a') (k : FzvL σ0 σ l l') : FzvL σ0 σ (a :: l) (a' :: l') := ⟨fun d => by simp [A.frzL, h.1 d, k.1 d], fun e => by rw [h.2 e, k.2 e]⟩
theorem fzv_tup {l l' : List AV} (h : FzvL σ0 σ l l') : Fzv σ0 σ (.tup l) (.tup l') := ⟨fun d => by simp [A.frz, h.1 d], fun e => by rw [h.2 e]⟩
theorem fzv_own {α : Type} (H : Hp σ0 σ L) {k sz : Nat} {h : AV} {c : α → List AV} {l : List α} (hk : L[k]? = some (h, .s sz (l.map c))) (hc : ∀ x, FzL (c x)) : ∃ r', Fzv σ0 σ h r' ∧ ((r' = .nsl ∧ l = []) ∨ r' = sl sz c l) := by
 rcases H.own k _ hk with ⟨h1, h2⟩ | ⟨id, g, off, a, h1, h2, h3, h4, h5⟩
 ·simp only at h1 h2
  have : l = [] := by simpa using h2
  subst this; subst h1
  exact ⟨.nsl, fzv_fz fz_nsl, .inl ⟨rfl, rfl⟩⟩
 ·simp only at h1 h5
  subst h1
  refine ⟨sl sz c l, ⟨fun d => ?_, fun e => ?_⟩, .inr rfl⟩
  ·have h6 : off + (l.map c).length = a.length := by rw [← h5, List.length_drop]; omega
   simp only [A.frz, Nat.not_lt.2 h2, if_false, h3]
   rw [if_pos (by simp; simp at h6; omega), frzLL_eq, h5, List.take_of_length_le (Nat.le_refl _), fzLL hc]
   rfl
  ·subst e
   have := (List.getElem?_eq_some_iff.1 h3).1
   omega
theorem nn_own' {α : Type} {sz : Nat} {c : α → List AV} {l : List α} {r : AV} (h : (r = .nsl ∧ l = []) ∨ r = sl sz c l) : A.nn (.s sz) r = sl sz c l := by
 rcases h with ⟨rfl, rfl⟩ | rfl <;> rfl
theorem nn_t1 {s1 : Sh} {v1 w1 : AV} {ss : List Sh} {vs ws : List AV} (h1 : A.nn s1 v1 = w1) (h2 : A.nnL ss vs = ws) : A.nnL (s1 :: ss) (v1 :: vs) = w1 :: ws := by simp only [A.nnL, h1, h2]
theorem nn_t0 : A.nnL [] [] = [] := by simp [A.nnL]
theorem nn_a {ss : List Sh} {vs ws : List AV} (h : A.nnL ss vs = ws) : A.nn (.a ss) (.agg vs) = .agg ws := by simp only [A.nn, h]
theorem nn_t {ss : List Sh} {vs ws : List AV} (h : A.nnL ss vs = ws) : A.nn (.t ss) (.tup vs) = .tup ws := by simp only [A.nn, h]
theorem frzM_fz (d : Nat) : ∀ {es : List (AV × AV)}, (∀ p ∈ es, Fz p.1 ∧ Fz p.2) → A.frzM' σ n d es = some es
 | [], _ => by simp [A.frzM']
 | (k, v) :: es, h => by
  have h1 := h (k, v) (by simp)
  simp only [A.frzM', h1.1 σ n d, h1.2 σ n d, Option.bind_some, frzM_fz d (es := es) (fun p hp => h p (by simp [hp])), Option.map_some]
theorem fzv_om (H : Hp σ0 σ L) {k : Nat} {h : AV} {es : List (AV × AV)} (hk : L[k]? = some (h, .m es)) (hc : ∀ p ∈ es, Fz p.1 ∧ Fz p.2) : Fzv σ0 σ h (.fm es) := by
 obtain ⟨id, h1, h2, h3⟩ := H.own k _ hk
 simp only at h1 h3
 subst h1
 refine ⟨fun d => ?_, fun e => ?_⟩
 ·simp only [A.frz, Nat.not_lt.2 h2, if_false, h3, frzM_fz d hc, Option.map_some]
 ·subst e
  have := (List.getElem?_eq_some_iff.1 h3).1
  omega
theorem hp_fin (H : Hp σ0 σ L) {r r' : AV} (h : Fzv σ0 σ r r') : A.fin σ0 r σ = some (r', σ0) := by
 obtain ⟨bs, hb⟩ := H.pre
 subst hb
 by_cases hbs : bs = []
 ·subst hbs
  rw [List.append_nil] at h ⊢
  rw [fin_same, h.2 rfl]
 ·unfold A.fin
  rw [if_neg (by simpa using hbs), if_pos (by simp), h.1 7]; rfl
end
/-! ### Maps, typed -/
section
variable {κ ν : Type} [DecidableEq κ]
def tfind (k : κ) : List (κ × ν) → Option ν
 | [] => none
 | (k', v) :: r => if k = k' then some v else tfind k r
def tupd (k : κ) (v : ν) : List (κ × ν) → List (κ × ν)
 | [] => [(k, v)]
 | (k', v') :: r => if k = k' then (k, v) :: r else (k', v') :: tupd k v r
variable {ek : A.EK} {eK : κ → AV} {eV : ν → AV} (hq : ∀ a b, A.eqK ek (eK a) (eK b) = some (decide (a = b)))
include hq
theorem find_t (k : κ) : ∀ l : List (κ × ν), A.find ek (eK k) (l.map fun p => (eK p.1, eV p.2)) = some ((tfind k l).map eV)
 | [] => rfl
 | (k', v) :: r => by
  simp only [List.map_cons, A.find, hq, Option.bind_some, tfind]
  by_cases h : k = k'
  ·simp [h]
  ·simp [h, find_t k r]
theorem upd_t (k : κ) (v : ν) : ∀ l : List (κ × ν), A.upd ek (eK k) (eV v) (l.map fun p => (eK p.1, eV p.2)) = some ((tupd k v l).map fun p => (eK p.1, eV p.2))
 | [] => rfl
 | (k', v') :: r => by
  simp only [List.map_cons, A.upd, hq, Option.bind_some, tupd]
  by_cases h : k = k'
  ·simp [h]
  ·simp [h, upd_t k v r]
end
theorem getD_map {α : Type} (o : Option α) (f : α → AV) (d : α) : (o.map f).getD (f d) = f (o.getD d) := by cases o <;> rfl
/-- A map that nobody writes. -/
def fmE {κ ν : Type} (eK : κ → AV) (eV : ν → AV) (l : List (κ × ν)) : AV := .fm (l.map fun p => (eK p.1, eV p.2))
section
variable {κ ν : Type} [DecidableEq κ] {ek : A.EK} {eK : κ → AV} {eV : ν → AV} {σ0 σ : Heap} {L : List (AV × Ct)} {h : AV} {l : List (κ × ν)}
theorem hp_updT (H : Hp σ0 σ L) (k : Nat) (hk : L[k]? = some (h, .m (l.map fun p => (eK p.1, eV p.2)))) (hq : ∀ a b, A.eqK ek (eK a) (eK b) = some (decide (a = b))) (x : κ) (v : ν) (hok : A.keyOk ek (eK x) = true) : ∃ σ', A.mupd ek h (eK x) (eV v) σ = some σ' ∧ Hp σ0 σ' (L.set k (h, .m ((tupd x v l).map fun p => (eK p.1, eV p.2)))) := hp_mupd H hk hok (upd_t hq x v l)
theorem hp_lookT (H : Hp σ0 σ L) (k : Nat) (hk : L[k]? = some (h, .m (l.map fun p => (eK p.1, eV p.2)))) (hq : ∀ a b, A.eqK ek (eK a) (eK b) = some (decide (a = b))) (x : κ) (z : ν) (hok : A.keyOk ek (eK x) = true) : A.look ek h (eK x) (eV z) σ = some (eV ((tfind x l).getD z)) := by
 rw [hp_look H hk hok (find_t hq x l), getD_map]
theorem fm_lookT (hq : ∀ a b, A.eqK ek (eK a) (eK b) = some (decide (a = b))) (x : κ) (z : ν) (hok : A.keyOk ek (eK x) = true) : A.look ek (fmE eK eV l) (eK x) (eV z) σ = some (eV ((tfind x l).getD z)) := by
 simp only [A.look, fmE, hok, cond_true, A.entries, Option.bind_some, find_t hq, Option.map_some, getD_map]
end
section
variable {α : Type} {c : α → List AV} {l ys : List α} {σ0 σ : Heap} {L : List (AV × Ct)} {h : AV} {sz : Nat}
theorem hp_appT (H : Hp σ0 σ L) (k : Nat) {most : Nat} (hk : L[k]? = some (h, .s sz (l.map c))) (hm : l.length + ys.length ≤ most) : ∃ h' σ', A.append sz most h (sl sz c ys) σ = some (h', σ') ∧ Hp σ0 σ' (L.set k (h', .s sz ((l ++ ys).map c))) := by
 rw [List.map_append]
 exact hp_app H hk (by simpa using hm)
end
/-! ### Parts of slices and texts -/
def tSl {α : Type} (l : List α) (lo hi : Option Int) : Option (List α) :=
 let h := hi.getD l.length
 let k := lo.getD 0
 if 0 ≤ k ∧ k ≤ h ∧ h ≤ l.length then some ((l.take h.toNat).drop k.toNat) else none
theorem sls_at {α : Type} {sz : Nat} {c : α → List AV} {l r : List α} {lo hi : Option Int} (h : tSl l lo hi = some r) : A.sliceS sz (sl sz c l) (lo.map (.int .i64)) (hi.map (.int .i64)) = some (sl sz c r) := by
 unfold tSl at h
 simp only at h
 split at h
 ·rename_i hc
  injection h with h
  subst h
  obtain ⟨h1, h2, h3⟩ := hc
  simp only [A.sliceS, sl, if_true, List.length_map]
  have e1 : A.bound l.length l.length (hi.map (.int .i64)) = some (hi.getD l.length).toNat := by
   cases hi with
   | none => simp [A.bound]
   | some h => simp only [Option.getD_some] at h2 h3; simp [A.bound, show 0 ≤ h by omega, h3]
  have e2 : A.bound (hi.getD l.length).toNat 0 (lo.map (.int .i64)) = some (lo.getD 0).toNat := by
   cases lo with
   | none => simp [A.bound]
   | some k =>
    simp only [Option.getD_some] at h1 h2
    have : k ≤ ((hi.getD l.length).toNat : Int) := by omega
    simp only [Option.map_some, A.bound, Option.getD_some]
    rw [if_pos ⟨h1, this⟩]
  rw [e1, Option.bind_some, e2, Option.map_some, List.map_drop, List.map_take]
 ·cases h
end Go.Proofs.Ytohbeolimnpehaa

/- Plain laws of typed runs: loops that check, searches, the order of texts and keys. -/
namespace Go.Proofs.Ytohbeolimnpehaa
set_option linter.unusedSectionVars false
set_option linter.unusedVariables false
set_option linter.unusedSimpArgs false
/-- The first fault of a list's elements. -/
def chkE {α : Type} (f : Nat → α → Int) : List α → Nat → Int
 | [], _ => 0
 | x :: l, i => if f i x = 0 then chkE f l (i + 1) else f i x
section
variable {α β γ S B R : Type}
theorem chkE_zero {f : Nat → α → Int} : ∀ (l : List α) (i : Nat), chkE f l i = 0 ↔ ∀ j x, l[j]? = some x → f (i + j) x = 0
 | [], i => by simp [chkE]
 | y :: l, i => by
  rw [chkE]
  by_cases h : f i y = 0
  ·rw [if_pos h, chkE_zero l (i + 1)]
   constructor
   ·intro k j x hx
    cases j with
    | zero => simp at hx; subst hx; exact h
    | succ j => have := k j x (by simpa using hx); rwa [show i + 1 + j = i + (j + 1) by omega] at this
   ·intro k j x hx
    have := k (j + 1) x (by simpa using hx)
    rwa [show i + (j + 1) = i + 1 + j by omega] at this
  ·rw [if_neg h]
   exact ⟨fun e => absurd e h, fun k => absurd (k 0 y rfl) h⟩
theorem forE_le {l : List α} {body : Nat → α → S → Option (Lr S B R)} {fin : S → Option B} {s : S} {K1 : B → Option γ} {K2 : R → Option γ} (hl : l.length ≤ mxl) : forE l body fin s K1 K2 = (forL body fin l 0 s).bind fun q => q.elim K1 K2 := if_pos hl
/-- A loop that checks. -/
theorem forE_chk {f : Nat → α → Int} {l : List α} {body : Nat → α → Unit → Option (Lr Unit Unit Int)} {fin : Unit → Option Unit} {s : Unit} {K1 : Unit → Option γ} {K2 : Int → Option γ} (hl : l.length ≤ mxl) (hb : ∀ i x, l[i]? = some x → body i x () = some (if f i x = 0 then .go () else .ret (f i x))) (hf : fin () = some () := by rfl) : forE l body fin s K1 K2 = if chkE f l 0 = 0 then K1 () else K2 (chkE f l 0) := by
 rw [forE_le hl]
 have key : ∀ (rest pre : List α), l = pre ++ rest → forL body fin rest pre.length () = some (if chkE f rest pre.length = 0 then .inl () else .inr (chkE f rest pre.length)) := by
  intro rest
  induction rest with
  | nil => intro pre _; simp [forL, hf, chkE]
  | cons x rest ih =>
   intro pre hp
   rw [forL, hb pre.length x (by rw [hp]; simp), Option.bind_some, chkE]
   by_cases h : f pre.length x = 0
   ·simp only [h, if_true]
    have := ih (pre ++ [x]) (by simpa using hp)
    simpa using this
   ·simp only [h, if_false]
 have k := key l [] rfl
 rw [List.length_nil] at k
 rw [show s = () from rfl, k, Option.bind_some]
 split <;> rfl
theorem ite_ret {p : Prop} [Decidable p] {k f : Int} {Y : Option (Lr Unit Unit Int)} (hk : k ≠ 0) (h : Y = some (if f = 0 then .go () else .ret f)) : (if p then some (.ret k) else Y) = some (if (if p then k else f) = 0 then .go () else .ret (if p then k else f)) := by
 by_cases hp : p
 ·simp [hp, hk]
 ·simp [hp, h]
theorem ite_retv {k f : Int} {Y : Option (Lr Unit Unit Int)} (h : Y = some (if f = 0 then .go () else .ret f)) : (if ¬ (k = 0) then some (.ret k) else Y) = some (if (if ¬ (k = 0) then k else f) = 0 then .go () else .ret (if ¬ (k = 0) then k else f)) := by
 by_cases hp : k = 0
 ·simp [hp, h]
 ·simp [hp]
theorem go_ret : (some (.go ()) : Option (Lr Unit Unit Int)) = some (if (0 : Int) = 0 then .go () else .ret 0) := rfl
theorem elim_ret (k : Int) : (if k = 0 then some (.go ()) else some (.ret k) : Option (Lr Unit Unit Int)) = some (if k = 0 then .go () else .ret k) := by split <;> rfl
/-- A loop that looks for an element. -/
theorem forE_find {p : α → Bool} {l : List α} {body : Nat → α → Unit → Option (Lr Unit Unit R)} {r : α → R} {fin : Unit → Option Unit} {s : Unit} {K1 : Unit → Option γ} {K2 : R → Option γ} (hl : l.length ≤ mxl) (hb : ∀ i x, l[i]? = some x → body i x () = some (if p x = true then .ret (r x) else .go ())) (hf : fin () = some () := by rfl) : forE l body fin s K1 K2 = match l.find? p with | some x => K2 (r x) | none => K1 () := by
 rw [forE_le hl]
 have key : ∀ (rest pre : List α), l = pre ++ rest → forL body fin rest pre.length () = some (match rest.find? p with | some x => .inr (r x) | none => .inl ()) := by
  intro rest
  induction rest with
  | nil => intro pre _; simp [forL, hf]
  | cons x rest ih =>
   intro pre hp
   rw [forL, hb pre.length x (by rw [hp]; simp), Option.bind_some, List.find?_cons]
   cases h : p x
   ·simp only [Bool.false_eq_true, if_false]
    have := ih (pre ++ [x]) (by simpa using hp)
    simpa using this
   ·simp only [if_true]
 have k := key l [] rfl
 rw [List.length_nil] at k
 rw [show s = () from rfl, k, Option.bind_some]
 cases l.find? p <;> rfl
/-- A loop that goes through all of a list. -/
theorem forE_fold {l : List α} {body : Nat → α → S → Option (Lr S B R)} {fin : S → Option B} {s : S} {K1 : B → Option γ} {K2 : R → Option γ} (g : S → α → S) (P : Nat → S → Prop) (hl : l.length ≤ mxl) (h0 : P 0 s) (hP : ∀ i x s, l[i]? = some x → P i s → P (i + 1) (g s x)) (hb : ∀ i x s, l[i]? = some x → P i s → body i x s = some (.go (g s x))) : forE l body fin s K1 K2 = (fin (l.foldl g s)).bind K1 := by
 rw [forE_le hl]
 have key : ∀ (rest pre : List α) (s : S), l = pre ++ rest → P pre.length s → forL body fin rest pre.length s = (fin (rest.foldl g s)).map .inl := by
  intro rest
  induction rest with
  | nil => intro pre s _ _; simp [forL]
  | cons x rest ih =>
   intro pre s hp hq
   have hx : l[pre.length]? = some x := by rw [hp]; simp
   rw [forL, hb pre.length x s hx hq, Option.bind_some, List.foldl_cons]
   have := ih (pre ++ [x]) (g s x) (by simpa using hp) (by simpa using hP _ _ _ hx hq)
   simpa using this
 have k := key l [] s rfl h0
 rw [List.length_nil] at k
 rw [k]
 cases fin (l.foldl g s) <;> rfl
/-- The element ahead. -/
def pv [Inhabited α] (l : List α) (i : Nat) : α := if 0 < i then l.getD (i - 1) default else default
theorem tIx_get {l : List α} {i : Int} {x : α} (h0 : 0 ≤ i) (h : l[i.toNat]? = some x) : tIx l i = some x := by rw [tIx, if_pos h0, h]
theorem prev_at [Inhabited α] {l : List α} {i : Nat} {x : α} (h : l[i]? = some x) (hl : l.length ≤ mxl) : (if decide (0 < (i : Int)) = true then tIx l (IntKind.i64.wrap ((i : Int) - 1)) else some default) = some (pv l i) := by
 have hi := (List.getElem?_eq_some_iff.1 h).1
 unfold pv
 by_cases h0 : 0 < i
 ·rw [if_pos (by simpa using h0), if_pos h0, wrap64 (by unfold inI; unfold mxl at hl; omega)]
  refine tIx_get (by omega) ?_
  have : ((i : Int) - 1).toNat = i - 1 := by omega
  rw [this, List.getD, List.getElem?_eq_getElem (by omega)]
  rfl
 ·rw [if_neg (by simpa using h0), if_neg h0]
theorem last_at [Inhabited α] {l : List α} {i : Nat} {x : α} (h : l[i]? = some x) (hl : l.length ≤ mxl) : (if decide (0 < ((l.take i).length : Int)) = true then tIx (l.take i) (IntKind.i64.wrap (((l.take i).length : Int) - 1)) else some default) = some (pv l i) := by
 have hi := (List.getElem?_eq_some_iff.1 h).1
 have e : (l.take i).length = i := by simp; omega
 rw [e]
 unfold pv
 by_cases h0 : 0 < i
 ·rw [if_pos (by simpa using h0), if_pos h0, wrap64 (by unfold inI; unfold mxl at hl; omega)]
  refine tIx_get (by omega) ?_
  have : ((i : Int) - 1).toNat = i - 1 := by omega
  rw [this, List.getD, List.getElem?_take, if_pos (by omega), List.getElem?_eq_getElem (by omega)]
  rfl
 ·rw [if_neg (by simpa using h0), if_neg h0]
theorem tSl_pre {l : List α} {i : Nat} (h : i ≤ l.length) : tSl l none (some (i : Int)) = some (l.take i) := by
 simp [tSl, h]
theorem find2 {a b : Int} : (([a, b] : List Int).find? fun n => decide (¬ n = 0)).getD 0 = if ¬ (a = 0) then a else b := by
 by_cases ha : a = 0
 ·by_cases hb : b = 0 <;> simp [ha, hb, List.find?]
 ·simp [ha, List.find?]
theorem find3 {a b c : Int} : (([a, b, c] : List Int).find? fun n => decide (¬ n = 0)).getD 0 = if ¬ (a = 0) then a else if ¬ (b = 0) then b else c := by
 by_cases ha : a = 0
 ·by_cases hb : b = 0
  ·by_cases hc : c = 0 <;> simp [ha, hb, hc, List.find?]
  ·simp [ha, hb, List.find?]
 ·simp [ha, List.find?]
end
/-! ### Texts and keys in order -/
theorem toList_d (s : ByteArray) : s.toList = s.data.toList := ByteArray.toList_eq s
theorem cmpB_lt : ∀ (a b : List UInt8), Lib.compareBytes a b < 0 ↔ Op.bytesLess a b = true
 | [], [] => by simp [Lib.compareBytes, Op.bytesLess]
 | [], _ :: _ => by simp [Lib.compareBytes, Op.bytesLess]
 | _ :: _, [] => by simp [Lib.compareBytes, Op.bytesLess]
 | a :: x, b :: y => by
  rw [Lib.compareBytes, Op.bytesLess]
  by_cases h1 : a < b
  ·simp [h1]
  ·by_cases h2 : b < a
   ·have : a ≠ b := by rintro rfl; exact h1 h2
    simp [h1, h2, this]
   ·have : a = b := UInt8.le_antisymm (UInt8.not_lt.1 h2) (UInt8.not_lt.1 h1)
    subst this
    simp [UInt8.lt_irrefl, cmpB_lt x y]
/-- A key ahead of another one. -/
def ltK (a b : KeyD) : Bool := decide (a.unit < b.unit) || (decide (a.unit = b.unit) && Op.bytesLess a.param.toList b.param.toList)
def cmpK (a b : KeyD) : Int := if ¬ (a.unit = b.unit) then (if a.unit < b.unit then -1 else 1) else Lib.compareBytes a.param.data.toList b.param.data.toList
theorem cmpK_lt (a b : KeyD) : cmpK a b < 0 ↔ ltK a b = true := by
 unfold cmpK ltK
 by_cases h : a.unit = b.unit
 ·simp [h, toList_d, cmpB_lt]
 ·by_cases h2 : a.unit < b.unit <;> simp [h, h2]
theorem cmpK_ge (a b : KeyD) : decide (0 ≤ cmpK a b) = !ltK a b := by
 have := cmpK_lt a b
 cases h : ltK a b
 ·rw [h] at this; simp at this; simp [this]
 ·rw [h] at this; simp at this; simp [this]
end Go.Proofs.Ytohbeolimnpehaa

/- What functions of the library compute. -/
namespace Go.Proofs.Ytohbeolimnpehaa
set_option linter.unusedSectionVars false
set_option linter.unusedSimpArgs false
set_option linter.unusedVariables false
def m_strings_Compare : List AV → Heap → Option (AV × Heap) := A.ar2 fun a b σ => match a, b with
 | .str a, .str b => some (.int .i64 (Lib.compareBytes a.data.toList b.data.toList), σ)
 | _, _ => none
end Go.Proofs.Ytohbeolimnpehaa

/- What the functions of the package compute: written by a program from their code; that it is what the code does is shown elsewhere. -/
namespace Go.Proofs.Ytohbeolimnpehaa
set_option linter.unusedSectionVars false
set_option linter.unusedSimpArgs false
set_option linter.unusedVariables false
set_option maxRecDepth 100000
noncomputable def r_slices_Index_int (a0 a1 : AV) (σ : Heap) : Option (AV × Heap) :=
 (A.lenS a0).bind fun x1 =>
 (A.loop (fun v2 s3 =>
   (A.lss (v2.getD 1 AV.undef) x1).bind fun x4 =>
   A.cond x4 (
    (A.iaddr 1 a0 (v2.getD 1 AV.undef)).bind fun x5 =>
    ((A.deref x5 s3).bind fun c6 => A.part1 0 c6).bind fun x7 =>
    (A.eql .i a1 x7).bind fun x8 =>
    A.cond x8 (
     some (AX.ret, [(v2.getD 1 AV.undef), (v2.getD 1 AV.undef)], s3)) (
     (A.add (v2.getD 1 AV.undef) (AV.int .i64 1)).bind fun x9 =>
     some (AX.normal, [(v2.getD 0 AV.undef), x9], s3))) (
    some (AX.exit 0, [(v2.getD 0 AV.undef), (v2.getD 1 AV.undef)], s3))) [(AV.int .i64 0), (AV.int .i64 0)] σ).bind fun r10 =>
 bif r10.1 == AX.exit 0 then (
  A.fin σ (AV.int .i64 (-1)) r10.2.2) else
 bif r10.1 == AX.ret then (
  A.fin σ (r10.2.1.getD 0 AV.undef) r10.2.2) else
 none
noncomputable def m_slices_Index_int : List AV → Heap → Option (AV × Heap) := A.wrap true [(.s 1)] .k (A.ar2 r_slices_Index_int)
noncomputable def r_slices_Contains_int (a0 a1 : AV) (σ : Heap) : Option (AV × Heap) :=
 (m_slices_Index_int [a0, a1] σ).bind fun r1 =>
 (A.geq r1.1 (AV.int .i64 0)).bind fun x2 =>
 A.fin σ x2 r1.2
noncomputable def m_slices_Contains_int : List AV → Heap → Option (AV × Heap) := A.wrap true [(.s 1)] .k (A.ar2 r_slices_Contains_int)
noncomputable def r_slices_IndexFunc_api_Profile (dyn : Nat → List AV → Heap → Option (AV × Heap)) (a0 a1 : AV) (σ : Heap) : Option (AV × Heap) :=
 (A.lenS a0).bind fun x1 =>
 (A.loop (fun v2 s3 =>
   (A.lss (v2.getD 1 AV.undef) x1).bind fun x4 =>
   A.cond x4 (
    (A.iaddr 3 a0 (v2.getD 1 AV.undef)).bind fun x5 =>
    ((A.deref x5 s3).bind fun c6 => A.partA 0 3 c6).bind fun x7 =>
    (A.callv dyn a1 [x7] s3).bind fun r8 =>
    A.cond r8.1 (
     some (AX.ret, [(v2.getD 1 AV.undef), (v2.getD 1 AV.undef)], r8.2)) (
     (A.add (v2.getD 1 AV.undef) (AV.int .i64 1)).bind fun x9 =>
     some (AX.normal, [(v2.getD 0 AV.undef), x9], r8.2))) (
    some (AX.exit 0, [(v2.getD 0 AV.undef), (v2.getD 1 AV.undef)], s3))) [(AV.int .i64 0), (AV.int .i64 0)] σ).bind fun r10 =>
 bif r10.1 == AX.exit 0 then (
  A.fin σ (AV.int .i64 (-1)) r10.2.2) else
 bif r10.1 == AX.ret then (
  A.fin σ (r10.2.1.getD 0 AV.undef) r10.2.2) else
 none
noncomputable def m_slices_IndexFunc_api_Profile (dyn : Nat → List AV → Heap → Option (AV × Heap)) : List AV → Heap → Option (AV × Heap) := A.wrap true [(.s 3)] .k (A.ar2 (r_slices_IndexFunc_api_Profile dyn))
noncomputable def r_slices_IndexFunc_api_List (dyn : Nat → List AV → Heap → Option (AV × Heap)) (a0 a1 : AV) (σ : Heap) : Option (AV × Heap) :=
 (A.lenS a0).bind fun x1 =>
 (A.loop (fun v2 s3 =>
   (A.lss (v2.getD 1 AV.undef) x1).bind fun x4 =>
   A.cond x4 (
    (A.iaddr 2 a0 (v2.getD 1 AV.undef)).bind fun x5 =>
    ((A.deref x5 s3).bind fun c6 => A.partA 0 2 c6).bind fun x7 =>
    (A.callv dyn a1 [x7] s3).bind fun r8 =>
    A.cond r8.1 (
     some (AX.ret, [(v2.getD 1 AV.undef), (v2.getD 1 AV.undef)], r8.2)) (
     (A.add (v2.getD 1 AV.undef) (AV.int .i64 1)).bind fun x9 =>
     some (AX.normal, [(v2.getD 0 AV.undef), x9], r8.2))) (
    some (AX.exit 0, [(v2.getD 0 AV.undef), (v2.getD 1 AV.undef)], s3))) [(AV.int .i64 0), (AV.int .i64 0)] σ).bind fun r10 =>
 bif r10.1 == AX.exit 0 then (
  A.fin σ (AV.int .i64 (-1)) r10.2.2) else
 bif r10.1 == AX.ret then (
  A.fin σ (r10.2.1.getD 0 AV.undef) r10.2.2) else
 none
noncomputable def m_slices_IndexFunc_api_List (dyn : Nat → List AV → Heap → Option (AV × Heap)) : List AV → Heap → Option (AV × Heap) := A.wrap true [(.s 2)] .k (A.ar2 (r_slices_IndexFunc_api_List dyn))
noncomputable def r_slices_IndexFunc_api_Playback (dyn : Nat → List AV → Heap → Option (AV × Heap)) (a0 a1 : AV) (σ : Heap) : Option (AV × Heap) :=
 (A.lenS a0).bind fun x1 =>
 (A.loop (fun v2 s3 =>
   (A.lss (v2.getD 1 AV.undef) x1).bind fun x4 =>
   A.cond x4 (
    (A.iaddr 3 a0 (v2.getD 1 AV.undef)).bind fun x5 =>
    ((A.deref x5 s3).bind fun c6 => A.partA 0 3 c6).bind fun x7 =>
    (A.callv dyn a1 [x7] s3).bind fun r8 =>
    A.cond r8.1 (
     some (AX.ret, [(v2.getD 1 AV.undef), (v2.getD 1 AV.undef)], r8.2)) (
     (A.add (v2.getD 1 AV.undef) (AV.int .i64 1)).bind fun x9 =>
     some (AX.normal, [(v2.getD 0 AV.undef), x9], r8.2))) (
    some (AX.exit 0, [(v2.getD 0 AV.undef), (v2.getD 1 AV.undef)], s3))) [(AV.int .i64 0), (AV.int .i64 0)] σ).bind fun r10 =>
 bif r10.1 == AX.exit 0 then (
  A.fin σ (AV.int .i64 (-1)) r10.2.2) else
 bif r10.1 == AX.ret then (
  A.fin σ (r10.2.1.getD 0 AV.undef) r10.2.2) else
 none
noncomputable def m_slices_IndexFunc_api_Playback (dyn : Nat → List AV → Heap → Option (AV × Heap)) : List AV → Heap → Option (AV × Heap) := A.wrap true [(.s 3)] .k (A.ar2 (r_slices_IndexFunc_api_Playback dyn))
noncomputable def r_slices_ContainsFunc_api_Playback (dyn : Nat → List AV → Heap → Option (AV × Heap)) (a0 a1 : AV) (σ : Heap) : Option (AV × Heap) :=
 (m_slices_IndexFunc_api_Playback dyn [a0, a1] σ).bind fun r1 =>
 (A.geq r1.1 (AV.int .i64 0)).bind fun x2 =>
 A.fin σ x2 r1.2
noncomputable def m_slices_ContainsFunc_api_Playback (dyn : Nat → List AV → Heap → Option (AV × Heap)) : List AV → Heap → Option (AV × Heap) := A.wrap true [(.s 3)] .k (A.ar2 (r_slices_ContainsFunc_api_Playback dyn))
noncomputable def r_slices_IndexFunc_api_Cue (dyn : Nat → List AV → Heap → Option (AV × Heap)) (a0 a1 : AV) (σ : Heap) : Option (AV × Heap) :=
 (A.lenS a0).bind fun x1 =>
 (A.loop (fun v2 s3 =>
   (A.lss (v2.getD 1 AV.undef) x1).bind fun x4 =>
   A.cond x4 (
    (A.iaddr 11 a0 (v2.getD 1 AV.undef)).bind fun x5 =>
    ((A.deref x5 s3).bind fun c6 => A.partA 0 11 c6).bind fun x7 =>
    (A.callv dyn a1 [x7] s3).bind fun r8 =>
    A.cond r8.1 (
     some (AX.ret, [(v2.getD 1 AV.undef), (v2.getD 1 AV.undef)], r8.2)) (
     (A.add (v2.getD 1 AV.undef) (AV.int .i64 1)).bind fun x9 =>
     some (AX.normal, [(v2.getD 0 AV.undef), x9], r8.2))) (
    some (AX.exit 0, [(v2.getD 0 AV.undef), (v2.getD 1 AV.undef)], s3))) [(AV.int .i64 0), (AV.int .i64 0)] σ).bind fun r10 =>
 bif r10.1 == AX.exit 0 then (
  A.fin σ (AV.int .i64 (-1)) r10.2.2) else
 bif r10.1 == AX.ret then (
  A.fin σ (r10.2.1.getD 0 AV.undef) r10.2.2) else
 none
noncomputable def m_slices_IndexFunc_api_Cue (dyn : Nat → List AV → Heap → Option (AV × Heap)) : List AV → Heap → Option (AV × Heap) := A.wrap true [(.s 11)] .k (A.ar2 (r_slices_IndexFunc_api_Cue dyn))
noncomputable def r_slices_ContainsFunc_api_Cue (dyn : Nat → List AV → Heap → Option (AV × Heap)) (a0 a1 : AV) (σ : Heap) : Option (AV × Heap) :=
 (m_slices_IndexFunc_api_Cue dyn [a0, a1] σ).bind fun r1 =>
 (A.geq r1.1 (AV.int .i64 0)).bind fun x2 =>
 A.fin σ x2 r1.2
noncomputable def m_slices_ContainsFunc_api_Cue (dyn : Nat → List AV → Heap → Option (AV × Heap)) : List AV → Heap → Option (AV × Heap) := A.wrap true [(.s 11)] .k (A.ar2 (r_slices_ContainsFunc_api_Cue dyn))
noncomputable def r_slices_Equal_api_Event (a0 a1 : AV) (σ : Heap) : Option (AV × Heap) :=
 (A.lenS a0).bind fun x1 =>
 (A.lenS a1).bind fun x2 =>
 (A.neq .i x1 x2).bind fun x3 =>
 A.cond x3 (
  A.fin σ (AV.bool false) σ) (
  (A.lenS a0).bind fun x4 =>
  (A.loop (fun v5 s6 =>
    (A.lss (v5.getD 1 AV.undef) x4).bind fun x7 =>
    A.cond x7 (
     (A.iaddr 6 a0 (v5.getD 1 AV.undef)).bind fun x8 =>
     ((A.deref x8 s6).bind fun c9 => A.partA 0 6 c9).bind fun x10 =>
     (A.iaddr 6 a1 (v5.getD 1 AV.undef)).bind fun x11 =>
     ((A.deref x11 s6).bind fun c12 => A.partA 0 6 c12).bind fun x13 =>
     (A.neq (.s [0, 0, 0, 0, 0, 0]) x10 x13).bind fun x14 =>
     A.cond x14 (
      some (AX.ret, [(AV.bool false), (v5.getD 1 AV.undef)], s6)) (
      (A.add (v5.getD 1 AV.undef) (AV.int .i64 1)).bind fun x15 =>
      some (AX.normal, [(v5.getD 0 AV.undef), x15], s6))) (
     some (AX.exit 0, [(v5.getD 0 AV.undef), (v5.getD 1 AV.undef)], s6))) [(AV.bool false), (AV.int .i64 0)] σ).bind fun r16 =>
  bif r16.1 == AX.exit 0 then (
   A.fin σ (AV.bool true) r16.2.2) else
  bif r16.1 == AX.ret then (
   A.fin σ (r16.2.1.getD 0 AV.undef) r16.2.2) else
  none)
noncomputable def m_slices_Equal_api_Event : List AV → Heap → Option (AV × Heap) := A.wrap true [(.s 6), (.s 6)] .k (A.ar2 r_slices_Equal_api_Event)
end Go.Proofs.Ytohbeolimnpehaa

