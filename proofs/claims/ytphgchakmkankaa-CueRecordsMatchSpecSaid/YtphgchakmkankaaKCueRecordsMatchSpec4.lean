/- Parts of the proof of CueRecordsMatchSpec, in order. -/
import Derived.Orders
import Derived.Below
import Derived.WalkKit
import Derived.Laws.StructEq
import Derived.Laws.Append
import Derived.Laws.AppendOwn
import Derived.Test.YtphgchakmkankaaRows
import Derived.KernelRfl
import Derived.Lib.Bytealg
import Derived.Sort.Defs
import Derived.Lib.BitFns
import Derived.Test.YtphgchakmkankaaShelf
import Derived.Lib.Overlaps
import Derived.IntWalk
import Derived.Lib.Strings
import Derived.Test.YtphgchakmkankaaKCueRecordsMatchSpec3
namespace Go.Proofs.Ytphgchakmkankaa
set_option linter.unusedSectionVars false
set_option linter.unusedVariables false
set_option linter.unusedSimpArgs false

theorem bq (s t : ByteArray) : (s == t) = decide (s = t) := by
 obtain ⟨a⟩ := s
 obtain ⟨b⟩ := t
 show (a == b) = _
 rw [Bool.eq_iff_iff]
 simp
section
variable {α β : Type}
theorem cT (t e : Option α) : A.cond (.bool true) t e = t := rfl
theorem cF (t e : Option α) : A.cond (.bool false) t e = e := rfl
theorem gTT (e d : Option α) : A.guard (.bool true) true e d = e := rfl
theorem gTF (e d : Option α) : A.guard (.bool true) false e d = d := rfl
theorem gFT (e d : Option α) : A.guard (.bool false) true e d = d := rfl
theorem gFF (e d : Option α) : A.guard (.bool false) false e d = e := rfl
theorem pT (x y : AV) : A.pick (.bool true) x y = some x := rfl
theorem pF (x y : AV) : A.pick (.bool false) x y = some y := rfl
theorem gDp {p : Prop} [Decidable p] {w : Bool} {e d : Option α} {f : α → Option β} : (A.guard (.bool (decide p)) w e d).bind f = if p then (A.guard (.bool true) w e d).bind f else (A.guard (.bool false) w e d).bind f := by by_cases h : p <;> simp [h]
theorem gDb {b w : Bool} {e d : Option α} {f : α → Option β} : (A.guard (.bool b) w e d).bind f = match b with | true => (A.guard (.bool true) w e d).bind f | false => (A.guard (.bool false) w e d).bind f := by cases b <;> rfl
theorem cDp {p : Prop} [Decidable p] {t e : Option α} : A.cond (.bool (decide p)) t e = if p then t else e := by by_cases h : p <;> simp [h, A.cond]
theorem cDnp {p : Prop} [Decidable p] {t e : Option α} : A.cond (.bool (!decide p)) t e = if p then e else t := by by_cases h : p <;> simp [h, A.cond]
theorem cDn {b : Bool} {t e : Option α} : A.cond (.bool (!b)) t e = match b with | true => e | false => t := by cases b <;> rfl
theorem cDb {b : Bool} {t e : Option α} : A.cond (.bool b) t e = match b with | true => t | false => e := by cases b <;> rfl
theorem gN (w : Bool) (e d : Option α) : A.guard (.tup []) w e d = d := rfl
theorem xN (a b : AX) : (a == b) = decide (a = b) := by rw [Bool.eq_iff_iff]; simp
end
section
variable (k : IntKind) (a b : Int) (p q : Prop) [Decidable p] [Decidable q] (s t : ByteArray) (x y : AV) (σ : Heap) (cs : List AV)
theorem aAdd : A.add (.int .i64 a) (.int .i64 b) = some (.int .i64 (IntKind.i64.wrap (a + b))) := rfl
theorem aSub : A.sub (.int .i64 a) (.int .i64 b) = some (.int .i64 (IntKind.i64.wrap (a - b))) := rfl
theorem aMul : A.mul (.int .i64 a) (.int .i64 b) = some (.int .i64 (IntKind.i64.wrap (a * b))) := rfl
theorem aLss : A.lss (.int .i64 a) (.int .i64 b) = some (.bool (decide (a < b))) := rfl
theorem aLeq : A.leq (.int .i64 a) (.int .i64 b) = some (.bool (decide (a ≤ b))) := rfl
theorem aGtr : A.gtr (.int .i64 a) (.int .i64 b) = some (.bool (decide (b < a))) := rfl
theorem aGeq : A.geq (.int .i64 a) (.int .i64 b) = some (.bool (decide (b ≤ a))) := rfl
theorem aLss8 : A.lss (.int .u8 a) (.int .u8 b) = some (.bool (decide (a < b))) := rfl
theorem aLeq8 : A.leq (.int .u8 a) (.int .u8 b) = some (.bool (decide (a ≤ b))) := rfl
theorem aGtr8 : A.gtr (.int .u8 a) (.int .u8 b) = some (.bool (decide (b < a))) := rfl
theorem aGeq8 : A.geq (.int .u8 a) (.int .u8 b) = some (.bool (decide (b ≤ a))) := rfl
theorem aEq : A.eql .i (.int k a) (.int k b) = some (.bool (decide (a = b))) := by
 simp only [A.eql, A.eqK, A.eqI, if_true, Option.map_some]; congr 2
theorem aNe : A.neq .i (.int k a) (.int k b) = some (.bool (decide (¬ a = b))) := by
 simp only [A.neq, A.eqK, A.eqI, if_true, Option.map_some]
 congr 2
 rw [Bool.eq_iff_iff]; simp
theorem aEqZ : A.eql .z (.str s) (.str t) = some (.bool (decide (s = t))) := by
 simp only [A.eql, A.eqK, A.eqZ, Option.map_some, bq]
theorem aNeZ : A.neq .z (.str s) (.str t) = some (.bool (decide (¬ s = t))) := by
 simp only [A.neq, A.eqK, A.eqZ, Option.map_some, bq]; simp
theorem aNot (b : Bool) : A.not (.bool b) = some (.bool (!b)) := rfl
theorem aNotD : A.not (.bool (decide p)) = some (.bool (decide (¬ p))) := by simp [A.not]
theorem aLb : A.lb (.lbx cs) = some cs := rfl
theorem aExt0 (l : List AV) : A.ext 0 (.tup (x :: l)) = some x := rfl
theorem aExt1 (x0 x : AV) (l : List AV) : A.ext 1 (.tup (x0 :: x :: l)) = some x := rfl
theorem aExt2 (x0 x1 x : AV) (l : List AV) : A.ext 2 (.tup (x0 :: x1 :: x :: l)) = some x := rfl
theorem aExt3 (x0 x1 x2 x : AV) (l : List AV) : A.ext 3 (.tup (x0 :: x1 :: x2 :: x :: l)) = some x := rfl
theorem aDe : A.deref (.rp cs) σ = some cs := rfl
theorem aFa (o : Nat) : A.faddr o (.rp cs) = some (.rp (cs.drop o)) := rfl
theorem aLenZ : A.lenZ (.str s) = some (.int .i64 s.size) := rfl
theorem aCI (n : Int) : A.cell (.int k n) = some (.int k n) := rfl
theorem aCB (b : Bool) : A.cell (.bool b) = some (.bool b) := rfl
theorem aCS : A.cell (.str s) = some (.str s) := rfl
theorem aCSl (sz : Nat) (es : List (List AV)) : A.cell (.sl sz es) = some (.sl sz es) := rfl
theorem p1D (o k : Nat) : A.part1 o (cs.drop k) = A.part1 (k + o) cs := by simp [A.part1, List.getElem?_drop]
end
theorem gd0 (a d : AV) (l : List AV) : (a :: l).getD 0 d = a := rfl
theorem gd1 (a b d : AV) (l : List AV) : (b :: a :: l).getD 1 d = a := rfl
theorem gd2 (a b c d : AV) (l : List AV) : (b :: c :: a :: l).getD 2 d = a := rfl
theorem gd3 (a b c e d : AV) (l : List AV) : (b :: c :: e :: a :: l).getD 3 d = a := rfl
theorem gd4 (a b c e f d : AV) (l : List AV) : (b :: c :: e :: f :: a :: l).getD 4 d = a := rfl
theorem gd5 (a b c e f g d : AV) (l : List AV) : (b :: c :: e :: f :: g :: a :: l).getD 5 d = a := rfl
theorem gd6 (a b c e f g h d : AV) (l : List AV) : (b :: c :: e :: f :: g :: h :: a :: l).getD 6 d = a := rfl
theorem gd7 (a b c e f g h i d : AV) (l : List AV) : (b :: c :: e :: f :: g :: h :: i :: a :: l).getD 7 d = a := rfl
theorem gd8 (a b c e f g h i j d : AV) (l : List AV) : (b :: c :: e :: f :: g :: h :: i :: j :: a :: l).getD 8 d = a := rfl
theorem wrap64 {n : Int} (h : inI n) : IntKind.i64.wrap n = n := IntWalk.i64_in n h
theorem wrap_eq {ro : Bool} {ain : List Sh} {rout : Sh} {r : List AV → Heap → Option (AV × Heap)} {args : List AV} {σ σ' : Heap} {v v' : AV} (h : args.any A.own = false) (e : r (A.nnL ain args) σ = some (v, σ')) (hv : A.nn rout v = v') : A.wrap ro ain rout r args σ = some (v', σ') := by
 unfold A.wrap
 rw [h, Bool.and_false, cond_false, e]
 simp [hv]
theorem scal2_shift {v : AV} (n : Nat) (h : A.scal2 v = true) : A.fresh v = true ∧ A.shift n v = v := by
 cases v <;> first | exact ⟨h, rfl⟩ | cases h
theorem scal_shift {v : AV} (n : Nat) (h : A.scal v = true) : A.freshT v = true ∧ A.shiftT n v = v := by
 have key : (∀ vs, v ≠ .tup vs) → A.freshT v = true ∧ A.shiftT n v = v := by
  intro k
  have := scal2_shift (v := v) n
  cases v <;> first | exact absurd rfl (k _) | exact this h
 by_cases ht : ∃ vs, v = .tup vs
 ·obtain ⟨vs, rfl⟩ := ht
  simp only [A.scal, List.all_eq_true] at h
  refine ⟨by simp only [A.freshT, List.all_eq_true]; exact fun x hx => (scal2_shift n (h x hx)).1, ?_⟩
  simp only [A.shiftT]
  congr 1
  calc vs.map (A.shift n) = vs.map id := List.map_congr_left fun x hx => (scal2_shift n (h x hx)).2
   _ = vs := List.map_id vs
 ·exact key fun vs e => ht ⟨vs, e⟩
theorem wrap_own {ain : List Sh} {rout : Sh} {r : List AV → Heap → Option (AV × Heap)} {args args' : List AV} {σ : Heap} {v : AV} (h : args.any A.own = true) (hz : A.frzL σ 0 8 args = some args') (ho : args'.any A.own = false) (e : A.wrap true ain rout r args' [] = some (v, [])) (hs : A.scal v = true) : A.wrap true ain rout r args σ = some (v, σ) := by
 unfold A.wrap at e ⊢
 rw [ho, Bool.and_false, cond_false] at e
 obtain ⟨⟨q1, q2⟩, e1, e2⟩ := Option.map_eq_some_iff.1 e
 simp only [Prod.mk.injEq] at e2
 obtain ⟨rfl, rfl⟩ := e2
 rw [h, Bool.and_self, cond_true, hz]
 simp [e1, (scal_shift σ.length hs).1, (scal_shift σ.length hs).2]
theorem fin_same (σ : Heap) (r : AV) : A.fin σ r σ = some (r, σ) := by simp [A.fin]
theorem frz_scal1 (σ : Heap) (n d : Nat) {a : AV} (h : A.scal1 a = true) : A.frz σ n d a = some a := by
 cases a <;> simp only [A.scal1] at h <;> first | (cases h; done) | skip
 case sl sz es => cases es with
  | nil => cases d <;> simp [A.frz, A.frzLL]
  | cons _ _ => simp at h
 all_goals cases d <;> simp [A.frz]
theorem frzL_scal1 (σ : Heap) (n d : Nat) : ∀ {l : List AV}, l.all A.scal1 = true → A.frzL σ n d l = some l
 | [], _ => by simp [A.frzL]
 | a :: l, h => by
  simp only [List.all_cons, Bool.and_eq_true] at h
  simp [A.frzL, frz_scal1 σ n d h.1, frzL_scal1 σ n d h.2]
theorem frz_scal2 (σ : Heap) (n d : Nat) {a : AV} (h : A.scal2 a = true) : A.frz σ n d a = some a := by
 unfold A.scal2 at h
 split at h
 ·cases d <;> simp [A.frz, frzL_scal1 σ n _ h]
 ·exact frz_scal1 σ n d h
theorem frzL_scal2 (σ : Heap) (n d : Nat) : ∀ {l : List AV}, l.all A.scal2 = true → A.frzL σ n d l = some l
 | [], _ => by simp [A.frzL]
 | a :: l, h => by
  simp only [List.all_cons, Bool.and_eq_true] at h
  simp [A.frzL, frz_scal2 σ n d h.1, frzL_scal2 σ n d h.2]
theorem frz_scal (σ : Heap) (n d : Nat) {a : AV} (h : A.scal a = true) : A.frz σ n d a = some a := by
 unfold A.scal at h
 split at h
 ·cases d <;> simp [A.frz, frzL_scal2 σ n _ h]
 ·exact frz_scal2 σ n d h
theorem fin_scal (σ bs : Heap) {r : AV} (h : A.scal r = true) : A.fin σ r (σ ++ bs) = some (r, σ) := by
 unfold A.fin
 split
 ·rfl
 ·rw [if_pos (by simp), frz_scal _ _ _ h]; rfl
theorem fin_int (σ bs : Heap) (k : IntKind) (n : Int) : A.fin σ (.int k n) (σ ++ bs) = some (.int k n, σ) := fin_scal σ bs rfl
theorem fin_bool (σ bs : Heap) (b : Bool) : A.fin σ (.bool b) (σ ++ bs) = some (.bool b, σ) := fin_scal σ bs rfl
theorem fin_str (σ bs : Heap) (s : ByteArray) : A.fin σ (.str s) (σ ++ bs) = some (.str s, σ) := fin_scal σ bs rfl
theorem fin_unit (σ bs : Heap) : A.fin σ (.tup []) (σ ++ bs) = some (.tup [], σ) := fin_scal σ bs rfl
theorem hat (σ bs : Heap) (j : Nat) : (σ ++ bs)[σ.length + j]? = bs[j]? := by rw [List.getElem?_append_right (by omega)]; congr 1; omega
theorem hat0 (σ bs : Heap) : (σ ++ bs)[σ.length]? = bs[0]? := by rw [List.getElem?_append_right (Nat.le_refl _), Nat.sub_self]
theorem hset (σ bs : Heap) (j : Nat) (b : Blk) : (σ ++ bs).set (σ.length + j) b = σ ++ bs.set j b := by rw [List.set_append_right _ _ (by omega)]; congr 2; omega
theorem hset0 (σ bs : Heap) (b : Blk) : (σ ++ bs).set σ.length b = σ ++ bs.set 0 b := by rw [List.set_append_right _ _ (Nat.le_refl _), Nat.sub_self]
section
variable {α : Type} (sz : Nat) (c : α → List AV) (l : List α)
theorem lenS_sl : A.lenS (sl sz c l) = some (.int .i64 l.length) := by simp [sl, A.lenS]
theorem iaddr_sl {k : Nat} {x : α} (h : l[k]? = some x) : A.iaddr sz (sl sz c l) (.int .i64 (k : Int)) = some (.rp (c x)) := by
 have hk : k < l.length := (List.getElem?_eq_some_iff.1 h).1
 have hx : l[k] = x := (List.getElem?_eq_some_iff.1 h).2
 simp [A.iaddr, sl, A.idx, hk, hx]
theorem iaddr_int {i : Int} {x : α} (h0 : 0 ≤ i) (h : l[i.toNat]? = some x) : A.iaddr sz (sl sz c l) (.int .i64 i) = some (.rp (c x)) := by
 have := iaddr_sl sz c l h
 rwa [Int.toNat_of_nonneg h0] at this
end
inductive Rd (S R : Type) where
 | go (s : S)
 | out (r : R)
def Rd.el {S R γ : Type} (x : Rd S R) (f : S → γ) (g : R → γ) : γ := match x with | .go s => f s | .out r => g r
theorem el_go {S R γ : Type} (s : S) (f : S → γ) (g : R → γ) : (Rd.go s : Rd S R).el f g = f s := rfl
theorem el_out {S R γ : Type} (r : R) (f : S → γ) (g : R → γ) : (Rd.out r : Rd S R).el f g = g r := rfl
theorem el_ite {S R γ : Type} {p : Prop} [Decidable p] (x y : Rd S R) (f : S → γ) (g : R → γ) : (if p then x else y).el f g = if p then x.el f g else y.el f g := by split <;> rfl
def runP {α S R : Type} (body : List α → α → S → Rd S R) : List α → List α → S → Rd S R
 | _, [], s => .go s
 | pre, x :: l, s => match body pre x s with | .go s' => runP body (pre ++ [x]) l s' | .out r => .out r
theorem iter_loop {f : List AV → Heap → Option (AX × List AV × Heap)} {v : List AV} {σ : Heap} : ∀ {n m : Nat} {r r' : AX × List AV × Heap}, A.iter f n v σ = some r → A.iter f m v σ = some r' → r = r' := by
 intro n
 induction n generalizing v σ with
 | zero => intro m r r' h; cases h
 | succ n ih =>
  intro m r r' h1 h2
  cases m with
  | zero => cases h2
  | succ m =>
   simp only [A.iter] at h1 h2
   cases hf : f v σ with
   | none => rw [hf] at h1; cases h1
   | some q =>
    rw [hf] at h1 h2
    simp only [Option.bind_some] at h1 h2
    obtain ⟨e, v', σ'⟩ := q
    cases e with
    | normal => exact ih h1 h2
    | exit i => simp only at h1 h2; rw [h1] at h2; injection h2
    | ret => simp only at h1 h2; rw [h1] at h2; injection h2
theorem loop_of_iter {f : List AV → Heap → Option (AX × List AV × Heap)} {v : List AV} {σ : Heap} {n : Nat} {r : AX × List AV × Heap} (h : A.iter f n v σ = some r) : A.loop f v σ = some r := by
 have hex : ∃ n r, A.iter f n v σ = some r := ⟨n, r, h⟩
 unfold A.loop
 rw [dif_pos hex]
 exact congrArg some (iter_loop (Classical.choose_spec (Classical.choose_spec hex)) h)
theorem loop_step {f : List AV → Heap → Option (AX × List AV × Heap)} {v v' : List AV} {σ σ' : Heap} {r : AX × List AV × Heap} (h : f v σ = some (.normal, v', σ')) (k : ∃ n, A.iter f n v' σ' = some r) : ∃ n, A.iter f n v σ = some r := by
 obtain ⟨n, k⟩ := k
 exact ⟨n + 1, by simp [A.iter, h, k]⟩
theorem loop_done {f : List AV → Heap → Option (AX × List AV × Heap)} {v : List AV} {σ : Heap} {r : AX × List AV × Heap} (h : f v σ = some r) (hr : r.1 ≠ .normal) : ∃ n, A.iter f n v σ = some r := by
 obtain ⟨e, v', σ'⟩ := r
 refine ⟨1, ?_⟩
 cases e <;> first | (simp [A.iter, h]; done) | exact absurd rfl hr
theorem loop_pre {α S R γ : Type} {f : List AV → Heap → Option (AX × List AV × Heap)} (l : List α) (body : List α → α → S → Rd S R) (st : List α → S → List AV) (hp : List α → S → Heap)
  (fin : S → AX × List AV × Heap) (out : List α → S → R → AX × List AV × Heap) (P : List α → S → Prop) (s0 : S) {k : AX × List AV × Heap → Option γ} (K1 : S → Option γ) (K2 : R → Option γ)
  (hstep : ∀ pre x rest s, l = pre ++ x :: rest → P pre s → f (st pre s) (hp pre s) = some ((body pre x s).el (fun s' => (.normal, st (pre ++ [x]) s', hp (pre ++ [x]) s')) (fun r => out pre s r)))
  (hend : ∀ s, P l s → f (st l s) (hp l s) = some (fin s)) (h0 : P [] s0)
  (hP : ∀ pre x rest s s', l = pre ++ x :: rest → P pre s → body pre x s = .go s' → P (pre ++ [x]) s')
  (hk1 : ∀ s, P l s → k (fin s) = K1 s) (hk2 : ∀ pre x rest s r, l = pre ++ x :: rest → P pre s → body pre x s = .out r → k (out pre s r) = K2 r)
  (hfin : ∀ s, (fin s).1 ≠ .normal := by intros; simp) (hout : ∀ pre s r, (out pre s r).1 ≠ .normal := by intros; simp) {v : List AV} {σ : Heap} (hv : v = st [] s0 := by rfl) (hσ : σ = hp [] s0 := by rfl) :
  (A.loop f v σ).bind k = (runP body [] l s0).el K1 K2 := by
 have key : ∀ (rest pre : List α) (s : S), l = pre ++ rest → P pre s → ∃ q, (∃ n, A.iter f n (st pre s) (hp pre s) = some q) ∧ k q = (runP body pre rest s).el K1 K2 := by
  intro rest
  induction rest with
  | nil =>
   intro pre s hl hp'
   rw [List.append_nil] at hl
   subst hl
   exact ⟨fin s, loop_done (hend s hp') (hfin s), by rw [runP, el_go, hk1 s hp']⟩
  | cons x rest ih =>
   intro pre s hl hp'
   have h := hstep pre x rest s hl hp'
   rw [runP]
   cases hb : body pre x s with
   | go s' =>
    rw [hb] at h
    obtain ⟨q, h1, h2⟩ := ih (pre ++ [x]) s' (by simpa using hl) (hP pre x rest s s' hl hp' hb)
    exact ⟨q, loop_step h h1, h2⟩
   | out r =>
    rw [hb] at h
    exact ⟨out pre s r, loop_done h (hout pre s r), by rw [el_out, hk2 pre x rest s r hl hp' hb]⟩
 obtain ⟨q, ⟨n, h1⟩, h2⟩ := key l [] s0 rfl h0
 rw [hv, hσ, loop_of_iter h1, Option.bind_some, h2]
theorem pre_get {α : Type} {l pre rest : List α} {x : α} (h : l = pre ++ x :: rest) : l[pre.length]? = some x := by rw [h]; simp
theorem pre_lt {α : Type} {l pre rest : List α} {x : α} (h : l = pre ++ x :: rest) : pre.length < l.length := by rw [h]; simp
theorem all_loop {γ : Type} {p : UInt8 → Bool} {f : List AV → Heap → Option (AX × List AV × Heap)} (s : ByteArray) {σ : Heap} {k : AX × List AV × Heap → Option γ} (K2 : Option γ)
  (hstep : ∀ (i : Nat) (c : UInt8), i < s.size → A.sidx (.str s) (.int .i64 (i : Int)) = some (.int .u8 c.toNat) → f [.bool false, .int .i64 (i : Int)] σ = if p c = true then some (.normal, [.bool false, .int .i64 ((i : Int) + 1)], σ) else some (.ret, [.bool false, .int .i64 (i : Int)], σ))
  (hend : f [.bool false, .int .i64 (s.size : Int)] σ = some (.exit 0, [.bool false, .int .i64 (s.size : Int)], σ)) (hk2 : ∀ i : Int, k (.ret, [.bool false, .int .i64 i], σ) = K2) :
  (A.loop f [.bool false, .int .i64 0] σ).bind k = if s.data.toList.all p = true then k (.exit 0, [.bool false, .int .i64 (s.size : Int)], σ) else K2 := by
 have hsz : s.data.toList.length = s.size := rfl
 refine (loop_pre (S := Unit) (R := Unit) s.data.toList (fun _ c _ => if p c = true then .go () else .out ()) (fun pre _ => [.bool false, .int .i64 (pre.length : Int)]) (fun _ _ => σ) (fun _ => (.exit 0, [.bool false, .int .i64 (s.size : Int)], σ)) (fun pre _ _ => (.ret, [.bool false, .int .i64 (pre.length : Int)], σ)) (fun _ _ => True) ()
  (fun _ => k (.exit 0, [.bool false, .int .i64 (s.size : Int)], σ)) (fun _ => K2) ?_ ?_ trivial (fun _ _ _ _ _ _ _ _ => trivial) (fun _ _ => rfl) (fun _ _ _ _ _ _ _ _ => hk2 _)).trans ?_
 ·intro pre c rest u hl _
  have hlt := pre_lt hl
  have hc := pre_get hl
  rw [hsz] at hlt
  have hsi : A.sidx (.str s) (.int .i64 (pre.length : Int)) = some (.int .u8 c.toNat) := by
   have h2 : s[pre.length] = c := (List.getElem?_eq_some_iff.1 hc).2
   simp [A.sidx, A.idx, hlt, h2]
  rw [hstep pre.length c hlt hsi]
  cases p c <;> simp [Rd.el]
 ·intro u _; rw [hsz]; exact hend
 ·have key : ∀ (l pre : List UInt8), (runP (fun (_ : List UInt8) c (_ : Unit) => if p c = true then (Rd.go () : Rd Unit Unit) else .out ()) pre l ()).el (fun _ => k (.exit 0, [.bool false, .int .i64 (s.size : Int)], σ)) (fun _ => K2) = if l.all p = true then k (.exit 0, [.bool false, .int .i64 (s.size : Int)], σ) else K2 := by
   intro l
   induction l with
   | nil => intro pre; simp [runP, Rd.el]
   | cons c l ih =>
    intro pre
    rw [runP]
    cases hc : p c
    ·simp [hc, Rd.el]
    ·simp only [if_true]
     rw [ih]
     simp [hc]
  exact key s.data.toList []
section
variable {α : Type} (g : α → ByteArray) (gi : α → Int) (v : α → AV)
theorem find_z (k : ByteArray) : ∀ (l : List α), A.find .z (.str k) (l.map fun x => (AV.str (g x), v x)) = some ((l.find? fun x => decide (k = g x)).map v)
 | [] => rfl
 | x :: l => by
  simp only [List.map_cons, A.find, A.eqK, A.eqZ, Option.bind_some, List.find?]
  by_cases h : k = g x
  ·rw [bq]; simp [h]
  ·rw [bq]; simp [h, find_z k l]
theorem find_i (kk : IntKind) (k : Int) : ∀ (l : List α), A.find .i (.int kk k) (l.map fun x => (AV.int kk (gi x), v x)) = some ((l.find? fun x => decide (k = gi x)).map v)
 | [] => rfl
 | x :: l => by
  simp only [List.map_cons, A.find, A.eqK, A.eqI, if_true, Option.bind_some, List.find?]
  by_cases h : k = gi x
  ·have : (k == gi x) = true := by simpa using h
   simp [this, h]
  ·have : (k == gi x) = false := by simpa using h
   simp [this, h, find_i kk k l]
theorem upd_z {k : ByteArray} {w : AV} : ∀ {l : List α}, (∀ x ∈ l, g x ≠ k) → A.upd .z (.str k) w (l.map fun x => (AV.str (g x), v x)) = some ((l.map fun x => (AV.str (g x), v x)) ++ [(.str k, w)])
 | [], _ => rfl
 | x :: l, h => by
  have h1 : (k == g x) = false := by rw [bq]; exact decide_eq_false fun e : k = g x => h x (by simp) e.symm
  simp only [List.map_cons, A.upd, A.eqK, A.eqZ, Option.bind_some, h1, cond_false]
  rw [upd_z (fun y hy => h y (by simp [hy]))]
  rfl
theorem upd_i {kk : IntKind} {k : Int} {w : AV} : ∀ {l : List α}, (∀ x ∈ l, gi x ≠ k) → A.upd .i (.int kk k) w (l.map fun x => (AV.int kk (gi x), v x)) = some ((l.map fun x => (AV.int kk (gi x), v x)) ++ [(.int kk k, w)])
 | [], _ => rfl
 | x :: l, h => by
  have h1 : (k == gi x) = false := by simpa using fun e : k = gi x => h x (by simp) e.symm
  simp only [List.map_cons, A.upd, A.eqK, A.eqI, if_true, Option.bind_some, h1, cond_false]
  rw [upd_i (fun y hy => h y (by simp [hy]))]
  rfl
end
theorem look_at (e : A.EK) {k z : AV} {σ : Heap} {id : Nat} {es : List (AV × AV)} (hk : A.keyOk e k = true) (h : σ[id]? = some (.map es)) : A.look e (.om id) k z σ = (A.find e k es).map fun r => r.getD z := by
 simp [A.look, hk, A.entries, h]
theorem mupd_at (e : A.EK) {k w : AV} {σ : Heap} {id : Nat} {es : List (AV × AV)} (hk : A.keyOk e k = true) (h : σ[id]? = some (.map es)) : A.mupd e (.om id) k w σ = (A.upd e k w es).map fun es => σ.set id (.map es) := by
 simp [A.mupd, hk, h]
theorem len_snoc {α : Type} (l : List α) (x : α) : (((l ++ [x]).length : Nat) : Int) = (l.length : Int) + 1 := by simp
theorem iaddr_pred {α : Type} (sz : Nat) (c : α → List AV) (l : List α) {k : Nat} {x : α} (h0 : 0 < k) (h : l[k - 1]? = some x) : A.iaddr sz (sl sz c l) (.int .i64 ((k : Int) - 1)) = some (.rp (c x)) := by
 have := iaddr_sl sz c l h
 rwa [show ((k - 1 : Nat) : Int) = (k : Int) - 1 by omega] at this
def setZ {α : Type} (g : α → ByteArray) (l : List α) : List (AV × AV) := l.map fun x => (AV.str (g x), AV.bool true)
def setI {α : Type} (g : α → Int) (l : List α) : List (AV × AV) := l.map fun x => (AV.int .i64 (g x), AV.bool true)
theorem any_find {α : Type} (p : α → Bool) : ∀ (l : List α), ((l.find? p).map fun _ => AV.bool true).getD (AV.bool false) = AV.bool (l.any p)
 | [] => rfl
 | x :: l => by
  simp only [List.find?, List.any_cons]
  cases h : p x
  ·simpa using any_find p l
  ·rfl
theorem setZ_find {α : Type} (g : α → ByteArray) (k : ByteArray) (l : List α) : (A.find .z (.str k) (setZ g l)).map (fun r => r.getD (.bool false)) = some (.bool (memB k (l.map g))) := by
 unfold setZ
 rw [find_z g (fun _ => AV.bool true) k l, Option.map_some, any_find]
 refine congrArg some (congrArg AV.bool ?_)
 rw [Bool.eq_iff_iff, memB_iff]
 simp only [List.any_eq_true, decide_eq_true_eq, List.mem_map]
 exact ⟨fun ⟨x, h, e⟩ => ⟨x, h, e.symm⟩, fun ⟨x, h, e⟩ => ⟨x, h, e.symm⟩⟩
theorem setI_find {α : Type} (g : α → Int) (k : Int) (l : List α) : (A.find .i (.int .i64 k) (setI g l)).map (fun r => r.getD (.bool false)) = some (.bool (memB k (l.map g))) := by
 unfold setI
 rw [find_i g (fun _ => AV.bool true) .i64 k l, Option.map_some, any_find]
 refine congrArg some (congrArg AV.bool ?_)
 rw [Bool.eq_iff_iff, memB_iff]
 simp only [List.any_eq_true, decide_eq_true_eq, List.mem_map]
 exact ⟨fun ⟨x, h, e⟩ => ⟨x, h, e.symm⟩, fun ⟨x, h, e⟩ => ⟨x, h, e.symm⟩⟩
section
variable {α : Type} (g : α → ByteArray) (gi : α → Int) (l : List α) (k : ByteArray) (n : Int) (σ bs : Heap) (b0 : Blk)
theorem setZ_look0 : A.look .z (.om σ.length) (.str k) (.bool false) (σ ++ Blk.map (setZ g l) :: bs) = some (.bool (memB k (l.map g))) := by
 rw [look_at .z rfl (by rw [hat0]; rfl), setZ_find]
theorem setI_look0 : A.look .i (.om σ.length) (.int .i64 n) (.bool false) (σ ++ Blk.map (setI gi l) :: bs) = some (.bool (memB n (l.map gi))) := by
 rw [look_at .i rfl (by rw [hat0]; rfl), setI_find]
theorem setZ_look1 : A.look .z (.om (σ.length + 1)) (.str k) (.bool false) (σ ++ b0 :: Blk.map (setZ g l) :: bs) = some (.bool (memB k (l.map g))) := by
 rw [look_at .z rfl (by rw [hat]; rfl), setZ_find]
theorem setI_look1 : A.look .i (.om (σ.length + 1)) (.int .i64 n) (.bool false) (σ ++ b0 :: Blk.map (setI gi l) :: bs) = some (.bool (memB n (l.map gi))) := by
 rw [look_at .i rfl (by rw [hat]; rfl), setI_find]
theorem setZ_upd0 (h : memB k (l.map g) = false) : A.mupd .z (.om σ.length) (.str k) (.bool true) (σ ++ Blk.map (setZ g l) :: bs) = some (σ ++ Blk.map (setZ g l ++ [(.str k, .bool true)]) :: bs) := by
 rw [mupd_at .z rfl (by rw [hat0]; rfl), setZ, upd_z g _ (fun x hx e => memB_false.1 h (by rw [← e]; exact List.mem_map_of_mem hx)), Option.map_some, hset0]; rfl
theorem setI_upd0 (h : memB n (l.map gi) = false) : A.mupd .i (.om σ.length) (.int .i64 n) (.bool true) (σ ++ Blk.map (setI gi l) :: bs) = some (σ ++ Blk.map (setI gi l ++ [(.int .i64 n, .bool true)]) :: bs) := by
 rw [mupd_at .i rfl (by rw [hat0]; rfl), setI, upd_i gi _ (fun x hx e => memB_false.1 h (by rw [← e]; exact List.mem_map_of_mem hx)), Option.map_some, hset0]; rfl
theorem setZ_upd1 (h : memB k (l.map g) = false) : A.mupd .z (.om (σ.length + 1)) (.str k) (.bool true) (σ ++ b0 :: Blk.map (setZ g l) :: bs) = some (σ ++ b0 :: Blk.map (setZ g l ++ [(.str k, .bool true)]) :: bs) := by
 rw [mupd_at .z rfl (by rw [hat]; rfl), setZ, upd_z g _ (fun x hx e => memB_false.1 h (by rw [← e]; exact List.mem_map_of_mem hx)), Option.map_some, hset]; rfl
theorem setI_upd1 (h : memB n (l.map gi) = false) : A.mupd .i (.om (σ.length + 1)) (.int .i64 n) (.bool true) (σ ++ b0 :: Blk.map (setI gi l) :: bs) = some (σ ++ b0 :: Blk.map (setI gi l ++ [(.int .i64 n, .bool true)]) :: bs) := by
 rw [mupd_at .i rfl (by rw [hat]; rfl), setI, upd_i gi _ (fun x hx e => memB_false.1 h (by rw [← e]; exact List.mem_map_of_mem hx)), Option.map_some, hset]; rfl
end
theorem setZ_snoc {α : Type} (g : α → ByteArray) (l : List α) (x : α) : setZ g (l ++ [x]) = setZ g l ++ [(.str (g x), .bool true)] := by simp [setZ]
theorem quiet_same (σ : Heap) (v : AV) : A.quiet (some (v, σ)) σ = some v := by simp [A.quiet]
def Fz (a : AV) : Prop := ∀ σ n d, A.frz σ n d a = some a
def FzL (l : List AV) : Prop := ∀ σ n d, A.frzL σ n d l = some l
theorem fz_int (k : IntKind) (n : Int) : Fz (.int k n) := fun _ _ d => by cases d <;> simp [A.frz]
theorem fz_bool (b : Bool) : Fz (.bool b) := fun _ _ d => by cases d <;> simp [A.frz]
theorem fz_str (s : ByteArray) : Fz (.str s) := fun _ _ d => by cases d <;> simp [A.frz]
theorem fz_agg {l : List AV} (h : FzL l) : Fz (.agg l) := fun σ n d => by cases d <;> simp [A.frz, h σ n]
theorem fzL_nil : FzL [] := fun _ _ _ => by simp [A.frzL]
theorem fzL_cons {a : AV} {l : List AV} (h : Fz a) (k : FzL l) : FzL (a :: l) := fun σ n d => by simp [A.frzL, h σ n d, k σ n d]
theorem fz_sl {α : Type} {sz : Nat} {c : α → List AV} (h : ∀ x, FzL (c x)) (l : List α) : Fz (sl sz c l) := by
 intro σ n d
 have : A.frzLL σ n d (l.map c) = some (l.map c) := by
  induction l with
  | nil => simp [A.frzLL]
  | cons x l ih => simp [A.frzLL, h x σ n d, ih]
 cases d <;> simp [sl, A.frz, this]
theorem fzLL {α : Type} {c : α → List AV} (h : ∀ x, FzL (c x)) (l : List α) (σ : Heap) (n d : Nat) : A.frzLL σ n d (l.map c) = some (l.map c) := by
 induction l with
 | nil => simp [A.frzLL]
 | cons x l ih => simp [A.frzLL, h x σ n d, ih]
def idxI {α : Type} (p : α → Bool) (l : List α) : Int := match l.findIdx? p with | some i => i | none => -1
theorem idxI_cases {α : Type} (p : α → Bool) (l : List α) : (idxI p l = -1 ∧ (∀ x ∈ l, p x = false) ∧ l.find? p = none) ∨ ∃ (k : Nat) (x : α), l[k]? = some x ∧ p x = true ∧ idxI p l = k ∧ l.find? p = some x ∧ ∀ (j : Nat) (y : α), j < k → l[j]? = some y → p y = false := by
 induction l with
 | nil => left; exact ⟨rfl, by simp, rfl⟩
 | cons x l ih =>
  cases h : p x
  ·rcases ih with ⟨h1, h2, h3⟩ | ⟨k, y, h1, h2, h3, h4, h5⟩
   ·left
    refine ⟨?_, ?_, ?_⟩
    ·unfold idxI at h1 ⊢
     rw [List.findIdx?_cons, h]
     cases hf : l.findIdx? p with
     | none => simp
     | some i => rw [hf] at h1; simp at h1
    ·intro y hy
     rcases List.mem_cons.1 hy with rfl | hy
     ·exact h
     ·exact h2 y hy
    ·simp [List.find?, h, h3]
   ·right
    refine ⟨k + 1, y, by simpa using h1, h2, ?_, by simp [List.find?, h, h4], ?_⟩
    ·unfold idxI at h3 ⊢
     rw [List.findIdx?_cons, h]
     cases hf : l.findIdx? p with
     | none => rw [hf] at h3; simp at h3
     | some i => rw [hf] at h3; simp at h3 ⊢; omega
    ·intro j z hj hz
     cases j with
     | zero => simp at hz; subst hz; exact h
     | succ j => exact h5 j z (by omega) (by simpa using hz)
  ·right
   refine ⟨0, x, rfl, h, ?_, by simp [List.find?, h], by intro j y hj; omega⟩
   unfold idxI
   rw [List.findIdx?_cons, h]; rfl
theorem idxI_run {α : Type} {γ : Type} (p : α → Bool) (K1 : Option γ) (K2 : Int → Option γ) : ∀ (l pre : List α), (∀ x ∈ pre, p x = false) → (runP (fun pre x (_ : Unit) => if p x = true then (Rd.out (pre.length : Int) : Rd Unit Int) else .go ()) pre l ()).el (fun _ => K1) K2 = if idxI p (pre ++ l) = -1 then K1 else K2 (idxI p (pre ++ l))
 | [], pre, h => by
  have : idxI p (pre ++ []) = -1 := by
   rcases idxI_cases p (pre ++ []) with h1 | ⟨k, x, h1, h2, _⟩
   ·exact h1.1
   ·have := h x (by have := List.mem_of_getElem? h1; simpa using this)
    rw [h2] at this; cases this
  rw [runP, el_go, if_pos this]
 | x :: l, pre, h => by
  rw [runP]
  cases hx : p x
  ·simp only [Bool.false_eq_true, if_false]
   have := idxI_run p K1 K2 l (pre ++ [x]) (fun y hy => by
    rcases List.mem_append.1 hy with hy | hy
    ·exact h y hy
    ·simp at hy; subst hy; exact hx)
   simpa using this
  ·simp only [if_true, el_out]
   have : idxI p (pre ++ x :: l) = pre.length := by
    rcases idxI_cases p (pre ++ x :: l) with h1 | ⟨k, y, h1, h2, h3, _, h5⟩
    ·have := h1.2.1 x (by simp); rw [hx] at this; cases this
    ·rw [h3]
     rcases Nat.lt_trichotomy k pre.length with hk | hk | hk
     ·rw [List.getElem?_append_left hk] at h1
      have := h y (List.mem_of_getElem? h1); rw [h2] at this; cases this
     ·omega
     ·have := h5 pre.length x hk (by simp); rw [hx] at this; cases this
   rw [this, if_neg (by omega)]
theorem runP_any {α R γ : Type} (p : α → Bool) (r : R) (K1 : Unit → γ) (K2 : R → γ) : ∀ (l pre : List α), (runP (fun _ x (_ : Unit) => if p x = true then (Rd.out r : Rd Unit R) else .go ()) pre l ()).el K1 K2 = if l.any p = true then K2 r else K1 ()
 | [], pre => by simp [runP, Rd.el]
 | x :: l, pre => by
  rw [runP]
  cases h : p x
  ·simp only [Bool.false_eq_true, if_false]
   rw [runP_any p r K1 K2 l (pre ++ [x])]
   simp [h]
  ·simp [h, Rd.el]
theorem sliceS_take {α : Type} (sz : Nat) (c : α → List AV) (l : List α) {k : Nat} (h : k ≤ l.length) {σ : Heap} : A.sliceS sz (sl sz c l) none (some (.int .i64 (k : Int))) σ = some (sl sz c (l.take k)) := by
 simp [A.sliceS, sl, A.bound, h, List.map_take]
theorem nn_e {α : Type} {sz : Nat} {c : α → List AV} {sh : List Sh} (h : ∀ x, A.nnL sh (c x) = c x) (l : List α) : A.nn (.e sz sh) (sl sz c l) = sl sz c l := by
 simp only [sl, A.nn, List.map_map]
 congr 1
 exact List.map_congr_left fun x _ => h x
theorem loop_any {α γ : Type} {f : List AV → Heap → Option (AX × List AV × Heap)} (l : List α) (p : α → Bool) (vs : Nat → List AV) (σ : Heap) (fin : AX × List AV × Heap) (ret : Nat → AX × List AV × Heap) {k : AX × List AV × Heap → Option γ} (K1 K2 : Option γ)
  (hstep : ∀ (i : Nat) (x : α), l[i]? = some x → f (vs i) σ = if p x = true then some (ret i) else some (.normal, vs (i + 1), σ)) (hend : f (vs l.length) σ = some fin) (hk1 : k fin = K1) (hk2 : ∀ i, k (ret i) = K2)
  (hfin : fin.1 ≠ .normal := by simp) (hret : ∀ i, (ret i).1 ≠ .normal := by intros; simp) {v : List AV} {σ' : Heap} (hv : v = vs 0 := by rfl) (hσ : σ' = σ := by rfl) :
  (A.loop f v σ').bind k = if l.any p = true then K2 else K1 := by
 subst hv hσ
 refine (loop_pre (S := Unit) (R := Unit) l (fun _ x _ => if p x = true then .out () else .go ()) (fun pre _ => vs pre.length) (fun _ _ => σ') (fun _ => fin) (fun pre _ _ => ret pre.length) (fun _ _ => True) () (fun _ => K1) (fun _ => K2)
  ?_ (fun _ _ => hend) trivial (fun _ _ _ _ _ _ _ _ => trivial) (fun _ _ => hk1) (fun _ _ _ _ _ _ _ _ => hk2 _) (fun _ => hfin) (fun _ _ _ => hret _)).trans (runP_any p () _ _ l [])
 intro pre x rest u hl _
 rw [hstep pre.length x (pre_get hl)]
 cases p x <;> simp [Rd.el]
theorem iaddr_at {α : Type} (sz : Nat) (c : α → List AV) {l : List α} {k : Nat} {x : α} (h : l[k]? = some x) : A.iaddr sz (sl sz c l) (.int .i64 (k : Int)) = some (.rp (c x)) ∧ (k : Int) < (l.length : Int) ∧ (l.length ≤ mxl → IntKind.i64.wrap ((k : Int) + 1) = (k : Int) + 1) :=
 ⟨iaddr_sl sz c l h, by have := (List.getElem?_eq_some_iff.1 h).1; omega, fun hl => wrap64 (by have := (List.getElem?_eq_some_iff.1 h).1; unfold inI; unfold mxl at hl; omega)⟩
theorem loop_find {α γ : Type} {f : List AV → Heap → Option (AX × List AV × Heap)} (l : List α) (p : α → Bool) (vs : Nat → List AV) (σ : Heap) (fin : AX × List AV × Heap) (ret : Nat → α → AX × List AV × Heap) {k : AX × List AV × Heap → Option γ} (K1 : Option γ) (K2 : α → Option γ)
  (hstep : ∀ (i : Nat) (x : α), l[i]? = some x → f (vs i) σ = if p x = true then some (ret i x) else some (.normal, vs (i + 1), σ)) (hend : f (vs l.length) σ = some fin) (hk1 : k fin = K1) (hk2 : ∀ i x, k (ret i x) = K2 x)
  (hfin : fin.1 ≠ .normal := by simp) (hret : ∀ i x, (ret i x).1 ≠ .normal := by intros; simp) {v : List AV} {σ' : Heap} (hv : v = vs 0 := by rfl) (hσ : σ' = σ := by rfl) :
  (A.loop f v σ').bind k = (l.find? p).elim K1 K2 := by
 subst hv hσ
 have run : ∀ (l pre : List α), (runP (fun _ x (_ : Unit) => if p x = true then (Rd.out x : Rd Unit α) else .go ()) pre l ()).el (fun _ => K1) K2 = (l.find? p).elim K1 K2 := by
  intro l
  induction l with
  | nil => intro pre; rfl
  | cons x l ih =>
   intro pre
   rw [runP]
   cases h : p x
   ·simp only [Bool.false_eq_true, if_false]
    rw [ih, List.find?_cons, h]
   ·simp [h, Rd.el]
 refine (loop_pre (S := Unit) (R := α) l (fun _ x _ => if p x = true then .out x else .go ()) (fun pre _ => vs pre.length) (fun _ _ => σ') (fun _ => fin) (fun pre _ x => ret pre.length x) (fun _ _ => True) () (fun _ => K1) K2
  ?_ (fun _ _ => hend) trivial (fun _ _ _ _ _ _ _ _ => trivial) (fun _ _ => hk1) (fun _ _ _ _ _ _ _ _ => hk2 _ _) (fun _ => hfin) (fun _ _ _ => hret _ _)).trans (run l [])
 intro pre x rest u hl _
 rw [hstep pre.length x (pre_get hl)]
 cases p x <;> simp [Rd.el]
theorem hend_lss {α : Type} (n : Int) (B : AV → Option α) (s : Option α) : ((A.lss (.int .i64 n) (.int .i64 n)).bind fun x => A.cond x (B x) s) = s := by
 simp only [aLss, Int.lt_irrefl, Option.bind_some, decide_false, cF]
section
variable {α β : Type}
theorem cond_lazy {c c' : AV} (h : c = c') (t e : Option α) : A.cond c t e = A.cond c' t e := by rw [h]
theorem guard_lazy {c c' : AV} (h : c = c') (w : Bool) (e d : Option α) : A.guard c w e d = A.guard c' w e d := by rw [h]
theorem bind_lazy {x y : Option α} (h : x = y) (f : α → Option β) : x.bind f = y.bind f := by rw [h]
attribute [congr] cond_lazy guard_lazy bind_lazy
end
theorem MSb : type_of% @Option.bind_some.{0,0} ∧ type_of% @Option.map_some.{0,0} ∧ type_of% @cT ∧ type_of% @cF ∧ type_of% @gTT ∧ type_of% @gTF ∧ type_of% @gFT ∧ type_of% @gFF ∧ type_of% @gN ∧ type_of% @pT ∧ type_of% @pF ∧ type_of% @cond_true.{1} ∧ type_of% @cond_false.{1} ∧ type_of% @xN ∧ type_of% @aAdd ∧ type_of% @aSub ∧ type_of% @aMul ∧ type_of% @aLss ∧ type_of% @aLeq ∧ type_of% @aGtr ∧ type_of% @aGeq ∧ type_of% @aLss8 ∧ type_of% @aLeq8 ∧ type_of% @aGtr8 ∧ type_of% @aGeq8 ∧ type_of% @aEq ∧ type_of% @aNe ∧ type_of% @aEqZ ∧ type_of% @aNeZ ∧ type_of% @aNot ∧ type_of% @aNotD ∧ type_of% @aLb ∧ type_of% @aExt0 ∧ type_of% @aExt1 ∧ type_of% @aExt2 ∧ type_of% @aExt3 ∧ type_of% @aDe ∧ type_of% @aFa ∧ type_of% @aLenZ ∧ type_of% @aCI ∧ type_of% @aCB ∧ type_of% @aCS ∧ type_of% @aCSl ∧ type_of% @p1D ∧ type_of% @gd0 ∧ type_of% @gd1 ∧ type_of% @gd2 ∧ type_of% @gd3 ∧ type_of% @gd4 ∧ type_of% @gd5 ∧ type_of% @gd6 ∧ type_of% @gd7 ∧ type_of% @gd8 ∧ type_of% @fin_same ∧ type_of% @fin_int ∧ type_of% @fin_bool ∧ type_of% @fin_str ∧ type_of% @fin_unit ∧ type_of% @lenS_sl ∧ type_of% @ite_true.{1} ∧ type_of% @ite_false.{1} ∧ type_of% @if_true.{1} ∧ type_of% @if_false.{1} ∧ type_of% @Bool.false_eq_true ∧ type_of% @not_true_eq_false ∧ type_of% @not_false_eq_true ∧ type_of% @decide_true ∧ type_of% @decide_false ∧ type_of% @Bool.not_true ∧ type_of% @Bool.not_false ∧ type_of% @List.append_assoc.{0} ∧ type_of% @List.cons_append.{0} ∧ type_of% @List.nil_append.{0} ∧ type_of% @List.drop_zero.{0} ∧ type_of% @p1_cInt ∧ type_of% @p1_cStr ∧ type_of% @len_snoc ∧ type_of% @Int.natCast_add ∧ type_of% @Int.cast_ofNat_Int ∧ type_of% @quiet_same ∧ type_of% @el_go ∧ type_of% @el_out ∧ type_of% @el_ite ∧ type_of% @setZ_look0 ∧ type_of% @setI_look0 ∧ type_of% @setZ_look1 ∧ type_of% @setI_look1 ∧ type_of% @setZ_snoc ∧ type_of% @setZ_upd0 ∧ type_of% @setI_upd0 ∧ type_of% @setZ_upd1 ∧ type_of% @setI_upd1 ∧ type_of% @true_and ∧ type_of% @and_true ∧ type_of% @false_and ∧ type_of% @and_false ∧ type_of% @true_or ∧ type_of% @or_true ∧ type_of% @false_or ∧ type_of% @or_false ∧ type_of% @Option.getD_some.{0} ∧ type_of% @Option.getD_none.{0} ∧ type_of% @List.length_append.{0} ∧ type_of% @List.length_cons.{0} ∧ type_of% @List.length_nil.{0} ∧ type_of% @Nat.zero_add ∧ type_of% @Nat.add_zero :=
 ⟨@Option.bind_some.{0,0}, @Option.map_some.{0,0}, @cT, @cF, @gTT, @gTF, @gFT, @gFF, @gN, @pT, @pF, @cond_true.{1}, @cond_false.{1}, @xN, @aAdd, @aSub, @aMul, @aLss, @aLeq, @aGtr, @aGeq, @aLss8, @aLeq8, @aGtr8, @aGeq8, @aEq, @aNe, @aEqZ, @aNeZ, @aNot, @aNotD, @aLb, @aExt0, @aExt1, @aExt2, @aExt3, @aDe, @aFa, @aLenZ, @aCI, @aCB, @aCS, @aCSl, @p1D, @gd0, @gd1, @gd2, @gd3, @gd4, @gd5, @gd6, @gd7, @gd8, @fin_same, @fin_int, @fin_bool, @fin_str, @fin_unit, @lenS_sl, @ite_true.{1}, @ite_false.{1}, @if_true.{1}, @if_false.{1}, @Bool.false_eq_true, @not_true_eq_false, @not_false_eq_true, @decide_true, @decide_false, @Bool.not_true, @Bool.not_false, @List.append_assoc.{0}, @List.cons_append.{0}, @List.nil_append.{0}, @List.drop_zero.{0}, @p1_cInt, @p1_cStr, @len_snoc, @Int.natCast_add, @Int.cast_ofNat_Int, @quiet_same, @el_go, @el_out, @el_ite, @setZ_look0, @setI_look0, @setZ_look1, @setI_look1, @setZ_snoc, @setZ_upd0, @setI_upd0, @setZ_upd1, @setI_upd1, @true_and, @and_true, @false_and, @and_false, @true_or, @or_true, @false_or, @or_false, @Option.getD_some.{0}, @Option.getD_none.{0}, @List.length_append.{0}, @List.length_cons.{0}, @List.length_nil.{0}, @Nat.zero_add, @Nat.add_zero⟩
end Go.Proofs.Ytphgchakmkankaa

namespace Go.Proofs.Ytphgchakmkankaa
set_option linter.unusedSectionVars false
set_option linter.unusedSimpArgs false
set_option linter.unusedVariables false
theorem fz_cPoint (x : PointD) : FzL (cPoint x) := (fzL_cons (fz_int _ _) (fzL_cons (fz_int _ _) fzL_nil))
theorem fz_cKey (x : KeyD) : FzL (cKey x) := (fzL_cons (fz_int _ _) (fzL_cons (fz_str _) fzL_nil))
theorem fz_cMove (x : MoveD) : FzL (cMove x) := (fzL_cons (fz_int _ _) (fzL_cons (fz_str _) (fzL_cons (fz_int _ _) (fzL_cons (fz_int _ _) (fzL_cons (fz_bool _) (fzL_cons (fz_bool _) (fzL_cons (fz_int _ _) (fzL_cons (fz_int _ _) fzL_nil))))))))
theorem fz_cCue (x : CueD) : FzL (cCue x) := (fzL_cons (fz_int _ _) (fzL_cons (fz_str _) (fzL_cons (fz_int _ _) (fzL_cons (fz_int _ _) (fzL_cons (fz_int _ _) (fzL_cons (fz_int _ _) (fzL_cons (fz_int _ _) (fzL_cons (fz_sl fz_cPoint _) (fzL_cons (fz_bool _) (fzL_cons (fz_int _ _) (fzL_cons (fz_sl fz_cMove _) fzL_nil)))))))))))
theorem fz_cEntry (x : EntryD) : FzL (cEntry x) := (fzL_cons (fz_int _ _) (fzL_cons (fz_str _) (fzL_cons (fz_int _ _) (fzL_cons (fz_int _ _) (fzL_cons (fz_int _ _) fzL_nil)))))
end Go.Proofs.Ytphgchakmkankaa

namespace Go.Proofs.Ytphgchakmkankaa
set_option linter.unusedSectionVars false
set_option linter.unusedVariables false
set_option linter.unusedSimpArgs false
instance : Inhabited ByteArray := ⟨⟨#[]⟩⟩
instance : Inhabited PointD := ⟨⟨0, 0⟩⟩
theorem eqk_Point (a b : PointD) : A.eqK (.s [0, 0]) (.agg (cPoint a)) (.agg (cPoint b)) = some (decide (a = b)) := by
 obtain ⟨x1, x2⟩ := a
 obtain ⟨x101, x102⟩ := b
 simp only [A.eqK, cPoint, A.eqAll, A.eqC, A.eqI, A.eqB, A.eqZ, if_true, Option.bind_some, Option.map_some, bq]
 congr 1
 rw [Bool.eq_iff_iff]
 simp [and_assoc]
theorem ne_Point (a b : PointD) : A.neq (.s [0, 0]) (.agg (cPoint a)) (.agg (cPoint b)) = some (.bool (decide (¬ (a = b)))) := by rw [A.neq, eqk_Point, Option.map_some, decide_not]
instance : Inhabited CurveD := ⟨⟨0, []⟩⟩
instance : Inhabited FadeD := ⟨⟨0, 0, 0, 0, 0, ⟨0, []⟩⟩⟩
instance : Inhabited ChangeD := ⟨⟨0, 0⟩⟩
instance : Inhabited RangeD := ⟨⟨0, 0, ⟨#[]⟩⟩⟩
instance : Inhabited ParamD := ⟨⟨⟨#[]⟩, 0, 0, 0, 0, false, []⟩⟩
instance : Inhabited ProfileD := ⟨⟨⟨#[]⟩, 0, []⟩⟩
instance : Inhabited UnitD := ⟨⟨0, ⟨#[]⟩, 0, 0⟩⟩
instance : Inhabited RigD := ⟨⟨[], []⟩⟩
instance : Inhabited KeyD := ⟨⟨0, ⟨#[]⟩⟩⟩
theorem eqk_Key (a b : KeyD) : A.eqK (.s [0, 2]) (.agg (cKey a)) (.agg (cKey b)) = some (decide (a = b)) := by
 obtain ⟨x1, x2⟩ := a
 obtain ⟨x101, x102⟩ := b
 simp only [A.eqK, cKey, A.eqAll, A.eqC, A.eqI, A.eqB, A.eqZ, if_true, Option.bind_some, Option.map_some, bq]
 congr 1
 rw [Bool.eq_iff_iff]
 simp [and_assoc]
theorem eq_Key (a b : KeyD) : A.eql (.s [0, 2]) (.agg (cKey a)) (.agg (cKey b)) = some (.bool (decide (a = b))) := by rw [A.eql, eqk_Key]; rfl
instance : Inhabited SettingD := ⟨⟨⟨0, ⟨#[]⟩⟩, 0⟩⟩
instance : Inhabited PresetD := ⟨⟨0, ⟨#[]⟩, []⟩⟩
instance : Inhabited FanD := ⟨⟨[], 0, 0⟩⟩
instance : Inhabited ValueD := ⟨⟨0, 0⟩⟩
theorem eqk_Value (a b : ValueD) : A.eqK (.s [0, 0]) (.agg (cValue a)) (.agg (cValue b)) = some (decide (a = b)) := by
 obtain ⟨x1, x2⟩ := a
 obtain ⟨x101, x102⟩ := b
 simp only [A.eqK, cValue, A.eqAll, A.eqC, A.eqI, A.eqB, A.eqZ, if_true, Option.bind_some, Option.map_some, bq]
 congr 1
 rw [Bool.eq_iff_iff]
 simp [and_assoc]
theorem ne_Value (a b : ValueD) : A.neq (.s [0, 0]) (.agg (cValue a)) (.agg (cValue b)) = some (.bool (decide (¬ (a = b)))) := by rw [A.neq, eqk_Value, Option.map_some, decide_not]
instance : Inhabited MoveD := ⟨⟨⟨0, ⟨#[]⟩⟩, ⟨0, 0⟩, false, false, 0, 0⟩⟩
theorem eqk_Move (a b : MoveD) : A.eqK (.s [0, 2, 0, 0, 1, 1, 0, 0]) (.agg (cMove a)) (.agg (cMove b)) = some (decide (a = b)) := by
 obtain ⟨⟨x1, x2⟩, ⟨x3, x4⟩, x5, x6, x7, x8⟩ := a
 obtain ⟨⟨x101, x102⟩, ⟨x103, x104⟩, x105, x106, x107, x108⟩ := b
 simp only [A.eqK, cMove, A.eqAll, A.eqC, A.eqI, A.eqB, A.eqZ, if_true, Option.bind_some, Option.map_some, bq]
 congr 1
 rw [Bool.eq_iff_iff]
 simp [and_assoc]
theorem ne_Move (a b : MoveD) : A.neq (.s [0, 2, 0, 0, 1, 1, 0, 0]) (.agg (cMove a)) (.agg (cMove b)) = some (.bool (decide (¬ (a = b)))) := by rw [A.neq, eqk_Move, Option.map_some, decide_not]
instance : Inhabited CueD := ⟨⟨0, ⟨#[]⟩, 0, 0, 0, 0, ⟨0, []⟩, false, 0, []⟩⟩
instance : Inhabited EntryD := ⟨⟨⟨0, ⟨#[]⟩⟩, ⟨0, 0⟩, 0⟩⟩
instance : Inhabited MarkD := ⟨⟨0, 0, 0⟩⟩
instance : Inhabited ListD := ⟨⟨0, []⟩⟩
instance : Inhabited PlaybackD := ⟨⟨0, 0, 0⟩⟩
instance : Inhabited SetupD := ⟨⟨⟨[], []⟩, [], [], []⟩⟩
instance : Inhabited ActionD := ⟨⟨0, 0, 0, 0, 0⟩⟩
instance : Inhabited EventD := ⟨⟨0, ⟨0, 0, 0, 0, 0⟩⟩⟩
instance : Inhabited StampD := ⟨⟨0, 0, 0, 0⟩⟩
instance : Inhabited RunD := ⟨⟨⟨0, ⟨#[]⟩⟩, ⟨0, 0, 0, 0, 0, ⟨0, []⟩⟩, 0, false⟩⟩
instance : Inhabited StandingD := ⟨⟨0, 0, 0, false, 0, []⟩⟩
instance : Inhabited EffectStepD := ⟨⟨0, 0, 0⟩⟩
instance : Inhabited EffectD := ⟨⟨0, 0, 0, 0, 0, 0, false, false, []⟩⟩
instance : Inhabited RateD := ⟨⟨0, 0⟩⟩
instance : Inhabited RunningD := ⟨⟨⟨0, 0, 0, 0, 0, 0, false, false, []⟩, [], 0, [], 0, 0, 0⟩⟩
end Go.Proofs.Ytphgchakmkankaa

namespace Go.Proofs.Ytphgchakmkankaa
set_option linter.unusedSectionVars false
set_option linter.unusedVariables false
set_option linter.unusedSimpArgs false
def Rf {β τ : Type} (M : Option β) (T : Option τ) (Q : τ → β → Prop) : Prop := ∀ t, T = some t → ∃ b, M = some b ∧ Q t b
section
variable {α β ω τ ζ : Type}
theorem rf_s {M0 : Option α} {K : α → Option β} {T : Option τ} {Q : τ → β → Prop} (a : α) (h : M0 = some a) (k : Rf (K a) T Q) : Rf (M0.bind K) T Q := by
 intro t ht; obtain ⟨b, h1, h2⟩ := k t ht; exact ⟨b, by rw [h]; exact h1, h2⟩
theorem rf_o {M0 : Option α} {K : α → Option β} {o : Option ω} {K' : ω → Option τ} {Q : τ → β → Prop} (e : ω → α) (h : ∀ t, o = some t → M0 = some (e t)) (k : ∀ t, o = some t → Rf (K (e t)) (K' t) Q) : Rf (M0.bind K) (o.bind K') Q := by
 intro t ht
 obtain ⟨x, h1, h2⟩ := Option.bind_eq_some_iff.1 ht
 obtain ⟨b, h3, h4⟩ := k x h1 t h2
 exact ⟨b, by rw [h x h1]; exact h3, h4⟩
theorem rf_b {M0 : Option α} {K : α → Option β} {o : Option ω} {K' : ω → Option τ} {Q : τ → β → Prop} (Q0 : ω → α → Prop) (h : Rf M0 o Q0) (k : ∀ t a, Q0 t a → Rf (K a) (K' t) Q) : Rf (M0.bind K) (o.bind K') Q := by
 intro t ht
 obtain ⟨x, h1, h2⟩ := Option.bind_eq_some_iff.1 ht
 obtain ⟨a, h3, h4⟩ := h x h1
 obtain ⟨b, h5, h6⟩ := k x a h4 t h2
 exact ⟨b, by rw [h3]; exact h5, h6⟩
theorem rf_ret {t : τ} {b : β} {Q : τ → β → Prop} (h : Q t b) : Rf (some b) (some t) Q := by
 intro u hu; cases hu; exact ⟨b, rfl, h⟩
theorem rf_fin {M : Option β} {t : τ} {Q : τ → β → Prop} (b : β) (e : M = some b) (h : Q t b) : Rf M (some t) Q := by
 rw [e]; exact rf_ret h
theorem rf_none {M : Option β} {Q : τ → β → Prop} : Rf M (none : Option τ) Q := by intro u hu; cases hu
theorem rf_tq {M : Option β} {p : Prop} [Decidable p] {T : Option τ} {Q : τ → β → Prop} (h : p → Rf M T Q) : Rf M (if p then T else none) Q := by
 split
 ·exact h ‹_›
 ·exact rf_none
theorem rf_c {p : Prop} [Decidable p] {X Y : Option β} {X' Y' : Option τ} {Q : τ → β → Prop} (h1 : p → Rf X X' Q) (h2 : ¬ p → Rf Y Y' Q) : Rf (A.cond (.bool (decide p)) X Y) (if p then X' else Y') Q := by
 by_cases h : p
 ·simp only [h, decide_true, if_true]; exact h1 h
 ·simp only [h, decide_false, if_false]; exact h2 h
theorem rf_cb {c : Bool} {X Y : Option β} {X' Y' : Option τ} {Q : τ → β → Prop} (h1 : c = true → Rf X X' Q) (h2 : c = false → Rf Y Y' Q) : Rf (A.cond (.bool c) X Y) (if c = true then X' else Y') Q := by
 cases c
 ·exact h2 rfl
 ·exact h1 rfl
theorem rf_ct {X Y : Option β} {T : Option τ} {Q : τ → β → Prop} (h : Rf X T Q) : Rf (A.cond (.bool true) X Y) T Q := h
theorem rf_cf {X Y : Option β} {T : Option τ} {Q : τ → β → Prop} (h : Rf Y T Q) : Rf (A.cond (.bool false) X Y) T Q := h
theorem rf_bt {c : Bool} {X Y : Option β} {T : Option τ} {Q : τ → β → Prop} (e : c = true) (h : Rf X T Q) : Rf (bif c then X else Y) T Q := by rw [e]; exact h
theorem rf_bf {c : Bool} {X Y : Option β} {T : Option τ} {Q : τ → β → Prop} (e : c = false) (h : Rf Y T Q) : Rf (bif c then X else Y) T Q := by rw [e]; exact h
def gv {α : Type} (g : Bool) (e : α → AV) (t : α) : AV := bif g then e t else .tup []
end
inductive Lr (S B R : Type) where
 | go (s : S)
 | brk (b : B)
 | ret (r : R)
def forL {α S B R : Type} (body : Nat → α → S → Option (Lr S B R)) (fin : S → Option B) : List α → Nat → S → Option (B ⊕ R)
 | [], _, s => (fin s).map .inl
 | x :: l, i, s => (body i x s).bind fun q => match q with | .go s' => forL body fin l (i + 1) s' | .brk b => some (.inl b) | .ret r => some (.inr r)
def forE {α S B R γ : Type} (l : List α) (body : Nat → α → S → Option (Lr S B R)) (fin : S → Option B) (s : S) (K1 : B → Option γ) (K2 : R → Option γ) : Option γ :=
 if l.length ≤ mxl then (forL body fin l 0 s).bind fun q => q.elim K1 K2 else none
def itL {S B R : Type} (body : S → Option (Lr S B R)) : Nat → S → Option (B ⊕ R)
 | 0, _ => none
 | n + 1, s => (body s).bind fun q => match q with | .go s' => itL body n s' | .brk b => some (.inl b) | .ret r => some (.inr r)
noncomputable def whL {S B R : Type} (body : S → Option (Lr S B R)) (s : S) : Option (B ⊕ R) := open Classical in if h : ∃ n r, itL body n s = some r then some (Classical.choose (Classical.choose_spec h)) else none
noncomputable def whE {S B R γ : Type} (body : S → Option (Lr S B R)) (s : S) (K1 : B → Option γ) (K2 : R → Option γ) : Option γ := (whL body s).bind fun q => q.elim K1 K2
theorem itL_one {S B R : Type} {body : S → Option (Lr S B R)} : ∀ {n m : Nat} {s : S} {r r' : B ⊕ R}, itL body n s = some r → itL body m s = some r' → r = r' := by
 intro n
 induction n with
 | zero => intro m s r r' h; cases h
 | succ n ih =>
  intro m s r r' h1 h2
  cases m with
  | zero => cases h2
  | succ m =>
   simp only [itL] at h1 h2
   cases hf : body s with
   | none => rw [hf] at h1; cases h1
   | some q =>
    rw [hf] at h1 h2
    simp only [Option.bind_some] at h1 h2
    cases q with
    | go s' => exact ih h1 h2
    | brk b => simp only at h1 h2; rw [h1] at h2; injection h2
    | ret b => simp only at h1 h2; rw [h1] at h2; injection h2
theorem whL_of {S B R : Type} {body : S → Option (Lr S B R)} {n : Nat} {s : S} {r : B ⊕ R} (h : itL body n s = some r) : whL body s = some r := by
 have hex : ∃ n r, itL body n s = some r := ⟨n, r, h⟩
 unfold whL
 rw [dif_pos hex]
 exact congrArg some (itL_one (Classical.choose_spec (Classical.choose_spec hex)) h)
theorem whL_it {S B R : Type} {body : S → Option (Lr S B R)} {s : S} {r : B ⊕ R} (h : whL body s = some r) : ∃ n, itL body n s = some r := by
 unfold whL at h
 split at h
 ·rename_i hx
  injection h with h
  subst h
  exact ⟨_, Classical.choose_spec (Classical.choose_spec hx)⟩
 ·cases h
theorem whL_step {S B R : Type} (body : S → Option (Lr S B R)) (s : S) : whL body s = (body s).bind fun q => match q with | .go s' => whL body s' | .brk b => some (.inl b) | .ret r => some (.inr r) := by
 cases hf : body s with
 | none =>
  rw [Option.bind_none]
  unfold whL
  rw [dif_neg]
  rintro ⟨n, r, h⟩
  cases n with
  | zero => cases h
  | succ n => simp [itL, hf] at h
 | some q =>
  rw [Option.bind_some]
  cases q with
  | brk b => exact whL_of (n := 1) (by simp [itL, hf])
  | ret b => exact whL_of (n := 1) (by simp [itL, hf])
  | go s' =>
   show whL body s = whL body s'
   cases h : whL body s' with
   | some r =>
    obtain ⟨n, hn⟩ := whL_it h
    exact whL_of (n := n + 1) (by simp [itL, hf, hn])
   | none =>
    cases h2 : whL body s with
    | none => rfl
    | some r =>
     obtain ⟨n, hn⟩ := whL_it h2
     cases n with
     | zero => cases hn
     | succ n =>
      simp only [itL, hf, Option.bind_some] at hn
      rw [whL_of hn] at h; cases h
section
variable {α S B R β τ : Type}
abbrev LS := AX × List AV × Heap
def Rnd (I : S → List AV → Heap → Prop) (QB : B → LS → Prop) (QR : R → LS → Prop) (t : Lr S B R) (q : LS) : Prop := match t with
 | .go s => q.1 = .normal ∧ I s q.2.1 q.2.2
 | .brk b => q.1 ≠ .normal ∧ QB b q
 | .ret r => q.1 ≠ .normal ∧ QR r q
theorem rnd_go {I : S → List AV → Heap → Prop} {QB : B → LS → Prop} {QR : R → LS → Prop} {s : S} {v : List AV} {σ : Heap} (h : I s v σ) : Rnd I QB QR (.go s) (.normal, v, σ) := ⟨rfl, h⟩
theorem rnd_brk {I : S → List AV → Heap → Prop} {QB : B → LS → Prop} {QR : R → LS → Prop} {b : B} {q : LS} (n : q.1 ≠ .normal) (h : QB b q) : Rnd I QB QR (.brk b) q := ⟨n, h⟩
theorem rnd_ret {I : S → List AV → Heap → Prop} {QB : B → LS → Prop} {QR : R → LS → Prop} {r : R} {q : LS} (n : q.1 ≠ .normal) (h : QR r q) : Rnd I QB QR (.ret r) q := ⟨n, h⟩
theorem rf_for {f : List AV → Heap → Option LS} {K : LS → Option β} {Q : τ → β → Prop} {l : List α} {body : Nat → α → S → Option (Lr S B R)} {fin : S → Option B} {s0 : S} {K1 : B → Option τ} {K2 : R → Option τ} {v0 : List AV} {σ0 : Heap}
  (I : Nat → S → List AV → Heap → Prop) (QB : B → LS → Prop) (QR : R → LS → Prop)
  (hstep : l.length ≤ mxl → ∀ i x s v σ, l[i]? = some x → I i s v σ → Rf (f v σ) (body i x s) (Rnd (I (i + 1)) QB QR))
  (hend : l.length ≤ mxl → ∀ s v σ, I l.length s v σ → Rf (f v σ) (fin s) (fun b q => q.1 ≠ .normal ∧ QB b q))
  (h0 : I 0 s0 v0 σ0) (k1 : l.length ≤ mxl → ∀ b q, QB b q → Rf (K q) (K1 b) Q) (k2 : l.length ≤ mxl → ∀ r q, QR r q → Rf (K q) (K2 r) Q) :
  Rf ((A.loop f v0 σ0).bind K) (forE l body fin s0 K1 K2) Q := by
 unfold forE
 refine rf_tq fun hl => ?_
 have hstep := hstep hl
 have hend := hend hl
 have key : ∀ (rest pre : List α) (s : S) (v : List AV) (σ : Heap), l = pre ++ rest → I pre.length s v σ → ∀ t, forL body fin rest pre.length s = some t → ∃ q, (∃ n, A.iter f n v σ = some q) ∧ (match t with | .inl b => QB b q | .inr r => QR r q) := by
  intro rest
  induction rest with
  | nil =>
   intro pre s v σ hl hI t ht
   rw [List.append_nil] at hl
   subst hl
   simp only [forL] at ht
   obtain ⟨b, hb, rfl⟩ := Option.map_eq_some_iff.1 ht
   obtain ⟨q, h1, h2, h3⟩ := hend s v σ hI b hb
   exact ⟨q, loop_done h1 h2, h3⟩
  | cons x rest ih =>
   intro pre s v σ hl hI t ht
   simp only [forL] at ht
   obtain ⟨y, hy, h2⟩ := Option.bind_eq_some_iff.1 ht
   obtain ⟨q, h3, h4⟩ := hstep pre.length x s v σ (by rw [hl]; simp) hI y hy
   obtain ⟨e, v', σ'⟩ := q
   cases y with
   | go s' =>
    obtain ⟨rfl, hI'⟩ := h4
    obtain ⟨q, h5, h6⟩ := ih (pre ++ [x]) s' v' σ' (by simpa using hl) (by simpa using hI') t (by simpa using h2)
    exact ⟨q, loop_step h3 h5, h6⟩
   | brk b => simp only [Option.some.injEq] at h2; subst h2; exact ⟨_, loop_done h3 h4.1, h4.2⟩
   | ret b => simp only [Option.some.injEq] at h2; subst h2; exact ⟨_, loop_done h3 h4.1, h4.2⟩
 intro t ht
 obtain ⟨y, hy, h2⟩ := Option.bind_eq_some_iff.1 ht
 obtain ⟨q, ⟨n, hn⟩, h3⟩ := key l [] s0 v0 σ0 rfl h0 y hy
 cases y with
 | inl b => obtain ⟨z, h4, h5⟩ := k1 hl b q h3 t h2; exact ⟨z, by rw [loop_of_iter hn]; exact h4, h5⟩
 | inr b => obtain ⟨z, h4, h5⟩ := k2 hl b q h3 t h2; exact ⟨z, by rw [loop_of_iter hn]; exact h4, h5⟩
theorem rf_wh {f : List AV → Heap → Option LS} {K : LS → Option β} {Q : τ → β → Prop} {body : S → Option (Lr S B R)} {s0 : S} {K1 : B → Option τ} {K2 : R → Option τ} {v0 : List AV} {σ0 : Heap}
  (I : S → List AV → Heap → Prop) (QB : B → LS → Prop) (QR : R → LS → Prop)
  (hstep : ∀ s v σ, I s v σ → Rf (f v σ) (body s) (Rnd I QB QR))
  (h0 : I s0 v0 σ0) (k1 : ∀ b q, QB b q → Rf (K q) (K1 b) Q) (k2 : ∀ r q, QR r q → Rf (K q) (K2 r) Q) :
  Rf ((A.loop f v0 σ0).bind K) (whE body s0 K1 K2) Q := by
 have key : ∀ (n : Nat) (s : S) (v : List AV) (σ : Heap), I s v σ → ∀ t, itL body n s = some t → ∃ q, (∃ n, A.iter f n v σ = some q) ∧ (match t with | .inl b => QB b q | .inr r => QR r q) := by
  intro n
  induction n with
  | zero => intro s v σ hI t ht; cases ht
  | succ n ih =>
   intro s v σ hI t ht
   simp only [itL] at ht
   obtain ⟨y, hy, h2⟩ := Option.bind_eq_some_iff.1 ht
   obtain ⟨q, h3, h4⟩ := hstep s v σ hI y hy
   obtain ⟨e, v', σ'⟩ := q
   cases y with
   | go s' =>
    obtain ⟨rfl, hI'⟩ := h4
    obtain ⟨q, h5, h6⟩ := ih s' v' σ' hI' t h2
    exact ⟨q, loop_step h3 h5, h6⟩
   | brk b => simp only [Option.some.injEq] at h2; subst h2; exact ⟨_, loop_done h3 h4.1, h4.2⟩
   | ret b => simp only [Option.some.injEq] at h2; subst h2; exact ⟨_, loop_done h3 h4.1, h4.2⟩
 intro t ht
 obtain ⟨y, hy, h2⟩ := Option.bind_eq_some_iff.1 ht
 obtain ⟨n, hn⟩ := whL_it hy
 obtain ⟨q, ⟨m, hm⟩, h3⟩ := key n s0 v0 σ0 h0 y hn
 cases y with
 | inl b => obtain ⟨z, h4, h5⟩ := k1 b q h3 t h2; exact ⟨z, by rw [loop_of_iter hm]; exact h4, h5⟩
 | inr b => obtain ⟨z, h4, h5⟩ := k2 b q h3 t h2; exact ⟨z, by rw [loop_of_iter hm]; exact h4, h5⟩
theorem ix_lt {l : List α} {i : Nat} {x : α} (h : l[i]? = some x) : A.lss (.int .i64 (i : Int)) (.int .i64 (l.length : Int)) = some (.bool true) := by
 have := (List.getElem?_eq_some_iff.1 h).1
 rw [aLss]; simp; omega
theorem ix_end (l : List α) : A.lss (.int .i64 (l.length : Int)) (.int .i64 (l.length : Int)) = some (.bool false) := by rw [aLss]; simp
theorem ix_inc {l : List α} {i : Nat} {x : α} (h : l[i]? = some x) (hl : l.length ≤ mxl) : A.add (.int .i64 (i : Int)) (.int .i64 1) = some (.int .i64 ((i + 1 : Nat) : Int)) := by
 have := (List.getElem?_eq_some_iff.1 h).1
 rw [aAdd, wrap64 (by unfold inI; unfold mxl at hl; omega)]
 simp
def tIx (l : List α) (i : Int) : Option α := if 0 ≤ i then l[i.toNat]? else none
theorem ix_at {sz : Nat} {c : α → List AV} {l : List α} {i : Int} {x : α} (h : tIx l i = some x) : A.iaddr sz (sl sz c l) (.int .i64 i) = some (.rp (c x)) := by
 unfold tIx at h
 split at h
 ·exact iaddr_int sz c l ‹_› h
 ·cases h
theorem ix_for {sz : Nat} {c : α → List AV} {l : List α} {i : Nat} {x : α} (h : l[i]? = some x) : A.iaddr sz (sl sz c l) (.int .i64 (i : Int)) = some (.rp (c x)) := iaddr_sl sz c l h
end
theorem quiet_of {M : Option (AV × Heap)} {v : AV} {σ : Heap} (h : M = some (v, σ)) : A.quiet M σ = some v := by rw [h, quiet_same]
noncomputable def tq {α : Type} (p : Prop) (x : α) : Option α := open Classical in if p then some x else none
theorem tq_pos {α : Type} {p : Prop} {x : α} (h : p) : tq p x = some x := if_pos h
theorem tq_of {α β : Type} {p : Prop} {x r : α} {M : Option β} {e : α → β} (h : p → M = some (e x)) (k : tq p x = some r) : M = some (e r) := by
 unfold tq at k
 split at k
 ·rename_i hp; injection k with k; subst k; exact h hp
 ·cases k
theorem pk_and (b t : Bool) : A.pick (.bool b) (bif b then .bool t else .tup []) (.bool false) = some (.bool (b && t)) := by cases b <;> rfl
theorem pk_or (b t : Bool) : A.pick (.bool b) (.bool true) (bif !b then .bool t else .tup []) = some (.bool (b || t)) := by cases b <;> rfl
section
variable {α β ω τ : Type} {G b : Bool} {M0 : Option AV} {K : AV → Option β} {T : Option τ} {K' : ω → Option τ} {o : Option ω} {Q : τ → β → Prop}
theorem rf_gt (a : AV) (h : b = true → M0 = some a) (k : Rf (K (bif b then a else .tup [])) T Q) : Rf ((A.guard (.bool b) true M0 (some (.tup []))).bind K) T Q := by
 refine rf_s _ ?_ k
 cases b <;> simp_all [A.guard]
theorem rf_gf (a : AV) (h : (!b) = true → M0 = some a) (k : Rf (K (bif !b then a else .tup [])) T Q) : Rf ((A.guard (.bool b) false M0 (some (.tup []))).bind K) T Q := by
 refine rf_s _ ?_ k
 cases b <;> simp_all [A.guard]
theorem rf_ggt (a : AV) (h : (G && b) = true → M0 = some a) (k : Rf (K (bif G && b then a else .tup [])) T Q) : Rf ((A.guard (bif G then .bool b else .tup []) true M0 (some (.tup []))).bind K) T Q := by
 refine rf_s _ ?_ k
 cases G <;> cases b <;> simp_all [A.guard]
theorem rf_ggf (a : AV) (h : (G && !b) = true → M0 = some a) (k : Rf (K (bif G && !b then a else .tup [])) T Q) : Rf ((A.guard (bif G then .bool b else .tup []) false M0 (some (.tup []))).bind K) T Q := by
 refine rf_s _ ?_ k
 cases G <;> cases b <;> simp_all [A.guard]
theorem rf_go {g : Bool} {M : Option AV} {d : ω} (e : ω → AV) (hM : M = bif g then M0 else some (.tup [])) (h : g = true → ∀ t, o = some t → M0 = some (e t)) (k : ∀ t, (g = true → o = some t) → Rf (K (bif g then e t else .tup [])) (K' t) Q) : Rf (M.bind K) ((if g = true then o else some d).bind K') Q := by
 subst hM
 cases g
 ·exact k d (by simp)
 ·intro t ht
  simp only [if_true] at ht
  obtain ⟨x, h1, h2⟩ := Option.bind_eq_some_iff.1 ht
  obtain ⟨y, h3, h4⟩ := k x (fun _ => h1) t h2
  refine ⟨y, ?_, h4⟩
  simp only [cond_true, h rfl x h1, Option.bind_some]
  exact h3
theorem rf_gto {d : ω} (e : ω → AV) (h : b = true → ∀ t, o = some t → M0 = some (e t)) (k : ∀ t, (b = true → o = some t) → Rf (K (bif b then e t else .tup [])) (K' t) Q) : Rf ((A.guard (.bool b) true M0 (some (.tup []))).bind K) ((if b = true then o else some d).bind K') Q := rf_go e (by cases b <;> rfl) h k
theorem aEqB (b c : Bool) : A.eql .b (.bool b) (.bool c) = some (.bool (decide (b = c))) := by cases b <;> cases c <;> rfl
end
theorem wrap_nn {ro : Bool} {ain : List Sh} {rout : Sh} {r : List AV → Heap → Option (AV × Heap)} {args args' : List AV} {σ : Heap} (hn : A.nnL ain args = A.nnL ain args') (h1 : args.any A.own = false) (h2 : args'.any A.own = false) : A.wrap ro ain rout r args σ = A.wrap ro ain rout r args' σ := by
 unfold A.wrap
 rw [h1, h2, hn, Bool.and_false, cond_false, cond_false]
theorem rf_wrap {τ : Type} {ro : Bool} {ain : List Sh} {rout : Sh} {r : List AV → Heap → Option (AV × Heap)} {args args' : List AV} {σ : Heap} {T : Option τ} {enc : τ → AV} (hn : A.nnL ain args = args') (h : args.any A.own = false) (e : Rf (r args' σ) T (fun t b => A.nn rout b.1 = enc t ∧ b.2 = σ)) : ∀ t, T = some t → A.wrap ro ain rout r args σ = some (enc t, σ) := by
 intro t ht
 obtain ⟨⟨v, σ'⟩, h1, h2, h3⟩ := e t ht
 simp only at h2 h3
 subst h3
 exact wrap_eq h (by rw [hn]; exact h1) h2
theorem rf_wrap1 {τ : Type} {ro : Bool} {ain : List Sh} {rout : Sh} {f : AV → Heap → Option (AV × Heap)} {x0 y0 : AV} {σ : Heap} {T : Option τ} {enc : τ → AV} (hn : A.nnL ain [x0] = [y0]) (h : ([x0] : List AV).any A.own = false) (e : Rf (f y0 σ) T (fun t b => A.nn rout b.1 = enc t ∧ b.2 = σ)) : ∀ t, T = some t → A.wrap ro ain rout (A.ar1 f) [x0] σ = some (enc t, σ) := rf_wrap hn h e
theorem rf_wrap2 {τ : Type} {ro : Bool} {ain : List Sh} {rout : Sh} {f : AV → AV → Heap → Option (AV × Heap)} {x0 x1 y0 y1 : AV} {σ : Heap} {T : Option τ} {enc : τ → AV} (hn : A.nnL ain [x0, x1] = [y0, y1]) (h : ([x0, x1] : List AV).any A.own = false) (e : Rf (f y0 y1 σ) T (fun t b => A.nn rout b.1 = enc t ∧ b.2 = σ)) : ∀ t, T = some t → A.wrap ro ain rout (A.ar2 f) [x0, x1] σ = some (enc t, σ) := rf_wrap hn h e
theorem rf_wrap3 {τ : Type} {ro : Bool} {ain : List Sh} {rout : Sh} {f : AV → AV → AV → Heap → Option (AV × Heap)} {x0 x1 x2 y0 y1 y2 : AV} {σ : Heap} {T : Option τ} {enc : τ → AV} (hn : A.nnL ain [x0, x1, x2] = [y0, y1, y2]) (h : ([x0, x1, x2] : List AV).any A.own = false) (e : Rf (f y0 y1 y2 σ) T (fun t b => A.nn rout b.1 = enc t ∧ b.2 = σ)) : ∀ t, T = some t → A.wrap ro ain rout (A.ar3 f) [x0, x1, x2] σ = some (enc t, σ) := rf_wrap hn h e
end Go.Proofs.Ytphgchakmkankaa

namespace Go.Proofs.Ytphgchakmkankaa
set_option linter.unusedSectionVars false
set_option linter.unusedVariables false
set_option linter.unusedSimpArgs false
inductive Ct where
 | s (sz : Nat) (es : List (List AV))
 | m (es : List (AV × AV))
 | b (cs : List AV)
def idOf : AV → Option Nat
 | .os id _ _ _ _ => some id
 | .om id => some id
 | .op id _ => some id
 | _ => none
def Own (n : Nat) (σ : Heap) (p : AV × Ct) : Prop := match p.2 with
 | .s sz es => (p.1 = .nsl ∧ es = []) ∨ ∃ id g off a, p.1 = .os id g sz off es.length ∧ n ≤ id ∧ σ[id]? = some (.arr g sz a) ∧ off ≤ a.length ∧ a.drop off = es
 | .m es => ∃ id, p.1 = .om id ∧ n ≤ id ∧ σ[id]? = some (.map es)
 | .b cs => ∃ id, p.1 = .op id 0 ∧ n ≤ id ∧ σ[id]? = some (.box cs)
structure Hp (σ0 σ : Heap) (L : List (AV × Ct)) : Prop where
 pre : ∃ bs, σ = σ0 ++ bs
 own : ∀ (i : Nat) p, L[i]? = some p → Own σ0.length σ p
 sep : ∀ (i j : Nat) p q a, L[i]? = some p → L[j]? = some q → idOf p.1 = some a → idOf q.1 = some a → i = j
section
variable {σ0 σ σ' : Heap} {L : List (AV × Ct)} {n : Nat}
theorem hp_nil (σ : Heap) : Hp σ σ [] := ⟨⟨[], by simp⟩, by simp, by simp⟩
theorem own_lt {p : AV × Ct} {a : Nat} (h : Own n σ p) (e : idOf p.1 = some a) : n ≤ a ∧ a < σ.length := by
 obtain ⟨v, c⟩ := p
 cases c with
 | s sz es =>
  rcases h with ⟨h1, _⟩ | ⟨id, g, off, x, h1, h2, h3, _⟩
  ·simp only at h1; subst h1; cases e
  ·simp only at h1; subst h1; injection e with e; subst e; exact ⟨h2, (List.getElem?_eq_some_iff.1 h3).1⟩
 | m es => obtain ⟨id, h1, h2, h3⟩ := h; simp only at h1; subst h1; injection e with e; subst e; exact ⟨h2, (List.getElem?_eq_some_iff.1 h3).1⟩
 | b es => obtain ⟨id, h1, h2, h3⟩ := h; simp only at h1; subst h1; injection e with e; subst e; exact ⟨h2, (List.getElem?_eq_some_iff.1 h3).1⟩
theorem own_mono {p : AV × Ct} (h : Own n σ p) (k : ∀ a, idOf p.1 = some a → σ'[a]? = σ[a]?) : Own n σ' p := by
 obtain ⟨v, c⟩ := p
 cases c with
 | s sz es =>
  rcases h with h | ⟨id, g, off, x, h1, h2, h3, h4⟩
  ·exact .inl h
  ·simp only at h1; subst h1; exact .inr ⟨id, g, off, x, rfl, h2, by rw [k id rfl]; exact h3, h4⟩
 | m es => obtain ⟨id, h1, h2, h3⟩ := h; simp only at h1; subst h1; exact ⟨id, rfl, h2, by rw [k id rfl]; exact h3⟩
 | b es => obtain ⟨id, h1, h2, h3⟩ := h; simp only at h1; subst h1; exact ⟨id, rfl, h2, by rw [k id rfl]; exact h3⟩
theorem pre_set (h : ∃ bs, σ = σ0 ++ bs) {id : Nat} (hn : σ0.length ≤ id) (b : Blk) : ∃ bs, σ.set id b = σ0 ++ bs := by
 obtain ⟨bs, rfl⟩ := h
 exact ⟨bs.set (id - σ0.length) b, by rw [List.set_append_right _ _ hn]⟩
theorem hp_set (H : Hp σ0 σ L) {k id : Nat} {h h' : AV} {c c' : Ct} {b : Blk} (hk : L[k]? = some (h, c)) (hi : idOf h = some id) (hi' : idOf h' = some id) (ho : Own σ0.length (σ.set id b) (h', c')) : Hp σ0 (σ.set id b) (L.set k (h', c')) := by
 have hid := own_lt (H.own k _ hk) hi
 have hkl := (List.getElem?_eq_some_iff.1 hk).1
 refine ⟨pre_set H.pre hid.1 b, fun i p hp => ?_, fun i j p q a hp hq e1 e2 => ?_⟩
 ·rw [List.getElem?_set] at hp
  split at hp
  ·rename_i e; subst e; simp [hkl] at hp; subst hp; exact ho
  ·rename_i e
   refine own_mono (H.own i p hp) fun a ha => ?_
   rw [List.getElem?_set]
   split
   ·rename_i e'; subst e'; exact absurd (H.sep k i _ _ id hk hp hi ha) e
   ·rfl
 ·have key : ∀ (i : Nat) (p : AV × Ct), (L.set k (h', c'))[i]? = some p → idOf p.1 = some a → ∃ p', L[i]? = some p' ∧ idOf p'.1 = some a := by
   intro i p hp e
   rw [List.getElem?_set] at hp
   split at hp
   ·rename_i e'; subst e'; simp [hkl] at hp; subst hp; exact ⟨_, hk, by rw [hi]; rw [hi'] at e; exact e⟩
   ·exact ⟨p, hp, e⟩
  obtain ⟨p', hp', e1'⟩ := key i p hp e1
  obtain ⟨q', hq', e2'⟩ := key j q hq e2
  exact H.sep i j p' q' a hp' hq' e1' e2'
theorem hp_push (H : Hp σ0 σ L) {h' : AV} {c' : Ct} {b : Blk} (hi' : idOf h' = some σ.length) (ho : Own σ0.length (σ ++ [b]) (h', c')) : Hp σ0 (σ ++ [b]) (L ++ [(h', c')]) := by
 refine ⟨?_, fun i p hp => ?_, fun i j p q a hp hq e1 e2 => ?_⟩
 ·obtain ⟨bs, rfl⟩ := H.pre; exact ⟨bs ++ [b], by simp⟩
 ·rw [List.getElem?_append] at hp
  split at hp
  ·refine own_mono (H.own i p hp) fun a ha => ?_
   have := (own_lt (H.own i p hp) ha).2
   rw [List.getElem?_append_left this]
  ·have hp' := (List.getElem?_eq_some_iff.1 hp).2
   simp at hp'; subst hp'; exact ho
 ·have key : ∀ (i : Nat) (p : AV × Ct), (L ++ [(h', c')])[i]? = some p → idOf p.1 = some a → (i = L.length ∧ a = σ.length) ∨ (L[i]? = some p ∧ a < σ.length) := by
   intro i p hp e
   rw [List.getElem?_append] at hp
   split at hp
   ·exact .inr ⟨hp, (own_lt (H.own i p hp) e).2⟩
   ·obtain ⟨h1, h2⟩ := List.getElem?_eq_some_iff.1 hp
    simp at h1 h2; subst h2; rw [hi'] at e; injection e with e; exact .inl ⟨by omega, e.symm⟩
  rcases key i p hp e1 with ⟨a1, a2⟩ | ⟨a1, a2⟩ <;> rcases key j q hq e2 with ⟨b1, b2⟩ | ⟨b1, b2⟩
  ·omega
  ·omega
  ·omega
  ·exact H.sep i j p q a a1 b1 e1 e2
theorem hp_om (H : Hp σ0 σ L) : Hp σ0 (σ ++ [.map []]) (L ++ [(.om σ.length, .m [])]) := by
 have hl : σ0.length ≤ σ.length := by obtain ⟨bs, rfl⟩ := H.pre; simp
 exact hp_push H rfl ⟨σ.length, rfl, hl, by simp⟩
theorem hp_mupd (H : Hp σ0 σ L) {k : Nat} {h key v : AV} {ek : A.EK} {es es' : List (AV × AV)} (hk : L[k]? = some (h, .m es)) (hok : A.keyOk ek key = true) (he : A.upd ek key v es = some es') : ∃ σ', A.mupd ek h key v σ = some σ' ∧ Hp σ0 σ' (L.set k (h, .m es')) := by
 obtain ⟨id, h1, h2, h3⟩ := H.own k _ hk
 simp only at h1 h3
 subst h1
 have hid := (List.getElem?_eq_some_iff.1 h3).1
 exact ⟨σ.set id (.map es'), by simp [A.mupd, hok, h3, he], hp_set H hk rfl rfl ⟨id, rfl, h2, by simp [hid]⟩⟩
theorem hp_mdel (H : Hp σ0 σ L) {k : Nat} {h key : AV} {ek : A.EK} {es es' : List (AV × AV)} (hk : L[k]? = some (h, .m es)) (hok : A.keyOk ek key = true) (he : A.del ek key es = some es') : ∃ σ', A.mdel ek h key σ = some σ' ∧ Hp σ0 σ' (L.set k (h, .m es')) := by
 obtain ⟨id, h1, h2, h3⟩ := H.own k _ hk
 simp only at h1 h3
 subst h1
 have hid := (List.getElem?_eq_some_iff.1 h3).1
 exact ⟨σ.set id (.map es'), by simp [A.mdel, hok, h3, he], hp_set H hk rfl rfl ⟨id, rfl, h2, by simp [hid]⟩⟩
def Fzv (σ0 σ : Heap) (r r' : AV) : Prop := (∀ d, A.frz σ σ0.length (d + 1) r = some r') ∧ (σ = σ0 → r' = r)
theorem nn_t1 {s1 : Sh} {v1 w1 : AV} {ss : List Sh} {vs ws : List AV} (h1 : A.nn s1 v1 = w1) (h2 : A.nnL ss vs = ws) : A.nnL (s1 :: ss) (v1 :: vs) = w1 :: ws := by simp only [A.nnL, h1, h2]
theorem nn_t0 : A.nnL [] [] = [] := by simp [A.nnL]
theorem nn_a {ss : List Sh} {vs ws : List AV} (h : A.nnL ss vs = ws) : A.nn (.a ss) (.agg vs) = .agg ws := by simp only [A.nn, h]
theorem frzM_fz (d : Nat) : ∀ {es : List (AV × AV)}, (∀ p ∈ es, Fz p.1 ∧ Fz p.2) → A.frzM' σ n d es = some es
 | [], _ => by simp [A.frzM']
 | (k, v) :: es, h => by
  have h1 := h (k, v) (by simp)
  simp only [A.frzM', h1.1 σ n d, h1.2 σ n d, Option.bind_some, frzM_fz d (es := es) (fun p hp => h p (by simp [hp])), Option.map_some]
theorem fzv_om (H : Hp σ0 σ L) {k : Nat} {h : AV} {es : List (AV × AV)} (hk : L[k]? = some (h, .m es)) (hc : ∀ p ∈ es, Fz p.1 ∧ Fz p.2) : Fzv σ0 σ h (.fm es) := by
 obtain ⟨id, h1, h2, h3⟩ := H.own k _ hk
 simp only at h1 h3
 subst h1
 refine ⟨fun d => ?_, fun e => ?_⟩
 ·simp only [A.frz, Nat.not_lt.2 h2, if_false, h3, frzM_fz d hc, Option.map_some]
 ·subst e
  have := (List.getElem?_eq_some_iff.1 h3).1
  omega
theorem hp_fin (H : Hp σ0 σ L) {r r' : AV} (h : Fzv σ0 σ r r') : A.fin σ0 r σ = some (r', σ0) := by
 obtain ⟨bs, hb⟩ := H.pre
 subst hb
 by_cases hbs : bs = []
 ·subst hbs
  rw [List.append_nil] at h ⊢
  rw [fin_same, h.2 rfl]
 ·unfold A.fin
  rw [if_neg (by simpa using hbs), if_pos (by simp), h.1 7]; rfl
end
section
variable {κ ν : Type} [DecidableEq κ]
def tfind (k : κ) : List (κ × ν) → Option ν
 | [] => none
 | (k', v) :: r => if k = k' then some v else tfind k r
def tupd (k : κ) (v : ν) : List (κ × ν) → List (κ × ν)
 | [] => [(k, v)]
 | (k', v') :: r => if k = k' then (k, v) :: r else (k', v') :: tupd k v r
def tdel (k : κ) : List (κ × ν) → List (κ × ν)
 | [] => []
 | (k', v') :: r => if k = k' then r else (k', v') :: tdel k r
variable {ek : A.EK} {eK : κ → AV} {eV : ν → AV} (hq : ∀ a b, A.eqK ek (eK a) (eK b) = some (decide (a = b)))
include hq
theorem find_t (k : κ) : ∀ l : List (κ × ν), A.find ek (eK k) (l.map fun p => (eK p.1, eV p.2)) = some ((tfind k l).map eV)
 | [] => rfl
 | (k', v) :: r => by
  simp only [List.map_cons, A.find, hq, Option.bind_some, tfind]
  by_cases h : k = k'
  ·simp [h]
  ·simp [h, find_t k r]
theorem upd_t (k : κ) (v : ν) : ∀ l : List (κ × ν), A.upd ek (eK k) (eV v) (l.map fun p => (eK p.1, eV p.2)) = some ((tupd k v l).map fun p => (eK p.1, eV p.2))
 | [] => rfl
 | (k', v') :: r => by
  simp only [List.map_cons, A.upd, hq, Option.bind_some, tupd]
  by_cases h : k = k'
  ·simp [h]
  ·simp [h, upd_t k v r]
theorem del_t (k : κ) : ∀ l : List (κ × ν), A.del ek (eK k) (l.map fun p => (eK p.1, eV p.2)) = some ((tdel k l).map fun p => (eK p.1, eV p.2))
 | [] => rfl
 | (k', v') :: r => by
  simp only [List.map_cons, A.del, hq, Option.bind_some, tdel]
  by_cases h : k = k'
  ·simp [h]
  ·simp [h, del_t k r]
end
theorem getD_map {α : Type} (o : Option α) (f : α → AV) (d : α) : (o.map f).getD (f d) = f (o.getD d) := by cases o <;> rfl
theorem isSome_map {α : Type} (o : Option α) (f : α → AV) : (o.map f).isSome = o.isSome := by cases o <;> rfl
def fmE {κ ν : Type} (eK : κ → AV) (eV : ν → AV) (l : List (κ × ν)) : AV := .fm (l.map fun p => (eK p.1, eV p.2))
section
variable {κ ν : Type} [DecidableEq κ] {ek : A.EK} {eK : κ → AV} {eV : ν → AV} {σ0 σ : Heap} {L : List (AV × Ct)} {h : AV} {l : List (κ × ν)}
theorem hp_updT (H : Hp σ0 σ L) (k : Nat) (hk : L[k]? = some (h, .m (l.map fun p => (eK p.1, eV p.2)))) (hq : ∀ a b, A.eqK ek (eK a) (eK b) = some (decide (a = b))) (x : κ) (v : ν) (hok : A.keyOk ek (eK x) = true) : ∃ σ', A.mupd ek h (eK x) (eV v) σ = some σ' ∧ Hp σ0 σ' (L.set k (h, .m ((tupd x v l).map fun p => (eK p.1, eV p.2)))) := hp_mupd H hk hok (upd_t hq x v l)
theorem hp_delT (H : Hp σ0 σ L) (k : Nat) (hk : L[k]? = some (h, .m (l.map fun p => (eK p.1, eV p.2)))) (hq : ∀ a b, A.eqK ek (eK a) (eK b) = some (decide (a = b))) (x : κ) (hok : A.keyOk ek (eK x) = true) : ∃ σ', A.mdel ek h (eK x) σ = some σ' ∧ Hp σ0 σ' (L.set k (h, .m ((tdel x l).map fun p => (eK p.1, eV p.2)))) := hp_mdel H hk hok (del_t hq x l)
theorem fm_lookOkT (hq : ∀ a b, A.eqK ek (eK a) (eK b) = some (decide (a = b))) (x : κ) (z : ν) (hok : A.keyOk ek (eK x) = true) : A.lookOk ek (fmE eK eV l) (eK x) (eV z) σ = some (.tup [eV ((tfind x l).getD z), .bool (tfind x l).isSome]) := by
 simp only [A.lookOk, fmE, hok, cond_true, A.entries, Option.bind_some, find_t hq, Option.map_some, getD_map, isSome_map]
end
section
variable {α : Type} {c : α → List AV} {l ys : List α} {σ0 σ : Heap} {L : List (AV × Ct)} {h : AV} {sz : Nat}
end
def tSl {α : Type} (l : List α) (lo hi : Option Int) : Option (List α) :=
 let h := hi.getD l.length
 let k := lo.getD 0
 if 0 ≤ k ∧ k ≤ h ∧ h ≤ l.length then some ((l.take h.toNat).drop k.toNat) else none
theorem sls_at {α : Type} {sz : Nat} {c : α → List AV} {l r : List α} {lo hi : Option Int} {σ : Heap} (h : tSl l lo hi = some r) : A.sliceS sz (sl sz c l) (lo.map (.int .i64)) (hi.map (.int .i64)) σ = some (sl sz c r) := by
 unfold tSl at h
 simp only at h
 split at h
 ·rename_i hc
  injection h with h
  subst h
  obtain ⟨h1, h2, h3⟩ := hc
  simp only [A.sliceS, sl, if_true, List.length_map]
  have e1 : A.bound l.length l.length (hi.map (.int .i64)) = some (hi.getD l.length).toNat := by
   cases hi with
   | none => simp [A.bound]
   | some h => simp only [Option.getD_some] at h2 h3; simp [A.bound, show 0 ≤ h by omega, h3]
  have e2 : A.bound (hi.getD l.length).toNat 0 (lo.map (.int .i64)) = some (lo.getD 0).toNat := by
   cases lo with
   | none => simp [A.bound]
   | some k =>
    simp only [Option.getD_some] at h1 h2
    have : k ≤ ((hi.getD l.length).toNat : Int) := by omega
    simp only [Option.map_some, A.bound, Option.getD_some]
    rw [if_pos ⟨h1, this⟩]
  rw [e1, Option.bind_some, e2, Option.map_some, List.map_drop, List.map_take]
 ·cases h
end Go.Proofs.Ytphgchakmkankaa

namespace Go.Proofs.Ytphgchakmkankaa
set_option linter.unusedSectionVars false
set_option linter.unusedVariables false
set_option linter.unusedSimpArgs false
def HP := (Nat → Option Blk) → Prop
namespace HP
set_option linter.unusedSectionVars false
def emp : HP := fun h => ∀ i, h i = none
def blk (id : Nat) (b : Blk) : HP := fun h => ∀ i, h i = if i = id then some b else none
def star (P Q : HP) : HP := fun h => ∃ f g, P f ∧ Q g ∧ (∀ i, f i = none ∨ g i = none) ∧ ∀ i, h i = (f i).or (g i)
def pr (p : Prop) : HP := fun h => p ∧ ∀ i, h i = none
def ex {α : Type} (P : α → HP) : HP := fun h => ∃ x, P x h
instance : Mul HP := ⟨star⟩
theorem star_comm (P Q : HP) : P * Q = Q * P := by
 have key : ∀ P Q : HP, ∀ h, (P * Q) h → (Q * P) h := by
  rintro P Q h ⟨f, g, hf, hg, hd, hh⟩
  refine ⟨g, f, hg, hf, fun i => (hd i).symm, fun i => ?_⟩
  rw [hh i]
  rcases hd i with e | e <;> rw [e] <;> simp
 funext h
 exact propext ⟨key P Q h, key Q P h⟩
theorem star_assoc (P Q R : HP) : P * Q * R = P * (Q * R) := by
 funext h
 apply propext
 constructor
 ·rintro ⟨f, g, ⟨f1, f2, h1, h2, hd1, hf⟩, hg, hd, hh⟩
  refine ⟨f1, fun i => (f2 i).or (g i), h1, ⟨f2, g, h2, hg, fun i => ?_, fun i => rfl⟩, fun i => ?_, fun i => ?_⟩
  ·have := hd i; rw [hf i] at this
   rcases this with e | e
   ·cases h : f1 i <;> simp [h] at e <;> exact .inl e
   ·exact .inr e
  ·have a := hd i; have b := hd1 i; rw [hf i] at a
   rcases b with b | b
   ·exact .inl b
   ·rcases a with a | a
    ·cases h : f1 i <;> simp [h] at a; exact .inl rfl
    ·exact .inr (show (f2 i).or (g i) = none by rw [b, a]; rfl)
  ·rw [hh i, hf i]; cases f1 i <;> simp
 ·rintro ⟨f, g, hf, ⟨g1, g2, h1, h2, hd1, hg⟩, hd, hh⟩
  refine ⟨fun i => (f i).or (g1 i), g2, ⟨f, g1, hf, h1, fun i => ?_, fun i => rfl⟩, h2, fun i => ?_, fun i => ?_⟩
  ·have := hd i; rw [hg i] at this
   rcases this with e | e
   ·exact .inl e
   ·cases h : g1 i <;> simp [h] at e; exact .inr rfl
  ·have a := hd i; have b := hd1 i; rw [hg i] at a
   rcases b with b | b
   ·rcases a with a | a
    ·exact .inl (show (f i).or (g1 i) = none by rw [a, b]; rfl)
    ·rw [b] at a; exact .inr (by simpa using a)
   ·exact .inr b
  ·show h i = ((f i).or (g1 i)).or (g2 i)
   rw [hh i, hg i]; cases f i <;> simp
theorem emp_star (P : HP) : emp * P = P := by
 funext h
 apply propext
 constructor
 ·rintro ⟨f, g, hf, hg, hd, hh⟩
  have : h = g := by funext i; rw [hh i, hf i]; rfl
  rw [this]; exact hg
 ·intro hp
  exact ⟨fun _ => none, h, fun _ => rfl, hp, fun _ => .inl rfl, fun i => by simp⟩
theorem star_emp (P : HP) : P * emp = P := by rw [star_comm, emp_star]
instance : Std.Associative (α := HP) (· * ·) := ⟨star_assoc⟩
instance : Std.Commutative (α := HP) (· * ·) := ⟨star_comm⟩
end HP
open HP
structure Hs (B : Blk → Prop) (σ0 σ : Heap) (P : HP) : Prop where
 pre : ∃ bs, σ = σ0 ++ bs ∧ ∀ b ∈ bs, B b
 own : ∃ h, P h ∧ ∀ i b, h i = some b → σ0.length ≤ i ∧ σ[i]? = some b
def anyB : Blk → Prop := fun _ => True
section
variable {B : Blk → Prop} {σ0 σ : Heap} {P Q R : HP} {id : Nat} {b b' : Blk}
theorem hs_eq (e : P = Q) (H : Hs B σ0 σ P) : Hs B σ0 σ Q := e ▸ H
theorem hs_mono (k : ∀ h, P h → Q h) (H : Hs B σ0 σ (P * R)) : Hs B σ0 σ (Q * R) := by
 obtain ⟨h1, h, ⟨f, g, hf, hg, hd, hh⟩, h2⟩ := H
 exact ⟨h1, h, ⟨f, g, k f hf, hg, hd, hh⟩, h2⟩
theorem hs_drop (H : Hs B σ0 σ (P * R)) : Hs B σ0 σ R := by
 obtain ⟨h1, h, ⟨f, g, hf, hg, hd, hh⟩, h2⟩ := H
 refine ⟨h1, g, hg, fun i b hb => h2 i b ?_⟩
 rw [hh i]
 rcases hd i with e | e
 ·rw [e, hb]; rfl
 ·rw [e] at hb; cases hb
theorem hs_pr {p : Prop} : Hs B σ0 σ (pr p * R) ↔ p ∧ Hs B σ0 σ R := by
 constructor
 ·intro H
  refine ⟨?_, hs_drop H⟩
  obtain ⟨h1, h, ⟨f, g, hf, hg, hd, hh⟩, h2⟩ := H
  exact hf.1
 ·rintro ⟨hp, h1, h, hr, h2⟩
  exact ⟨h1, h, ⟨fun _ => none, h, ⟨hp, fun _ => rfl⟩, hr, fun _ => .inl rfl, fun i => by simp⟩, h2⟩
theorem hs_ex {α : Type} {P : α → HP} : Hs B σ0 σ (ex P * R) ↔ ∃ x, Hs B σ0 σ (P x * R) := by
 constructor
 ·rintro ⟨h1, h, ⟨f, g, ⟨x, hf⟩, hg, hd, hh⟩, h2⟩
  exact ⟨x, h1, h, ⟨f, g, hf, hg, hd, hh⟩, h2⟩
 ·rintro ⟨x, h1, h, ⟨f, g, hf, hg, hd, hh⟩, h2⟩
  exact ⟨h1, h, ⟨f, g, ⟨x, hf⟩, hg, hd, hh⟩, h2⟩
theorem hs_nil (σ : Heap) : Hs B σ σ emp := ⟨⟨[], by simp, by simp⟩, fun _ => none, fun _ => rfl, fun _ _ h => by cases h⟩
theorem hs_len (H : Hs B σ0 σ P) : σ0.length ≤ σ.length := by obtain ⟨⟨bs, rfl, _⟩, _⟩ := H; simp
theorem hs_get (H : Hs B σ0 σ (blk id b * R)) : σ0.length ≤ id ∧ σ[id]? = some b := by
 obtain ⟨h1, h, ⟨f, g, hf, hg, hd, hh⟩, h2⟩ := H
 exact h2 id b (by rw [hh id, hf id]; simp)
theorem hs_B (H : Hs B σ0 σ (blk id b * R)) : B b := by
 obtain ⟨h1, h2⟩ := hs_get H
 obtain ⟨⟨bs, rfl, hb⟩, _⟩ := H
 rw [List.getElem?_append_right h1] at h2
 exact hb b (List.mem_of_getElem? h2)
theorem hs_set (H : Hs B σ0 σ (blk id b * R)) (hb : B b') : Hs B σ0 (σ.set id b') (blk id b' * R) := by
 obtain ⟨hid, hget⟩ := hs_get H
 have hlt := (List.getElem?_eq_some_iff.1 hget).1
 obtain ⟨⟨bs, rfl, hB⟩, h, ⟨f, g, hf, hg, hd, hh⟩, h2⟩ := H
 refine ⟨⟨bs.set (id - σ0.length) b', by rw [List.set_append_right _ _ hid], fun x hx => ?_⟩, fun i => if i = id then some b' else g i, ⟨fun i => if i = id then some b' else none, g, fun i => rfl, hg, fun i => ?_, fun i => ?_⟩, fun i x hx => ?_⟩
 ·rcases List.mem_or_eq_of_mem_set hx with hx | hx
  ·exact hB x hx
  ·subst hx; exact hb
 ·have := hd i; rw [hf i] at this
  by_cases e : i = id
  ·simp only [e, if_true] at this ⊢
   rcases this with h | h
   ·cases h
   ·exact .inr h
  ·simp [e]
 ·by_cases e : i = id <;> simp [e]
 ·by_cases e : i = id
  ·subst e
   simp only [if_true, Option.some.injEq] at hx
   subst hx
   exact ⟨hid, by rw [List.getElem?_set_self hlt]⟩
  ·simp only [e, if_false] at hx
   rw [List.getElem?_set_ne (fun e' => e e'.symm)]
   have := h2 i x (by rw [hh i, hf i]; simp [e, hx])
   exact this
theorem hs_new (H : Hs B σ0 σ R) (hb : B b) : Hs B σ0 (σ ++ [b]) (blk σ.length b * R) := by
 have hl := hs_len H
 obtain ⟨⟨bs, rfl, hB⟩, h, hr, h2⟩ := H
 have hn : ∀ i x, h i = some x → i < (σ0 ++ bs).length := fun i x hx => (List.getElem?_eq_some_iff.1 (h2 i x hx).2).1
 refine ⟨⟨bs ++ [b], by simp, fun x hx => ?_⟩, fun i => if i = (σ0 ++ bs).length then some b else h i, ⟨fun i => if i = (σ0 ++ bs).length then some b else none, h, fun i => rfl, hr, fun i => ?_, fun i => ?_⟩, fun i x hx => ?_⟩
 ·rcases List.mem_append.1 hx with hx | hx
  ·exact hB x hx
  ·simp at hx; subst hx; exact hb
 ·by_cases e : i = (σ0 ++ bs).length
  ·right
   cases hi : h i with
   | none => rfl
   | some x => have := hn i x hi; omega
  ·simp only [e, if_false, true_or]
 ·by_cases e : i = (σ0 ++ bs).length <;> simp only [e, if_true, if_false, Option.or_some, Option.none_or, Option.some_or]
 ·by_cases e : i = (σ0 ++ bs).length
  ·subst e
   simp only [if_true, Option.some.injEq] at hx
   subst hx
   exact ⟨hl, by simp⟩
  ·simp only [e, if_false] at hx
   obtain ⟨k1, k2⟩ := h2 i x hx
   exact ⟨k1, by rw [List.getElem?_append_left (hn i x hx)]; exact k2⟩
end
section
variable {α : Type} {E : List AV → α → HP} {B : Blk → Prop} {σ0 σ : Heap} {R : HP}
def els (E : List AV → α → HP) : List (List AV) → List α → HP
 | [], [] => emp
 | e :: es, x :: l => E e x * els E es l
 | _, _ => pr False
theorem els_len : ∀ {es : List (List AV)} {l : List α} {R : HP}, Hs B σ0 σ (els E es l * R) → es.length = l.length
 | [], [], _, _ => rfl
 | [], _ :: _, _, H => (hs_pr.1 H).1.elim
 | _ :: _, [], _, H => (hs_pr.1 H).1.elim
 | e :: es, x :: l, R, H => by
  have := els_len (es := es) (l := l) (R := E e x * R) (hs_eq (by rw [els]; ac_rfl) H)
  simp [this]
theorem els_app : ∀ {es1 es2 : List (List AV)} {l1 l2 : List α}, es1.length = l1.length → els E (es1 ++ es2) (l1 ++ l2) = els E es1 l1 * els E es2 l2
 | [], es2, [], l2, _ => by rw [els, emp_star]; rfl
 | e :: es1, es2, x :: l1, l2, h => by
  simp only [List.cons_append, els]
  rw [els_app (by simpa using h)]
  ac_rfl
theorem els_one (e : List AV) (x : α) : els E [e] [x] = E e x := by rw [els, els, star_emp]
theorem els_at {es : List (List AV)} {l : List α} {i : Nat} {e : List AV} {x : α} (hl : es.length = l.length) (he : es[i]? = some e) (hx : l[i]? = some x) : els E es l = els E (es.eraseIdx i) (l.eraseIdx i) * E e x := by
 have h1 := (List.getElem?_eq_some_iff.1 he).1
 have h2 := (List.getElem?_eq_some_iff.1 hx).1
 have e1 : es = es.take i ++ e :: es.drop (i + 1) := by
  rw [← (List.getElem?_eq_some_iff.1 he).2, List.getElem_cons_drop, List.take_append_drop]
 have e2 : l = l.take i ++ x :: l.drop (i + 1) := by
  rw [← (List.getElem?_eq_some_iff.1 hx).2, List.getElem_cons_drop, List.take_append_drop]
 conv => lhs; rw [e1, e2]
 rw [els_app (by simp; omega), els, List.eraseIdx_eq_take_drop_succ, List.eraseIdx_eq_take_drop_succ, els_app (by simp; omega)]
 ac_rfl
def fl (c : α → List AV) : List AV → α → HP := fun e x => pr (e = c x)
theorem els_fl {c : α → List AV} : ∀ {es : List (List AV)} {l : List α} {R : HP}, Hs B σ0 σ (els (fl c) es l * R) ↔ es = l.map c ∧ Hs B σ0 σ R
 | [], [], R => by rw [els, emp_star]; simp
 | [], x :: l, R => by show Hs B σ0 σ (pr False * R) ↔ _; rw [hs_pr]; simp
 | e :: es, [], R => by show Hs B σ0 σ (pr False * R) ↔ _; rw [hs_pr]; simp
 | e :: es, x :: l, R => by
  rw [els, fl, star_assoc, hs_pr, els_fl, List.map_cons, List.cons.injEq, and_assoc]
def Sl (E : List AV → α → HP) (sz : Nat) (v : AV) (l : List α) : HP := fun h => (l = [] ∧ (v = .nsl ∨ v = .ez) ∧ emp h) ∨ ∃ id g seg, v = .os id g sz 0 l.length ∧ (blk id (.arr g sz seg) * els E seg l) h
variable {sz : Nat} {v : AV} {l : List α}
theorem sl_cases (H : Hs B σ0 σ (Sl E sz v l * R)) : (l = [] ∧ (v = .nsl ∨ v = .ez) ∧ Hs B σ0 σ R) ∨ ∃ id g seg, v = .os id g sz 0 l.length ∧ seg.length = l.length ∧ Hs B σ0 σ (blk id (.arr g sz seg) * (els E seg l * R)) := by
 have H2 := hs_drop H
 obtain ⟨h1, h, ⟨f, g, hf, hg, hd, hh⟩, h2⟩ := H
 rcases hf with ⟨k1, k2, k3⟩ | ⟨id, gg, seg, k1, k2⟩
 ·exact .inl ⟨k1, k2, H2⟩
 ·have K : Hs B σ0 σ (blk id (.arr gg sz seg) * (els E seg l * R)) := hs_eq (star_assoc _ _ _) ⟨h1, h, ⟨f, g, k2, hg, hd, hh⟩, h2⟩
  exact .inr ⟨id, gg, seg, k1, els_len (R := blk id (.arr gg sz seg) * R) (hs_eq (by ac_rfl) K), K⟩
theorem slz (H : Hs B σ0 σ R) (hv : v = .nsl ∨ v = .ez) : Hs B σ0 σ (Sl E sz v [] * R) :=
 hs_mono (P := emp) (fun h k => .inl ⟨rfl, hv, k⟩) (hs_eq (emp_star R).symm H)
theorem sl_os {id g : Nat} {seg : List (List AV)} {n : Nat} (H : Hs B σ0 σ (blk id (.arr g sz seg) * (els E seg l * R))) (hn : n = l.length := by rfl) : Hs B σ0 σ (Sl E sz (.os id g sz 0 n) l * R) :=
 hs_mono (P := blk id (.arr g sz seg) * els E seg l) (fun h k => .inr ⟨id, g, seg, by rw [hn], k⟩) (hs_eq (star_assoc _ _ _).symm H)
theorem sl_len (H : Hs B σ0 σ (Sl E sz v l * R)) : A.lenS v = some (.int .i64 l.length) := by
 rcases sl_cases H with ⟨rfl, rfl | rfl, _⟩ | ⟨id, g, seg, rfl, _⟩ <;> rfl
theorem sl_app {ys : List (List AV)} {xs : List α} {most : Nat} (H : Hs B σ0 σ (Sl E sz v l * (els E ys xs * R))) (hm : l.length + xs.length ≤ most) (hB : ∀ g g' seg, (seg = [] ∨ B (.arr g sz seg)) → B (.arr g' sz (seg ++ ys))) :
  ∃ v' σ', A.append sz most v (.sl sz ys) σ = some (v', σ') ∧ Hs B σ0 σ' (Sl E sz v' (l ++ xs) * R) := by
 rcases sl_cases H with ⟨rfl, hv, H⟩ | ⟨id, g, seg, rfl, hl, H⟩
 ·have hxl := els_len H
  by_cases hy : ys = []
  ·subst hy
   have : xs = [] := List.eq_nil_of_length_eq_zero (by simpa using hxl.symm)
   subst this
   refine ⟨v, σ, ?_, slz (hs_drop H) hv⟩
   rcases hv with rfl | rfl <;> simp [A.append, A.elems, A.appendL]
  ·refine ⟨.os σ.length ys.length sz 0 ys.length, σ ++ [.arr ys.length sz ys], ?_, ?_⟩
   ·have : ys.length ≤ most := by simp at hm; omega
    rcases hv with rfl | rfl <;> simp [A.append, A.elems, A.appendL, hy, this]
   ·have H2 := hs_new H (by simpa using hB 0 ys.length [] (.inl rfl) : B (.arr ys.length sz ys))
    exact sl_os H2 (by simpa using hxl)
 ·have hxl := els_len (hs_eq (show _ = els E ys xs * (blk id (.arr g sz seg) * (els E seg l * R)) by ac_rfl) H)
  obtain ⟨h1, h2⟩ := hs_get H
  by_cases hy : ys = []
  ·subst hy
   have : xs = [] := List.eq_nil_of_length_eq_zero (by simpa using hxl.symm)
   subst this
   refine ⟨.os id g sz 0 l.length, σ, ?_, ?_⟩
   ·have : l.length ≤ most := by simpa using hm
    simp [A.append, A.elems, A.appendL, h2, hl, this]
   ·rw [List.append_nil]
    exact sl_os (hs_eq (by rw [els, emp_star]) H)
  ·have hp : 0 < ys.length := List.length_pos_iff.2 hy
   refine ⟨.os id (g + ys.length) sz 0 (l.length + ys.length), σ.set id (.arr (g + ys.length) sz (seg ++ ys)), ?_, ?_⟩
   ·have e1 : l.length + ys.length ≤ most := by omega
    have e2 : seg.take l.length = seg := List.take_of_length_le (by omega)
    simp [A.append, A.elems, A.appendL, h2, hl, e1, hy, e2, hp]
   ·have H2 := hs_set (b' := .arr (g + ys.length) sz (seg ++ ys)) H (hB g _ seg (.inr (hs_B H)))
    exact sl_os (id := id) (g := g + ys.length) (seg := seg ++ ys) (hs_eq (by rw [els_app hl]; ac_rfl) H2) (by simp; omega)
end
end Go.Proofs.Ytphgchakmkankaa

namespace Go.Proofs.Ytphgchakmkankaa
set_option linter.unusedSectionVars false
set_option linter.unusedVariables false
set_option linter.unusedSimpArgs false
open HP
noncomputable def insR (sz most : Nat) (zs : List AV) (rot : List AV → Heap → Option (AV × Heap)) (a0 a1 a2 : AV) (σ : Heap) : Option (AV × Heap) :=
 (A.sliceS sz a0 (some a1) none σ).bind fun x1 =>
 (A.lenS a2).bind fun x2 =>
 (A.eql .i x2 (AV.int .i64 0)).bind fun x3 =>
 A.cond x3 (
  A.renew [a0, a1, a2] σ a0 σ) (
  (A.lenS a0).bind fun x4 =>
  (A.eql .i a1 x4).bind fun x5 =>
  A.cond x5 (
   (A.append sz most a0 a2 σ).bind fun r6 =>
   A.renew [a0, a1, a2] σ r6.1 r6.2) (
   (A.add x4 x2).bind fun x7 =>
   A.capM (A.capN a0) (fun x8 =>
    (A.gtr x7 x8).bind fun x9 =>
    A.cond x9 (
     (A.sliceS sz a0 none (some a1) σ).bind fun x10 =>
     (A.add x4 x2).bind fun x11 =>
     (A.sub x11 a1).bind fun x12 =>
     (A.appendZ sz most zs x10 x12 σ).bind fun r13 =>
     (A.sliceS sz r13.1 (some a1) none r13.2).bind fun x14 =>
     (A.copyS sz x14 a2 r13.2).bind fun r15 =>
     (A.add a1 x2).bind fun x16 =>
     (A.sliceS sz r13.1 (some x16) none r15.2).bind fun x17 =>
     (A.sliceS sz a0 (some a1) none r15.2).bind fun x18 =>
     (A.copyS sz x17 x18 r15.2).bind fun r19 =>
     A.renew [a0, a1, a2] σ r13.1 r19.2) (
     (A.add x4 x2).bind fun x20 =>
     (A.sliceS sz a0 none (some x20) σ).bind fun x21 =>
     (A.add a1 x2).bind fun x22 =>
     (A.sliceS sz x21 (some x22) none σ).bind fun x23 =>
     (m_slices_overlaps [a2, x23] σ).bind fun r24 =>
     (A.not r24.1).bind fun x25 =>
     A.cond x25 (
      (A.add a1 x2).bind fun x26 =>
      (A.sliceS sz x21 (some x26) none r24.2).bind fun x27 =>
      (A.sliceS sz x21 (some a1) none r24.2).bind fun x28 =>
      (A.copyS sz x27 x28 r24.2).bind fun r29 =>
      (A.sliceS sz x21 (some a1) none r29.2).bind fun x30 =>
      (A.copyS sz x30 a2 r29.2).bind fun r31 =>
      A.renew [a0, a1, a2] σ x21 r31.2) (
      (A.sliceS sz x21 (some x4) none r24.2).bind fun x32 =>
      (A.copyS sz x32 a2 r24.2).bind fun r33 =>
      (A.sliceS sz x21 (some a1) none r33.2).bind fun x34 =>
      (rot [x34, x2] r33.2).bind fun r35 =>
      A.renew [a0, a1, a2] σ x21 r35.2))) (A.capU a0 σ fun n36 s37 =>
    (A.gtr x7 (AV.int .i64 n36)).bind fun x38 =>
    A.cond x38 (
     (A.sliceS sz a0 none (some a1) s37).bind fun x39 =>
     (A.add x4 x2).bind fun x40 =>
     (A.sub x40 a1).bind fun x41 =>
     (A.appendZ sz most zs x39 x41 s37).bind fun r42 =>
     (A.sliceS sz r42.1 (some a1) none r42.2).bind fun x43 =>
     (A.copyS sz x43 a2 r42.2).bind fun r44 =>
     (A.add a1 x2).bind fun x45 =>
     (A.sliceS sz r42.1 (some x45) none r44.2).bind fun x46 =>
     (A.sliceS sz a0 (some a1) none r44.2).bind fun x47 =>
     (A.copyS sz x46 x47 r44.2).bind fun r48 =>
     A.renew [a0, a1, a2] σ r42.1 r48.2) (
     (A.add x4 x2).bind fun x49 =>
     (A.sliceS sz a0 none (some x49) s37).bind fun x50 =>
     (A.add a1 x2).bind fun x51 =>
     (A.sliceS sz x50 (some x51) none s37).bind fun x52 =>
     (m_slices_overlaps [a2, x52] s37).bind fun r53 =>
     (A.not r53.1).bind fun x54 =>
     A.cond x54 (
      (A.add a1 x2).bind fun x55 =>
      (A.sliceS sz x50 (some x55) none r53.2).bind fun x56 =>
      (A.sliceS sz x50 (some a1) none r53.2).bind fun x57 =>
      (A.copyS sz x56 x57 r53.2).bind fun r58 =>
      (A.sliceS sz x50 (some a1) none r58.2).bind fun x59 =>
      (A.copyS sz x59 a2 r58.2).bind fun r60 =>
      A.renew [a0, a1, a2] σ x50 r60.2) (
      (A.sliceS sz x50 (some x4) none r53.2).bind fun x61 =>
      (A.copyS sz x61 a2 r53.2).bind fun r62 =>
      (A.sliceS sz x50 (some a1) none r62.2).bind fun x63 =>
      (rot [x63, x2] r62.2).bind fun r64 =>
      A.renew [a0, a1, a2] σ x50 r64.2)))))
noncomputable def delR (sz most : Nat) (zs : List AV) (a0 a1 a2 : AV) (σ : Heap) : Option (AV × Heap) :=
 (A.lenS a0).bind fun x1 =>
 (A.slice3 a0 (some a1) a2 x1).bind fun x2 =>
 (A.eql .i a1 a2).bind fun x3 =>
 A.cond x3 (
  A.renew [a0, a1, a2] σ a0 σ) (
  (A.lenS a0).bind fun x4 =>
  (A.sliceS sz a0 none (some a1) σ).bind fun x5 =>
  (A.sliceS sz a0 (some a2) none σ).bind fun x6 =>
  (A.append sz most x5 x6 σ).bind fun r7 =>
  (A.lenS r7.1).bind fun x8 =>
  (A.sliceS sz r7.1 (some x8) (some x4) r7.2).bind fun x9 =>
  (A.clearS sz zs x9 r7.2).bind fun h10 =>
  A.renew [a0, a1, a2] σ r7.1 h10)
section
variable {σ : Heap} {id g sz off len : Nat} {es : List (List AV)}
theorem cnd_t {α : Type} {X Y : Option α} : A.cond (.bool true) X Y = X := rfl
theorem cnd_f {α : Type} {X Y : Option α} : A.cond (.bool false) X Y = Y := rfl
theorem capM_os {R : Type} {k : AV → Option R} {u : Option R} : A.capM (A.capN (.os id g sz off len)) k u = u := rfl
theorem bnd_s {y d k : Nat} (h : k ≤ y) : A.bound y d (some (.int .i64 (k : Int))) = some k := by
 have : (k : Int) ≤ y := by omega
 simp [A.bound, this]
theorem bnd_n {y d : Nat} : A.bound y d none = some d := rfl
theorem room_arr (h : σ[id]? = some (.arr g sz es)) (hl : off + len ≤ es.length) : A.room σ id g sz off len = es.length - off := by simp [A.room, h, hl]
theorem room_arrF (h : σ[id]? = some (.arrF g sz es)) : A.room σ id g sz off len = len := by simp [A.room, h]
theorem slo {lo hi : Option AV} {r h l : Nat} (hr : A.room σ id g sz off len = r) (hh : A.bound r len hi = some h) (hl : A.bound h 0 lo = some l) : A.sliceS sz (.os id g sz off len) lo hi σ = some (.os id g sz (off + l) (h - l)) := by
 simp [A.sliceS, hr, hh, hl]
theorem add_nn {a b : Nat} (h : a + b < 9223372036854775808) : A.add (.int .i64 (a : Int)) (.int .i64 (b : Int)) = some (.int .i64 ((a + b : Nat) : Int)) := by
 rw [aAdd, wrap64 (by unfold inI; omega)]; simp
theorem sub_nn {a b : Nat} (h : b ≤ a) (h2 : a < 9223372036854775808) : A.sub (.int .i64 (a : Int)) (.int .i64 (b : Int)) = some (.int .i64 ((a - b : Nat) : Int)) := by
 rw [aSub, wrap64 (by unfold inI; omega), Int.ofNat_sub h]
theorem eq_nn (a b : Nat) : A.eql .i (.int .i64 (a : Int)) (.int .i64 (b : Int)) = some (.bool (decide (a = b))) := by
 rw [aEq]
 have : ((a : Int) = (b : Int)) = (a = b) := propext ⟨fun h => by omega, fun h => by omega⟩
 simp only [this]
theorem all_of {R : Type} {p : Nat → Prop} {k : Nat → Option R} {r : R} (n : Nat) (hn : p n) (h : ∀ n, p n → k n = some r) : A.all p k = some r := by
 have hx : ∃ r, ∀ n, p n → k n = some r := ⟨r, h⟩
 unfold A.all
 rw [dif_pos hx]
 have := Classical.choose_spec hx n hn
 rw [h n hn] at this
 injection this with this
 rw [← this]
theorem copy_os {σ : Heap} {y : AV} {ys : List (List AV)} (h : σ[id]? = some (.arr g sz es)) (hl : off + len ≤ es.length) (hy : A.elems sz y σ = some ys) (h0 : ys.length ≠ 0) (h1 : len ≠ 0) :
  A.copyS sz (.os id g sz off len) y σ = some (.int .i64 (ys.take len).length, σ.set id (.arr g sz (es.take off ++ ys.take len ++ es.drop (off + (ys.take len).length)))) := by
 simp only [A.copyS, hy, Option.bind_some, h]
 rw [if_pos (by simp [hl]), if_neg (by simp only [not_or]; exact ⟨h0, h1⟩)]
theorem elems_os (h : σ[id]? = some (.arr g sz es)) (hl : off + len ≤ es.length) : A.elems sz (.os id g sz off len) σ = some ((es.drop off).take len) := by
 simp [A.elems, h, hl]
theorem elems_osF (h : σ[id]? = some (.arrF g sz es)) (hl : off + len ≤ es.length) : A.elems sz (.os id g sz off len) σ = some ((es.drop off).take len) := by
 simp [A.elems, h, hl]
end
section
variable {α : Type} {E : List AV → α → HP} {σ0 σ : Heap} {R : HP} {sz most : Nat} {zs : List AV} {rot : List AV → Heap → Option (AV × Heap)} {v : AV} {l : List α} {y : α} {ye : List AV} {i : Nat}
theorem gen_ins (id g n : Nat) (i : AV) (hi : ∃ k : Int, i = .int .i64 k) : A.gen [.os id g sz 0 n, i, .sl sz [ye]] = g + n + 1 := by
 obtain ⟨k, rfl⟩ := hi
 simp [A.gen]
theorem ins_mid {id g n : Nat} {seg : List (List AV)} (hs : σ[id]? = some (.arr g sz seg)) (hl : seg.length = n) (hi : i < n) (hm : n + 1 ≤ most) (hb : n < 4611686018427387904) :
  insR sz most zs rot (.os id g sz 0 n) (.int .i64 (i : Int)) (.sl sz [ye]) σ = some (.os id (g + n + 2) sz 0 (n + 1), σ.set id (.arr (g + n + 2) sz (seg.take i ++ [ye] ++ seg.drop i))) := by
 have hid := (List.getElem?_eq_some_iff.1 hs).1
 have hgen : A.gen [.os id g sz 0 n, .int .i64 (i : Int), .sl sz [ye]] = g + n + 1 := gen_ins id g n _ ⟨_, rfl⟩
 unfold insR
 rw [slo (room_arr hs (by omega)) bnd_n (bnd_s (k := i) (by omega)), Option.bind_some]
 rw [show A.lenS (.sl sz [ye]) = some (.int .i64 ((1 : Nat) : Int)) from rfl, Option.bind_some]
 rw [show A.eql .i (.int .i64 ((1 : Nat) : Int)) (.int .i64 0) = some (.bool false) from rfl, Option.bind_some]
 rw [cnd_f]
 rw [show A.lenS (.os id g sz 0 n) = some (.int .i64 (n : Int)) from rfl, Option.bind_some, eq_nn, Option.bind_some, decide_eq_false (by omega)]
 rw [cnd_f, add_nn (by omega), Option.bind_some, capM_os]
 simp only [A.capU, hs]
 rw [if_pos (by simp; omega)]
 refine all_of n (by omega) fun c hc => ?_
 obtain ⟨hc1, hc2⟩ := hc
 by_cases ht : c = n
 ·subst ht
  rw [if_pos rfl]
  obtain ⟨σ1, hσ1⟩ : ∃ σ1, σ1 = σ.set id (.arrF g sz seg) := ⟨_, rfl⟩
  have h1 : σ1[id]? = some (.arrF g sz seg) := by rw [hσ1, List.getElem?_set_self hid]
  have hl1 : σ1.length = σ.length := by rw [hσ1, List.length_set]
  rw [← hσ1]
  rw [show A.gtr (.int .i64 ((c + 1 : Nat) : Int)) (.int .i64 (c : Int)) = some (.bool true) by simp [A.gtr]; omega, Option.bind_some]
  rw [cnd_t, slo (room_arrF h1) (bnd_s (k := i) (by omega)) bnd_n, Option.bind_some, add_nn (by omega), Option.bind_some, sub_nn (by omega) (by omega), Option.bind_some]
  obtain ⟨rows, hrows⟩ : ∃ rows, rows = seg.take i ++ List.replicate (c + 1 - i) zs := ⟨_, rfl⟩
  have hrl : rows.length = c + 1 := by rw [hrows]; simp; omega
  have e1 : A.appendZ sz most zs (.os id g sz (0 + 0) (i - 0)) (.int .i64 ((c + 1 - i : Nat) : Int)) σ1 = some (.os σ1.length (c + 1) sz 0 (c + 1), σ1 ++ [.arr (c + 1) sz rows]) := by
   have q1 : (0 : Int) ≤ ((c + 1 - i : Nat) : Int) ∧ ((c + 1 - i : Nat) : Int) ≤ most := by omega
   have q2 : i + (c + 1 - i) = c + 1 := by omega
   simp only [A.appendZ]
   rw [if_pos q1]
   simp only [A.appendL, Nat.zero_add, Nat.sub_zero, h1, Int.toNat_natCast, List.length_replicate, List.drop_zero, ← hrows]
   rw [if_pos (by simp; omega), q2]
  rw [e1, Option.bind_some]
  simp only
  have h2 : (σ1 ++ [Blk.arr (c + 1) sz rows])[σ1.length]? = some (.arr (c + 1) sz rows) := by simp
  rw [slo (room_arr h2 (by omega)) bnd_n (bnd_s (k := i) (by omega)), Option.bind_some]
  rw [copy_os (ys := [ye]) h2 (by omega) (by simp [A.elems]) (by simp) (by omega), Option.bind_some]
  have e2 : ([ye] : List (List AV)).take (c + 1 - i) = [ye] := List.take_of_length_le (by simp; omega)
  rw [e2]
  simp only [Nat.zero_add, List.length_singleton]
  rw [Option.bind_some]
  obtain ⟨rows2, hrows2⟩ : ∃ rows2, rows2 = rows.take i ++ [ye] ++ rows.drop (i + 1) := ⟨_, rfl⟩
  have hrl2 : rows2.length = c + 1 := by rw [hrows2]; simp; omega
  rw [← hrows2]
  have hset : (σ1 ++ [Blk.arr (c + 1) sz rows]).set σ1.length (.arr (c + 1) sz rows2) = σ1 ++ [.arr (c + 1) sz rows2] := by simp
  rw [hset]
  have h3 : (σ1 ++ [Blk.arr (c + 1) sz rows2])[σ1.length]? = some (.arr (c + 1) sz rows2) := by simp
  have h3' : (σ1 ++ [Blk.arr (c + 1) sz rows2])[id]? = some (.arrF g sz seg) := by rw [List.getElem?_append_left (by omega)]; exact h1
  rw [slo (room_arr h3 (by omega)) bnd_n (bnd_s (k := i + 1) (by omega)), Option.bind_some]
  rw [slo (room_arrF h3') bnd_n (bnd_s (k := i) (by omega)), Option.bind_some]
  rw [copy_os h3 (by omega) (elems_osF h3' (by omega)) (by simp; omega) (by omega), Option.bind_some]
  have e3 : ((seg.drop (0 + i)).take (c - i)).take (c + 1 - (i + 1)) = seg.drop i := by
   rw [Nat.zero_add, List.take_of_length_le (by simp; omega), List.take_of_length_le (by simp; omega)]
  rw [e3]
  have e4 : rows2.take (0 + (i + 1)) ++ seg.drop i ++ rows2.drop (0 + (i + 1) + (seg.drop i).length) = seg.take i ++ [ye] ++ seg.drop i := by
   have q1 : rows2.drop (0 + (i + 1) + (seg.drop i).length) = [] := List.drop_of_length_le (by simp; omega)
   have q2 : rows.take i = seg.take i := by rw [hrows, List.take_append_of_le_length (by simp; omega), List.take_take, Nat.min_self]
   have q3 : rows2.take (0 + (i + 1)) = seg.take i ++ [ye] := by
    rw [hrows2, q2, Nat.zero_add, List.take_append_of_le_length (by simp; omega), List.take_of_length_le (by simp; omega)]
   rw [q1, q3]; simp
  rw [e4]
  have hset2 : (σ1 ++ [Blk.arr (c + 1) sz rows2]).set σ1.length (.arr (c + 1) sz (seg.take i ++ [ye] ++ seg.drop i)) = σ1 ++ [.arr (c + 1) sz (seg.take i ++ [ye] ++ seg.drop i)] := by simp
  simp only
  rw [hset2]
  have h4 : (σ1 ++ [Blk.arr (c + 1) sz (seg.take i ++ [ye] ++ seg.drop i)])[σ1.length]? = some (.arr (c + 1) sz (seg.take i ++ [ye] ++ seg.drop i)) := by simp
  have hsl : (seg.take i ++ [ye] ++ seg.drop i).length = c + 1 := by simp; omega
  have e5 : ((seg.take i ++ [ye] ++ seg.drop i).drop 0).take (c + 1) = seg.take i ++ [ye] ++ seg.drop i := by rw [List.drop_zero, List.take_of_length_le (by omega)]
  simp only [A.renew, h4]
  rw [hgen, if_pos (by simp only [true_and]; omega), if_neg (by simp [A.hdOs, hl1]), e5]
  simp only [A.merge, hs, hgen]
  rw [if_pos]
  ·rw [hsl]
  refine ⟨by omega, by simp [hl1], rfl, by omega, fun j hj hne => ?_, by rw [List.getElem?_append_left (by omega)]; exact h1, fun z hz => ?_⟩
  ·rw [List.getElem?_append_left (by omega), hσ1, List.getElem?_set_ne (fun e => hne e.symm)]
  ·simp only [List.mem_append, List.mem_singleton] at hz
   rcases hz with (hz | hz) | hz
   ·exact .inl (List.mem_of_mem_take hz)
   ·right; simp [A.rowsOf, hz]
   ·exact .inl (List.mem_of_mem_drop hz)
 ·rw [if_neg ht]
  obtain ⟨es, hes⟩ : ∃ es, es = seg ++ List.replicate (0 + c - seg.length) (List.replicate sz AV.undef) := ⟨_, rfl⟩
  have hel : es.length = c := by rw [hes]; simp; omega
  have het : ∀ k, k ≤ n → es.take k = seg.take k := fun k hk => by rw [hes, List.take_append_of_le_length (by omega)]
  obtain ⟨σ1, hσ1⟩ : ∃ σ1, σ1 = σ.set id (.arr g sz es) := ⟨_, rfl⟩
  have h1 : σ1[id]? = some (.arr g sz es) := by rw [hσ1, List.getElem?_set_self hid]
  have hl1 : id < σ1.length := by rw [hσ1, List.length_set]; exact hid
  rw [← hes, ← hσ1]
  rw [show A.gtr (.int .i64 ((n + 1 : Nat) : Int)) (.int .i64 (c : Int)) = some (.bool false) by simp [A.gtr]; omega, Option.bind_some]
  rw [cnd_f, add_nn (by omega), Option.bind_some]
  rw [slo (room_arr h1 (by omega)) (bnd_s (k := n + 1) (by omega)) bnd_n, Option.bind_some, Option.bind_some]
  simp only [Nat.zero_add, Nat.sub_zero]
  rw [slo (room_arr h1 (by omega)) bnd_n (bnd_s (k := i + 1) (by omega)), Option.bind_some]
  have e1 : m_slices_overlaps [.sl sz [ye], .os id g sz (0 + (i + 1)) (n + 1 - (i + 1))] σ1 = some (.bool false, σ1) := by
   simp only [m_slices_overlaps, A.ar2, h1]
   rw [if_pos]
   refine ⟨by simp, trivial, fun e => ?_, by omega⟩
   rw [e] at hel; simp at hel; omega
  rw [e1, Option.bind_some, show A.not (.bool false) = some (.bool true) from rfl, Option.bind_some, cnd_t, Option.bind_some]
  simp only
  rw [slo (room_arr h1 (by omega)) bnd_n (bnd_s (k := i + 1) (by omega)), Option.bind_some]
  rw [slo (room_arr h1 (by omega)) bnd_n (bnd_s (k := i) (by omega)), Option.bind_some]
  rw [copy_os h1 (by omega) (elems_os h1 (by omega)) (by simp; omega) (by omega), Option.bind_some]
  have e2 : ((es.drop (0 + i)).take (n + 1 - i)).take (n + 1 - (i + 1)) = seg.drop i := by
   rw [List.take_take, Nat.zero_add, show min (n + 1 - (i + 1)) (n + 1 - i) = n - i by omega, List.take_drop, show i + (n - i) = n by omega, het n (Nat.le_refl _), List.take_of_length_le (by omega)]
  rw [e2]
  obtain ⟨es2, hes2⟩ : ∃ es2, es2 = es.take (0 + (i + 1)) ++ seg.drop i ++ es.drop (0 + (i + 1) + (seg.drop i).length) := ⟨_, rfl⟩
  have hel2 : es2.length = c := by rw [hes2]; simp; omega
  rw [← hes2]
  have h2 : (σ1.set id (.arr g sz es2))[id]? = some (.arr g sz es2) := List.getElem?_set_self hl1
  simp only
  rw [slo (room_arr h2 (by omega)) bnd_n (bnd_s (k := i) (by omega)), Option.bind_some]
  rw [copy_os (ys := [ye]) h2 (by omega) (by simp [A.elems]) (by simp) (by omega), Option.bind_some]
  have e3 : ([ye] : List (List AV)).take (n + 1 - i) = [ye] := List.take_of_length_le (by simp; omega)
  rw [e3]
  simp only [Nat.zero_add, List.length_singleton, List.set_set]
  obtain ⟨es3, hes3⟩ : ∃ es3, es3 = es2.take i ++ [ye] ++ es2.drop (i + 1) := ⟨_, rfl⟩
  have hel3 : es3.length = c := by rw [hes3]; simp; omega
  rw [← hes3]
  have h3 : (σ1.set id (.arr g sz es3))[id]? = some (.arr g sz es3) := List.getElem?_set_self hl1
  have e4 : (es3.drop 0).take (n + 1) = seg.take i ++ [ye] ++ seg.drop i := by
   have q1 : es2.take i = seg.take i := by rw [hes2, List.append_assoc, List.take_append_of_le_length (by simp; omega), List.take_take, show min i (0 + (i + 1)) = i by omega, het i (by omega)]
   have q2 : es2.drop (i + 1) = seg.drop i ++ es.drop (i + 1 + (seg.drop i).length) := by
    rw [hes2, Nat.zero_add, List.append_assoc, List.drop_append_of_le_length (by simp; omega), List.drop_of_length_le (by simp; omega), List.nil_append]
   rw [List.drop_zero, hes3, q1, q2, ← List.append_assoc, List.take_append_of_le_length (by simp; omega), List.take_of_length_le (by simp; omega)]
  simp only [A.renew, h3]
  rw [hgen, if_pos (by simp only [true_and]; omega), if_pos (.inl hid), e4, List.set_set, hσ1, List.set_set]
theorem ins_end {id g n : Nat} {seg : List (List AV)} (hs : σ[id]? = some (.arr g sz seg)) (hl : seg.length = n) (hm : n + 1 ≤ most) :
  insR sz most zs rot (.os id g sz 0 n) (.int .i64 (n : Int)) (.sl sz [ye]) σ = some (.os id (g + n + 2) sz 0 (n + 1), σ.set id (.arr (g + n + 2) sz (seg ++ [ye]))) := by
 have hid := (List.getElem?_eq_some_iff.1 hs).1
 have hgen : A.gen [.os id g sz 0 n, .int .i64 (n : Int), .sl sz [ye]] = g + n + 1 := gen_ins id g n _ ⟨_, rfl⟩
 unfold insR
 rw [slo (room_arr hs (by omega)) bnd_n (bnd_s (k := n) (by omega)), Option.bind_some]
 rw [show A.lenS (.sl sz [ye]) = some (.int .i64 ((1 : Nat) : Int)) from rfl, Option.bind_some]
 rw [show A.eql .i (.int .i64 ((1 : Nat) : Int)) (.int .i64 0) = some (.bool false) from rfl, Option.bind_some]
 rw [cnd_f]
 rw [show A.lenS (.os id g sz 0 n) = some (.int .i64 (n : Int)) from rfl, Option.bind_some, eq_nn, Option.bind_some, decide_eq_true rfl, cnd_t]
 have e1 : A.append sz most (.os id g sz 0 n) (.sl sz [ye]) σ = some (.os id (g + 1) sz 0 (n + 1), σ.set id (.arr (g + 1) sz (seg ++ [ye]))) := by
  have q : seg.take n = seg := List.take_of_length_le (by omega)
  simp [A.append, A.elems, A.appendL, hs, hl, hm, q]
 rw [e1, Option.bind_some]
 have h2 : (σ.set id (.arr (g + 1) sz (seg ++ [ye])))[id]? = some (.arr (g + 1) sz (seg ++ [ye])) := List.getElem?_set_self hid
 simp only [A.renew, h2]
 rw [hgen, if_pos (by simp; omega), if_pos (.inl hid), List.set_set, List.drop_zero, List.take_of_length_le (by simp; omega)]
theorem ins_nil (hv : v = .nsl ∨ v = .ez) (hm : 1 ≤ most) : insR sz most zs rot v (.int .i64 0) (.sl sz [ye]) σ = some (.os σ.length 2 sz 0 1, σ ++ [.arr 2 sz [ye]]) := by
 have hgen : ∀ w : AV, (w = .nsl ∨ w = .ez) → A.gen [w, .int .i64 0, .sl sz [ye]] = 1 := by
  rintro w (rfl | rfl) <;> simp [A.gen]
 have hbd : A.bound 0 0 (some (AV.int .i64 0)) = some 0 := bnd_s (y := 0) (d := 0) (k := 0) (Nat.le_refl _)
 have key : ∀ w : AV, (w = .nsl ∨ w = .ez) → A.renew [w, .int .i64 0, .sl sz [ye]] σ (.os σ.length 1 sz 0 1) (σ ++ [.arr 1 sz [ye]]) = some (.os σ.length 2 sz 0 1, σ ++ [.arr 2 sz [ye]]) := by
  intro w hw
  have h2 : (σ ++ [Blk.arr 1 sz [ye]])[σ.length]? = some (.arr 1 sz [ye]) := by simp
  simp only [A.renew, h2]
  rw [hgen w hw, if_pos (by simp), if_pos (.inr (by rcases hw with rfl | rfl <;> rfl))]
  simp
 unfold insR
 rw [show A.lenS (.sl sz [ye]) = some (.int .i64 ((1 : Nat) : Int)) from rfl]
 rcases hv with rfl | rfl
 ·rw [show A.sliceS sz .nsl (some (.int .i64 0)) none σ = some .nsl by simp [A.sliceS, bnd_n, hbd], Option.bind_some, Option.bind_some]
  rw [show A.eql .i (.int .i64 ((1 : Nat) : Int)) (.int .i64 0) = some (.bool false) from rfl, Option.bind_some, cnd_f]
  rw [show A.lenS .nsl = some (.int .i64 0) from rfl, Option.bind_some, show A.eql .i (.int .i64 0) (.int .i64 0) = some (.bool true) from rfl, Option.bind_some, cnd_t]
  rw [show A.append sz most .nsl (.sl sz [ye]) σ = some (.os σ.length 1 sz 0 1, σ ++ [.arr 1 sz [ye]]) by simp [A.append, A.elems, A.appendL, hm], Option.bind_some]
  exact key _ (.inl rfl)
 ·rw [show A.sliceS sz .ez (some (.int .i64 0)) none σ = some .ez by simp [A.sliceS, bnd_n, hbd], Option.bind_some, Option.bind_some]
  rw [show A.eql .i (.int .i64 ((1 : Nat) : Int)) (.int .i64 0) = some (.bool false) from rfl, Option.bind_some, cnd_f]
  rw [show A.lenS .ez = some (.int .i64 0) from rfl, Option.bind_some, show A.eql .i (.int .i64 0) (.int .i64 0) = some (.bool true) from rfl, Option.bind_some, cnd_t]
  rw [show A.append sz most .ez (.sl sz [ye]) σ = some (.os σ.length 1 sz 0 1, σ ++ [.arr 1 sz [ye]]) by simp [A.append, A.elems, A.appendL, hm], Option.bind_some]
  exact key _ (.inr rfl)
theorem sl_ins {B : Blk → Prop} (H : Hs B σ0 σ (Sl E sz v l * (E ye y * R))) (hi : i ≤ l.length) (hm : l.length + 1 ≤ most) (hb : l.length < 4611686018427387904) (hB : ∀ g g' seg k, (seg = [] ∨ B (.arr g sz seg)) → B (.arr g' sz (seg.take k ++ [ye] ++ seg.drop k))) :
  ∃ v' σ', insR sz most zs rot v (.int .i64 (i : Int)) (.sl sz [ye]) σ = some (v', σ') ∧ Hs B σ0 σ' (Sl E sz v' (l.take i ++ [y] ++ l.drop i) * R) := by
 rcases sl_cases H with ⟨rfl, hv, H⟩ | ⟨id, g, seg, rfl, hl, H⟩
 ·have hi0 : i = 0 := by simpa using hi
  subst hi0
  refine ⟨_, _, ins_nil hv (by simpa using hm), ?_⟩
  have H2 := hs_new (b := .arr 2 sz [ye]) H (by simpa using hB 0 2 [] 0 (.inl rfl))
  exact sl_os (id := σ.length) (g := 2) (seg := [ye]) (hs_eq (by simp only [List.take_nil, List.drop_nil, List.nil_append, List.append_nil, els_one]) H2) rfl
 ·obtain ⟨h1, h2⟩ := hs_get H
  have e : ∃ g', insR sz most zs rot (.os id g sz 0 l.length) (.int .i64 (i : Int)) (.sl sz [ye]) σ = some (.os id g' sz 0 (l.length + 1), σ.set id (.arr g' sz (seg.take i ++ [ye] ++ seg.drop i))) := by
   by_cases hil : i = l.length
   ·subst hil
    refine ⟨g + l.length + 2, ?_⟩
    rw [ins_end h2 hl hm, List.take_of_length_le (by omega), List.drop_of_length_le (by omega), List.append_nil]
   ·exact ⟨_, ins_mid h2 hl (by omega) hm hb⟩
  obtain ⟨g', e⟩ := e
  refine ⟨_, _, e, ?_⟩
  have H2 := hs_set (b' := .arr g' sz (seg.take i ++ [ye] ++ seg.drop i)) H (hB g g' seg i (.inr (hs_B H)))
  refine sl_os (id := id) (g := g') (seg := seg.take i ++ [ye] ++ seg.drop i) (hs_eq ?_ H2) (by simp; omega)
  have q : els E seg l = els E (seg.take i) (l.take i) * els E (seg.drop i) (l.drop i) := by
   rw [← els_app (by simp; omega), List.take_append_drop, List.take_append_drop]
  rw [els_app (es1 := seg.take i ++ [ye]) (l1 := l.take i ++ [y]) (by simp; omega), els_app (by simp; omega), els_one, q]
  ac_rfl
theorem gen_del (id g n : Nat) (i j : Int) : A.gen [.os id g sz 0 n, .int .i64 i, .int .i64 j] = g + n := by simp [A.gen]
theorem sl_del {B : Blk → Prop} {x : α} (H : Hs B σ0 σ (Sl E sz v l * R)) (hx : l[i]? = some x) (hm : l.length ≤ most) (hb : l.length < 4611686018427387904) (hB : ∀ g g' seg k, B (.arr g sz seg) → B (.arr g' sz (seg.eraseIdx k))) :
  ∃ v' σ' xe, (∃ p, A.iaddr sz v (.int .i64 (i : Int)) = some p ∧ A.deref p σ = some xe) ∧ delR sz most zs v (.int .i64 (i : Int)) (.int .i64 ((i + 1 : Nat) : Int)) σ = some (v', σ') ∧ Hs B σ0 σ' (Sl E sz v' (l.eraseIdx i) * (E xe x * R)) := by
 have hil := (List.getElem?_eq_some_iff.1 hx).1
 rcases sl_cases H with ⟨rfl, hv, H⟩ | ⟨id, g, seg, rfl, hl, H⟩
 ·simp at hx
 ·obtain ⟨h1, h2⟩ := hs_get H
  have hid := (List.getElem?_eq_some_iff.1 h2).1
  obtain ⟨n, hn⟩ : ∃ n, n = l.length := ⟨_, rfl⟩
  obtain ⟨xe, hxe⟩ : ∃ xe, seg[i]? = some xe := ⟨_, List.getElem?_eq_getElem (by omega)⟩
  have hgen : A.gen [.os id g sz 0 n, .int .i64 (i : Int), .int .i64 ((i + 1 : Nat) : Int)] = g + n := gen_del id g n _ _
  have e : delR sz most zs (.os id g sz 0 n) (.int .i64 (i : Int)) (.int .i64 ((i + 1 : Nat) : Int)) σ = some (.os id (g + n + 1) sz 0 (n - 1), σ.set id (.arr (g + n + 1) sz (seg.eraseIdx i))) := by
   unfold delR
   rw [show A.lenS (.os id g sz 0 n) = some (.int .i64 (n : Int)) from rfl, Option.bind_some]
   have s3 : A.slice3 (.os id g sz 0 n) (some (.int .i64 (i : Int))) (.int .i64 ((i + 1 : Nat) : Int)) (.int .i64 (n : Int)) = some .undef := by
    simp only [A.slice3, A.lenS, Option.bind_some, Int.toNat_natCast]
    rw [bnd_s (Nat.le_refl n), Option.bind_some, bnd_s (show i + 1 ≤ n by omega), Option.bind_some, bnd_s (show i ≤ i + 1 by omega), Option.map_some, if_neg (by omega)]
   rw [s3, Option.bind_some, eq_nn, Option.bind_some, decide_eq_false (by omega), cnd_f, Option.bind_some]
   rw [slo (room_arr h2 (by omega)) (bnd_s (k := i) (by omega)) bnd_n, Option.bind_some]
   rw [slo (room_arr h2 (by omega)) bnd_n (bnd_s (k := i + 1) (by omega)), Option.bind_some]
   obtain ⟨es, hes⟩ : ∃ es, es = seg.take i ++ seg.drop (i + 1) ++ seg.drop (i + (n - (i + 1))) := ⟨_, rfl⟩
   have hel : es.length = n := by rw [hes]; simp; omega
   have e1 : A.append sz most (.os id g sz (0 + 0) (i - 0)) (.os id g sz (0 + (i + 1)) (n - (i + 1))) σ = some (.os id g sz 0 (n - 1), σ.set id (.arr g sz es)) := by
    have q : ((seg.drop (0 + (i + 1))).take (n - (i + 1))) = seg.drop (i + 1) := by rw [Nat.zero_add, List.take_of_length_le (by simp; omega)]
    simp only [A.append, elems_os h2 (by omega : 0 + (i + 1) + (n - (i + 1)) ≤ seg.length), Option.bind_some, q, A.appendL, h2]
    rw [if_pos (by simp; omega)]
    by_cases hlast : seg.drop (i + 1) = []
    ·have hni : n = i + 1 := by
      have := congrArg List.length hlast
      simp at this; omega
     rw [if_pos hlast]
     have qe : es = seg := by rw [hes, hlast, hni]; simp
     rw [qe, show n - 1 = i - 0 by omega]
     congr 2
     apply List.ext_getElem?
     intro k
     rw [List.getElem?_set]
     split
     ·rename_i ek; subst ek; rw [h2]
     ·rfl
    ·rw [if_neg hlast, if_pos (by simp; omega)]
     congr 2
     ·congr 1; simp; omega
     ·rw [hes]
      congr 2
      simp only [Nat.zero_add, Nat.sub_zero, List.length_drop]
      rw [show seg.length - (i + 1) = n - (i + 1) by omega]
   rw [e1, Option.bind_some]
   simp only
   have h3 : (σ.set id (.arr g sz es))[id]? = some (.arr g sz es) := List.getElem?_set_self hid
   rw [show A.lenS (.os id g sz 0 (n - 1)) = some (.int .i64 ((n - 1 : Nat) : Int)) from rfl, Option.bind_some]
   rw [slo (room_arr h3 (by omega)) (bnd_s (k := n) (by omega)) (bnd_s (k := n - 1) (by omega)), Option.bind_some]
   have e2 : A.clearS sz zs (.os id g sz (0 + (n - 1)) (n - (n - 1))) (σ.set id (.arr g sz es)) = some (σ.set id (.arr g sz (es.take (n - 1) ++ List.replicate (n - (n - 1)) zs ++ es.drop n))) := by
    simp only [A.clearS, h3]
    rw [if_pos (by simp; omega), if_neg (by omega), List.set_set, Nat.zero_add, show n - 1 + (n - (n - 1)) = n by omega]
   rw [e2, Option.bind_some]
   have h4 : (σ.set id (.arr g sz (es.take (n - 1) ++ List.replicate (n - (n - 1)) zs ++ es.drop n)))[id]? = some (.arr g sz (es.take (n - 1) ++ List.replicate (n - (n - 1)) zs ++ es.drop n)) := List.getElem?_set_self hid
   simp only [A.renew, h4]
   rw [hgen, if_pos (by simp; omega), if_pos (.inl hid), List.set_set, List.drop_zero, List.append_assoc, List.take_append_of_le_length (by simp; omega), List.take_take, Nat.min_self]
   congr 4
   rw [hes, List.take_append_of_le_length (by simp; omega), List.take_of_length_le (by simp; omega), List.eraseIdx_eq_take_drop_succ]
  rw [hn] at e
  have hi' : ((i : Int) < (l.length : Int)) := by omega
  refine ⟨_, _, xe, ⟨.oe id g i 0, by simp [A.iaddr, A.idx, hi'], by simp [A.deref, h2, hxe]⟩, e, ?_⟩
  have H2 := hs_set (b' := .arr (g + l.length + 1) sz (seg.eraseIdx i)) H (hB g _ seg i (hs_B H))
  refine sl_os (id := id) (g := g + l.length + 1) (seg := seg.eraseIdx i) (hs_eq ?_ H2) (by rw [List.length_eraseIdx, if_pos hil])
  rw [els_at hl hxe hx]
  ac_rfl
end
end Go.Proofs.Ytphgchakmkankaa

namespace Go.Proofs.Ytphgchakmkankaa
set_option linter.unusedSectionVars false
set_option linter.unusedVariables false
set_option linter.unusedSimpArgs false
def chkE {α : Type} (f : Nat → α → Int) : List α → Nat → Int
 | [], _ => 0
 | x :: l, i => if f i x = 0 then chkE f l (i + 1) else f i x
section
variable {α β γ S B R : Type}
theorem chkE_zero {f : Nat → α → Int} : ∀ (l : List α) (i : Nat), chkE f l i = 0 ↔ ∀ j x, l[j]? = some x → f (i + j) x = 0
 | [], i => by simp [chkE]
 | y :: l, i => by
  rw [chkE]
  by_cases h : f i y = 0
  ·rw [if_pos h, chkE_zero l (i + 1)]
   constructor
   ·intro k j x hx
    cases j with
    | zero => simp at hx; subst hx; exact h
    | succ j => have := k j x (by simpa using hx); rwa [show i + 1 + j = i + (j + 1) by omega] at this
   ·intro k j x hx
    have := k (j + 1) x (by simpa using hx)
    rwa [show i + (j + 1) = i + 1 + j by omega] at this
  ·rw [if_neg h]
   exact ⟨fun e => absurd e h, fun k => absurd (k 0 y rfl) h⟩
theorem forE_le {l : List α} {body : Nat → α → S → Option (Lr S B R)} {fin : S → Option B} {s : S} {K1 : B → Option γ} {K2 : R → Option γ} (hl : l.length ≤ mxl) : forE l body fin s K1 K2 = (forL body fin l 0 s).bind fun q => q.elim K1 K2 := if_pos hl
theorem forE_chk {f : Nat → α → Int} {l : List α} {body : Nat → α → Unit → Option (Lr Unit Unit Int)} {fin : Unit → Option Unit} {s : Unit} {K1 : Unit → Option γ} {K2 : Int → Option γ} (hl : l.length ≤ mxl) (hb : ∀ i x, l[i]? = some x → body i x () = some (if f i x = 0 then .go () else .ret (f i x))) (hf : fin () = some () := by rfl) : forE l body fin s K1 K2 = if chkE f l 0 = 0 then K1 () else K2 (chkE f l 0) := by
 rw [forE_le hl]
 have key : ∀ (rest pre : List α), l = pre ++ rest → forL body fin rest pre.length () = some (if chkE f rest pre.length = 0 then .inl () else .inr (chkE f rest pre.length)) := by
  intro rest
  induction rest with
  | nil => intro pre _; simp [forL, hf, chkE]
  | cons x rest ih =>
   intro pre hp
   rw [forL, hb pre.length x (by rw [hp]; simp), Option.bind_some, chkE]
   by_cases h : f pre.length x = 0
   ·simp only [h, if_true]
    have := ih (pre ++ [x]) (by simpa using hp)
    simpa using this
   ·simp only [h, if_false]
 have k := key l [] rfl
 rw [List.length_nil] at k
 rw [show s = () from rfl, k, Option.bind_some]
 split <;> rfl
theorem ite_ret {p : Prop} [Decidable p] {k f : Int} {Y : Option (Lr Unit Unit Int)} (hk : k ≠ 0) (h : Y = some (if f = 0 then .go () else .ret f)) : (if p then some (.ret k) else Y) = some (if (if p then k else f) = 0 then .go () else .ret (if p then k else f)) := by
 by_cases hp : p
 ·simp [hp, hk]
 ·simp [hp, h]
theorem go_ret : (some (.go ()) : Option (Lr Unit Unit Int)) = some (if (0 : Int) = 0 then .go () else .ret 0) := rfl
theorem forE_find {p : α → Bool} {l : List α} {body : Nat → α → Unit → Option (Lr Unit Unit R)} {r : α → R} {fin : Unit → Option Unit} {s : Unit} {K1 : Unit → Option γ} {K2 : R → Option γ} (hl : l.length ≤ mxl) (hb : ∀ i x, l[i]? = some x → body i x () = some (if p x = true then .ret (r x) else .go ())) (hf : fin () = some () := by rfl) : forE l body fin s K1 K2 = match l.find? p with | some x => K2 (r x) | none => K1 () := by
 rw [forE_le hl]
 have key : ∀ (rest pre : List α), l = pre ++ rest → forL body fin rest pre.length () = some (match rest.find? p with | some x => .inr (r x) | none => .inl ()) := by
  intro rest
  induction rest with
  | nil => intro pre _; simp [forL, hf]
  | cons x rest ih =>
   intro pre hp
   rw [forL, hb pre.length x (by rw [hp]; simp), Option.bind_some, List.find?_cons]
   cases h : p x
   ·simp only [Bool.false_eq_true, if_false]
    have := ih (pre ++ [x]) (by simpa using hp)
    simpa using this
   ·simp only [if_true]
 have k := key l [] rfl
 rw [List.length_nil] at k
 rw [show s = () from rfl, k, Option.bind_some]
 cases l.find? p <;> rfl
theorem forE_fold {l : List α} {body : Nat → α → S → Option (Lr S B R)} {fin : S → Option B} {s : S} {K1 : B → Option γ} {K2 : R → Option γ} (g : S → α → S) (P : Nat → S → Prop) (hl : l.length ≤ mxl) (h0 : P 0 s) (hP : ∀ i x s, l[i]? = some x → P i s → P (i + 1) (g s x)) (hb : ∀ i x s, l[i]? = some x → P i s → body i x s = some (.go (g s x))) : forE l body fin s K1 K2 = (fin (l.foldl g s)).bind K1 := by
 rw [forE_le hl]
 have key : ∀ (rest pre : List α) (s : S), l = pre ++ rest → P pre.length s → forL body fin rest pre.length s = (fin (rest.foldl g s)).map .inl := by
  intro rest
  induction rest with
  | nil => intro pre s _ _; simp [forL]
  | cons x rest ih =>
   intro pre s hp hq
   have hx : l[pre.length]? = some x := by rw [hp]; simp
   rw [forL, hb pre.length x s hx hq, Option.bind_some, List.foldl_cons]
   have := ih (pre ++ [x]) (g s x) (by simpa using hp) (by simpa using hP _ _ _ hx hq)
   simpa using this
 have k := key l [] s rfl h0
 rw [List.length_nil] at k
 rw [k]
 cases fin (l.foldl g s) <;> rfl
def pv [Inhabited α] (l : List α) (i : Nat) : α := if 0 < i then l.getD (i - 1) default else default
theorem tIx_get {l : List α} {i : Int} {x : α} (h0 : 0 ≤ i) (h : l[i.toNat]? = some x) : tIx l i = some x := by rw [tIx, if_pos h0, h]
theorem prev_at [Inhabited α] {l : List α} {i : Nat} {x : α} (h : l[i]? = some x) (hl : l.length ≤ mxl) : (if decide (0 < (i : Int)) = true then tIx l (IntKind.i64.wrap ((i : Int) - 1)) else some default) = some (pv l i) := by
 have hi := (List.getElem?_eq_some_iff.1 h).1
 unfold pv
 by_cases h0 : 0 < i
 ·rw [if_pos (by simpa using h0), if_pos h0, wrap64 (by unfold inI; unfold mxl at hl; omega)]
  refine tIx_get (by omega) ?_
  have : ((i : Int) - 1).toNat = i - 1 := by omega
  rw [this, List.getD, List.getElem?_eq_getElem (by omega)]
  rfl
 ·rw [if_neg (by simpa using h0), if_neg h0]
theorem last_at [Inhabited α] {l : List α} {i : Nat} {x : α} (h : l[i]? = some x) (hl : l.length ≤ mxl) : (if decide (0 < ((l.take i).length : Int)) = true then tIx (l.take i) (IntKind.i64.wrap (((l.take i).length : Int) - 1)) else some default) = some (pv l i) := by
 have hi := (List.getElem?_eq_some_iff.1 h).1
 have e : (l.take i).length = i := by simp; omega
 rw [e]
 unfold pv
 by_cases h0 : 0 < i
 ·rw [if_pos (by simpa using h0), if_pos h0, wrap64 (by unfold inI; unfold mxl at hl; omega)]
  refine tIx_get (by omega) ?_
  have : ((i : Int) - 1).toNat = i - 1 := by omega
  rw [this, List.getD, List.getElem?_take, if_pos (by omega), List.getElem?_eq_getElem (by omega)]
  rfl
 ·rw [if_neg (by simpa using h0), if_neg h0]
theorem tSl_pre {l : List α} {i : Nat} (h : i ≤ l.length) : tSl l none (some (i : Int)) = some (l.take i) := by
 simp [tSl, h]
theorem find3 {a b c : Int} : (([a, b, c] : List Int).find? fun n => decide (¬ n = 0)).getD 0 = if ¬ (a = 0) then a else if ¬ (b = 0) then b else c := by
 by_cases ha : a = 0
 ·by_cases hb : b = 0
  ·by_cases hc : c = 0 <;> simp [ha, hb, hc, List.find?]
  ·simp [ha, hb, List.find?]
 ·simp [ha, List.find?]
end
theorem toList_d (s : ByteArray) : s.toList = s.data.toList := ByteArray.toList_eq s
theorem cmpB_lt : ∀ (a b : List UInt8), Lib.compareBytes a b < 0 ↔ Op.bytesLess a b = true
 | [], [] => by simp [Lib.compareBytes, Op.bytesLess]
 | [], _ :: _ => by simp [Lib.compareBytes, Op.bytesLess]
 | _ :: _, [] => by simp [Lib.compareBytes, Op.bytesLess]
 | a :: x, b :: y => by
  rw [Lib.compareBytes, Op.bytesLess]
  by_cases h1 : a < b
  ·simp [h1]
  ·by_cases h2 : b < a
   ·have : a ≠ b := by rintro rfl; exact h1 h2
    simp [h1, h2, this]
   ·have : a = b := UInt8.le_antisymm (UInt8.not_lt.1 h2) (UInt8.not_lt.1 h1)
    subst this
    simp [UInt8.lt_irrefl, cmpB_lt x y]
theorem cmpB_eq : ∀ (a b : List UInt8), Lib.compareBytes a b = 0 ↔ a = b
 | [], [] => by simp [Lib.compareBytes]
 | [], _ :: _ => by simp [Lib.compareBytes]
 | _ :: _, [] => by simp [Lib.compareBytes]
 | a :: x, b :: y => by
  rw [Lib.compareBytes]
  by_cases h1 : a < b
  ·have : a ≠ b := by rintro rfl; exact UInt8.lt_irrefl _ h1
   simp [h1, this]
  ·by_cases h2 : b < a
   ·have : a ≠ b := by rintro rfl; exact UInt8.lt_irrefl _ h2
    simp [h1, h2, this]
   ·have : a = b := UInt8.le_antisymm (UInt8.not_lt.1 h2) (UInt8.not_lt.1 h1)
    subst this
    simp [UInt8.lt_irrefl, cmpB_eq x y]
def ltK (a b : KeyD) : Bool := decide (a.unit < b.unit) || (decide (a.unit = b.unit) && Op.bytesLess a.param.toList b.param.toList)
def cmpK (a b : KeyD) : Int := if ¬ (a.unit = b.unit) then (if a.unit < b.unit then -1 else 1) else Lib.compareBytes a.param.data.toList b.param.data.toList
theorem cmpK_lt (a b : KeyD) : cmpK a b < 0 ↔ ltK a b = true := by
 unfold cmpK ltK
 by_cases h : a.unit = b.unit
 ·simp [h, toList_d, cmpB_lt]
 ·by_cases h2 : a.unit < b.unit <;> simp [h, h2]
theorem cmpK_ge (a b : KeyD) : decide (0 ≤ cmpK a b) = !ltK a b := by
 have := cmpK_lt a b
 cases h : ltK a b
 ·rw [h] at this; simp at this; simp [this]
 ·rw [h] at this; simp at this; simp [this]
theorem cmpK_eq (a b : KeyD) : cmpK a b = 0 ↔ a = b := by
 obtain ⟨u, p⟩ := a
 obtain ⟨v, q⟩ := b
 unfold cmpK
 by_cases h : u = v
 ·subst h
  simp only [not_true_eq_false, if_false, cmpB_eq, KeyD.mk.injEq, true_and]
  exact ⟨fun e => by obtain ⟨⟨p⟩⟩ := p; obtain ⟨⟨q⟩⟩ := q; simp at e; subst e; rfl, fun e => by rw [e]⟩
 ·by_cases h2 : u < v <;> simp [h, h2]
end Go.Proofs.Ytphgchakmkankaa

namespace Go.Proofs.Ytphgchakmkankaa
set_option linter.unusedSectionVars false
set_option linter.unusedVariables false
set_option linter.unusedSimpArgs false
def withinB (n lo hi : Int) : Bool := decide (lo ≤ n ∧ n ≤ hi)
def okc (c : UInt8) : Bool := decide (97 ≤ c.toNat ∧ c.toNat ≤ 122) || decide (48 ≤ c.toNat ∧ c.toNat ≤ 57) || decide (c.toNat = 45)
def rowB (s : ByteArray) : Bool := s.data.toList.all okc && decide (0 < s.size)
def nameB (s : ByteArray) : Bool := rowB s && decide (s.size ≤ 20) && decide (97 ≤ (s.data.toList.getD 0 0).toNat) && decide ((s.data.toList.getD 0 0).toNat ≤ 122)
def pc (c : UInt8) : Bool := decide (32 ≤ c.toNat ∧ c.toNat ≤ 126)
def edgeB (s : ByteArray) : Bool := decide (0 < s.size) && decide (s.size ≤ 60) && (decide ((s.data.toList.getD 0 0).toNat ≠ 32) && decide ((s.data.toList.getD (s.size - 1) 0).toNat ≠ 32))
def titleB (s : ByteArray) : Bool := s.data.toList.all pc && edgeB s
theorem getD_byte (s : ByteArray) (i : Nat) (h : i < s.size) : s.data.toList.getD i 0 = s[i] := by
 rw [List.getD_eq_getElem?_getD, List.getElem?_eq_getElem (by simpa using h)]; rfl
def profOf (nm : ByteArray) : List ProfileD → ProfileD × Bool
 | [] => (⟨⟨#[]⟩, 0, []⟩, false)
 | p :: rest => if p.name = nm then (p, true) else profOf nm rest
def lastU (lib : List ProfileD) (u : UnitD) : Int := u.address + (profOf u.profile lib).1.size - 1
def MarksP (lib : List ProfileD) (pre : List UnitD) (f : Int → Nat → Bool) : Prop := ∀ v k, f v k = true ↔ ∃ x ∈ pre, x.univ = v ∧ x.address ≤ (k : Int) ∧ (k : Int) ≤ lastU lib x
theorem MarksP.nil (lib : List ProfileD) : MarksP lib [] (fun _ _ => false) := fun v k => by simp
end Go.Proofs.Ytphgchakmkankaa

namespace Go.Proofs.Ytphgchakmkankaa
set_option linter.unusedSectionVars false
set_option linter.unusedVariables false
set_option linter.unusedSimpArgs false
theorem Within_eq (n lo hi : Int) (σ : Heap) : m_word_Within [.int .i64 n, .int .i64 lo, .int .i64 hi] σ = some (.bool (withinB n lo hi), σ) := by
 refine wrap_eq rfl ?_ rfl
 show r_word_Within _ _ _ σ = _
 unfold r_word_Within withinB
 by_cases h : lo ≤ n <;> simp only [MSb, reduceCtorEq, h, true_and, false_and]
theorem Within1_eq (n lo hi : Int) (σ : Heap) : m_R1_Within [.int .i64 n, .int .i64 lo, .int .i64 hi] σ = some (.bool (withinB n lo hi), σ) := by
 refine wrap_eq rfl ?_ rfl
 show r_R1_Within _ _ _ σ = _
 unfold r_R1_Within withinB
 by_cases h : lo ≤ n <;> simp only [MSb, reduceCtorEq, h, true_and, false_and]
theorem When_eq (b : Bool) (n : Int) (σ : Heap) : m_word_When [.bool b, .int .i64 n] σ = some (.int .i64 (if b = true then n else 0), σ) := by
 refine wrap_eq rfl ?_ rfl
 show r_word_When _ _ σ = _
 unfold r_word_When
 cases b <;> simp [MSb, reduceCtorEq]
theorem sidx_eq (s : ByteArray) {i : Nat} (h : i < s.size) : A.sidx (.str s) (.int .i64 (i : Int)) = some (.int .u8 (s.data.toList.getD i 0).toNat) := by
 have h1 : s[i]? = some s[i] := by simp [h]
 simp [A.sidx, A.idx, h, getD_byte s i h]
 rfl
theorem isEmpty_ne (s : ByteArray) : (decide (¬ s = ⟨#[]⟩)) = decide (0 < s.size) := by
 rw [decide_eq_decide]
 constructor
 ·intro h
  rcases Nat.eq_zero_or_pos s.size with e | e
  ·exact absurd (ByteArray.ext (Array.eq_empty_of_size_eq_zero e)) h
  ·exact e
 ·rintro h rfl; exact absurd h (by decide)
theorem Row_eq (s : ByteArray) (hs : okS s) (σ : Heap) : m_word_Row [.str s] σ = some (.bool (rowB s), σ) := by
 refine wrap_eq rfl ?_ rfl
 show r_word_Row _ σ = _
 unfold r_word_Row
 simp only [MSb, reduceCtorEq]
 refine (all_loop (p := okc) s (some (.bool false, σ)) ?_ ?_ ?_).trans ?_
 ·intro i c hi hc
  have h1 : inI ((i : Int) + 1) := by unfold okS mxl at hs; unfold inI; omega
  have h2 : (i : Int) < s.size := by omega
  simp only [MSb, reduceCtorEq, h2, hc, wrap64 h1, okc]
  clear hc h1
  repeat' ((first | rw [gDp] | rw [gDb] | rw [cDp] | rw [cDnp] | rw [cDn] | rw [cDb]); split <;> try simp only [MSb, reduceCtorEq, *])
  all_goals first | rfl | (refine (if_pos ?_).symm; simp; omega) | (refine (if_neg ?_).symm; simp; omega) | (refine congrArg some (congrArg (fun b => (AV.bool b, σ)) ?_); rw [Bool.eq_iff_iff]; simp; omega)
 ·simp only [MSb, reduceCtorEq, Int.lt_irrefl]
 ·intro i; simp only [MSb, reduceCtorEq]
 ·simp only [MSb, reduceCtorEq, isEmpty_ne, rowB]
  cases s.data.toList.all okc <;> simp
theorem IsWord1_eq (s : ByteArray) (hs : okS s) (σ : Heap) : m_R1_IsWord [.str s] σ = some (.bool (rowB s), σ) := by
 refine wrap_eq rfl ?_ rfl
 show r_R1_IsWord _ σ = _
 unfold r_R1_IsWord
 simp only [MSb, reduceCtorEq]
 refine (all_loop (p := okc) s (some (.bool false, σ)) ?_ ?_ ?_).trans ?_
 ·intro i c hi hc
  have h1 : inI ((i : Int) + 1) := by unfold okS mxl at hs; unfold inI; omega
  have h2 : (i : Int) < s.size := by omega
  simp only [MSb, reduceCtorEq, h2, hc, wrap64 h1, okc]
  clear hc h1
  repeat' ((first | rw [gDp] | rw [gDb] | rw [cDp] | rw [cDnp] | rw [cDn] | rw [cDb]); split <;> try simp only [MSb, reduceCtorEq, *])
  all_goals first | rfl | (refine (if_pos ?_).symm; simp; omega) | (refine (if_neg ?_).symm; simp; omega) | (refine congrArg some (congrArg (fun b => (AV.bool b, σ)) ?_); rw [Bool.eq_iff_iff]; simp; omega)
 ·simp only [MSb, reduceCtorEq, Int.lt_irrefl]
 ·intro i; simp only [MSb, reduceCtorEq]
 ·simp only [MSb, reduceCtorEq, isEmpty_ne, rowB]
  cases s.data.toList.all okc <;> simp
theorem rowB_pos {s : ByteArray} (h : rowB s = true) : 0 < s.size := by
 simp only [rowB, Bool.and_eq_true, decide_eq_true_eq] at h; exact h.2
theorem Name_eq (s : ByteArray) (hs : okS s) (σ : Heap) : m_word_Name [.str s] σ = some (.bool (nameB s), σ) := by
 refine wrap_eq rfl ?_ rfl
 show r_word_Name _ σ = _
 unfold r_word_Name
 simp only [MSb, reduceCtorEq, Row_eq s hs]
 cases h : rowB s
 ·simp [MSb, reduceCtorEq, nameB, h]
 ·have h0 := rowB_pos h
  have := sidx_eq s h0
  simp only [Int.ofNat_zero] at this
  simp only [MSb, reduceCtorEq, this]
  simp only [nameB, h, Bool.true_and]
  generalize s.data.toList.getD 0 0 = c0 at *
  repeat' ((first | rw [gDp] | rw [gDb] | rw [cDp] | rw [cDnp] | rw [cDn] | rw [cDb]); split <;> try simp only [MSb, reduceCtorEq, *])
  all_goals first | rfl | (refine (if_pos ?_).symm; simp; omega) | (refine (if_neg ?_).symm; simp; omega) | (refine congrArg some (congrArg (fun b => (AV.bool b, σ)) ?_); rw [Bool.eq_iff_iff]; simp; omega)
theorem IsName1_eq (s : ByteArray) (hs : okS s) (σ : Heap) : m_R1_IsName [.str s] σ = some (.bool (nameB s), σ) := by
 refine wrap_eq rfl ?_ rfl
 show r_R1_IsName _ σ = _
 unfold r_R1_IsName
 simp only [MSb, reduceCtorEq, IsWord1_eq s hs]
 cases h : rowB s
 ·simp [MSb, reduceCtorEq, nameB, h]
 ·have h0 := rowB_pos h
  have := sidx_eq s h0
  simp only [Int.ofNat_zero] at this
  simp only [MSb, reduceCtorEq, this]
  simp only [nameB, h, Bool.true_and]
  generalize s.data.toList.getD 0 0 = c0 at *
  repeat' ((first | rw [gDp] | rw [gDb] | rw [cDp] | rw [cDnp] | rw [cDn] | rw [cDb]); split <;> try simp only [MSb, reduceCtorEq, *])
  all_goals first | rfl | (refine (if_pos ?_).symm; simp; omega) | (refine (if_neg ?_).symm; simp; omega) | (refine congrArg some (congrArg (fun b => (AV.bool b, σ)) ?_); rw [Bool.eq_iff_iff]; simp; omega)
theorem Title_eq (s : ByteArray) (hs : okS s) (σ : Heap) : m_word_Title [.str s] σ = some (.bool (titleB s), σ) := by
 refine wrap_eq rfl ?_ rfl
 show r_word_Title _ σ = _
 unfold r_word_Title
 simp only [MSb, reduceCtorEq]
 refine (all_loop (p := pc) s (some (.bool false, σ)) ?_ ?_ ?_).trans ?_
 ·intro i c hi hc
  have h1 : inI ((i : Int) + 1) := by unfold okS mxl at hs; unfold inI; omega
  have h2 : (i : Int) < s.size := by omega
  simp only [MSb, reduceCtorEq, h2, hc, wrap64 h1, pc]
  clear h1
  repeat' ((first | rw [gDp] | rw [gDb] | rw [cDp] | rw [cDnp] | rw [cDn] | rw [cDb]); split <;> try simp only [MSb, reduceCtorEq, *])
  all_goals first | rfl | (refine (if_pos ?_).symm; simp; omega) | (refine (if_neg ?_).symm; simp; omega) | (refine congrArg some (congrArg (fun b => (AV.bool b, σ)) ?_); rw [Bool.eq_iff_iff]; simp; omega)
 ·simp only [MSb, reduceCtorEq, Int.lt_irrefl]
 ·intro i; simp only [MSb, reduceCtorEq]
 ·simp only [MSb, reduceCtorEq, isEmpty_ne, titleB]
  cases s.data.toList.all pc
  ·simp
  ·simp only [if_true, Bool.true_and]
   by_cases h0 : 0 < s.size
   ·by_cases h60 : s.size ≤ 60
    ·have e0 := sidx_eq s h0
     have e1 := sidx_eq s (i := s.size - 1) (by omega)
     simp only [Int.ofNat_zero] at e0
     rw [show ((s.size - 1 : Nat) : Int) = (s.size : Int) - 1 by omega] at e1
     have h1 : inI ((s.size : Int) - 1) := by unfold okS mxl at hs; unfold inI; omega
     have h60' : (s.size : Int) ≤ 60 := by omega
     have hw := wrap64 h1
     simp only [edgeB, h0, h60]
     generalize s.data.toList.getD 0 0 = c0 at *
     generalize s.data.toList.getD (s.size - 1) 0 = c1 at *
     simp only [MSb, reduceCtorEq, h0, h60', e0, e1, hw]
     repeat' ((first | rw [gDp] | rw [gDb] | rw [cDp] | rw [cDnp] | rw [cDn] | rw [cDb]); split <;> try simp only [MSb, reduceCtorEq, *])
     all_goals first | rfl | (refine (if_pos ?_).symm; simp; omega) | (refine (if_neg ?_).symm; simp; omega) | (refine congrArg some (congrArg (fun b => (AV.bool b, σ)) ?_); rw [Bool.eq_iff_iff]; simp; omega)
    ·have h60' : ¬ (s.size : Int) ≤ 60 := by omega
     simp [MSb, reduceCtorEq, h0, h60', edgeB, h60]
   ·simp [MSb, reduceCtorEq, h0, edgeB]
theorem IsTitle1_eq (s : ByteArray) (hs : okS s) (σ : Heap) : m_R1_IsTitle [.str s] σ = some (.bool (titleB s), σ) := by
 refine wrap_eq rfl ?_ rfl
 show r_R1_IsTitle _ σ = _
 have e : (s = ⟨#[]⟩) ↔ ¬ 0 < s.size := by
  have := isEmpty_ne s
  rw [decide_eq_decide] at this
  rw [← this]; simp
 have tail : titleB s = (edgeB s && s.data.toList.all pc) := by unfold titleB; exact Bool.and_comm _ _
 unfold r_R1_IsTitle
 simp only [MSb, reduceCtorEq, e]
 by_cases h0 : 0 < s.size
 ·by_cases h60 : s.size ≤ 60
  ·have e0 := sidx_eq s h0
   have e1 := sidx_eq s (i := s.size - 1) (by omega)
   simp only [Int.ofNat_zero] at e0
   rw [show ((s.size - 1 : Nat) : Int) = (s.size : Int) - 1 by omega] at e1
   have h1 : inI ((s.size : Int) - 1) := by unfold okS mxl at hs; unfold inI; omega
   have h60' : ¬ (60 : Int) < (s.size : Int) := by omega
   have hw := wrap64 h1
   have hedge : edgeB s = (decide (¬ (s.data.toList.getD 0 0).toNat = 32) && decide (¬ (s.data.toList.getD (s.size - 1) 0).toNat = 32)) := by simp [edgeB, h0, h60]
   rw [tail, hedge]
   clear tail hedge
   generalize s.data.toList.getD 0 0 = c0 at *
   generalize s.data.toList.getD (s.size - 1) 0 = c1 at *
   by_cases k0 : c0.toNat = 32
   ·have k0' : (c0.toNat : Int) = 32 := by omega
    simp [MSb, reduceCtorEq, h0, h60', e0, k0', k0]
   ·have k0' : ¬ (c0.toNat : Int) = 32 := by omega
    by_cases k1 : c1.toNat = 32
    ·have k1' : (c1.toNat : Int) = 32 := by omega
     simp [MSb, reduceCtorEq, h0, h60', e0, k0', hw, e1, k1', k1]
    ·have k1' : ¬ (c1.toNat : Int) = 32 := by omega
     simp only [MSb, reduceCtorEq, h0, h60', e0, k0', hw, e1, k1', k0, k1]
     refine (all_loop (p := pc) s (some (.bool false, σ)) ?_ ?_ ?_).trans ?_
     ·intro i c hi hc
      have h1 : inI ((i : Int) + 1) := by unfold okS mxl at hs; unfold inI; omega
      have h2 : (i : Int) < s.size := by omega
      simp only [MSb, reduceCtorEq, h2, hc, wrap64 h1, pc]
      clear h1
      repeat' ((first | rw [gDp] | rw [gDb] | rw [cDp] | rw [cDnp] | rw [cDn] | rw [cDb]); split <;> try simp only [MSb, reduceCtorEq, *])
      all_goals first | rfl | (refine (if_pos ?_).symm; simp; omega) | (refine (if_neg ?_).symm; simp; omega) | (refine congrArg some (congrArg (fun b => (AV.bool b, σ)) ?_); rw [Bool.eq_iff_iff]; simp; omega)
     ·simp only [MSb, reduceCtorEq, Int.lt_irrefl]
     ·intro i; simp only [MSb, reduceCtorEq]
     ·simp only [MSb, reduceCtorEq]
      cases s.data.toList.all pc <;> simp
  ·have h60' : (60 : Int) < (s.size : Int) := by omega
   simp [MSb, reduceCtorEq, h0, h60', tail, edgeB, h60]
 ·simp [MSb, reduceCtorEq, h0, tail, edgeB]
end Go.Proofs.Ytphgchakmkankaa

namespace Go.Proofs.Ytphgchakmkankaa
set_option linter.unusedSectionVars false
set_option linter.unusedVariables false
set_option linter.unusedSimpArgs false
theorem IsTime1_eq (n : Int) (σ : Heap) : m_R1_IsTime [.int .i64 n] σ = some (.bool (withinB n 0 36000000), σ) := by
 refine wrap_eq rfl ?_ rfl
 show r_R1_IsTime (.int .i64 n) σ = _
 unfold r_R1_IsTime
 simp only [MSb, reduceCtorEq, Within1_eq]
theorem loop_anyN {γ : Type} {f : List AV → Heap → Option (AX × List AV × Heap)} (a n : Nat) (p : Nat → Bool) (vs : Nat → List AV) (σ : Heap) (fin : AX × List AV × Heap) (ret : Nat → AX × List AV × Heap) {k : AX × List AV × Heap → Option γ} (K1 K2 : Option γ)
  (hstep : ∀ (i : Nat), a ≤ i → i < a + n → f (vs i) σ = if p i = true then some (ret i) else some (.normal, vs (i + 1), σ)) (hend : f (vs (a + n)) σ = some fin) (hk1 : k fin = K1) (hk2 : ∀ i, k (ret i) = K2)
  (hfin : fin.1 ≠ .normal := by simp) (hret : ∀ i, (ret i).1 ≠ .normal := by intros; simp) {v : List AV} {σ' : Heap} (hv : v = vs a := by rfl) (hσ : σ' = σ := by rfl) :
  (A.loop f v σ').bind k = if (List.range' a n).any p = true then K2 else K1 := by
 refine loop_any (List.range' a n) p (fun i => vs (a + i)) σ fin (fun i => ret (a + i)) K1 K2 ?_ (by rw [List.length_range']; exact hend) hk1 (fun i => hk2 _) hfin (fun i => hret _) hv hσ
 intro i x hx
 obtain ⟨h1, h2⟩ := List.getElem?_eq_some_iff.1 hx
 rw [List.length_range'] at h1
 obtain rfl : a + i = x := by simpa [List.getElem_range'] using h2
 exact hstep (a + i) (by omega) (by omega)
def zPoint : PointD := ⟨0, 0⟩
def badP (p : PointD) : Bool := !(withinB p.time 0 1000) || !(withinB p.way 0 1000)
def ordP (l : List PointD) (i : Nat) : Bool := decide ((l.getD i zPoint).time ≤ (l.getD (i - 1) zPoint).time ∨ (l.getD i zPoint).way < (l.getD (i - 1) zPoint).way)
def ptsF (l : List PointD) : Int :=
 if l.any badP = true then 1
 else if ¬ ((l.getD 0 zPoint).time = 0 ∧ (l.getD 0 zPoint).way = 0) then 3
 else if ¬ ((l.getD (l.length - 1) zPoint).time = 1000 ∧ (l.getD (l.length - 1) zPoint).way = 1000) then 3
 else if (List.range' 1 (l.length - 1)).any (ordP l) = true then 7 else 0
def curveF (c : CurveD) : Int :=
 if withinB c.kind 1 6 = false then 4
 else if c.kind = 6 then (if c.points.length < 2 then 8 else if 20 < c.points.length then 2 else ptsF c.points)
 else if 0 < c.points.length then 3 else 0
theorem ne_point (x : PointD) (a b : Int) : A.neq (.s [0, 0]) (.agg (cPoint x)) (.agg [.int .i64 a, .int .i64 b]) = some (.bool (decide (¬ (x.time = a ∧ x.way = b)))) := by
 simp only [A.neq, A.eqK, cPoint, A.eqAll, A.eqC, A.eqI, if_true, Option.bind_some, Option.map_some]
 congr 2
 rw [Bool.eq_iff_iff]
 simp
theorem spl20 (a b c : AV) : A.splice 0 [a] [b, c] = some [a, c] := rfl
theorem spl21 (a b c : AV) : A.splice 1 [a] [b, c] = some [b, a] := rfl
theorem getD_at {l : List PointD} {i : Nat} (h : i < l.length) : l[i]? = some (l.getD i zPoint) := by simp [h]
theorem CheckCurve1_eq (c : CurveD) (σ : Heap) : m_R1_CheckCurve [.agg (cCurve c)] σ = some (.int .i64 (curveF c), σ) := by
 refine wrap_eq rfl ?_ rfl
 show r_R1_CheckCurve (.agg (cCurve c)) σ = _
 unfold r_R1_CheckCurve curveF
 simp only [MSb, reduceCtorEq, p1_cCurve_0, p1_cCurve_1, pA_cCurve, ce_cCurve, sp_cCurve, Within1_eq]
 cases hk : withinB c.kind 1 6
 ·simp only [MSb, reduceCtorEq]
 by_cases h6 : c.kind = 6
 case neg =>
  by_cases h0 : 0 < c.points.length
  ·simp only [MSb, reduceCtorEq, p1_cCurve_0, p1_cCurve_1, pA_cCurve, ce_cCurve, sp_cCurve, h6, h0, show (0 : Int) < c.points.length by omega]
  ·simp only [MSb, reduceCtorEq, p1_cCurve_0, p1_cCurve_1, pA_cCurve, ce_cCurve, sp_cCurve, h6, h0, show ¬ (0 : Int) < c.points.length by omega]
 by_cases h2 : c.points.length < 2
 ·simp only [MSb, reduceCtorEq, p1_cCurve_0, p1_cCurve_1, pA_cCurve, ce_cCurve, sp_cCurve, h6, h2, show (c.points.length : Int) < 2 by omega]
 by_cases h20 : 20 < c.points.length
 ·simp only [MSb, reduceCtorEq, p1_cCurve_0, p1_cCurve_1, pA_cCurve, ce_cCurve, sp_cCurve, h6, h2, h20, show ¬ (c.points.length : Int) < 2 by omega, show (20 : Int) < c.points.length by omega]
 simp only [MSb, reduceCtorEq, p1_cCurve_0, p1_cCurve_1, pA_cCurve, ce_cCurve, sp_cCurve, h6, h2, h20, show ¬ (c.points.length : Int) < 2 by omega, show ¬ (20 : Int) < c.points.length by omega]
 have hmx : c.points.length ≤ mxl := by unfold mxl; omega
 refine (loop_any c.points badP (fun i => [.lbx (cCurve c), .int .i64 0, .int .i64 (i : Int)]) σ (.exit 1, [.lbx (cCurve c), .int .i64 0, .int .i64 (c.points.length : Int)], σ) (fun i => (.ret, [.lbx (cCurve c), .int .i64 1, .int .i64 (i : Int)], σ))
  (some (.int .i64 (if ¬ ((c.points.getD 0 zPoint).time = 0 ∧ (c.points.getD 0 zPoint).way = 0) then 3
 else if ¬ ((c.points.getD (c.points.length - 1) zPoint).time = 1000 ∧ (c.points.getD (c.points.length - 1) zPoint).way = 1000) then 3
 else if (List.range' 1 (c.points.length - 1)).any (ordP c.points) = true then 7 else 0), σ)) (some (.int .i64 1, σ)) ?_ ?_ ?_ ?_).trans ?_
 ·intro i x hx
  obtain ⟨g1, g2, g3⟩ := iaddr_at 2 cPoint hx
  have g3 := g3 hmx
  simp only [MSb, reduceCtorEq, p1_cPoint_0, p1_cPoint_1, pA_cPoint, ce_cPoint, sp_cPoint, g1, g2, g3, Within1_eq, badP]
  rcases Bool.eq_false_or_eq_true (withinB x.time 0 1000) with e | e
  ·rcases Bool.eq_false_or_eq_true (withinB x.way 0 1000) with e' | e' <;> simp only [MSb, reduceCtorEq, Within1_eq, e, e', Bool.false_or, Bool.or_false]
  ·simp only [MSb, reduceCtorEq, e, Bool.true_or]
 ·exact hend_lss _ _ _
 ·have g0 := iaddr_sl 2 cPoint c.points (getD_at (l := c.points) (i := 0) (by omega))
  have gl := iaddr_pred 2 cPoint c.points (k := c.points.length) (by omega) (getD_at (by omega))
  have hw : IntKind.i64.wrap ((c.points.length : Int) - 1) = (c.points.length : Int) - 1 := wrap64 (by unfold inI; omega)
  simp only [Int.ofNat_zero, Int.natCast_zero] at g0
  simp only [MSb, reduceCtorEq, p1_cCurve_0, p1_cCurve_1, pA_cCurve, ce_cCurve, sp_cCurve, p1_cPoint_0, p1_cPoint_1, pA_cPoint, ce_cPoint, sp_cPoint, g0, ne_point]
  by_cases e1 : (c.points.getD 0 zPoint).time = 0 ∧ (c.points.getD 0 zPoint).way = 0
  case neg => simp only [MSb, reduceCtorEq, e1]
  simp only [MSb, reduceCtorEq, p1_cCurve_0, p1_cCurve_1, pA_cCurve, ce_cCurve, sp_cCurve, e1, hw, gl, p1_cPoint_0, p1_cPoint_1, pA_cPoint, ce_cPoint, sp_cPoint]
  by_cases e2 : (c.points.getD (c.points.length - 1) zPoint).time = 1000 ∧ (c.points.getD (c.points.length - 1) zPoint).way = 1000
  case neg =>
   simp only [spl20, spl21, MSb, reduceCtorEq, ne_point, e2]
  simp only [spl20, spl21, MSb, reduceCtorEq, ne_point, e2]
  refine (loop_anyN 1 (c.points.length - 1) (ordP c.points) (fun i => [.lbx (cCurve c), .int .i64 0, .int .i64 (i : Int)]) σ (.exit 3, [.lbx (cCurve c), .int .i64 0, .int .i64 (c.points.length : Int)], σ) (fun i => (.ret, [.lbx (cCurve c), .int .i64 7, .int .i64 (i : Int)], σ)) (some (AV.int .i64 0, σ)) (some (AV.int .i64 7, σ)) ?_ ?_ ?_ ?_).trans ?_
  ·intro i hi1 hi2
   have k1 := iaddr_sl 2 cPoint c.points (getD_at (l := c.points) (i := i) (by omega))
   have k2 := iaddr_pred 2 cPoint c.points (k := i) (by omega) (getD_at (by omega))
   have k3 : IntKind.i64.wrap ((i : Int) - 1) = (i : Int) - 1 := wrap64 (by unfold inI; omega)
   have k4 : IntKind.i64.wrap ((i : Int) + 1) = ((i + 1 : Nat) : Int) := by rw [wrap64 (by unfold inI; omega)]; omega
   have k5 : (i : Int) < c.points.length := by omega
   simp only [MSb, reduceCtorEq, p1_cCurve_0, p1_cCurve_1, pA_cCurve, ce_cCurve, sp_cCurve, p1_cPoint_0, p1_cPoint_1, pA_cPoint, ce_cPoint, sp_cPoint, k1, k2, k3, k5, ordP]
   by_cases q1 : (c.points.getD i zPoint).time ≤ (c.points.getD (i - 1) zPoint).time
   ·simp only [MSb, reduceCtorEq, q1]
   ·by_cases q2 : (c.points.getD i zPoint).way < (c.points.getD (i - 1) zPoint).way <;> simp only [MSb, reduceCtorEq, p1_cCurve_0, p1_cCurve_1, pA_cCurve, ce_cCurve, sp_cCurve, p1_cPoint_0, p1_cPoint_1, pA_cPoint, ce_cPoint, sp_cPoint, k1, k2, k3, k4, q1, q2]
  ·rw [show 1 + (c.points.length - 1) = c.points.length by omega]
   simp only [MSb, reduceCtorEq, p1_cCurve_0, p1_cCurve_1, pA_cCurve, ce_cCurve, sp_cCurve, Int.lt_irrefl]
  ·simp only [MSb, reduceCtorEq]
  ·intro i; simp only [MSb, reduceCtorEq]
  ·cases (List.range' 1 (c.points.length - 1)).any (ordP c.points) <;> rfl
 ·intro i; simp only [MSb, reduceCtorEq]
 ·unfold ptsF
  cases c.points.any badP <;> rfl
end Go.Proofs.Ytphgchakmkankaa

namespace Go.Proofs.Ytphgchakmkankaa
set_option linter.unusedSectionVars false
set_option linter.unusedVariables false
set_option linter.unusedSimpArgs false
theorem CheckCurve_eq (c : CurveD) (σ : Heap) : m_level_CheckCurve [.agg (cCurve c)] σ = some (.int .i64 (curveF c), σ) := by
 refine wrap_eq rfl ?_ rfl
 show r_level_CheckCurve (.agg (cCurve c)) σ = _
 unfold r_level_CheckCurve curveF
 simp only [MSb, reduceCtorEq, p1_cCurve_0, p1_cCurve_1, pA_cCurve, ce_cCurve, sp_cCurve, Within_eq]
 cases hk : withinB c.kind 1 6
 ·simp only [MSb, reduceCtorEq]
 by_cases h6 : c.kind = 6
 case neg =>
  by_cases h0 : 0 < c.points.length
  ·simp only [MSb, reduceCtorEq, p1_cCurve_0, p1_cCurve_1, pA_cCurve, ce_cCurve, sp_cCurve, h6, h0, When_eq, show (0 : Int) < c.points.length by omega]
  ·simp only [MSb, reduceCtorEq, p1_cCurve_0, p1_cCurve_1, pA_cCurve, ce_cCurve, sp_cCurve, h6, h0, When_eq, show ¬ (0 : Int) < c.points.length by omega]
 by_cases h2 : c.points.length < 2
 ·simp only [MSb, reduceCtorEq, p1_cCurve_0, p1_cCurve_1, pA_cCurve, ce_cCurve, sp_cCurve, h6, h2, show (c.points.length : Int) < 2 by omega]
 by_cases h20 : 20 < c.points.length
 ·simp only [MSb, reduceCtorEq, p1_cCurve_0, p1_cCurve_1, pA_cCurve, ce_cCurve, sp_cCurve, h6, h2, h20, show ¬ (c.points.length : Int) < 2 by omega, show (20 : Int) < c.points.length by omega]
 simp only [MSb, reduceCtorEq, p1_cCurve_0, p1_cCurve_1, pA_cCurve, ce_cCurve, sp_cCurve, h6, h2, h20, show ¬ (c.points.length : Int) < 2 by omega, show ¬ (20 : Int) < c.points.length by omega]
 have hmx : c.points.length ≤ mxl := by unfold mxl; omega
 refine (loop_any c.points badP (fun i => [.int .i64 0, .int .i64 (i : Int)]) σ (.exit 0, [.int .i64 0, .int .i64 (c.points.length : Int)], σ) (fun i => (.ret, [.int .i64 1, .int .i64 (i : Int)], σ))
  (some (.int .i64 (if ¬ ((c.points.getD 0 zPoint).time = 0 ∧ (c.points.getD 0 zPoint).way = 0) then 3
 else if ¬ ((c.points.getD (c.points.length - 1) zPoint).time = 1000 ∧ (c.points.getD (c.points.length - 1) zPoint).way = 1000) then 3
 else if (List.range' 1 (c.points.length - 1)).any (ordP c.points) = true then 7 else 0), σ)) (some (.int .i64 1, σ)) ?_ ?_ ?_ ?_).trans ?_
 ·intro i x hx
  obtain ⟨g1, g2, g3⟩ := iaddr_at 2 cPoint hx
  have g3 := g3 hmx
  simp only [MSb, reduceCtorEq, p1_cPoint_0, p1_cPoint_1, pA_cPoint, ce_cPoint, sp_cPoint, g1, g2, g3, Within_eq, badP]
  rcases Bool.eq_false_or_eq_true (withinB x.time 0 1000) with e | e
  ·rcases Bool.eq_false_or_eq_true (withinB x.way 0 1000) with e' | e' <;> simp only [MSb, reduceCtorEq, Within_eq, e, e', Bool.false_or, Bool.or_false]
  ·simp only [MSb, reduceCtorEq, e, Bool.true_or]
 ·exact hend_lss _ _ _
 ·have g0 := iaddr_sl 2 cPoint c.points (getD_at (l := c.points) (i := 0) (by omega))
  have gl := iaddr_pred 2 cPoint c.points (k := c.points.length) (by omega) (getD_at (by omega))
  have hw : IntKind.i64.wrap ((c.points.length : Int) - 1) = (c.points.length : Int) - 1 := wrap64 (by unfold inI; omega)
  simp only [Int.ofNat_zero, Int.natCast_zero] at g0
  simp only [MSb, reduceCtorEq, p1_cCurve_0, p1_cCurve_1, pA_cCurve, ce_cCurve, sp_cCurve, p1_cPoint_0, p1_cPoint_1, pA_cPoint, ce_cPoint, sp_cPoint, g0, ne_point]
  by_cases e1 : (c.points.getD 0 zPoint).time = 0 ∧ (c.points.getD 0 zPoint).way = 0
  case neg => simp only [MSb, reduceCtorEq, e1]
  simp only [MSb, reduceCtorEq, p1_cCurve_0, p1_cCurve_1, pA_cCurve, ce_cCurve, sp_cCurve, e1, hw, gl, p1_cPoint_0, p1_cPoint_1, pA_cPoint, ce_cPoint, sp_cPoint]
  by_cases e2 : (c.points.getD (c.points.length - 1) zPoint).time = 1000 ∧ (c.points.getD (c.points.length - 1) zPoint).way = 1000
  case neg =>
   simp only [spl20, spl21, MSb, reduceCtorEq, ne_point, e2]
  simp only [spl20, spl21, MSb, reduceCtorEq, ne_point, e2]
  refine (loop_anyN 1 (c.points.length - 1) (ordP c.points) (fun i => [.int .i64 0, .int .i64 (i : Int)]) σ (.exit 2, [.int .i64 0, .int .i64 (c.points.length : Int)], σ) (fun i => (.ret, [.int .i64 7, .int .i64 (i : Int)], σ)) (some (AV.int .i64 0, σ)) (some (AV.int .i64 7, σ)) ?_ ?_ ?_ ?_).trans ?_
  ·intro i hi1 hi2
   have k1 := iaddr_sl 2 cPoint c.points (getD_at (l := c.points) (i := i) (by omega))
   have k2 := iaddr_pred 2 cPoint c.points (k := i) (by omega) (getD_at (by omega))
   have k3 : IntKind.i64.wrap ((i : Int) - 1) = (i : Int) - 1 := wrap64 (by unfold inI; omega)
   have k4 : IntKind.i64.wrap ((i : Int) + 1) = ((i + 1 : Nat) : Int) := by rw [wrap64 (by unfold inI; omega)]; omega
   have k5 : (i : Int) < c.points.length := by omega
   simp only [MSb, reduceCtorEq, p1_cCurve_0, p1_cCurve_1, pA_cCurve, ce_cCurve, sp_cCurve, p1_cPoint_0, p1_cPoint_1, pA_cPoint, ce_cPoint, sp_cPoint, k1, k2, k3, k5, ordP]
   by_cases q1 : (c.points.getD i zPoint).time ≤ (c.points.getD (i - 1) zPoint).time
   ·simp only [MSb, reduceCtorEq, q1]
   ·by_cases q2 : (c.points.getD i zPoint).way < (c.points.getD (i - 1) zPoint).way <;> simp only [MSb, reduceCtorEq, p1_cCurve_0, p1_cCurve_1, pA_cCurve, ce_cCurve, sp_cCurve, p1_cPoint_0, p1_cPoint_1, pA_cPoint, ce_cPoint, sp_cPoint, k1, k2, k3, k4, q1, q2]
  ·rw [show 1 + (c.points.length - 1) = c.points.length by omega]
   simp only [MSb, reduceCtorEq, p1_cCurve_0, p1_cCurve_1, pA_cCurve, ce_cCurve, sp_cCurve, Int.lt_irrefl]
  ·simp only [MSb, reduceCtorEq]
  ·intro i; simp only [MSb, reduceCtorEq]
  ·cases (List.range' 1 (c.points.length - 1)).any (ordP c.points) <;> rfl
 ·intro i; simp only [MSb, reduceCtorEq]
 ·unfold ptsF
  cases c.points.any badP <;> rfl
end Go.Proofs.Ytphgchakmkankaa

namespace Go.Proofs.Ytphgchakmkankaa
set_option linter.unusedSectionVars false
set_option linter.unusedVariables false
set_option linter.unusedSimpArgs false
theorem First_eq (l : List Int) (hl : l.length ≤ mxl) (σ : Heap) : m_word_First [sl 1 cInt l] σ = some (.int .i64 ((l.find? fun n => decide (¬ n = 0)).getD 0), σ) := by
 refine wrap_eq rfl ?_ rfl
 show r_word_First (sl 1 cInt l) σ = _
 unfold r_word_First
 simp only [MSb, reduceCtorEq]
 refine (loop_find l (fun n => decide (¬ n = 0)) (fun i => [.int .i64 0, .int .i64 (i : Int)]) σ (.exit 0, [.int .i64 0, .int .i64 (l.length : Int)], σ) (fun i n => (.ret, [.int .i64 n, .int .i64 (i : Int)], σ)) (some (AV.int .i64 0, σ)) (fun n => some (AV.int .i64 n, σ)) ?_ ?_ ?_ ?_).trans ?_
 ·intro i x hx
  obtain ⟨g1, g2, g3⟩ := iaddr_at 1 cInt hx
  have g3 := g3 hl
  simp only [MSb, reduceCtorEq, g1, g2, g3]
  repeat' ((first | rw [gDp] | rw [gDb] | rw [cDp] | rw [cDnp] | rw [cDn] | rw [cDb]); split <;> try simp only [MSb, reduceCtorEq, *])
  all_goals first | with_reducible rfl | (simp [*]; done) | (simp_all; done) | (simp_all; omega) | rfl
 ·exact hend_lss _ _ _
 ·simp only [MSb, reduceCtorEq]
 ·intro i n; simp only [MSb, reduceCtorEq]
 ·cases l.find? (fun n => decide (¬ n = 0)) <;> rfl
end Go.Proofs.Ytphgchakmkankaa

namespace Go.Proofs.Ytphgchakmkankaa
set_option linter.unusedSectionVars false
set_option linter.unusedVariables false
set_option linter.unusedSimpArgs false
theorem idxI_any {α : Type} (p : α → Bool) (l : List α) : decide (0 ≤ idxI p l) = l.any p := by
 rcases idxI_cases p l with ⟨h1, h2, _⟩ | ⟨k, x, h1, h2, h3, _⟩
 ·rw [h1, Bool.eq_iff_iff]
  simp only [decide_eq_true_eq, List.any_eq_true]
  exact ⟨fun h => by omega, fun ⟨x, hx, hp⟩ => by rw [h2 x hx] at hp; cases hp⟩
 ·rw [h3, Bool.eq_iff_iff]
  simp only [decide_eq_true_eq, List.any_eq_true]
  exact ⟨fun _ => ⟨x, List.mem_of_getElem? h1, h2⟩, fun _ => by omega⟩
theorem m_slices_IndexFunc_api_Cue_eq (dyn : Nat → List AV → Heap → Option (AV × Heap)) (l : List CueD) (hl : l.length ≤ mxl) (n : Nat) (caps : List AV) (p : CueD → Bool) (σ : Heap) (hd : ∀ x ∈ l, dyn n ((.agg (cCue x) : AV) :: caps) σ = some (.bool (p x), σ)) : m_slices_IndexFunc_api_Cue dyn [sl 11 cCue l, .fn n caps] σ = some (.int .i64 (idxI p l), σ) := by
 refine wrap_eq rfl ?_ rfl
 show r_slices_IndexFunc_api_Cue dyn (sl 11 cCue l) (.fn n caps) σ = _
 unfold r_slices_IndexFunc_api_Cue
 simp only [MSb, reduceCtorEq]
 refine (loop_pre (S := Unit) (R := Int) l (fun pre x _ => if p x = true then .out (pre.length : Int) else .go ())
  (fun pre _ => [.int .i64 0, .int .i64 (pre.length : Int)]) (fun _ _ => σ) (fun _ => (.exit 0, [.int .i64 0, .int .i64 (l.length : Int)], σ)) (fun pre _ r => (.ret, [.int .i64 (pre.length : Int), .int .i64 (pre.length : Int)], σ))
  (fun _ _ => True) () (fun _ => some (AV.int .i64 (-1), σ)) (fun r => some (AV.int .i64 r, σ)) ?_ ?_ trivial (fun _ _ _ _ _ _ _ _ => trivial) ?_ ?_).trans ?_
 ·intro pre x rest u hl' _
  have hx := pre_get hl'
  have hlt := pre_lt hl'
  have hi1 : IntKind.i64.wrap ((pre.length : Int) + 1) = (pre.length : Int) + 1 := wrap64 (by unfold inI; unfold mxl at hl; omega)
  have hlt' : (pre.length : Int) < (l.length : Int) := by omega
  have hia := iaddr_sl 11 cCue l hx
  have hdx := hd x (by rw [hl']; simp)
  simp only [MSb, reduceCtorEq, p1_cCue_0, p1_cCue_1, p1_cCue_2, p1_cCue_3, p1_cCue_4, p1_cCue_5, p1_cCue_6, p1_cCue_7, p1_cCue_8, p1_cCue_9, p1_cCue_10, pA_cCue_curve, pA_cCue, ce_cCue, sp_cCue, hlt', hia, A.callv, List.cons_append, List.nil_append, hdx, hi1]
  cases p x <;> simp [MSb, reduceCtorEq]
 ·intro u _; simp only [MSb, reduceCtorEq, Int.lt_irrefl]
 ·intro u _; simp only [MSb, reduceCtorEq]
 ·intro pre x rest s q hl' _ hb
  have : q = (pre.length : Int) := by
   cases hpx : p x
   ·rw [hpx] at hb; cases hb
   ·rw [hpx] at hb; simp at hb; exact hb.symm
  simp only [MSb, reduceCtorEq, this]
 ·rw [idxI_run p _ _ l [] (by simp)]
  simp only [List.nil_append]
  split
  ·rename_i h; rw [h]
  ·rfl
theorem m_slices_ContainsFunc_api_Cue_eq (dyn : Nat → List AV → Heap → Option (AV × Heap)) (l : List CueD) (hl : l.length ≤ mxl) (n : Nat) (caps : List AV) (p : CueD → Bool) (σ : Heap) (hd : ∀ x ∈ l, dyn n ((.agg (cCue x) : AV) :: caps) σ = some (.bool (p x), σ)) : m_slices_ContainsFunc_api_Cue dyn [sl 11 cCue l, .fn n caps] σ = some (.bool (l.any p), σ) := by
 refine wrap_eq rfl ?_ rfl
 show r_slices_ContainsFunc_api_Cue dyn (sl 11 cCue l) (.fn n caps) σ = _
 unfold r_slices_ContainsFunc_api_Cue
 simp only [MSb, reduceCtorEq, m_slices_IndexFunc_api_Cue_eq dyn l hl n caps p σ hd]
 refine congrArg some (congrArg (fun b => (AV.bool b, σ)) ?_)
 exact idxI_any p l
end Go.Proofs.Ytphgchakmkankaa

namespace Go.Proofs.Ytphgchakmkankaa
set_option linter.unusedSectionVars false
set_option linter.unusedVariables false
set_option linter.unusedSimpArgs false
theorem IsLevel1_eq (n : Int) (σ : Heap) : m_R1_IsLevel [.int .i64 n] σ = some (.bool (withinB n 0 65535), σ) := by
 refine wrap_eq rfl ?_ rfl
 show r_R1_IsLevel (.int .i64 n) σ = _
 unfold r_R1_IsLevel
 simp only [MSb, reduceCtorEq, Within1_eq]
end Go.Proofs.Ytphgchakmkankaa

namespace Go.Proofs.Ytphgchakmkankaa
set_option linter.unusedSectionVars false
set_option linter.unusedVariables false
set_option linter.unusedSimpArgs false
def blankB (s : ByteArray) : Bool := if s = ⟨#[]⟩ then true else titleB s
end Go.Proofs.Ytphgchakmkankaa

namespace Go.Proofs.Ytphgchakmkankaa
set_option linter.unusedSectionVars false
set_option linter.unusedVariables false
set_option linter.unusedSimpArgs false
set_option maxRecDepth 100000
noncomputable def t_cue_isTime (a0 : Int) : Option Bool :=
 some (withinB a0 0 36000000)
theorem h_cue_isTime {a0 : Int} {σ : Heap} {r : Bool} (h : t_cue_isTime a0 = some r) : m_cue_isTime [(AV.int .i64 a0)] σ = some ((AV.bool r), σ) := by
 refine rf_wrap1 (f := r_cue_isTime) (y0 := (AV.int .i64 a0)) (enc := fun r : Bool => (AV.bool r)) (T := t_cue_isTime a0) rfl rfl ?_ r h
 unfold r_cue_isTime t_cue_isTime
 refine rf_s ((AV.bool (withinB a0 0 36000000)), σ) (Within_eq a0 0 36000000 σ) ?_
 exact rf_fin _ (fin_same _ _) ⟨rfl, rfl⟩

noncomputable def t_cue_compare (a0 : KeyD) (a1 : KeyD) : Option Int :=
 if ¬ (a0.unit = a1.unit) then
  if a0.unit < a1.unit then
   some (-1)
  else
  some 1
 else
 some (Lib.compareBytes a0.param.data.toList a1.param.data.toList)
theorem h_cue_compare {a0 : KeyD} { a1 : KeyD} {σ : Heap} {r : Int} (h : t_cue_compare a0 a1 = some r) : m_cue_compare [(AV.agg (cKey a0)), (AV.agg (cKey a1))] σ = some ((AV.int .i64 r), σ) := by
 refine rf_wrap2 (f := r_cue_compare) (y0 := (AV.agg (cKey a0))) (y1 := (AV.agg (cKey a1))) (enc := fun r : Int => (AV.int .i64 r)) (T := t_cue_compare a0 a1) rfl rfl ?_ r h
 unfold r_cue_compare t_cue_compare
 refine rf_s (cKey a0) rfl ?_
 refine rf_s (cKey a1) rfl ?_
 refine rf_s (AV.int .i64 a0.unit) rfl ?_
 refine rf_s (AV.int .i64 a1.unit) rfl ?_
 refine rf_s (AV.bool (decide (¬ (a0.unit = a1.unit)))) (aNe _ _ _) ?_
 refine rf_c (p := ¬ (a0.unit = a1.unit)) (fun c2 => ?_) (fun c2 => ?_)
 ·refine rf_s (AV.int .i64 a0.unit) rfl ?_
  refine rf_s (AV.int .i64 a1.unit) rfl ?_
  refine rf_s (AV.bool (decide (a0.unit < a1.unit))) rfl ?_
  refine rf_c (p := a0.unit < a1.unit) (fun c1 => ?_) (fun c1 => ?_)
  ·exact rf_fin _ (fin_same _ _) ⟨rfl, rfl⟩
  exact rf_fin _ (fin_same _ _) ⟨rfl, rfl⟩
 refine rf_s (AV.str a0.param) rfl ?_
 refine rf_s (AV.str a1.param) rfl ?_
 refine rf_s ((AV.int .i64 (Lib.compareBytes a0.param.data.toList a1.param.data.toList)), σ) (rfl) ?_
 exact rf_fin _ (fin_same _ _) ⟨rfl, rfl⟩

noncomputable def t_cue_checkMoves (a0 : (List MoveD)) : Option Int :=
 forE a0 (fun (i8 : Nat) e7 (s1 : Unit) => (show Option (Lr Unit Unit Int) from
   if (!(withinB e7.key.unit 1 9999)) = true then
    some (.ret 1)
   else
   (tq (okS e7.key.param) (nameB e7.key.param)).bind fun r9 =>
   if (!r9) = true then
    some (.ret 5)
   else
   if ((e7.release && (decide (¬ (e7.value = (⟨0, 0⟩ : ValueD))))) || ((decide (¬ (e7.value.level = 0))) && (decide (¬ (e7.value.preset = 0))))) = true then
    some (.ret 3)
   else
   if ((!(withinB e7.value.level 0 65535)) || (!(withinB e7.value.preset 0 999))) = true then
    some (.ret 1)
   else
   if ((!e7.timed) && ((decide (¬ (e7.delay = 0))) || (decide (¬ (e7.time = 0))))) = true then
    some (.ret 3)
   else
   if ((!((withinB e7.delay 0 36000000))) || (!((withinB e7.time 0 36000000)))) = true then
    some (.ret 1)
   else
   (if decide (0 < (i8 : Int)) = true then tIx a0 (IntKind.i64.wrap ((i8 : Int) - 1)) else some default).bind fun x10 =>
   (if decide (0 < (i8 : Int)) = true then t_cue_compare x10.key e7.key else some default).bind fun r11 =>
   if ((decide (0 < (i8 : Int))) && (decide (0 ≤ r11))) = true then
    some (.ret 7)
   else
   some (.go ()))) (fun s1 => some ()) () (fun b2 =>
  some 0) (fun b2 =>
  some b2)
theorem h_cue_checkMoves {a0 : (List MoveD)} {σ : Heap} {r : Int} (h : t_cue_checkMoves a0 = some r) : m_cue_checkMoves [(sl 8 cMove a0)] σ = some ((AV.int .i64 r), σ) := by
 refine rf_wrap1 (f := r_cue_checkMoves) (y0 := (sl 8 cMove a0)) (enc := fun r : Int => (AV.int .i64 r)) (T := t_cue_checkMoves a0) rfl rfl ?_ r h
 unfold r_cue_checkMoves t_cue_checkMoves
 refine rf_s (AV.int .i64 (a0.length : Int)) (lenS_sl _ _ _) ?_
 refine rf_for (B := Unit) (R := Int) (fun (i8 : Nat) (s1 : Unit) v w3 => v = [(AV.int .i64 0), (AV.int .i64 (i8 : Int))] ∧ σ = w3) (fun (b2 : Unit) (q : LS) => ∃ u2 u7, q = ((AX.exit 0), ([u2, u7] : List AV), σ)) (fun (b2 : Int) (q : LS) => ∃ u7, q = (AX.ret, ([(AV.int .i64 b2), u7] : List AV), σ)) ?_ ?_ ⟨rfl, rfl⟩ ?_ ?_
 ·intro hle7 i8 e7 s1 v w3 he7 hI
  obtain ⟨rfl, rfl⟩ := hI
  refine rf_s (AV.bool true) (ix_lt he7) ?_
  refine rf_ct ?_
  refine rf_s (AV.rp (cMove e7)) (ix_for he7) ?_
  refine rf_s (AV.agg (cMove e7)) rfl ?_
  refine rf_s (cMove e7) rfl ?_
  refine rf_s (cMove e7) (sp_cMove _ _ rfl) ?_
  refine rf_s (AV.int .i64 e7.key.unit) rfl ?_
  refine rf_s ((AV.bool (withinB e7.key.unit 1 9999)), σ) (Within_eq e7.key.unit 1 9999 σ) ?_
  refine rf_s (AV.bool (!(withinB e7.key.unit 1 9999))) rfl ?_
  refine rf_cb (c := (!(withinB e7.key.unit 1 9999))) (fun c18 => ?_) (fun c18 => ?_)
  ·exact rf_ret (rnd_ret (by simp) ⟨_, rfl⟩)
  refine rf_s (AV.str e7.key.param) rfl ?_
  refine rf_o (fun r9 : Bool => ((AV.bool r9), σ)) (fun r9 hr9 => (tq_of (e := fun r : Bool => ((AV.bool r), σ)) (fun hs => Name_eq e7.key.param hs σ)) hr9) (fun r9 hr9 => ?_)
  refine rf_s (AV.bool (!r9)) rfl ?_
  refine rf_cb (c := (!r9)) (fun c17 => ?_) (fun c17 => ?_)
  ·exact rf_ret (rnd_ret (by simp) ⟨_, rfl⟩)
  refine rf_s (AV.bool e7.release) rfl ?_
  refine rf_gt (AV.agg (cValue e7.value)) (fun hg => rfl) ?_
  refine rf_gt (AV.agg (cValue (⟨0, 0⟩ : ValueD))) (fun hg => rfl) ?_
  refine rf_gt (AV.bool (decide (¬ (e7.value = (⟨0, 0⟩ : ValueD))))) (fun hg => by
    simp only [hg, Bool.true_and, cond_true]; first | done | exact (ne_Value _ _)) ?_
  refine rf_s (AV.bool (e7.release && (decide (¬ (e7.value = (⟨0, 0⟩ : ValueD)))))) (pk_and _ _) ?_
  refine rf_gf (AV.int .i64 e7.value.level) (fun hg => rfl) ?_
  refine rf_gf (AV.bool (decide (¬ (e7.value.level = 0)))) (fun hg => by
    simp only [hg, Bool.true_and, cond_true]; first | done | exact (aNe _ _ _)) ?_
  refine rf_gf (AV.bool (decide (¬ (e7.value.level = 0)))) (fun hg => by
    simp only [hg, Bool.true_and, cond_true]; first | done | exact rfl) ?_
  refine rf_ggt (AV.int .i64 e7.value.preset) (fun hg => rfl) ?_
  refine rf_ggt (AV.bool (decide (¬ (e7.value.preset = 0)))) (fun hg => by
    simp only [hg, Bool.true_and, cond_true]; first | done | exact (aNe _ _ _)) ?_
  refine rf_gf (AV.bool ((decide (¬ (e7.value.level = 0))) && (decide (¬ (e7.value.preset = 0))))) (fun hg => by
    simp only [hg, Bool.true_and, cond_true]; first | done | exact (pk_and _ _)) ?_
  refine rf_s (AV.bool ((e7.release && (decide (¬ (e7.value = (⟨0, 0⟩ : ValueD))))) || ((decide (¬ (e7.value.level = 0))) && (decide (¬ (e7.value.preset = 0)))))) (pk_or _ _) ?_
  refine rf_cb (c := ((e7.release && (decide (¬ (e7.value = (⟨0, 0⟩ : ValueD))))) || ((decide (¬ (e7.value.level = 0))) && (decide (¬ (e7.value.preset = 0)))))) (fun c16 => ?_) (fun c16 => ?_)
  ·exact rf_ret (rnd_ret (by simp) ⟨_, rfl⟩)
  refine rf_s (AV.int .i64 e7.value.level) rfl ?_
  refine rf_s ((AV.bool (withinB e7.value.level 0 65535)), σ) (Within_eq e7.value.level 0 65535 σ) ?_
  refine rf_s (AV.bool (!(withinB e7.value.level 0 65535))) rfl ?_
  refine rf_gf (AV.int .i64 e7.value.preset) (fun hg => rfl) ?_
  refine rf_gf (AV.bool (withinB e7.value.preset 0 999)) (fun hg => by
    simp only [hg, Bool.true_and, cond_true]; first | done | exact (quiet_of (Within_eq e7.value.preset 0 999 σ))) ?_
  refine rf_gf (AV.bool (!(withinB e7.value.preset 0 999))) (fun hg => by
    simp only [hg, Bool.true_and, cond_true]; first | done | exact rfl) ?_
  refine rf_s (AV.bool ((!(withinB e7.value.level 0 65535)) || (!(withinB e7.value.preset 0 999)))) (pk_or _ _) ?_
  refine rf_cb (c := ((!(withinB e7.value.level 0 65535)) || (!(withinB e7.value.preset 0 999)))) (fun c15 => ?_) (fun c15 => ?_)
  ·exact rf_ret (rnd_ret (by simp) ⟨_, rfl⟩)
  refine rf_s (AV.bool e7.timed) rfl ?_
  refine rf_s (AV.bool (!e7.timed)) rfl ?_
  refine rf_gt (AV.int .i64 e7.delay) (fun hg => rfl) ?_
  refine rf_gt (AV.bool (decide (¬ (e7.delay = 0)))) (fun hg => by
    simp only [hg, Bool.true_and, cond_true]; first | done | exact (aNe _ _ _)) ?_
  refine rf_gt (AV.bool (decide (¬ (e7.delay = 0)))) (fun hg => by
    simp only [hg, Bool.true_and, cond_true]; first | done | exact rfl) ?_
  refine rf_ggf (AV.int .i64 e7.time) (fun hg => rfl) ?_
  refine rf_ggf (AV.bool (decide (¬ (e7.time = 0)))) (fun hg => by
    simp only [hg, Bool.true_and, cond_true]; first | done | exact (aNe _ _ _)) ?_
  refine rf_gt (AV.bool ((decide (¬ (e7.delay = 0))) || (decide (¬ (e7.time = 0))))) (fun hg => by
    simp only [hg, Bool.true_and, cond_true]; first | done | exact (pk_or _ _)) ?_
  refine rf_s (AV.bool ((!e7.timed) && ((decide (¬ (e7.delay = 0))) || (decide (¬ (e7.time = 0)))))) (pk_and _ _) ?_
  refine rf_cb (c := ((!e7.timed) && ((decide (¬ (e7.delay = 0))) || (decide (¬ (e7.time = 0)))))) (fun c14 => ?_) (fun c14 => ?_)
  ·exact rf_ret (rnd_ret (by simp) ⟨_, rfl⟩)
  refine rf_s (AV.int .i64 e7.delay) rfl ?_
  refine rf_s ((AV.bool ((withinB e7.delay 0 36000000))), σ) (h_cue_isTime (σ := σ) (r := (withinB e7.delay 0 36000000)) rfl) ?_
  refine rf_s (AV.bool (!((withinB e7.delay 0 36000000)))) rfl ?_
  refine rf_gf (AV.int .i64 e7.time) (fun hg => rfl) ?_
  refine rf_gf (AV.bool ((withinB e7.time 0 36000000))) (fun hg => by
    simp only [hg, Bool.true_and, cond_true]; first | done | exact (quiet_of (h_cue_isTime (σ := σ) (r := (withinB e7.time 0 36000000)) rfl))) ?_
  refine rf_gf (AV.bool (!((withinB e7.time 0 36000000)))) (fun hg => by
    simp only [hg, Bool.true_and, cond_true]; first | done | exact rfl) ?_
  refine rf_s (AV.bool ((!((withinB e7.delay 0 36000000))) || (!((withinB e7.time 0 36000000))))) (pk_or _ _) ?_
  refine rf_cb (c := ((!((withinB e7.delay 0 36000000))) || (!((withinB e7.time 0 36000000))))) (fun c13 => ?_) (fun c13 => ?_)
  ·exact rf_ret (rnd_ret (by simp) ⟨_, rfl⟩)
  refine rf_s (AV.bool (decide (0 < (i8 : Int)))) rfl ?_
  refine rf_gt (sl 8 cMove a0) (fun hg => rfl) ?_
  refine rf_gt (AV.int .i64 (i8 : Int)) (fun hg => rfl) ?_
  refine rf_gt (AV.int .i64 (IntKind.i64.wrap ((i8 : Int) - 1))) (fun hg => by
    simp only [hg, Bool.true_and, cond_true]; first | done | exact rfl) ?_
  refine rf_gto (ω := MoveD) (fun x10 => (AV.rp (cMove x10))) (fun hg x10 hx10 => by
    simp only [hg, Bool.true_and, cond_true]; first | done | exact ix_at hx10) (fun x10 hx10 => ?_)
  refine rf_gt (AV.rp (cMove x10)) (fun hg => by
    simp only [hg, Bool.true_and, cond_true]; first | done | exact rfl) ?_
  refine rf_gt (AV.agg (cKey x10.key)) (fun hg => by
    simp only [hg, Bool.true_and, cond_true]; first | done | exact rfl) ?_
  refine rf_gt (AV.agg (cKey e7.key)) (fun hg => rfl) ?_
  refine rf_gto (ω := Int) (fun r11 => (AV.int .i64 r11)) (fun hg r11 hr11 => by
    simp only [hg, Bool.true_and, cond_true]; first | done | exact (quiet_of (h_cue_compare hr11))) (fun r11 hr11 => ?_)
  refine rf_gt (AV.bool (decide (0 ≤ r11))) (fun hg => by
    simp only [hg, Bool.true_and, cond_true]; first | done | exact rfl) ?_
  refine rf_s (AV.bool ((decide (0 < (i8 : Int))) && (decide (0 ≤ r11)))) (pk_and _ _) ?_
  refine rf_cb (c := ((decide (0 < (i8 : Int))) && (decide (0 ≤ r11)))) (fun c12 => ?_) (fun c12 => ?_)
  ·exact rf_ret (rnd_ret (by simp) ⟨_, rfl⟩)
  refine rf_s (AV.int .i64 ((i8 + 1 : Nat) : Int)) (ix_inc he7 hle7) ?_
  exact rf_ret (rnd_go ⟨rfl, rfl⟩)
 ·intro hl s1 v w3 hI
  obtain ⟨rfl, rfl⟩ := hI
  refine rf_s (AV.bool false) (ix_end _) ?_
  refine rf_cf ?_
  exact rf_ret ⟨by simp, ⟨_, _, rfl⟩⟩
 ·intro hl b2 q hq
  obtain ⟨u2, u7, rfl⟩ := hq
  refine rf_bt rfl ?_
  exact rf_fin _ (fin_same _ _) ⟨rfl, rfl⟩
 ·intro hl b2 q hq
  obtain ⟨u7, rfl⟩ := hq
  refine rf_bf rfl ?_
  refine rf_bt rfl ?_
  exact rf_fin _ (fin_same _ _) ⟨rfl, rfl⟩

noncomputable def t_cue_form (a0 : (List CueD)) : Option Int :=
 if 300 < (a0.length : Int) then
  some 2
 else
 forE a0 (fun (i8 : Nat) e7 (s1 : Int) => (show Option (Lr Int Int Int) from
   if (!(withinB e7.number 1 9999999)) = true then
    some (.ret 1)
   else
   (if decide (0 < (i8 : Int)) = true then tIx a0 (IntKind.i64.wrap ((i8 : Int) - 1)) else some default).bind fun x9 =>
   if ((decide (0 < (i8 : Int))) && (decide (e7.number ≤ x9.number))) = true then
    some (.ret 7)
   else
   (if decide (¬ (e7.title = (⟨#[]⟩ : ByteArray))) = true then tq (okS e7.title) (titleB e7.title) else some default).bind fun r10 =>
   if ((decide (¬ (e7.title = (⟨#[]⟩ : ByteArray)))) && (!r10)) = true then
    some (.ret 3)
   else
   if (((((!((withinB e7.delay 0 36000000))) || (!((withinB e7.up 0 36000000)))) || (!((withinB e7.down 0 36000000)))) || (!((withinB e7.other 0 36000000)))) || (!(withinB e7.follow (-1) 36000000))) = true then
    some (.ret 1)
   else
   if ¬ ((curveF e7.curve) = 0) then
    some (.ret (curveF e7.curve))
   else
   if 2000 < (e7.moves.length : Int) then
    some (.ret 2)
   else
   (t_cue_checkMoves e7.moves).bind fun r11 =>
   if ¬ (r11 = 0) then
    some (.ret r11)
   else
   some (.go (IntKind.i64.wrap (s1 + (e7.moves.length : Int)))))) (fun s1 => some s1) 0 (fun b2 =>
  some (if (decide (10000 < b2)) = true then 2 else 0)) (fun b2 =>
  some b2)
theorem h_cue_form {a0 : (List CueD)} {σ : Heap} {r : Int} (h : t_cue_form a0 = some r) : m_cue_form [(sl 11 cCue a0)] σ = some ((AV.int .i64 r), σ) := by
 refine rf_wrap1 (f := r_cue_form) (y0 := (sl 11 cCue a0)) (enc := fun r : Int => (AV.int .i64 r)) (T := t_cue_form a0) (nn_t1 (nn_e (fun _ => rfl) _) rfl) rfl ?_ r h
 unfold r_cue_form t_cue_form
 refine rf_s (AV.int .i64 (a0.length : Int)) (lenS_sl _ _ _) ?_
 refine rf_s (AV.bool (decide (300 < (a0.length : Int)))) rfl ?_
 refine rf_c (p := 300 < (a0.length : Int)) (fun c19 => ?_) (fun c19 => ?_)
 ·exact rf_fin _ (fin_same _ _) ⟨rfl, rfl⟩
 refine rf_s (AV.int .i64 (a0.length : Int)) (lenS_sl _ _ _) ?_
 refine rf_for (B := Int) (R := Int) (fun (i8 : Nat) (s1 : Int) v w3 => v = [(AV.int .i64 0), (AV.int .i64 s1), (AV.int .i64 (i8 : Int))] ∧ σ = w3) (fun (b2 : Int) (q : LS) => ∃ u2 u13, q = ((AX.exit 0), ([u2, (AV.int .i64 b2), u13] : List AV), σ)) (fun (b2 : Int) (q : LS) => ∃ u3 u13, q = (AX.ret, ([(AV.int .i64 b2), u3, u13] : List AV), σ)) ?_ ?_ ⟨rfl, rfl⟩ ?_ ?_
 ·intro hle7 i8 e7 s1 v w3 he7 hI
  obtain ⟨rfl, rfl⟩ := hI
  refine rf_s (AV.bool true) (ix_lt he7) ?_
  refine rf_ct ?_
  refine rf_s (AV.rp (cCue e7)) (ix_for he7) ?_
  refine rf_s (AV.agg (cCue e7)) rfl ?_
  refine rf_s (cCue e7) rfl ?_
  refine rf_s (cCue e7) (sp_cCue _ _ rfl) ?_
  refine rf_s (AV.int .i64 e7.number) rfl ?_
  refine rf_s ((AV.bool (withinB e7.number 1 9999999)), σ) (Within_eq e7.number 1 9999999 σ) ?_
  refine rf_s (AV.bool (!(withinB e7.number 1 9999999))) rfl ?_
  refine rf_cb (c := (!(withinB e7.number 1 9999999))) (fun c18 => ?_) (fun c18 => ?_)
  ·exact rf_ret (rnd_ret (by simp) ⟨_, _, rfl⟩)
  refine rf_s (AV.bool (decide (0 < (i8 : Int)))) rfl ?_
  refine rf_gt (AV.int .i64 e7.number) (fun hg => rfl) ?_
  refine rf_gt (sl 11 cCue a0) (fun hg => rfl) ?_
  refine rf_gt (AV.int .i64 (i8 : Int)) (fun hg => rfl) ?_
  refine rf_gt (AV.int .i64 (IntKind.i64.wrap ((i8 : Int) - 1))) (fun hg => by
    simp only [hg, Bool.true_and, cond_true]; first | done | exact rfl) ?_
  refine rf_gto (ω := CueD) (fun x9 => (AV.rp (cCue x9))) (fun hg x9 hx9 => by
    simp only [hg, Bool.true_and, cond_true]; first | done | exact ix_at hx9) (fun x9 hx9 => ?_)
  refine rf_gt (AV.rp (cCue x9)) (fun hg => by
    simp only [hg, Bool.true_and, cond_true]; first | done | exact rfl) ?_
  refine rf_gt (AV.int .i64 x9.number) (fun hg => by
    simp only [hg, Bool.true_and, cond_true]; first | done | exact rfl) ?_
  refine rf_gt (AV.bool (decide (e7.number ≤ x9.number))) (fun hg => by
    simp only [hg, Bool.true_and, cond_true]; first | done | exact rfl) ?_
  refine rf_s (AV.bool ((decide (0 < (i8 : Int))) && (decide (e7.number ≤ x9.number)))) (pk_and _ _) ?_
  refine rf_cb (c := ((decide (0 < (i8 : Int))) && (decide (e7.number ≤ x9.number)))) (fun c17 => ?_) (fun c17 => ?_)
  ·exact rf_ret (rnd_ret (by simp) ⟨_, _, rfl⟩)
  refine rf_s (AV.str e7.title) rfl ?_
  refine rf_s (AV.bool (decide (¬ (e7.title = (⟨#[]⟩ : ByteArray))))) (aNeZ _ _) ?_
  refine rf_gt (AV.str e7.title) (fun hg => rfl) ?_
  refine rf_gto (ω := Bool) (fun r10 => (AV.bool r10)) (fun hg r10 hr10 => by
    simp only [hg, Bool.true_and, cond_true]; first | done | exact (quiet_of ((tq_of (e := fun r : Bool => ((AV.bool r), σ)) (fun hs => Title_eq e7.title hs σ)) hr10))) (fun r10 hr10 => ?_)
  refine rf_gt (AV.bool (!r10)) (fun hg => by
    simp only [hg, Bool.true_and, cond_true]; first | done | exact rfl) ?_
  refine rf_s (AV.bool ((decide (¬ (e7.title = (⟨#[]⟩ : ByteArray)))) && (!r10))) (pk_and _ _) ?_
  refine rf_cb (c := ((decide (¬ (e7.title = (⟨#[]⟩ : ByteArray)))) && (!r10))) (fun c16 => ?_) (fun c16 => ?_)
  ·exact rf_ret (rnd_ret (by simp) ⟨_, _, rfl⟩)
  refine rf_s (AV.int .i64 e7.delay) rfl ?_
  refine rf_s ((AV.bool ((withinB e7.delay 0 36000000))), σ) (h_cue_isTime (σ := σ) (r := (withinB e7.delay 0 36000000)) rfl) ?_
  refine rf_s (AV.bool (!((withinB e7.delay 0 36000000)))) rfl ?_
  refine rf_gf (AV.int .i64 e7.up) (fun hg => rfl) ?_
  refine rf_gf (AV.bool ((withinB e7.up 0 36000000))) (fun hg => by
    simp only [hg, Bool.true_and, cond_true]; first | done | exact (quiet_of (h_cue_isTime (σ := σ) (r := (withinB e7.up 0 36000000)) rfl))) ?_
  refine rf_gf (AV.bool (!((withinB e7.up 0 36000000)))) (fun hg => by
    simp only [hg, Bool.true_and, cond_true]; first | done | exact rfl) ?_
  refine rf_s (AV.bool ((!((withinB e7.delay 0 36000000))) || (!((withinB e7.up 0 36000000))))) (pk_or _ _) ?_
  refine rf_gf (AV.int .i64 e7.down) (fun hg => rfl) ?_
  refine rf_gf (AV.bool ((withinB e7.down 0 36000000))) (fun hg => by
    simp only [hg, Bool.true_and, cond_true]; first | done | exact (quiet_of (h_cue_isTime (σ := σ) (r := (withinB e7.down 0 36000000)) rfl))) ?_
  refine rf_gf (AV.bool (!((withinB e7.down 0 36000000)))) (fun hg => by
    simp only [hg, Bool.true_and, cond_true]; first | done | exact rfl) ?_
  refine rf_s (AV.bool (((!((withinB e7.delay 0 36000000))) || (!((withinB e7.up 0 36000000)))) || (!((withinB e7.down 0 36000000))))) (pk_or _ _) ?_
  refine rf_gf (AV.int .i64 e7.other) (fun hg => rfl) ?_
  refine rf_gf (AV.bool ((withinB e7.other 0 36000000))) (fun hg => by
    simp only [hg, Bool.true_and, cond_true]; first | done | exact (quiet_of (h_cue_isTime (σ := σ) (r := (withinB e7.other 0 36000000)) rfl))) ?_
  refine rf_gf (AV.bool (!((withinB e7.other 0 36000000)))) (fun hg => by
    simp only [hg, Bool.true_and, cond_true]; first | done | exact rfl) ?_
  refine rf_s (AV.bool ((((!((withinB e7.delay 0 36000000))) || (!((withinB e7.up 0 36000000)))) || (!((withinB e7.down 0 36000000)))) || (!((withinB e7.other 0 36000000))))) (pk_or _ _) ?_
  refine rf_gf (AV.int .i64 e7.follow) (fun hg => rfl) ?_
  refine rf_gf (AV.bool (withinB e7.follow (-1) 36000000)) (fun hg => by
    simp only [hg, Bool.true_and, cond_true]; first | done | exact (quiet_of (Within_eq e7.follow (-1) 36000000 σ))) ?_
  refine rf_gf (AV.bool (!(withinB e7.follow (-1) 36000000))) (fun hg => by
    simp only [hg, Bool.true_and, cond_true]; first | done | exact rfl) ?_
  refine rf_s (AV.bool (((((!((withinB e7.delay 0 36000000))) || (!((withinB e7.up 0 36000000)))) || (!((withinB e7.down 0 36000000)))) || (!((withinB e7.other 0 36000000)))) || (!(withinB e7.follow (-1) 36000000)))) (pk_or _ _) ?_
  refine rf_cb (c := (((((!((withinB e7.delay 0 36000000))) || (!((withinB e7.up 0 36000000)))) || (!((withinB e7.down 0 36000000)))) || (!((withinB e7.other 0 36000000)))) || (!(withinB e7.follow (-1) 36000000)))) (fun c15 => ?_) (fun c15 => ?_)
  ·exact rf_ret (rnd_ret (by simp) ⟨_, _, rfl⟩)
  refine rf_s (AV.agg (cCurve e7.curve)) rfl ?_
  refine rf_s ((AV.int .i64 (curveF e7.curve)), σ) (CheckCurve_eq e7.curve σ) ?_
  refine rf_s (AV.bool (decide (¬ ((curveF e7.curve) = 0)))) (aNe _ _ _) ?_
  refine rf_c (p := ¬ ((curveF e7.curve) = 0)) (fun c14 => ?_) (fun c14 => ?_)
  ·exact rf_ret (rnd_ret (by simp) ⟨_, _, rfl⟩)
  refine rf_s (sl 8 cMove e7.moves) rfl ?_
  refine rf_s (AV.int .i64 (e7.moves.length : Int)) (lenS_sl _ _ _) ?_
  refine rf_s (AV.bool (decide (2000 < (e7.moves.length : Int)))) rfl ?_
  refine rf_c (p := 2000 < (e7.moves.length : Int)) (fun c13 => ?_) (fun c13 => ?_)
  ·exact rf_ret (rnd_ret (by simp) ⟨_, _, rfl⟩)
  refine rf_s (sl 8 cMove e7.moves) rfl ?_
  refine rf_o (fun r11 : Int => ((AV.int .i64 r11), σ)) (fun r11 hr11 => h_cue_checkMoves hr11) (fun r11 hr11 => ?_)
  refine rf_s (AV.bool (decide (¬ (r11 = 0)))) (aNe _ _ _) ?_
  refine rf_c (p := ¬ (r11 = 0)) (fun c12 => ?_) (fun c12 => ?_)
  ·exact rf_ret (rnd_ret (by simp) ⟨_, _, rfl⟩)
  refine rf_s (sl 8 cMove e7.moves) rfl ?_
  refine rf_s (AV.int .i64 (e7.moves.length : Int)) (lenS_sl _ _ _) ?_
  refine rf_s (AV.int .i64 (IntKind.i64.wrap (s1 + (e7.moves.length : Int)))) rfl ?_
  refine rf_s (AV.int .i64 ((i8 + 1 : Nat) : Int)) (ix_inc he7 hle7) ?_
  exact rf_ret (rnd_go ⟨rfl, rfl⟩)
 ·intro hl s1 v w3 hI
  obtain ⟨rfl, rfl⟩ := hI
  refine rf_s (AV.bool false) (ix_end _) ?_
  refine rf_cf ?_
  exact rf_ret ⟨by simp, ⟨_, _, rfl⟩⟩
 ·intro hl b2 q hq
  obtain ⟨u2, u13, rfl⟩ := hq
  refine rf_bt rfl ?_
  refine rf_s (AV.bool (decide (10000 < b2))) rfl ?_
  refine rf_s ((AV.int .i64 (if (decide (10000 < b2)) = true then 2 else 0)), σ) (When_eq (decide (10000 < b2)) 2 σ) ?_
  exact rf_fin _ (fin_same _ _) ⟨rfl, rfl⟩
 ·intro hl b2 q hq
  obtain ⟨u3, u13, rfl⟩ := hq
  refine rf_bf rfl ?_
  refine rf_bt rfl ?_
  exact rf_fin _ (fin_same _ _) ⟨rfl, rfl⟩

noncomputable def t_R4_Before (a0 : KeyD) (a1 : KeyD) : Option Bool :=
 some ((decide (a0.unit < a1.unit)) || ((decide (a0.unit = a1.unit)) && (Op.bytesLess a0.param.toList a1.param.toList)))
theorem h_R4_Before {a0 : KeyD} { a1 : KeyD} {σ : Heap} {r : Bool} (h : t_R4_Before a0 a1 = some r) : m_R4_Before [(AV.agg (cKey a0)), (AV.agg (cKey a1))] σ = some ((AV.bool r), σ) := by
 refine rf_wrap2 (f := r_R4_Before) (y0 := (AV.agg (cKey a0))) (y1 := (AV.agg (cKey a1))) (enc := fun r : Bool => (AV.bool r)) (T := t_R4_Before a0 a1) rfl rfl ?_ r h
 unfold r_R4_Before t_R4_Before
 refine rf_s (cKey a0) rfl ?_
 refine rf_s (cKey a1) rfl ?_
 refine rf_s (AV.int .i64 a0.unit) rfl ?_
 refine rf_s (AV.int .i64 a1.unit) rfl ?_
 refine rf_s (AV.bool (decide (a0.unit < a1.unit))) rfl ?_
 refine rf_gf (AV.int .i64 a0.unit) (fun hg => rfl) ?_
 refine rf_gf (AV.int .i64 a1.unit) (fun hg => rfl) ?_
 refine rf_gf (AV.bool (decide (a0.unit = a1.unit))) (fun hg => by
   simp only [hg, Bool.true_and, cond_true]; first | done | exact (aEq _ _ _)) ?_
 refine rf_gf (AV.bool (decide (a0.unit = a1.unit))) (fun hg => by
   simp only [hg, Bool.true_and, cond_true]; first | done | exact rfl) ?_
 refine rf_ggt (AV.str a0.param) (fun hg => rfl) ?_
 refine rf_ggt (AV.str a1.param) (fun hg => rfl) ?_
 refine rf_ggt (AV.bool (Op.bytesLess a0.param.toList a1.param.toList)) (fun hg => by
   simp only [hg, Bool.true_and, cond_true]; first | done | exact rfl) ?_
 refine rf_gf (AV.bool ((decide (a0.unit = a1.unit)) && (Op.bytesLess a0.param.toList a1.param.toList))) (fun hg => by
   simp only [hg, Bool.true_and, cond_true]; first | done | exact (pk_and _ _)) ?_
 refine rf_s (AV.bool ((decide (a0.unit < a1.unit)) || ((decide (a0.unit = a1.unit)) && (Op.bytesLess a0.param.toList a1.param.toList)))) (pk_or _ _) ?_
 exact rf_fin _ (fin_same _ _) ⟨rfl, rfl⟩

noncomputable def t_R5_checkMove (a0 : MoveD) (a1 : (List MoveD)) : Option Int :=
 if (!(withinB a0.key.unit 1 9999)) = true then
  some 1
 else
 (tq (okS a0.key.param) (nameB a0.key.param)).bind fun r1 =>
 if (!r1) = true then
  some 5
 else
 if ((a0.release && (decide (¬ (a0.value = (⟨0, 0⟩ : ValueD))))) || ((decide (¬ (a0.value.level = 0))) && (decide (¬ (a0.value.preset = 0))))) = true then
  some 3
 else
 if ((!(withinB a0.value.level 0 65535)) || (!(withinB a0.value.preset 0 999))) = true then
  some 1
 else
 if ((!a0.timed) && ((decide (¬ (a0.delay = 0))) || (decide (¬ (a0.time = 0))))) = true then
  some 3
 else
 if ((!(withinB a0.delay 0 36000000)) || (!(withinB a0.time 0 36000000))) = true then
  some 1
 else
 (if decide (0 < (a1.length : Int)) = true then tIx a1 (IntKind.i64.wrap ((a1.length : Int) - 1)) else some default).bind fun x2 =>
 if ((decide (0 < (a1.length : Int))) && (!(((decide (x2.key.unit < a0.key.unit)) || ((decide (x2.key.unit = a0.key.unit)) && (Op.bytesLess x2.key.param.toList a0.key.param.toList)))))) = true then
  some 7
 else
 some 0
theorem h_R5_checkMove {a0 : MoveD} { a1 : (List MoveD)} {σ : Heap} {r : Int} (h : t_R5_checkMove a0 a1 = some r) : m_R5_checkMove [(AV.agg (cMove a0)), (sl 8 cMove a1)] σ = some ((AV.int .i64 r), σ) := by
 refine rf_wrap2 (f := r_R5_checkMove) (y0 := (AV.agg (cMove a0))) (y1 := (sl 8 cMove a1)) (enc := fun r : Int => (AV.int .i64 r)) (T := t_R5_checkMove a0 a1) rfl rfl ?_ r h
 unfold r_R5_checkMove t_R5_checkMove
 refine rf_s (cMove a0) rfl ?_
 refine rf_s (AV.int .i64 a0.key.unit) rfl ?_
 refine rf_s ((AV.bool (withinB a0.key.unit 1 9999)), σ) (Within1_eq a0.key.unit 1 9999 σ) ?_
 refine rf_s (AV.bool (!(withinB a0.key.unit 1 9999))) rfl ?_
 refine rf_cb (c := (!(withinB a0.key.unit 1 9999))) (fun c9 => ?_) (fun c9 => ?_)
 ·exact rf_fin _ (fin_same _ _) ⟨rfl, rfl⟩
 refine rf_s (AV.str a0.key.param) rfl ?_
 refine rf_o (fun r1 : Bool => ((AV.bool r1), σ)) (fun r1 hr1 => (tq_of (e := fun r : Bool => ((AV.bool r), σ)) (fun hs => IsName1_eq a0.key.param hs σ)) hr1) (fun r1 hr1 => ?_)
 refine rf_s (AV.bool (!r1)) rfl ?_
 refine rf_cb (c := (!r1)) (fun c8 => ?_) (fun c8 => ?_)
 ·exact rf_fin _ (fin_same _ _) ⟨rfl, rfl⟩
 refine rf_s (AV.bool a0.release) rfl ?_
 refine rf_gt (AV.agg (cValue a0.value)) (fun hg => rfl) ?_
 refine rf_gt (AV.agg (cValue (⟨0, 0⟩ : ValueD))) (fun hg => rfl) ?_
 refine rf_gt (AV.bool (decide (¬ (a0.value = (⟨0, 0⟩ : ValueD))))) (fun hg => by
   simp only [hg, Bool.true_and, cond_true]; first | done | exact (ne_Value _ _)) ?_
 refine rf_s (AV.bool (a0.release && (decide (¬ (a0.value = (⟨0, 0⟩ : ValueD)))))) (pk_and _ _) ?_
 refine rf_gf (AV.int .i64 a0.value.level) (fun hg => rfl) ?_
 refine rf_gf (AV.bool (decide (¬ (a0.value.level = 0)))) (fun hg => by
   simp only [hg, Bool.true_and, cond_true]; first | done | exact (aNe _ _ _)) ?_
 refine rf_gf (AV.bool (decide (¬ (a0.value.level = 0)))) (fun hg => by
   simp only [hg, Bool.true_and, cond_true]; first | done | exact rfl) ?_
 refine rf_ggt (AV.int .i64 a0.value.preset) (fun hg => rfl) ?_
 refine rf_ggt (AV.bool (decide (¬ (a0.value.preset = 0)))) (fun hg => by
   simp only [hg, Bool.true_and, cond_true]; first | done | exact (aNe _ _ _)) ?_
 refine rf_gf (AV.bool ((decide (¬ (a0.value.level = 0))) && (decide (¬ (a0.value.preset = 0))))) (fun hg => by
   simp only [hg, Bool.true_and, cond_true]; first | done | exact (pk_and _ _)) ?_
 refine rf_s (AV.bool ((a0.release && (decide (¬ (a0.value = (⟨0, 0⟩ : ValueD))))) || ((decide (¬ (a0.value.level = 0))) && (decide (¬ (a0.value.preset = 0)))))) (pk_or _ _) ?_
 refine rf_cb (c := ((a0.release && (decide (¬ (a0.value = (⟨0, 0⟩ : ValueD))))) || ((decide (¬ (a0.value.level = 0))) && (decide (¬ (a0.value.preset = 0)))))) (fun c7 => ?_) (fun c7 => ?_)
 ·exact rf_fin _ (fin_same _ _) ⟨rfl, rfl⟩
 refine rf_s (AV.int .i64 a0.value.level) rfl ?_
 refine rf_s ((AV.bool (withinB a0.value.level 0 65535)), σ) (IsLevel1_eq a0.value.level σ) ?_
 refine rf_s (AV.bool (!(withinB a0.value.level 0 65535))) rfl ?_
 refine rf_gf (AV.int .i64 a0.value.preset) (fun hg => rfl) ?_
 refine rf_gf (AV.bool (withinB a0.value.preset 0 999)) (fun hg => by
   simp only [hg, Bool.true_and, cond_true]; first | done | exact (quiet_of (Within1_eq a0.value.preset 0 999 σ))) ?_
 refine rf_gf (AV.bool (!(withinB a0.value.preset 0 999))) (fun hg => by
   simp only [hg, Bool.true_and, cond_true]; first | done | exact rfl) ?_
 refine rf_s (AV.bool ((!(withinB a0.value.level 0 65535)) || (!(withinB a0.value.preset 0 999)))) (pk_or _ _) ?_
 refine rf_cb (c := ((!(withinB a0.value.level 0 65535)) || (!(withinB a0.value.preset 0 999)))) (fun c6 => ?_) (fun c6 => ?_)
 ·exact rf_fin _ (fin_same _ _) ⟨rfl, rfl⟩
 refine rf_s (AV.bool a0.timed) rfl ?_
 refine rf_s (AV.bool (!a0.timed)) rfl ?_
 refine rf_gt (AV.int .i64 a0.delay) (fun hg => rfl) ?_
 refine rf_gt (AV.bool (decide (¬ (a0.delay = 0)))) (fun hg => by
   simp only [hg, Bool.true_and, cond_true]; first | done | exact (aNe _ _ _)) ?_
 refine rf_gt (AV.bool (decide (¬ (a0.delay = 0)))) (fun hg => by
   simp only [hg, Bool.true_and, cond_true]; first | done | exact rfl) ?_
 refine rf_ggf (AV.int .i64 a0.time) (fun hg => rfl) ?_
 refine rf_ggf (AV.bool (decide (¬ (a0.time = 0)))) (fun hg => by
   simp only [hg, Bool.true_and, cond_true]; first | done | exact (aNe _ _ _)) ?_
 refine rf_gt (AV.bool ((decide (¬ (a0.delay = 0))) || (decide (¬ (a0.time = 0))))) (fun hg => by
   simp only [hg, Bool.true_and, cond_true]; first | done | exact (pk_or _ _)) ?_
 refine rf_s (AV.bool ((!a0.timed) && ((decide (¬ (a0.delay = 0))) || (decide (¬ (a0.time = 0)))))) (pk_and _ _) ?_
 refine rf_cb (c := ((!a0.timed) && ((decide (¬ (a0.delay = 0))) || (decide (¬ (a0.time = 0)))))) (fun c5 => ?_) (fun c5 => ?_)
 ·exact rf_fin _ (fin_same _ _) ⟨rfl, rfl⟩
 refine rf_s (AV.int .i64 a0.delay) rfl ?_
 refine rf_s ((AV.bool (withinB a0.delay 0 36000000)), σ) (IsTime1_eq a0.delay σ) ?_
 refine rf_s (AV.bool (!(withinB a0.delay 0 36000000))) rfl ?_
 refine rf_gf (AV.int .i64 a0.time) (fun hg => rfl) ?_
 refine rf_gf (AV.bool (withinB a0.time 0 36000000)) (fun hg => by
   simp only [hg, Bool.true_and, cond_true]; first | done | exact (quiet_of (IsTime1_eq a0.time σ))) ?_
 refine rf_gf (AV.bool (!(withinB a0.time 0 36000000))) (fun hg => by
   simp only [hg, Bool.true_and, cond_true]; first | done | exact rfl) ?_
 refine rf_s (AV.bool ((!(withinB a0.delay 0 36000000)) || (!(withinB a0.time 0 36000000)))) (pk_or _ _) ?_
 refine rf_cb (c := ((!(withinB a0.delay 0 36000000)) || (!(withinB a0.time 0 36000000)))) (fun c4 => ?_) (fun c4 => ?_)
 ·exact rf_fin _ (fin_same _ _) ⟨rfl, rfl⟩
 refine rf_s (AV.int .i64 (a1.length : Int)) (lenS_sl _ _ _) ?_
 refine rf_s (AV.bool (decide (0 < (a1.length : Int)))) rfl ?_
 refine rf_gt (sl 8 cMove a1) (fun hg => rfl) ?_
 refine rf_gt (sl 8 cMove a1) (fun hg => rfl) ?_
 refine rf_gt (AV.int .i64 (a1.length : Int)) (fun hg => by
   simp only [hg, Bool.true_and, cond_true]; first | done | exact (lenS_sl _ _ _)) ?_
 refine rf_gt (AV.int .i64 (IntKind.i64.wrap ((a1.length : Int) - 1))) (fun hg => by
   simp only [hg, Bool.true_and, cond_true]; first | done | exact rfl) ?_
 refine rf_gto (ω := MoveD) (fun x2 => (AV.rp (cMove x2))) (fun hg x2 hx2 => by
   simp only [hg, Bool.true_and, cond_true]; first | done | exact ix_at hx2) (fun x2 hx2 => ?_)
 refine rf_gt (AV.rp (cMove x2)) (fun hg => by
   simp only [hg, Bool.true_and, cond_true]; first | done | exact rfl) ?_
 refine rf_gt (AV.agg (cKey x2.key)) (fun hg => by
   simp only [hg, Bool.true_and, cond_true]; first | done | exact rfl) ?_
 refine rf_gt (AV.agg (cKey a0.key)) (fun hg => rfl) ?_
 refine rf_gt (AV.bool (((decide (x2.key.unit < a0.key.unit)) || ((decide (x2.key.unit = a0.key.unit)) && (Op.bytesLess x2.key.param.toList a0.key.param.toList))))) (fun hg => by
   simp only [hg, Bool.true_and, cond_true]; first | done | exact (quiet_of (h_R4_Before (σ := σ) (r := ((decide (x2.key.unit < a0.key.unit)) || ((decide (x2.key.unit = a0.key.unit)) && (Op.bytesLess x2.key.param.toList a0.key.param.toList)))) rfl))) ?_
 refine rf_gt (AV.bool (!(((decide (x2.key.unit < a0.key.unit)) || ((decide (x2.key.unit = a0.key.unit)) && (Op.bytesLess x2.key.param.toList a0.key.param.toList)))))) (fun hg => by
   simp only [hg, Bool.true_and, cond_true]; first | done | exact rfl) ?_
 refine rf_s (AV.bool ((decide (0 < (a1.length : Int))) && (!(((decide (x2.key.unit < a0.key.unit)) || ((decide (x2.key.unit = a0.key.unit)) && (Op.bytesLess x2.key.param.toList a0.key.param.toList))))))) (pk_and _ _) ?_
 refine rf_cb (c := ((decide (0 < (a1.length : Int))) && (!(((decide (x2.key.unit < a0.key.unit)) || ((decide (x2.key.unit = a0.key.unit)) && (Op.bytesLess x2.key.param.toList a0.key.param.toList))))))) (fun c3 => ?_) (fun c3 => ?_)
 ·exact rf_fin _ (fin_same _ _) ⟨rfl, rfl⟩
 exact rf_fin _ (fin_same _ _) ⟨rfl, rfl⟩

noncomputable def t_R5_checkMoves (a0 : (List MoveD)) : Option Int :=
 if 2000 < (a0.length : Int) then
  some 2
 else
 forE a0 (fun (i8 : Nat) e7 (s1 : Unit) => (show Option (Lr Unit Unit Int) from
   (tSl a0 none (some (i8 : Int))).bind fun x9 =>
   (t_R5_checkMove e7 x9).bind fun r10 =>
   if ¬ (r10 = 0) then
    some (.ret r10)
   else
   some (.go ()))) (fun s1 => some ()) () (fun b2 =>
  some 0) (fun b2 =>
  some b2)
theorem h_R5_checkMoves {a0 : (List MoveD)} {σ : Heap} {r : Int} (h : t_R5_checkMoves a0 = some r) : m_R5_checkMoves [(sl 8 cMove a0)] σ = some ((AV.int .i64 r), σ) := by
 refine rf_wrap1 (f := r_R5_checkMoves) (y0 := (sl 8 cMove a0)) (enc := fun r : Int => (AV.int .i64 r)) (T := t_R5_checkMoves a0) rfl rfl ?_ r h
 unfold r_R5_checkMoves t_R5_checkMoves
 refine rf_s (AV.int .i64 (a0.length : Int)) (lenS_sl _ _ _) ?_
 refine rf_s (AV.bool (decide (2000 < (a0.length : Int)))) rfl ?_
 refine rf_c (p := 2000 < (a0.length : Int)) (fun c12 => ?_) (fun c12 => ?_)
 ·exact rf_fin _ (fin_same _ _) ⟨rfl, rfl⟩
 refine rf_s (AV.int .i64 (a0.length : Int)) (lenS_sl _ _ _) ?_
 refine rf_for (B := Unit) (R := Int) (fun (i8 : Nat) (s1 : Unit) v w3 => v = [(AV.int .i64 0), (AV.int .i64 (i8 : Int))] ∧ σ = w3) (fun (b2 : Unit) (q : LS) => ∃ u2 u11, q = ((AX.exit 0), ([u2, u11] : List AV), σ)) (fun (b2 : Int) (q : LS) => ∃ u11, q = (AX.ret, ([(AV.int .i64 b2), u11] : List AV), σ)) ?_ ?_ ⟨rfl, rfl⟩ ?_ ?_
 ·intro hle7 i8 e7 s1 v w3 he7 hI
  obtain ⟨rfl, rfl⟩ := hI
  refine rf_s (AV.bool true) (ix_lt he7) ?_
  refine rf_ct ?_
  refine rf_s (AV.rp (cMove e7)) (ix_for he7) ?_
  refine rf_s (AV.agg (cMove e7)) rfl ?_
  refine rf_s (cMove e7) rfl ?_
  refine rf_s (cMove e7) (sp_cMove _ _ rfl) ?_
  refine rf_s (AV.agg (cMove e7)) rfl ?_
  refine rf_o (fun x9 : (List MoveD) => (sl 8 cMove x9)) (fun x9 hx9 => (sls_at hx9)) (fun x9 hx9 => ?_)
  refine rf_o (fun r10 : Int => (AV.int .i64 r10)) (fun r10 hr10 => (quiet_of (h_R5_checkMove hr10))) (fun r10 hr10 => ?_)
  refine rf_s (AV.bool (decide (¬ (r10 = 0)))) (aNe _ _ _) ?_
  refine rf_c (p := ¬ (r10 = 0)) (fun c11 => ?_) (fun c11 => ?_)
  ·exact rf_ret (rnd_ret (by simp) ⟨_, rfl⟩)
  refine rf_s (AV.int .i64 ((i8 + 1 : Nat) : Int)) (ix_inc he7 hle7) ?_
  exact rf_ret (rnd_go ⟨rfl, rfl⟩)
 ·intro hl s1 v w3 hI
  obtain ⟨rfl, rfl⟩ := hI
  refine rf_s (AV.bool false) (ix_end _) ?_
  refine rf_cf ?_
  exact rf_ret ⟨by simp, ⟨_, _, rfl⟩⟩
 ·intro hl b2 q hq
  obtain ⟨u2, u11, rfl⟩ := hq
  refine rf_bt rfl ?_
  exact rf_fin _ (fin_same _ _) ⟨rfl, rfl⟩
 ·intro hl b2 q hq
  obtain ⟨u11, rfl⟩ := hq
  refine rf_bf rfl ?_
  refine rf_bt rfl ?_
  exact rf_fin _ (fin_same _ _) ⟨rfl, rfl⟩

noncomputable def t_R5_CheckForm (a0 : (List CueD)) : Option Int :=
 if 300 < (a0.length : Int) then
  some 2
 else
 forE a0 (fun (i8 : Nat) e7 (s1 : Int) => (show Option (Lr Int Int Int) from
   if (!(withinB e7.number 1 9999999)) = true then
    some (.ret 1)
   else
   (if decide (0 < (i8 : Int)) = true then tIx a0 (IntKind.i64.wrap ((i8 : Int) - 1)) else some default).bind fun x9 =>
   if ((decide (0 < (i8 : Int))) && (decide (e7.number ≤ x9.number))) = true then
    some (.ret 7)
   else
   (if decide (¬ (e7.title = (⟨#[]⟩ : ByteArray))) = true then tq (okS e7.title) (titleB e7.title) else some default).bind fun r10 =>
   if ((decide (¬ (e7.title = (⟨#[]⟩ : ByteArray)))) && (!r10)) = true then
    some (.ret 3)
   else
   if (((((!(withinB e7.delay 0 36000000)) || (!(withinB e7.up 0 36000000))) || (!(withinB e7.down 0 36000000))) || (!(withinB e7.other 0 36000000))) || (!(withinB e7.follow (-1) 36000000))) = true then
    some (.ret 1)
   else
   if ¬ ((curveF e7.curve) = 0) then
    some (.ret (curveF e7.curve))
   else
   (t_R5_checkMoves e7.moves).bind fun r11 =>
   if ¬ (r11 = 0) then
    some (.ret r11)
   else
   some (.go (IntKind.i64.wrap (s1 + (e7.moves.length : Int)))))) (fun s1 => some s1) 0 (fun b2 =>
  if 10000 < b2 then
   some 2
  else
  some 0) (fun b2 =>
  some b2)
theorem h_R5_CheckForm {a0 : (List CueD)} {σ : Heap} {r : Int} (h : t_R5_CheckForm a0 = some r) : m_R5_CheckForm [(sl 11 cCue a0)] σ = some ((AV.int .i64 r), σ) := by
 refine rf_wrap1 (f := r_R5_CheckForm) (y0 := (sl 11 cCue a0)) (enc := fun r : Int => (AV.int .i64 r)) (T := t_R5_CheckForm a0) (nn_t1 (nn_e (fun _ => rfl) _) rfl) rfl ?_ r h
 unfold r_R5_CheckForm t_R5_CheckForm
 refine rf_s (AV.int .i64 (a0.length : Int)) (lenS_sl _ _ _) ?_
 refine rf_s (AV.bool (decide (300 < (a0.length : Int)))) rfl ?_
 refine rf_c (p := 300 < (a0.length : Int)) (fun c19 => ?_) (fun c19 => ?_)
 ·exact rf_fin _ (fin_same _ _) ⟨rfl, rfl⟩
 refine rf_s (AV.int .i64 (a0.length : Int)) (lenS_sl _ _ _) ?_
 refine rf_for (B := Int) (R := Int) (fun (i8 : Nat) (s1 : Int) v w3 => v = [(AV.int .i64 0), (AV.int .i64 s1), (AV.int .i64 (i8 : Int))] ∧ σ = w3) (fun (b2 : Int) (q : LS) => ∃ u2 u13, q = ((AX.exit 0), ([u2, (AV.int .i64 b2), u13] : List AV), σ)) (fun (b2 : Int) (q : LS) => ∃ u3 u13, q = (AX.ret, ([(AV.int .i64 b2), u3, u13] : List AV), σ)) ?_ ?_ ⟨rfl, rfl⟩ ?_ ?_
 ·intro hle7 i8 e7 s1 v w3 he7 hI
  obtain ⟨rfl, rfl⟩ := hI
  refine rf_s (AV.bool true) (ix_lt he7) ?_
  refine rf_ct ?_
  refine rf_s (AV.rp (cCue e7)) (ix_for he7) ?_
  refine rf_s (AV.agg (cCue e7)) rfl ?_
  refine rf_s (cCue e7) rfl ?_
  refine rf_s (cCue e7) (sp_cCue _ _ rfl) ?_
  refine rf_s (AV.int .i64 e7.number) rfl ?_
  refine rf_s ((AV.bool (withinB e7.number 1 9999999)), σ) (Within1_eq e7.number 1 9999999 σ) ?_
  refine rf_s (AV.bool (!(withinB e7.number 1 9999999))) rfl ?_
  refine rf_cb (c := (!(withinB e7.number 1 9999999))) (fun c17 => ?_) (fun c17 => ?_)
  ·exact rf_ret (rnd_ret (by simp) ⟨_, _, rfl⟩)
  refine rf_s (AV.bool (decide (0 < (i8 : Int)))) rfl ?_
  refine rf_gt (AV.int .i64 e7.number) (fun hg => rfl) ?_
  refine rf_gt (sl 11 cCue a0) (fun hg => rfl) ?_
  refine rf_gt (AV.int .i64 (i8 : Int)) (fun hg => rfl) ?_
  refine rf_gt (AV.int .i64 (IntKind.i64.wrap ((i8 : Int) - 1))) (fun hg => by
    simp only [hg, Bool.true_and, cond_true]; first | done | exact rfl) ?_
  refine rf_gto (ω := CueD) (fun x9 => (AV.rp (cCue x9))) (fun hg x9 hx9 => by
    simp only [hg, Bool.true_and, cond_true]; first | done | exact ix_at hx9) (fun x9 hx9 => ?_)
  refine rf_gt (AV.rp (cCue x9)) (fun hg => by
    simp only [hg, Bool.true_and, cond_true]; first | done | exact rfl) ?_
  refine rf_gt (AV.int .i64 x9.number) (fun hg => by
    simp only [hg, Bool.true_and, cond_true]; first | done | exact rfl) ?_
  refine rf_gt (AV.bool (decide (e7.number ≤ x9.number))) (fun hg => by
    simp only [hg, Bool.true_and, cond_true]; first | done | exact rfl) ?_
  refine rf_s (AV.bool ((decide (0 < (i8 : Int))) && (decide (e7.number ≤ x9.number)))) (pk_and _ _) ?_
  refine rf_cb (c := ((decide (0 < (i8 : Int))) && (decide (e7.number ≤ x9.number)))) (fun c16 => ?_) (fun c16 => ?_)
  ·exact rf_ret (rnd_ret (by simp) ⟨_, _, rfl⟩)
  refine rf_s (AV.str e7.title) rfl ?_
  refine rf_s (AV.bool (decide (¬ (e7.title = (⟨#[]⟩ : ByteArray))))) (aNeZ _ _) ?_
  refine rf_gt (AV.str e7.title) (fun hg => rfl) ?_
  refine rf_gto (ω := Bool) (fun r10 => (AV.bool r10)) (fun hg r10 hr10 => by
    simp only [hg, Bool.true_and, cond_true]; first | done | exact (quiet_of ((tq_of (e := fun r : Bool => ((AV.bool r), σ)) (fun hs => IsTitle1_eq e7.title hs σ)) hr10))) (fun r10 hr10 => ?_)
  refine rf_gt (AV.bool (!r10)) (fun hg => by
    simp only [hg, Bool.true_and, cond_true]; first | done | exact rfl) ?_
  refine rf_s (AV.bool ((decide (¬ (e7.title = (⟨#[]⟩ : ByteArray)))) && (!r10))) (pk_and _ _) ?_
  refine rf_cb (c := ((decide (¬ (e7.title = (⟨#[]⟩ : ByteArray)))) && (!r10))) (fun c15 => ?_) (fun c15 => ?_)
  ·exact rf_ret (rnd_ret (by simp) ⟨_, _, rfl⟩)
  refine rf_s (AV.int .i64 e7.delay) rfl ?_
  refine rf_s ((AV.bool (withinB e7.delay 0 36000000)), σ) (IsTime1_eq e7.delay σ) ?_
  refine rf_s (AV.bool (!(withinB e7.delay 0 36000000))) rfl ?_
  refine rf_gf (AV.int .i64 e7.up) (fun hg => rfl) ?_
  refine rf_gf (AV.bool (withinB e7.up 0 36000000)) (fun hg => by
    simp only [hg, Bool.true_and, cond_true]; first | done | exact (quiet_of (IsTime1_eq e7.up σ))) ?_
  refine rf_gf (AV.bool (!(withinB e7.up 0 36000000))) (fun hg => by
    simp only [hg, Bool.true_and, cond_true]; first | done | exact rfl) ?_
  refine rf_s (AV.bool ((!(withinB e7.delay 0 36000000)) || (!(withinB e7.up 0 36000000)))) (pk_or _ _) ?_
  refine rf_gf (AV.int .i64 e7.down) (fun hg => rfl) ?_
  refine rf_gf (AV.bool (withinB e7.down 0 36000000)) (fun hg => by
    simp only [hg, Bool.true_and, cond_true]; first | done | exact (quiet_of (IsTime1_eq e7.down σ))) ?_
  refine rf_gf (AV.bool (!(withinB e7.down 0 36000000))) (fun hg => by
    simp only [hg, Bool.true_and, cond_true]; first | done | exact rfl) ?_
  refine rf_s (AV.bool (((!(withinB e7.delay 0 36000000)) || (!(withinB e7.up 0 36000000))) || (!(withinB e7.down 0 36000000)))) (pk_or _ _) ?_
  refine rf_gf (AV.int .i64 e7.other) (fun hg => rfl) ?_
  refine rf_gf (AV.bool (withinB e7.other 0 36000000)) (fun hg => by
    simp only [hg, Bool.true_and, cond_true]; first | done | exact (quiet_of (IsTime1_eq e7.other σ))) ?_
  refine rf_gf (AV.bool (!(withinB e7.other 0 36000000))) (fun hg => by
    simp only [hg, Bool.true_and, cond_true]; first | done | exact rfl) ?_
  refine rf_s (AV.bool ((((!(withinB e7.delay 0 36000000)) || (!(withinB e7.up 0 36000000))) || (!(withinB e7.down 0 36000000))) || (!(withinB e7.other 0 36000000)))) (pk_or _ _) ?_
  refine rf_gf (AV.int .i64 e7.follow) (fun hg => rfl) ?_
  refine rf_gf (AV.bool (withinB e7.follow (-1) 36000000)) (fun hg => by
    simp only [hg, Bool.true_and, cond_true]; first | done | exact (quiet_of (Within1_eq e7.follow (-1) 36000000 σ))) ?_
  refine rf_gf (AV.bool (!(withinB e7.follow (-1) 36000000))) (fun hg => by
    simp only [hg, Bool.true_and, cond_true]; first | done | exact rfl) ?_
  refine rf_s (AV.bool (((((!(withinB e7.delay 0 36000000)) || (!(withinB e7.up 0 36000000))) || (!(withinB e7.down 0 36000000))) || (!(withinB e7.other 0 36000000))) || (!(withinB e7.follow (-1) 36000000)))) (pk_or _ _) ?_
  refine rf_cb (c := (((((!(withinB e7.delay 0 36000000)) || (!(withinB e7.up 0 36000000))) || (!(withinB e7.down 0 36000000))) || (!(withinB e7.other 0 36000000))) || (!(withinB e7.follow (-1) 36000000)))) (fun c14 => ?_) (fun c14 => ?_)
  ·exact rf_ret (rnd_ret (by simp) ⟨_, _, rfl⟩)
  refine rf_s (AV.agg (cCurve e7.curve)) rfl ?_
  refine rf_s ((AV.int .i64 (curveF e7.curve)), σ) (CheckCurve1_eq e7.curve σ) ?_
  refine rf_s (AV.bool (decide (¬ ((curveF e7.curve) = 0)))) (aNe _ _ _) ?_
  refine rf_c (p := ¬ ((curveF e7.curve) = 0)) (fun c13 => ?_) (fun c13 => ?_)
  ·exact rf_ret (rnd_ret (by simp) ⟨_, _, rfl⟩)
  refine rf_s (sl 8 cMove e7.moves) rfl ?_
  refine rf_o (fun r11 : Int => ((AV.int .i64 r11), σ)) (fun r11 hr11 => h_R5_checkMoves hr11) (fun r11 hr11 => ?_)
  refine rf_s (AV.bool (decide (¬ (r11 = 0)))) (aNe _ _ _) ?_
  refine rf_c (p := ¬ (r11 = 0)) (fun c12 => ?_) (fun c12 => ?_)
  ·exact rf_ret (rnd_ret (by simp) ⟨_, _, rfl⟩)
  refine rf_s (sl 8 cMove e7.moves) rfl ?_
  refine rf_s (AV.int .i64 (e7.moves.length : Int)) (lenS_sl _ _ _) ?_
  refine rf_s (AV.int .i64 (IntKind.i64.wrap (s1 + (e7.moves.length : Int)))) rfl ?_
  refine rf_s (AV.int .i64 ((i8 + 1 : Nat) : Int)) (ix_inc he7 hle7) ?_
  exact rf_ret (rnd_go ⟨rfl, rfl⟩)
 ·intro hl s1 v w3 hI
  obtain ⟨rfl, rfl⟩ := hI
  refine rf_s (AV.bool false) (ix_end _) ?_
  refine rf_cf ?_
  exact rf_ret ⟨by simp, ⟨_, _, rfl⟩⟩
 ·intro hl b2 q hq
  obtain ⟨u2, u13, rfl⟩ := hq
  refine rf_bt rfl ?_
  refine rf_s (AV.bool (decide (10000 < b2))) rfl ?_
  refine rf_c (p := 10000 < b2) (fun c18 => ?_) (fun c18 => ?_)
  ·exact rf_fin _ (fin_same _ _) ⟨rfl, rfl⟩
  exact rf_fin _ (fin_same _ _) ⟨rfl, rfl⟩
 ·intro hl b2 q hq
  obtain ⟨u3, u13, rfl⟩ := hq
  refine rf_bf rfl ?_
  refine rf_bt rfl ?_
  exact rf_fin _ (fin_same _ _) ⟨rfl, rfl⟩

end Go.Proofs.Ytphgchakmkankaa

namespace Go.Proofs.Ytphgchakmkankaa
set_option linter.unusedSectionVars false
set_option linter.unusedVariables false
set_option linter.unusedSimpArgs false
section
variable {κ ν : Type} [DecidableEq κ]
end
theorem ite_pure {α : Type} {p : Prop} [Decidable p] (a b : α) : (if p then some a else some b) = some (if p then a else b) := by split <;> rfl
theorem bind_ite2 {α β : Type} {p : Prop} [Decidable p] (a b : α) (f : α → Option β) : (if p then some a else some b).bind f = f (if p then a else b) := by split <;> rfl
theorem compare_eq (a b : KeyD) : t_cue_compare a b = some (cmpK a b) := by
 unfold t_cue_compare cmpK
 by_cases h : a.unit = b.unit
 ·simp [h]
 ·by_cases h2 : a.unit < b.unit <;> simp [h, h2]
theorem guard_cmp (c : Bool) (a b : KeyD) : (c && decide (0 ≤ (if c = true then cmpK a b else (default : Int)))) = (c && !ltK a b) := by
 cases c
 ·rfl
 ·simp only [if_true, Bool.true_and]; exact cmpK_ge a b
theorem guard_title (s : ByteArray) : (decide (¬ (s = (⟨#[]⟩ : ByteArray))) && !(if decide (¬ (s = (⟨#[]⟩ : ByteArray))) = true then titleB s else (default : Bool))) = !blankB s := by
 unfold blankB
 by_cases h : s = ⟨#[]⟩ <;> simp [h]
def moveF (l : List MoveD) (i : Nat) (m : MoveD) : Int :=
 if (!(withinB m.key.unit 1 9999)) = true then 1
 else if (!(nameB m.key.param)) = true then 5
 else if ((m.release && (decide (¬ (m.value = (⟨0, 0⟩ : ValueD))))) || ((decide (¬ (m.value.level = 0))) && (decide (¬ (m.value.preset = 0))))) = true then 3
 else if ((!(withinB m.value.level 0 65535)) || (!(withinB m.value.preset 0 999))) = true then 1
 else if ((!m.timed) && ((decide (¬ (m.delay = 0))) || (decide (¬ (m.time = 0))))) = true then 3
 else if ((!(withinB m.delay 0 36000000)) || (!(withinB m.time 0 36000000))) = true then 1
 else if (decide (0 < (i : Int)) && !ltK (pv l i).key m.key) = true then 7 else 0
def movesF (l : List MoveD) : Int := chkE (moveF l) l 0
theorem checkMoves_t (l : List MoveD) (hl : okL okMove l) : t_cue_checkMoves l = some (movesF l) := by
 unfold t_cue_checkMoves movesF
 rw [forE_chk (f := moveF l) hl.1 ?_]
 ·split
  ·rename_i h; rw [h]
  ·rfl
 intro i m hm
 have hmm := hl.2 m (List.mem_of_getElem? hm)
 simp only [prev_at hm hl.1, Option.bind_some, tq_pos hmm.1.2, compare_eq, bind_ite2, guard_cmp]
 unfold moveF
 repeat first | exact go_ret | refine ite_ret (by decide) ?_
theorem checkMove5_t (l : List MoveD) (hl : okL okMove l) (i : Nat) (m : MoveD) (hm : l[i]? = some m) : t_R5_checkMove m (l.take i) = some (moveF l i m) := by
 have hmm := hl.2 m (List.mem_of_getElem? hm)
 have hi := (List.getElem?_eq_some_iff.1 hm).1
 have e : ((l.take i).length : Int) = (i : Int) := by simp; omega
 unfold t_R5_checkMove moveF
 simp only [tq_pos hmm.1.2, Option.bind_some]
 have := last_at hm hl.1
 rw [e] at this
 simp only [e, this, Option.bind_some, ite_pure]
 rfl
theorem checkMoves5_t (l : List MoveD) (hl : okL okMove l) : t_R5_checkMoves l = some (if 2000 < (l.length : Int) then 2 else movesF l) := by
 unfold t_R5_checkMoves movesF
 split
 ·rfl
 rw [forE_chk (f := moveF l) hl.1 ?_]
 ·split
  ·rename_i h; rw [h]
  ·rfl
 intro i m hm
 have hi := (List.getElem?_eq_some_iff.1 hm).1
 simp only [tSl_pre (Nat.le_of_lt hi), Option.bind_some, checkMove5_t l hl i m hm]
 by_cases h : moveF l i m = 0 <;> simp [h]
def cueF (l : List CueD) (i : Nat) (c : CueD) : Int :=
 if (!(withinB c.number 1 9999999)) = true then 1
 else if (decide (0 < (i : Int)) && decide (c.number ≤ (pv l i).number)) = true then 7
 else if (!(blankB c.title)) = true then 3
 else if (((((!(withinB c.delay 0 36000000)) || (!(withinB c.up 0 36000000))) || (!(withinB c.down 0 36000000))) || (!(withinB c.other 0 36000000))) || (!(withinB c.follow (-1) 36000000))) = true then 1
 else if ¬ (curveF c.curve = 0) then curveF c.curve
 else if 2000 < (c.moves.length : Int) then 2
 else movesF c.moves
def manyF (l : List CueD) : Int := l.foldl (fun s c => IntKind.i64.wrap (s + (c.moves.length : Int))) 0
def formF (l : List CueD) : Int :=
 if 300 < (l.length : Int) then 2 else if ¬ (chkE (cueF l) l 0 = 0) then chkE (cueF l) l 0 else if 10000 < manyF l then 2 else 0
theorem forE_chkS {α γ S B : Type} {f : Nat → α → Int} {g : S → α → S} {l : List α} {body : Nat → α → S → Option (Lr S B Int)} {fin : S → Option B} {s : S} {K1 : B → Option γ} {K2 : Int → Option γ} (hl : l.length ≤ mxl) (hb : ∀ i x s, l[i]? = some x → body i x s = some (if f i x = 0 then .go (g s x) else .ret (f i x))) : forE l body fin s K1 K2 = if chkE f l 0 = 0 then (fin (l.foldl g s)).bind K1 else K2 (chkE f l 0) := by
 rw [forE_le hl]
 have key : ∀ (rest pre : List α) (s : S), l = pre ++ rest → forL body fin rest pre.length s = if chkE f rest pre.length = 0 then (fin (rest.foldl g s)).map .inl else some (.inr (chkE f rest pre.length)) := by
  intro rest
  induction rest with
  | nil => intro pre s _; simp [forL, chkE]
  | cons x rest ih =>
   intro pre s hp
   rw [forL, hb pre.length x s (by rw [hp]; simp), Option.bind_some, chkE]
   by_cases h : f pre.length x = 0
   ·simp only [h, if_true]
    have := ih (pre ++ [x]) (g s x) (by simpa using hp)
    simpa using this
   ·simp only [h, if_false]
 have k := key l [] s rfl
 rw [List.length_nil] at k
 rw [k]
 split
 ·cases fin (l.foldl g s) <;> rfl
 ·rfl
theorem ite_retS {S B : Type} {p : Prop} [Decidable p] {k f : Int} {t : S} {Y : Option (Lr S B Int)} (hk : k ≠ 0) (h : Y = some (if f = 0 then .go t else .ret f)) : (if p then some (.ret k) else Y) = some (if (if p then k else f) = 0 then .go t else .ret (if p then k else f)) := by
 by_cases hp : p
 ·simp [hp, hk]
 ·simp [hp, h]
theorem ite_retvS {S B : Type} {k f : Int} {t : S} {Y : Option (Lr S B Int)} (h : Y = some (if f = 0 then .go t else .ret f)) : (if ¬ (k = 0) then some (.ret k) else Y) = some (if (if ¬ (k = 0) then k else f) = 0 then .go t else .ret (if ¬ (k = 0) then k else f)) := by
 by_cases hp : k = 0
 ·simp [hp, h]
 ·simp [hp]
theorem ite_lastS {S B : Type} {k : Int} {t : S} : (if ¬ (k = 0) then some (.ret k) else some (.go t) : Option (Lr S B Int)) = some (if k = 0 then .go t else .ret k) := by
 by_cases hp : k = 0 <;> simp [hp]
theorem form_t (l : List CueD) (hl : okL okCue l) : t_cue_form l = some (formF l) := by
 unfold t_cue_form formF
 split
 ·rfl
 rw [forE_chkS (f := cueF l) (g := fun s c => IntKind.i64.wrap (s + (c.moves.length : Int))) hl.1 ?_]
 ·show (if chkE (cueF l) l 0 = 0 then some (if decide (10000 < manyF l) = true then (2 : Int) else 0) else some (chkE (cueF l) l 0)) = _
  by_cases h : chkE (cueF l) l 0 = 0
  ·by_cases h2 : 10000 < manyF l <;> simp [h, h2]
  ·simp [h]
 intro i c s hc
 obtain ⟨_, ht, _, _, _, _, _, _, hm⟩ := hl.2 c (List.mem_of_getElem? hc)
 simp only [prev_at hc hl.1, Option.bind_some, tq_pos ht, checkMoves_t _ hm, bind_ite2, guard_title]
 unfold cueF
 repeat first | exact ite_lastS | refine ite_retS (by decide) ?_ | refine ite_retvS ?_
theorem CheckForm5_t (l : List CueD) (hl : okL okCue l) : t_R5_CheckForm l = some (formF l) := by
 unfold t_R5_CheckForm formF
 split
 ·rfl
 rw [forE_chkS (f := cueF l) (g := fun s c => IntKind.i64.wrap (s + (c.moves.length : Int))) hl.1 ?_]
 ·show (if chkE (cueF l) l 0 = 0 then (if 10000 < manyF l then some (2 : Int) else some 0) else some (chkE (cueF l) l 0)) = _
  by_cases h : chkE (cueF l) l 0 = 0
  ·by_cases h2 : 10000 < manyF l <;> simp [h, h2]
  ·simp [h]
 intro i c s hc
 obtain ⟨_, ht, _, _, _, _, _, _, hm⟩ := hl.2 c (List.mem_of_getElem? hc)
 simp only [prev_at hc hl.1, Option.bind_some, tq_pos ht, checkMoves5_t _ hm, bind_ite2, guard_title]
 unfold cueF
 repeat first | exact ite_lastS | refine ite_retS (by decide) ?_ | refine ite_retvS ?_
end Go.Proofs.Ytphgchakmkankaa

namespace Go.Proofs.Ytphgchakmkankaa
set_option linter.unusedSectionVars false
set_option linter.unusedVariables false
set_option linter.unusedSimpArgs false
set_option maxRecDepth 100000
noncomputable def t_cue_place_fn1 (a0 : CueD) (a1 : Int) : Option Int :=
 some (IntKind.i64.wrap (a0.number - a1))
theorem h_cue_place_fn1 {a0 : CueD} { a1 : Int} {σ : Heap} {r : Int} (h : t_cue_place_fn1 a0 a1 = some r) : m_cue_place_fn1 [(AV.agg (cCue a0)), (AV.int .i64 a1)] σ = some ((AV.int .i64 r), σ) := by
 refine rf_wrap2 (f := r_cue_place_fn1) (y0 := (AV.agg (cCue a0))) (y1 := (AV.int .i64 a1)) (enc := fun r : Int => (AV.int .i64 r)) (T := t_cue_place_fn1 a0 a1) (nn_t1 (nn_a rfl) rfl) rfl ?_ r h
 unfold r_cue_place_fn1 t_cue_place_fn1
 refine rf_s (cCue a0) rfl ?_
 refine rf_s (AV.int .i64 a0.number) rfl ?_
 refine rf_s (AV.int .i64 (IntKind.i64.wrap (a0.number - a1))) rfl ?_
 exact rf_fin _ (fin_same _ _) ⟨rfl, rfl⟩

noncomputable def t_cue_wayFault (a0 : Int) : Option Int :=
 some (if ((decide (¬ (a0 = 1))) && (decide (¬ (a0 = 2)))) = true then 4 else 0)
theorem h_cue_wayFault {a0 : Int} {σ : Heap} {r : Int} (h : t_cue_wayFault a0 = some r) : m_cue_wayFault [(AV.int .i64 a0)] σ = some ((AV.int .i64 r), σ) := by
 refine rf_wrap1 (f := r_cue_wayFault) (y0 := (AV.int .i64 a0)) (enc := fun r : Int => (AV.int .i64 r)) (T := t_cue_wayFault a0) rfl rfl ?_ r h
 unfold r_cue_wayFault t_cue_wayFault
 refine rf_s (AV.bool (decide (¬ (a0 = 1)))) (aNe _ _ _) ?_
 refine rf_gt (AV.int .i64 a0) (fun hg => rfl) ?_
 refine rf_gt (AV.bool (decide (¬ (a0 = 2)))) (fun hg => by
   simp only [hg, Bool.true_and, cond_true]; first | done | exact (aNe _ _ _)) ?_
 refine rf_s (AV.bool ((decide (¬ (a0 = 1))) && (decide (¬ (a0 = 2))))) (pk_and _ _) ?_
 refine rf_s ((AV.int .i64 (if ((decide (¬ (a0 = 1))) && (decide (¬ (a0 = 2)))) = true then 4 else 0)), σ) (When_eq ((decide (¬ (a0 = 1))) && (decide (¬ (a0 = 2)))) 4 σ) ?_
 exact rf_fin _ (fin_same _ _) ⟨rfl, rfl⟩

noncomputable def t_cue_numberFault (a0 : Int) : Option Int :=
 some (if (!(withinB a0 1 9999999)) = true then 1 else 0)
theorem h_cue_numberFault {a0 : Int} {σ : Heap} {r : Int} (h : t_cue_numberFault a0 = some r) : m_cue_numberFault [(AV.int .i64 a0)] σ = some ((AV.int .i64 r), σ) := by
 refine rf_wrap1 (f := r_cue_numberFault) (y0 := (AV.int .i64 a0)) (enc := fun r : Int => (AV.int .i64 r)) (T := t_cue_numberFault a0) rfl rfl ?_ r h
 unfold r_cue_numberFault t_cue_numberFault
 refine rf_s ((AV.bool (withinB a0 1 9999999)), σ) (Within_eq a0 1 9999999 σ) ?_
 refine rf_s (AV.bool (!(withinB a0 1 9999999))) rfl ?_
 refine rf_s ((AV.int .i64 (if (!(withinB a0 1 9999999)) = true then 1 else 0)), σ) (When_eq (!(withinB a0 1 9999999)) 1 σ) ?_
 exact rf_fin _ (fin_same _ _) ⟨rfl, rfl⟩

noncomputable def t_cue_blocked (a0 : (List CueD)) (a1 : Int) : Option Int :=
 whE (fun (s1 : Int) => (show Option (Lr Int Unit Int) from
   if s1 < (a0.length : Int) then
    (tIx a0 s1).bind fun x7 =>
    if x7.block = true then
     some (.ret s1)
    else
    some (.go (IntKind.i64.wrap (s1 + 1)))
   else
   some (.brk ()))) a1 (fun b2 =>
  some (-1)) (fun b2 =>
  some b2)
theorem h_cue_blocked {a0 : (List CueD)} { a1 : Int} {σ : Heap} {r : Int} (h : t_cue_blocked a0 a1 = some r) : m_cue_blocked [(sl 11 cCue a0), (AV.int .i64 a1)] σ = some ((AV.int .i64 r), σ) := by
 refine rf_wrap2 (f := r_cue_blocked) (y0 := (sl 11 cCue a0)) (y1 := (AV.int .i64 a1)) (enc := fun r : Int => (AV.int .i64 r)) (T := t_cue_blocked a0 a1) (nn_t1 (nn_e (fun _ => rfl) _) rfl) rfl ?_ r h
 unfold r_cue_blocked t_cue_blocked
 refine rf_wh (B := Unit) (R := Int) (fun (s1 : Int) v w3 => v = [(AV.int .i64 0), (AV.int .i64 s1)] ∧ σ = w3) (fun (b2 : Unit) (q : LS) => ∃ u4 u5, q = ((AX.exit 0), ([u4, u5] : List AV), σ)) (fun (b2 : Int) (q : LS) => ∃ u5, q = (AX.ret, ([(AV.int .i64 b2), u5] : List AV), σ)) ?_ ⟨rfl, rfl⟩ ?_ ?_
 ·intro s1 v w3 hI
  obtain ⟨rfl, rfl⟩ := hI
  refine rf_s (AV.int .i64 (a0.length : Int)) (lenS_sl _ _ _) ?_
  refine rf_s (AV.bool (decide (s1 < (a0.length : Int)))) rfl ?_
  refine rf_c (p := s1 < (a0.length : Int)) (fun c9 => ?_) (fun c9 => ?_)
  ·refine rf_o (fun x7 : CueD => (AV.rp (cCue x7))) (fun x7 hx7 => ix_at hx7) (fun x7 hx7 => ?_)
   refine rf_s (AV.rp (List.drop 8 (cCue x7))) rfl ?_
   refine rf_s (AV.bool x7.block) rfl ?_
   refine rf_cb (c := x7.block) (fun c8 => ?_) (fun c8 => ?_)
   ·exact rf_ret (rnd_ret (by simp) ⟨_, rfl⟩)
   refine rf_s (AV.int .i64 (IntKind.i64.wrap (s1 + 1))) rfl ?_
   exact rf_ret (rnd_go ⟨rfl, rfl⟩)
  exact rf_ret (rnd_brk (by simp) ⟨_, _, rfl⟩)
 ·intro b2 q hq
  obtain ⟨u4, u5, rfl⟩ := hq
  refine rf_bt rfl ?_
  exact rf_fin _ (fin_same _ _) ⟨rfl, rfl⟩
 ·intro b2 q hq
  obtain ⟨u5, rfl⟩ := hq
  refine rf_bf rfl ?_
  refine rf_bt rfl ?_
  exact rf_fin _ (fin_same _ _) ⟨rfl, rfl⟩

noncomputable def t_cue_moveAt_fn1 (a0 : MoveD) (a1 : KeyD) : Option Int :=
 (t_cue_compare a0.key a1).bind fun r1 =>
 some r1
theorem h_cue_moveAt_fn1 {a0 : MoveD} { a1 : KeyD} {σ : Heap} {r : Int} (h : t_cue_moveAt_fn1 a0 a1 = some r) : m_cue_moveAt_fn1 [(AV.agg (cMove a0)), (AV.agg (cKey a1))] σ = some ((AV.int .i64 r), σ) := by
 refine rf_wrap2 (f := r_cue_moveAt_fn1) (y0 := (AV.agg (cMove a0))) (y1 := (AV.agg (cKey a1))) (enc := fun r : Int => (AV.int .i64 r)) (T := t_cue_moveAt_fn1 a0 a1) rfl rfl ?_ r h
 unfold r_cue_moveAt_fn1 t_cue_moveAt_fn1
 refine rf_s (cMove a0) rfl ?_
 refine rf_s (cKey a1) rfl ?_
 refine rf_s (AV.agg (cKey a0.key)) rfl ?_
 refine rf_s (AV.agg (cKey a1)) rfl ?_
 refine rf_o (fun r1 : Int => ((AV.int .i64 r1), σ)) (fun r1 hr1 => h_cue_compare hr1) (fun r1 hr1 => ?_)
 exact rf_fin _ (fin_same _ _) ⟨rfl, rfl⟩

noncomputable def t_cue_state (a0 : (List CueD)) : Option (List (KeyD × EntryD)) :=
 forE a0 (fun (i10 : Nat) e9 (s3 : (List (KeyD × EntryD))) => (show Option (Lr (List (KeyD × EntryD)) (List (KeyD × EntryD)) Unit) from
   forE e9.moves (fun (i18 : Nat) e17 (s11 : (List (KeyD × EntryD))) => (show Option (Lr (List (KeyD × EntryD)) (List (KeyD × EntryD)) Unit) from
     (show Option (List (KeyD × EntryD)) from
       if e17.release = true then
        some (tdel e17.key s11)
       else
       some (tupd e17.key (⟨(⟨e17.key.unit, e17.key.param⟩ : KeyD), (⟨e17.value.level, e17.value.preset⟩ : ValueD), e9.number⟩ : EntryD) s11)).bind fun j26 =>
     some (.go j26))) (fun s11 => some s11) s3 (fun b12 =>
    some (.go b12)) (fun b12 =>
    none))) (fun s3 => some s3) ([] : List (KeyD × EntryD)) (fun b4 =>
  some b4) (fun b4 =>
  none)
theorem h_cue_state {a0 : (List CueD)} {σ : Heap} {r : (List (KeyD × EntryD))} (h : t_cue_state a0 = some r) : m_cue_state [(sl 11 cCue a0)] σ = some ((fmE (fun x => (AV.agg (cKey x))) (fun x => (AV.agg (cEntry x))) r), σ) := by
 refine rf_wrap1 (f := r_cue_state) (y0 := (sl 11 cCue a0)) (enc := fun r : (List (KeyD × EntryD)) => (fmE (fun x => (AV.agg (cKey x))) (fun x => (AV.agg (cEntry x))) r)) (T := t_cue_state a0) (nn_t1 (nn_e (fun _ => rfl) _) rfl) rfl ?_ r h
 unfold r_cue_state t_cue_state
 have hp1 : Hp σ σ [] := hp_nil σ
 have hp2 : Hp σ (σ ++ [Blk.map []]) [((AV.om σ.length), (Ct.m (List.map (fun p => ((fun x => (AV.agg (cKey x))) p.1, (fun x => (AV.agg (cEntry x))) p.2)) ([] : List (KeyD × EntryD)))))] := hp_om hp1
 refine rf_s (AV.int .i64 (a0.length : Int)) (lenS_sl _ _ _) ?_
 refine rf_for (B := (List (KeyD × EntryD))) (R := Unit) (fun (i10 : Nat) (s3 : (List (KeyD × EntryD))) v w5 => v = [(AV.int .i64 (i10 : Int))] ∧ Hp σ w5 [((AV.om σ.length), (Ct.m (List.map (fun p => ((fun x => (AV.agg (cKey x))) p.1, (fun x => (AV.agg (cEntry x))) p.2)) s3)))]) (fun (b4 : (List (KeyD × EntryD))) (q : LS) => ∃ u11 w6, q = ((AX.exit 0), ([u11] : List AV), w6) ∧ Hp σ w6 [((AV.om σ.length), (Ct.m (List.map (fun p => ((fun x => (AV.agg (cKey x))) p.1, (fun x => (AV.agg (cEntry x))) p.2)) b4)))]) (fun (b4 : Unit) (q : LS) => False) ?_ ?_ ⟨rfl, hp2⟩ ?_ ?_
 ·intro hle9 i10 e9 s3 v w5 he9 hI
  obtain ⟨rfl, hp7⟩ := hI
  refine rf_s (AV.bool true) (ix_lt he9) ?_
  refine rf_ct ?_
  refine rf_s (AV.rp (cCue e9)) (ix_for he9) ?_
  refine rf_s (AV.agg (cCue e9)) rfl ?_
  refine rf_s (cCue e9) rfl ?_
  refine rf_s (cCue e9) (sp_cCue _ _ rfl) ?_
  refine rf_s (sl 8 cMove e9.moves) rfl ?_
  refine rf_s (AV.int .i64 (e9.moves.length : Int)) (lenS_sl _ _ _) ?_
  refine rf_for (B := (List (KeyD × EntryD))) (R := Unit) (fun (i18 : Nat) (s11 : (List (KeyD × EntryD))) v w13 => v = [(AV.lbx (cCue e9)), (AV.int .i64 (i18 : Int))] ∧ Hp σ w13 [((AV.om σ.length), (Ct.m (List.map (fun p => ((fun x => (AV.agg (cKey x))) p.1, (fun x => (AV.agg (cEntry x))) p.2)) s11)))]) (fun (b12 : (List (KeyD × EntryD))) (q : LS) => ∃ u5 u18 w14, q = ((AX.exit 2), ([u5, u18] : List AV), w14) ∧ Hp σ w14 [((AV.om σ.length), (Ct.m (List.map (fun p => ((fun x => (AV.agg (cKey x))) p.1, (fun x => (AV.agg (cEntry x))) p.2)) b12)))]) (fun (b12 : Unit) (q : LS) => False) ?_ ?_ ⟨rfl, hp7⟩ ?_ ?_
  ·intro hle17 i18 e17 s11 v w13 he17 hI
   obtain ⟨rfl, hp15⟩ := hI
   refine rf_s (AV.bool true) (ix_lt he17) ?_
   refine rf_ct ?_
   refine rf_s (AV.rp (cMove e17)) (ix_for he17) ?_
   refine rf_s (AV.agg (cMove e17)) rfl ?_
   refine rf_s (cMove e17) rfl ?_
   refine rf_s (cMove e17) (sp_cMove _ _ rfl) ?_
   refine rf_s (AV.bool e17.release) rfl ?_
   refine rf_b (ω := (List (KeyD × EntryD))) (fun j26 a => ∃ w27, a = (([(AV.lbx (cCue e9))] : List AV), w27) ∧ Hp σ w27 [((AV.om σ.length), (Ct.m (List.map (fun p => ((fun x => (AV.agg (cKey x))) p.1, (fun x => (AV.agg (cEntry x))) p.2)) j26)))]) (
     by
      refine rf_cb (c := e17.release) (fun c25 => ?_) (fun c25 => ?_)
      ·refine rf_s (AV.agg (cKey e17.key)) rfl ?_
       obtain ⟨w19, e21, hp20⟩ := hp_delT (ek := (.s [0, 2])) (eK := (fun x => (AV.agg (cKey x)))) (eV := (fun x => (AV.agg (cEntry x)))) hp15 0 rfl eqk_Key e17.key rfl
       change Hp σ w19 [((AV.om σ.length), (Ct.m (List.map (fun p => ((fun x => (AV.agg (cKey x))) p.1, (fun x => (AV.agg (cEntry x))) p.2)) (tdel e17.key s11))))] at hp20
       refine rf_s w19 e21 ?_
       exact rf_ret ⟨_, rfl, hp20⟩
      refine rf_s (AV.agg (cKey e17.key)) rfl ?_
      refine rf_s (AV.agg (cKey e17.key)) rfl ?_
      refine rf_s (AV.agg (cValue e17.value)) rfl ?_
      refine rf_s _ rfl ?_
      refine rf_s (AV.int .i64 e9.number) rfl ?_
      refine rf_s (AV.agg (cEntry (⟨(⟨e17.key.unit, e17.key.param⟩ : KeyD), (⟨e17.value.level, e17.value.preset⟩ : ValueD), e9.number⟩ : EntryD))) rfl ?_
      obtain ⟨w22, e24, hp23⟩ := hp_updT (ek := (.s [0, 2])) (eK := (fun x => (AV.agg (cKey x)))) (eV := (fun x => (AV.agg (cEntry x)))) hp15 0 rfl eqk_Key e17.key (⟨(⟨e17.key.unit, e17.key.param⟩ : KeyD), (⟨e17.value.level, e17.value.preset⟩ : ValueD), e9.number⟩ : EntryD) rfl
      change Hp σ w22 [((AV.om σ.length), (Ct.m (List.map (fun p => ((fun x => (AV.agg (cKey x))) p.1, (fun x => (AV.agg (cEntry x))) p.2)) (tupd e17.key (⟨(⟨e17.key.unit, e17.key.param⟩ : KeyD), (⟨e17.value.level, e17.value.preset⟩ : ValueD), e9.number⟩ : EntryD) s11))))] at hp23
      refine rf_s w22 e24 ?_
      exact rf_ret ⟨_, rfl, hp23⟩
     ) (fun j26 a ha => ?_)
   obtain ⟨w27, rfl, hp28⟩ := ha
   refine rf_s (AV.int .i64 ((i18 + 1 : Nat) : Int)) (ix_inc he17 hle17) ?_
   exact rf_ret (rnd_go ⟨rfl, hp28⟩)
  ·intro hl s11 v w13 hI
   obtain ⟨rfl, hp15⟩ := hI
   refine rf_s (AV.bool false) (ix_end _) ?_
   refine rf_cf ?_
   exact rf_ret ⟨by simp, ⟨_, _, _, rfl, hp15⟩⟩
  ·intro hl b12 q hq
   obtain ⟨u5, u18, w14, rfl, hp16⟩ := hq
   refine rf_bt rfl ?_
   refine rf_s (AV.int .i64 ((i10 + 1 : Nat) : Int)) (ix_inc he9 hle9) ?_
   exact rf_ret (rnd_go ⟨rfl, hp16⟩)
  ·intro hl b12 q hq
   exact False.elim hq
 ·intro hl s3 v w5 hI
  obtain ⟨rfl, hp7⟩ := hI
  refine rf_s (AV.bool false) (ix_end _) ?_
  refine rf_cf ?_
  exact rf_ret ⟨by simp, ⟨_, _, rfl, hp7⟩⟩
 ·intro hl b4 q hq
  obtain ⟨u11, w6, rfl, hp8⟩ := hq
  refine rf_bt rfl ?_
  exact rf_fin _ (hp_fin hp8 (fzv_om hp8 (k := 0) rfl (by intro p hp; obtain ⟨x, _, rfl⟩ := List.mem_map.1 hp; exact ⟨(fz_agg (fz_cKey _)), (fz_agg (fz_cEntry _))⟩))) ⟨rfl, rfl⟩
 ·intro hl b4 q hq
  exact False.elim hq

noncomputable def t_cue_move (a0 : (List (KeyD × EntryD))) (a1 : KeyD) : Option MoveD :=
 some (⟨(⟨a1.unit, a1.param⟩ : KeyD), (⟨(((tfind a1 a0).getD (⟨(⟨0, (⟨#[]⟩ : ByteArray)⟩ : KeyD), (⟨0, 0⟩ : ValueD), 0⟩ : EntryD)).value).level, (((tfind a1 a0).getD (⟨(⟨0, (⟨#[]⟩ : ByteArray)⟩ : KeyD), (⟨0, 0⟩ : ValueD), 0⟩ : EntryD)).value).preset⟩ : ValueD), (!((tfind a1 a0).isSome)), false, 0, 0⟩ : MoveD)
theorem h_cue_move {a0 : (List (KeyD × EntryD))} { a1 : KeyD} {σ : Heap} {r : MoveD} (h : t_cue_move a0 a1 = some r) : m_cue_move [(fmE (fun x => (AV.agg (cKey x))) (fun x => (AV.agg (cEntry x))) a0), (AV.agg (cKey a1))] σ = some ((AV.agg (cMove r)), σ) := by
 refine rf_wrap2 (f := r_cue_move) (y0 := (fmE (fun x => (AV.agg (cKey x))) (fun x => (AV.agg (cEntry x))) a0)) (y1 := (AV.agg (cKey a1))) (enc := fun r : MoveD => (AV.agg (cMove r))) (T := t_cue_move a0 a1) rfl rfl ?_ r h
 unfold r_cue_move t_cue_move
 refine rf_s (cKey a1) rfl ?_
 refine rf_s (AV.agg (cKey a1)) rfl ?_
 refine rf_s (AV.tup [(AV.agg (cEntry ((tfind a1 a0).getD (⟨(⟨0, (⟨#[]⟩ : ByteArray)⟩ : KeyD), (⟨0, 0⟩ : ValueD), 0⟩ : EntryD)))), (AV.bool (tfind a1 a0).isSome)]) (fm_lookOkT (ek := (.s [0, 2])) (eK := (fun x => (AV.agg (cKey x)))) (eV := (fun x => (AV.agg (cEntry x)))) eqk_Key a1 (⟨(⟨0, (⟨#[]⟩ : ByteArray)⟩ : KeyD), (⟨0, 0⟩ : ValueD), 0⟩ : EntryD) rfl) ?_
 refine rf_s (AV.agg (cEntry ((tfind a1 a0).getD (⟨(⟨0, (⟨#[]⟩ : ByteArray)⟩ : KeyD), (⟨0, 0⟩ : ValueD), 0⟩ : EntryD)))) rfl ?_
 refine rf_s (AV.bool (tfind a1 a0).isSome) rfl ?_
 refine rf_s (cEntry ((tfind a1 a0).getD (⟨(⟨0, (⟨#[]⟩ : ByteArray)⟩ : KeyD), (⟨0, 0⟩ : ValueD), 0⟩ : EntryD))) rfl ?_
 refine rf_s (cEntry ((tfind a1 a0).getD (⟨(⟨0, (⟨#[]⟩ : ByteArray)⟩ : KeyD), (⟨0, 0⟩ : ValueD), 0⟩ : EntryD))) (sp_cEntry _ _ rfl) ?_
 refine rf_s (AV.agg (cKey a1)) rfl ?_
 refine rf_s (AV.agg (cValue (((tfind a1 a0).getD (⟨(⟨0, (⟨#[]⟩ : ByteArray)⟩ : KeyD), (⟨0, 0⟩ : ValueD), 0⟩ : EntryD)).value))) rfl ?_
 refine rf_s (AV.bool (!((tfind a1 a0).isSome))) rfl ?_
 refine rf_s (AV.agg (cMove (⟨(⟨a1.unit, a1.param⟩ : KeyD), (⟨(((tfind a1 a0).getD (⟨(⟨0, (⟨#[]⟩ : ByteArray)⟩ : KeyD), (⟨0, 0⟩ : ValueD), 0⟩ : EntryD)).value).level, (((tfind a1 a0).getD (⟨(⟨0, (⟨#[]⟩ : ByteArray)⟩ : KeyD), (⟨0, 0⟩ : ValueD), 0⟩ : EntryD)).value).preset⟩ : ValueD), (!((tfind a1 a0).isSome)), false, 0, 0⟩ : MoveD))) rfl ?_
 refine rf_s (cMove (⟨(⟨a1.unit, a1.param⟩ : KeyD), (⟨(((tfind a1 a0).getD (⟨(⟨0, (⟨#[]⟩ : ByteArray)⟩ : KeyD), (⟨0, 0⟩ : ValueD), 0⟩ : EntryD)).value).level, (((tfind a1 a0).getD (⟨(⟨0, (⟨#[]⟩ : ByteArray)⟩ : KeyD), (⟨0, 0⟩ : ValueD), 0⟩ : EntryD)).value).preset⟩ : ValueD), (!((tfind a1 a0).isSome)), false, 0, 0⟩ : MoveD)) rfl ?_
 refine rf_s (cMove (⟨(⟨a1.unit, a1.param⟩ : KeyD), (⟨(((tfind a1 a0).getD (⟨(⟨0, (⟨#[]⟩ : ByteArray)⟩ : KeyD), (⟨0, 0⟩ : ValueD), 0⟩ : EntryD)).value).level, (((tfind a1 a0).getD (⟨(⟨0, (⟨#[]⟩ : ByteArray)⟩ : KeyD), (⟨0, 0⟩ : ValueD), 0⟩ : EntryD)).value).preset⟩ : ValueD), (!((tfind a1 a0).isSome)), false, 0, 0⟩ : MoveD)) (sp_cMove _ _ rfl) ?_
 refine rf_s (AV.agg (cMove (⟨(⟨a1.unit, a1.param⟩ : KeyD), (⟨(((tfind a1 a0).getD (⟨(⟨0, (⟨#[]⟩ : ByteArray)⟩ : KeyD), (⟨0, 0⟩ : ValueD), 0⟩ : EntryD)).value).level, (((tfind a1 a0).getD (⟨(⟨0, (⟨#[]⟩ : ByteArray)⟩ : KeyD), (⟨0, 0⟩ : ValueD), 0⟩ : EntryD)).value).preset⟩ : ValueD), (!((tfind a1 a0).isSome)), false, 0, 0⟩ : MoveD))) rfl ?_
 exact rf_fin _ (fin_same _ _) ⟨rfl, rfl⟩

noncomputable def t_R5_At (a0 : (List CueD)) (a1 : Int) : Option Int :=
 forE a0 (fun (i8 : Nat) e7 (s1 : Unit) => (show Option (Lr Unit Unit Int) from
   if e7.number = a1 then
    some (.ret (i8 : Int))
   else
   some (.go ()))) (fun s1 => some ()) () (fun b2 =>
  some (-1)) (fun b2 =>
  some b2)
theorem h_R5_At {a0 : (List CueD)} { a1 : Int} {σ : Heap} {r : Int} (h : t_R5_At a0 a1 = some r) : m_R5_At [(sl 11 cCue a0), (AV.int .i64 a1)] σ = some ((AV.int .i64 r), σ) := by
 refine rf_wrap2 (f := r_R5_At) (y0 := (sl 11 cCue a0)) (y1 := (AV.int .i64 a1)) (enc := fun r : Int => (AV.int .i64 r)) (T := t_R5_At a0 a1) (nn_t1 (nn_e (fun _ => rfl) _) rfl) rfl ?_ r h
 unfold r_R5_At t_R5_At
 refine rf_s (AV.int .i64 (a0.length : Int)) (lenS_sl _ _ _) ?_
 refine rf_for (B := Unit) (R := Int) (fun (i8 : Nat) (s1 : Unit) v w3 => v = [(AV.int .i64 0), (AV.int .i64 (i8 : Int))] ∧ σ = w3) (fun (b2 : Unit) (q : LS) => ∃ u4 u9, q = ((AX.exit 0), ([u4, u9] : List AV), σ)) (fun (b2 : Int) (q : LS) => ∃ u9, q = (AX.ret, ([(AV.int .i64 b2), u9] : List AV), σ)) ?_ ?_ ⟨rfl, rfl⟩ ?_ ?_
 ·intro hle7 i8 e7 s1 v w3 he7 hI
  obtain ⟨rfl, rfl⟩ := hI
  refine rf_s (AV.bool true) (ix_lt he7) ?_
  refine rf_ct ?_
  refine rf_s (AV.rp (cCue e7)) (ix_for he7) ?_
  refine rf_s (AV.agg (cCue e7)) rfl ?_
  refine rf_s (cCue e7) rfl ?_
  refine rf_s (cCue e7) (sp_cCue _ _ rfl) ?_
  refine rf_s (AV.int .i64 e7.number) rfl ?_
  refine rf_s (AV.bool (decide (e7.number = a1))) (aEq _ _ _) ?_
  refine rf_c (p := e7.number = a1) (fun c9 => ?_) (fun c9 => ?_)
  ·exact rf_ret (rnd_ret (by simp) ⟨_, rfl⟩)
  refine rf_s (AV.int .i64 ((i8 + 1 : Nat) : Int)) (ix_inc he7 hle7) ?_
  exact rf_ret (rnd_go ⟨rfl, rfl⟩)
 ·intro hl s1 v w3 hI
  obtain ⟨rfl, rfl⟩ := hI
  refine rf_s (AV.bool false) (ix_end _) ?_
  refine rf_cf ?_
  exact rf_ret ⟨by simp, ⟨_, _, rfl⟩⟩
 ·intro hl b2 q hq
  obtain ⟨u4, u9, rfl⟩ := hq
  refine rf_bt rfl ?_
  exact rf_fin _ (fin_same _ _) ⟨rfl, rfl⟩
 ·intro hl b2 q hq
  obtain ⟨u9, rfl⟩ := hq
  refine rf_bf rfl ?_
  refine rf_bt rfl ?_
  exact rf_fin _ (fin_same _ _) ⟨rfl, rfl⟩

noncomputable def t_R5_place (a0 : (List EntryD)) (a1 : KeyD) : Option (Int × Bool) :=
 whE (fun (s1 : Int) => (show Option (Lr Int Int Unit) from
   (if decide (s1 < (a0.length : Int)) = true then tIx a0 s1 else some default).bind fun x7 =>
   if ((decide (s1 < (a0.length : Int))) && (((decide (x7.key.unit < a1.unit)) || ((decide (x7.key.unit = a1.unit)) && (Op.bytesLess x7.key.param.toList a1.param.toList))))) = true then
    some (.go (IntKind.i64.wrap (s1 + 1)))
   else
   some (.brk s1))) 0 (fun b2 =>
  (if decide (b2 < (a0.length : Int)) = true then tIx a0 b2 else some default).bind fun x9 =>
  some (b2, ((decide (b2 < (a0.length : Int))) && (decide (x9.key = a1))))) (fun b2 =>
  none)
theorem h_R5_place {a0 : (List EntryD)} { a1 : KeyD} {σ : Heap} {r : (Int × Bool)} (h : t_R5_place a0 a1 = some r) : m_R5_place [(sl 5 cEntry a0), (AV.agg (cKey a1))] σ = some ((AV.tup [(AV.int .i64 r.1), (AV.bool r.2)]), σ) := by
 refine rf_wrap2 (f := r_R5_place) (y0 := (sl 5 cEntry a0)) (y1 := (AV.agg (cKey a1))) (enc := fun r : (Int × Bool) => (AV.tup [(AV.int .i64 r.1), (AV.bool r.2)])) (T := t_R5_place a0 a1) rfl rfl ?_ r h
 unfold r_R5_place t_R5_place
 refine rf_s (cKey a1) rfl ?_
 refine rf_wh (B := Int) (R := Unit) (fun (s1 : Int) v w3 => v = [(AV.lbx (cKey a1)), (AV.int .i64 s1)] ∧ σ = w3) (fun (b2 : Int) (q : LS) => q = ((AX.exit 0), ([(AV.lbx (cKey a1)), (AV.int .i64 b2)] : List AV), σ)) (fun (b2 : Unit) (q : LS) => False) ?_ ⟨rfl, rfl⟩ ?_ ?_
 ·intro s1 v w3 hI
  obtain ⟨rfl, rfl⟩ := hI
  refine rf_s (AV.int .i64 (a0.length : Int)) (lenS_sl _ _ _) ?_
  refine rf_s (AV.bool (decide (s1 < (a0.length : Int)))) rfl ?_
  refine rf_gt (sl 5 cEntry a0) (fun hg => rfl) ?_
  refine rf_gt (AV.int .i64 s1) (fun hg => rfl) ?_
  refine rf_gto (ω := EntryD) (fun x7 => (AV.rp (cEntry x7))) (fun hg x7 hx7 => by
    simp only [hg, Bool.true_and, cond_true]; first | done | exact ix_at hx7) (fun x7 hx7 => ?_)
  refine rf_gt (AV.rp (cEntry x7)) (fun hg => by
    simp only [hg, Bool.true_and, cond_true]; first | done | exact rfl) ?_
  refine rf_gt (AV.agg (cKey x7.key)) (fun hg => by
    simp only [hg, Bool.true_and, cond_true]; first | done | exact rfl) ?_
  refine rf_gt (AV.agg (cKey a1)) (fun hg => rfl) ?_
  refine rf_gt (AV.bool (((decide (x7.key.unit < a1.unit)) || ((decide (x7.key.unit = a1.unit)) && (Op.bytesLess x7.key.param.toList a1.param.toList))))) (fun hg => by
    simp only [hg, Bool.true_and, cond_true]; first | done | exact (quiet_of (h_R4_Before (σ := σ) (r := ((decide (x7.key.unit < a1.unit)) || ((decide (x7.key.unit = a1.unit)) && (Op.bytesLess x7.key.param.toList a1.param.toList)))) rfl))) ?_
  refine rf_s (AV.bool ((decide (s1 < (a0.length : Int))) && (((decide (x7.key.unit < a1.unit)) || ((decide (x7.key.unit = a1.unit)) && (Op.bytesLess x7.key.param.toList a1.param.toList)))))) (pk_and _ _) ?_
  refine rf_cb (c := ((decide (s1 < (a0.length : Int))) && (((decide (x7.key.unit < a1.unit)) || ((decide (x7.key.unit = a1.unit)) && (Op.bytesLess x7.key.param.toList a1.param.toList)))))) (fun c8 => ?_) (fun c8 => ?_)
  ·refine rf_s (AV.int .i64 (IntKind.i64.wrap (s1 + 1))) rfl ?_
   exact rf_ret (rnd_go ⟨rfl, rfl⟩)
  exact rf_ret (rnd_brk (by simp) rfl)
 ·intro b2 q hq
  subst hq
  refine rf_bt rfl ?_
  refine rf_s (AV.int .i64 (a0.length : Int)) (lenS_sl _ _ _) ?_
  refine rf_s (AV.bool (decide (b2 < (a0.length : Int)))) rfl ?_
  refine rf_gt (sl 5 cEntry a0) (fun hg => rfl) ?_
  refine rf_gt (AV.int .i64 b2) (fun hg => rfl) ?_
  refine rf_gto (ω := EntryD) (fun x9 => (AV.rp (cEntry x9))) (fun hg x9 hx9 => by
    simp only [hg, Bool.true_and, cond_true]; first | done | exact ix_at hx9) (fun x9 hx9 => ?_)
  refine rf_gt (AV.rp (cEntry x9)) (fun hg => by
    simp only [hg, Bool.true_and, cond_true]; first | done | exact rfl) ?_
  refine rf_gt (AV.agg (cKey x9.key)) (fun hg => by
    simp only [hg, Bool.true_and, cond_true]; first | done | exact rfl) ?_
  refine rf_gt (AV.agg (cKey a1)) (fun hg => rfl) ?_
  refine rf_gt (AV.bool (decide (x9.key = a1))) (fun hg => by
    simp only [hg, Bool.true_and, cond_true]; first | done | exact (eq_Key _ _)) ?_
  refine rf_s (AV.bool ((decide (b2 < (a0.length : Int))) && (decide (x9.key = a1)))) (pk_and _ _) ?_
  exact rf_fin _ (fin_same _ _) ⟨rfl, rfl⟩
 ·intro b2 q hq
  exact False.elim hq

noncomputable def t_R5_moveOf (a0 : (List MoveD)) (a1 : KeyD) : Option (Int × Bool) :=
 whE (fun (s1 : Int) => (show Option (Lr Int Int Unit) from
   (if decide (s1 < (a0.length : Int)) = true then tIx a0 s1 else some default).bind fun x7 =>
   if ((decide (s1 < (a0.length : Int))) && (((decide (x7.key.unit < a1.unit)) || ((decide (x7.key.unit = a1.unit)) && (Op.bytesLess x7.key.param.toList a1.param.toList))))) = true then
    some (.go (IntKind.i64.wrap (s1 + 1)))
   else
   some (.brk s1))) 0 (fun b2 =>
  (if decide (b2 < (a0.length : Int)) = true then tIx a0 b2 else some default).bind fun x9 =>
  some (b2, ((decide (b2 < (a0.length : Int))) && (decide (x9.key = a1))))) (fun b2 =>
  none)
theorem h_R5_moveOf {a0 : (List MoveD)} { a1 : KeyD} {σ : Heap} {r : (Int × Bool)} (h : t_R5_moveOf a0 a1 = some r) : m_R5_moveOf [(sl 8 cMove a0), (AV.agg (cKey a1))] σ = some ((AV.tup [(AV.int .i64 r.1), (AV.bool r.2)]), σ) := by
 refine rf_wrap2 (f := r_R5_moveOf) (y0 := (sl 8 cMove a0)) (y1 := (AV.agg (cKey a1))) (enc := fun r : (Int × Bool) => (AV.tup [(AV.int .i64 r.1), (AV.bool r.2)])) (T := t_R5_moveOf a0 a1) rfl rfl ?_ r h
 unfold r_R5_moveOf t_R5_moveOf
 refine rf_s (cKey a1) rfl ?_
 refine rf_wh (B := Int) (R := Unit) (fun (s1 : Int) v w3 => v = [(AV.lbx (cKey a1)), (AV.int .i64 s1)] ∧ σ = w3) (fun (b2 : Int) (q : LS) => q = ((AX.exit 0), ([(AV.lbx (cKey a1)), (AV.int .i64 b2)] : List AV), σ)) (fun (b2 : Unit) (q : LS) => False) ?_ ⟨rfl, rfl⟩ ?_ ?_
 ·intro s1 v w3 hI
  obtain ⟨rfl, rfl⟩ := hI
  refine rf_s (AV.int .i64 (a0.length : Int)) (lenS_sl _ _ _) ?_
  refine rf_s (AV.bool (decide (s1 < (a0.length : Int)))) rfl ?_
  refine rf_gt (sl 8 cMove a0) (fun hg => rfl) ?_
  refine rf_gt (AV.int .i64 s1) (fun hg => rfl) ?_
  refine rf_gto (ω := MoveD) (fun x7 => (AV.rp (cMove x7))) (fun hg x7 hx7 => by
    simp only [hg, Bool.true_and, cond_true]; first | done | exact ix_at hx7) (fun x7 hx7 => ?_)
  refine rf_gt (AV.rp (cMove x7)) (fun hg => by
    simp only [hg, Bool.true_and, cond_true]; first | done | exact rfl) ?_
  refine rf_gt (AV.agg (cKey x7.key)) (fun hg => by
    simp only [hg, Bool.true_and, cond_true]; first | done | exact rfl) ?_
  refine rf_gt (AV.agg (cKey a1)) (fun hg => rfl) ?_
  refine rf_gt (AV.bool (((decide (x7.key.unit < a1.unit)) || ((decide (x7.key.unit = a1.unit)) && (Op.bytesLess x7.key.param.toList a1.param.toList))))) (fun hg => by
    simp only [hg, Bool.true_and, cond_true]; first | done | exact (quiet_of (h_R4_Before (σ := σ) (r := ((decide (x7.key.unit < a1.unit)) || ((decide (x7.key.unit = a1.unit)) && (Op.bytesLess x7.key.param.toList a1.param.toList)))) rfl))) ?_
  refine rf_s (AV.bool ((decide (s1 < (a0.length : Int))) && (((decide (x7.key.unit < a1.unit)) || ((decide (x7.key.unit = a1.unit)) && (Op.bytesLess x7.key.param.toList a1.param.toList)))))) (pk_and _ _) ?_
  refine rf_cb (c := ((decide (s1 < (a0.length : Int))) && (((decide (x7.key.unit < a1.unit)) || ((decide (x7.key.unit = a1.unit)) && (Op.bytesLess x7.key.param.toList a1.param.toList)))))) (fun c8 => ?_) (fun c8 => ?_)
  ·refine rf_s (AV.int .i64 (IntKind.i64.wrap (s1 + 1))) rfl ?_
   exact rf_ret (rnd_go ⟨rfl, rfl⟩)
  exact rf_ret (rnd_brk (by simp) rfl)
 ·intro b2 q hq
  subst hq
  refine rf_bt rfl ?_
  refine rf_s (AV.int .i64 (a0.length : Int)) (lenS_sl _ _ _) ?_
  refine rf_s (AV.bool (decide (b2 < (a0.length : Int)))) rfl ?_
  refine rf_gt (sl 8 cMove a0) (fun hg => rfl) ?_
  refine rf_gt (AV.int .i64 b2) (fun hg => rfl) ?_
  refine rf_gto (ω := MoveD) (fun x9 => (AV.rp (cMove x9))) (fun hg x9 hx9 => by
    simp only [hg, Bool.true_and, cond_true]; first | done | exact ix_at hx9) (fun x9 hx9 => ?_)
  refine rf_gt (AV.rp (cMove x9)) (fun hg => by
    simp only [hg, Bool.true_and, cond_true]; first | done | exact rfl) ?_
  refine rf_gt (AV.agg (cKey x9.key)) (fun hg => by
    simp only [hg, Bool.true_and, cond_true]; first | done | exact rfl) ?_
  refine rf_gt (AV.agg (cKey a1)) (fun hg => rfl) ?_
  refine rf_gt (AV.bool (decide (x9.key = a1))) (fun hg => by
    simp only [hg, Bool.true_and, cond_true]; first | done | exact (eq_Key _ _)) ?_
  refine rf_s (AV.bool ((decide (b2 < (a0.length : Int))) && (decide (x9.key = a1)))) (pk_and _ _) ?_
  exact rf_fin _ (fin_same _ _) ⟨rfl, rfl⟩
 ·intro b2 q hq
  exact False.elim hq

noncomputable def t_R5_blocked (a0 : (List CueD)) (a1 : Int) (a2 : KeyD) : Option Int :=
 whE (fun (s1 : Int) => (show Option (Lr Int Unit Int) from
   if s1 < (a0.length : Int) then
    (tIx a0 s1).bind fun x7 =>
    (t_R5_moveOf x7.moves a2).bind fun r8 =>
    if r8.2 = true then
     some (.ret (-1))
    else
    (tIx a0 s1).bind fun x9 =>
    if x9.block = true then
     some (.ret s1)
    else
    some (.go (IntKind.i64.wrap (s1 + 1)))
   else
   some (.brk ()))) a1 (fun b2 =>
  some (-1)) (fun b2 =>
  some b2)
theorem h_R5_blocked {a0 : (List CueD)} { a1 : Int} { a2 : KeyD} {σ : Heap} {r : Int} (h : t_R5_blocked a0 a1 a2 = some r) : m_R5_blocked [(sl 11 cCue a0), (AV.int .i64 a1), (AV.agg (cKey a2))] σ = some ((AV.int .i64 r), σ) := by
 refine rf_wrap3 (f := r_R5_blocked) (y0 := (sl 11 cCue a0)) (y1 := (AV.int .i64 a1)) (y2 := (AV.agg (cKey a2))) (enc := fun r : Int => (AV.int .i64 r)) (T := t_R5_blocked a0 a1 a2) (nn_t1 (nn_e (fun _ => rfl) _) rfl) rfl ?_ r h
 unfold r_R5_blocked t_R5_blocked
 refine rf_s (cKey a2) rfl ?_
 refine rf_wh (B := Unit) (R := Int) (fun (s1 : Int) v w3 => v = [(AV.lbx (cKey a2)), (AV.int .i64 0), (AV.int .i64 s1)] ∧ σ = w3) (fun (b2 : Unit) (q : LS) => ∃ u5 u6 u7, q = ((AX.exit 0), ([u5, u6, u7] : List AV), σ)) (fun (b2 : Int) (q : LS) => ∃ u5 u7, q = (AX.ret, ([u5, (AV.int .i64 b2), u7] : List AV), σ)) ?_ ⟨rfl, rfl⟩ ?_ ?_
 ·intro s1 v w3 hI
  obtain ⟨rfl, rfl⟩ := hI
  refine rf_s (AV.int .i64 (a0.length : Int)) (lenS_sl _ _ _) ?_
  refine rf_s (AV.bool (decide (s1 < (a0.length : Int)))) rfl ?_
  refine rf_c (p := s1 < (a0.length : Int)) (fun c12 => ?_) (fun c12 => ?_)
  ·refine rf_o (fun x7 : CueD => (AV.rp (cCue x7))) (fun x7 hx7 => ix_at hx7) (fun x7 hx7 => ?_)
   refine rf_s (AV.rp (List.drop 10 (cCue x7))) rfl ?_
   refine rf_s (sl 8 cMove x7.moves) rfl ?_
   refine rf_s (AV.agg (cKey a2)) rfl ?_
   refine rf_o (fun r8 : (Int × Bool) => (AV.tup [(AV.int .i64 r8.1), (AV.bool r8.2)])) (fun r8 hr8 => (quiet_of (h_R5_moveOf hr8))) (fun r8 hr8 => ?_)
   refine rf_s (AV.int .i64 r8.1) rfl ?_
   refine rf_s (AV.bool r8.2) rfl ?_
   refine rf_cb (c := r8.2) (fun c11 => ?_) (fun c11 => ?_)
   ·exact rf_ret (rnd_ret (by simp) ⟨_, _, rfl⟩)
   refine rf_o (fun x9 : CueD => (AV.rp (cCue x9))) (fun x9 hx9 => ix_at hx9) (fun x9 hx9 => ?_)
   refine rf_s (AV.rp (List.drop 8 (cCue x9))) rfl ?_
   refine rf_s (AV.bool x9.block) rfl ?_
   refine rf_cb (c := x9.block) (fun c10 => ?_) (fun c10 => ?_)
   ·exact rf_ret (rnd_ret (by simp) ⟨_, _, rfl⟩)
   refine rf_s (AV.int .i64 (IntKind.i64.wrap (s1 + 1))) rfl ?_
   exact rf_ret (rnd_go ⟨rfl, rfl⟩)
  exact rf_ret (rnd_brk (by simp) ⟨_, _, _, rfl⟩)
 ·intro b2 q hq
  obtain ⟨u5, u6, u7, rfl⟩ := hq
  refine rf_bt rfl ?_
  exact rf_fin _ (fin_same _ _) ⟨rfl, rfl⟩
 ·intro b2 q hq
  obtain ⟨u5, u7, rfl⟩ := hq
  refine rf_bf rfl ?_
  refine rf_bt rfl ?_
  exact rf_fin _ (fin_same _ _) ⟨rfl, rfl⟩

noncomputable def t_R5_valued (a0 : (List EntryD)) (a1 : KeyD) : Option MoveD :=
 (t_R5_place a0 a1).bind fun r1 =>
 if r1.2 = true then
  (tIx a0 r1.1).bind fun x2 =>
  some (⟨(⟨a1.unit, a1.param⟩ : KeyD), (⟨x2.value.level, x2.value.preset⟩ : ValueD), false, false, 0, 0⟩ : MoveD)
 else
 some (⟨(⟨a1.unit, a1.param⟩ : KeyD), (⟨0, 0⟩ : ValueD), true, false, 0, 0⟩ : MoveD)
theorem h_R5_valued {a0 : (List EntryD)} { a1 : KeyD} {σ : Heap} {r : MoveD} (h : t_R5_valued a0 a1 = some r) : m_R5_valued [(sl 5 cEntry a0), (AV.agg (cKey a1))] σ = some ((AV.agg (cMove r)), σ) := by
 refine rf_wrap2 (f := r_R5_valued) (y0 := (sl 5 cEntry a0)) (y1 := (AV.agg (cKey a1))) (enc := fun r : MoveD => (AV.agg (cMove r))) (T := t_R5_valued a0 a1) rfl rfl ?_ r h
 unfold r_R5_valued t_R5_valued
 refine rf_s (cKey a1) rfl ?_
 refine rf_s (AV.agg (cKey a1)) rfl ?_
 refine rf_o (fun r1 : (Int × Bool) => ((AV.tup [(AV.int .i64 r1.1), (AV.bool r1.2)]), σ)) (fun r1 hr1 => h_R5_place hr1) (fun r1 hr1 => ?_)
 refine rf_s (AV.int .i64 r1.1) rfl ?_
 refine rf_s (AV.bool r1.2) rfl ?_
 refine rf_cb (c := r1.2) (fun c3 => ?_) (fun c3 => ?_)
 ·refine rf_s (AV.agg (cKey a1)) rfl ?_
  refine rf_o (fun x2 : EntryD => (AV.rp (cEntry x2))) (fun x2 hx2 => ix_at hx2) (fun x2 hx2 => ?_)
  refine rf_s (AV.rp (List.drop 2 (cEntry x2))) rfl ?_
  refine rf_s (AV.agg (cValue x2.value)) rfl ?_
  refine rf_s (AV.agg (cMove (⟨(⟨a1.unit, a1.param⟩ : KeyD), (⟨x2.value.level, x2.value.preset⟩ : ValueD), false, false, 0, 0⟩ : MoveD))) rfl ?_
  refine rf_s (cMove (⟨(⟨a1.unit, a1.param⟩ : KeyD), (⟨x2.value.level, x2.value.preset⟩ : ValueD), false, false, 0, 0⟩ : MoveD)) rfl ?_
  refine rf_s (cMove (⟨(⟨a1.unit, a1.param⟩ : KeyD), (⟨x2.value.level, x2.value.preset⟩ : ValueD), false, false, 0, 0⟩ : MoveD)) (sp_cMove _ _ rfl) ?_
  refine rf_s (AV.agg (cMove (⟨(⟨a1.unit, a1.param⟩ : KeyD), (⟨x2.value.level, x2.value.preset⟩ : ValueD), false, false, 0, 0⟩ : MoveD))) rfl ?_
  exact rf_fin _ (fin_same _ _) ⟨rfl, rfl⟩
 refine rf_s (AV.agg (cKey a1)) rfl ?_
 refine rf_s (AV.agg (cMove (⟨(⟨a1.unit, a1.param⟩ : KeyD), (⟨0, 0⟩ : ValueD), true, false, 0, 0⟩ : MoveD))) rfl ?_
 refine rf_s (cMove (⟨(⟨a1.unit, a1.param⟩ : KeyD), (⟨0, 0⟩ : ValueD), true, false, 0, 0⟩ : MoveD)) rfl ?_
 refine rf_s (cMove (⟨(⟨a1.unit, a1.param⟩ : KeyD), (⟨0, 0⟩ : ValueD), true, false, 0, 0⟩ : MoveD)) (sp_cMove _ _ rfl) ?_
 refine rf_s (AV.agg (cMove (⟨(⟨a1.unit, a1.param⟩ : KeyD), (⟨0, 0⟩ : ValueD), true, false, 0, 0⟩ : MoveD))) rfl ?_
 exact rf_fin _ (fin_same _ _) ⟨rfl, rfl⟩

noncomputable def t_slices_Equal_api_Point (a0 : (List PointD)) (a1 : (List PointD)) : Option Bool :=
 if ¬ ((a0.length : Int) = (a1.length : Int)) then
  some false
 else
 forE a0 (fun (i8 : Nat) e7 (s1 : Unit) => (show Option (Lr Unit Unit Unit) from
   (tIx a1 (i8 : Int)).bind fun x9 =>
   if ¬ (e7 = x9) then
    some (.ret ())
   else
   some (.go ()))) (fun s1 => some ()) () (fun b2 =>
  some true) (fun b2 =>
  some false)
theorem h_slices_Equal_api_Point {a0 : (List PointD)} { a1 : (List PointD)} {σ : Heap} {r : Bool} (h : t_slices_Equal_api_Point a0 a1 = some r) : m_slices_Equal_api_Point [(sl 2 cPoint a0), (sl 2 cPoint a1)] σ = some ((AV.bool r), σ) := by
 refine rf_wrap2 (f := r_slices_Equal_api_Point) (y0 := (sl 2 cPoint a0)) (y1 := (sl 2 cPoint a1)) (enc := fun r : Bool => (AV.bool r)) (T := t_slices_Equal_api_Point a0 a1) rfl rfl ?_ r h
 unfold r_slices_Equal_api_Point t_slices_Equal_api_Point
 refine rf_s (AV.int .i64 (a0.length : Int)) (lenS_sl _ _ _) ?_
 refine rf_s (AV.int .i64 (a1.length : Int)) (lenS_sl _ _ _) ?_
 refine rf_s (AV.bool (decide (¬ ((a0.length : Int) = (a1.length : Int))))) (aNe _ _ _) ?_
 refine rf_c (p := ¬ ((a0.length : Int) = (a1.length : Int))) (fun c11 => ?_) (fun c11 => ?_)
 ·exact rf_fin _ (fin_same _ _) ⟨rfl, rfl⟩
 refine rf_s (AV.int .i64 (a0.length : Int)) (lenS_sl _ _ _) ?_
 refine rf_for (B := Unit) (R := Unit) (fun (i8 : Nat) (s1 : Unit) v w3 => v = [(AV.bool false), (AV.int .i64 (i8 : Int))] ∧ σ = w3) (fun (b2 : Unit) (q : LS) => ∃ u4 u13, q = ((AX.exit 0), ([u4, u13] : List AV), σ)) (fun (b2 : Unit) (q : LS) => ∃ u13, q = (AX.ret, ([(AV.bool false), u13] : List AV), σ)) ?_ ?_ ⟨rfl, rfl⟩ ?_ ?_
 ·intro hle7 i8 e7 s1 v w3 he7 hI
  obtain ⟨rfl, rfl⟩ := hI
  refine rf_s (AV.bool true) (ix_lt he7) ?_
  refine rf_ct ?_
  refine rf_s (AV.rp (cPoint e7)) (ix_for he7) ?_
  refine rf_s (AV.agg (cPoint e7)) rfl ?_
  refine rf_o (fun x9 : PointD => (AV.rp (cPoint x9))) (fun x9 hx9 => ix_at hx9) (fun x9 hx9 => ?_)
  refine rf_s (AV.agg (cPoint x9)) rfl ?_
  refine rf_s (AV.bool (decide (¬ (e7 = x9)))) (ne_Point _ _) ?_
  refine rf_c (p := ¬ (e7 = x9)) (fun c10 => ?_) (fun c10 => ?_)
  ·exact rf_ret (rnd_ret (by simp) ⟨_, rfl⟩)
  refine rf_s (AV.int .i64 ((i8 + 1 : Nat) : Int)) (ix_inc he7 hle7) ?_
  exact rf_ret (rnd_go ⟨rfl, rfl⟩)
 ·intro hl s1 v w3 hI
  obtain ⟨rfl, rfl⟩ := hI
  refine rf_s (AV.bool false) (ix_end _) ?_
  refine rf_cf ?_
  exact rf_ret ⟨by simp, ⟨_, _, rfl⟩⟩
 ·intro hl b2 q hq
  obtain ⟨u4, u13, rfl⟩ := hq
  refine rf_bt rfl ?_
  exact rf_fin _ (fin_same _ _) ⟨rfl, rfl⟩
 ·intro hl b2 q hq
  obtain ⟨u13, rfl⟩ := hq
  refine rf_bf rfl ?_
  refine rf_bt rfl ?_
  exact rf_fin _ (fin_same _ _) ⟨rfl, rfl⟩

noncomputable def t_slices_Equal_api_Move (a0 : (List MoveD)) (a1 : (List MoveD)) : Option Bool :=
 if ¬ ((a0.length : Int) = (a1.length : Int)) then
  some false
 else
 forE a0 (fun (i8 : Nat) e7 (s1 : Unit) => (show Option (Lr Unit Unit Unit) from
   (tIx a1 (i8 : Int)).bind fun x9 =>
   if ¬ (e7 = x9) then
    some (.ret ())
   else
   some (.go ()))) (fun s1 => some ()) () (fun b2 =>
  some true) (fun b2 =>
  some false)
theorem h_slices_Equal_api_Move {a0 : (List MoveD)} { a1 : (List MoveD)} {σ : Heap} {r : Bool} (h : t_slices_Equal_api_Move a0 a1 = some r) : m_slices_Equal_api_Move [(sl 8 cMove a0), (sl 8 cMove a1)] σ = some ((AV.bool r), σ) := by
 refine rf_wrap2 (f := r_slices_Equal_api_Move) (y0 := (sl 8 cMove a0)) (y1 := (sl 8 cMove a1)) (enc := fun r : Bool => (AV.bool r)) (T := t_slices_Equal_api_Move a0 a1) rfl rfl ?_ r h
 unfold r_slices_Equal_api_Move t_slices_Equal_api_Move
 refine rf_s (AV.int .i64 (a0.length : Int)) (lenS_sl _ _ _) ?_
 refine rf_s (AV.int .i64 (a1.length : Int)) (lenS_sl _ _ _) ?_
 refine rf_s (AV.bool (decide (¬ ((a0.length : Int) = (a1.length : Int))))) (aNe _ _ _) ?_
 refine rf_c (p := ¬ ((a0.length : Int) = (a1.length : Int))) (fun c11 => ?_) (fun c11 => ?_)
 ·exact rf_fin _ (fin_same _ _) ⟨rfl, rfl⟩
 refine rf_s (AV.int .i64 (a0.length : Int)) (lenS_sl _ _ _) ?_
 refine rf_for (B := Unit) (R := Unit) (fun (i8 : Nat) (s1 : Unit) v w3 => v = [(AV.bool false), (AV.int .i64 (i8 : Int))] ∧ σ = w3) (fun (b2 : Unit) (q : LS) => ∃ u4 u13, q = ((AX.exit 0), ([u4, u13] : List AV), σ)) (fun (b2 : Unit) (q : LS) => ∃ u13, q = (AX.ret, ([(AV.bool false), u13] : List AV), σ)) ?_ ?_ ⟨rfl, rfl⟩ ?_ ?_
 ·intro hle7 i8 e7 s1 v w3 he7 hI
  obtain ⟨rfl, rfl⟩ := hI
  refine rf_s (AV.bool true) (ix_lt he7) ?_
  refine rf_ct ?_
  refine rf_s (AV.rp (cMove e7)) (ix_for he7) ?_
  refine rf_s (AV.agg (cMove e7)) rfl ?_
  refine rf_o (fun x9 : MoveD => (AV.rp (cMove x9))) (fun x9 hx9 => ix_at hx9) (fun x9 hx9 => ?_)
  refine rf_s (AV.agg (cMove x9)) rfl ?_
  refine rf_s (AV.bool (decide (¬ (e7 = x9)))) (ne_Move _ _) ?_
  refine rf_c (p := ¬ (e7 = x9)) (fun c10 => ?_) (fun c10 => ?_)
  ·exact rf_ret (rnd_ret (by simp) ⟨_, rfl⟩)
  refine rf_s (AV.int .i64 ((i8 + 1 : Nat) : Int)) (ix_inc he7 hle7) ?_
  exact rf_ret (rnd_go ⟨rfl, rfl⟩)
 ·intro hl s1 v w3 hI
  obtain ⟨rfl, rfl⟩ := hI
  refine rf_s (AV.bool false) (ix_end _) ?_
  refine rf_cf ?_
  exact rf_ret ⟨by simp, ⟨_, _, rfl⟩⟩
 ·intro hl b2 q hq
  obtain ⟨u4, u13, rfl⟩ := hq
  refine rf_bt rfl ?_
  exact rf_fin _ (fin_same _ _) ⟨rfl, rfl⟩
 ·intro hl b2 q hq
  obtain ⟨u13, rfl⟩ := hq
  refine rf_bf rfl ?_
  refine rf_bt rfl ?_
  exact rf_fin _ (fin_same _ _) ⟨rfl, rfl⟩

noncomputable def t_W5_sameCue (a0 : CueD) (a1 : CueD) : Option Bool :=
 (if (((((((((decide (a0.number = a1.number)) && (decide (a0.title = a1.title))) && (decide (a0.delay = a1.delay))) && (decide (a0.up = a1.up))) && (decide (a0.down = a1.down))) && (decide (a0.other = a1.other))) && (decide (a0.block = a1.block))) && (decide (a0.follow = a1.follow))) && (decide (a0.curve.kind = a1.curve.kind))) = true then t_slices_Equal_api_Point a0.curve.points a1.curve.points else some default).bind fun r1 =>
 (if ((((((((((decide (a0.number = a1.number)) && (decide (a0.title = a1.title))) && (decide (a0.delay = a1.delay))) && (decide (a0.up = a1.up))) && (decide (a0.down = a1.down))) && (decide (a0.other = a1.other))) && (decide (a0.block = a1.block))) && (decide (a0.follow = a1.follow))) && (decide (a0.curve.kind = a1.curve.kind))) && r1) = true then t_slices_Equal_api_Move a0.moves a1.moves else some default).bind fun r2 =>
 some (((((((((((decide (a0.number = a1.number)) && (decide (a0.title = a1.title))) && (decide (a0.delay = a1.delay))) && (decide (a0.up = a1.up))) && (decide (a0.down = a1.down))) && (decide (a0.other = a1.other))) && (decide (a0.block = a1.block))) && (decide (a0.follow = a1.follow))) && (decide (a0.curve.kind = a1.curve.kind))) && r1) && r2)
theorem h_W5_sameCue {a0 : CueD} { a1 : CueD} {σ : Heap} {r : Bool} (h : t_W5_sameCue a0 a1 = some r) : m_W5_sameCue [(AV.agg (cCue a0)), (AV.agg (cCue a1))] σ = some ((AV.bool r), σ) := by
 refine rf_wrap2 (f := r_W5_sameCue) (y0 := (AV.agg (cCue a0))) (y1 := (AV.agg (cCue a1))) (enc := fun r : Bool => (AV.bool r)) (T := t_W5_sameCue a0 a1) (nn_t1 (nn_a rfl) (nn_t1 (nn_a rfl) rfl)) rfl ?_ r h
 unfold r_W5_sameCue t_W5_sameCue
 refine rf_s (cCue a0) rfl ?_
 refine rf_s (cCue a1) rfl ?_
 refine rf_s (AV.int .i64 a0.number) rfl ?_
 refine rf_s (AV.int .i64 a1.number) rfl ?_
 refine rf_s (AV.bool (decide (a0.number = a1.number))) (aEq _ _ _) ?_
 refine rf_gt (AV.str a0.title) (fun hg => rfl) ?_
 refine rf_gt (AV.str a1.title) (fun hg => rfl) ?_
 refine rf_gt (AV.bool (decide (a0.title = a1.title))) (fun hg => by
   simp only [hg, Bool.true_and, cond_true]; first | done | exact (aEqZ _ _)) ?_
 refine rf_s (AV.bool ((decide (a0.number = a1.number)) && (decide (a0.title = a1.title)))) (pk_and _ _) ?_
 refine rf_gt (AV.int .i64 a0.delay) (fun hg => rfl) ?_
 refine rf_gt (AV.int .i64 a1.delay) (fun hg => rfl) ?_
 refine rf_gt (AV.bool (decide (a0.delay = a1.delay))) (fun hg => by
   simp only [hg, Bool.true_and, cond_true]; first | done | exact (aEq _ _ _)) ?_
 refine rf_s (AV.bool (((decide (a0.number = a1.number)) && (decide (a0.title = a1.title))) && (decide (a0.delay = a1.delay)))) (pk_and _ _) ?_
 refine rf_gt (AV.int .i64 a0.up) (fun hg => rfl) ?_
 refine rf_gt (AV.int .i64 a1.up) (fun hg => rfl) ?_
 refine rf_gt (AV.bool (decide (a0.up = a1.up))) (fun hg => by
   simp only [hg, Bool.true_and, cond_true]; first | done | exact (aEq _ _ _)) ?_
 refine rf_s (AV.bool ((((decide (a0.number = a1.number)) && (decide (a0.title = a1.title))) && (decide (a0.delay = a1.delay))) && (decide (a0.up = a1.up)))) (pk_and _ _) ?_
 refine rf_gt (AV.int .i64 a0.down) (fun hg => rfl) ?_
 refine rf_gt (AV.int .i64 a1.down) (fun hg => rfl) ?_
 refine rf_gt (AV.bool (decide (a0.down = a1.down))) (fun hg => by
   simp only [hg, Bool.true_and, cond_true]; first | done | exact (aEq _ _ _)) ?_
 refine rf_s (AV.bool (((((decide (a0.number = a1.number)) && (decide (a0.title = a1.title))) && (decide (a0.delay = a1.delay))) && (decide (a0.up = a1.up))) && (decide (a0.down = a1.down)))) (pk_and _ _) ?_
 refine rf_gt (AV.int .i64 a0.other) (fun hg => rfl) ?_
 refine rf_gt (AV.int .i64 a1.other) (fun hg => rfl) ?_
 refine rf_gt (AV.bool (decide (a0.other = a1.other))) (fun hg => by
   simp only [hg, Bool.true_and, cond_true]; first | done | exact (aEq _ _ _)) ?_
 refine rf_s (AV.bool ((((((decide (a0.number = a1.number)) && (decide (a0.title = a1.title))) && (decide (a0.delay = a1.delay))) && (decide (a0.up = a1.up))) && (decide (a0.down = a1.down))) && (decide (a0.other = a1.other)))) (pk_and _ _) ?_
 refine rf_gt (AV.bool a0.block) (fun hg => rfl) ?_
 refine rf_gt (AV.bool a1.block) (fun hg => rfl) ?_
 refine rf_gt (AV.bool (decide (a0.block = a1.block))) (fun hg => by
   simp only [hg, Bool.true_and, cond_true]; first | done | exact (aEqB _ _)) ?_
 refine rf_s (AV.bool (((((((decide (a0.number = a1.number)) && (decide (a0.title = a1.title))) && (decide (a0.delay = a1.delay))) && (decide (a0.up = a1.up))) && (decide (a0.down = a1.down))) && (decide (a0.other = a1.other))) && (decide (a0.block = a1.block)))) (pk_and _ _) ?_
 refine rf_gt (AV.int .i64 a0.follow) (fun hg => rfl) ?_
 refine rf_gt (AV.int .i64 a1.follow) (fun hg => rfl) ?_
 refine rf_gt (AV.bool (decide (a0.follow = a1.follow))) (fun hg => by
   simp only [hg, Bool.true_and, cond_true]; first | done | exact (aEq _ _ _)) ?_
 refine rf_s (AV.bool ((((((((decide (a0.number = a1.number)) && (decide (a0.title = a1.title))) && (decide (a0.delay = a1.delay))) && (decide (a0.up = a1.up))) && (decide (a0.down = a1.down))) && (decide (a0.other = a1.other))) && (decide (a0.block = a1.block))) && (decide (a0.follow = a1.follow)))) (pk_and _ _) ?_
 refine rf_gt (AV.int .i64 a0.curve.kind) (fun hg => rfl) ?_
 refine rf_gt (AV.int .i64 a1.curve.kind) (fun hg => rfl) ?_
 refine rf_gt (AV.bool (decide (a0.curve.kind = a1.curve.kind))) (fun hg => by
   simp only [hg, Bool.true_and, cond_true]; first | done | exact (aEq _ _ _)) ?_
 refine rf_s (AV.bool (((((((((decide (a0.number = a1.number)) && (decide (a0.title = a1.title))) && (decide (a0.delay = a1.delay))) && (decide (a0.up = a1.up))) && (decide (a0.down = a1.down))) && (decide (a0.other = a1.other))) && (decide (a0.block = a1.block))) && (decide (a0.follow = a1.follow))) && (decide (a0.curve.kind = a1.curve.kind)))) (pk_and _ _) ?_
 refine rf_gt (sl 2 cPoint a0.curve.points) (fun hg => rfl) ?_
 refine rf_gt (sl 2 cPoint a1.curve.points) (fun hg => rfl) ?_
 refine rf_gto (ω := Bool) (fun r1 => (AV.bool r1)) (fun hg r1 hr1 => by
   simp only [hg, Bool.true_and, cond_true]; first | done | exact (quiet_of (h_slices_Equal_api_Point hr1))) (fun r1 hr1 => ?_)
 refine rf_s (AV.bool ((((((((((decide (a0.number = a1.number)) && (decide (a0.title = a1.title))) && (decide (a0.delay = a1.delay))) && (decide (a0.up = a1.up))) && (decide (a0.down = a1.down))) && (decide (a0.other = a1.other))) && (decide (a0.block = a1.block))) && (decide (a0.follow = a1.follow))) && (decide (a0.curve.kind = a1.curve.kind))) && r1)) (pk_and _ _) ?_
 refine rf_gt (sl 8 cMove a0.moves) (fun hg => rfl) ?_
 refine rf_gt (sl 8 cMove a1.moves) (fun hg => rfl) ?_
 refine rf_gto (ω := Bool) (fun r2 => (AV.bool r2)) (fun hg r2 hr2 => by
   simp only [hg, Bool.true_and, cond_true]; first | done | exact (quiet_of (h_slices_Equal_api_Move hr2))) (fun r2 hr2 => ?_)
 refine rf_s (AV.bool (((((((((((decide (a0.number = a1.number)) && (decide (a0.title = a1.title))) && (decide (a0.delay = a1.delay))) && (decide (a0.up = a1.up))) && (decide (a0.down = a1.down))) && (decide (a0.other = a1.other))) && (decide (a0.block = a1.block))) && (decide (a0.follow = a1.follow))) && (decide (a0.curve.kind = a1.curve.kind))) && r1) && r2)) (pk_and _ _) ?_
 exact rf_fin _ (fin_same _ _) ⟨rfl, rfl⟩

end Go.Proofs.Ytphgchakmkankaa

namespace Go.Proofs.Ytphgchakmkankaa
set_option linter.unusedSectionVars false
set_option linter.unusedVariables false
set_option linter.unusedSimpArgs false
theorem half_nn {i j : Nat} (h : i + j < 9223372036854775808) : A.shr (.int .u64 ((i + j : Nat) : Int)) (.int .u64 1) = some (.int .u64 (((i + j) / 2 : Nat) : Int)) := by
 simp only [A.shr]
 rw [if_neg (by decide)]
 congr 2
 rw [show (2 : Int) ^ (min (Int.toNat 1) IntKind.u64.bits) = 2 from rfl, Int.fdiv_eq_ediv_of_nonneg _ (by decide)]
 omega
theorem conv_u {n : Nat} (h : n < 9223372036854775808) : A.conv .u64 (.int .i64 (n : Int)) = some (.int .u64 (n : Int)) := by
 simp only [A.conv]
 congr 2
 unfold IntKind.wrap
 simp [IntKind.bits, IntKind.signed]
 omega
theorem conv_i {n : Nat} (h : n < 9223372036854775808) : A.conv .i64 (.int .u64 (n : Int)) = some (.int .i64 (n : Int)) := by
 simp only [A.conv]
 rw [wrap64 (by unfold inI; omega)]
theorem tadd {a b : Nat} (h : a + b < 9223372036854775808) : A.add (.int .i64 (a : Int)) (.int .i64 (b : Int)) = some (.int .i64 ((a + b : Nat) : Int)) := by
 rw [aAdd, wrap64 (by unfold inI; omega)]; simp
theorem tadd1 {a : Nat} (h : a + 1 < 9223372036854775808) : A.add (.int .i64 (a : Int)) (.int .i64 1) = some (.int .i64 ((a + 1 : Nat) : Int)) := tadd (b := 1) h
theorem tlss (a b : Nat) : A.lss (.int .i64 (a : Int)) (.int .i64 (b : Int)) = some (.bool (decide (a < b))) := by
 rw [aLss]
 have : ((a : Int) < (b : Int)) = (a < b) := propext ⟨fun h => by omega, fun h => by omega⟩
 simp only [this]
theorem tlss0 (a : Int) : A.lss (.int .i64 a) (.int .i64 0) = some (.bool (decide (a < 0))) := by rw [aLss]
theorem exb {α : Type} {X Y : α} : (bif (AX.exit 0 == AX.exit 0) then X else Y) = X := rfl
theorem bs_loop {f : List AV → Heap → Option (AX × List AV × Heap)} {σ : Heap} (pv : Nat → Nat → List AV) {v0 : List AV} {n p : Nat} (hp : p ≤ n) (h0 : v0 = pv 0 n)
  (hs : ∀ i j, i < j → j ≤ n → f (pv i j) σ = some (.normal, if (i + j) / 2 < p then pv ((i + j) / 2 + 1) j else pv i ((i + j) / 2), σ))
  (he : ∀ i, i ≤ n → f (pv i i) σ = some (.exit 0, pv i i, σ)) : A.loop f v0 σ = some (.exit 0, pv p p, σ) := by
 subst h0
 have key : ∀ k i j, j - i ≤ k → i ≤ p → p ≤ j → j ≤ n → ∃ m, A.iter f m (pv i j) σ = some (.exit 0, pv p p, σ) := by
  intro k
  induction k with
  | zero =>
   intro i j hk h1 h2 h3
   have : i = p := by omega
   have : j = p := by omega
   subst i; subst j
   exact loop_done (he p h3) (by simp)
  | succ k ih =>
   intro i j hk h1 h2 h3
   by_cases hij : i < j
   ·have hstep := hs i j hij h3
    by_cases hh : (i + j) / 2 < p
    ·rw [if_pos hh] at hstep
     exact loop_step hstep (ih _ _ (by omega) (by omega) h2 h3)
    ·rw [if_neg hh] at hstep
     exact loop_step hstep (ih _ _ (by omega) h1 (by omega) (by omega))
   ·have : i = p := by omega
    have : j = p := by omega
    subst i; subst j
    exact loop_done (he p h3) (by simp)
 obtain ⟨m, hm⟩ := key n 0 n (by omega) (by omega) hp (Nat.le_refl _)
 exact loop_of_iter hm
theorem bsM {dyn : Nat → List AV → Heap → Option (AV × Heap)} {l : List MoveD} {fn : Nat} {k : KeyD} {cv : MoveD → Int} {p : Nat} {σ : Heap} (hl : l.length < 4611686018427387904) (hp : p ≤ l.length)
  (hd : ∀ x ∈ l, dyn fn [.agg (cMove x), .agg (cKey k)] σ = some (.int .i64 (cv x), σ)) (hc : ∀ h x, l[h]? = some x → (cv x < 0 ↔ h < p)) :
  m_slices_BinarySearchFunc_api_Move_api_Key dyn [sl 8 cMove l, .agg (cKey k), .fn fn []] σ = some (.tup [.int .i64 (p : Int), .bool ((l[p]?).any fun x => decide (cv x = 0))], σ) := by
 refine wrap_eq rfl ?_ rfl
 show r_slices_BinarySearchFunc_api_Move_api_Key dyn (sl 8 cMove l) (.agg (cKey k)) (.fn fn []) σ = _
 unfold r_slices_BinarySearchFunc_api_Move_api_Key
 rw [show A.cells 2 (.agg (cKey k)) = some (cKey k) from rfl, Option.bind_some, lenS_sl, Option.bind_some]
 rw [bs_loop (v0 := [.lbx (cKey k), .int .i64 0, .int .i64 (l.length : Int)]) (fun i j => [.lbx (cKey k), .int .i64 (i : Int), .int .i64 (j : Int)]) hp rfl ?_ ?_, Option.bind_some]
 ·simp only [exb, List.getD_cons_succ, List.getD_cons_zero]
  rw [tlss, Option.bind_some]
  by_cases hpl : p < l.length
  ·have hx : l[p]? = some l[p] := List.getElem?_eq_getElem hpl
   have hdx := hd _ (List.mem_of_getElem? hx)
   have hia := iaddr_sl 8 cMove l hx
   have hq := quiet_of (by show A.callv dyn (.fn fn []) [.agg (cMove l[p]), .agg (cKey k)] σ = _; simp only [A.callv, List.append_nil]; exact hdx)
   simp only [decide_eq_true hpl, A.guard, beq_self_eq_true, cond_true, Option.bind_some, List.getD_cons_succ, List.getD_cons_zero, hia, A.deref, pA_cMove, A.lb, A.part1, A.partA, A.pick, hx, Option.any_some]
   show ((A.quiet (A.callv dyn (.fn fn []) [.agg (cMove l[p]), .agg (cKey k)] σ) σ).bind _) = _
   rw [hq, Option.bind_some, aEq]
   exact fin_same _ _
  ·have hx : l[p]? = none := List.getElem?_eq_none (by omega)
   simp only [decide_eq_false hpl, A.guard, Option.bind_some, A.pick, hx, Option.any_none]
   exact fin_same _ _
 ·intro i j hij hj
  have hlt : (i + j) / 2 < l.length := by omega
  have hx : l[(i + j) / 2]? = some l[(i + j) / 2] := List.getElem?_eq_getElem hlt
  have hdx := hd _ (List.mem_of_getElem? hx)
  have hia := iaddr_sl 8 cMove l hx
  have hq := quiet_of (by show A.callv dyn (.fn fn []) [.agg (cMove l[(i + j) / 2]), .agg (cKey k)] σ = _; simp only [A.callv, List.append_nil]; exact hdx)
  simp only [List.getD_cons_succ, List.getD_cons_zero]
  rw [tlss, Option.bind_some, decide_eq_true hij]
  simp only [A.cond, cond_true]
  rw [tadd (by omega), Option.bind_some, conv_u (by omega), Option.bind_some, half_nn (by omega), Option.bind_some, conv_i (by omega), Option.bind_some, hia, Option.bind_some]
  simp only [A.deref, Option.bind_some, pA_cMove, A.lb]
  show ((A.quiet (A.callv dyn (.fn fn []) [.agg (cMove l[(i + j) / 2]), .agg (cKey k)] σ) σ).bind _) = _
  rw [hq, Option.bind_some, tlss0, Option.bind_some]
  by_cases hh : (i + j) / 2 < p
  ·have := (hc _ _ hx).2 hh
   rw [decide_eq_true this, if_pos hh]
   simp only [cond_true, tadd1 (show (i + j) / 2 + 1 < 9223372036854775808 by omega), Option.bind_some]
   rfl
  ·have : ¬ (cv l[(i + j) / 2] < 0) := fun e => hh ((hc _ _ hx).1 e)
   rw [decide_eq_false this, if_neg hh]
   rfl
 ·intro i hi
  simp only [List.getD_cons_succ, List.getD_cons_zero]
  rw [tlss, Option.bind_some, decide_eq_false (Nat.lt_irrefl i)]
  rfl
theorem bsC {dyn : Nat → List AV → Heap → Option (AV × Heap)} {l : List CueD} {fn : Nat} {k : Int} {cv : CueD → Int} {p : Nat} {σ : Heap} (hl : l.length < 4611686018427387904) (hp : p ≤ l.length)
  (hd : ∀ x ∈ l, dyn fn [.agg (cCue x), .int .i64 k] σ = some (.int .i64 (cv x), σ)) (hc : ∀ h x, l[h]? = some x → (cv x < 0 ↔ h < p)) :
  m_slices_BinarySearchFunc_api_Cue_int dyn [sl 11 cCue l, .int .i64 k, .fn fn []] σ = some (.tup [.int .i64 (p : Int), .bool ((l[p]?).any fun x => decide (cv x = 0))], σ) := by
 refine wrap_eq rfl ?_ rfl
 show r_slices_BinarySearchFunc_api_Cue_int dyn (sl 11 cCue l) (.int .i64 k) (.fn fn []) σ = _
 unfold r_slices_BinarySearchFunc_api_Cue_int
 rw [lenS_sl, Option.bind_some]
 rw [bs_loop (v0 := [.int .i64 0, .int .i64 (l.length : Int)]) (fun i j => [.int .i64 (i : Int), .int .i64 (j : Int)]) hp rfl ?_ ?_, Option.bind_some]
 ·simp only [exb, List.getD_cons_succ, List.getD_cons_zero]
  rw [tlss, Option.bind_some]
  by_cases hpl : p < l.length
  ·have hx : l[p]? = some l[p] := List.getElem?_eq_getElem hpl
   have hdx := hd _ (List.mem_of_getElem? hx)
   have hia := iaddr_sl 11 cCue l hx
   have hq := quiet_of (by show A.callv dyn (.fn fn []) [.agg (cCue l[p]), .int .i64 k] σ = _; simp only [A.callv, List.append_nil]; exact hdx)
   simp only [decide_eq_true hpl, A.guard, beq_self_eq_true, cond_true, Option.bind_some, List.getD_cons_succ, List.getD_cons_zero, hia, A.deref, pA_cCue, A.lb, A.part1, A.partA, A.pick, hx, Option.any_some]
   show ((A.quiet (A.callv dyn (.fn fn []) [.agg (cCue l[p]), .int .i64 k] σ) σ).bind _) = _
   rw [hq, Option.bind_some, aEq]
   exact fin_same _ _
  ·have hx : l[p]? = none := List.getElem?_eq_none (by omega)
   simp only [decide_eq_false hpl, A.guard, Option.bind_some, A.pick, hx, Option.any_none]
   exact fin_same _ _
 ·intro i j hij hj
  have hlt : (i + j) / 2 < l.length := by omega
  have hx : l[(i + j) / 2]? = some l[(i + j) / 2] := List.getElem?_eq_getElem hlt
  have hdx := hd _ (List.mem_of_getElem? hx)
  have hia := iaddr_sl 11 cCue l hx
  have hq : A.callv dyn (.fn fn []) [.agg (cCue l[(i + j) / 2]), .int .i64 k] σ = some (.int .i64 (cv l[(i + j) / 2]), σ) := by simp only [A.callv, List.append_nil]; exact hdx
  simp only [List.getD_cons_succ, List.getD_cons_zero]
  rw [tlss, Option.bind_some, decide_eq_true hij]
  simp only [A.cond, cond_true]
  rw [tadd (by omega), Option.bind_some, conv_u (by omega), Option.bind_some, half_nn (by omega), Option.bind_some, conv_i (by omega), Option.bind_some, hia, Option.bind_some]
  simp only [A.deref, Option.bind_some, pA_cCue, A.lb]
  rw [hq, Option.bind_some, tlss0, Option.bind_some]
  by_cases hh : (i + j) / 2 < p
  ·have := (hc _ _ hx).2 hh
   rw [decide_eq_true this, if_pos hh]
   simp only [cond_true, tadd1 (show (i + j) / 2 + 1 < 9223372036854775808 by omega), Option.bind_some]
   rfl
  ·have : ¬ (cv l[(i + j) / 2] < 0) := fun e => hh ((hc _ _ hx).1 e)
   rw [decide_eq_false this, if_neg hh]
   rfl
 ·intro i hi
  simp only [List.getD_cons_succ, List.getD_cons_zero]
  rw [tlss, Option.bind_some, decide_eq_false (Nat.lt_irrefl i)]
  rfl
end Go.Proofs.Ytphgchakmkankaa

namespace Go.Proofs.Ytphgchakmkankaa
set_option linter.unusedSectionVars false
set_option linter.unusedVariables false
set_option linter.unusedSimpArgs false
section
variable {α γ R S B : Type}
theorem forE_idx {p : α → Bool} {l : List α} {body : Nat → α → Unit → Option (Lr Unit Unit Int)} {fin : Unit → Option Unit} {s : Unit} {K1 : Unit → Option γ} {K2 : Int → Option γ} (hl : l.length ≤ mxl) (hb : ∀ i x, l[i]? = some x → body i x () = some (if p x = true then .ret (i : Int) else .go ())) (hf : fin () = some () := by rfl) : forE l body fin s K1 K2 = if idxI p l = -1 then K1 () else K2 (idxI p l) := by
 rw [forE_le hl]
 have key : ∀ (rest pre : List α), l = pre ++ rest → (∀ x ∈ pre, p x = false) → forL body fin rest pre.length () = some (if idxI p l = -1 then .inl () else .inr (idxI p l)) := by
  intro rest
  induction rest with
  | nil =>
   intro pre hp hn
   rw [List.append_nil] at hp
   rcases idxI_cases p l with ⟨h1, _⟩ | ⟨k, x, h1, h2, _⟩
   ·simp [forL, hf, h1]
   ·have := hn x (by rw [← hp]; exact List.mem_of_getElem? h1); rw [h2] at this; cases this
  | cons x rest ih =>
   intro pre hp hn
   have hx : l[pre.length]? = some x := by rw [hp]; simp
   rw [forL, hb pre.length x hx, Option.bind_some]
   cases h : p x
   ·simp only [Bool.false_eq_true, if_false]
    have := ih (pre ++ [x]) (by simpa using hp) (fun y hy => by
     rcases List.mem_append.1 hy with hy | hy
     ·exact hn y hy
     ·simp at hy; subst hy; exact h)
    simpa using this
   ·simp only [if_true]
    have e : idxI p l = pre.length := by
     rcases idxI_cases p l with ⟨h1, h2, _⟩ | ⟨k, y, h1, h2, h3, _, h5⟩
     ·have := h2 x (List.mem_of_getElem? hx); rw [h] at this; cases this
     ·rw [h3]
      rcases Nat.lt_trichotomy k pre.length with hk | hk | hk
      ·rw [hp, List.getElem?_append_left hk] at h1
       have := hn y (List.mem_of_getElem? h1); rw [h2] at this; cases this
      ·omega
      ·have := h5 pre.length x hk hx; rw [h] at this; cases this
    rw [if_neg (by omega), e]
 have k := key l [] rfl (by simp)
 rw [List.length_nil] at k
 rw [show s = () from rfl, k, Option.bind_some]
 split <;> rfl
end
theorem At_t (l : List CueD) (hl : l.length ≤ mxl) (n : Int) : t_R5_At l n = some (idxI (fun c => decide (c.number = n)) l) := by
 unfold t_R5_At
 rw [forE_idx (p := fun c => decide (c.number = n)) hl (by intro i x _; simp only [decide_eq_true_eq, ite_pure])]
 split
 ·rename_i h; rw [h]
 ·rfl
end Go.Proofs.Ytphgchakmkankaa

