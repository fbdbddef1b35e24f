/- Parts of the proof of CueListsMatchSpec, in order. -/
import Derived.Orders
import Derived.Below
import Derived.WalkKit
import Derived.Laws.StructEq
import Derived.Laws.Append
import Derived.Laws.AppendOwn
import Derived.Test.YtphgchakmkankaaGreatRows
import Derived.KernelRfl
import Derived.Lib.Bytealg
import Derived.Sort.Defs
import Derived.Lib.BitFns
import Derived.Test.YtphgchakmkankaaGreatShelf
import Derived.Lib.Overlaps
import Derived.IntWalk
import Derived.Sort.Statements
import Derived.Shelf.SlSortCmp.WholeK
import Derived.Shelf.SlSortCmp.NoneTotal
import Derived.Sort.AssemblyPlain
import Derived.Lib.Strings
import Derived.Test.YtphgchakmkankaaGreatKCueListsMatchSpec3
namespace Go.Proofs.YtphgchakmkankaaGreat
set_option linter.unusedSectionVars false
set_option linter.unusedVariables false
set_option linter.unusedSimpArgs false

theorem bq (s t : ByteArray) : (s == t) = decide (s = t) := by
 obtain ⟨a⟩ := s
 obtain ⟨b⟩ := t
 show (a == b) = _
 rw [Bool.eq_iff_iff]
 simp
section
variable {α β : Type}
theorem cT (t e : Option α) : A.cond (.bool true) t e = t := rfl
theorem cF (t e : Option α) : A.cond (.bool false) t e = e := rfl
theorem gTT (e d : Option α) : A.guard (.bool true) true e d = e := rfl
theorem gTF (e d : Option α) : A.guard (.bool true) false e d = d := rfl
theorem gFT (e d : Option α) : A.guard (.bool false) true e d = d := rfl
theorem gFF (e d : Option α) : A.guard (.bool false) false e d = e := rfl
theorem pT (x y : AV) : A.pick (.bool true) x y = some x := rfl
theorem pF (x y : AV) : A.pick (.bool false) x y = some y := rfl
theorem gDp {p : Prop} [Decidable p] {w : Bool} {e d : Option α} {f : α → Option β} : (A.guard (.bool (decide p)) w e d).bind f = if p then (A.guard (.bool true) w e d).bind f else (A.guard (.bool false) w e d).bind f := by by_cases h : p <;> simp [h]
theorem gDb {b w : Bool} {e d : Option α} {f : α → Option β} : (A.guard (.bool b) w e d).bind f = match b with | true => (A.guard (.bool true) w e d).bind f | false => (A.guard (.bool false) w e d).bind f := by cases b <;> rfl
theorem cDp {p : Prop} [Decidable p] {t e : Option α} : A.cond (.bool (decide p)) t e = if p then t else e := by by_cases h : p <;> simp [h, A.cond]
theorem cDnp {p : Prop} [Decidable p] {t e : Option α} : A.cond (.bool (!decide p)) t e = if p then e else t := by by_cases h : p <;> simp [h, A.cond]
theorem cDn {b : Bool} {t e : Option α} : A.cond (.bool (!b)) t e = match b with | true => e | false => t := by cases b <;> rfl
theorem cDb {b : Bool} {t e : Option α} : A.cond (.bool b) t e = match b with | true => t | false => e := by cases b <;> rfl
theorem gN (w : Bool) (e d : Option α) : A.guard (.tup []) w e d = d := rfl
theorem xN (a b : AX) : (a == b) = decide (a = b) := by rw [Bool.eq_iff_iff]; simp
end
section
variable (k : IntKind) (a b : Int) (p q : Prop) [Decidable p] [Decidable q] (s t : ByteArray) (x y : AV) (σ : Heap) (cs : List AV)
theorem aAdd : A.add (.int .i64 a) (.int .i64 b) = some (.int .i64 (IntKind.i64.wrap (a + b))) := rfl
theorem aSub : A.sub (.int .i64 a) (.int .i64 b) = some (.int .i64 (IntKind.i64.wrap (a - b))) := rfl
theorem aMul : A.mul (.int .i64 a) (.int .i64 b) = some (.int .i64 (IntKind.i64.wrap (a * b))) := rfl
theorem aLss : A.lss (.int .i64 a) (.int .i64 b) = some (.bool (decide (a < b))) := rfl
theorem aLeq : A.leq (.int .i64 a) (.int .i64 b) = some (.bool (decide (a ≤ b))) := rfl
theorem aGtr : A.gtr (.int .i64 a) (.int .i64 b) = some (.bool (decide (b < a))) := rfl
theorem aGeq : A.geq (.int .i64 a) (.int .i64 b) = some (.bool (decide (b ≤ a))) := rfl
theorem aLss8 : A.lss (.int .u8 a) (.int .u8 b) = some (.bool (decide (a < b))) := rfl
theorem aLeq8 : A.leq (.int .u8 a) (.int .u8 b) = some (.bool (decide (a ≤ b))) := rfl
theorem aGtr8 : A.gtr (.int .u8 a) (.int .u8 b) = some (.bool (decide (b < a))) := rfl
theorem aGeq8 : A.geq (.int .u8 a) (.int .u8 b) = some (.bool (decide (b ≤ a))) := rfl
theorem aEq : A.eql .i (.int k a) (.int k b) = some (.bool (decide (a = b))) := by
 simp only [A.eql, A.eqK, A.eqI, if_true, Option.map_some]; congr 2
theorem aNe : A.neq .i (.int k a) (.int k b) = some (.bool (decide (¬ a = b))) := by
 simp only [A.neq, A.eqK, A.eqI, if_true, Option.map_some]
 congr 2
 rw [Bool.eq_iff_iff]; simp
theorem aEqZ : A.eql .z (.str s) (.str t) = some (.bool (decide (s = t))) := by
 simp only [A.eql, A.eqK, A.eqZ, Option.map_some, bq]
theorem aNeZ : A.neq .z (.str s) (.str t) = some (.bool (decide (¬ s = t))) := by
 simp only [A.neq, A.eqK, A.eqZ, Option.map_some, bq]; simp
theorem aNot (b : Bool) : A.not (.bool b) = some (.bool (!b)) := rfl
theorem aNotD : A.not (.bool (decide p)) = some (.bool (decide (¬ p))) := by simp [A.not]
theorem aLb : A.lb (.lbx cs) = some cs := rfl
theorem aExt0 (l : List AV) : A.ext 0 (.tup (x :: l)) = some x := rfl
theorem aExt1 (x0 x : AV) (l : List AV) : A.ext 1 (.tup (x0 :: x :: l)) = some x := rfl
theorem aExt2 (x0 x1 x : AV) (l : List AV) : A.ext 2 (.tup (x0 :: x1 :: x :: l)) = some x := rfl
theorem aExt3 (x0 x1 x2 x : AV) (l : List AV) : A.ext 3 (.tup (x0 :: x1 :: x2 :: x :: l)) = some x := rfl
theorem aDe : A.deref (.rp cs) σ = some cs := rfl
theorem aFa (o : Nat) : A.faddr o (.rp cs) = some (.rp (cs.drop o)) := rfl
theorem aLenZ : A.lenZ (.str s) = some (.int .i64 s.size) := rfl
theorem aCI (n : Int) : A.cell (.int k n) = some (.int k n) := rfl
theorem aCB (b : Bool) : A.cell (.bool b) = some (.bool b) := rfl
theorem aCS : A.cell (.str s) = some (.str s) := rfl
theorem aCSl (sz : Nat) (es : List (List AV)) : A.cell (.sl sz es) = some (.sl sz es) := rfl
theorem p1D (o k : Nat) : A.part1 o (cs.drop k) = A.part1 (k + o) cs := by simp [A.part1, List.getElem?_drop]
end
theorem gd0 (a d : AV) (l : List AV) : (a :: l).getD 0 d = a := rfl
theorem gd1 (a b d : AV) (l : List AV) : (b :: a :: l).getD 1 d = a := rfl
theorem gd2 (a b c d : AV) (l : List AV) : (b :: c :: a :: l).getD 2 d = a := rfl
theorem gd3 (a b c e d : AV) (l : List AV) : (b :: c :: e :: a :: l).getD 3 d = a := rfl
theorem gd4 (a b c e f d : AV) (l : List AV) : (b :: c :: e :: f :: a :: l).getD 4 d = a := rfl
theorem gd5 (a b c e f g d : AV) (l : List AV) : (b :: c :: e :: f :: g :: a :: l).getD 5 d = a := rfl
theorem gd6 (a b c e f g h d : AV) (l : List AV) : (b :: c :: e :: f :: g :: h :: a :: l).getD 6 d = a := rfl
theorem gd7 (a b c e f g h i d : AV) (l : List AV) : (b :: c :: e :: f :: g :: h :: i :: a :: l).getD 7 d = a := rfl
theorem gd8 (a b c e f g h i j d : AV) (l : List AV) : (b :: c :: e :: f :: g :: h :: i :: j :: a :: l).getD 8 d = a := rfl
theorem wrap64 {n : Int} (h : inI n) : IntKind.i64.wrap n = n := IntWalk.i64_in n h
theorem wrap_eq {ro : Bool} {ain : List Sh} {rout : Sh} {r : List AV → Heap → Option (AV × Heap)} {args : List AV} {σ σ' : Heap} {v v' : AV} (h : args.any A.own = false) (e : r (A.nnL ain args) σ = some (v, σ')) (hv : A.nn rout v = v') : A.wrap ro ain rout r args σ = some (v', σ') := by
 unfold A.wrap
 rw [h, Bool.and_false, cond_false, e]
 simp [hv]
theorem scal2_shift {v : AV} (n : Nat) (h : A.scal2 v = true) : A.fresh v = true ∧ A.shift n v = v := by
 cases v <;> first | exact ⟨h, rfl⟩ | cases h
theorem scal_shift {v : AV} (n : Nat) (h : A.scal v = true) : A.freshT v = true ∧ A.shiftT n v = v := by
 have key : (∀ vs, v ≠ .tup vs) → A.freshT v = true ∧ A.shiftT n v = v := by
  intro k
  have := scal2_shift (v := v) n
  cases v <;> first | exact absurd rfl (k _) | exact this h
 by_cases ht : ∃ vs, v = .tup vs
 ·obtain ⟨vs, rfl⟩ := ht
  simp only [A.scal, List.all_eq_true] at h
  refine ⟨by simp only [A.freshT, List.all_eq_true]; exact fun x hx => (scal2_shift n (h x hx)).1, ?_⟩
  simp only [A.shiftT]
  congr 1
  calc vs.map (A.shift n) = vs.map id := List.map_congr_left fun x hx => (scal2_shift n (h x hx)).2
   _ = vs := List.map_id vs
 ·exact key fun vs e => ht ⟨vs, e⟩
theorem wrap_own {ain : List Sh} {rout : Sh} {r : List AV → Heap → Option (AV × Heap)} {args args' : List AV} {σ : Heap} {v : AV} (h : args.any A.own = true) (hz : A.frzL σ 0 8 args = some args') (ho : args'.any A.own = false) (e : A.wrap true ain rout r args' [] = some (v, [])) (hs : A.scal v = true) : A.wrap true ain rout r args σ = some (v, σ) := by
 unfold A.wrap at e ⊢
 rw [ho, Bool.and_false, cond_false] at e
 obtain ⟨⟨q1, q2⟩, e1, e2⟩ := Option.map_eq_some_iff.1 e
 simp only [Prod.mk.injEq] at e2
 obtain ⟨rfl, rfl⟩ := e2
 rw [h, Bool.and_self, cond_true, hz]
 simp [e1, (scal_shift σ.length hs).1, (scal_shift σ.length hs).2]
theorem fin_same (σ : Heap) (r : AV) : A.fin σ r σ = some (r, σ) := by simp [A.fin]
theorem frz_scal1 (σ : Heap) (n d : Nat) {a : AV} (h : A.scal1 a = true) : A.frz σ n d a = some a := by
 cases a <;> simp only [A.scal1] at h <;> first | (cases h; done) | skip
 case sl sz es => cases es with
  | nil => cases d <;> simp [A.frz, A.frzLL]
  | cons _ _ => simp at h
 all_goals cases d <;> simp [A.frz]
theorem frzL_scal1 (σ : Heap) (n d : Nat) : ∀ {l : List AV}, l.all A.scal1 = true → A.frzL σ n d l = some l
 | [], _ => by simp [A.frzL]
 | a :: l, h => by
  simp only [List.all_cons, Bool.and_eq_true] at h
  simp [A.frzL, frz_scal1 σ n d h.1, frzL_scal1 σ n d h.2]
theorem frz_scal2 (σ : Heap) (n d : Nat) {a : AV} (h : A.scal2 a = true) : A.frz σ n d a = some a := by
 unfold A.scal2 at h
 split at h
 ·cases d <;> simp [A.frz, frzL_scal1 σ n _ h]
 ·exact frz_scal1 σ n d h
theorem frzL_scal2 (σ : Heap) (n d : Nat) : ∀ {l : List AV}, l.all A.scal2 = true → A.frzL σ n d l = some l
 | [], _ => by simp [A.frzL]
 | a :: l, h => by
  simp only [List.all_cons, Bool.and_eq_true] at h
  simp [A.frzL, frz_scal2 σ n d h.1, frzL_scal2 σ n d h.2]
theorem frz_scal (σ : Heap) (n d : Nat) {a : AV} (h : A.scal a = true) : A.frz σ n d a = some a := by
 unfold A.scal at h
 split at h
 ·cases d <;> simp [A.frz, frzL_scal2 σ n _ h]
 ·exact frz_scal2 σ n d h
theorem fin_scal (σ bs : Heap) {r : AV} (h : A.scal r = true) : A.fin σ r (σ ++ bs) = some (r, σ) := by
 unfold A.fin
 split
 ·rfl
 ·rw [if_pos (by simp), frz_scal _ _ _ h]; rfl
theorem fin_int (σ bs : Heap) (k : IntKind) (n : Int) : A.fin σ (.int k n) (σ ++ bs) = some (.int k n, σ) := fin_scal σ bs rfl
theorem fin_bool (σ bs : Heap) (b : Bool) : A.fin σ (.bool b) (σ ++ bs) = some (.bool b, σ) := fin_scal σ bs rfl
theorem fin_str (σ bs : Heap) (s : ByteArray) : A.fin σ (.str s) (σ ++ bs) = some (.str s, σ) := fin_scal σ bs rfl
theorem fin_unit (σ bs : Heap) : A.fin σ (.tup []) (σ ++ bs) = some (.tup [], σ) := fin_scal σ bs rfl
theorem hat (σ bs : Heap) (j : Nat) : (σ ++ bs)[σ.length + j]? = bs[j]? := by rw [List.getElem?_append_right (by omega)]; congr 1; omega
theorem hat0 (σ bs : Heap) : (σ ++ bs)[σ.length]? = bs[0]? := by rw [List.getElem?_append_right (Nat.le_refl _), Nat.sub_self]
theorem hset (σ bs : Heap) (j : Nat) (b : Blk) : (σ ++ bs).set (σ.length + j) b = σ ++ bs.set j b := by rw [List.set_append_right _ _ (by omega)]; congr 2; omega
theorem hset0 (σ bs : Heap) (b : Blk) : (σ ++ bs).set σ.length b = σ ++ bs.set 0 b := by rw [List.set_append_right _ _ (Nat.le_refl _), Nat.sub_self]
section
variable {α : Type} (sz : Nat) (c : α → List AV) (l : List α)
theorem lenS_sl : A.lenS (sl sz c l) = some (.int .i64 l.length) := by simp [sl, A.lenS]
theorem iaddr_sl {k : Nat} {x : α} (h : l[k]? = some x) : A.iaddr sz (sl sz c l) (.int .i64 (k : Int)) = some (.rp (c x)) := by
 have hk : k < l.length := (List.getElem?_eq_some_iff.1 h).1
 have hx : l[k] = x := (List.getElem?_eq_some_iff.1 h).2
 simp [A.iaddr, sl, A.idx, hk, hx]
theorem iaddr_int {i : Int} {x : α} (h0 : 0 ≤ i) (h : l[i.toNat]? = some x) : A.iaddr sz (sl sz c l) (.int .i64 i) = some (.rp (c x)) := by
 have := iaddr_sl sz c l h
 rwa [Int.toNat_of_nonneg h0] at this
end
inductive Rd (S R : Type) where
 | go (s : S)
 | out (r : R)
def Rd.el {S R γ : Type} (x : Rd S R) (f : S → γ) (g : R → γ) : γ := match x with | .go s => f s | .out r => g r
theorem el_go {S R γ : Type} (s : S) (f : S → γ) (g : R → γ) : (Rd.go s : Rd S R).el f g = f s := rfl
theorem el_out {S R γ : Type} (r : R) (f : S → γ) (g : R → γ) : (Rd.out r : Rd S R).el f g = g r := rfl
theorem el_ite {S R γ : Type} {p : Prop} [Decidable p] (x y : Rd S R) (f : S → γ) (g : R → γ) : (if p then x else y).el f g = if p then x.el f g else y.el f g := by split <;> rfl
def runP {α S R : Type} (body : List α → α → S → Rd S R) : List α → List α → S → Rd S R
 | _, [], s => .go s
 | pre, x :: l, s => match body pre x s with | .go s' => runP body (pre ++ [x]) l s' | .out r => .out r
theorem iter_loop {f : List AV → Heap → Option (AX × List AV × Heap)} {v : List AV} {σ : Heap} : ∀ {n m : Nat} {r r' : AX × List AV × Heap}, A.iter f n v σ = some r → A.iter f m v σ = some r' → r = r' := by
 intro n
 induction n generalizing v σ with
 | zero => intro m r r' h; cases h
 | succ n ih =>
  intro m r r' h1 h2
  cases m with
  | zero => cases h2
  | succ m =>
   simp only [A.iter] at h1 h2
   cases hf : f v σ with
   | none => rw [hf] at h1; cases h1
   | some q =>
    rw [hf] at h1 h2
    simp only [Option.bind_some] at h1 h2
    obtain ⟨e, v', σ'⟩ := q
    cases e with
    | normal => exact ih h1 h2
    | exit i => simp only at h1 h2; rw [h1] at h2; injection h2
    | ret => simp only at h1 h2; rw [h1] at h2; injection h2
theorem loop_of_iter {f : List AV → Heap → Option (AX × List AV × Heap)} {v : List AV} {σ : Heap} {n : Nat} {r : AX × List AV × Heap} (h : A.iter f n v σ = some r) : A.loop f v σ = some r := by
 have hex : ∃ n r, A.iter f n v σ = some r := ⟨n, r, h⟩
 unfold A.loop
 rw [dif_pos hex]
 exact congrArg some (iter_loop (Classical.choose_spec (Classical.choose_spec hex)) h)
theorem loop_step {f : List AV → Heap → Option (AX × List AV × Heap)} {v v' : List AV} {σ σ' : Heap} {r : AX × List AV × Heap} (h : f v σ = some (.normal, v', σ')) (k : ∃ n, A.iter f n v' σ' = some r) : ∃ n, A.iter f n v σ = some r := by
 obtain ⟨n, k⟩ := k
 exact ⟨n + 1, by simp [A.iter, h, k]⟩
theorem loop_done {f : List AV → Heap → Option (AX × List AV × Heap)} {v : List AV} {σ : Heap} {r : AX × List AV × Heap} (h : f v σ = some r) (hr : r.1 ≠ .normal) : ∃ n, A.iter f n v σ = some r := by
 obtain ⟨e, v', σ'⟩ := r
 refine ⟨1, ?_⟩
 cases e <;> first | (simp [A.iter, h]; done) | exact absurd rfl hr
theorem loop_pre {α S R γ : Type} {f : List AV → Heap → Option (AX × List AV × Heap)} (l : List α) (body : List α → α → S → Rd S R) (st : List α → S → List AV) (hp : List α → S → Heap)
  (fin : S → AX × List AV × Heap) (out : List α → S → R → AX × List AV × Heap) (P : List α → S → Prop) (s0 : S) {k : AX × List AV × Heap → Option γ} (K1 : S → Option γ) (K2 : R → Option γ)
  (hstep : ∀ pre x rest s, l = pre ++ x :: rest → P pre s → f (st pre s) (hp pre s) = some ((body pre x s).el (fun s' => (.normal, st (pre ++ [x]) s', hp (pre ++ [x]) s')) (fun r => out pre s r)))
  (hend : ∀ s, P l s → f (st l s) (hp l s) = some (fin s)) (h0 : P [] s0)
  (hP : ∀ pre x rest s s', l = pre ++ x :: rest → P pre s → body pre x s = .go s' → P (pre ++ [x]) s')
  (hk1 : ∀ s, P l s → k (fin s) = K1 s) (hk2 : ∀ pre x rest s r, l = pre ++ x :: rest → P pre s → body pre x s = .out r → k (out pre s r) = K2 r)
  (hfin : ∀ s, (fin s).1 ≠ .normal := by intros; simp) (hout : ∀ pre s r, (out pre s r).1 ≠ .normal := by intros; simp) {v : List AV} {σ : Heap} (hv : v = st [] s0 := by rfl) (hσ : σ = hp [] s0 := by rfl) :
  (A.loop f v σ).bind k = (runP body [] l s0).el K1 K2 := by
 have key : ∀ (rest pre : List α) (s : S), l = pre ++ rest → P pre s → ∃ q, (∃ n, A.iter f n (st pre s) (hp pre s) = some q) ∧ k q = (runP body pre rest s).el K1 K2 := by
  intro rest
  induction rest with
  | nil =>
   intro pre s hl hp'
   rw [List.append_nil] at hl
   subst hl
   exact ⟨fin s, loop_done (hend s hp') (hfin s), by rw [runP, el_go, hk1 s hp']⟩
  | cons x rest ih =>
   intro pre s hl hp'
   have h := hstep pre x rest s hl hp'
   rw [runP]
   cases hb : body pre x s with
   | go s' =>
    rw [hb] at h
    obtain ⟨q, h1, h2⟩ := ih (pre ++ [x]) s' (by simpa using hl) (hP pre x rest s s' hl hp' hb)
    exact ⟨q, loop_step h h1, h2⟩
   | out r =>
    rw [hb] at h
    exact ⟨out pre s r, loop_done h (hout pre s r), by rw [el_out, hk2 pre x rest s r hl hp' hb]⟩
 obtain ⟨q, ⟨n, h1⟩, h2⟩ := key l [] s0 rfl h0
 rw [hv, hσ, loop_of_iter h1, Option.bind_some, h2]
theorem runP_fault {α : Type} {body : List α → α → Unit → Rd Unit Int} {chk : List α → List α → Int} (h0 : ∀ pre, chk pre [] = 0) (h : ∀ pre x rest, chk pre (x :: rest) = (body pre x ()).el (fun _ => chk (pre ++ [x]) rest) (fun r => r)) {γ : Type} (K : Int → γ) :
  ∀ (l pre : List α), (runP body pre l ()).el (fun _ => K 0) K = K (chk pre l)
 | [], pre => by rw [runP, h0]; rfl
 | x :: l, pre => by
  rw [runP, h]
  cases body pre x () with
  | go s => exact runP_fault h0 h K l (pre ++ [x])
  | out r => rfl
theorem pre_get {α : Type} {l pre rest : List α} {x : α} (h : l = pre ++ x :: rest) : l[pre.length]? = some x := by rw [h]; simp
theorem pre_lt {α : Type} {l pre rest : List α} {x : α} (h : l = pre ++ x :: rest) : pre.length < l.length := by rw [h]; simp
theorem pre_last {α : Type} {l pre rest : List α} {x : α} (h : l = pre ++ x :: rest) (h0 : 0 < pre.length) : ∃ y, pre.getLast? = some y ∧ l[pre.length - 1]? = some y := by
 cases hp : pre.getLast? with
 | none => rw [List.getLast?_eq_none_iff] at hp; subst hp; simp at h0
 | some y =>
  refine ⟨y, rfl, ?_⟩
  rw [h, List.getElem?_append_left (by omega), ← hp, List.getLast?_eq_getElem?]
theorem all_loop {γ : Type} {p : UInt8 → Bool} {f : List AV → Heap → Option (AX × List AV × Heap)} (s : ByteArray) {σ : Heap} {k : AX × List AV × Heap → Option γ} (K2 : Option γ)
  (hstep : ∀ (i : Nat) (c : UInt8), i < s.size → A.sidx (.str s) (.int .i64 (i : Int)) = some (.int .u8 c.toNat) → f [.bool false, .int .i64 (i : Int)] σ = if p c = true then some (.normal, [.bool false, .int .i64 ((i : Int) + 1)], σ) else some (.ret, [.bool false, .int .i64 (i : Int)], σ))
  (hend : f [.bool false, .int .i64 (s.size : Int)] σ = some (.exit 0, [.bool false, .int .i64 (s.size : Int)], σ)) (hk2 : ∀ i : Int, k (.ret, [.bool false, .int .i64 i], σ) = K2) :
  (A.loop f [.bool false, .int .i64 0] σ).bind k = if s.data.toList.all p = true then k (.exit 0, [.bool false, .int .i64 (s.size : Int)], σ) else K2 := by
 have hsz : s.data.toList.length = s.size := rfl
 refine (loop_pre (S := Unit) (R := Unit) s.data.toList (fun _ c _ => if p c = true then .go () else .out ()) (fun pre _ => [.bool false, .int .i64 (pre.length : Int)]) (fun _ _ => σ) (fun _ => (.exit 0, [.bool false, .int .i64 (s.size : Int)], σ)) (fun pre _ _ => (.ret, [.bool false, .int .i64 (pre.length : Int)], σ)) (fun _ _ => True) ()
  (fun _ => k (.exit 0, [.bool false, .int .i64 (s.size : Int)], σ)) (fun _ => K2) ?_ ?_ trivial (fun _ _ _ _ _ _ _ _ => trivial) (fun _ _ => rfl) (fun _ _ _ _ _ _ _ _ => hk2 _)).trans ?_
 ·intro pre c rest u hl _
  have hlt := pre_lt hl
  have hc := pre_get hl
  rw [hsz] at hlt
  have hsi : A.sidx (.str s) (.int .i64 (pre.length : Int)) = some (.int .u8 c.toNat) := by
   have h2 : s[pre.length] = c := (List.getElem?_eq_some_iff.1 hc).2
   simp [A.sidx, A.idx, hlt, h2]
  rw [hstep pre.length c hlt hsi]
  cases p c <;> simp [Rd.el]
 ·intro u _; rw [hsz]; exact hend
 ·have key : ∀ (l pre : List UInt8), (runP (fun (_ : List UInt8) c (_ : Unit) => if p c = true then (Rd.go () : Rd Unit Unit) else .out ()) pre l ()).el (fun _ => k (.exit 0, [.bool false, .int .i64 (s.size : Int)], σ)) (fun _ => K2) = if l.all p = true then k (.exit 0, [.bool false, .int .i64 (s.size : Int)], σ) else K2 := by
   intro l
   induction l with
   | nil => intro pre; simp [runP, Rd.el]
   | cons c l ih =>
    intro pre
    rw [runP]
    cases hc : p c
    ·simp [hc, Rd.el]
    ·simp only [if_true]
     rw [ih]
     simp [hc]
  exact key s.data.toList []
section
variable {α : Type} (g : α → ByteArray) (gi : α → Int) (v : α → AV)
theorem find_z (k : ByteArray) : ∀ (l : List α), A.find .z (.str k) (l.map fun x => (AV.str (g x), v x)) = some ((l.find? fun x => decide (k = g x)).map v)
 | [] => rfl
 | x :: l => by
  simp only [List.map_cons, A.find, A.eqK, A.eqZ, Option.bind_some, List.find?]
  by_cases h : k = g x
  ·rw [bq]; simp [h]
  ·rw [bq]; simp [h, find_z k l]
theorem find_i (kk : IntKind) (k : Int) : ∀ (l : List α), A.find .i (.int kk k) (l.map fun x => (AV.int kk (gi x), v x)) = some ((l.find? fun x => decide (k = gi x)).map v)
 | [] => rfl
 | x :: l => by
  simp only [List.map_cons, A.find, A.eqK, A.eqI, if_true, Option.bind_some, List.find?]
  by_cases h : k = gi x
  ·have : (k == gi x) = true := by simpa using h
   simp [this, h]
  ·have : (k == gi x) = false := by simpa using h
   simp [this, h, find_i kk k l]
theorem upd_z {k : ByteArray} {w : AV} : ∀ {l : List α}, (∀ x ∈ l, g x ≠ k) → A.upd .z (.str k) w (l.map fun x => (AV.str (g x), v x)) = some ((l.map fun x => (AV.str (g x), v x)) ++ [(.str k, w)])
 | [], _ => rfl
 | x :: l, h => by
  have h1 : (k == g x) = false := by rw [bq]; exact decide_eq_false fun e : k = g x => h x (by simp) e.symm
  simp only [List.map_cons, A.upd, A.eqK, A.eqZ, Option.bind_some, h1, cond_false]
  rw [upd_z (fun y hy => h y (by simp [hy]))]
  rfl
theorem upd_i {kk : IntKind} {k : Int} {w : AV} : ∀ {l : List α}, (∀ x ∈ l, gi x ≠ k) → A.upd .i (.int kk k) w (l.map fun x => (AV.int kk (gi x), v x)) = some ((l.map fun x => (AV.int kk (gi x), v x)) ++ [(.int kk k, w)])
 | [], _ => rfl
 | x :: l, h => by
  have h1 : (k == gi x) = false := by simpa using fun e : k = gi x => h x (by simp) e.symm
  simp only [List.map_cons, A.upd, A.eqK, A.eqI, if_true, Option.bind_some, h1, cond_false]
  rw [upd_i (fun y hy => h y (by simp [hy]))]
  rfl
end
theorem look_at (e : A.EK) {k z : AV} {σ : Heap} {id : Nat} {es : List (AV × AV)} (hk : A.keyOk e k = true) (h : σ[id]? = some (.map es)) : A.look e (.om id) k z σ = (A.find e k es).map fun r => r.getD z := by
 simp [A.look, hk, A.entries, h]
theorem mupd_at (e : A.EK) {k w : AV} {σ : Heap} {id : Nat} {es : List (AV × AV)} (hk : A.keyOk e k = true) (h : σ[id]? = some (.map es)) : A.mupd e (.om id) k w σ = (A.upd e k w es).map fun es => σ.set id (.map es) := by
 simp [A.mupd, hk, h]
theorem len_snoc {α : Type} (l : List α) (x : α) : (((l ++ [x]).length : Nat) : Int) = (l.length : Int) + 1 := by simp
theorem iaddr_pred {α : Type} (sz : Nat) (c : α → List AV) (l : List α) {k : Nat} {x : α} (h0 : 0 < k) (h : l[k - 1]? = some x) : A.iaddr sz (sl sz c l) (.int .i64 ((k : Int) - 1)) = some (.rp (c x)) := by
 have := iaddr_sl sz c l h
 rwa [show ((k - 1 : Nat) : Int) = (k : Int) - 1 by omega] at this
def setZ {α : Type} (g : α → ByteArray) (l : List α) : List (AV × AV) := l.map fun x => (AV.str (g x), AV.bool true)
def setI {α : Type} (g : α → Int) (l : List α) : List (AV × AV) := l.map fun x => (AV.int .i64 (g x), AV.bool true)
theorem any_find {α : Type} (p : α → Bool) : ∀ (l : List α), ((l.find? p).map fun _ => AV.bool true).getD (AV.bool false) = AV.bool (l.any p)
 | [] => rfl
 | x :: l => by
  simp only [List.find?, List.any_cons]
  cases h : p x
  ·simpa using any_find p l
  ·rfl
theorem setZ_find {α : Type} (g : α → ByteArray) (k : ByteArray) (l : List α) : (A.find .z (.str k) (setZ g l)).map (fun r => r.getD (.bool false)) = some (.bool (memB k (l.map g))) := by
 unfold setZ
 rw [find_z g (fun _ => AV.bool true) k l, Option.map_some, any_find]
 refine congrArg some (congrArg AV.bool ?_)
 rw [Bool.eq_iff_iff, memB_iff]
 simp only [List.any_eq_true, decide_eq_true_eq, List.mem_map]
 exact ⟨fun ⟨x, h, e⟩ => ⟨x, h, e.symm⟩, fun ⟨x, h, e⟩ => ⟨x, h, e.symm⟩⟩
theorem setI_find {α : Type} (g : α → Int) (k : Int) (l : List α) : (A.find .i (.int .i64 k) (setI g l)).map (fun r => r.getD (.bool false)) = some (.bool (memB k (l.map g))) := by
 unfold setI
 rw [find_i g (fun _ => AV.bool true) .i64 k l, Option.map_some, any_find]
 refine congrArg some (congrArg AV.bool ?_)
 rw [Bool.eq_iff_iff, memB_iff]
 simp only [List.any_eq_true, decide_eq_true_eq, List.mem_map]
 exact ⟨fun ⟨x, h, e⟩ => ⟨x, h, e.symm⟩, fun ⟨x, h, e⟩ => ⟨x, h, e.symm⟩⟩
section
variable {α : Type} (g : α → ByteArray) (gi : α → Int) (l : List α) (k : ByteArray) (n : Int) (σ bs : Heap) (b0 : Blk)
theorem setZ_look0 : A.look .z (.om σ.length) (.str k) (.bool false) (σ ++ Blk.map (setZ g l) :: bs) = some (.bool (memB k (l.map g))) := by
 rw [look_at .z rfl (by rw [hat0]; rfl), setZ_find]
theorem setI_look0 : A.look .i (.om σ.length) (.int .i64 n) (.bool false) (σ ++ Blk.map (setI gi l) :: bs) = some (.bool (memB n (l.map gi))) := by
 rw [look_at .i rfl (by rw [hat0]; rfl), setI_find]
theorem setZ_look1 : A.look .z (.om (σ.length + 1)) (.str k) (.bool false) (σ ++ b0 :: Blk.map (setZ g l) :: bs) = some (.bool (memB k (l.map g))) := by
 rw [look_at .z rfl (by rw [hat]; rfl), setZ_find]
theorem setI_look1 : A.look .i (.om (σ.length + 1)) (.int .i64 n) (.bool false) (σ ++ b0 :: Blk.map (setI gi l) :: bs) = some (.bool (memB n (l.map gi))) := by
 rw [look_at .i rfl (by rw [hat]; rfl), setI_find]
theorem setZ_upd0 (h : memB k (l.map g) = false) : A.mupd .z (.om σ.length) (.str k) (.bool true) (σ ++ Blk.map (setZ g l) :: bs) = some (σ ++ Blk.map (setZ g l ++ [(.str k, .bool true)]) :: bs) := by
 rw [mupd_at .z rfl (by rw [hat0]; rfl), setZ, upd_z g _ (fun x hx e => memB_false.1 h (by rw [← e]; exact List.mem_map_of_mem hx)), Option.map_some, hset0]; rfl
theorem setI_upd0 (h : memB n (l.map gi) = false) : A.mupd .i (.om σ.length) (.int .i64 n) (.bool true) (σ ++ Blk.map (setI gi l) :: bs) = some (σ ++ Blk.map (setI gi l ++ [(.int .i64 n, .bool true)]) :: bs) := by
 rw [mupd_at .i rfl (by rw [hat0]; rfl), setI, upd_i gi _ (fun x hx e => memB_false.1 h (by rw [← e]; exact List.mem_map_of_mem hx)), Option.map_some, hset0]; rfl
theorem setZ_upd1 (h : memB k (l.map g) = false) : A.mupd .z (.om (σ.length + 1)) (.str k) (.bool true) (σ ++ b0 :: Blk.map (setZ g l) :: bs) = some (σ ++ b0 :: Blk.map (setZ g l ++ [(.str k, .bool true)]) :: bs) := by
 rw [mupd_at .z rfl (by rw [hat]; rfl), setZ, upd_z g _ (fun x hx e => memB_false.1 h (by rw [← e]; exact List.mem_map_of_mem hx)), Option.map_some, hset]; rfl
theorem setI_upd1 (h : memB n (l.map gi) = false) : A.mupd .i (.om (σ.length + 1)) (.int .i64 n) (.bool true) (σ ++ b0 :: Blk.map (setI gi l) :: bs) = some (σ ++ b0 :: Blk.map (setI gi l ++ [(.int .i64 n, .bool true)]) :: bs) := by
 rw [mupd_at .i rfl (by rw [hat]; rfl), setI, upd_i gi _ (fun x hx e => memB_false.1 h (by rw [← e]; exact List.mem_map_of_mem hx)), Option.map_some, hset]; rfl
end
theorem setZ_snoc {α : Type} (g : α → ByteArray) (l : List α) (x : α) : setZ g (l ++ [x]) = setZ g l ++ [(.str (g x), .bool true)] := by simp [setZ]
theorem quiet_same (σ : Heap) (v : AV) : A.quiet (some (v, σ)) σ = some v := by simp [A.quiet]
def Fz (a : AV) : Prop := ∀ σ n d, A.frz σ n d a = some a
def FzL (l : List AV) : Prop := ∀ σ n d, A.frzL σ n d l = some l
theorem fz_int (k : IntKind) (n : Int) : Fz (.int k n) := fun _ _ d => by cases d <;> simp [A.frz]
theorem fz_bool (b : Bool) : Fz (.bool b) := fun _ _ d => by cases d <;> simp [A.frz]
theorem fz_str (s : ByteArray) : Fz (.str s) := fun _ _ d => by cases d <;> simp [A.frz]
theorem fz_nsl : Fz .nsl := fun _ _ d => by cases d <;> simp [A.frz]
theorem fz_agg {l : List AV} (h : FzL l) : Fz (.agg l) := fun σ n d => by cases d <;> simp [A.frz, h σ n]
theorem fzL_nil : FzL [] := fun _ _ _ => by simp [A.frzL]
theorem fzL_cons {a : AV} {l : List AV} (h : Fz a) (k : FzL l) : FzL (a :: l) := fun σ n d => by simp [A.frzL, h σ n d, k σ n d]
theorem fz_sl {α : Type} {sz : Nat} {c : α → List AV} (h : ∀ x, FzL (c x)) (l : List α) : Fz (sl sz c l) := by
 intro σ n d
 have : A.frzLL σ n d (l.map c) = some (l.map c) := by
  induction l with
  | nil => simp [A.frzLL]
  | cons x l ih => simp [A.frzLL, h x σ n d, ih]
 cases d <;> simp [sl, A.frz, this]
theorem fzLL {α : Type} {c : α → List AV} (h : ∀ x, FzL (c x)) (l : List α) (σ : Heap) (n d : Nat) : A.frzLL σ n d (l.map c) = some (l.map c) := by
 induction l with
 | nil => simp [A.frzLL]
 | cons x l ih => simp [A.frzLL, h x σ n d, ih]
def ownV {α : Type} (id sz : Nat) (l : List α) : AV := if l = [] then .nsl else .os id l.length sz 0 l.length
def ownB {α : Type} (sz : Nat) (c : α → List AV) (l : List α) : Heap := if l = [] then [] else [.arr l.length sz (l.map c)]
theorem ownB_nil {α : Type} (sz : Nat) (c : α → List AV) : ownB sz c [] = [] := rfl
theorem own_append {α : Type} {sz most : Nat} (c : α → List AV) (l : List α) (x : α) (σ : Heap) (h : l.length + 1 ≤ most) : A.append sz most (ownV σ.length sz l) (.sl sz [c x]) (σ ++ ownB sz c l) = some (ownV σ.length sz (l ++ [x]), σ ++ ownB sz c (l ++ [x])) := by
 unfold ownV ownB
 cases l with
 | nil =>
  have h1 : 1 ≤ most := by simpa using h
  simp [A.append, A.appendL, A.elems, h1]
 | cons y l =>
  have h1 : l.length + 1 + 1 ≤ most := by simpa using h
  simp [A.append, A.appendL, A.elems, h1, hat0, hset0, Nat.add_assoc, List.take_of_length_le]
theorem own_frz {α : Type} {sz : Nat} {c : α → List AV} (hc : ∀ x, FzL (c x)) (l : List α) (σ : Heap) (d : Nat) : A.frz (σ ++ ownB sz c l) σ.length (d + 1) (ownV σ.length sz l) = some (if l = [] then .nsl else sl sz c l) := by
 unfold ownV ownB
 split
 ·simp [A.frz]
 ·rename_i hl
  simp only [A.frz, Nat.lt_irrefl, if_false, hat0, List.getElem?_cons_zero]
  rw [if_pos (by simp)]
  have e : (List.take l.length (List.drop 0 (l.map c))) = l.map c := by simp [List.take_of_length_le]
  rw [e, frzLL_eq, fzLL hc]
  rfl
theorem fin_own2 {α : Type} {sz : Nat} {c : α → List AV} (hc : ∀ x, FzL (c x)) (l : List α) (k : IntKind) (n : Int) (σ : Heap) : A.fin σ (.tup [ownV σ.length sz l, .int k n]) (σ ++ ownB sz c l) = some (.tup [if l = [] then .nsl else sl sz c l, .int k n], σ) := by
 unfold A.fin
 split
 ·rename_i h
  have : ownB sz c l = [] := by simpa using h
  have hl : l = [] := by
   unfold ownB at this
   split at this
   ·assumption
   ·cases this
  subst hl; rfl
 ·rw [if_pos (by simp)]
  have : A.frz (σ ++ ownB sz c l) σ.length 8 (.tup [ownV σ.length sz l, .int k n]) = some (.tup [if l = [] then .nsl else sl sz c l, .int k n]) := by
   simp only [A.frz, A.frzL, own_frz hc, fz_int k n _ _ _, Option.bind_some, Option.map_some]
  rw [this]; rfl
theorem nn_own {α : Type} (sz : Nat) (c : α → List AV) (l : List α) : A.nn (.s sz) (if l = [] then .nsl else sl sz c l) = sl sz c l := by
 split
 ·rename_i h; subst h; rfl
 ·rfl
def idxI {α : Type} (p : α → Bool) (l : List α) : Int := match l.findIdx? p with | some i => i | none => -1
theorem idxI_cases {α : Type} (p : α → Bool) (l : List α) : (idxI p l = -1 ∧ (∀ x ∈ l, p x = false) ∧ l.find? p = none) ∨ ∃ (k : Nat) (x : α), l[k]? = some x ∧ p x = true ∧ idxI p l = k ∧ l.find? p = some x ∧ ∀ (j : Nat) (y : α), j < k → l[j]? = some y → p y = false := by
 induction l with
 | nil => left; exact ⟨rfl, by simp, rfl⟩
 | cons x l ih =>
  cases h : p x
  ·rcases ih with ⟨h1, h2, h3⟩ | ⟨k, y, h1, h2, h3, h4, h5⟩
   ·left
    refine ⟨?_, ?_, ?_⟩
    ·unfold idxI at h1 ⊢
     rw [List.findIdx?_cons, h]
     cases hf : l.findIdx? p with
     | none => simp
     | some i => rw [hf] at h1; simp at h1
    ·intro y hy
     rcases List.mem_cons.1 hy with rfl | hy
     ·exact h
     ·exact h2 y hy
    ·simp [List.find?, h, h3]
   ·right
    refine ⟨k + 1, y, by simpa using h1, h2, ?_, by simp [List.find?, h, h4], ?_⟩
    ·unfold idxI at h3 ⊢
     rw [List.findIdx?_cons, h]
     cases hf : l.findIdx? p with
     | none => rw [hf] at h3; simp at h3
     | some i => rw [hf] at h3; simp at h3 ⊢; omega
    ·intro j z hj hz
     cases j with
     | zero => simp at hz; subst hz; exact h
     | succ j => exact h5 j z (by omega) (by simpa using hz)
  ·right
   refine ⟨0, x, rfl, h, ?_, by simp [List.find?, h], by intro j y hj; omega⟩
   unfold idxI
   rw [List.findIdx?_cons, h]; rfl
theorem idxI_run {α : Type} {γ : Type} (p : α → Bool) (K1 : Option γ) (K2 : Int → Option γ) : ∀ (l pre : List α), (∀ x ∈ pre, p x = false) → (runP (fun pre x (_ : Unit) => if p x = true then (Rd.out (pre.length : Int) : Rd Unit Int) else .go ()) pre l ()).el (fun _ => K1) K2 = if idxI p (pre ++ l) = -1 then K1 else K2 (idxI p (pre ++ l))
 | [], pre, h => by
  have : idxI p (pre ++ []) = -1 := by
   rcases idxI_cases p (pre ++ []) with h1 | ⟨k, x, h1, h2, _⟩
   ·exact h1.1
   ·have := h x (by have := List.mem_of_getElem? h1; simpa using this)
    rw [h2] at this; cases this
  rw [runP, el_go, if_pos this]
 | x :: l, pre, h => by
  rw [runP]
  cases hx : p x
  ·simp only [Bool.false_eq_true, if_false]
   have := idxI_run p K1 K2 l (pre ++ [x]) (fun y hy => by
    rcases List.mem_append.1 hy with hy | hy
    ·exact h y hy
    ·simp at hy; subst hy; exact hx)
   simpa using this
  ·simp only [if_true, el_out]
   have : idxI p (pre ++ x :: l) = pre.length := by
    rcases idxI_cases p (pre ++ x :: l) with h1 | ⟨k, y, h1, h2, h3, _, h5⟩
    ·have := h1.2.1 x (by simp); rw [hx] at this; cases this
    ·rw [h3]
     rcases Nat.lt_trichotomy k pre.length with hk | hk | hk
     ·rw [List.getElem?_append_left hk] at h1
      have := h y (List.mem_of_getElem? h1); rw [h2] at this; cases this
     ·omega
     ·have := h5 pre.length x hk (by simp); rw [hx] at this; cases this
   rw [this, if_neg (by omega)]
theorem runP_any {α R γ : Type} (p : α → Bool) (r : R) (K1 : Unit → γ) (K2 : R → γ) : ∀ (l pre : List α), (runP (fun _ x (_ : Unit) => if p x = true then (Rd.out r : Rd Unit R) else .go ()) pre l ()).el K1 K2 = if l.any p = true then K2 r else K1 ()
 | [], pre => by simp [runP, Rd.el]
 | x :: l, pre => by
  rw [runP]
  cases h : p x
  ·simp only [Bool.false_eq_true, if_false]
   rw [runP_any p r K1 K2 l (pre ++ [x])]
   simp [h]
  ·simp [h, Rd.el]
theorem sliceS_take {α : Type} (sz : Nat) (c : α → List AV) (l : List α) {k : Nat} (h : k ≤ l.length) {σ : Heap} : A.sliceS sz (sl sz c l) none (some (.int .i64 (k : Int))) σ = some (sl sz c (l.take k)) := by
 simp [A.sliceS, sl, A.bound, h, List.map_take]
theorem pre_take {α : Type} {l pre rest : List α} {x : α} (h : l = pre ++ x :: rest) : l.take pre.length = pre := by rw [h]; simp
theorem setI_fold (l : List Int) (n : Int) : setI id l ++ [(.int .i64 n, .bool true)] = setI id (l ++ [n]) := by simp [setI]
theorem memB_snoc {κ : Type} [DecidableEq κ] (k x : κ) (S : List κ) : memB k (S ++ [x]) = (memB k S || decide (x = k)) := by simp [memB]
theorem nn_e {α : Type} {sz : Nat} {c : α → List AV} {sh : List Sh} (h : ∀ x, A.nnL sh (c x) = c x) (l : List α) : A.nn (.e sz sh) (sl sz c l) = sl sz c l := by
 simp only [sl, A.nn, List.map_map]
 congr 1
 exact List.map_congr_left fun x _ => h x
theorem nn_eNil (sz : Nat) (sh : List Sh) : A.nn (.e sz sh) .nsl = .sl sz [] := by simp [A.nn]
theorem loop_any {α γ : Type} {f : List AV → Heap → Option (AX × List AV × Heap)} (l : List α) (p : α → Bool) (vs : Nat → List AV) (σ : Heap) (fin : AX × List AV × Heap) (ret : Nat → AX × List AV × Heap) {k : AX × List AV × Heap → Option γ} (K1 K2 : Option γ)
  (hstep : ∀ (i : Nat) (x : α), l[i]? = some x → f (vs i) σ = if p x = true then some (ret i) else some (.normal, vs (i + 1), σ)) (hend : f (vs l.length) σ = some fin) (hk1 : k fin = K1) (hk2 : ∀ i, k (ret i) = K2)
  (hfin : fin.1 ≠ .normal := by simp) (hret : ∀ i, (ret i).1 ≠ .normal := by intros; simp) {v : List AV} {σ' : Heap} (hv : v = vs 0 := by rfl) (hσ : σ' = σ := by rfl) :
  (A.loop f v σ').bind k = if l.any p = true then K2 else K1 := by
 subst hv hσ
 refine (loop_pre (S := Unit) (R := Unit) l (fun _ x _ => if p x = true then .out () else .go ()) (fun pre _ => vs pre.length) (fun _ _ => σ') (fun _ => fin) (fun pre _ _ => ret pre.length) (fun _ _ => True) () (fun _ => K1) (fun _ => K2)
  ?_ (fun _ _ => hend) trivial (fun _ _ _ _ _ _ _ _ => trivial) (fun _ _ => hk1) (fun _ _ _ _ _ _ _ _ => hk2 _) (fun _ => hfin) (fun _ _ _ => hret _)).trans (runP_any p () _ _ l [])
 intro pre x rest u hl _
 rw [hstep pre.length x (pre_get hl)]
 cases p x <;> simp [Rd.el]
theorem memB_map {α κ : Type} [DecidableEq κ] (k : κ) (g : α → κ) (l : List α) : memB k (l.map g) = l.any fun x => decide (g x = k) := by simp [memB, List.any_map]; rfl
theorem iaddr_at {α : Type} (sz : Nat) (c : α → List AV) {l : List α} {k : Nat} {x : α} (h : l[k]? = some x) : A.iaddr sz (sl sz c l) (.int .i64 (k : Int)) = some (.rp (c x)) ∧ (k : Int) < (l.length : Int) ∧ (l.length ≤ mxl → IntKind.i64.wrap ((k : Int) + 1) = (k : Int) + 1) :=
 ⟨iaddr_sl sz c l h, by have := (List.getElem?_eq_some_iff.1 h).1; omega, fun hl => wrap64 (by have := (List.getElem?_eq_some_iff.1 h).1; unfold inI; unfold mxl at hl; omega)⟩
theorem loop_find {α γ : Type} {f : List AV → Heap → Option (AX × List AV × Heap)} (l : List α) (p : α → Bool) (vs : Nat → List AV) (σ : Heap) (fin : AX × List AV × Heap) (ret : Nat → α → AX × List AV × Heap) {k : AX × List AV × Heap → Option γ} (K1 : Option γ) (K2 : α → Option γ)
  (hstep : ∀ (i : Nat) (x : α), l[i]? = some x → f (vs i) σ = if p x = true then some (ret i x) else some (.normal, vs (i + 1), σ)) (hend : f (vs l.length) σ = some fin) (hk1 : k fin = K1) (hk2 : ∀ i x, k (ret i x) = K2 x)
  (hfin : fin.1 ≠ .normal := by simp) (hret : ∀ i x, (ret i x).1 ≠ .normal := by intros; simp) {v : List AV} {σ' : Heap} (hv : v = vs 0 := by rfl) (hσ : σ' = σ := by rfl) :
  (A.loop f v σ').bind k = (l.find? p).elim K1 K2 := by
 subst hv hσ
 have run : ∀ (l pre : List α), (runP (fun _ x (_ : Unit) => if p x = true then (Rd.out x : Rd Unit α) else .go ()) pre l ()).el (fun _ => K1) K2 = (l.find? p).elim K1 K2 := by
  intro l
  induction l with
  | nil => intro pre; rfl
  | cons x l ih =>
   intro pre
   rw [runP]
   cases h : p x
   ·simp only [Bool.false_eq_true, if_false]
    rw [ih, List.find?_cons, h]
   ·simp [h, Rd.el]
 refine (loop_pre (S := Unit) (R := α) l (fun _ x _ => if p x = true then .out x else .go ()) (fun pre _ => vs pre.length) (fun _ _ => σ') (fun _ => fin) (fun pre _ x => ret pre.length x) (fun _ _ => True) () (fun _ => K1) K2
  ?_ (fun _ _ => hend) trivial (fun _ _ _ _ _ _ _ _ => trivial) (fun _ _ => hk1) (fun _ _ _ _ _ _ _ _ => hk2 _ _) (fun _ => hfin) (fun _ _ _ => hret _ _)).trans (run l [])
 intro pre x rest u hl _
 rw [hstep pre.length x (pre_get hl)]
 cases p x <;> simp [Rd.el]
theorem loop_idx {α γ : Type} {f : List AV → Heap → Option (AX × List AV × Heap)} (l : List α) (p : α → Bool) (vs : Nat → List AV) (σ : Heap) (fin : AX × List AV × Heap) (ret : Nat → AX × List AV × Heap) {k : AX × List AV × Heap → Option γ} (K1 : Option γ) (K2 : Int → Option γ)
  (hstep : ∀ (i : Nat) (x : α), l[i]? = some x → f (vs i) σ = if p x = true then some (ret i) else some (.normal, vs (i + 1), σ)) (hend : f (vs l.length) σ = some fin) (hk1 : k fin = K1) (hk2 : ∀ i : Nat, k (ret i) = K2 i)
  (hfin : fin.1 ≠ .normal := by simp) (hret : ∀ i, (ret i).1 ≠ .normal := by intros; simp) {v : List AV} {σ' : Heap} (hv : v = vs 0 := by rfl) (hσ : σ' = σ := by rfl) :
  (A.loop f v σ').bind k = if idxI p l = -1 then K1 else K2 (idxI p l) := by
 subst hv hσ
 refine (loop_pre (S := Unit) (R := Int) l (fun pre x _ => if p x = true then .out (pre.length : Int) else .go ()) (fun pre _ => vs pre.length) (fun _ _ => σ') (fun _ => fin) (fun pre _ _ => ret pre.length) (fun _ _ => True) () (fun _ => K1) K2
  ?_ (fun _ _ => hend) trivial (fun _ _ _ _ _ _ _ _ => trivial) (fun _ _ => hk1) ?_ (fun _ => hfin) (fun _ _ _ => hret _)).trans ?_
 ·intro pre x rest u hl _
  rw [hstep pre.length x (pre_get hl)]
  cases p x <;> simp [Rd.el]
 ·intro pre x rest s r hl _ hb
  rw [hk2]
  cases h : p x
  ·rw [h] at hb; cases hb
  ·rw [h] at hb; simp at hb; rw [hb]
 ·have := idxI_run p K1 K2 l [] (by simp)
  simpa using this
theorem hend_lss {α : Type} (n : Int) (B : AV → Option α) (s : Option α) : ((A.lss (.int .i64 n) (.int .i64 n)).bind fun x => A.cond x (B x) s) = s := by
 simp only [aLss, Int.lt_irrefl, Option.bind_some, decide_false, cF]
section
variable {α β : Type}
theorem cond_lazy {c c' : AV} (h : c = c') (t e : Option α) : A.cond c t e = A.cond c' t e := by rw [h]
theorem guard_lazy {c c' : AV} (h : c = c') (w : Bool) (e d : Option α) : A.guard c w e d = A.guard c' w e d := by rw [h]
theorem bind_lazy {x y : Option α} (h : x = y) (f : α → Option β) : x.bind f = y.bind f := by rw [h]
attribute [congr] cond_lazy guard_lazy bind_lazy
end
theorem MSb : type_of% @Option.bind_some.{0,0} ∧ type_of% @Option.map_some.{0,0} ∧ type_of% @cT ∧ type_of% @cF ∧ type_of% @gTT ∧ type_of% @gTF ∧ type_of% @gFT ∧ type_of% @gFF ∧ type_of% @gN ∧ type_of% @pT ∧ type_of% @pF ∧ type_of% @cond_true.{1} ∧ type_of% @cond_false.{1} ∧ type_of% @xN ∧ type_of% @aAdd ∧ type_of% @aSub ∧ type_of% @aMul ∧ type_of% @aLss ∧ type_of% @aLeq ∧ type_of% @aGtr ∧ type_of% @aGeq ∧ type_of% @aLss8 ∧ type_of% @aLeq8 ∧ type_of% @aGtr8 ∧ type_of% @aGeq8 ∧ type_of% @aEq ∧ type_of% @aNe ∧ type_of% @aEqZ ∧ type_of% @aNeZ ∧ type_of% @aNot ∧ type_of% @aNotD ∧ type_of% @aLb ∧ type_of% @aExt0 ∧ type_of% @aExt1 ∧ type_of% @aExt2 ∧ type_of% @aExt3 ∧ type_of% @aDe ∧ type_of% @aFa ∧ type_of% @aLenZ ∧ type_of% @aCI ∧ type_of% @aCB ∧ type_of% @aCS ∧ type_of% @aCSl ∧ type_of% @p1D ∧ type_of% @gd0 ∧ type_of% @gd1 ∧ type_of% @gd2 ∧ type_of% @gd3 ∧ type_of% @gd4 ∧ type_of% @gd5 ∧ type_of% @gd6 ∧ type_of% @gd7 ∧ type_of% @gd8 ∧ type_of% @fin_same ∧ type_of% @fin_int ∧ type_of% @fin_bool ∧ type_of% @fin_str ∧ type_of% @fin_unit ∧ type_of% @lenS_sl ∧ type_of% @ite_true.{1} ∧ type_of% @ite_false.{1} ∧ type_of% @if_true.{1} ∧ type_of% @if_false.{1} ∧ type_of% @Bool.false_eq_true ∧ type_of% @not_true_eq_false ∧ type_of% @not_false_eq_true ∧ type_of% @decide_true ∧ type_of% @decide_false ∧ type_of% @Bool.not_true ∧ type_of% @Bool.not_false ∧ type_of% @List.append_assoc.{0} ∧ type_of% @List.cons_append.{0} ∧ type_of% @List.nil_append.{0} ∧ type_of% @List.drop_zero.{0} ∧ type_of% @p1_cInt ∧ type_of% @p1_cStr ∧ type_of% @len_snoc ∧ type_of% @Int.natCast_add ∧ type_of% @Int.cast_ofNat_Int ∧ type_of% @quiet_same ∧ type_of% @el_go ∧ type_of% @el_out ∧ type_of% @el_ite ∧ type_of% @setZ_look0 ∧ type_of% @setI_look0 ∧ type_of% @setZ_look1 ∧ type_of% @setI_look1 ∧ type_of% @setZ_snoc ∧ type_of% @setZ_upd0 ∧ type_of% @setI_upd0 ∧ type_of% @setZ_upd1 ∧ type_of% @setI_upd1 ∧ type_of% @true_and ∧ type_of% @and_true ∧ type_of% @false_and ∧ type_of% @and_false ∧ type_of% @true_or ∧ type_of% @or_true ∧ type_of% @false_or ∧ type_of% @or_false ∧ type_of% @Option.getD_some.{0} ∧ type_of% @Option.getD_none.{0} ∧ type_of% @List.length_append.{0} ∧ type_of% @List.length_cons.{0} ∧ type_of% @List.length_nil.{0} ∧ type_of% @Nat.zero_add ∧ type_of% @Nat.add_zero :=
 ⟨@Option.bind_some.{0,0}, @Option.map_some.{0,0}, @cT, @cF, @gTT, @gTF, @gFT, @gFF, @gN, @pT, @pF, @cond_true.{1}, @cond_false.{1}, @xN, @aAdd, @aSub, @aMul, @aLss, @aLeq, @aGtr, @aGeq, @aLss8, @aLeq8, @aGtr8, @aGeq8, @aEq, @aNe, @aEqZ, @aNeZ, @aNot, @aNotD, @aLb, @aExt0, @aExt1, @aExt2, @aExt3, @aDe, @aFa, @aLenZ, @aCI, @aCB, @aCS, @aCSl, @p1D, @gd0, @gd1, @gd2, @gd3, @gd4, @gd5, @gd6, @gd7, @gd8, @fin_same, @fin_int, @fin_bool, @fin_str, @fin_unit, @lenS_sl, @ite_true.{1}, @ite_false.{1}, @if_true.{1}, @if_false.{1}, @Bool.false_eq_true, @not_true_eq_false, @not_false_eq_true, @decide_true, @decide_false, @Bool.not_true, @Bool.not_false, @List.append_assoc.{0}, @List.cons_append.{0}, @List.nil_append.{0}, @List.drop_zero.{0}, @p1_cInt, @p1_cStr, @len_snoc, @Int.natCast_add, @Int.cast_ofNat_Int, @quiet_same, @el_go, @el_out, @el_ite, @setZ_look0, @setI_look0, @setZ_look1, @setI_look1, @setZ_snoc, @setZ_upd0, @setI_upd0, @setZ_upd1, @setI_upd1, @true_and, @and_true, @false_and, @and_false, @true_or, @or_true, @false_or, @or_false, @Option.getD_some.{0}, @Option.getD_none.{0}, @List.length_append.{0}, @List.length_cons.{0}, @List.length_nil.{0}, @Nat.zero_add, @Nat.add_zero⟩
end Go.Proofs.YtphgchakmkankaaGreat

namespace Go.Proofs.YtphgchakmkankaaGreat
set_option linter.unusedSectionVars false
set_option linter.unusedSimpArgs false
set_option linter.unusedVariables false
theorem fz_cPoint (x : PointD) : FzL (cPoint x) := (fzL_cons (fz_int _ _) (fzL_cons (fz_int _ _) fzL_nil))
theorem fz_cRange (x : RangeD) : FzL (cRange x) := (fzL_cons (fz_int _ _) (fzL_cons (fz_int _ _) (fzL_cons (fz_str _) fzL_nil)))
theorem fz_cParam (x : ParamD) : FzL (cParam x) := (fzL_cons (fz_str _) (fzL_cons (fz_int _ _) (fzL_cons (fz_int _ _) (fzL_cons (fz_int _ _) (fzL_cons (fz_int _ _) (fzL_cons (fz_bool _) (fzL_cons (fz_sl fz_cRange _) fzL_nil)))))))
theorem fz_cProfile (x : ProfileD) : FzL (cProfile x) := (fzL_cons (fz_str _) (fzL_cons (fz_int _ _) (fzL_cons (fz_sl fz_cParam _) fzL_nil)))
theorem fz_cUnit (x : UnitD) : FzL (cUnit x) := (fzL_cons (fz_int _ _) (fzL_cons (fz_str _) (fzL_cons (fz_int _ _) (fzL_cons (fz_int _ _) fzL_nil))))
theorem fz_cKey (x : KeyD) : FzL (cKey x) := (fzL_cons (fz_int _ _) (fzL_cons (fz_str _) fzL_nil))
theorem fz_cSetting (x : SettingD) : FzL (cSetting x) := (fzL_cons (fz_int _ _) (fzL_cons (fz_str _) (fzL_cons (fz_int _ _) fzL_nil)))
theorem fz_cMove (x : MoveD) : FzL (cMove x) := (fzL_cons (fz_int _ _) (fzL_cons (fz_str _) (fzL_cons (fz_int _ _) (fzL_cons (fz_int _ _) (fzL_cons (fz_bool _) (fzL_cons (fz_bool _) (fzL_cons (fz_int _ _) (fzL_cons (fz_int _ _) fzL_nil))))))))
theorem fz_cCue (x : CueD) : FzL (cCue x) := (fzL_cons (fz_int _ _) (fzL_cons (fz_str _) (fzL_cons (fz_int _ _) (fzL_cons (fz_int _ _) (fzL_cons (fz_int _ _) (fzL_cons (fz_int _ _) (fzL_cons (fz_int _ _) (fzL_cons (fz_sl fz_cPoint _) (fzL_cons (fz_bool _) (fzL_cons (fz_int _ _) (fzL_cons (fz_sl fz_cMove _) fzL_nil)))))))))))
theorem fz_cEntry (x : EntryD) : FzL (cEntry x) := (fzL_cons (fz_int _ _) (fzL_cons (fz_str _) (fzL_cons (fz_int _ _) (fzL_cons (fz_int _ _) (fzL_cons (fz_int _ _) fzL_nil)))))
end Go.Proofs.YtphgchakmkankaaGreat

namespace Go.Proofs.YtphgchakmkankaaGreat
set_option linter.unusedSectionVars false
set_option linter.unusedVariables false
set_option linter.unusedSimpArgs false
instance : Inhabited ByteArray := ⟨⟨#[]⟩⟩
instance : Inhabited PointD := ⟨⟨0, 0⟩⟩
instance : Inhabited CurveD := ⟨⟨0, []⟩⟩
instance : Inhabited FadeD := ⟨⟨0, 0, 0, 0, 0, ⟨0, []⟩⟩⟩
instance : Inhabited ChangeD := ⟨⟨0, 0⟩⟩
instance : Inhabited RangeD := ⟨⟨0, 0, ⟨#[]⟩⟩⟩
instance : Inhabited ParamD := ⟨⟨⟨#[]⟩, 0, 0, 0, 0, false, []⟩⟩
instance : Inhabited ProfileD := ⟨⟨⟨#[]⟩, 0, []⟩⟩
instance : Inhabited UnitD := ⟨⟨0, ⟨#[]⟩, 0, 0⟩⟩
instance : Inhabited RigD := ⟨⟨[], []⟩⟩
instance : Inhabited KeyD := ⟨⟨0, ⟨#[]⟩⟩⟩
theorem eqk_Key (a b : KeyD) : A.eqK (.s [0, 2]) (.agg (cKey a)) (.agg (cKey b)) = some (decide (a = b)) := by
 obtain ⟨x1, x2⟩ := a
 obtain ⟨x101, x102⟩ := b
 simp only [A.eqK, cKey, A.eqAll, A.eqC, A.eqI, A.eqB, A.eqZ, if_true, Option.bind_some, Option.map_some, bq]
 congr 1
 rw [Bool.eq_iff_iff]
 simp [and_assoc]
theorem eq_Key (a b : KeyD) : A.eql (.s [0, 2]) (.agg (cKey a)) (.agg (cKey b)) = some (.bool (decide (a = b))) := by rw [A.eql, eqk_Key]; rfl
instance : Inhabited SettingD := ⟨⟨⟨0, ⟨#[]⟩⟩, 0⟩⟩
theorem eqk_Setting (a b : SettingD) : A.eqK (.s [0, 2, 0]) (.agg (cSetting a)) (.agg (cSetting b)) = some (decide (a = b)) := by
 obtain ⟨⟨x1, x2⟩, x3⟩ := a
 obtain ⟨⟨x101, x102⟩, x103⟩ := b
 simp only [A.eqK, cSetting, A.eqAll, A.eqC, A.eqI, A.eqB, A.eqZ, if_true, Option.bind_some, Option.map_some, bq]
 congr 1
 rw [Bool.eq_iff_iff]
 simp [and_assoc]
theorem ne_Setting (a b : SettingD) : A.neq (.s [0, 2, 0]) (.agg (cSetting a)) (.agg (cSetting b)) = some (.bool (decide (¬ (a = b)))) := by rw [A.neq, eqk_Setting, Option.map_some, decide_not]
instance : Inhabited PresetD := ⟨⟨0, ⟨#[]⟩, []⟩⟩
instance : Inhabited FanD := ⟨⟨[], 0, 0⟩⟩
instance : Inhabited ValueD := ⟨⟨0, 0⟩⟩
theorem eqk_Value (a b : ValueD) : A.eqK (.s [0, 0]) (.agg (cValue a)) (.agg (cValue b)) = some (decide (a = b)) := by
 obtain ⟨x1, x2⟩ := a
 obtain ⟨x101, x102⟩ := b
 simp only [A.eqK, cValue, A.eqAll, A.eqC, A.eqI, A.eqB, A.eqZ, if_true, Option.bind_some, Option.map_some, bq]
 congr 1
 rw [Bool.eq_iff_iff]
 simp [and_assoc]
theorem ne_Value (a b : ValueD) : A.neq (.s [0, 0]) (.agg (cValue a)) (.agg (cValue b)) = some (.bool (decide (¬ (a = b)))) := by rw [A.neq, eqk_Value, Option.map_some, decide_not]
instance : Inhabited MoveD := ⟨⟨⟨0, ⟨#[]⟩⟩, ⟨0, 0⟩, false, false, 0, 0⟩⟩
instance : Inhabited CueD := ⟨⟨0, ⟨#[]⟩, 0, 0, 0, 0, ⟨0, []⟩, false, 0, []⟩⟩
instance : Inhabited EntryD := ⟨⟨⟨0, ⟨#[]⟩⟩, ⟨0, 0⟩, 0⟩⟩
theorem eqk_Entry (a b : EntryD) : A.eqK (.s [0, 2, 0, 0, 0]) (.agg (cEntry a)) (.agg (cEntry b)) = some (decide (a = b)) := by
 obtain ⟨⟨x1, x2⟩, ⟨x3, x4⟩, x5⟩ := a
 obtain ⟨⟨x101, x102⟩, ⟨x103, x104⟩, x105⟩ := b
 simp only [A.eqK, cEntry, A.eqAll, A.eqC, A.eqI, A.eqB, A.eqZ, if_true, Option.bind_some, Option.map_some, bq]
 congr 1
 rw [Bool.eq_iff_iff]
 simp [and_assoc]
theorem ne_Entry (a b : EntryD) : A.neq (.s [0, 2, 0, 0, 0]) (.agg (cEntry a)) (.agg (cEntry b)) = some (.bool (decide (¬ (a = b)))) := by rw [A.neq, eqk_Entry, Option.map_some, decide_not]
instance : Inhabited MarkD := ⟨⟨0, 0, 0⟩⟩
instance : Inhabited ListD := ⟨⟨0, []⟩⟩
instance : Inhabited PlaybackD := ⟨⟨0, 0, 0⟩⟩
instance : Inhabited SetupD := ⟨⟨⟨[], []⟩, [], [], []⟩⟩
instance : Inhabited ActionD := ⟨⟨0, 0, 0, 0, 0⟩⟩
instance : Inhabited EventD := ⟨⟨0, ⟨0, 0, 0, 0, 0⟩⟩⟩
instance : Inhabited StampD := ⟨⟨0, 0, 0, 0⟩⟩
instance : Inhabited RunD := ⟨⟨⟨0, ⟨#[]⟩⟩, ⟨0, 0, 0, 0, 0, ⟨0, []⟩⟩, 0, false⟩⟩
instance : Inhabited StandingD := ⟨⟨0, 0, 0, false, 0, []⟩⟩
instance : Inhabited EffectStepD := ⟨⟨0, 0, 0⟩⟩
instance : Inhabited EffectD := ⟨⟨0, 0, 0, 0, 0, 0, false, false, []⟩⟩
instance : Inhabited RateD := ⟨⟨0, 0⟩⟩
instance : Inhabited RunningD := ⟨⟨⟨0, 0, 0, 0, 0, 0, false, false, []⟩, [], 0, [], 0, 0, 0⟩⟩
end Go.Proofs.YtphgchakmkankaaGreat

namespace Go.Proofs.YtphgchakmkankaaGreat
set_option linter.unusedSectionVars false
set_option linter.unusedVariables false
set_option linter.unusedSimpArgs false
def Rf {β τ : Type} (M : Option β) (T : Option τ) (Q : τ → β → Prop) : Prop := ∀ t, T = some t → ∃ b, M = some b ∧ Q t b
section
variable {α β ω τ ζ : Type}
theorem rf_s {M0 : Option α} {K : α → Option β} {T : Option τ} {Q : τ → β → Prop} (a : α) (h : M0 = some a) (k : Rf (K a) T Q) : Rf (M0.bind K) T Q := by
 intro t ht; obtain ⟨b, h1, h2⟩ := k t ht; exact ⟨b, by rw [h]; exact h1, h2⟩
theorem rf_o {M0 : Option α} {K : α → Option β} {o : Option ω} {K' : ω → Option τ} {Q : τ → β → Prop} (e : ω → α) (h : ∀ t, o = some t → M0 = some (e t)) (k : ∀ t, o = some t → Rf (K (e t)) (K' t) Q) : Rf (M0.bind K) (o.bind K') Q := by
 intro t ht
 obtain ⟨x, h1, h2⟩ := Option.bind_eq_some_iff.1 ht
 obtain ⟨b, h3, h4⟩ := k x h1 t h2
 exact ⟨b, by rw [h x h1]; exact h3, h4⟩
theorem rf_b {M0 : Option α} {K : α → Option β} {o : Option ω} {K' : ω → Option τ} {Q : τ → β → Prop} (Q0 : ω → α → Prop) (h : Rf M0 o Q0) (k : ∀ t a, Q0 t a → Rf (K a) (K' t) Q) : Rf (M0.bind K) (o.bind K') Q := by
 intro t ht
 obtain ⟨x, h1, h2⟩ := Option.bind_eq_some_iff.1 ht
 obtain ⟨a, h3, h4⟩ := h x h1
 obtain ⟨b, h5, h6⟩ := k x a h4 t h2
 exact ⟨b, by rw [h3]; exact h5, h6⟩
theorem rf_ret {t : τ} {b : β} {Q : τ → β → Prop} (h : Q t b) : Rf (some b) (some t) Q := by
 intro u hu; cases hu; exact ⟨b, rfl, h⟩
theorem rf_fin {M : Option β} {t : τ} {Q : τ → β → Prop} (b : β) (e : M = some b) (h : Q t b) : Rf M (some t) Q := by
 rw [e]; exact rf_ret h
theorem rf_none {M : Option β} {Q : τ → β → Prop} : Rf M (none : Option τ) Q := by intro u hu; cases hu
theorem rf_tq {M : Option β} {p : Prop} [Decidable p] {T : Option τ} {Q : τ → β → Prop} (h : p → Rf M T Q) : Rf M (if p then T else none) Q := by
 split
 ·exact h ‹_›
 ·exact rf_none
theorem rf_c {p : Prop} [Decidable p] {X Y : Option β} {X' Y' : Option τ} {Q : τ → β → Prop} (h1 : p → Rf X X' Q) (h2 : ¬ p → Rf Y Y' Q) : Rf (A.cond (.bool (decide p)) X Y) (if p then X' else Y') Q := by
 by_cases h : p
 ·simp only [h, decide_true, if_true]; exact h1 h
 ·simp only [h, decide_false, if_false]; exact h2 h
theorem rf_cb {c : Bool} {X Y : Option β} {X' Y' : Option τ} {Q : τ → β → Prop} (h1 : c = true → Rf X X' Q) (h2 : c = false → Rf Y Y' Q) : Rf (A.cond (.bool c) X Y) (if c = true then X' else Y') Q := by
 cases c
 ·exact h2 rfl
 ·exact h1 rfl
theorem rf_ct {X Y : Option β} {T : Option τ} {Q : τ → β → Prop} (h : Rf X T Q) : Rf (A.cond (.bool true) X Y) T Q := h
theorem rf_cf {X Y : Option β} {T : Option τ} {Q : τ → β → Prop} (h : Rf Y T Q) : Rf (A.cond (.bool false) X Y) T Q := h
theorem rf_bt {c : Bool} {X Y : Option β} {T : Option τ} {Q : τ → β → Prop} (e : c = true) (h : Rf X T Q) : Rf (bif c then X else Y) T Q := by rw [e]; exact h
theorem rf_bf {c : Bool} {X Y : Option β} {T : Option τ} {Q : τ → β → Prop} (e : c = false) (h : Rf Y T Q) : Rf (bif c then X else Y) T Q := by rw [e]; exact h
def gv {α : Type} (g : Bool) (e : α → AV) (t : α) : AV := bif g then e t else .tup []
end
inductive Lr (S B R : Type) where
 | go (s : S)
 | brk (b : B)
 | ret (r : R)
def forL {α S B R : Type} (body : Nat → α → S → Option (Lr S B R)) (fin : S → Option B) : List α → Nat → S → Option (B ⊕ R)
 | [], _, s => (fin s).map .inl
 | x :: l, i, s => (body i x s).bind fun q => match q with | .go s' => forL body fin l (i + 1) s' | .brk b => some (.inl b) | .ret r => some (.inr r)
def forE {α S B R γ : Type} (l : List α) (body : Nat → α → S → Option (Lr S B R)) (fin : S → Option B) (s : S) (K1 : B → Option γ) (K2 : R → Option γ) : Option γ :=
 if l.length ≤ mxl then (forL body fin l 0 s).bind fun q => q.elim K1 K2 else none
def itL {S B R : Type} (body : S → Option (Lr S B R)) : Nat → S → Option (B ⊕ R)
 | 0, _ => none
 | n + 1, s => (body s).bind fun q => match q with | .go s' => itL body n s' | .brk b => some (.inl b) | .ret r => some (.inr r)
noncomputable def whL {S B R : Type} (body : S → Option (Lr S B R)) (s : S) : Option (B ⊕ R) := open Classical in if h : ∃ n r, itL body n s = some r then some (Classical.choose (Classical.choose_spec h)) else none
noncomputable def whE {S B R γ : Type} (body : S → Option (Lr S B R)) (s : S) (K1 : B → Option γ) (K2 : R → Option γ) : Option γ := (whL body s).bind fun q => q.elim K1 K2
theorem itL_one {S B R : Type} {body : S → Option (Lr S B R)} : ∀ {n m : Nat} {s : S} {r r' : B ⊕ R}, itL body n s = some r → itL body m s = some r' → r = r' := by
 intro n
 induction n with
 | zero => intro m s r r' h; cases h
 | succ n ih =>
  intro m s r r' h1 h2
  cases m with
  | zero => cases h2
  | succ m =>
   simp only [itL] at h1 h2
   cases hf : body s with
   | none => rw [hf] at h1; cases h1
   | some q =>
    rw [hf] at h1 h2
    simp only [Option.bind_some] at h1 h2
    cases q with
    | go s' => exact ih h1 h2
    | brk b => simp only at h1 h2; rw [h1] at h2; injection h2
    | ret b => simp only at h1 h2; rw [h1] at h2; injection h2
theorem whL_of {S B R : Type} {body : S → Option (Lr S B R)} {n : Nat} {s : S} {r : B ⊕ R} (h : itL body n s = some r) : whL body s = some r := by
 have hex : ∃ n r, itL body n s = some r := ⟨n, r, h⟩
 unfold whL
 rw [dif_pos hex]
 exact congrArg some (itL_one (Classical.choose_spec (Classical.choose_spec hex)) h)
theorem whL_it {S B R : Type} {body : S → Option (Lr S B R)} {s : S} {r : B ⊕ R} (h : whL body s = some r) : ∃ n, itL body n s = some r := by
 unfold whL at h
 split at h
 ·rename_i hx
  injection h with h
  subst h
  exact ⟨_, Classical.choose_spec (Classical.choose_spec hx)⟩
 ·cases h
theorem whL_step {S B R : Type} (body : S → Option (Lr S B R)) (s : S) : whL body s = (body s).bind fun q => match q with | .go s' => whL body s' | .brk b => some (.inl b) | .ret r => some (.inr r) := by
 cases hf : body s with
 | none =>
  rw [Option.bind_none]
  unfold whL
  rw [dif_neg]
  rintro ⟨n, r, h⟩
  cases n with
  | zero => cases h
  | succ n => simp [itL, hf] at h
 | some q =>
  rw [Option.bind_some]
  cases q with
  | brk b => exact whL_of (n := 1) (by simp [itL, hf])
  | ret b => exact whL_of (n := 1) (by simp [itL, hf])
  | go s' =>
   show whL body s = whL body s'
   cases h : whL body s' with
   | some r =>
    obtain ⟨n, hn⟩ := whL_it h
    exact whL_of (n := n + 1) (by simp [itL, hf, hn])
   | none =>
    cases h2 : whL body s with
    | none => rfl
    | some r =>
     obtain ⟨n, hn⟩ := whL_it h2
     cases n with
     | zero => cases hn
     | succ n =>
      simp only [itL, hf, Option.bind_some] at hn
      rw [whL_of hn] at h; cases h
section
variable {α S B R β τ : Type}
abbrev LS := AX × List AV × Heap
def Rnd (I : S → List AV → Heap → Prop) (QB : B → LS → Prop) (QR : R → LS → Prop) (t : Lr S B R) (q : LS) : Prop := match t with
 | .go s => q.1 = .normal ∧ I s q.2.1 q.2.2
 | .brk b => q.1 ≠ .normal ∧ QB b q
 | .ret r => q.1 ≠ .normal ∧ QR r q
theorem rnd_go {I : S → List AV → Heap → Prop} {QB : B → LS → Prop} {QR : R → LS → Prop} {s : S} {v : List AV} {σ : Heap} (h : I s v σ) : Rnd I QB QR (.go s) (.normal, v, σ) := ⟨rfl, h⟩
theorem rnd_brk {I : S → List AV → Heap → Prop} {QB : B → LS → Prop} {QR : R → LS → Prop} {b : B} {q : LS} (n : q.1 ≠ .normal) (h : QB b q) : Rnd I QB QR (.brk b) q := ⟨n, h⟩
theorem rnd_ret {I : S → List AV → Heap → Prop} {QB : B → LS → Prop} {QR : R → LS → Prop} {r : R} {q : LS} (n : q.1 ≠ .normal) (h : QR r q) : Rnd I QB QR (.ret r) q := ⟨n, h⟩
theorem rf_for {f : List AV → Heap → Option LS} {K : LS → Option β} {Q : τ → β → Prop} {l : List α} {body : Nat → α → S → Option (Lr S B R)} {fin : S → Option B} {s0 : S} {K1 : B → Option τ} {K2 : R → Option τ} {v0 : List AV} {σ0 : Heap}
  (I : Nat → S → List AV → Heap → Prop) (QB : B → LS → Prop) (QR : R → LS → Prop)
  (hstep : l.length ≤ mxl → ∀ i x s v σ, l[i]? = some x → I i s v σ → Rf (f v σ) (body i x s) (Rnd (I (i + 1)) QB QR))
  (hend : l.length ≤ mxl → ∀ s v σ, I l.length s v σ → Rf (f v σ) (fin s) (fun b q => q.1 ≠ .normal ∧ QB b q))
  (h0 : I 0 s0 v0 σ0) (k1 : l.length ≤ mxl → ∀ b q, QB b q → Rf (K q) (K1 b) Q) (k2 : l.length ≤ mxl → ∀ r q, QR r q → Rf (K q) (K2 r) Q) :
  Rf ((A.loop f v0 σ0).bind K) (forE l body fin s0 K1 K2) Q := by
 unfold forE
 refine rf_tq fun hl => ?_
 have hstep := hstep hl
 have hend := hend hl
 have key : ∀ (rest pre : List α) (s : S) (v : List AV) (σ : Heap), l = pre ++ rest → I pre.length s v σ → ∀ t, forL body fin rest pre.length s = some t → ∃ q, (∃ n, A.iter f n v σ = some q) ∧ (match t with | .inl b => QB b q | .inr r => QR r q) := by
  intro rest
  induction rest with
  | nil =>
   intro pre s v σ hl hI t ht
   rw [List.append_nil] at hl
   subst hl
   simp only [forL] at ht
   obtain ⟨b, hb, rfl⟩ := Option.map_eq_some_iff.1 ht
   obtain ⟨q, h1, h2, h3⟩ := hend s v σ hI b hb
   exact ⟨q, loop_done h1 h2, h3⟩
  | cons x rest ih =>
   intro pre s v σ hl hI t ht
   simp only [forL] at ht
   obtain ⟨y, hy, h2⟩ := Option.bind_eq_some_iff.1 ht
   obtain ⟨q, h3, h4⟩ := hstep pre.length x s v σ (by rw [hl]; simp) hI y hy
   obtain ⟨e, v', σ'⟩ := q
   cases y with
   | go s' =>
    obtain ⟨rfl, hI'⟩ := h4
    obtain ⟨q, h5, h6⟩ := ih (pre ++ [x]) s' v' σ' (by simpa using hl) (by simpa using hI') t (by simpa using h2)
    exact ⟨q, loop_step h3 h5, h6⟩
   | brk b => simp only [Option.some.injEq] at h2; subst h2; exact ⟨_, loop_done h3 h4.1, h4.2⟩
   | ret b => simp only [Option.some.injEq] at h2; subst h2; exact ⟨_, loop_done h3 h4.1, h4.2⟩
 intro t ht
 obtain ⟨y, hy, h2⟩ := Option.bind_eq_some_iff.1 ht
 obtain ⟨q, ⟨n, hn⟩, h3⟩ := key l [] s0 v0 σ0 rfl h0 y hy
 cases y with
 | inl b => obtain ⟨z, h4, h5⟩ := k1 hl b q h3 t h2; exact ⟨z, by rw [loop_of_iter hn]; exact h4, h5⟩
 | inr b => obtain ⟨z, h4, h5⟩ := k2 hl b q h3 t h2; exact ⟨z, by rw [loop_of_iter hn]; exact h4, h5⟩
theorem rf_wh {f : List AV → Heap → Option LS} {K : LS → Option β} {Q : τ → β → Prop} {body : S → Option (Lr S B R)} {s0 : S} {K1 : B → Option τ} {K2 : R → Option τ} {v0 : List AV} {σ0 : Heap}
  (I : S → List AV → Heap → Prop) (QB : B → LS → Prop) (QR : R → LS → Prop)
  (hstep : ∀ s v σ, I s v σ → Rf (f v σ) (body s) (Rnd I QB QR))
  (h0 : I s0 v0 σ0) (k1 : ∀ b q, QB b q → Rf (K q) (K1 b) Q) (k2 : ∀ r q, QR r q → Rf (K q) (K2 r) Q) :
  Rf ((A.loop f v0 σ0).bind K) (whE body s0 K1 K2) Q := by
 have key : ∀ (n : Nat) (s : S) (v : List AV) (σ : Heap), I s v σ → ∀ t, itL body n s = some t → ∃ q, (∃ n, A.iter f n v σ = some q) ∧ (match t with | .inl b => QB b q | .inr r => QR r q) := by
  intro n
  induction n with
  | zero => intro s v σ hI t ht; cases ht
  | succ n ih =>
   intro s v σ hI t ht
   simp only [itL] at ht
   obtain ⟨y, hy, h2⟩ := Option.bind_eq_some_iff.1 ht
   obtain ⟨q, h3, h4⟩ := hstep s v σ hI y hy
   obtain ⟨e, v', σ'⟩ := q
   cases y with
   | go s' =>
    obtain ⟨rfl, hI'⟩ := h4
    obtain ⟨q, h5, h6⟩ := ih s' v' σ' hI' t h2
    exact ⟨q, loop_step h3 h5, h6⟩
   | brk b => simp only [Option.some.injEq] at h2; subst h2; exact ⟨_, loop_done h3 h4.1, h4.2⟩
   | ret b => simp only [Option.some.injEq] at h2; subst h2; exact ⟨_, loop_done h3 h4.1, h4.2⟩
 intro t ht
 obtain ⟨y, hy, h2⟩ := Option.bind_eq_some_iff.1 ht
 obtain ⟨n, hn⟩ := whL_it hy
 obtain ⟨q, ⟨m, hm⟩, h3⟩ := key n s0 v0 σ0 h0 y hn
 cases y with
 | inl b => obtain ⟨z, h4, h5⟩ := k1 b q h3 t h2; exact ⟨z, by rw [loop_of_iter hm]; exact h4, h5⟩
 | inr b => obtain ⟨z, h4, h5⟩ := k2 b q h3 t h2; exact ⟨z, by rw [loop_of_iter hm]; exact h4, h5⟩
theorem ix_lt {l : List α} {i : Nat} {x : α} (h : l[i]? = some x) : A.lss (.int .i64 (i : Int)) (.int .i64 (l.length : Int)) = some (.bool true) := by
 have := (List.getElem?_eq_some_iff.1 h).1
 rw [aLss]; simp; omega
theorem ix_end (l : List α) : A.lss (.int .i64 (l.length : Int)) (.int .i64 (l.length : Int)) = some (.bool false) := by rw [aLss]; simp
theorem ix_inc {l : List α} {i : Nat} {x : α} (h : l[i]? = some x) (hl : l.length ≤ mxl) : A.add (.int .i64 (i : Int)) (.int .i64 1) = some (.int .i64 ((i + 1 : Nat) : Int)) := by
 have := (List.getElem?_eq_some_iff.1 h).1
 rw [aAdd, wrap64 (by unfold inI; unfold mxl at hl; omega)]
 simp
def tIx (l : List α) (i : Int) : Option α := if 0 ≤ i then l[i.toNat]? else none
theorem ix_at {sz : Nat} {c : α → List AV} {l : List α} {i : Int} {x : α} (h : tIx l i = some x) : A.iaddr sz (sl sz c l) (.int .i64 i) = some (.rp (c x)) := by
 unfold tIx at h
 split at h
 ·exact iaddr_int sz c l ‹_› h
 ·cases h
theorem ix_for {sz : Nat} {c : α → List AV} {l : List α} {i : Nat} {x : α} (h : l[i]? = some x) : A.iaddr sz (sl sz c l) (.int .i64 (i : Int)) = some (.rp (c x)) := iaddr_sl sz c l h
end
theorem quiet_of {M : Option (AV × Heap)} {v : AV} {σ : Heap} (h : M = some (v, σ)) : A.quiet M σ = some v := by rw [h, quiet_same]
noncomputable def tq {α : Type} (p : Prop) (x : α) : Option α := open Classical in if p then some x else none
theorem tq_pos {α : Type} {p : Prop} {x : α} (h : p) : tq p x = some x := if_pos h
theorem tq_of {α β : Type} {p : Prop} {x r : α} {M : Option β} {e : α → β} (h : p → M = some (e x)) (k : tq p x = some r) : M = some (e r) := by
 unfold tq at k
 split at k
 ·rename_i hp; injection k with k; subst k; exact h hp
 ·cases k
theorem pk_and (b t : Bool) : A.pick (.bool b) (bif b then .bool t else .tup []) (.bool false) = some (.bool (b && t)) := by cases b <;> rfl
theorem pk_or (b t : Bool) : A.pick (.bool b) (.bool true) (bif !b then .bool t else .tup []) = some (.bool (b || t)) := by cases b <;> rfl
section
variable {α β ω τ : Type} {G b : Bool} {M0 : Option AV} {K : AV → Option β} {T : Option τ} {K' : ω → Option τ} {o : Option ω} {Q : τ → β → Prop}
theorem rf_gt (a : AV) (h : b = true → M0 = some a) (k : Rf (K (bif b then a else .tup [])) T Q) : Rf ((A.guard (.bool b) true M0 (some (.tup []))).bind K) T Q := by
 refine rf_s _ ?_ k
 cases b <;> simp_all [A.guard]
theorem rf_gf (a : AV) (h : (!b) = true → M0 = some a) (k : Rf (K (bif !b then a else .tup [])) T Q) : Rf ((A.guard (.bool b) false M0 (some (.tup []))).bind K) T Q := by
 refine rf_s _ ?_ k
 cases b <;> simp_all [A.guard]
theorem rf_ggt (a : AV) (h : (G && b) = true → M0 = some a) (k : Rf (K (bif G && b then a else .tup [])) T Q) : Rf ((A.guard (bif G then .bool b else .tup []) true M0 (some (.tup []))).bind K) T Q := by
 refine rf_s _ ?_ k
 cases G <;> cases b <;> simp_all [A.guard]
theorem rf_ggf (a : AV) (h : (G && !b) = true → M0 = some a) (k : Rf (K (bif G && !b then a else .tup [])) T Q) : Rf ((A.guard (bif G then .bool b else .tup []) false M0 (some (.tup []))).bind K) T Q := by
 refine rf_s _ ?_ k
 cases G <;> cases b <;> simp_all [A.guard]
theorem rf_go {g : Bool} {M : Option AV} {d : ω} (e : ω → AV) (hM : M = bif g then M0 else some (.tup [])) (h : g = true → ∀ t, o = some t → M0 = some (e t)) (k : ∀ t, (g = true → o = some t) → Rf (K (bif g then e t else .tup [])) (K' t) Q) : Rf (M.bind K) ((if g = true then o else some d).bind K') Q := by
 subst hM
 cases g
 ·exact k d (by simp)
 ·intro t ht
  simp only [if_true] at ht
  obtain ⟨x, h1, h2⟩ := Option.bind_eq_some_iff.1 ht
  obtain ⟨y, h3, h4⟩ := k x (fun _ => h1) t h2
  refine ⟨y, ?_, h4⟩
  simp only [cond_true, h rfl x h1, Option.bind_some]
  exact h3
theorem rf_gto {d : ω} (e : ω → AV) (h : b = true → ∀ t, o = some t → M0 = some (e t)) (k : ∀ t, (b = true → o = some t) → Rf (K (bif b then e t else .tup [])) (K' t) Q) : Rf ((A.guard (.bool b) true M0 (some (.tup []))).bind K) ((if b = true then o else some d).bind K') Q := rf_go e (by cases b <;> rfl) h k
end
theorem wrap_nn {ro : Bool} {ain : List Sh} {rout : Sh} {r : List AV → Heap → Option (AV × Heap)} {args args' : List AV} {σ : Heap} (hn : A.nnL ain args = A.nnL ain args') (h1 : args.any A.own = false) (h2 : args'.any A.own = false) : A.wrap ro ain rout r args σ = A.wrap ro ain rout r args' σ := by
 unfold A.wrap
 rw [h1, h2, hn, Bool.and_false, cond_false, cond_false]
theorem rf_wrap {τ : Type} {ro : Bool} {ain : List Sh} {rout : Sh} {r : List AV → Heap → Option (AV × Heap)} {args args' : List AV} {σ : Heap} {T : Option τ} {enc : τ → AV} (hn : A.nnL ain args = args') (h : args.any A.own = false) (e : Rf (r args' σ) T (fun t b => A.nn rout b.1 = enc t ∧ b.2 = σ)) : ∀ t, T = some t → A.wrap ro ain rout r args σ = some (enc t, σ) := by
 intro t ht
 obtain ⟨⟨v, σ'⟩, h1, h2, h3⟩ := e t ht
 simp only at h2 h3
 subst h3
 exact wrap_eq h (by rw [hn]; exact h1) h2
theorem rf_wrap1 {τ : Type} {ro : Bool} {ain : List Sh} {rout : Sh} {f : AV → Heap → Option (AV × Heap)} {x0 y0 : AV} {σ : Heap} {T : Option τ} {enc : τ → AV} (hn : A.nnL ain [x0] = [y0]) (h : ([x0] : List AV).any A.own = false) (e : Rf (f y0 σ) T (fun t b => A.nn rout b.1 = enc t ∧ b.2 = σ)) : ∀ t, T = some t → A.wrap ro ain rout (A.ar1 f) [x0] σ = some (enc t, σ) := rf_wrap hn h e
theorem rf_wrap2 {τ : Type} {ro : Bool} {ain : List Sh} {rout : Sh} {f : AV → AV → Heap → Option (AV × Heap)} {x0 x1 y0 y1 : AV} {σ : Heap} {T : Option τ} {enc : τ → AV} (hn : A.nnL ain [x0, x1] = [y0, y1]) (h : ([x0, x1] : List AV).any A.own = false) (e : Rf (f y0 y1 σ) T (fun t b => A.nn rout b.1 = enc t ∧ b.2 = σ)) : ∀ t, T = some t → A.wrap ro ain rout (A.ar2 f) [x0, x1] σ = some (enc t, σ) := rf_wrap hn h e
theorem rf_wrap3 {τ : Type} {ro : Bool} {ain : List Sh} {rout : Sh} {f : AV → AV → AV → Heap → Option (AV × Heap)} {x0 x1 x2 y0 y1 y2 : AV} {σ : Heap} {T : Option τ} {enc : τ → AV} (hn : A.nnL ain [x0, x1, x2] = [y0, y1, y2]) (h : ([x0, x1, x2] : List AV).any A.own = false) (e : Rf (f y0 y1 y2 σ) T (fun t b => A.nn rout b.1 = enc t ∧ b.2 = σ)) : ∀ t, T = some t → A.wrap ro ain rout (A.ar3 f) [x0, x1, x2] σ = some (enc t, σ) := rf_wrap hn h e
end Go.Proofs.YtphgchakmkankaaGreat

namespace Go.Proofs.YtphgchakmkankaaGreat
set_option linter.unusedSectionVars false
set_option linter.unusedVariables false
set_option linter.unusedSimpArgs false
inductive Ct where
 | s (sz : Nat) (es : List (List AV))
 | m (es : List (AV × AV))
 | b (cs : List AV)
def idOf : AV → Option Nat
 | .os id _ _ _ _ => some id
 | .om id => some id
 | .op id _ => some id
 | _ => none
def Own (n : Nat) (σ : Heap) (p : AV × Ct) : Prop := match p.2 with
 | .s sz es => (p.1 = .nsl ∧ es = []) ∨ ∃ id g off a, p.1 = .os id g sz off es.length ∧ n ≤ id ∧ σ[id]? = some (.arr g sz a) ∧ off ≤ a.length ∧ a.drop off = es
 | .m es => ∃ id, p.1 = .om id ∧ n ≤ id ∧ σ[id]? = some (.map es)
 | .b cs => ∃ id, p.1 = .op id 0 ∧ n ≤ id ∧ σ[id]? = some (.box cs)
structure Hp (σ0 σ : Heap) (L : List (AV × Ct)) : Prop where
 pre : ∃ bs, σ = σ0 ++ bs
 own : ∀ (i : Nat) p, L[i]? = some p → Own σ0.length σ p
 sep : ∀ (i j : Nat) p q a, L[i]? = some p → L[j]? = some q → idOf p.1 = some a → idOf q.1 = some a → i = j
section
variable {σ0 σ σ' : Heap} {L : List (AV × Ct)} {n : Nat}
theorem hp_nil (σ : Heap) : Hp σ σ [] := ⟨⟨[], by simp⟩, by simp, by simp⟩
theorem own_lt {p : AV × Ct} {a : Nat} (h : Own n σ p) (e : idOf p.1 = some a) : n ≤ a ∧ a < σ.length := by
 obtain ⟨v, c⟩ := p
 cases c with
 | s sz es =>
  rcases h with ⟨h1, _⟩ | ⟨id, g, off, x, h1, h2, h3, _⟩
  ·simp only at h1; subst h1; cases e
  ·simp only at h1; subst h1; injection e with e; subst e; exact ⟨h2, (List.getElem?_eq_some_iff.1 h3).1⟩
 | m es => obtain ⟨id, h1, h2, h3⟩ := h; simp only at h1; subst h1; injection e with e; subst e; exact ⟨h2, (List.getElem?_eq_some_iff.1 h3).1⟩
 | b es => obtain ⟨id, h1, h2, h3⟩ := h; simp only at h1; subst h1; injection e with e; subst e; exact ⟨h2, (List.getElem?_eq_some_iff.1 h3).1⟩
theorem own_mono {p : AV × Ct} (h : Own n σ p) (k : ∀ a, idOf p.1 = some a → σ'[a]? = σ[a]?) : Own n σ' p := by
 obtain ⟨v, c⟩ := p
 cases c with
 | s sz es =>
  rcases h with h | ⟨id, g, off, x, h1, h2, h3, h4⟩
  ·exact .inl h
  ·simp only at h1; subst h1; exact .inr ⟨id, g, off, x, rfl, h2, by rw [k id rfl]; exact h3, h4⟩
 | m es => obtain ⟨id, h1, h2, h3⟩ := h; simp only at h1; subst h1; exact ⟨id, rfl, h2, by rw [k id rfl]; exact h3⟩
 | b es => obtain ⟨id, h1, h2, h3⟩ := h; simp only at h1; subst h1; exact ⟨id, rfl, h2, by rw [k id rfl]; exact h3⟩
theorem pre_set (h : ∃ bs, σ = σ0 ++ bs) {id : Nat} (hn : σ0.length ≤ id) (b : Blk) : ∃ bs, σ.set id b = σ0 ++ bs := by
 obtain ⟨bs, rfl⟩ := h
 exact ⟨bs.set (id - σ0.length) b, by rw [List.set_append_right _ _ hn]⟩
theorem hp_set (H : Hp σ0 σ L) {k id : Nat} {h h' : AV} {c c' : Ct} {b : Blk} (hk : L[k]? = some (h, c)) (hi : idOf h = some id) (hi' : idOf h' = some id) (ho : Own σ0.length (σ.set id b) (h', c')) : Hp σ0 (σ.set id b) (L.set k (h', c')) := by
 have hid := own_lt (H.own k _ hk) hi
 have hkl := (List.getElem?_eq_some_iff.1 hk).1
 refine ⟨pre_set H.pre hid.1 b, fun i p hp => ?_, fun i j p q a hp hq e1 e2 => ?_⟩
 ·rw [List.getElem?_set] at hp
  split at hp
  ·rename_i e; subst e; simp [hkl] at hp; subst hp; exact ho
  ·rename_i e
   refine own_mono (H.own i p hp) fun a ha => ?_
   rw [List.getElem?_set]
   split
   ·rename_i e'; subst e'; exact absurd (H.sep k i _ _ id hk hp hi ha) e
   ·rfl
 ·have key : ∀ (i : Nat) (p : AV × Ct), (L.set k (h', c'))[i]? = some p → idOf p.1 = some a → ∃ p', L[i]? = some p' ∧ idOf p'.1 = some a := by
   intro i p hp e
   rw [List.getElem?_set] at hp
   split at hp
   ·rename_i e'; subst e'; simp [hkl] at hp; subst hp; exact ⟨_, hk, by rw [hi]; rw [hi'] at e; exact e⟩
   ·exact ⟨p, hp, e⟩
  obtain ⟨p', hp', e1'⟩ := key i p hp e1
  obtain ⟨q', hq', e2'⟩ := key j q hq e2
  exact H.sep i j p' q' a hp' hq' e1' e2'
theorem hp_put (H : Hp σ0 σ L) {k : Nat} {h h' : AV} {c c' : Ct} {b : Blk} (hk : L[k]? = some (h, c)) (hi : idOf h = none) (hi' : idOf h' = some σ.length) (ho : Own σ0.length (σ ++ [b]) (h', c')) : Hp σ0 (σ ++ [b]) (L.set k (h', c')) := by
 have hkl := (List.getElem?_eq_some_iff.1 hk).1
 refine ⟨?_, fun i p hp => ?_, fun i j p q a hp hq e1 e2 => ?_⟩
 ·obtain ⟨bs, rfl⟩ := H.pre; exact ⟨bs ++ [b], by simp⟩
 ·rw [List.getElem?_set] at hp
  split at hp
  ·rename_i e; subst e; simp [hkl] at hp; subst hp; exact ho
  ·refine own_mono (H.own i p hp) fun a ha => ?_
   have := (own_lt (H.own i p hp) ha).2
   rw [List.getElem?_append_left this]
 ·have key : ∀ (i : Nat) (p : AV × Ct), (L.set k (h', c'))[i]? = some p → idOf p.1 = some a → (i = k ∧ a = σ.length) ∨ (L[i]? = some p ∧ a < σ.length) := by
   intro i p hp e
   rw [List.getElem?_set] at hp
   split at hp
   ·rename_i e'; subst e'; simp [hkl] at hp; subst hp; rw [hi'] at e; injection e with e; exact .inl ⟨rfl, e.symm⟩
   ·exact .inr ⟨hp, (own_lt (H.own i p hp) e).2⟩
  rcases key i p hp e1 with ⟨a1, a2⟩ | ⟨a1, a2⟩ <;> rcases key j q hq e2 with ⟨b1, b2⟩ | ⟨b1, b2⟩
  ·omega
  ·omega
  ·omega
  ·exact H.sep i j p q a a1 b1 e1 e2
theorem hp_push (H : Hp σ0 σ L) {h' : AV} {c' : Ct} {b : Blk} (hi' : idOf h' = some σ.length) (ho : Own σ0.length (σ ++ [b]) (h', c')) : Hp σ0 (σ ++ [b]) (L ++ [(h', c')]) := by
 refine ⟨?_, fun i p hp => ?_, fun i j p q a hp hq e1 e2 => ?_⟩
 ·obtain ⟨bs, rfl⟩ := H.pre; exact ⟨bs ++ [b], by simp⟩
 ·rw [List.getElem?_append] at hp
  split at hp
  ·refine own_mono (H.own i p hp) fun a ha => ?_
   have := (own_lt (H.own i p hp) ha).2
   rw [List.getElem?_append_left this]
  ·have hp' := (List.getElem?_eq_some_iff.1 hp).2
   simp at hp'; subst hp'; exact ho
 ·have key : ∀ (i : Nat) (p : AV × Ct), (L ++ [(h', c')])[i]? = some p → idOf p.1 = some a → (i = L.length ∧ a = σ.length) ∨ (L[i]? = some p ∧ a < σ.length) := by
   intro i p hp e
   rw [List.getElem?_append] at hp
   split at hp
   ·exact .inr ⟨hp, (own_lt (H.own i p hp) e).2⟩
   ·obtain ⟨h1, h2⟩ := List.getElem?_eq_some_iff.1 hp
    simp at h1 h2; subst h2; rw [hi'] at e; injection e with e; exact .inl ⟨by omega, e.symm⟩
  rcases key i p hp e1 with ⟨a1, a2⟩ | ⟨a1, a2⟩ <;> rcases key j q hq e2 with ⟨b1, b2⟩ | ⟨b1, b2⟩
  ·omega
  ·omega
  ·omega
  ·exact H.sep i j p q a a1 b1 e1 e2
theorem hp_nsl (H : Hp σ0 σ L) (sz : Nat) : Hp σ0 σ (L ++ [(.nsl, .s sz [])]) := by
 refine ⟨H.pre, fun i p hp => ?_, fun i j p q a hp hq e1 e2 => ?_⟩
 ·rw [List.getElem?_append] at hp
  split at hp
  ·exact H.own i p hp
  ·have hp' := (List.getElem?_eq_some_iff.1 hp).2
   simp at hp'; subst hp'; exact .inl ⟨rfl, rfl⟩
 ·have key : ∀ (i : Nat) (p : AV × Ct), (L ++ [((.nsl : AV), Ct.s sz [])])[i]? = some p → idOf p.1 = some a → L[i]? = some p := by
   intro i p hp e
   rw [List.getElem?_append] at hp
   split at hp
   ·exact hp
   ·have hp' := (List.getElem?_eq_some_iff.1 hp).2
    simp at hp'; subst hp'; cases e
  exact H.sep i j p q a (key i p hp e1) (key j q hq e2) e1 e2
theorem hp_om (H : Hp σ0 σ L) : Hp σ0 (σ ++ [.map []]) (L ++ [(.om σ.length, .m [])]) := by
 have hl : σ0.length ≤ σ.length := by obtain ⟨bs, rfl⟩ := H.pre; simp
 exact hp_push H rfl ⟨σ.length, rfl, hl, by simp⟩
theorem hp_op (H : Hp σ0 σ L) (cs : List AV) : Hp σ0 (σ ++ [.box cs]) (L ++ [(.op σ.length 0, .b cs)]) := by
 have hl : σ0.length ≤ σ.length := by obtain ⟨bs, rfl⟩ := H.pre; simp
 exact hp_push H rfl ⟨σ.length, rfl, hl, by simp⟩
theorem hp_take (H : Hp σ0 σ L) (n : Nat) : Hp σ0 σ (L.take n) := by
 have key : ∀ (i : Nat) (p : AV × Ct), (L.take n)[i]? = some p → L[i]? = some p := by
  intro i p h
  rw [List.getElem?_take] at h
  split at h
  ·exact h
  ·cases h
 exact ⟨H.pre, fun i p hp => H.own i p (key i p hp), fun i j p q a hp hq => H.sep i j p q a (key i p hp) (key j q hq)⟩
theorem hp_weak (H : Hp σ0 σ L) : Hp σ0 σ [] := ⟨H.pre, by simp, by simp⟩
theorem hp_app (H : Hp σ0 σ L) {k sz most : Nat} {h : AV} {es ys : List (List AV)} (hk : L[k]? = some (h, .s sz es)) (hm : es.length + ys.length ≤ most) : ∃ h' σ', A.append sz most h (.sl sz ys) σ = some (h', σ') ∧ Hp σ0 σ' (L.set k (h', .s sz (es ++ ys))) := by
 have hl : σ0.length ≤ σ.length := by obtain ⟨bs, rfl⟩ := H.pre; simp
 rcases H.own k _ hk with ⟨h1, h2⟩ | ⟨id, g, off, a, h1, h2, h3, h4, h5⟩
 ·simp only at h1 h2
  subst h1 h2
  by_cases hy : ys = []
  ·subst hy
   refine ⟨.nsl, σ, by simp [A.append, A.appendL, A.elems], ?_⟩
   have : L.set k (.nsl, .s sz ([] ++ [])) = L := by
    apply List.ext_getElem?
    intro i
    rw [List.getElem?_set]
    split
    ·rename_i e; subst e; rw [hk]; simp [(List.getElem?_eq_some_iff.1 hk).1]
    ·rfl
   rw [this]; exact H
  ·refine ⟨.os σ.length ys.length sz 0 ys.length, σ ++ [.arr ys.length sz ys], ?_, ?_⟩
   ·have : ys.length ≤ most := by simpa using hm
    simp [A.append, A.appendL, A.elems, hy, this]
   ·exact hp_put H hk rfl rfl (.inr ⟨σ.length, ys.length, 0, ys, by simp, hl, by simp, by simp, by simp⟩)
 ·simp only at h1 h5
  subst h1
  have hid := (List.getElem?_eq_some_iff.1 h3).1
  have h6 : off + es.length = a.length := by rw [← h5, List.length_drop]; omega
  by_cases hy : ys = []
  ·subst hy
   refine ⟨.os id g sz off es.length, σ, ?_, ?_⟩
   ·have : es.length ≤ most := by simpa using hm
    simp [A.append, A.appendL, A.elems, h3, h6, this]
   ·have : L.set k (.os id g sz off es.length, .s sz (es ++ [])) = L := by
     apply List.ext_getElem?
     intro i
     rw [List.getElem?_set]
     split
     ·rename_i e; subst e; rw [hk]; simp [(List.getElem?_eq_some_iff.1 hk).1]
     ·rfl
    rw [this]; exact H
  ·refine ⟨.os id (g + ys.length) sz 0 (es.length + ys.length), σ.set id (.arr (g + ys.length) sz (es ++ ys)), ?_, ?_⟩
   ·have ht : (a.drop off).take es.length = es := by rw [h5]; simp
    have hp : 0 < ys.length := List.length_pos_iff.2 hy
    simp [A.append, A.appendL, A.elems, h3, h6, hm, hy, ht, hp]
   ·refine hp_set H hk rfl rfl (.inr ⟨id, g + ys.length, 0, es ++ ys, by simp, h2, by simp [hid], by simp, by simp [h5]⟩)
theorem hp_mupd (H : Hp σ0 σ L) {k : Nat} {h key v : AV} {ek : A.EK} {es es' : List (AV × AV)} (hk : L[k]? = some (h, .m es)) (hok : A.keyOk ek key = true) (he : A.upd ek key v es = some es') : ∃ σ', A.mupd ek h key v σ = some σ' ∧ Hp σ0 σ' (L.set k (h, .m es')) := by
 obtain ⟨id, h1, h2, h3⟩ := H.own k _ hk
 simp only at h1 h3
 subst h1
 have hid := (List.getElem?_eq_some_iff.1 h3).1
 exact ⟨σ.set id (.map es'), by simp [A.mupd, hok, h3, he], hp_set H hk rfl rfl ⟨id, rfl, h2, by simp [hid]⟩⟩
theorem hp_mdel (H : Hp σ0 σ L) {k : Nat} {h key : AV} {ek : A.EK} {es es' : List (AV × AV)} (hk : L[k]? = some (h, .m es)) (hok : A.keyOk ek key = true) (he : A.del ek key es = some es') : ∃ σ', A.mdel ek h key σ = some σ' ∧ Hp σ0 σ' (L.set k (h, .m es')) := by
 obtain ⟨id, h1, h2, h3⟩ := H.own k _ hk
 simp only at h1 h3
 subst h1
 have hid := (List.getElem?_eq_some_iff.1 h3).1
 exact ⟨σ.set id (.map es'), by simp [A.mdel, hok, h3, he], hp_set H hk rfl rfl ⟨id, rfl, h2, by simp [hid]⟩⟩
theorem hp_look (H : Hp σ0 σ L) {k : Nat} {h key z : AV} {ek : A.EK} {es : List (AV × AV)} {r : Option AV} (hk : L[k]? = some (h, .m es)) (hok : A.keyOk ek key = true) (he : A.find ek key es = some r) : A.look ek h key z σ = some (r.getD z) := by
 obtain ⟨id, h1, h2, h3⟩ := H.own k _ hk
 simp only at h1 h3
 subst h1
 rw [look_at ek hok h3, he]; rfl
theorem hp_box (H : Hp σ0 σ L) (k : Nat) {id : Nat} {cs : List AV} (hk : L[k]? = some (.op id 0, .b cs)) (off : Nat) : A.deref (.op id off) σ = some (cs.drop off) := by
 obtain ⟨i, h1, h2, h3⟩ := H.own k _ hk
 simp only [AV.op.injEq] at h1
 obtain ⟨rfl, _⟩ := h1
 simp [A.deref, h3]
theorem hp_boxset (H : Hp σ0 σ L) (k : Nat) {id : Nat} {cs cs' new : List AV} (hk : L[k]? = some (.op id 0, .b cs)) (off : Nat) (hs : A.splice off new cs = some cs') : ∃ σ', A.storeAt (.op id off) new σ = some σ' ∧ Hp σ0 σ' (L.set k (.op id 0, .b cs')) := by
 obtain ⟨i, h1, h2, h3⟩ := H.own k _ hk
 simp only [AV.op.injEq] at h1
 obtain ⟨rfl, _⟩ := h1
 have hid := (List.getElem?_eq_some_iff.1 h3).1
 exact ⟨σ.set id (.box cs'), by simp [A.storeAt, h3, hs], hp_set H hk rfl rfl ⟨id, rfl, h2, by simp [hid]⟩⟩
theorem cap_own (H : Hp σ0 σ L) (k : Nat) {id : Nat} {cs : List AV} (hk : L[k]? = some (.op id 0, .b cs)) (hz : FzL cs) {ain : List Sh} {rout : Sh} {r : List AV → Heap → Option (AV × Heap)} {x v : AV} (hx : Fz x) (hxo : A.own x = false) (hs : A.scal v = true) (e : A.wrap true ain rout r [x, .rp cs] [] = some (v, [])) : A.wrap true ain rout r [x, .op id 0] σ = some (v, σ) := by
 obtain ⟨i, h1, h2, h3⟩ := H.own k _ hk
 simp only [AV.op.injEq] at h1
 obtain ⟨rfl, _⟩ := h1
 refine wrap_own (args' := [x, .rp cs]) (by simp [A.own, A.own1]) ?_ (by rw [List.any_cons, hxo]; rfl) e hs
 have q : A.frzL' σ 0 7 cs = some cs := by rw [frzL_eq]; exact hz σ 0 7
 simp [A.frzL, hx σ 0 8, A.frz, h3, q]
def Fzv (σ0 σ : Heap) (r r' : AV) : Prop := (∀ d, A.frz σ σ0.length (d + 1) r = some r') ∧ (σ = σ0 → r' = r)
theorem fzv_fz {r : AV} (h : Fz r) : Fzv σ0 σ r r := ⟨fun d => h σ _ (d + 1), fun _ => rfl⟩
theorem fzv_own {α : Type} (H : Hp σ0 σ L) {k sz : Nat} {h : AV} {c : α → List AV} {l : List α} (hk : L[k]? = some (h, .s sz (l.map c))) (hc : ∀ x, FzL (c x)) : ∃ r', Fzv σ0 σ h r' ∧ ((r' = .nsl ∧ l = []) ∨ r' = sl sz c l) := by
 rcases H.own k _ hk with ⟨h1, h2⟩ | ⟨id, g, off, a, h1, h2, h3, h4, h5⟩
 ·simp only at h1 h2
  have : l = [] := by simpa using h2
  subst this; subst h1
  exact ⟨.nsl, fzv_fz fz_nsl, .inl ⟨rfl, rfl⟩⟩
 ·simp only at h1 h5
  subst h1
  refine ⟨sl sz c l, ⟨fun d => ?_, fun e => ?_⟩, .inr rfl⟩
  ·have h6 : off + (l.map c).length = a.length := by rw [← h5, List.length_drop]; omega
   simp only [A.frz, Nat.not_lt.2 h2, if_false, h3]
   rw [if_pos (by simp; simp at h6; omega), frzLL_eq, h5, List.take_of_length_le (Nat.le_refl _), fzLL hc]
   rfl
  ·subst e
   have := (List.getElem?_eq_some_iff.1 h3).1
   omega
theorem nn_own' {α : Type} {sz : Nat} {c : α → List AV} {l : List α} {r : AV} (h : (r = .nsl ∧ l = []) ∨ r = sl sz c l) : A.nn (.s sz) r = sl sz c l := by
 rcases h with ⟨rfl, rfl⟩ | rfl <;> rfl
theorem nn_t1 {s1 : Sh} {v1 w1 : AV} {ss : List Sh} {vs ws : List AV} (h1 : A.nn s1 v1 = w1) (h2 : A.nnL ss vs = ws) : A.nnL (s1 :: ss) (v1 :: vs) = w1 :: ws := by simp only [A.nnL, h1, h2]
theorem nn_t0 : A.nnL [] [] = [] := by simp [A.nnL]
theorem nn_a {ss : List Sh} {vs ws : List AV} (h : A.nnL ss vs = ws) : A.nn (.a ss) (.agg vs) = .agg ws := by simp only [A.nn, h]
theorem nn_t {ss : List Sh} {vs ws : List AV} (h : A.nnL ss vs = ws) : A.nn (.t ss) (.tup vs) = .tup ws := by simp only [A.nn, h]
theorem frzM_fz (d : Nat) : ∀ {es : List (AV × AV)}, (∀ p ∈ es, Fz p.1 ∧ Fz p.2) → A.frzM' σ n d es = some es
 | [], _ => by simp [A.frzM']
 | (k, v) :: es, h => by
  have h1 := h (k, v) (by simp)
  simp only [A.frzM', h1.1 σ n d, h1.2 σ n d, Option.bind_some, frzM_fz d (es := es) (fun p hp => h p (by simp [hp])), Option.map_some]
theorem fzv_om (H : Hp σ0 σ L) {k : Nat} {h : AV} {es : List (AV × AV)} (hk : L[k]? = some (h, .m es)) (hc : ∀ p ∈ es, Fz p.1 ∧ Fz p.2) : Fzv σ0 σ h (.fm es) := by
 obtain ⟨id, h1, h2, h3⟩ := H.own k _ hk
 simp only at h1 h3
 subst h1
 refine ⟨fun d => ?_, fun e => ?_⟩
 ·simp only [A.frz, Nat.not_lt.2 h2, if_false, h3, frzM_fz d hc, Option.map_some]
 ·subst e
  have := (List.getElem?_eq_some_iff.1 h3).1
  omega
theorem hp_fin (H : Hp σ0 σ L) {r r' : AV} (h : Fzv σ0 σ r r') : A.fin σ0 r σ = some (r', σ0) := by
 obtain ⟨bs, hb⟩ := H.pre
 subst hb
 by_cases hbs : bs = []
 ·subst hbs
  rw [List.append_nil] at h ⊢
  rw [fin_same, h.2 rfl]
 ·unfold A.fin
  rw [if_neg (by simpa using hbs), if_pos (by simp), h.1 7]; rfl
end
section
variable {κ ν : Type} [DecidableEq κ]
def tfind (k : κ) : List (κ × ν) → Option ν
 | [] => none
 | (k', v) :: r => if k = k' then some v else tfind k r
def tupd (k : κ) (v : ν) : List (κ × ν) → List (κ × ν)
 | [] => [(k, v)]
 | (k', v') :: r => if k = k' then (k, v) :: r else (k', v') :: tupd k v r
def tdel (k : κ) : List (κ × ν) → List (κ × ν)
 | [] => []
 | (k', v') :: r => if k = k' then r else (k', v') :: tdel k r
variable {ek : A.EK} {eK : κ → AV} {eV : ν → AV} (hq : ∀ a b, A.eqK ek (eK a) (eK b) = some (decide (a = b)))
include hq
theorem find_t (k : κ) : ∀ l : List (κ × ν), A.find ek (eK k) (l.map fun p => (eK p.1, eV p.2)) = some ((tfind k l).map eV)
 | [] => rfl
 | (k', v) :: r => by
  simp only [List.map_cons, A.find, hq, Option.bind_some, tfind]
  by_cases h : k = k'
  ·simp [h]
  ·simp [h, find_t k r]
theorem upd_t (k : κ) (v : ν) : ∀ l : List (κ × ν), A.upd ek (eK k) (eV v) (l.map fun p => (eK p.1, eV p.2)) = some ((tupd k v l).map fun p => (eK p.1, eV p.2))
 | [] => rfl
 | (k', v') :: r => by
  simp only [List.map_cons, A.upd, hq, Option.bind_some, tupd]
  by_cases h : k = k'
  ·simp [h]
  ·simp [h, upd_t k v r]
theorem del_t (k : κ) : ∀ l : List (κ × ν), A.del ek (eK k) (l.map fun p => (eK p.1, eV p.2)) = some ((tdel k l).map fun p => (eK p.1, eV p.2))
 | [] => rfl
 | (k', v') :: r => by
  simp only [List.map_cons, A.del, hq, Option.bind_some, tdel]
  by_cases h : k = k'
  ·simp [h]
  ·simp [h, del_t k r]
end
theorem getD_map {α : Type} (o : Option α) (f : α → AV) (d : α) : (o.map f).getD (f d) = f (o.getD d) := by cases o <;> rfl
theorem isSome_map {α : Type} (o : Option α) (f : α → AV) : (o.map f).isSome = o.isSome := by cases o <;> rfl
def fmE {κ ν : Type} (eK : κ → AV) (eV : ν → AV) (l : List (κ × ν)) : AV := .fm (l.map fun p => (eK p.1, eV p.2))
section
variable {κ ν : Type} [DecidableEq κ] {ek : A.EK} {eK : κ → AV} {eV : ν → AV} {σ0 σ : Heap} {L : List (AV × Ct)} {h : AV} {l : List (κ × ν)}
theorem hp_updT (H : Hp σ0 σ L) (k : Nat) (hk : L[k]? = some (h, .m (l.map fun p => (eK p.1, eV p.2)))) (hq : ∀ a b, A.eqK ek (eK a) (eK b) = some (decide (a = b))) (x : κ) (v : ν) (hok : A.keyOk ek (eK x) = true) : ∃ σ', A.mupd ek h (eK x) (eV v) σ = some σ' ∧ Hp σ0 σ' (L.set k (h, .m ((tupd x v l).map fun p => (eK p.1, eV p.2)))) := hp_mupd H hk hok (upd_t hq x v l)
theorem hp_delT (H : Hp σ0 σ L) (k : Nat) (hk : L[k]? = some (h, .m (l.map fun p => (eK p.1, eV p.2)))) (hq : ∀ a b, A.eqK ek (eK a) (eK b) = some (decide (a = b))) (x : κ) (hok : A.keyOk ek (eK x) = true) : ∃ σ', A.mdel ek h (eK x) σ = some σ' ∧ Hp σ0 σ' (L.set k (h, .m ((tdel x l).map fun p => (eK p.1, eV p.2)))) := hp_mdel H hk hok (del_t hq x l)
theorem hp_lookT (H : Hp σ0 σ L) (k : Nat) (hk : L[k]? = some (h, .m (l.map fun p => (eK p.1, eV p.2)))) (hq : ∀ a b, A.eqK ek (eK a) (eK b) = some (decide (a = b))) (x : κ) (z : ν) (hok : A.keyOk ek (eK x) = true) : A.look ek h (eK x) (eV z) σ = some (eV ((tfind x l).getD z)) := by
 rw [hp_look H hk hok (find_t hq x l), getD_map]
theorem fm_lookT (hq : ∀ a b, A.eqK ek (eK a) (eK b) = some (decide (a = b))) (x : κ) (z : ν) (hok : A.keyOk ek (eK x) = true) : A.look ek (fmE eK eV l) (eK x) (eV z) σ = some (eV ((tfind x l).getD z)) := by
 simp only [A.look, fmE, hok, cond_true, A.entries, Option.bind_some, find_t hq, Option.map_some, getD_map]
theorem fm_lookOkT (hq : ∀ a b, A.eqK ek (eK a) (eK b) = some (decide (a = b))) (x : κ) (z : ν) (hok : A.keyOk ek (eK x) = true) : A.lookOk ek (fmE eK eV l) (eK x) (eV z) σ = some (.tup [eV ((tfind x l).getD z), .bool (tfind x l).isSome]) := by
 simp only [A.lookOk, fmE, hok, cond_true, A.entries, Option.bind_some, find_t hq, Option.map_some, getD_map, isSome_map]
end
section
variable {α : Type} {c : α → List AV} {l ys : List α} {σ0 σ : Heap} {L : List (AV × Ct)} {h : AV} {sz : Nat}
theorem hp_appT (H : Hp σ0 σ L) (k : Nat) {most : Nat} (hk : L[k]? = some (h, .s sz (l.map c))) (hm : l.length + ys.length ≤ most) : ∃ h' σ', A.append sz most h (sl sz c ys) σ = some (h', σ') ∧ Hp σ0 σ' (L.set k (h', .s sz ((l ++ ys).map c))) := by
 rw [List.map_append]
 exact hp_app H hk (by simpa using hm)
end
def tSl {α : Type} (l : List α) (lo hi : Option Int) : Option (List α) :=
 let h := hi.getD l.length
 let k := lo.getD 0
 if 0 ≤ k ∧ k ≤ h ∧ h ≤ l.length then some ((l.take h.toNat).drop k.toNat) else none
theorem sls_at {α : Type} {sz : Nat} {c : α → List AV} {l r : List α} {lo hi : Option Int} {σ : Heap} (h : tSl l lo hi = some r) : A.sliceS sz (sl sz c l) (lo.map (.int .i64)) (hi.map (.int .i64)) σ = some (sl sz c r) := by
 unfold tSl at h
 simp only at h
 split at h
 ·rename_i hc
  injection h with h
  subst h
  obtain ⟨h1, h2, h3⟩ := hc
  simp only [A.sliceS, sl, if_true, List.length_map]
  have e1 : A.bound l.length l.length (hi.map (.int .i64)) = some (hi.getD l.length).toNat := by
   cases hi with
   | none => simp [A.bound]
   | some h => simp only [Option.getD_some] at h2 h3; simp [A.bound, show 0 ≤ h by omega, h3]
  have e2 : A.bound (hi.getD l.length).toNat 0 (lo.map (.int .i64)) = some (lo.getD 0).toNat := by
   cases lo with
   | none => simp [A.bound]
   | some k =>
    simp only [Option.getD_some] at h1 h2
    have : k ≤ ((hi.getD l.length).toNat : Int) := by omega
    simp only [Option.map_some, A.bound, Option.getD_some]
    rw [if_pos ⟨h1, this⟩]
  rw [e1, Option.bind_some, e2, Option.map_some, List.map_drop, List.map_take]
 ·cases h
end Go.Proofs.YtphgchakmkankaaGreat

namespace Go.Proofs.YtphgchakmkankaaGreat
set_option linter.unusedSectionVars false
set_option linter.unusedVariables false
set_option linter.unusedSimpArgs false
def chkE {α : Type} (f : Nat → α → Int) : List α → Nat → Int
 | [], _ => 0
 | x :: l, i => if f i x = 0 then chkE f l (i + 1) else f i x
section
variable {α β γ S B R : Type}
theorem chkE_zero {f : Nat → α → Int} : ∀ (l : List α) (i : Nat), chkE f l i = 0 ↔ ∀ j x, l[j]? = some x → f (i + j) x = 0
 | [], i => by simp [chkE]
 | y :: l, i => by
  rw [chkE]
  by_cases h : f i y = 0
  ·rw [if_pos h, chkE_zero l (i + 1)]
   constructor
   ·intro k j x hx
    cases j with
    | zero => simp at hx; subst hx; exact h
    | succ j => have := k j x (by simpa using hx); rwa [show i + 1 + j = i + (j + 1) by omega] at this
   ·intro k j x hx
    have := k (j + 1) x (by simpa using hx)
    rwa [show i + (j + 1) = i + 1 + j by omega] at this
  ·rw [if_neg h]
   exact ⟨fun e => absurd e h, fun k => absurd (k 0 y rfl) h⟩
theorem forE_le {l : List α} {body : Nat → α → S → Option (Lr S B R)} {fin : S → Option B} {s : S} {K1 : B → Option γ} {K2 : R → Option γ} (hl : l.length ≤ mxl) : forE l body fin s K1 K2 = (forL body fin l 0 s).bind fun q => q.elim K1 K2 := if_pos hl
theorem forE_chk {f : Nat → α → Int} {l : List α} {body : Nat → α → Unit → Option (Lr Unit Unit Int)} {fin : Unit → Option Unit} {s : Unit} {K1 : Unit → Option γ} {K2 : Int → Option γ} (hl : l.length ≤ mxl) (hb : ∀ i x, l[i]? = some x → body i x () = some (if f i x = 0 then .go () else .ret (f i x))) (hf : fin () = some () := by rfl) : forE l body fin s K1 K2 = if chkE f l 0 = 0 then K1 () else K2 (chkE f l 0) := by
 rw [forE_le hl]
 have key : ∀ (rest pre : List α), l = pre ++ rest → forL body fin rest pre.length () = some (if chkE f rest pre.length = 0 then .inl () else .inr (chkE f rest pre.length)) := by
  intro rest
  induction rest with
  | nil => intro pre _; simp [forL, hf, chkE]
  | cons x rest ih =>
   intro pre hp
   rw [forL, hb pre.length x (by rw [hp]; simp), Option.bind_some, chkE]
   by_cases h : f pre.length x = 0
   ·simp only [h, if_true]
    have := ih (pre ++ [x]) (by simpa using hp)
    simpa using this
   ·simp only [h, if_false]
 have k := key l [] rfl
 rw [List.length_nil] at k
 rw [show s = () from rfl, k, Option.bind_some]
 split <;> rfl
theorem ite_ret {p : Prop} [Decidable p] {k f : Int} {Y : Option (Lr Unit Unit Int)} (hk : k ≠ 0) (h : Y = some (if f = 0 then .go () else .ret f)) : (if p then some (.ret k) else Y) = some (if (if p then k else f) = 0 then .go () else .ret (if p then k else f)) := by
 by_cases hp : p
 ·simp [hp, hk]
 ·simp [hp, h]
theorem go_ret : (some (.go ()) : Option (Lr Unit Unit Int)) = some (if (0 : Int) = 0 then .go () else .ret 0) := rfl
theorem elim_ret (k : Int) : (if k = 0 then some (.go ()) else some (.ret k) : Option (Lr Unit Unit Int)) = some (if k = 0 then .go () else .ret k) := by split <;> rfl
theorem forE_find {p : α → Bool} {l : List α} {body : Nat → α → Unit → Option (Lr Unit Unit R)} {r : α → R} {fin : Unit → Option Unit} {s : Unit} {K1 : Unit → Option γ} {K2 : R → Option γ} (hl : l.length ≤ mxl) (hb : ∀ i x, l[i]? = some x → body i x () = some (if p x = true then .ret (r x) else .go ())) (hf : fin () = some () := by rfl) : forE l body fin s K1 K2 = match l.find? p with | some x => K2 (r x) | none => K1 () := by
 rw [forE_le hl]
 have key : ∀ (rest pre : List α), l = pre ++ rest → forL body fin rest pre.length () = some (match rest.find? p with | some x => .inr (r x) | none => .inl ()) := by
  intro rest
  induction rest with
  | nil => intro pre _; simp [forL, hf]
  | cons x rest ih =>
   intro pre hp
   rw [forL, hb pre.length x (by rw [hp]; simp), Option.bind_some, List.find?_cons]
   cases h : p x
   ·simp only [Bool.false_eq_true, if_false]
    have := ih (pre ++ [x]) (by simpa using hp)
    simpa using this
   ·simp only [if_true]
 have k := key l [] rfl
 rw [List.length_nil] at k
 rw [show s = () from rfl, k, Option.bind_some]
 cases l.find? p <;> rfl
theorem forE_fold {l : List α} {body : Nat → α → S → Option (Lr S B R)} {fin : S → Option B} {s : S} {K1 : B → Option γ} {K2 : R → Option γ} (g : S → α → S) (P : Nat → S → Prop) (hl : l.length ≤ mxl) (h0 : P 0 s) (hP : ∀ i x s, l[i]? = some x → P i s → P (i + 1) (g s x)) (hb : ∀ i x s, l[i]? = some x → P i s → body i x s = some (.go (g s x))) : forE l body fin s K1 K2 = (fin (l.foldl g s)).bind K1 := by
 rw [forE_le hl]
 have key : ∀ (rest pre : List α) (s : S), l = pre ++ rest → P pre.length s → forL body fin rest pre.length s = (fin (rest.foldl g s)).map .inl := by
  intro rest
  induction rest with
  | nil => intro pre s _ _; simp [forL]
  | cons x rest ih =>
   intro pre s hp hq
   have hx : l[pre.length]? = some x := by rw [hp]; simp
   rw [forL, hb pre.length x s hx hq, Option.bind_some, List.foldl_cons]
   have := ih (pre ++ [x]) (g s x) (by simpa using hp) (by simpa using hP _ _ _ hx hq)
   simpa using this
 have k := key l [] s rfl h0
 rw [List.length_nil] at k
 rw [k]
 cases fin (l.foldl g s) <;> rfl
def pv [Inhabited α] (l : List α) (i : Nat) : α := if 0 < i then l.getD (i - 1) default else default
theorem tIx_get {l : List α} {i : Int} {x : α} (h0 : 0 ≤ i) (h : l[i.toNat]? = some x) : tIx l i = some x := by rw [tIx, if_pos h0, h]
theorem prev_at [Inhabited α] {l : List α} {i : Nat} {x : α} (h : l[i]? = some x) (hl : l.length ≤ mxl) : (if decide (0 < (i : Int)) = true then tIx l (IntKind.i64.wrap ((i : Int) - 1)) else some default) = some (pv l i) := by
 have hi := (List.getElem?_eq_some_iff.1 h).1
 unfold pv
 by_cases h0 : 0 < i
 ·rw [if_pos (by simpa using h0), if_pos h0, wrap64 (by unfold inI; unfold mxl at hl; omega)]
  refine tIx_get (by omega) ?_
  have : ((i : Int) - 1).toNat = i - 1 := by omega
  rw [this, List.getD, List.getElem?_eq_getElem (by omega)]
  rfl
 ·rw [if_neg (by simpa using h0), if_neg h0]
theorem last_at [Inhabited α] {l : List α} {i : Nat} {x : α} (h : l[i]? = some x) (hl : l.length ≤ mxl) : (if decide (0 < ((l.take i).length : Int)) = true then tIx (l.take i) (IntKind.i64.wrap (((l.take i).length : Int) - 1)) else some default) = some (pv l i) := by
 have hi := (List.getElem?_eq_some_iff.1 h).1
 have e : (l.take i).length = i := by simp; omega
 rw [e]
 unfold pv
 by_cases h0 : 0 < i
 ·rw [if_pos (by simpa using h0), if_pos h0, wrap64 (by unfold inI; unfold mxl at hl; omega)]
  refine tIx_get (by omega) ?_
  have : ((i : Int) - 1).toNat = i - 1 := by omega
  rw [this, List.getD, List.getElem?_take, if_pos (by omega), List.getElem?_eq_getElem (by omega)]
  rfl
 ·rw [if_neg (by simpa using h0), if_neg h0]
theorem tSl_pre {l : List α} {i : Nat} (h : i ≤ l.length) : tSl l none (some (i : Int)) = some (l.take i) := by
 simp [tSl, h]
theorem find2 {a b : Int} : (([a, b] : List Int).find? fun n => decide (¬ n = 0)).getD 0 = if ¬ (a = 0) then a else b := by
 by_cases ha : a = 0
 ·by_cases hb : b = 0 <;> simp [ha, hb, List.find?]
 ·simp [ha, List.find?]
end
theorem toList_d (s : ByteArray) : s.toList = s.data.toList := ByteArray.toList_eq s
theorem cmpB_lt : ∀ (a b : List UInt8), Lib.compareBytes a b < 0 ↔ Op.bytesLess a b = true
 | [], [] => by simp [Lib.compareBytes, Op.bytesLess]
 | [], _ :: _ => by simp [Lib.compareBytes, Op.bytesLess]
 | _ :: _, [] => by simp [Lib.compareBytes, Op.bytesLess]
 | a :: x, b :: y => by
  rw [Lib.compareBytes, Op.bytesLess]
  by_cases h1 : a < b
  ·simp [h1]
  ·by_cases h2 : b < a
   ·have : a ≠ b := by rintro rfl; exact h1 h2
    simp [h1, h2, this]
   ·have : a = b := UInt8.le_antisymm (UInt8.not_lt.1 h2) (UInt8.not_lt.1 h1)
    subst this
    simp [UInt8.lt_irrefl, cmpB_lt x y]
theorem cmpB_eq : ∀ (a b : List UInt8), Lib.compareBytes a b = 0 ↔ a = b
 | [], [] => by simp [Lib.compareBytes]
 | [], _ :: _ => by simp [Lib.compareBytes]
 | _ :: _, [] => by simp [Lib.compareBytes]
 | a :: x, b :: y => by
  rw [Lib.compareBytes]
  by_cases h1 : a < b
  ·have : a ≠ b := by rintro rfl; exact UInt8.lt_irrefl _ h1
   simp [h1, this]
  ·by_cases h2 : b < a
   ·have : a ≠ b := by rintro rfl; exact UInt8.lt_irrefl _ h2
    simp [h1, h2, this]
   ·have : a = b := UInt8.le_antisymm (UInt8.not_lt.1 h2) (UInt8.not_lt.1 h1)
    subst this
    simp [UInt8.lt_irrefl, cmpB_eq x y]
def ltK (a b : KeyD) : Bool := decide (a.unit < b.unit) || (decide (a.unit = b.unit) && Op.bytesLess a.param.toList b.param.toList)
def cmpK (a b : KeyD) : Int := if ¬ (a.unit = b.unit) then (if a.unit < b.unit then -1 else 1) else Lib.compareBytes a.param.data.toList b.param.data.toList
theorem cmpK_lt (a b : KeyD) : cmpK a b < 0 ↔ ltK a b = true := by
 unfold cmpK ltK
 by_cases h : a.unit = b.unit
 ·simp [h, toList_d, cmpB_lt]
 ·by_cases h2 : a.unit < b.unit <;> simp [h, h2]
theorem cmpK_ge (a b : KeyD) : decide (0 ≤ cmpK a b) = !ltK a b := by
 have := cmpK_lt a b
 cases h : ltK a b
 ·rw [h] at this; simp at this; simp [this]
 ·rw [h] at this; simp at this; simp [this]
theorem cmpK_eq (a b : KeyD) : cmpK a b = 0 ↔ a = b := by
 obtain ⟨u, p⟩ := a
 obtain ⟨v, q⟩ := b
 unfold cmpK
 by_cases h : u = v
 ·subst h
  simp only [not_true_eq_false, if_false, cmpB_eq, KeyD.mk.injEq, true_and]
  exact ⟨fun e => by obtain ⟨⟨p⟩⟩ := p; obtain ⟨⟨q⟩⟩ := q; simp at e; subst e; rfl, fun e => by rw [e]⟩
 ·by_cases h2 : u < v <;> simp [h, h2]
end Go.Proofs.YtphgchakmkankaaGreat

namespace Go.Proofs.YtphgchakmkankaaGreat
set_option linter.unusedSectionVars false
set_option linter.unusedVariables false
set_option linter.unusedSimpArgs false
open Go.Sort
theorem bl_irr : ∀ a : List UInt8, Op.bytesLess a a = false
 | [] => rfl
 | x :: l => by simp [Op.bytesLess, UInt8.lt_irrefl, bl_irr l]
theorem bl_trans : ∀ a b c : List UInt8, Op.bytesLess a b = true → Op.bytesLess b c = true → Op.bytesLess a c = true
 | [], [], c, h, _ => by simp [Op.bytesLess] at h
 | [], _ :: _, [], _, k => by simp [Op.bytesLess] at k
 | [], _ :: _, _ :: _, _, _ => rfl
 | _ :: _, [], c, h, _ => by simp [Op.bytesLess] at h
 | _ :: _, _ :: _, [], _, k => by simp [Op.bytesLess] at k
 | x :: a, y :: b, z :: c, h, k => by
  rw [Op.bytesLess] at h k ⊢
  simp only [Bool.or_eq_true, Bool.and_eq_true, decide_eq_true_eq, beq_iff_eq] at h k ⊢
  rcases h with h | ⟨rfl, h⟩ <;> rcases k with k | ⟨rfl, k⟩
  ·exact .inl (UInt8.lt_trans h k)
  ·exact .inl h
  ·exact .inl k
  ·exact .inr ⟨rfl, bl_trans a b c h k⟩
theorem ltK_irr (a : KeyD) : ltK a a = false := by simp [ltK, bl_irr]
theorem ltK_trans {a b c : KeyD} (h : ltK a b = true) (k : ltK b c = true) : ltK a c = true := by
 simp only [ltK, Bool.or_eq_true, Bool.and_eq_true, decide_eq_true_eq] at h k ⊢
 rcases h with h | ⟨h1, h2⟩ <;> rcases k with k | ⟨k1, k2⟩
 ·left; omega
 ·left; omega
 ·left; omega
 ·right; exact ⟨by omega, bl_trans _ _ _ h2 k2⟩
theorem ltK_tri {a b : KeyD} (h : ltK a b = false) (k : ltK b a = false) : a = b := by
 rw [← cmpK_eq]
 have h1 : ¬ cmpK a b < 0 := fun e => by rw [(cmpK_lt a b).1 e] at h; cases h
 have hba : cmpK b a = - cmpK a b ∨ True := .inr trivial
 -- what is neither smaller nor greater is the same
 unfold cmpK at h1 ⊢
 simp only [ltK, Bool.or_eq_false_iff, Bool.and_eq_false_iff, decide_eq_false_iff_not] at h k
 have hu : a.unit = b.unit := by omega
 simp only [hu, not_true_eq_false, if_false] at h1 ⊢
 have e1 : Op.bytesLess a.param.data.toList b.param.data.toList = false := by
  rcases h.2 with q | q
  ·exact absurd hu q
  ·simpa [toList_d] using q
 have e2 : Op.bytesLess b.param.data.toList a.param.data.toList = false := by
  rcases k.2 with q | q
  ·exact absurd hu.symm q
  ·simpa [toList_d] using q
 rw [cmpB_eq]
 have tri : ∀ x y : List UInt8, Op.bytesLess x y = false → Op.bytesLess y x = false → x = y := by
  intro x
  induction x with
  | nil => intro y p q; cases y with | nil => rfl | cons y l => simp [Op.bytesLess] at p
  | cons x xs ih =>
   intro y p q
   cases y with
   | nil => simp [Op.bytesLess] at q
   | cons y ys =>
    rw [Op.bytesLess] at p q
    by_cases h1 : x < y
    ·simp [h1] at p
    ·by_cases h2 : y < x
     ·simp [h2] at q
     ·have : x = y := UInt8.le_antisymm (UInt8.not_lt.1 h2) (UInt8.not_lt.1 h1)
      subst this
      simp [h1] at p q
      rw [ih ys p q]
 exact tri _ _ e1 e2
theorem cmpKey_lt (a b : KeyD) : cmpKey a b < 0 ↔ ltK a b = true := cmpK_lt a b
theorem swo_key {α : Type} (f : α → KeyD) : SWO (fun x y => decide (cmpKey (f x) (f y) < 0)) := by
 refine ⟨fun x => ?_, fun x y z h k => ?_, fun x y z h k => ?_⟩
 ·exact decide_eq_false fun h => by rw [cmpKey_lt, ltK_irr] at h; cases h
 ·have h := (cmpKey_lt _ _).1 (of_decide_eq_true h)
  have k := (cmpKey_lt _ _).1 (of_decide_eq_true k)
  exact decide_eq_true ((cmpKey_lt _ _).2 (ltK_trans h k))
 ·have h : ltK (f x) (f y) = false := by
   cases q : ltK (f x) (f y)
   ·rfl
   ·exact absurd ((cmpKey_lt _ _).2 q) (of_decide_eq_false h)
  have k : ltK (f y) (f z) = false := by
   cases q : ltK (f y) (f z)
   ·rfl
   ·exact absurd ((cmpKey_lt _ _).2 q) (of_decide_eq_false k)
  refine decide_eq_false fun q => ?_
  have q := (cmpKey_lt _ _).1 q
  cases e : ltK (f y) (f x)
  ·have := ltK_tri h e
   rw [this, k] at q; cases q
  ·have := ltK_trans e q
   rw [k] at this; cases this
theorem cEntry_inj (x y : EntryD) (h : cEntry x = cEntry y) : x = y := by
 obtain ⟨⟨a, b⟩, ⟨p, q⟩, r⟩ := x
 obtain ⟨⟨a', b'⟩, ⟨p', q'⟩, r'⟩ := y
 simp [cEntry] at h
 obtain ⟨rfl, rfl, rfl, rfl, rfl⟩ := h
 rfl
end Go.Proofs.YtphgchakmkankaaGreat

namespace Go.Proofs.YtphgchakmkankaaGreat
set_option linter.unusedSectionVars false
open Go.RowKit Go.Sort
set_option maxRecDepth 100000
set_option linter.unusedVariables false
set_option linter.unusedSimpArgs false
theorem sorted_world {α : Type} [Inhabited α] {enc : α → List Value} {k : Nat} (hk : ∀ x, (enc x).length = k) {w : World} {b off n : Nat} {d d' : Array α} {os : Array Obj} {arr : Array Value} {bt : TypeId} (hs : d'.size = d.size)
  (hb : w.heap[b]? = some (.cells arr bt (0, 0))) (hfit : off + d.size * k ≤ arr.size) :
  Below w.heap.size (w.setB b (.cells (spl arr off (d'.toList.flatMap enc)) bt (0, 0))) (sortWorldK enc k w b off n d' os) := by
 have hlt : b < w.heap.size := (Array.getElem?_eq_some_iff.1 hb).1
 have hfl : (d'.toList.flatMap enc).length = d'.size * k := by
  have : ∀ l : List α, (l.flatMap enc).length = l.length * k := by
   intro l
   induction l with
   | nil => simp
   | cons x l ih => simp [hk, ih, Nat.add_mul]; omega
  rw [this, Array.length_toList]
 have hget : ∀ (l : List α) (t : Nat), t < l.length * k → (l.flatMap enc)[t]? = some ((enc l.toArray[t / k]!)[t % k]!) := by
  intro l
  induction l with
  | nil => intro t ht; simp at ht
  | cons x l ih =>
   intro t ht
   have hk0 : 0 < k := Nat.pos_of_ne_zero fun e => by subst e; simp at ht
   rw [List.flatMap_cons]
   by_cases h : t < k
   ·rw [List.getElem?_append_left (by rw [hk]; exact h), Nat.div_eq_of_lt h, Nat.mod_eq_of_lt h]
    simp [hk, h]
   ·rw [List.getElem?_append_right (by rw [hk]; omega), hk, ih (t - k) (by simp [Nat.add_mul] at ht; omega)]
    have e1 : t / k = (t - k) / k + 1 := by rw [Nat.div_eq_sub_div hk0 (by omega)]
    have e2 : t % k = (t - k) % k := by rw [Nat.mod_eq_sub_mod (by omega)]
    rw [e1, e2]
    simp
 have hcells : putCells id off (flatK enc k d') arr = spl arr off (d'.toList.flatMap enc) := by
  apply Array.ext_getElem?
  intro j
  rw [spl_get _ _ _ (by rw [hfl, hs]; omega)]
  simp only [putCells, Array.getElem?_mapIdx, size_flatK]
  by_cases hj : off ≤ j ∧ j < off + d'.size * k
  ·rw [if_pos (by rw [hfl]; exact hj)]
   have hja : j < arr.size := by rw [hs] at hj; omega
   rw [Array.getElem?_eq_getElem hja, Option.map_some, if_pos hj]
   have := hget d'.toList (j - off) (by rw [Array.length_toList]; omega)
   rw [this]
   simp only [id]
   rw [get_flatK _ _ _ _ (by omega)]
  ·rw [if_neg (by rw [hfl]; exact hj)]
   by_cases hja : j < arr.size
   ·rw [Array.getElem?_eq_getElem hja, Option.map_some, if_neg hj]
   ·rw [Array.getElem?_eq_none (by omega), Option.map_none]
 refine ⟨rfl, rfl, rfl, ?_, fun i hi => ?_⟩
 ·rw [size_setB]
  simp [sortWorldK, grow, putRowK, putRow, mapBlock, Sort.ahead]
 ·have hi' : i < (putRowK enc k (Sort.ahead w n) b off d').heap.size := by simp [putRowK, putRow, mapBlock, Sort.ahead]; exact hi
  show (grow (putRowK enc k (Sort.ahead w n) b off d') os).heap[i]? = _
  unfold grow
  simp only
  rw [Array.getElem?_append_left hi']
  simp only [putRowK, putRow, mapBlock, Sort.ahead]
  rw [Array.getElem?_modify]
  by_cases h : b = i
  ·subst h
   rw [if_pos rfl, heap_setB_same _ hlt, hb]
   simp only [Option.map_some, onCells, hcells]
  ·rw [if_neg h, heap_setB_other _ h]
theorem sort_sound {P : Program} {nm : List Nat} {f g : FuncId} {α : Type} [Inhabited α] {sz : Nat} {c : α → List AV} {enc : α → List Value} {cf : α → α → Int} (hsz : 0 < sz) (hinj : ∀ x y, c x = c y → x = y) (hcl : ∀ x, (c x).length = sz)
  (hrep : ∀ cc x, RepL cc (c x) (enc x)) (huniq : ∀ cc x vs, RepL cc (c x) vs → vs = enc x) (hone : ∀ x, ∀ v ∈ enc x, one1 v = true)
  (hf : ∀ us w, (callFunc f us).run P w = .ok (.enter f us) w) (hnone : ∀ w, Calls P f #[.slice none 0 0, .func (.func g) #[] #[]] w fun e w' => e = .returned (.tuple #[]) ∧ Below w.heap.size w w')
  (hmain : ∀ (blk off cap : Nat) (d : Array α) (w : World), HoldsK enc sz w blk off d → blk < w.heap.size → d.size < 4611686018427387904 → Calls P f #[.slice (some ⟨blk, off, none⟩) d.size cap, .func (.func g) #[] #[]] w fun e w' =>
   e = .returned (.tuple #[]) ∧ ∃ n os, w' = sortWorldK enc sz w blk off n (pdq (fun x y => decide (cf x y < 0)) d 0 d.size (Lib.bitLen d.size) true true) os)
  (hsize : ∀ d : Array α, (pdq (fun x y => decide (cf x y < 0)) d 0 d.size (Lib.bitLen d.size) true true).size = d.size)
  {x : AV} {σ : Heap} {r : AV} {σ' : Heap} (hm : A.sortG sz c cf x σ = some (r, σ')) {n : Nat} (hn : ∀ f, nm.getD f 0 = n → f = g) : ACalls P nm f [x, .fn n []] σ r σ' := by
 refine .inl ⟨f, hf, fun z vs e1 e2 hh ha => ?_⟩
 obtain ⟨v, u, rfl, r1, r2⟩ := repL2 ha
 simp only [Rep] at r2
 obtain ⟨f', us, rfl, k1, k2⟩ := r2
 have hf' : f' = g := hn f' (by rw [← e1]; exact k1)
 have hus : us = #[] := by simp only [RepL] at k2; exact Array.toList_inj.1 k2
 subst hf' hus
 have hout : Out z z.w z.E := ⟨rfl, rfl, rfl, Nat.le_refl _, fun _ _ _ => rfl, fun i p hp => .inr ⟨p, hp, rfl⟩, fun i p hp => ⟨p, hp, .inl rfl⟩, e2, fun p hp => hh.lt hp⟩
 unfold A.sortG at hm
 cases x <;> simp only at hm <;> first | (cases hm; done) | skip
 case nsl =>
  simp only [Option.some.injEq, Prod.mk.injEq] at hm
  obtain ⟨rfl, rfl⟩ := hm
  simp only [Rep] at r1; subst r1
  refine (hnone z.w).mono ?_
  rintro e w' ⟨rfl, hb⟩
  exact ⟨_, z.E, rfl, hout.grow hb, hh.mono (grow_ext hb) rfl (fun p hp => hb.block _ (hh.lt hp)), by simp [Rep, RepL]⟩
 case os =>
  rename_i id gg sz0 off len
  simp only [Rep] at r1
  obtain ⟨hg, p, k3, k4, qa, cap, rfl, hcap, rx⟩ := r1
  split at hm
  ·rename_i g' sz' es hs
   split at hm
   ·rename_i hc
    obtain ⟨⟨c1, c2, c3, c4, c5, c6⟩, c7⟩ := hc
    subst c1; subst c2; subst c3
    simp only [Option.some.injEq, Prod.mk.injEq] at hm
    obtain ⟨rfl, rfl⟩ := hm
    have hl := Classical.choose_spec c7
    generalize Classical.choose c7 = l at hl ⊢
    obtain ⟨j1, j2, j3, j4, ⟨arr, bt, j5, j6⟩, j7, j8, j9⟩ := hh.blk id p _ k3 hs
    obtain ⟨q1, q2, q3⟩ := rx j1.symm
    have hqa : qa = ⟨p.b, p.base + off * p.sz, none⟩ := q2.resolve_left (by omega)
    have hll : l.length = len := by
     have := congrArg List.length hl
     simp at this; omega
    have hmul : (off + len) * sz0 ≤ es.length * sz0 := Nat.mul_le_mul_right _ c4
    rw [Nat.add_mul] at hmul
    have j5' : z.w.heap[p.b]? = some (.cells arr bt (0, 0)) := j5
    have hlt : p.b < z.w.heap.size := (Array.getElem?_eq_some_iff.1 j5').1
    have hpsz : p.sz = sz0 := q1
    have hholds : HoldsK enc sz0 z.w p.b (p.base + off * sz0) l.toArray := by
     intro t ht
     simp only [size_flatK, List.size_toArray] at ht
     rw [get_flatK _ _ _ _ (by simpa using ht)]
     have htk : t / sz0 < l.length := by rw [Nat.div_lt_iff_lt_mul hsz]; exact ht
     have hes : es[off + t / sz0]? = some (c l[t / sz0]) := by
      have h1 : ((es.drop off).take len)[t / sz0]? = (l.map c)[t / sz0]? := by rw [hl]
      rw [List.getElem?_take_of_lt (by omega), List.getElem?_drop, List.getElem?_map, List.getElem?_eq_getElem htk] at h1
      exact h1
     obtain ⟨_, m2⟩ := RepEs.nth j8 hes
     obtain ⟨vs, m3, m4, m5⟩ := m2.toL
     have m6 := huniq _ _ _ m3
     subst m6
     have hmod : t % sz0 < (enc l[t / sz0]).length := by rw [← (hrep (ctx z z.w z.E nopb) _).length, hcl]; exact Nat.mod_lt _ hsz
     have m7 := m5 (t % sz0) _ (List.getElem?_eq_getElem hmod)
     have e : p.base + (off + t / sz0) * sz0 + t % sz0 = p.base + off * sz0 + t := by
      have := Nat.div_add_mod t sz0
      rw [Nat.add_mul, Nat.mul_comm (t / sz0)]; omega
     rw [e] at m7
     refine ⟨?_, by simp [World.frozen?, j5']⟩
     rw [show z.w.cell? ⟨p.b, p.base + off * sz0 + t, none⟩ = _ from m7]
     simp [htk, hmod]
    have hcon := hmain p.b (p.base + off * sz0) cap l.toArray z.w hholds hlt (by simpa [hll] using c6)
    rw [hqa, hpsz]
    simp only [List.size_toArray, hll] at hcon
    refine hcon.mono ?_
    rintro e w' ⟨rfl, nn, os, rfl⟩
    have hd' := hsize l.toArray
    simp only [List.size_toArray, hll] at hd'
    generalize hdd : pdq (fun x y => decide (cf x y < 0)) l.toArray 0 len (Lib.bitLen len) true true = d' at hd' ⊢
    have hsw := sorted_world (enc := enc) (k := sz0) (fun x => by rw [← (hrep (ctx z z.w z.E nopb) x).length, hcl]) (w := z.w) (b := p.b) (off := p.base + off * sz0) (n := nn) (d := l.toArray) (d' := d') (os := os) (by rw [hd']; simp [hll]) j5' (by simp [hll]; rw [j6]; omega)
    have hst0 : St ⟨P, nm, fun _ _ _ => none, fun _ _ _ => none, [], [], 0, []⟩ z ⟨[], fun _ => none, σ⟩ { tmps := #[], defers := [] } z.w z.E nopb :=
     ⟨rfl, rfl, fun i av hi => by simp at hi, fun i cs hi => by simp at hi, fun t p hp => (by cases hp), fun i b hb => (by cases hb), fun i j b hb => (by cases hb), hh, rfl, hout, e1.symm⟩
    have hnl : (d'.toList.map c).length = len := by rw [List.length_map, Array.length_toList, hd']
    obtain ⟨_, hst⟩ := bulk_own hst0 (i := off) (ys := d'.toList.map c) (news := d'.toList.flatMap enc) k3 hs j5 (by rw [hnl]; exact c4) (by
      generalize d'.toList = l'
      induction l' with
      | nil => simp [RepL]
      | cons x l' ih => simp only [List.map_cons, List.flatten_cons, List.flatMap_cons]; exact (hrep _ x).append ih)
     (fun x hx => by obtain ⟨y, _, hy⟩ := List.mem_flatMap.1 hx; exact hone y x hy) (fun y hy => by obtain ⟨x, _, rfl⟩ := List.mem_map.1 hy; exact hcl x)
     (by
      have : ∀ l : List α, (l.flatMap enc).length = l.length * sz0 := by
       intro l
       induction l with
       | nil => simp
       | cons x l ih => simp only [List.flatMap_cons, List.length_append, ih, ← (hrep (ctx z z.w z.E nopb) x).length, hcl, List.length_cons, Nat.add_mul]; omega
      rw [this, List.length_map])
    have hst2 := hst.grow (w' := sortWorldK enc sz0 z.w p.b (p.base + off * sz0) nn d' os) (by rw [size_setB]; exact hsw)
    refine ⟨_, z.E, rfl, hst2.out, ?_, by simp [Rep, RepL]⟩
    have hpd : pdqL cf l = d'.toList := by unfold pdqL; rw [hll, hdd]
    rw [hnl] at hst2
    rw [hpd]
    exact hst2.heap
   ·cases hm
  ·cases hm
def encEntry (x : EntryD) : List Value := [.int .i64 x.key.unit, .string x.key.param, .int .i64 x.value.level, .int .i64 x.value.preset, .int .i64 x.cue]
theorem grow_two {W : World} {o1 o2 : Obj} : ∃ q os', (W.alloc o1).alloc o2 = grow (W.drewN q) os' := ⟨0, _, by rw [alloc_eq_grow, alloc_eq_grow, grow_grow]; rfl⟩
theorem grow_more {W : World} {o1 o2 : Obj} {q : Nat} {os : Array Obj} : ∃ q' os', grow (((W.alloc o1).alloc o2).drewN q) os = grow (W.drewN q') os' := ⟨q, _, by rw [alloc_eq_grow, alloc_eq_grow, grow_grow]; show grow (grow (W.drewN q) _) os = _; rw [grow_grow]⟩
theorem compare_walk (a b : KeyD) (W : World) : Calls Tryz.prog 53 #[.agg #[.int .i64 a.unit, .string a.param], .agg #[.int .i64 b.unit, .string b.param]] W fun e w' => e = .returned (.int .i64 (cmpKey a b)) ∧ ∃ q os', w' = grow (W.drewN q) os' := by
 have hcon := fun (x y : ByteArray) W' => Tryz.strings_Compare x y W'
 go_enter Tryz.func53, Tryz.ntmps53
 go_wp2_with (go_at_call 98; refine (hcon _ _ _).mono ?_; rintro e w' ⟨rfl, rfl⟩)
 ·go_ret
  have h1 : a.unit ≠ b.unit := by omega
  exact ⟨by rw [cmpKey, if_pos h1, if_pos (by omega)]; rfl, grow_two⟩
 ·go_ret
  have h1 : a.unit ≠ b.unit := by simpa using ‹(a.unit != b.unit) = true›
  exact ⟨by rw [cmpKey, if_pos h1, if_neg (by omega)]; rfl, grow_two⟩
 ·go_ret
  have h1 : a.unit = b.unit := by first | simpa using ‹(a.unit != b.unit) = false› | simpa using ‹¬ (a.unit != b.unit) = true› | omega
  exact ⟨by rw [cmpKey, if_neg (by simpa using h1)]; rfl, grow_two⟩
theorem rep_entry (cc : RC) (x : EntryD) : RepL cc (cEntry x) (encEntry x) := by
 obtain ⟨⟨a, b⟩, ⟨p, q⟩, r⟩ := x
 simp [cEntry, encEntry, RepL, Rep]
theorem uniq_entry (cc : RC) (x : EntryD) (vs : List Value) (e : RepL cc (cEntry x) vs) : vs = encEntry x := by
 obtain ⟨⟨a, b⟩, ⟨p, q⟩, r⟩ := x
 simpa [cEntry, encEntry, RepL, Rep] using e
theorem one_entry (x : EntryD) (v : Value) (h : v ∈ encEntry x) : one1 v = true ∧ v.oneCell' = true := by
 simp [encEntry] at h
 rcases h with rfl | rfl | rfl | rfl | rfl <;> exact ⟨rfl, rfl⟩
theorem pdq_size {α : Type} [Inhabited α] {cf : α → α → Int} (hS : SWO (fun x y => decide (cf x y < 0))) (d : Array α) : (pdq (fun x y => decide (cf x y < 0)) d 0 d.size (Lib.bitLen d.size) true true).size = d.size :=
 (pdq_sorts (fun x y => decide (cf x y < 0)) hS d 0 d.size (Lib.bitLen d.size) true true (Nat.zero_le _) (Nat.le_refl _) (Or.inl rfl)).1.1
theorem stateCmp_walk (a b : EntryD) (W : World) : Calls Tryz.prog 64 #[.agg (encEntry a).toArray, .agg (encEntry b).toArray] W fun e w' => e = .returned (.int .i64 (cmpKey a.key b.key)) ∧ ∃ q os', w' = grow (W.drewN q) os' := by
 have hcon := fun W' => compare_walk a.key b.key W'
 unfold encEntry
 generalize cmpKey a.key b.key = r at hcon ⊢
 go_enter Tryz.func64, Tryz.ntmps64
 go_wp2_with (go_at_call 53; refine (hcon _).mono ?_; rintro e w' ⟨rfl, q, os', rfl⟩)
 go_ret
 exact ⟨rfl, grow_more⟩
theorem s_slices_SortFunc_api_Entry_api_Entry_ : Sound Tryz.prog nmT 63 m_slices_SortFunc_Entry := by
 intro args σ r σ' h
 unfold m_slices_SortFunc_Entry A.ar2 at h
 split at h
 ·rename_i x f σ0
  simp only at h
  split at h
  ·have eg : ∀ args w, (callFunc 64 args).run Tryz.prog w = .ok (.enter 64 args) w := Tryz.call64
   refine @sort_sound Tryz.prog nmT 63 64 EntryD ⟨⟨⟨0, ⟨#[]⟩⟩, ⟨0, 0⟩, 0⟩⟩ 5 cEntry encEntry (fun a b => cmpKey a.key b.key) (by decide) (fun x y e => ?_) (fun _ => rfl) (fun cc x => ?_) (fun cc x vs e => ?_) (fun x v hv => ?_) Tryz.call63 (fun w => ?_) (fun blk off cap d w hH hb hd => ?_) (fun d => ?_) _ _ _ _ h _ (fun f hf => nm_one (by kernel_rfl) rfl hf)
   ·exact cEntry_inj x y e
   ·exact rep_entry cc x
   ·exact uniq_entry cc x vs e
   ·exact (one_entry x v hv).1
   ·exact (AnyF.slices_SortFunc_none (P := Tryz.prog) { Tryz.sort63 with } none 0 _ w).mono fun e w' ⟨h1, h2⟩ => ⟨h1, h2 ▸ Below.refl _ _⟩
   ·exact AnyQ.slices_SortFunc_eq Tryz.sort63 5 Tryz.isAgg51 Tryz.sizeOf51 encEntry (fun _ => rfl) (fun x v hv => (one_entry x v hv).2) (fun a b => cmpKey a.key b.key) (swo_key fun e : EntryD => e.key) 64 #[] blk off cap d w eg (fun _ _ _ _ x y => stateCmp_walk x y _) hH hb hd
   ·exact pdq_size (swo_key fun e : EntryD => e.key) d
  ·cases h
 ·cases h
end Go.Proofs.YtphgchakmkankaaGreat

namespace Go.Proofs.YtphgchakmkankaaGreat
set_option linter.unusedSectionVars false
set_option maxRecDepth 100000
set_option linter.unusedVariables false
set_option linter.unusedSimpArgs false
noncomputable def x_word_Within : Fx := ⟨Tryz.prog, nmT, A.tab (fun _ _ => none) [], (fun _ _ _ => none), [], [], 15, []⟩
theorem w_word_Within : Sound Tryz.prog nmT 91 (A.wrap true [] .k (A.ar3 (r_word_Within))) :=
 Sound.wrap (Sound.run3 (X := x_word_Within) (fn := Tryz.f91) (ann := (.s .n (.s .n .n))) .F trivial (Snd.of rfl All.nil (fun _ => Sound.none)) Tryz.func91 Tryz.call91 (fun a0 a1 a2 σ => by kernel_rfl)) _ _ _ rfl rfl
theorem s_word_Within : Sound Tryz.prog nmT 91 m_word_Within := w_word_Within
noncomputable def x_word_Title : Fx := ⟨Tryz.prog, nmT, A.tab (fun _ _ => none) [], (fun _ _ _ => none), [], [], 40, []⟩
theorem w_word_Title : Sound Tryz.prog nmT 92 (A.wrap true [] .k (A.ar1 (r_word_Title))) :=
 Sound.wrap (Sound.run1 (X := x_word_Title) (fn := Tryz.f92) (ann := (.s .n (.s (.s .n (.b (.l [2, 6] [.exit 0, .ret] (.s .n (.s (.j .n .n) (.s (.b (.s .n (.s .n (.j (.s .n .n) .n)))) .n)))))) (.s .n .n)))) .F trivial (Snd.of rfl All.nil (fun _ => Sound.none)) Tryz.func92 Tryz.call92 (fun a0 σ => by kernel_rfl)) _ _ _ rfl rfl
theorem s_word_Title : Sound Tryz.prog nmT 92 m_word_Title := w_word_Title
noncomputable def x_cue_isTime : Fx := ⟨Tryz.prog, nmT, A.tab (fun _ _ => none) [(91, m_word_Within)], (fun _ _ _ => none), [], [], 5, []⟩
theorem w_cue_isTime : Sound Tryz.prog nmT 93 (A.wrap true [] .k (A.ar1 (r_cue_isTime))) :=
 Sound.wrap (Sound.run1 (X := x_cue_isTime) (fn := Tryz.f93) (ann := (.s .n (.s .n .n))) .F trivial (Snd.of rfl (All.cons s_word_Within All.nil) (fun _ => Sound.none)) Tryz.func93 Tryz.call93 (fun a0 σ => by kernel_rfl)) _ _ _ rfl rfl
theorem s_cue_isTime : Sound Tryz.prog nmT 93 m_cue_isTime := w_cue_isTime
noncomputable def x_word_When : Fx := ⟨Tryz.prog, nmT, A.tab (fun _ _ => none) [], (fun _ _ _ => none), [], [], 7, []⟩
theorem w_word_When : Sound Tryz.prog nmT 46 (A.wrap true [] .k (A.ar2 (r_word_When))) :=
 Sound.wrap (Sound.run2 (X := x_word_When) (fn := Tryz.f46) (ann := (.s .n (.s (.s .n (.j (.s .n .n) .n)) (.s .n .n)))) .F trivial (Snd.of rfl All.nil (fun _ => Sound.none)) Tryz.func46 Tryz.call46 (fun a0 a1 σ => by kernel_rfl)) _ _ _ rfl rfl
theorem s_word_When : Sound Tryz.prog nmT 46 m_word_When := w_word_When
noncomputable def x_level_CheckCurve : Fx := ⟨Tryz.prog, nmT, A.tab (fun _ _ => none) [(91, m_word_Within), (46, m_word_When)], (fun _ _ _ => none), [1, 5], [], 90, []⟩
theorem w_level_CheckCurve : Sound Tryz.prog nmT 94 (A.wrap true [(.a [.k, (.s 2)])] .k (A.ar1 (r_level_CheckCurve))) :=
 Sound.wrap (Sound.run1 (X := x_level_CheckCurve) (fn := Tryz.f94) (ann := (.s .n (.s (.s .n (.j (.s .n .n) .n)) (.s .n (.s (.s .n (.j (.s .n .n) .n)) (.s (.s .n (.j (.s .n .n) .n)) (.s (.s .n (.j (.s .n .n) .n)) (.s (.s .n (.b (.l [2, 28] [.exit 0, .ret] (.s .n (.s (.j .n .n) (.s (.b (.s .n (.s .n (.j (.s .n .n) .n)))) .n)))))) (.s (.s .n (.j (.s .n .n) .n)) (.s (.s .n (.b (.l [2, 6] [.exit 2, .ret] (.s (.s .n (.j .n .n)) (.s (.b (.s .n (.j (.s .n .n) .n))) .n))))) (.s .n .n))))))))))) .F trivial (Snd.of rfl (All.cons s_word_Within (All.cons s_word_When All.nil)) (fun _ => Sound.none)) Tryz.func94 Tryz.call94 (fun a0 σ => by kernel_rfl)) _ _ _ rfl rfl
theorem s_level_CheckCurve : Sound Tryz.prog nmT 94 m_level_CheckCurve := w_level_CheckCurve
noncomputable def x_word_Row : Fx := ⟨Tryz.prog, nmT, A.tab (fun _ _ => none) [], (fun _ _ _ => none), [], [], 35, []⟩
theorem w_word_Row : Sound Tryz.prog nmT 170 (A.wrap true [] .k (A.ar1 (r_word_Row))) :=
 Sound.wrap (Sound.run1 (X := x_word_Row) (fn := Tryz.f170) (ann := (.s .n (.s (.s .n (.b (.l [2, 7] [.exit 0, .ret] (.s .n (.s (.j .n .n) (.s (.b (.s .n (.s .n (.s .n (.j (.s .n .n) .n))))) .n)))))) (.s .n .n)))) .F trivial (Snd.of rfl All.nil (fun _ => Sound.none)) Tryz.func170 Tryz.call170 (fun a0 σ => by kernel_rfl)) _ _ _ rfl rfl
theorem s_word_Row : Sound Tryz.prog nmT 170 m_word_Row := w_word_Row
noncomputable def x_word_Name : Fx := ⟨Tryz.prog, nmT, A.tab (fun _ _ => none) [(170, m_word_Row)], (fun _ _ _ => none), [], [], 20, []⟩
theorem w_word_Name : Sound Tryz.prog nmT 135 (A.wrap true [] .k (A.ar1 (r_word_Name))) :=
 Sound.wrap (Sound.run1 (X := x_word_Name) (fn := Tryz.f135) (ann := (.s .n (.s .n .n))) .F trivial (Snd.of rfl (All.cons s_word_Row All.nil) (fun _ => Sound.none)) Tryz.func135 Tryz.call135 (fun a0 σ => by kernel_rfl)) _ _ _ rfl rfl
theorem s_word_Name : Sound Tryz.prog nmT 135 m_word_Name := w_word_Name
noncomputable def x_cue_compare : Fx := ⟨Tryz.prog, nmT, A.tab (fun _ _ => none) [(98, m_strings_Compare)], (fun _ _ _ => none), [2, 3], [], 20, []⟩
theorem w_cue_compare : Sound Tryz.prog nmT 53 (A.wrap true [] .k (A.ar2 (r_cue_compare))) :=
 Sound.wrap (Sound.run2 (X := x_cue_compare) (fn := Tryz.f53) (ann := (.s .n (.s (.s .n (.j (.s (.s .n (.j (.s .n .n) .n)) (.s .n .n)) .n)) (.s .n .n)))) .F trivial (Snd.of rfl (All.cons s_strings_Compare All.nil) (fun _ => Sound.none)) Tryz.func53 Tryz.call53 (fun a0 a1 σ => by kernel_rfl)) _ _ _ rfl rfl
theorem s_cue_compare : Sound Tryz.prog nmT 53 m_cue_compare := w_cue_compare
noncomputable def x_cue_checkMoves : Fx := ⟨Tryz.prog, nmT, A.tab (fun _ _ => none) [(91, m_word_Within), (135, m_word_Name), (93, m_cue_isTime), (53, m_cue_compare)], (fun _ _ _ => none), [4], [], 99, []⟩
theorem w_cue_checkMoves : Sound Tryz.prog nmT 95 (A.wrap true [(.s 8)] .k (A.ar1 (r_cue_checkMoves))) :=
 Sound.wrap (Sound.run1 (X := x_cue_checkMoves) (fn := Tryz.f95) (ann := (.s .n (.s (.s .n (.b (.l [2, 7] [.exit 0, .ret] (.s .n (.s (.j .n .n) (.s (.b (.s .n (.b (.s .n (.j (.s .n .n) (.s .n (.j (.s .n .n) (.s .n (.j (.s .n .n) (.s .n (.j (.s .n .n) (.s .n (.j (.s .n .n) (.s .n (.j (.s .n .n) (.s .n (.j (.s .n .n) .n))))))))))))))))) .n)))))) (.s .n .n)))) .F trivial (Snd.of rfl (All.cons s_word_Within (All.cons s_word_Name (All.cons s_cue_isTime (All.cons s_cue_compare All.nil)))) (fun _ => Sound.none)) Tryz.func95 Tryz.call95 (fun a0 σ => by kernel_rfl)) _ _ _ rfl rfl
theorem s_cue_checkMoves : Sound Tryz.prog nmT 95 m_cue_checkMoves := w_cue_checkMoves
noncomputable def x_cue_form : Fx := ⟨Tryz.prog, nmT, A.tab (fun _ _ => none) [(91, m_word_Within), (92, m_word_Title), (93, m_cue_isTime), (94, m_level_CheckCurve), (95, m_cue_checkMoves), (46, m_word_When)], (fun _ _ _ => none), [5], [], 101, []⟩
theorem w_cue_form : Sound Tryz.prog nmT 44 (A.wrap true [(.e 11 [.k, .k, .k, .k, .k, .k, .k, (.s 2), .k, .k, (.s 8)])] .k (A.ar1 (r_cue_form))) :=
 Sound.wrap (Sound.run1 (X := x_cue_form) (fn := Tryz.f44) (ann := (.s .n (.s (.s .n (.j (.s .n .n) .n)) (.s .n (.s (.s .n (.b (.l [2, 3, 13] [.exit 0, .ret] (.s .n (.s (.j .n .n) (.s (.b (.s .n (.s (.b (.s .n (.j (.s .n .n) (.s .n (.j (.s .n .n) (.s .n (.j (.s .n .n) (.s .n (.j (.s .n .n) .n))))))))) (.s (.s .n (.s .n (.j (.s .n .n) .n))) (.s (.s .n (.j (.s .n .n) .n)) (.s (.s .n (.s .n (.j (.s .n .n) .n))) .n)))))) .n)))))) (.s .n .n)))))) .F trivial (Snd.of rfl (All.cons s_word_Within (All.cons s_word_Title (All.cons s_cue_isTime (All.cons s_level_CheckCurve (All.cons s_cue_checkMoves (All.cons s_word_When All.nil)))))) (fun _ => Sound.none)) Tryz.func44 Tryz.call44 (fun a0 σ => by kernel_rfl)) _ _ _ rfl rfl
theorem s_cue_form : Sound Tryz.prog nmT 44 m_cue_form := w_cue_form
noncomputable def x_slices_BinarySearchFunc_api_Cue_int (dyn : Nat → List AV → Heap → Option (AV × Heap)) : Fx := ⟨Tryz.prog, nmT, A.tab (fun _ _ => none) [], dyn, [], [], 49, []⟩
theorem w_slices_BinarySearchFunc_api_Cue_int (dyn : Nat → List AV → Heap → Option (AV × Heap)) (hd : ∀ f, Sound Tryz.prog nmT f (dyn (nmT.getD f 0))) : Sound Tryz.prog nmT 82 (A.wrap true [(.s 11)] .k (A.ar3 (r_slices_BinarySearchFunc_api_Cue_int dyn))) :=
 Sound.wrap (Sound.run3 (X := x_slices_BinarySearchFunc_api_Cue_int dyn) (fn := Tryz.f82) (ann := (.s .n (.s .n (.s .n (.s (.b (.l [9, 10] [.exit 0] (.s (.s .n (.j .n .n)) (.b (.s .n (.s .n (.c [9, 10] .n .n))))))) (.s .n .n)))))) .F trivial (Snd.of rfl All.nil (hd)) Tryz.func82 Tryz.call82 (fun a0 a1 a2 σ => by kernel_rfl)) _ _ _ rfl rfl
theorem s_slices_BinarySearchFunc_api_Cue_int (dyn : Nat → List AV → Heap → Option (AV × Heap)) (hd : ∀ f, Sound Tryz.prog nmT f (dyn (nmT.getD f 0))) : Sound Tryz.prog nmT 82 (m_slices_BinarySearchFunc_api_Cue_int dyn) := w_slices_BinarySearchFunc_api_Cue_int dyn hd
noncomputable def x_cue_place_fn1 : Fx := ⟨Tryz.prog, nmT, A.tab (fun _ _ => none) [], (fun _ _ _ => none), [2], [], 9, []⟩
theorem w_cue_place_fn1 : Sound Tryz.prog nmT 83 (A.wrap true [(.a [.k, .k, .k, .k, .k, .k, .k, (.s 2), .k, .k, (.s 8)])] .k (A.ar2 (r_cue_place_fn1))) :=
 Sound.wrap (Sound.run2 (X := x_cue_place_fn1) (fn := Tryz.f83) (ann := (.s .n (.s .n .n))) .F trivial (Snd.of rfl All.nil (fun _ => Sound.none)) Tryz.func83 Tryz.call83 (fun a0 a1 σ => by kernel_rfl)) _ _ _ rfl rfl
theorem s_cue_place_fn1 : Sound Tryz.prog nmT 83 m_cue_place_fn1 := w_cue_place_fn1
noncomputable def x_cue_place : Fx := ⟨Tryz.prog, nmT, A.tab (fun _ _ => none) [(82, m_slices_BinarySearchFunc_api_Cue_int (A.tab (fun _ _ => none) [(177, m_cue_place_fn1)]))], (A.tab (fun _ _ => none) [(177, m_cue_place_fn1)]), [], [], 11, []⟩
theorem w_cue_place : Sound Tryz.prog nmT 30 (A.wrap true [(.e 11 [.k, .k, .k, .k, .k, .k, .k, (.s 2), .k, .k, (.s 8)])] .k (A.ar2 (r_cue_place))) :=
 Sound.wrap (Sound.run2 (X := x_cue_place) (fn := Tryz.f30) (ann := (.s .n (.s .n .n))) .F trivial (Snd.of rfl (All.cons (s_slices_BinarySearchFunc_api_Cue_int _ (dyn_of (DAll.cons (nm_sound s_cue_place_fn1 (by kernel_rfl) rfl) DAll.nil))) All.nil) (dyn_of (DAll.cons (nm_sound s_cue_place_fn1 (by kernel_rfl) rfl) DAll.nil))) Tryz.func30 Tryz.call30 (fun a0 a1 σ => by kernel_rfl)) _ _ _ rfl rfl
theorem s_cue_place : Sound Tryz.prog nmT 30 m_cue_place := w_cue_place
noncomputable def x_word_First : Fx := ⟨Tryz.prog, nmT, A.tab (fun _ _ => none) [], (fun _ _ _ => none), [], [], 15, []⟩
theorem w_word_First : Sound Tryz.prog nmT 45 (A.wrap true [(.s 1)] .k (A.ar1 (r_word_First))) :=
 Sound.wrap (Sound.run1 (X := x_word_First) (fn := Tryz.f45) (ann := (.s .n (.s (.s .n (.b (.l [2, 7] [.exit 0, .ret] (.s .n (.s (.j .n .n) (.s (.b (.s .n (.s .n (.j (.s .n .n) .n)))) .n)))))) (.s .n .n)))) .F trivial (Snd.of rfl All.nil (fun _ => Sound.none)) Tryz.func45 Tryz.call45 (fun a0 σ => by kernel_rfl)) _ _ _ rfl rfl
theorem s_word_First : Sound Tryz.prog nmT 45 m_word_First := w_word_First
noncomputable def x_cue_state : Fx := ⟨Tryz.prog, nmT, A.tab (fun _ _ => none) [], (fun _ _ _ => none), [5, 7], [], 40, []⟩
theorem w_cue_state : Sound Tryz.prog nmT 48 (A.wrap true [(.e 11 [.k, .k, .k, .k, .k, .k, .k, (.s 2), .k, .k, (.s 8)])] .k (A.ar1 (r_cue_state))) :=
 Sound.wrap (Sound.run1 (X := x_cue_state) (fn := Tryz.f48) (ann := (.s .n (.s .n (.s (.s .n (.b (.l [11] [.exit 0] (.s .n (.s (.j .n .n) (.s (.b (.s .n (.s .n (.b (.l [5, 18] [.exit 2] (.s .n (.s (.j .n .n) (.s (.b (.s .n (.s .n (.c [5] .n .n)))) .n)))))))) .n)))))) (.s .n .n))))) .F trivial (Snd.of rfl All.nil (fun _ => Sound.none)) Tryz.func48 Tryz.call48 (fun a0 σ => by kernel_rfl)) _ _ _ rfl rfl
theorem s_cue_state : Sound Tryz.prog nmT 48 m_cue_state := w_cue_state
noncomputable def x_R1_Within : Fx := ⟨Tryz.prog, nmT, A.tab (fun _ _ => none) [], (fun _ _ _ => none), [], [], 15, []⟩
theorem w_R1_Within : Sound Tryz.prog nmT 60 (A.wrap true [] .k (A.ar3 (r_R1_Within))) :=
 Sound.wrap (Sound.run3 (X := x_R1_Within) (fn := Tryz.f60) (ann := (.s .n (.s .n .n))) .F trivial (Snd.of rfl All.nil (fun _ => Sound.none)) Tryz.func60 Tryz.call60 (fun a0 a1 a2 σ => by kernel_rfl)) _ _ _ rfl rfl
theorem s_R1_Within : Sound Tryz.prog nmT 60 m_R1_Within := w_R1_Within
noncomputable def x_R1_IsTitle : Fx := ⟨Tryz.prog, nmT, A.tab (fun _ _ => none) [], (fun _ _ _ => none), [], [], 40, []⟩
theorem w_R1_IsTitle : Sound Tryz.prog nmT 105 (A.wrap true [] .k (A.ar1 (r_R1_IsTitle))) :=
 Sound.wrap (Sound.run1 (X := x_R1_IsTitle) (fn := Tryz.f105) (ann := (.s .n (.s (.s .n (.j (.s .n .n) .n)) (.s (.s .n (.b (.l [2, 26] [.exit 0, .ret] (.s .n (.s (.j .n .n) (.s (.b (.s .n (.s .n (.j (.s .n .n) .n)))) .n)))))) (.s .n .n))))) .F trivial (Snd.of rfl All.nil (fun _ => Sound.none)) Tryz.func105 Tryz.call105 (fun a0 σ => by kernel_rfl)) _ _ _ rfl rfl
theorem s_R1_IsTitle : Sound Tryz.prog nmT 105 m_R1_IsTitle := w_R1_IsTitle
noncomputable def x_R1_IsTime : Fx := ⟨Tryz.prog, nmT, A.tab (fun _ _ => none) [(60, m_R1_Within)], (fun _ _ _ => none), [], [], 5, []⟩
theorem w_R1_IsTime : Sound Tryz.prog nmT 106 (A.wrap true [] .k (A.ar1 (r_R1_IsTime))) :=
 Sound.wrap (Sound.run1 (X := x_R1_IsTime) (fn := Tryz.f106) (ann := (.s .n (.s .n .n))) .F trivial (Snd.of rfl (All.cons s_R1_Within All.nil) (fun _ => Sound.none)) Tryz.func106 Tryz.call106 (fun a0 σ => by kernel_rfl)) _ _ _ rfl rfl
theorem s_R1_IsTime : Sound Tryz.prog nmT 106 m_R1_IsTime := w_R1_IsTime
end Go.Proofs.YtphgchakmkankaaGreat

namespace Go.Proofs.YtphgchakmkankaaGreat
set_option linter.unusedSectionVars false
set_option maxRecDepth 100000
set_option linter.unusedVariables false
set_option linter.unusedSimpArgs false
noncomputable def x_R1_CheckCurve : Fx := ⟨Tryz.prog, nmT, A.tab (fun _ _ => none) [(60, m_R1_Within)], (fun _ _ _ => none), [1, 4], [], 108, []⟩
theorem w_R1_CheckCurve : Sound Tryz.prog nmT 107 (A.wrap true [(.a [.k, (.s 2)])] .k (A.ar1 (r_R1_CheckCurve))) :=
 Sound.wrap (Sound.run1 (X := x_R1_CheckCurve) (fn := Tryz.f107) (ann := (.s .n (.s (.b (.s .n (.j (.s .n .n) (.s .n (.j (.s .n .n) (.s .n (.j (.s .n .n) (.s .n (.j (.s .n .n) (.s .n (.j (.s .n .n) .n))))))))))) (.s (.s .n (.b (.l [1, 2, 38] [.exit 1, .ret] (.s .n (.s (.j .n .n) (.s (.b (.s .n (.s .n (.j (.s .n .n) .n)))) .n)))))) (.s (.s .n (.j (.s .n .n) .n)) (.s (.s .n (.b (.l [1, 2, 5] [.exit 3, .ret] (.s (.s .n (.j .n .n)) (.s (.b (.s .n (.j (.s .n .n) .n))) .n))))) (.s .n .n))))))) .F trivial (Snd.of rfl (All.cons s_R1_Within All.nil) (fun _ => Sound.none)) Tryz.func107 Tryz.call107 (fun a0 σ => by kernel_rfl)) _ _ _ rfl rfl
theorem s_R1_CheckCurve : Sound Tryz.prog nmT 107 m_R1_CheckCurve := w_R1_CheckCurve
noncomputable def x_R1_IsWord : Fx := ⟨Tryz.prog, nmT, A.tab (fun _ _ => none) [], (fun _ _ _ => none), [], [], 34, []⟩
theorem w_R1_IsWord : Sound Tryz.prog nmT 190 (A.wrap true [] .k (A.ar1 (r_R1_IsWord))) :=
 Sound.wrap (Sound.run1 (X := x_R1_IsWord) (fn := Tryz.f190) (ann := (.s .n (.s (.s .n (.b (.l [2, 7] [.exit 0, .ret] (.s .n (.s (.j .n .n) (.s (.b (.s .n (.s .n (.s .n (.j (.s .n .n) .n))))) .n)))))) (.s .n .n)))) .F trivial (Snd.of rfl All.nil (fun _ => Sound.none)) Tryz.func190 Tryz.call190 (fun a0 σ => by kernel_rfl)) _ _ _ rfl rfl
theorem s_R1_IsWord : Sound Tryz.prog nmT 190 m_R1_IsWord := w_R1_IsWord
noncomputable def x_R1_IsName : Fx := ⟨Tryz.prog, nmT, A.tab (fun _ _ => none) [(190, m_R1_IsWord)], (fun _ _ _ => none), [], [], 20, []⟩
theorem w_R1_IsName : Sound Tryz.prog nmT 178 (A.wrap true [] .k (A.ar1 (r_R1_IsName))) :=
 Sound.wrap (Sound.run1 (X := x_R1_IsName) (fn := Tryz.f178) (ann := (.s .n (.s .n .n))) .F trivial (Snd.of rfl (All.cons s_R1_IsWord All.nil) (fun _ => Sound.none)) Tryz.func178 Tryz.call178 (fun a0 σ => by kernel_rfl)) _ _ _ rfl rfl
theorem s_R1_IsName : Sound Tryz.prog nmT 178 m_R1_IsName := w_R1_IsName
noncomputable def x_R1_IsLevel : Fx := ⟨Tryz.prog, nmT, A.tab (fun _ _ => none) [(60, m_R1_Within)], (fun _ _ _ => none), [], [], 5, []⟩
theorem w_R1_IsLevel : Sound Tryz.prog nmT 122 (A.wrap true [] .k (A.ar1 (r_R1_IsLevel))) :=
 Sound.wrap (Sound.run1 (X := x_R1_IsLevel) (fn := Tryz.f122) (ann := (.s .n (.s .n .n))) .F trivial (Snd.of rfl (All.cons s_R1_Within All.nil) (fun _ => Sound.none)) Tryz.func122 Tryz.call122 (fun a0 σ => by kernel_rfl)) _ _ _ rfl rfl
theorem s_R1_IsLevel : Sound Tryz.prog nmT 122 m_R1_IsLevel := w_R1_IsLevel
noncomputable def x_R4_Before : Fx := ⟨Tryz.prog, nmT, A.tab (fun _ _ => none) [], (fun _ _ _ => none), [2, 3], [], 24, []⟩
theorem w_R4_Before : Sound Tryz.prog nmT 88 (A.wrap true [] .k (A.ar2 (r_R4_Before))) :=
 Sound.wrap (Sound.run2 (X := x_R4_Before) (fn := Tryz.f88) (ann := (.s .n (.s .n .n))) .F trivial (Snd.of rfl All.nil (fun _ => Sound.none)) Tryz.func88 Tryz.call88 (fun a0 a1 σ => by kernel_rfl)) _ _ _ rfl rfl
theorem s_R4_Before : Sound Tryz.prog nmT 88 m_R4_Before := w_R4_Before
noncomputable def x_R5_checkMove : Fx := ⟨Tryz.prog, nmT, A.tab (fun _ _ => none) [(60, m_R1_Within), (178, m_R1_IsName), (122, m_R1_IsLevel), (106, m_R1_IsTime), (88, m_R4_Before)], (fun _ _ _ => none), [2], [], 93, []⟩
theorem w_R5_checkMove : Sound Tryz.prog nmT 148 (A.wrap true [.k, (.s 8)] .k (A.ar2 (r_R5_checkMove))) :=
 Sound.wrap (Sound.run2 (X := x_R5_checkMove) (fn := Tryz.f148) (ann := (.s .n (.s (.b (.s .n (.j (.s .n .n) (.s .n (.j (.s .n .n) (.s .n (.j (.s .n .n) (.s .n (.j (.s .n .n) (.s .n (.j (.s .n .n) (.s .n (.j (.s .n .n) (.s .n (.j (.s .n .n) .n))))))))))))))) (.s .n .n)))) .F trivial (Snd.of rfl (All.cons s_R1_Within (All.cons s_R1_IsName (All.cons s_R1_IsLevel (All.cons s_R1_IsTime (All.cons s_R4_Before All.nil))))) (fun _ => Sound.none)) Tryz.func148 Tryz.call148 (fun a0 a1 σ => by kernel_rfl)) _ _ _ rfl rfl
theorem s_R5_checkMove : Sound Tryz.prog nmT 148 m_R5_checkMove := w_R5_checkMove
noncomputable def x_R5_checkMoves : Fx := ⟨Tryz.prog, nmT, A.tab (fun _ _ => none) [(148, m_R5_checkMove)], (fun _ _ _ => none), [4], [], 25, []⟩
theorem w_R5_checkMoves : Sound Tryz.prog nmT 108 (A.wrap true [(.s 8)] .k (A.ar1 (r_R5_checkMoves))) :=
 Sound.wrap (Sound.run1 (X := x_R5_checkMoves) (fn := Tryz.f108) (ann := (.s .n (.s (.s .n (.j (.s .n .n) .n)) (.s (.s .n (.b (.l [2, 11] [.exit 0, .ret] (.s .n (.s (.j .n .n) (.s (.b (.s .n (.s .n (.s .n (.j (.s .n .n) .n))))) .n)))))) (.s .n .n))))) .F trivial (Snd.of rfl (All.cons s_R5_checkMove All.nil) (fun _ => Sound.none)) Tryz.func108 Tryz.call108 (fun a0 σ => by kernel_rfl)) _ _ _ rfl rfl
theorem s_R5_checkMoves : Sound Tryz.prog nmT 108 m_R5_checkMoves := w_R5_checkMoves
noncomputable def x_R5_CheckForm : Fx := ⟨Tryz.prog, nmT, A.tab (fun _ _ => none) [(60, m_R1_Within), (105, m_R1_IsTitle), (106, m_R1_IsTime), (107, m_R1_CheckCurve), (108, m_R5_checkMoves)], (fun _ _ _ => none), [5], [], 96, []⟩
theorem w_R5_CheckForm : Sound Tryz.prog nmT 59 (A.wrap true [(.e 11 [.k, .k, .k, .k, .k, .k, .k, (.s 2), .k, .k, (.s 8)])] .k (A.ar1 (r_R5_CheckForm))) :=
 Sound.wrap (Sound.run1 (X := x_R5_CheckForm) (fn := Tryz.f59) (ann := (.s .n (.s (.s .n (.j (.s .n .n) .n)) (.s .n (.s (.s .n (.b (.l [2, 3, 13] [.exit 0, .ret] (.s .n (.s (.j .n .n) (.s (.b (.s .n (.s (.b (.s .n (.j (.s .n .n) (.s .n (.j (.s .n .n) (.s .n (.j (.s .n .n) (.s .n (.j (.s .n .n) .n))))))))) (.s (.s .n (.s .n (.j (.s .n .n) .n))) (.s (.s .n (.s .n (.j (.s .n .n) .n))) .n))))) .n)))))) (.s (.s .n (.j (.s .n .n) .n)) (.s .n .n))))))) .F trivial (Snd.of rfl (All.cons s_R1_Within (All.cons s_R1_IsTitle (All.cons s_R1_IsTime (All.cons s_R1_CheckCurve (All.cons s_R5_checkMoves All.nil))))) (fun _ => Sound.none)) Tryz.func59 Tryz.call59 (fun a0 σ => by kernel_rfl)) _ _ _ rfl rfl
theorem s_R5_CheckForm : Sound Tryz.prog nmT 59 m_R5_CheckForm := w_R5_CheckForm
noncomputable def x_R5_At : Fx := ⟨Tryz.prog, nmT, A.tab (fun _ _ => none) [], (fun _ _ _ => none), [6], [], 20, []⟩
theorem w_R5_At : Sound Tryz.prog nmT 37 (A.wrap true [(.e 11 [.k, .k, .k, .k, .k, .k, .k, (.s 2), .k, .k, (.s 8)])] .k (A.ar2 (r_R5_At))) :=
 Sound.wrap (Sound.run2 (X := x_R5_At) (fn := Tryz.f37) (ann := (.s .n (.s (.s .n (.b (.l [4, 9] [.exit 0, .ret] (.s .n (.s (.j .n .n) (.s (.b (.s .n (.s .n (.j (.s .n .n) .n)))) .n)))))) (.s .n .n)))) .F trivial (Snd.of rfl All.nil (fun _ => Sound.none)) Tryz.func37 Tryz.call37 (fun a0 a1 σ => by kernel_rfl)) _ _ _ rfl rfl
theorem s_R5_At : Sound Tryz.prog nmT 37 m_R5_At := w_R5_At
noncomputable def x_slices_Clone_api_Entry : Fx := ⟨Tryz.prog, nmT, A.tab (fun _ _ => none) [], (fun _ _ _ => none), [], [], 8, []⟩
theorem w_slices_Clone_api_Entry : Sound Tryz.prog nmT 159 (A.wrap true [(.s 5)] .k (A.ar1 (r_slices_Clone_api_Entry))) :=
 Sound.wrap (Sound.run1 (X := x_slices_Clone_api_Entry) (fn := Tryz.f159) (ann := (.s .n (.s (.s .n (.j (.s .n .n) .n)) (.s .n .n)))) .K trivial (Snd.of rfl All.nil (fun _ => Sound.none)) Tryz.func159 Tryz.call159 (fun a0 σ => by kernel_rfl)) _ _ _ rfl rfl
theorem s_slices_Clone_api_Entry : Sound Tryz.prog nmT 159 m_slices_Clone_api_Entry := clone_sound w_slices_Clone_api_Entry Tryz.call159 cz_Entry
noncomputable def x_R5_place : Fx := ⟨Tryz.prog, nmT, A.tab (fun _ _ => none) [(88, m_R4_Before)], (fun _ _ _ => none), [3], [], 36, []⟩
theorem w_R5_place : Sound Tryz.prog nmT 129 (A.wrap true [(.s 5)] .k (A.ar2 (r_R5_place))) :=
 Sound.wrap (Sound.run2 (X := x_R5_place) (fn := Tryz.f129) (ann := (.s .n (.s .n (.s (.b (.l [3, 6] [.exit 0] (.s (.s .n (.j .n .n)) (.b .n)))) (.s .n .n))))) .F trivial (Snd.of rfl (All.cons s_R4_Before All.nil) (fun _ => Sound.none)) Tryz.func129 Tryz.call129 (fun a0 a1 σ => by kernel_rfl)) _ _ _ rfl rfl
theorem s_R5_place : Sound Tryz.prog nmT 129 m_R5_place := w_R5_place
noncomputable def x_slices_Delete_api_Entry : Fx := ⟨Tryz.prog, nmT, A.tab (fun _ _ => none) [], (fun _ _ _ => none), [], [], 33, []⟩
theorem w_slices_Delete_api_Entry : Sound Tryz.prog nmT 160 (A.wrap false [] .k (A.ar3 (r_slices_Delete_api_Entry))) :=
 Sound.wrap (Sound.run3 (X := x_slices_Delete_api_Entry) (fn := Tryz.f160) (ann := (.s .n (.s .n (.s (.s .n (.j (.s .n .n) .n)) (.s .n (.s .n (.s .n (.s .n .n)))))))) .R trivial (Snd.of rfl All.nil (fun _ => Sound.none)) Tryz.func160 Tryz.call160 (fun a0 a1 a2 σ => by kernel_rfl)) _ _ _ rfl rfl
theorem s_slices_Delete_api_Entry : Sound Tryz.prog nmT 160 m_slices_Delete_api_Entry := w_slices_Delete_api_Entry
noncomputable def x_slices_Reverse_api_Entry : Fx := ⟨Tryz.prog, nmT, A.tab (fun _ _ => none) [], (fun _ _ _ => none), [], [], 28, []⟩
theorem w_slices_Reverse_api_Entry : Sound Tryz.prog nmT 197 (A.wrap false [] .k (A.ar1 (r_slices_Reverse_api_Entry))) :=
 Sound.wrap (Sound.run1 (X := x_slices_Reverse_api_Entry) (fn := Tryz.f197) (ann := (.s .n (.b (.l [2, 3] [.exit 0] (.s (.s .n (.j .n .n)) (.s (.b .n) .n)))))) .K trivial (Snd.of rfl All.nil (fun _ => Sound.none)) Tryz.func197 Tryz.call197 (fun a0 σ => by kernel_rfl)) _ _ _ rfl rfl
theorem s_slices_Reverse_api_Entry : Sound Tryz.prog nmT 197 m_slices_Reverse_api_Entry := w_slices_Reverse_api_Entry
noncomputable def x_slices_rotateLeft_api_Entry : Fx := ⟨Tryz.prog, nmT, A.tab (fun _ _ => none) [(197, m_slices_Reverse_api_Entry)], (fun _ _ _ => none), [], [], 14, []⟩
theorem w_slices_rotateLeft_api_Entry : Sound Tryz.prog nmT 193 (A.wrap false [] .k (A.ar2 (r_slices_rotateLeft_api_Entry))) :=
 Sound.wrap (Sound.run2 (X := x_slices_rotateLeft_api_Entry) (fn := Tryz.f193) (ann := (.s .n (.s .n .n))) .K trivial (Snd.of rfl (All.cons s_slices_Reverse_api_Entry All.nil) (fun _ => Sound.none)) Tryz.func193 Tryz.call193 (fun a0 a1 σ => by kernel_rfl)) _ _ _ rfl rfl
theorem s_slices_rotateLeft_api_Entry : Sound Tryz.prog nmT 193 m_slices_rotateLeft_api_Entry := w_slices_rotateLeft_api_Entry
noncomputable def x_slices_rotateRight_api_Entry : Fx := ⟨Tryz.prog, nmT, A.tab (fun _ _ => none) [(193, m_slices_rotateLeft_api_Entry)], (fun _ _ _ => none), [], [], 10, []⟩
theorem w_slices_rotateRight_api_Entry : Sound Tryz.prog nmT 185 (A.wrap false [] .k (A.ar2 (r_slices_rotateRight_api_Entry))) :=
 Sound.wrap (Sound.run2 (X := x_slices_rotateRight_api_Entry) (fn := Tryz.f185) (ann := .n) .K trivial (Snd.of rfl (All.cons s_slices_rotateLeft_api_Entry All.nil) (fun _ => Sound.none)) Tryz.func185 Tryz.call185 (fun a0 a1 σ => by kernel_rfl)) _ _ _ rfl rfl
theorem s_slices_rotateRight_api_Entry : Sound Tryz.prog nmT 185 m_slices_rotateRight_api_Entry := w_slices_rotateRight_api_Entry
noncomputable def x_slices_Insert_api_Entry : Fx := ⟨Tryz.prog, nmT, A.tab (fun _ _ => none) [(184, m_slices_overlaps), (185, m_slices_rotateRight_api_Entry)], (fun _ _ _ => none), [], [], 95, []⟩
theorem w_slices_Insert_api_Entry : Sound Tryz.prog nmT 161 (A.wrap false [] .k (A.ar3 (r_slices_Insert_api_Entry))) :=
 Sound.wrap (Sound.run3 (X := x_slices_Insert_api_Entry) (fn := Tryz.f161) (ann := (.s .n (.s .n (.s .n (.s (.s .n (.j (.s .n .n) .n)) (.s .n (.s (.s .n (.j (.s .n .n) .n)) (.s (.s .n (.j (.s .n (.s .n (.s .n (.s .n .n)))) .n)) (.s .n (.s (.s .n (.j (.s .n (.s .n (.s .n .n))) .n)) (.s .n (.s .n (.s .n .n))))))))))))) .R trivial (Snd.of rfl (All.cons s_slices_overlaps_api_Entry_ (All.cons s_slices_rotateRight_api_Entry All.nil)) (fun _ => Sound.none)) Tryz.func161 Tryz.call161 (fun a0 a1 a2 σ => by kernel_rfl)) _ _ _ rfl rfl
theorem s_slices_Insert_api_Entry : Sound Tryz.prog nmT 161 m_slices_Insert_api_Entry := w_slices_Insert_api_Entry
noncomputable def x_R5_after : Fx := ⟨Tryz.prog, nmT, A.tab (fun _ _ => none) [(159, m_slices_Clone_api_Entry), (129, m_R5_place), (160, m_slices_Delete_api_Entry), (161, m_slices_Insert_api_Entry)], (fun _ _ _ => none), [3, 7], [], 48, []⟩
theorem w_R5_after : Sound Tryz.prog nmT 114 (A.wrap true [(.s 5), (.a [.k, .k, .k, .k, .k, .k, .k, (.s 2), .k, .k, (.s 8)])] .k (A.ar2 (r_R5_after))) :=
 Sound.wrap (Sound.run2 (X := x_R5_after) (fn := Tryz.f114) (ann := (.s .n (.s .n (.s (.s .n (.b (.l [3, 5, 15] [.exit 0] (.s .n (.s (.j .n .n) (.s (.b (.s .n (.s .n (.s (.s .n (.c [3, 5, 7] .n .n)) (.s .n (.c [3, 5] .n .n)))))) .n)))))) (.s .n .n))))) .K trivial (Snd.of rfl (All.cons s_slices_Clone_api_Entry (All.cons s_R5_place (All.cons s_slices_Delete_api_Entry (All.cons s_slices_Insert_api_Entry All.nil)))) (fun _ => Sound.none)) Tryz.func114 Tryz.call114 (fun a0 a1 σ => by kernel_rfl)) _ _ _ rfl rfl
theorem s_R5_after : Sound Tryz.prog nmT 114 m_R5_after := w_R5_after
noncomputable def x_R5_Before : Fx := ⟨Tryz.prog, nmT, A.tab (fun _ _ => none) [(114, m_R5_after)], (fun _ _ _ => none), [7], [], 21, []⟩
theorem w_R5_Before : Sound Tryz.prog nmT 65 (A.wrap true [(.e 11 [.k, .k, .k, .k, .k, .k, .k, (.s 2), .k, .k, (.s 8)])] .k (A.ar2 (r_R5_Before))) :=
 Sound.wrap (Sound.run2 (X := x_R5_Before) (fn := Tryz.f65) (ann := (.s .n (.s .n (.s (.s .n (.b (.l [5, 12] [.exit 0] (.s .n (.s (.j .n .n) (.s (.b (.s .n .n)) .n)))))) (.s .n .n))))) .K trivial (Snd.of rfl (All.cons s_R5_after All.nil) (fun _ => Sound.none)) Tryz.func65 Tryz.call65 (fun a0 a1 σ => by kernel_rfl)) _ _ _ rfl rfl
theorem s_R5_Before : Sound Tryz.prog nmT 65 m_R5_Before := w_R5_Before
end Go.Proofs.YtphgchakmkankaaGreat

namespace Go.Proofs.YtphgchakmkankaaGreat
set_option linter.unusedSectionVars false
set_option maxRecDepth 100000
set_option linter.unusedVariables false
set_option linter.unusedSimpArgs false
noncomputable def x_cue_State_fn1 : Fx := ⟨Tryz.prog, nmT, A.tab (fun _ _ => none) [(53, m_cue_compare)], (fun _ _ _ => none), [2, 3], [], 10, []⟩
theorem w_cue_State_fn1 : Sound Tryz.prog nmT 64 (A.wrap true [] .k (A.ar2 (r_cue_State_fn1))) :=
 Sound.wrap (Sound.run2 (X := x_cue_State_fn1) (fn := Tryz.f64) (ann := (.s .n (.s .n .n))) .F trivial (Snd.of rfl (All.cons s_cue_compare All.nil) (fun _ => Sound.none)) Tryz.func64 Tryz.call64 (fun a0 a1 σ => by kernel_rfl)) _ _ _ rfl rfl
theorem s_cue_State_fn1 : Sound Tryz.prog nmT 64 m_cue_State_fn1 := w_cue_State_fn1
noncomputable def x_cue_State : Fx := ⟨Tryz.prog, nmT, A.tab (fun _ _ => none) [(44, m_cue_form), (30, m_cue_place), (48, m_cue_state), (63, m_slices_SortFunc_Entry)], (A.tab (fun _ _ => none) [(297, m_cue_State_fn1)]), [11], [], 42, []⟩
theorem w_cue_State : Sound Tryz.prog nmT 18 (A.wrap true [(.e 11 [.k, .k, .k, .k, .k, .k, .k, (.s 2), .k, .k, (.s 8)])] (.t [(.s 5), .k]) (A.ar2 (r_cue_State))) :=
 Sound.wrap (Sound.run2 (X := x_cue_State) (fn := Tryz.f18) (ann := (.s .n (.s (.s .n (.s .n (.j (.s .n .n) .n))) (.s .n (.s (.s .n (.j (.s .n .n) .n)) (.s .n (.s (.s .n (.b (.lc [9] [.exit 0] (.s .n (.s (.j .n .n) (.b (.s .n .n))))))) (.s .n (.s .n .n))))))))) (.N (A.nn (.t [(.s 5), .k]))) (fun _ _ _ h => nn_rep _ _ _ rfl h) (Snd.of rfl (All.cons s_cue_form (All.cons s_cue_place (All.cons s_cue_state (All.cons s_slices_SortFunc_api_Entry_api_Entry_ All.nil)))) (dyn_of (DAll.cons (nm_sound s_cue_State_fn1 (by kernel_rfl) rfl) DAll.nil))) Tryz.func18 Tryz.call18 (fun a0 a1 σ => by kernel_rfl)) _ _ _ rfl rfl
theorem s_cue_State : Sound Tryz.prog nmT 18 m_cue_State := w_cue_State
noncomputable def x_R5_State : Fx := ⟨Tryz.prog, nmT, A.tab (fun _ _ => none) [(59, m_R5_CheckForm), (37, m_R5_At), (65, m_R5_Before)], (fun _ _ _ => none), [], [], 22, []⟩
theorem w_R5_State : Sound Tryz.prog nmT 19 (A.wrap true [(.e 11 [.k, .k, .k, .k, .k, .k, .k, (.s 2), .k, .k, (.s 8)])] (.t [(.s 5), .k]) (A.ar2 (r_R5_State))) :=
 Sound.wrap (Sound.run2 (X := x_R5_State) (fn := Tryz.f19) (ann := (.s .n (.s (.s .n (.s .n (.j (.s .n .n) .n))) (.s .n (.s (.s .n (.j (.s .n .n) .n)) (.s .n .n)))))) .F trivial (Snd.of rfl (All.cons s_R5_CheckForm (All.cons s_R5_At (All.cons s_R5_Before All.nil))) (fun _ => Sound.none)) Tryz.func19 Tryz.call19 (fun a0 a1 σ => by kernel_rfl)) _ _ _ rfl rfl
theorem s_R5_State : Sound Tryz.prog nmT 19 m_R5_State := w_R5_State
noncomputable def x_fixture_isLevel : Fx := ⟨Tryz.prog, nmT, A.tab (fun _ _ => none) [(91, m_word_Within)], (fun _ _ _ => none), [], [], 5, []⟩
theorem w_fixture_isLevel : Sound Tryz.prog nmT 194 (A.wrap true [] .k (A.ar1 (r_fixture_isLevel))) :=
 Sound.wrap (Sound.run1 (X := x_fixture_isLevel) (fn := Tryz.f194) (ann := (.s .n (.s .n .n))) .F trivial (Snd.of rfl (All.cons s_word_Within All.nil) (fun _ => Sound.none)) Tryz.func194 Tryz.call194 (fun a0 σ => by kernel_rfl)) _ _ _ rfl rfl
theorem s_fixture_isLevel : Sound Tryz.prog nmT 194 m_fixture_isLevel := w_fixture_isLevel
noncomputable def x_fixture_checkRanges : Fx := ⟨Tryz.prog, nmT, A.tab (fun _ _ => none) [(194, m_fixture_isLevel), (135, m_word_Name)], (fun _ _ _ => none), [5], [], 63, []⟩
theorem w_fixture_checkRanges : Sound Tryz.prog nmT 195 (A.wrap true [(.s 3)] .k (A.ar1 (r_fixture_checkRanges))) :=
 Sound.wrap (Sound.run1 (X := x_fixture_checkRanges) (fn := Tryz.f195) (ann := (.s .n (.s (.s .n (.j (.s .n .n) .n)) (.s .n (.s (.s .n (.b (.l [2, 12] [.exit 0, .ret] (.s .n (.s (.j .n .n) (.s (.b (.s .n (.s (.b (.s .n (.j (.s .n .n) (.s .n (.j (.s .n .n) (.s .n (.j (.s .n .n) (.s .n (.j (.s .n .n) .n))))))))) .n))) .n)))))) (.s .n .n)))))) .F trivial (Snd.of rfl (All.cons s_fixture_isLevel (All.cons s_word_Name All.nil)) (fun _ => Sound.none)) Tryz.func195 Tryz.call195 (fun a0 σ => by kernel_rfl)) _ _ _ rfl rfl
theorem s_fixture_checkRanges : Sound Tryz.prog nmT 195 m_fixture_checkRanges := w_fixture_checkRanges
noncomputable def x_fixture_CheckProfile : Fx := ⟨Tryz.prog, nmT, A.tab (fun _ _ => none) [(135, m_word_Name), (91, m_word_Within), (194, m_fixture_isLevel), (195, m_fixture_checkRanges)], (fun _ _ _ => none), [1, 6], [], 115, []⟩
theorem w_fixture_CheckProfile : Sound Tryz.prog nmT 186 (A.wrap true [(.a [.k, .k, (.s 7)])] .k (A.ar1 (r_fixture_CheckProfile))) :=
 Sound.wrap (Sound.run1 (X := x_fixture_CheckProfile) (fn := Tryz.f186) (ann := (.s .n (.s (.b (.s .n (.j (.s .n .n) (.s .n (.j (.s .n .n) (.s .n (.j (.s .n .n) (.s .n (.j (.s .n .n) .n))))))))) (.s .n (.s (.s .n (.b (.l [1, 2, 33] [.exit 1, .ret] (.s .n (.s (.j .n .n) (.s (.b (.s .n (.s (.b (.s .n (.j (.s .n .n) (.s .n (.j (.s .n .n) (.s .n (.j (.s .n .n) (.s .n (.j (.s .n .n) (.s .n (.j (.s .n .n) .n))))))))))) (.s (.s .n (.s .n (.j (.s .n .n) .n))) (.s .n (.s .n (.c [1] .n .n))))))) .n)))))) (.s .n .n)))))) .F trivial (Snd.of rfl (All.cons s_word_Name (All.cons s_word_Within (All.cons s_fixture_isLevel (All.cons s_fixture_checkRanges All.nil)))) (fun _ => Sound.none)) Tryz.func186 Tryz.call186 (fun a0 σ => by kernel_rfl)) _ _ _ rfl rfl
theorem s_fixture_CheckProfile : Sound Tryz.prog nmT 186 m_fixture_CheckProfile := w_fixture_CheckProfile
noncomputable def x_fixture_CheckLibrary : Fx := ⟨Tryz.prog, nmT, A.tab (fun _ _ => none) [(186, m_fixture_CheckProfile)], (fun _ _ _ => none), [5], [], 30, []⟩
theorem w_fixture_CheckLibrary : Sound Tryz.prog nmT 162 (A.wrap true [(.s 3)] .k (A.ar1 (r_fixture_CheckLibrary))) :=
 Sound.wrap (Sound.run1 (X := x_fixture_CheckLibrary) (fn := Tryz.f162) (ann := (.s .n (.s (.s .n (.j (.s .n .n) .n)) (.s .n (.s (.s .n (.b (.l [2, 13] [.exit 0, .ret] (.s .n (.s (.j .n .n) (.s (.b (.s .n (.s (.s .n (.s .n (.j (.s .n .n) .n))) (.s (.s .n (.j (.s .n .n) .n)) .n)))) .n)))))) (.s .n .n)))))) .F trivial (Snd.of rfl (All.cons s_fixture_CheckProfile All.nil) (fun _ => Sound.none)) Tryz.func162 Tryz.call162 (fun a0 σ => by kernel_rfl)) _ _ _ rfl rfl
theorem s_fixture_CheckLibrary : Sound Tryz.prog nmT 162 m_fixture_CheckLibrary := w_fixture_CheckLibrary
noncomputable def x_slices_IndexFunc_api_Profile (dyn : Nat → List AV → Heap → Option (AV × Heap)) : Fx := ⟨Tryz.prog, nmT, A.tab (fun _ _ => none) [], dyn, [], [], 19, []⟩
theorem w_slices_IndexFunc_api_Profile (dyn : Nat → List AV → Heap → Option (AV × Heap)) (hd : ∀ f, Sound Tryz.prog nmT f (dyn (nmT.getD f 0))) : Sound Tryz.prog nmT 74 (A.wrap true [(.s 3)] .k (A.ar2 (r_slices_IndexFunc_api_Profile dyn))) :=
 Sound.wrap (Sound.run2 (X := x_slices_IndexFunc_api_Profile dyn) (fn := Tryz.f74) (ann := (.s .n (.s (.s .n (.b (.l [4, 8] [.exit 0, .ret] (.s .n (.s (.j .n .n) (.s (.b (.s .n (.s .n (.j (.s .n .n) .n)))) .n)))))) (.s .n .n)))) .F trivial (Snd.of rfl All.nil (hd)) Tryz.func74 Tryz.call74 (fun a0 a1 σ => by kernel_rfl)) _ _ _ rfl rfl
theorem s_slices_IndexFunc_api_Profile (dyn : Nat → List AV → Heap → Option (AV × Heap)) (hd : ∀ f, Sound Tryz.prog nmT f (dyn (nmT.getD f 0))) : Sound Tryz.prog nmT 74 (m_slices_IndexFunc_api_Profile dyn) := w_slices_IndexFunc_api_Profile dyn hd
noncomputable def x_fixture_profile_fn1 : Fx := ⟨Tryz.prog, nmT, A.tab (fun _ _ => none) [], (fun _ _ _ => none), [2], [], 8, []⟩
theorem w_fixture_profile_fn1 : Sound Tryz.prog nmT 165 (A.wrap true [(.a [.k, .k, (.s 7)])] .k (A.ar2 (r_fixture_profile_fn1))) :=
 Sound.wrap (Sound.run2 (X := x_fixture_profile_fn1) (fn := Tryz.f165) (ann := (.s .n (.s .n .n))) .F trivial (Snd.of rfl All.nil (fun _ => Sound.none)) Tryz.func165 Tryz.call165 (fun a0 a1 σ => by kernel_rfl)) _ _ _ rfl rfl
theorem s_fixture_profile_fn1 : Sound Tryz.prog nmT 165 m_fixture_profile_fn1 := w_fixture_profile_fn1
noncomputable def x_fixture_profile : Fx := ⟨Tryz.prog, nmT, A.tab (fun _ _ => none) [(74, m_slices_IndexFunc_api_Profile (A.tab (fun _ _ => none) [(64, m_fixture_profile_fn1), (64, m_fixture_profile_fn1)]))], (A.tab (fun _ _ => none) [(64, m_fixture_profile_fn1), (64, m_fixture_profile_fn1)]), [4], [], 17, []⟩
theorem w_fixture_profile : Sound Tryz.prog nmT 120 (A.wrap true [(.s 3)] (.t [(.a [.k, .k, (.e 7 [.k, .k, .k, .k, .k, .k, (.s 3)])]), .k]) (A.ar2 (r_fixture_profile))) :=
 Sound.wrap (Sound.run2 (X := x_fixture_profile) (fn := Tryz.f120) (ann := (.s .n (.s .n (.s (.s .n (.j (.s .n .n) .n)) (.s .n .n))))) .F trivial (Snd.of rfl (All.cons (s_slices_IndexFunc_api_Profile _ (dyn_of (DAll.cons (nm_sound s_fixture_profile_fn1 (by kernel_rfl) rfl) (DAll.cons (nm_sound s_fixture_profile_fn1 (by kernel_rfl) rfl) DAll.nil)))) All.nil) (dyn_of (DAll.cons (nm_sound s_fixture_profile_fn1 (by kernel_rfl) rfl) (DAll.cons (nm_sound s_fixture_profile_fn1 (by kernel_rfl) rfl) DAll.nil)))) Tryz.func120 Tryz.call120 (fun a0 a1 σ => by kernel_rfl)) _ _ _ rfl rfl
theorem s_fixture_profile : Sound Tryz.prog nmT 120 m_fixture_profile := w_fixture_profile
noncomputable def x_fixture_slots_free : Fx := ⟨Tryz.prog, nmT, A.tab (fun _ _ => none) [], (fun _ _ _ => none), [], [], 32, []⟩
theorem w_fixture_slots_free : Sound Tryz.prog nmT 163 (A.wrap true [] .k (A.ar3 (r_fixture_slots_free))) :=
 Sound.wrap (Sound.run3 (X := x_fixture_slots_free) (fn := Tryz.f163) (ann := (.s .n (.s (.s .n (.j (.s .n .n) .n)) (.s (.s .n (.b (.l [6, 7] [.exit 0, .ret] (.s (.s .n (.j .n .n)) (.s (.b (.s .n (.j (.s .n .n) .n))) .n))))) (.s .n .n))))) .F trivial (Snd.of rfl All.nil (fun _ => Sound.none)) Tryz.func163 Tryz.call163 (fun a0 a1 a2 σ => by kernel_rfl)) _ _ _ rfl rfl
theorem s_fixture_slots_free : Sound Tryz.prog nmT 163 m_fixture_slots_free := w_fixture_slots_free
noncomputable def x_fixture_take : Fx := ⟨Tryz.prog, nmT, A.tab (fun _ _ => none) [], (fun _ _ _ => none), [4], [15], 33, []⟩
theorem w_fixture_take : Sound Tryz.prog nmT 164 (A.wrap false [] .k (A.ar3 (r_fixture_take))) :=
 Sound.wrap (Sound.run3 (X := x_fixture_take) (fn := Tryz.f164) (ann := (.s .n (.s (.s .n (.c [4] .n .n)) (.s .n (.b (.l [4, 6] [.exit 0] (.s (.s .n (.j .n .n)) (.s (.b .n) .n)))))))) .K trivial (Snd.of rfl All.nil (fun _ => Sound.none)) Tryz.func164 Tryz.call164 (fun a0 a1 a2 σ => by kernel_rfl)) _ _ _ rfl rfl
theorem s_fixture_take : Sound Tryz.prog nmT 164 m_fixture_take := w_fixture_take
noncomputable def x_fixture_CheckRig : Fx := ⟨Tryz.prog, nmT, A.tab (fun _ _ => none) [(162, m_fixture_CheckLibrary), (91, m_word_Within), (120, m_fixture_profile), (163, m_fixture_slots_free), (164, m_fixture_take)], (fun _ _ _ => none), [1, 6, 7], [], 91, []⟩
theorem w_fixture_CheckRig : Sound Tryz.prog nmT 115 (A.wrap true [(.a [(.s 3), (.s 4)])] .k (A.ar1 (r_fixture_CheckRig))) :=
 Sound.wrap (Sound.run1 (X := x_fixture_CheckRig) (fn := Tryz.f115) (ann := (.s .n (.s (.s .n (.s .n (.j (.s .n .n) .n))) (.s (.s .n (.j (.s .n .n) .n)) (.s .n (.s (.s .n (.b (.l [1, 2, 23] [.exit 0, .ret] (.s .n (.s (.j .n .n) (.s (.b (.s .n (.s (.s .n (.j (.s .n .n) .n)) (.s (.s .n (.j (.s .n .n) .n)) (.s .n (.s (.s .n (.j (.s .n .n) .n)) (.s (.s .n (.j (.s .n .n) .n)) (.s (.s .n (.j (.s .n .n) .n)) .n)))))))) .n)))))) (.s .n .n))))))) .F trivial (Snd.of rfl (All.cons s_fixture_CheckLibrary (All.cons s_word_Within (All.cons s_fixture_profile (All.cons s_fixture_slots_free (All.cons s_fixture_take All.nil))))) (fun _ => Sound.none)) Tryz.func115 Tryz.call115 (fun a0 σ => by kernel_rfl)) _ _ _ rfl rfl
theorem s_fixture_CheckRig : Sound Tryz.prog nmT 115 m_fixture_CheckRig := w_fixture_CheckRig
noncomputable def x_fixture_Keys : Fx := ⟨Tryz.prog, nmT, A.tab (fun _ _ => none) [(115, m_fixture_CheckRig), (120, m_fixture_profile)], (fun _ _ _ => none), [1, 7, 8, 11], [], 50, []⟩
theorem w_fixture_Keys : Sound Tryz.prog nmT 67 (A.wrap true [(.a [(.s 3), (.s 4)])] (.t [(.s 2), .k]) (A.ar1 (r_fixture_Keys))) :=
 Sound.wrap (Sound.run1 (X := x_fixture_Keys) (fn := Tryz.f67) (ann := (.s .n (.s (.s .n (.s .n (.j (.s .n .n) .n))) (.s .n (.s (.s .n (.b (.l [1, 5, 20] [.exit 0] (.s .n (.s (.j .n .n) (.s (.b (.s .n (.s .n (.s .n (.b (.l [1, 5, 7, 35] [.exit 2] (.s .n (.s (.j .n .n) (.s (.b (.s .n .n)) .n))))))))) .n)))))) (.s .n .n)))))) .F trivial (Snd.of rfl (All.cons s_fixture_CheckRig (All.cons s_fixture_profile All.nil)) (fun _ => Sound.none)) Tryz.func67 Tryz.call67 (fun a0 σ => by kernel_rfl)) _ _ _ rfl rfl
theorem s_fixture_Keys : Sound Tryz.prog nmT 67 m_fixture_Keys := w_fixture_Keys
noncomputable def x_pick_keys : Fx := ⟨Tryz.prog, nmT, A.tab (fun _ _ => none) [(67, m_fixture_Keys)], (fun _ _ _ => none), [1, 7], [], 24, []⟩
theorem w_pick_keys : Sound Tryz.prog nmT 116 (A.wrap true [(.a [(.s 3), (.s 4)])] .k (A.ar1 (r_pick_keys))) :=
 Sound.wrap (Sound.run1 (X := x_pick_keys) (fn := Tryz.f116) (ann := (.s .n (.s .n (.s .n (.s (.s .n (.b (.l [16] [.exit 0] (.s .n (.s (.j .n .n) (.s (.b (.s .n .n)) .n)))))) (.s .n .n)))))) .F trivial (Snd.of rfl (All.cons s_fixture_Keys All.nil) (fun _ => Sound.none)) Tryz.func116 Tryz.call116 (fun a0 σ => by kernel_rfl)) _ _ _ rfl rfl
theorem s_pick_keys : Sound Tryz.prog nmT 116 m_pick_keys := w_pick_keys
noncomputable def x_pick_blank : Fx := ⟨Tryz.prog, nmT, A.tab (fun _ _ => none) [(92, m_word_Title)], (fun _ _ _ => none), [], [], 9, []⟩
theorem w_pick_blank : Sound Tryz.prog nmT 117 (A.wrap true [] .k (A.ar1 (r_pick_blank))) :=
 Sound.wrap (Sound.run1 (X := x_pick_blank) (fn := Tryz.f117) (ann := (.s .n (.s .n .n))) .F trivial (Snd.of rfl (All.cons s_word_Title All.nil) (fun _ => Sound.none)) Tryz.func117 Tryz.call117 (fun a0 σ => by kernel_rfl)) _ _ _ rfl rfl
theorem s_pick_blank : Sound Tryz.prog nmT 117 m_pick_blank := w_pick_blank
noncomputable def x_pick_isLevel : Fx := ⟨Tryz.prog, nmT, A.tab (fun _ _ => none) [(91, m_word_Within)], (fun _ _ _ => none), [], [], 5, []⟩
theorem w_pick_isLevel : Sound Tryz.prog nmT 118 (A.wrap true [] .k (A.ar1 (r_pick_isLevel))) :=
 Sound.wrap (Sound.run1 (X := x_pick_isLevel) (fn := Tryz.f118) (ann := (.s .n (.s .n .n))) .F trivial (Snd.of rfl (All.cons s_word_Within All.nil) (fun _ => Sound.none)) Tryz.func118 Tryz.call118 (fun a0 σ => by kernel_rfl)) _ _ _ rfl rfl
theorem s_pick_isLevel : Sound Tryz.prog nmT 118 m_pick_isLevel := w_pick_isLevel
noncomputable def x_pick_before : Fx := ⟨Tryz.prog, nmT, A.tab (fun _ _ => none) [(98, m_strings_Compare)], (fun _ _ _ => none), [2, 3], [], 21, []⟩
theorem w_pick_before : Sound Tryz.prog nmT 119 (A.wrap true [] .k (A.ar2 (r_pick_before))) :=
 Sound.wrap (Sound.run2 (X := x_pick_before) (fn := Tryz.f119) (ann := (.s .n (.s (.s .n (.j (.s .n .n) .n)) (.s .n .n)))) .F trivial (Snd.of rfl (All.cons s_strings_Compare All.nil) (fun _ => Sound.none)) Tryz.func119 Tryz.call119 (fun a0 a1 σ => by kernel_rfl)) _ _ _ rfl rfl
theorem s_pick_before : Sound Tryz.prog nmT 119 m_pick_before := w_pick_before
noncomputable def x_pick_CheckPresets : Fx := ⟨Tryz.prog, nmT, A.tab (fun _ _ => none) [(115, m_fixture_CheckRig), (46, m_word_When), (45, m_word_First), (116, m_pick_keys), (91, m_word_Within), (117, m_pick_blank), (118, m_pick_isLevel), (119, m_pick_before)], (fun _ _ _ => none), [2, 8, 10], [], 97, []⟩
theorem w_pick_CheckPresets : Sound Tryz.prog nmT 66 (A.wrap true [(.a [(.s 3), (.s 4)]), (.s 3)] .k (A.ar2 (r_pick_CheckPresets))) :=
 Sound.wrap (Sound.run2 (X := x_pick_CheckPresets) (fn := Tryz.f66) (ann := (.s .n (.s (.s .n (.s .n (.j (.s .n .n) .n))) (.s .n (.s (.s .n (.b (.l [4, 26] [.exit 0, .ret] (.s .n (.s (.j .n .n) (.s (.b (.s .n (.s (.b (.s .n (.j (.s .n .n) (.s .n (.j (.s .n .n) (.s .n (.j (.s .n .n) (.s .n (.j (.s .n .n) .n))))))))) (.s .n (.b (.l [4, 8, 63] [.exit 3, .ret] (.s .n (.s (.j .n .n) (.s (.b (.s .n (.b (.s .n (.j (.s .n .n) (.s .n (.j (.s .n .n) (.s .n (.j (.s .n .n) .n))))))))) .n))))))))) .n)))))) (.s .n .n)))))) .F trivial (Snd.of rfl (All.cons s_fixture_CheckRig (All.cons s_word_When (All.cons s_word_First (All.cons s_pick_keys (All.cons s_word_Within (All.cons s_pick_blank (All.cons s_pick_isLevel (All.cons s_pick_before All.nil)))))))) (fun _ => Sound.none)) Tryz.func66 Tryz.call66 (fun a0 a1 σ => by kernel_rfl)) _ _ _ rfl rfl
theorem s_pick_CheckPresets : Sound Tryz.prog nmT 66 m_pick_CheckPresets := w_pick_CheckPresets
noncomputable def x_pick_Level : Fx := ⟨Tryz.prog, nmT, A.tab (fun _ _ => none) [(118, m_pick_isLevel)], (fun _ _ _ => none), [4, 5, 9, 11], [], 55, []⟩
theorem w_pick_Level : Sound Tryz.prog nmT 68 (A.wrap true [(.s 3)] .k (A.ar3 (r_pick_Level))) :=
 Sound.wrap (Sound.run3 (X := x_pick_Level) (fn := Tryz.f68) (ann := (.s .n (.s (.s .n (.j (.s .n .n) .n)) (.s (.s .n (.j (.s .n .n) .n)) (.s (.s .n (.j (.s .n .n) .n)) (.s (.s .n (.b (.l [4, 5, 6, 7, 31] [.exit 0, .ret] (.s .n (.s (.j .n .n) (.s (.b (.s .n (.s (.s .n (.j .n .n)) (.s (.s .n (.b (.l [4, 6, 7, 43] [.exit 2, .ret] (.s .n (.s (.j .n .n) (.s (.b (.s .n (.s .n (.j (.s .n .n) .n)))) .n)))))) .n)))) .n)))))) (.s .n .n))))))) .F trivial (Snd.of rfl (All.cons s_pick_isLevel All.nil) (fun _ => Sound.none)) Tryz.func68 Tryz.call68 (fun a0 a1 a2 σ => by kernel_rfl)) _ _ _ rfl rfl
theorem s_pick_Level : Sound Tryz.prog nmT 68 m_pick_Level := w_pick_Level
noncomputable def x_cue_CheckList : Fx := ⟨Tryz.prog, nmT, A.tab (fun _ _ => none) [(66, m_pick_CheckPresets), (44, m_cue_form), (45, m_word_First), (67, m_fixture_Keys), (68, m_pick_Level)], (fun _ _ _ => none), [3, 12, 14, 16], [], 76, []⟩
theorem w_cue_CheckList : Sound Tryz.prog nmT 20 (A.wrap true [(.a [(.e 3 [.k, .k, (.e 7 [.k, .k, .k, .k, .k, .k, (.s 3)])]), (.s 4)]), (.e 3 [.k, .k, (.s 3)]), (.e 11 [.k, .k, .k, .k, .k, .k, .k, (.s 2), .k, .k, (.s 8)])] .k (A.ar3 (r_cue_CheckList))) :=
 Sound.wrap (Sound.run3 (X := x_cue_CheckList) (fn := Tryz.f20) (ann := (.s .n (.s (.s .n (.s .n (.j (.s .n .n) .n))) (.s .n (.s .n (.s (.s .n (.b (.l [37] [.exit 0] (.s .n (.s (.j .n .n) (.s (.b (.s .n .n)) .n)))))) (.s (.s .n (.b (.l [6, 46] [.exit 2, .ret] (.s .n (.s (.j .n .n) (.s (.b (.s .n (.s .n (.b (.l [6, 53] [.exit 4, .ret] (.s .n (.s (.j .n .n) (.s (.b (.s .n (.s (.s .n (.j (.s .n .n) .n)) (.s .n (.s .n (.j (.s .n .n) .n)))))) .n)))))))) .n)))))) (.s .n .n)))))))) .F trivial (Snd.of rfl (All.cons s_pick_CheckPresets (All.cons s_cue_form (All.cons s_word_First (All.cons s_fixture_Keys (All.cons s_pick_Level All.nil))))) (fun _ => Sound.none)) Tryz.func20 Tryz.call20 (fun a0 a1 a2 σ => by kernel_rfl)) _ _ _ rfl rfl
theorem s_cue_CheckList : Sound Tryz.prog nmT 20 m_cue_CheckList := w_cue_CheckList
noncomputable def x_R2_slots : Fx := ⟨Tryz.prog, nmT, A.tab (fun _ _ => none) [], (fun _ _ _ => none), [1], [], 14, []⟩
theorem w_R2_slots : Sound Tryz.prog nmT 198 (A.wrap true [(.a [.k, .k, .k, .k, .k, .k, (.s 3)])] (.s 1) (A.ar1 (r_R2_slots))) :=
 Sound.wrap (Sound.run1 (X := x_R2_slots) (fn := Tryz.f198) (ann := (.s .n (.s (.s .n (.j (.s .n .n) .n)) (.s .n .n)))) .F trivial (Snd.of rfl All.nil (fun _ => Sound.none)) Tryz.func198 Tryz.call198 (fun a0 σ => by kernel_rfl)) _ _ _ rfl rfl
theorem s_R2_slots : Sound Tryz.prog nmT 198 m_R2_slots := w_R2_slots
noncomputable def x_slices_Index_int : Fx := ⟨Tryz.prog, nmT, A.tab (fun _ _ => none) [], (fun _ _ _ => none), [], [], 19, []⟩
theorem w_slices_Index_int : Sound Tryz.prog nmT 200 (A.wrap true [(.s 1)] .k (A.ar2 (r_slices_Index_int))) :=
 Sound.wrap (Sound.run2 (X := x_slices_Index_int) (fn := Tryz.f200) (ann := (.s .n (.s (.s .n (.b (.l [4, 8] [.exit 0, .ret] (.s .n (.s (.j .n .n) (.s (.b (.s .n (.s .n (.j (.s .n .n) .n)))) .n)))))) (.s .n .n)))) .F trivial (Snd.of rfl All.nil (fun _ => Sound.none)) Tryz.func200 Tryz.call200 (fun a0 a1 σ => by kernel_rfl)) _ _ _ rfl rfl
theorem s_slices_Index_int : Sound Tryz.prog nmT 200 m_slices_Index_int := w_slices_Index_int
noncomputable def x_slices_Contains_int : Fx := ⟨Tryz.prog, nmT, A.tab (fun _ _ => none) [(200, m_slices_Index_int)], (fun _ _ _ => none), [], [], 9, []⟩
theorem w_slices_Contains_int : Sound Tryz.prog nmT 199 (A.wrap true [(.s 1)] .k (A.ar2 (r_slices_Contains_int))) :=
 Sound.wrap (Sound.run2 (X := x_slices_Contains_int) (fn := Tryz.f199) (ann := (.s .n (.s .n .n))) .F trivial (Snd.of rfl (All.cons s_slices_Index_int All.nil) (fun _ => Sound.none)) Tryz.func199 Tryz.call199 (fun a0 a1 σ => by kernel_rfl)) _ _ _ rfl rfl
theorem s_slices_Contains_int : Sound Tryz.prog nmT 199 m_slices_Contains_int := w_slices_Contains_int
noncomputable def x_R2_checkParam : Fx := ⟨Tryz.prog, nmT, A.tab (fun _ _ => none) [(178, m_R1_IsName), (60, m_R1_Within), (122, m_R1_IsLevel), (198, m_R2_slots), (199, m_slices_Contains_int)], (fun _ _ _ => none), [3, 8, 10, 14, 16], [], 148, []⟩
theorem w_R2_checkParam : Sound Tryz.prog nmT 196 (A.wrap true [(.a [.k, .k, .k, .k, .k, .k, (.s 3)]), (.s 7)] .k (A.ar3 (r_R2_checkParam))) :=
 Sound.wrap (Sound.run3 (X := x_R2_checkParam) (fn := Tryz.f196) (ann := (.s .n (.s (.s .n (.j (.s .n .n) .n)) (.s (.s .n (.b (.l [3, 6, 23] [.exit 0, .ret] (.s .n (.s (.j .n .n) (.s (.b (.s .n (.s .n (.j (.s .n .n) .n)))) .n)))))) (.s (.b (.s .n (.j (.s .n .n) (.s .n (.j (.s .n .n) (.s .n (.j (.s .n .n) .n))))))) (.s (.s .n (.b (.l [3, 6, 65] [.exit 3, .ret] (.s .n (.s (.j .n .n) (.s (.b (.s .n (.s .n (.b (.l [3, 6, 10, 72] [.exit 5, .ret] (.s .n (.s (.j .n .n) (.s (.b (.s .n (.s .n (.j (.s .n .n) .n)))) .n)))))))) .n)))))) (.s (.s .n (.j (.s .n .n) .n)) (.s (.s .n (.b (.l [3, 6, 89] [.exit 7, .ret] (.s .n (.s (.j .n .n) (.s (.b (.s .n (.s (.b (.s .n (.j (.s .n .n) (.s .n (.j (.s .n .n) (.s .n (.j (.s .n .n) .n))))))) (.s .n (.b (.l [3, 6, 14, 137] [.exit 10, .ret] (.s .n (.s (.j .n .n) (.s (.b (.s .n (.s .n (.j (.s .n .n) .n)))) .n))))))))) .n)))))) (.s .n .n))))))))) .F trivial (Snd.of rfl (All.cons s_R1_IsName (All.cons s_R1_Within (All.cons s_R1_IsLevel (All.cons s_R2_slots (All.cons s_slices_Contains_int All.nil))))) (fun _ => Sound.none)) Tryz.func196 Tryz.call196 (fun a0 a1 a2 σ => by kernel_rfl)) _ _ _ rfl rfl
theorem s_R2_checkParam : Sound Tryz.prog nmT 196 m_R2_checkParam := w_R2_checkParam
noncomputable def x_R2_CheckProfile : Fx := ⟨Tryz.prog, nmT, A.tab (fun _ _ => none) [(178, m_R1_IsName), (60, m_R1_Within), (196, m_R2_checkParam)], (fun _ _ _ => none), [1, 4], [], 46, []⟩
theorem w_R2_CheckProfile : Sound Tryz.prog nmT 187 (A.wrap true [(.a [.k, .k, (.s 7)])] .k (A.ar1 (r_R2_CheckProfile))) :=
 Sound.wrap (Sound.run1 (X := x_R2_CheckProfile) (fn := Tryz.f187) (ann := (.s .n (.s (.b (.s .n (.j (.s .n .n) (.s .n (.j (.s .n .n) (.s .n (.j (.s .n .n) (.s .n (.j (.s .n .n) .n))))))))) (.s (.s .n (.b (.l [1, 2, 29] [.exit 1, .ret] (.s .n (.s (.j .n .n) (.s (.b (.s .n (.s .n (.s .n (.j (.s .n .n) .n))))) .n)))))) (.s .n .n))))) .F trivial (Snd.of rfl (All.cons s_R1_IsName (All.cons s_R1_Within (All.cons s_R2_checkParam All.nil))) (fun _ => Sound.none)) Tryz.func187 Tryz.call187 (fun a0 σ => by kernel_rfl)) _ _ _ rfl rfl
theorem s_R2_CheckProfile : Sound Tryz.prog nmT 187 m_R2_CheckProfile := w_R2_CheckProfile
noncomputable def x_R2_CheckLibrary : Fx := ⟨Tryz.prog, nmT, A.tab (fun _ _ => none) [(187, m_R2_CheckProfile)], (fun _ _ _ => none), [4, 7], [], 38, []⟩
theorem w_R2_CheckLibrary : Sound Tryz.prog nmT 166 (A.wrap true [(.s 3)] .k (A.ar1 (r_R2_CheckLibrary))) :=
 Sound.wrap (Sound.run1 (X := x_R2_CheckLibrary) (fn := Tryz.f166) (ann := (.s .n (.s (.s .n (.j (.s .n .n) .n)) (.s (.s .n (.b (.l [2, 13] [.exit 0, .ret] (.s .n (.s (.j .n .n) (.s (.b (.s .n (.s (.s .n (.s .n (.j (.s .n .n) .n))) (.s .n (.b (.l [2, 4, 27] [.exit 2, .ret] (.s .n (.s (.j .n .n) (.s (.b (.s .n (.s .n (.j (.s .n .n) .n)))) .n))))))))) .n)))))) (.s .n .n))))) .F trivial (Snd.of rfl (All.cons s_R2_CheckProfile All.nil) (fun _ => Sound.none)) Tryz.func166 Tryz.call166 (fun a0 σ => by kernel_rfl)) _ _ _ rfl rfl
theorem s_R2_CheckLibrary : Sound Tryz.prog nmT 166 m_R2_CheckLibrary := w_R2_CheckLibrary
noncomputable def x_R2_Profile : Fx := ⟨Tryz.prog, nmT, A.tab (fun _ _ => none) [], (fun _ _ _ => none), [4, 7], [], 21, []⟩
theorem w_R2_Profile : Sound Tryz.prog nmT 124 (A.wrap true [(.s 3)] (.t [(.a [.k, .k, (.e 7 [.k, .k, .k, .k, .k, .k, (.s 3)])]), .k]) (A.ar2 (r_R2_Profile))) :=
 Sound.wrap (Sound.run2 (X := x_R2_Profile) (fn := Tryz.f124) (ann := (.s .n (.s (.s .n (.b (.l [4, 5, 10] [.exit 0, .ret] (.s .n (.s (.j .n .n) (.s (.b (.s .n (.s .n (.j (.s .n .n) .n)))) .n)))))) (.s .n .n)))) .F trivial (Snd.of rfl All.nil (fun _ => Sound.none)) Tryz.func124 Tryz.call124 (fun a0 a1 σ => by kernel_rfl)) _ _ _ rfl rfl
theorem s_R2_Profile : Sound Tryz.prog nmT 124 m_R2_Profile := w_R2_Profile
noncomputable def x_R2_last : Fx := ⟨Tryz.prog, nmT, A.tab (fun _ _ => none) [(124, m_R2_Profile)], (fun _ _ _ => none), [2, 3, 5], [], 21, []⟩
theorem w_R2_last : Sound Tryz.prog nmT 167 (A.wrap true [(.a [(.s 3), (.s 4)])] .k (A.ar2 (r_R2_last))) :=
 Sound.wrap (Sound.run2 (X := x_R2_last) (fn := Tryz.f167) (ann := (.s .n (.s .n (.s .n .n)))) .F trivial (Snd.of rfl (All.cons s_R2_Profile All.nil) (fun _ => Sound.none)) Tryz.func167 Tryz.call167 (fun a0 a1 σ => by kernel_rfl)) _ _ _ rfl rfl
theorem s_R2_last : Sound Tryz.prog nmT 167 m_R2_last := w_R2_last
end Go.Proofs.YtphgchakmkankaaGreat

namespace Go.Proofs.YtphgchakmkankaaGreat
set_option linter.unusedSectionVars false
set_option maxRecDepth 100000
set_option linter.unusedVariables false
set_option linter.unusedSimpArgs false
noncomputable def x_R2_CheckRig : Fx := ⟨Tryz.prog, nmT, A.tab (fun _ _ => none) [(166, m_R2_CheckLibrary), (124, m_R2_Profile), (60, m_R1_Within), (167, m_R2_last)], (fun _ _ _ => none), [1, 5, 6, 9], [], 108, []⟩
theorem w_R2_CheckRig : Sound Tryz.prog nmT 121 (A.wrap true [(.a [(.s 3), (.s 4)])] .k (A.ar1 (r_R2_CheckRig))) :=
 Sound.wrap (Sound.run1 (X := x_R2_CheckRig) (fn := Tryz.f121) (ann := (.s .n (.s (.s .n (.s .n (.j (.s .n .n) .n))) (.s (.s .n (.j (.s .n .n) .n)) (.s (.s .n (.b (.l [1, 2, 23] [.exit 0, .ret] (.s .n (.s (.j .n .n) (.s (.b (.s .n (.s .n (.s (.b (.s .n (.j (.s .n .n) (.s .n (.j (.s .n .n) (.s .n (.j (.s .n .n) (.s .n (.j (.s .n .n) .n))))))))) (.s .n (.b (.l [1, 2, 5, 81] [.exit 3, .ret] (.s .n (.s (.j .n .n) (.s (.b (.s .n (.s .n (.j (.s .n .n) .n)))) .n)))))))))) .n)))))) (.s .n .n)))))) .F trivial (Snd.of rfl (All.cons s_R2_CheckLibrary (All.cons s_R2_Profile (All.cons s_R1_Within (All.cons s_R2_last All.nil)))) (fun _ => Sound.none)) Tryz.func121 Tryz.call121 (fun a0 σ => by kernel_rfl)) _ _ _ rfl rfl
theorem s_R2_CheckRig : Sound Tryz.prog nmT 121 m_R2_CheckRig := w_R2_CheckRig
noncomputable def x_R2_unit : Fx := ⟨Tryz.prog, nmT, A.tab (fun _ _ => none) [], (fun _ _ _ => none), [2, 6], [], 21, []⟩
theorem w_R2_unit : Sound Tryz.prog nmT 123 (A.wrap true [(.a [(.s 3), (.s 4)])] .k (A.ar2 (r_R2_unit))) :=
 Sound.wrap (Sound.run2 (X := x_R2_unit) (fn := Tryz.f123) (ann := (.s .n (.s (.s .n (.b (.l [4, 10] [.exit 0, .ret] (.s .n (.s (.j .n .n) (.s (.b (.s .n (.s .n (.j (.s .n .n) .n)))) .n)))))) (.s .n .n)))) .F trivial (Snd.of rfl All.nil (fun _ => Sound.none)) Tryz.func123 Tryz.call123 (fun a0 a1 σ => by kernel_rfl)) _ _ _ rfl rfl
theorem s_R2_unit : Sound Tryz.prog nmT 123 m_R2_unit := w_R2_unit
noncomputable def x_R2_param : Fx := ⟨Tryz.prog, nmT, A.tab (fun _ _ => none) [], (fun _ _ _ => none), [2, 4, 7], [], 22, []⟩
theorem w_R2_param : Sound Tryz.prog nmT 125 (A.wrap true [(.a [.k, .k, (.s 7)])] (.t [(.a [.k, .k, .k, .k, .k, .k, (.s 3)]), .k]) (A.ar2 (r_R2_param))) :=
 Sound.wrap (Sound.run2 (X := x_R2_param) (fn := Tryz.f125) (ann := (.s .n (.s (.s .n (.b (.l [4, 5, 11] [.exit 0, .ret] (.s .n (.s (.j .n .n) (.s (.b (.s .n (.s .n (.j (.s .n .n) .n)))) .n)))))) (.s .n .n)))) .F trivial (Snd.of rfl All.nil (fun _ => Sound.none)) Tryz.func125 Tryz.call125 (fun a0 a1 σ => by kernel_rfl)) _ _ _ rfl rfl
theorem s_R2_param : Sound Tryz.prog nmT 125 m_R2_param := w_R2_param
noncomputable def x_R2_ParamOf : Fx := ⟨Tryz.prog, nmT, A.tab (fun _ _ => none) [(123, m_R2_unit), (124, m_R2_Profile), (125, m_R2_param)], (fun _ _ _ => none), [2, 3, 4, 7], [], 34, []⟩
theorem w_R2_ParamOf : Sound Tryz.prog nmT 70 (A.wrap true [(.a [(.s 3), (.s 4)])] (.t [(.a [.k, .k, .k, .k, .k, .k, (.s 3)]), .k]) (A.ar2 (r_R2_ParamOf))) :=
 Sound.wrap (Sound.run2 (X := x_R2_ParamOf) (fn := Tryz.f70) (ann := (.s .n (.s .n (.s (.s .n (.j (.s .n .n) .n)) (.s .n (.s .n .n)))))) .F trivial (Snd.of rfl (All.cons s_R2_unit (All.cons s_R2_Profile (All.cons s_R2_param All.nil))) (fun _ => Sound.none)) Tryz.func70 Tryz.call70 (fun a0 a1 σ => by kernel_rfl)) _ _ _ rfl rfl
theorem s_R2_ParamOf : Sound Tryz.prog nmT 70 m_R2_ParamOf := w_R2_ParamOf
noncomputable def x_R4_CheckPresets : Fx := ⟨Tryz.prog, nmT, A.tab (fun _ _ => none) [(121, m_R2_CheckRig), (60, m_R1_Within), (105, m_R1_IsTitle), (70, m_R2_ParamOf), (122, m_R1_IsLevel), (88, m_R4_Before)], (fun _ _ _ => none), [2, 7, 9, 10], [], 99, []⟩
theorem w_R4_CheckPresets : Sound Tryz.prog nmT 69 (A.wrap true [(.a [(.s 3), (.s 4)]), (.s 3)] .k (A.ar2 (r_R4_CheckPresets))) :=
 Sound.wrap (Sound.run2 (X := x_R4_CheckPresets) (fn := Tryz.f69) (ann := (.s .n (.s (.s .n (.s .n (.j (.s .n .n) .n))) (.s (.s .n (.j (.s .n .n) .n)) (.s (.s .n (.b (.l [2, 4, 22] [.exit 0, .ret] (.s .n (.s (.j .n .n) (.s (.b (.s .n (.s (.b (.s .n (.j (.s .n .n) (.s .n (.j (.s .n .n) (.s .n (.j (.s .n .n) (.s .n (.j (.s .n .n) .n))))))))) (.s .n (.b (.l [2, 4, 7, 64] [.exit 3, .ret] (.s .n (.s (.j .n .n) (.s (.b (.s .n (.s (.s .n (.s .n (.j (.s .n .n) .n))) (.s (.s .n (.j (.s .n .n) .n)) (.s .n (.j (.s .n .n) .n)))))) .n))))))))) .n)))))) (.s .n .n)))))) .F trivial (Snd.of rfl (All.cons s_R2_CheckRig (All.cons s_R1_Within (All.cons s_R1_IsTitle (All.cons s_R2_ParamOf (All.cons s_R1_IsLevel (All.cons s_R4_Before All.nil)))))) (fun _ => Sound.none)) Tryz.func69 Tryz.call69 (fun a0 a1 σ => by kernel_rfl)) _ _ _ rfl rfl
theorem s_R4_CheckPresets : Sound Tryz.prog nmT 69 m_R4_CheckPresets := w_R4_CheckPresets
noncomputable def x_R4_PresetOf : Fx := ⟨Tryz.prog, nmT, A.tab (fun _ _ => none) [], (fun _ _ _ => none), [4, 7], [], 21, []⟩
theorem w_R4_PresetOf : Sound Tryz.prog nmT 126 (A.wrap true [(.s 3)] (.t [(.a [.k, .k, (.s 3)]), .k]) (A.ar2 (r_R4_PresetOf))) :=
 Sound.wrap (Sound.run2 (X := x_R4_PresetOf) (fn := Tryz.f126) (ann := (.s .n (.s (.s .n (.b (.l [4, 5, 10] [.exit 0, .ret] (.s .n (.s (.j .n .n) (.s (.b (.s .n (.s .n (.j (.s .n .n) .n)))) .n)))))) (.s .n .n)))) .F trivial (Snd.of rfl All.nil (fun _ => Sound.none)) Tryz.func126 Tryz.call126 (fun a0 a1 σ => by kernel_rfl)) _ _ _ rfl rfl
theorem s_R4_PresetOf : Sound Tryz.prog nmT 126 m_R4_PresetOf := w_R4_PresetOf
noncomputable def x_R4_Level : Fx := ⟨Tryz.prog, nmT, A.tab (fun _ _ => none) [(122, m_R1_IsLevel), (126, m_R4_PresetOf)], (fun _ _ _ => none), [4, 5, 8, 11], [], 55, []⟩
theorem w_R4_Level : Sound Tryz.prog nmT 71 (A.wrap true [(.s 3)] .k (A.ar3 (r_R4_Level))) :=
 Sound.wrap (Sound.run3 (X := x_R4_Level) (fn := Tryz.f71) (ann := (.s .n (.s (.b (.s .n (.j (.s .n .n) (.s .n (.j (.s .n .n) (.s .n (.j (.s .n .n) .n))))))) (.s .n (.s (.s .n (.j (.s .n .n) .n)) (.s (.s .n (.b (.l [4, 6, 7, 44] [.exit 1, .ret] (.s .n (.s (.j .n .n) (.s (.b (.s .n (.s .n (.j (.s .n .n) .n)))) .n)))))) (.s .n .n))))))) .F trivial (Snd.of rfl (All.cons s_R1_IsLevel (All.cons s_R4_PresetOf All.nil)) (fun _ => Sound.none)) Tryz.func71 Tryz.call71 (fun a0 a1 a2 σ => by kernel_rfl)) _ _ _ rfl rfl
theorem s_R4_Level : Sound Tryz.prog nmT 71 m_R4_Level := w_R4_Level
noncomputable def x_R5_CheckList : Fx := ⟨Tryz.prog, nmT, A.tab (fun _ _ => none) [(69, m_R4_CheckPresets), (59, m_R5_CheckForm), (70, m_R2_ParamOf), (71, m_R4_Level)], (fun _ _ _ => none), [3, 10, 12, 13], [], 64, []⟩
theorem w_R5_CheckList : Sound Tryz.prog nmT 21 (A.wrap true [(.a [(.e 3 [.k, .k, (.e 7 [.k, .k, .k, .k, .k, .k, (.s 3)])]), (.s 4)]), (.e 3 [.k, .k, (.s 3)]), (.e 11 [.k, .k, .k, .k, .k, .k, .k, (.s 2), .k, .k, (.s 8)])] .k (A.ar3 (r_R5_CheckList))) :=
 Sound.wrap (Sound.run3 (X := x_R5_CheckList) (fn := Tryz.f21) (ann := (.s .n (.s (.s .n (.s .n (.j (.s .n .n) .n))) (.s (.s .n (.s .n (.j (.s .n .n) .n))) (.s (.s .n (.b (.l [3, 6, 30] [.exit 0, .ret] (.s .n (.s (.j .n .n) (.s (.b (.s .n (.s .n (.b (.l [3, 6, 37] [.exit 2, .ret] (.s .n (.s (.j .n .n) (.s (.b (.s .n (.s (.s .n (.s .n (.j (.s .n .n) .n))) (.s .n (.s .n (.j (.s .n .n) .n)))))) .n)))))))) .n)))))) (.s .n .n)))))) .F trivial (Snd.of rfl (All.cons s_R4_CheckPresets (All.cons s_R5_CheckForm (All.cons s_R2_ParamOf (All.cons s_R4_Level All.nil)))) (fun _ => Sound.none)) Tryz.func21 Tryz.call21 (fun a0 a1 a2 σ => by kernel_rfl)) _ _ _ rfl rfl
theorem s_R5_CheckList : Sound Tryz.prog nmT 21 m_R5_CheckList := w_R5_CheckList
noncomputable def x_slices_Equal_api_Entry : Fx := ⟨Tryz.prog, nmT, A.tab (fun _ _ => none) [], (fun _ _ _ => none), [], [], 26, []⟩
theorem w_slices_Equal_api_Entry : Sound Tryz.prog nmT 22 (A.wrap true [(.s 5), (.s 5)] .k (A.ar2 (r_slices_Equal_api_Entry))) :=
 Sound.wrap (Sound.run2 (X := x_slices_Equal_api_Entry) (fn := Tryz.f22) (ann := (.s .n (.s (.s .n (.j (.s .n .n) .n)) (.s (.s .n (.b (.l [4, 13] [.exit 0, .ret] (.s .n (.s (.j .n .n) (.s (.b (.s .n (.s .n (.j (.s .n .n) .n)))) .n)))))) (.s .n .n))))) .F trivial (Snd.of rfl All.nil (fun _ => Sound.none)) Tryz.func22 Tryz.call22 (fun a0 a1 σ => by kernel_rfl)) _ _ _ rfl rfl
theorem s_slices_Equal_api_Entry : Sound Tryz.prog nmT 22 m_slices_Equal_api_Entry := w_slices_Equal_api_Entry
noncomputable def x_cue_levels_fn1 : Fx := ⟨Tryz.prog, nmT, A.tab (fun _ _ => none) [], (fun _ _ _ => none), [2], [], 9, []⟩
theorem w_cue_levels_fn1 : Sound Tryz.prog nmT 127 (A.wrap true [(.a [.k, .k, (.e 7 [.k, .k, .k, .k, .k, .k, (.s 3)])])] .k (A.ar2 (r_cue_levels_fn1))) :=
 Sound.wrap (Sound.run2 (X := x_cue_levels_fn1) (fn := Tryz.f127) (ann := (.s .n (.s .n .n))) .F trivial (Snd.of rfl All.nil (fun _ => Sound.none)) Tryz.func127 Tryz.call127 (fun a0 a1 σ => by kernel_rfl)) _ _ _ rfl rfl
theorem s_cue_levels_fn1 : Sound Tryz.prog nmT 127 m_cue_levels_fn1 := w_cue_levels_fn1
noncomputable def x_cue_levels : Fx := ⟨Tryz.prog, nmT, A.tab (fun _ _ => none) [(74, m_slices_IndexFunc_api_Profile (A.tab (fun _ _ => none) [(226, m_cue_levels_fn1), (226, m_cue_levels_fn1)])), (68, m_pick_Level)], (A.tab (fun _ _ => none) [(226, m_cue_levels_fn1), (226, m_cue_levels_fn1)]), [3, 12, 13, 15], [9], 70, []⟩
theorem w_cue_levels : Sound Tryz.prog nmT 72 (A.wrap true [(.a [(.e 3 [.k, .k, (.e 7 [.k, .k, .k, .k, .k, .k, (.s 3)])]), (.s 4)]), (.e 3 [.k, .k, (.s 3)])] (.s 3) (A.ar3 (r_cue_levels))) :=
 Sound.wrap (Sound.run3 (X := x_cue_levels) (fn := Tryz.f72) (ann := (.s .n (.s .n (.s (.s .n (.b (.l [3, 7, 20] [.exit 0] (.s .n (.s (.j .n .n) (.s (.b (.s .n (.s .n (.s .n (.b (.l [3, 7, 35] [.exit 2] (.s .n (.s (.j .n .n) (.s (.b (.s .n (.s .n (.s .n (.s (.s .n (.s .n (.c [3, 13, 14] .n .n))) .n))))) .n))))))))) .n)))))) (.s .n .n))))) .F trivial (Snd.of rfl (All.cons (s_slices_IndexFunc_api_Profile _ (dyn_of (DAll.cons (nm_sound s_cue_levels_fn1 (by kernel_rfl) rfl) (DAll.cons (nm_sound s_cue_levels_fn1 (by kernel_rfl) rfl) DAll.nil)))) (All.cons s_pick_Level All.nil)) (dyn_of (DAll.cons (nm_sound s_cue_levels_fn1 (by kernel_rfl) rfl) (DAll.cons (nm_sound s_cue_levels_fn1 (by kernel_rfl) rfl) DAll.nil)))) Tryz.func72 Tryz.call72 (fun a0 a1 a2 σ => by kernel_rfl)) _ _ _ rfl rfl
theorem s_cue_levels : Sound Tryz.prog nmT 72 m_cue_levels := w_cue_levels
noncomputable def x_cue_Levels : Fx := ⟨Tryz.prog, nmT, A.tab (fun _ _ => none) [(20, m_cue_CheckList), (30, m_cue_place), (48, m_cue_state), (72, m_cue_levels)], (fun _ _ _ => none), [4], [], 36, []⟩
theorem w_cue_Levels : Sound Tryz.prog nmT 23 (A.wrap true [(.a [(.e 3 [.k, .k, (.e 7 [.k, .k, .k, .k, .k, .k, (.s 3)])]), (.s 4)]), (.e 3 [.k, .k, (.s 3)]), (.e 11 [.k, .k, .k, .k, .k, .k, .k, (.s 2), .k, .k, (.s 8)])] (.t [(.s 3), .k]) (A.ar4 (r_cue_Levels))) :=
 Sound.wrap (Sound.run4 (X := x_cue_Levels) (fn := Tryz.f23) (ann := (.s .n (.s (.s .n (.s .n (.j (.s .n .n) .n))) (.s .n (.s (.s .n (.j (.s .n .n) .n)) (.s .n .n)))))) .F trivial (Snd.of rfl (All.cons s_cue_CheckList (All.cons s_cue_place (All.cons s_cue_state (All.cons s_cue_levels All.nil)))) (fun _ => Sound.none)) Tryz.func23 Tryz.call23 (fun a0 a1 a2 a3 σ => by kernel_rfl)) _ _ _ rfl rfl
theorem s_cue_Levels : Sound Tryz.prog nmT 23 m_cue_Levels := w_cue_Levels
noncomputable def x_R2_KeysOf : Fx := ⟨Tryz.prog, nmT, A.tab (fun _ _ => none) [(124, m_R2_Profile)], (fun _ _ _ => none), [1, 5, 6, 9], [], 43, []⟩
theorem w_R2_KeysOf : Sound Tryz.prog nmT 128 (A.wrap true [(.a [(.s 3), (.s 4)])] (.s 2) (A.ar1 (r_R2_KeysOf))) :=
 Sound.wrap (Sound.run1 (X := x_R2_KeysOf) (fn := Tryz.f128) (ann := (.s .n (.s .n (.s (.s .n (.b (.l [1, 3, 13] [.exit 0] (.s .n (.s (.j .n .n) (.s (.b (.s .n (.s .n (.s .n (.b (.l [1, 3, 5, 28] [.exit 2] (.s .n (.s (.j .n .n) (.s (.b (.s .n .n)) .n))))))))) .n)))))) (.s .n .n))))) .F trivial (Snd.of rfl (All.cons s_R2_Profile All.nil) (fun _ => Sound.none)) Tryz.func128 Tryz.call128 (fun a0 σ => by kernel_rfl)) _ _ _ rfl rfl
theorem s_R2_KeysOf : Sound Tryz.prog nmT 128 m_R2_KeysOf := w_R2_KeysOf
noncomputable def x_R5_levels : Fx := ⟨Tryz.prog, nmT, A.tab (fun _ _ => none) [(128, m_R2_KeysOf), (70, m_R2_ParamOf), (129, m_R5_place), (71, m_R4_Level)], (fun _ _ _ => none), [3, 9, 10], [], 56, []⟩
theorem w_R5_levels : Sound Tryz.prog nmT 73 (A.wrap true [(.a [(.e 3 [.k, .k, (.e 7 [.k, .k, .k, .k, .k, .k, (.s 3)])]), (.s 4)]), (.e 3 [.k, .k, (.s 3)]), (.s 5)] (.s 3) (A.ar3 (r_R5_levels))) :=
 Sound.wrap (Sound.run3 (X := x_R5_levels) (fn := Tryz.f73) (ann := (.s .n (.s .n (.s (.s .n (.b (.l [3, 7, 18] [.exit 0] (.s .n (.s (.j .n .n) (.s (.b (.s .n (.s .n (.s .n (.s (.s .n (.s .n (.c [3, 9, 12] .n .n))) .n))))) .n)))))) (.s .n .n))))) .F trivial (Snd.of rfl (All.cons s_R2_KeysOf (All.cons s_R2_ParamOf (All.cons s_R5_place (All.cons s_R4_Level All.nil)))) (fun _ => Sound.none)) Tryz.func73 Tryz.call73 (fun a0 a1 a2 σ => by kernel_rfl)) _ _ _ rfl rfl
theorem s_R5_levels : Sound Tryz.prog nmT 73 m_R5_levels := w_R5_levels
noncomputable def x_R5_Levels : Fx := ⟨Tryz.prog, nmT, A.tab (fun _ _ => none) [(21, m_R5_CheckList), (37, m_R5_At), (65, A.finC (.s 5) m_R5_Before), (73, m_R5_levels)], (fun _ _ _ => none), [4], [], 31, []⟩
theorem w_R5_Levels : Sound Tryz.prog nmT 24 (A.wrap true [(.a [(.e 3 [.k, .k, (.e 7 [.k, .k, .k, .k, .k, .k, (.s 3)])]), (.s 4)]), (.e 3 [.k, .k, (.s 3)]), (.e 11 [.k, .k, .k, .k, .k, .k, .k, (.s 2), .k, .k, (.s 8)])] (.t [(.s 3), .k]) (A.ar4 (r_R5_Levels))) :=
 Sound.wrap (Sound.run4 (X := x_R5_Levels) (fn := Tryz.f24) (ann := (.s .n (.s (.s .n (.s .n (.j (.s .n .n) .n))) (.s .n (.s (.s .n (.j (.s .n .n) .n)) (.s .n .n)))))) .F trivial (Snd.of rfl (All.cons s_R5_CheckList (All.cons s_R5_At (All.cons (Sound.finC s_R5_Before (.s 5) rfl) (All.cons s_R5_levels All.nil)))) (fun _ => Sound.none)) Tryz.func24 Tryz.call24 (fun a0 a1 a2 a3 σ => by kernel_rfl)) _ _ _ rfl rfl
theorem s_R5_Levels : Sound Tryz.prog nmT 24 m_R5_Levels := w_R5_Levels
noncomputable def x_slices_Equal_api_Setting : Fx := ⟨Tryz.prog, nmT, A.tab (fun _ _ => none) [], (fun _ _ _ => none), [], [], 26, []⟩
theorem w_slices_Equal_api_Setting : Sound Tryz.prog nmT 25 (A.wrap true [(.s 3), (.s 3)] .k (A.ar2 (r_slices_Equal_api_Setting))) :=
 Sound.wrap (Sound.run2 (X := x_slices_Equal_api_Setting) (fn := Tryz.f25) (ann := (.s .n (.s (.s .n (.j (.s .n .n) .n)) (.s (.s .n (.b (.l [4, 13] [.exit 0, .ret] (.s .n (.s (.j .n .n) (.s (.b (.s .n (.s .n (.j (.s .n .n) .n)))) .n)))))) (.s .n .n))))) .F trivial (Snd.of rfl All.nil (fun _ => Sound.none)) Tryz.func25 Tryz.call25 (fun a0 a1 σ => by kernel_rfl)) _ _ _ rfl rfl
theorem s_slices_Equal_api_Setting : Sound Tryz.prog nmT 25 m_slices_Equal_api_Setting := w_slices_Equal_api_Setting
noncomputable def x_W5_CueListsMatchSpec : Fx := ⟨Tryz.prog, nmT, A.tab (fun _ _ => none) [(18, m_cue_State), (19, m_R5_State), (20, m_cue_CheckList), (21, m_R5_CheckList), (22, m_slices_Equal_api_Entry), (23, m_cue_Levels), (24, m_R5_Levels), (25, m_slices_Equal_api_Setting)], (fun _ _ _ => none), [4], [], 71, []⟩
theorem w_W5_CueListsMatchSpec : Sound Tryz.prog nmT 5 (A.wrap true [(.a [(.e 3 [.k, .k, (.e 7 [.k, .k, .k, .k, .k, .k, (.s 3)])]), (.s 4)]), (.e 3 [.k, .k, (.s 3)]), (.e 11 [.k, .k, .k, .k, .k, .k, .k, (.s 2), .k, .k, (.s 8)])] .k (A.ar4 (r_W5_CueListsMatchSpec))) :=
 Sound.wrap (Sound.run4 (X := x_W5_CueListsMatchSpec) (fn := Tryz.f5) (ann := (.s .n (.s .n (.s .n (.s (.s .n (.j (.s .n .n) .n)) (.s .n (.s .n (.s .n .n)))))))) .F trivial (Snd.of rfl (All.cons s_cue_State (All.cons s_R5_State (All.cons s_cue_CheckList (All.cons s_R5_CheckList (All.cons s_slices_Equal_api_Entry (All.cons s_cue_Levels (All.cons s_R5_Levels (All.cons s_slices_Equal_api_Setting All.nil)))))))) (fun _ => Sound.none)) Tryz.func5 Tryz.call5 (fun a0 a1 a2 a3 σ => by kernel_rfl)) _ _ _ rfl rfl
theorem s_W5_CueListsMatchSpec : Sound Tryz.prog nmT 5 m_W5_CueListsMatchSpec := w_W5_CueListsMatchSpec
end Go.Proofs.YtphgchakmkankaaGreat

namespace Go.Proofs.YtphgchakmkankaaGreat
set_option linter.unusedSectionVars false
set_option linter.unusedVariables false
set_option linter.unusedSimpArgs false
def HP := (Nat → Option Blk) → Prop
namespace HP
set_option linter.unusedSectionVars false
def emp : HP := fun h => ∀ i, h i = none
def blk (id : Nat) (b : Blk) : HP := fun h => ∀ i, h i = if i = id then some b else none
def star (P Q : HP) : HP := fun h => ∃ f g, P f ∧ Q g ∧ (∀ i, f i = none ∨ g i = none) ∧ ∀ i, h i = (f i).or (g i)
def pr (p : Prop) : HP := fun h => p ∧ ∀ i, h i = none
def ex {α : Type} (P : α → HP) : HP := fun h => ∃ x, P x h
instance : Mul HP := ⟨star⟩
theorem star_comm (P Q : HP) : P * Q = Q * P := by
 have key : ∀ P Q : HP, ∀ h, (P * Q) h → (Q * P) h := by
  rintro P Q h ⟨f, g, hf, hg, hd, hh⟩
  refine ⟨g, f, hg, hf, fun i => (hd i).symm, fun i => ?_⟩
  rw [hh i]
  rcases hd i with e | e <;> rw [e] <;> simp
 funext h
 exact propext ⟨key P Q h, key Q P h⟩
theorem star_assoc (P Q R : HP) : P * Q * R = P * (Q * R) := by
 funext h
 apply propext
 constructor
 ·rintro ⟨f, g, ⟨f1, f2, h1, h2, hd1, hf⟩, hg, hd, hh⟩
  refine ⟨f1, fun i => (f2 i).or (g i), h1, ⟨f2, g, h2, hg, fun i => ?_, fun i => rfl⟩, fun i => ?_, fun i => ?_⟩
  ·have := hd i; rw [hf i] at this
   rcases this with e | e
   ·cases h : f1 i <;> simp [h] at e <;> exact .inl e
   ·exact .inr e
  ·have a := hd i; have b := hd1 i; rw [hf i] at a
   rcases b with b | b
   ·exact .inl b
   ·rcases a with a | a
    ·cases h : f1 i <;> simp [h] at a; exact .inl rfl
    ·exact .inr (show (f2 i).or (g i) = none by rw [b, a]; rfl)
  ·rw [hh i, hf i]; cases f1 i <;> simp
 ·rintro ⟨f, g, hf, ⟨g1, g2, h1, h2, hd1, hg⟩, hd, hh⟩
  refine ⟨fun i => (f i).or (g1 i), g2, ⟨f, g1, hf, h1, fun i => ?_, fun i => rfl⟩, h2, fun i => ?_, fun i => ?_⟩
  ·have := hd i; rw [hg i] at this
   rcases this with e | e
   ·exact .inl e
   ·cases h : g1 i <;> simp [h] at e; exact .inr rfl
  ·have a := hd i; have b := hd1 i; rw [hg i] at a
   rcases b with b | b
   ·rcases a with a | a
    ·exact .inl (show (f i).or (g1 i) = none by rw [a, b]; rfl)
    ·rw [b] at a; exact .inr (by simpa using a)
   ·exact .inr b
  ·show h i = ((f i).or (g1 i)).or (g2 i)
   rw [hh i, hg i]; cases f i <;> simp
theorem emp_star (P : HP) : emp * P = P := by
 funext h
 apply propext
 constructor
 ·rintro ⟨f, g, hf, hg, hd, hh⟩
  have : h = g := by funext i; rw [hh i, hf i]; rfl
  rw [this]; exact hg
 ·intro hp
  exact ⟨fun _ => none, h, fun _ => rfl, hp, fun _ => .inl rfl, fun i => by simp⟩
theorem star_emp (P : HP) : P * emp = P := by rw [star_comm, emp_star]
instance : Std.Associative (α := HP) (· * ·) := ⟨star_assoc⟩
instance : Std.Commutative (α := HP) (· * ·) := ⟨star_comm⟩
end HP
open HP
structure Hs (B : Blk → Prop) (σ0 σ : Heap) (P : HP) : Prop where
 pre : ∃ bs, σ = σ0 ++ bs ∧ ∀ b ∈ bs, B b
 own : ∃ h, P h ∧ ∀ i b, h i = some b → σ0.length ≤ i ∧ σ[i]? = some b
def anyB : Blk → Prop := fun _ => True
section
variable {B : Blk → Prop} {σ0 σ : Heap} {P Q R : HP} {id : Nat} {b b' : Blk}
theorem hs_eq (e : P = Q) (H : Hs B σ0 σ P) : Hs B σ0 σ Q := e ▸ H
theorem hs_mono (k : ∀ h, P h → Q h) (H : Hs B σ0 σ (P * R)) : Hs B σ0 σ (Q * R) := by
 obtain ⟨h1, h, ⟨f, g, hf, hg, hd, hh⟩, h2⟩ := H
 exact ⟨h1, h, ⟨f, g, k f hf, hg, hd, hh⟩, h2⟩
theorem hs_drop (H : Hs B σ0 σ (P * R)) : Hs B σ0 σ R := by
 obtain ⟨h1, h, ⟨f, g, hf, hg, hd, hh⟩, h2⟩ := H
 refine ⟨h1, g, hg, fun i b hb => h2 i b ?_⟩
 rw [hh i]
 rcases hd i with e | e
 ·rw [e, hb]; rfl
 ·rw [e] at hb; cases hb
theorem hs_pr {p : Prop} : Hs B σ0 σ (pr p * R) ↔ p ∧ Hs B σ0 σ R := by
 constructor
 ·intro H
  refine ⟨?_, hs_drop H⟩
  obtain ⟨h1, h, ⟨f, g, hf, hg, hd, hh⟩, h2⟩ := H
  exact hf.1
 ·rintro ⟨hp, h1, h, hr, h2⟩
  exact ⟨h1, h, ⟨fun _ => none, h, ⟨hp, fun _ => rfl⟩, hr, fun _ => .inl rfl, fun i => by simp⟩, h2⟩
theorem hs_nil (σ : Heap) : Hs B σ σ emp := ⟨⟨[], by simp, by simp⟩, fun _ => none, fun _ => rfl, fun _ _ h => by cases h⟩
theorem hs_len (H : Hs B σ0 σ P) : σ0.length ≤ σ.length := by obtain ⟨⟨bs, rfl, _⟩, _⟩ := H; simp
theorem hs_get (H : Hs B σ0 σ (blk id b * R)) : σ0.length ≤ id ∧ σ[id]? = some b := by
 obtain ⟨h1, h, ⟨f, g, hf, hg, hd, hh⟩, h2⟩ := H
 exact h2 id b (by rw [hh id, hf id]; simp)
theorem hs_B (H : Hs B σ0 σ (blk id b * R)) : B b := by
 obtain ⟨h1, h2⟩ := hs_get H
 obtain ⟨⟨bs, rfl, hb⟩, _⟩ := H
 rw [List.getElem?_append_right h1] at h2
 exact hb b (List.mem_of_getElem? h2)
theorem hs_set (H : Hs B σ0 σ (blk id b * R)) (hb : B b') : Hs B σ0 (σ.set id b') (blk id b' * R) := by
 obtain ⟨hid, hget⟩ := hs_get H
 have hlt := (List.getElem?_eq_some_iff.1 hget).1
 obtain ⟨⟨bs, rfl, hB⟩, h, ⟨f, g, hf, hg, hd, hh⟩, h2⟩ := H
 refine ⟨⟨bs.set (id - σ0.length) b', by rw [List.set_append_right _ _ hid], fun x hx => ?_⟩, fun i => if i = id then some b' else g i, ⟨fun i => if i = id then some b' else none, g, fun i => rfl, hg, fun i => ?_, fun i => ?_⟩, fun i x hx => ?_⟩
 ·rcases List.mem_or_eq_of_mem_set hx with hx | hx
  ·exact hB x hx
  ·subst hx; exact hb
 ·have := hd i; rw [hf i] at this
  by_cases e : i = id
  ·simp only [e, if_true] at this ⊢
   rcases this with h | h
   ·cases h
   ·exact .inr h
  ·simp [e]
 ·by_cases e : i = id <;> simp [e]
 ·by_cases e : i = id
  ·subst e
   simp only [if_true, Option.some.injEq] at hx
   subst hx
   exact ⟨hid, by rw [List.getElem?_set_self hlt]⟩
  ·simp only [e, if_false] at hx
   rw [List.getElem?_set_ne (fun e' => e e'.symm)]
   have := h2 i x (by rw [hh i, hf i]; simp [e, hx])
   exact this
theorem hs_new (H : Hs B σ0 σ R) (hb : B b) : Hs B σ0 (σ ++ [b]) (blk σ.length b * R) := by
 have hl := hs_len H
 obtain ⟨⟨bs, rfl, hB⟩, h, hr, h2⟩ := H
 have hn : ∀ i x, h i = some x → i < (σ0 ++ bs).length := fun i x hx => (List.getElem?_eq_some_iff.1 (h2 i x hx).2).1
 refine ⟨⟨bs ++ [b], by simp, fun x hx => ?_⟩, fun i => if i = (σ0 ++ bs).length then some b else h i, ⟨fun i => if i = (σ0 ++ bs).length then some b else none, h, fun i => rfl, hr, fun i => ?_, fun i => ?_⟩, fun i x hx => ?_⟩
 ·rcases List.mem_append.1 hx with hx | hx
  ·exact hB x hx
  ·simp at hx; subst hx; exact hb
 ·by_cases e : i = (σ0 ++ bs).length
  ·right
   cases hi : h i with
   | none => rfl
   | some x => have := hn i x hi; omega
  ·simp only [e, if_false, true_or]
 ·by_cases e : i = (σ0 ++ bs).length <;> simp only [e, if_true, if_false, Option.or_some, Option.none_or, Option.some_or]
 ·by_cases e : i = (σ0 ++ bs).length
  ·subst e
   simp only [if_true, Option.some.injEq] at hx
   subst hx
   exact ⟨hl, by simp⟩
  ·simp only [e, if_false] at hx
   obtain ⟨k1, k2⟩ := h2 i x hx
   exact ⟨k1, by rw [List.getElem?_append_left (hn i x hx)]; exact k2⟩
end
section
variable {α : Type} {E : List AV → α → HP} {B : Blk → Prop} {σ0 σ : Heap} {R : HP}
def els (E : List AV → α → HP) : List (List AV) → List α → HP
 | [], [] => emp
 | e :: es, x :: l => E e x * els E es l
 | _, _ => pr False
theorem els_len : ∀ {es : List (List AV)} {l : List α} {R : HP}, Hs B σ0 σ (els E es l * R) → es.length = l.length
 | [], [], _, _ => rfl
 | [], _ :: _, _, H => (hs_pr.1 H).1.elim
 | _ :: _, [], _, H => (hs_pr.1 H).1.elim
 | e :: es, x :: l, R, H => by
  have := els_len (es := es) (l := l) (R := E e x * R) (hs_eq (by rw [els]; ac_rfl) H)
  simp [this]
theorem els_app : ∀ {es1 es2 : List (List AV)} {l1 l2 : List α}, es1.length = l1.length → els E (es1 ++ es2) (l1 ++ l2) = els E es1 l1 * els E es2 l2
 | [], es2, [], l2, _ => by rw [els, emp_star]; rfl
 | e :: es1, es2, x :: l1, l2, h => by
  simp only [List.cons_append, els]
  rw [els_app (by simpa using h)]
  ac_rfl
theorem els_one (e : List AV) (x : α) : els E [e] [x] = E e x := by rw [els, els, star_emp]
theorem els_at {es : List (List AV)} {l : List α} {i : Nat} {e : List AV} {x : α} (hl : es.length = l.length) (he : es[i]? = some e) (hx : l[i]? = some x) : els E es l = els E (es.eraseIdx i) (l.eraseIdx i) * E e x := by
 have h1 := (List.getElem?_eq_some_iff.1 he).1
 have h2 := (List.getElem?_eq_some_iff.1 hx).1
 have e1 : es = es.take i ++ e :: es.drop (i + 1) := by
  rw [← (List.getElem?_eq_some_iff.1 he).2, List.getElem_cons_drop, List.take_append_drop]
 have e2 : l = l.take i ++ x :: l.drop (i + 1) := by
  rw [← (List.getElem?_eq_some_iff.1 hx).2, List.getElem_cons_drop, List.take_append_drop]
 conv => lhs; rw [e1, e2]
 rw [els_app (by simp; omega), els, List.eraseIdx_eq_take_drop_succ, List.eraseIdx_eq_take_drop_succ, els_app (by simp; omega)]
 ac_rfl
def fl (c : α → List AV) : List AV → α → HP := fun e x => pr (e = c x)
theorem els_fl {c : α → List AV} : ∀ {es : List (List AV)} {l : List α} {R : HP}, Hs B σ0 σ (els (fl c) es l * R) ↔ es = l.map c ∧ Hs B σ0 σ R
 | [], [], R => by rw [els, emp_star]; simp
 | [], x :: l, R => by show Hs B σ0 σ (pr False * R) ↔ _; rw [hs_pr]; simp
 | e :: es, [], R => by show Hs B σ0 σ (pr False * R) ↔ _; rw [hs_pr]; simp
 | e :: es, x :: l, R => by
  rw [els, fl, star_assoc, hs_pr, els_fl, List.map_cons, List.cons.injEq, and_assoc]
def Sl (E : List AV → α → HP) (sz : Nat) (v : AV) (l : List α) : HP := fun h => (l = [] ∧ (v = .nsl ∨ v = .ez) ∧ emp h) ∨ ∃ id g seg, v = .os id g sz 0 l.length ∧ (blk id (.arr g sz seg) * els E seg l) h
variable {sz : Nat} {v : AV} {l : List α}
theorem sl_cases (H : Hs B σ0 σ (Sl E sz v l * R)) : (l = [] ∧ (v = .nsl ∨ v = .ez) ∧ Hs B σ0 σ R) ∨ ∃ id g seg, v = .os id g sz 0 l.length ∧ seg.length = l.length ∧ Hs B σ0 σ (blk id (.arr g sz seg) * (els E seg l * R)) := by
 have H2 := hs_drop H
 obtain ⟨h1, h, ⟨f, g, hf, hg, hd, hh⟩, h2⟩ := H
 rcases hf with ⟨k1, k2, k3⟩ | ⟨id, gg, seg, k1, k2⟩
 ·exact .inl ⟨k1, k2, H2⟩
 ·have K : Hs B σ0 σ (blk id (.arr gg sz seg) * (els E seg l * R)) := hs_eq (star_assoc _ _ _) ⟨h1, h, ⟨f, g, k2, hg, hd, hh⟩, h2⟩
  exact .inr ⟨id, gg, seg, k1, els_len (R := blk id (.arr gg sz seg) * R) (hs_eq (by ac_rfl) K), K⟩
theorem slz (H : Hs B σ0 σ R) (hv : v = .nsl ∨ v = .ez) : Hs B σ0 σ (Sl E sz v [] * R) :=
 hs_mono (P := emp) (fun h k => .inl ⟨rfl, hv, k⟩) (hs_eq (emp_star R).symm H)
theorem sl_os {id g : Nat} {seg : List (List AV)} {n : Nat} (H : Hs B σ0 σ (blk id (.arr g sz seg) * (els E seg l * R))) (hn : n = l.length := by rfl) : Hs B σ0 σ (Sl E sz (.os id g sz 0 n) l * R) :=
 hs_mono (P := blk id (.arr g sz seg) * els E seg l) (fun h k => .inr ⟨id, g, seg, by rw [hn], k⟩) (hs_eq (star_assoc _ _ _).symm H)
theorem sl_app {ys : List (List AV)} {xs : List α} {most : Nat} (H : Hs B σ0 σ (Sl E sz v l * (els E ys xs * R))) (hm : l.length + xs.length ≤ most) (hB : ∀ g g' seg, (seg = [] ∨ B (.arr g sz seg)) → B (.arr g' sz (seg ++ ys))) :
  ∃ v' σ', A.append sz most v (.sl sz ys) σ = some (v', σ') ∧ Hs B σ0 σ' (Sl E sz v' (l ++ xs) * R) := by
 rcases sl_cases H with ⟨rfl, hv, H⟩ | ⟨id, g, seg, rfl, hl, H⟩
 ·have hxl := els_len H
  by_cases hy : ys = []
  ·subst hy
   have : xs = [] := List.eq_nil_of_length_eq_zero (by simpa using hxl.symm)
   subst this
   refine ⟨v, σ, ?_, slz (hs_drop H) hv⟩
   rcases hv with rfl | rfl <;> simp [A.append, A.elems, A.appendL]
  ·refine ⟨.os σ.length ys.length sz 0 ys.length, σ ++ [.arr ys.length sz ys], ?_, ?_⟩
   ·have : ys.length ≤ most := by simp at hm; omega
    rcases hv with rfl | rfl <;> simp [A.append, A.elems, A.appendL, hy, this]
   ·have H2 := hs_new H (by simpa using hB 0 ys.length [] (.inl rfl) : B (.arr ys.length sz ys))
    exact sl_os H2 (by simpa using hxl)
 ·have hxl := els_len (hs_eq (show _ = els E ys xs * (blk id (.arr g sz seg) * (els E seg l * R)) by ac_rfl) H)
  obtain ⟨h1, h2⟩ := hs_get H
  by_cases hy : ys = []
  ·subst hy
   have : xs = [] := List.eq_nil_of_length_eq_zero (by simpa using hxl.symm)
   subst this
   refine ⟨.os id g sz 0 l.length, σ, ?_, ?_⟩
   ·have : l.length ≤ most := by simpa using hm
    simp [A.append, A.elems, A.appendL, h2, hl, this]
   ·rw [List.append_nil]
    exact sl_os (hs_eq (by rw [els, emp_star]) H)
  ·have hp : 0 < ys.length := List.length_pos_iff.2 hy
   refine ⟨.os id (g + ys.length) sz 0 (l.length + ys.length), σ.set id (.arr (g + ys.length) sz (seg ++ ys)), ?_, ?_⟩
   ·have e1 : l.length + ys.length ≤ most := by omega
    have e2 : seg.take l.length = seg := List.take_of_length_le (by omega)
    simp [A.append, A.elems, A.appendL, h2, hl, e1, hy, e2, hp]
   ·have H2 := hs_set (b' := .arr (g + ys.length) sz (seg ++ ys)) H (hB g _ seg (.inr (hs_B H)))
    exact sl_os (id := id) (g := g + ys.length) (seg := seg ++ ys) (hs_eq (by rw [els_app hl]; ac_rfl) H2) (by simp; omega)
end
end Go.Proofs.YtphgchakmkankaaGreat

namespace Go.Proofs.YtphgchakmkankaaGreat
set_option linter.unusedSectionVars false
set_option linter.unusedVariables false
set_option linter.unusedSimpArgs false
open HP
noncomputable def insR (sz most : Nat) (zs : List AV) (rot : List AV → Heap → Option (AV × Heap)) (a0 a1 a2 : AV) (σ : Heap) : Option (AV × Heap) :=
 (A.sliceS sz a0 (some a1) none σ).bind fun x1 =>
 (A.lenS a2).bind fun x2 =>
 (A.eql .i x2 (AV.int .i64 0)).bind fun x3 =>
 A.cond x3 (
  A.renew [a0, a1, a2] σ a0 σ) (
  (A.lenS a0).bind fun x4 =>
  (A.eql .i a1 x4).bind fun x5 =>
  A.cond x5 (
   (A.append sz most a0 a2 σ).bind fun r6 =>
   A.renew [a0, a1, a2] σ r6.1 r6.2) (
   (A.add x4 x2).bind fun x7 =>
   A.capM (A.capN a0) (fun x8 =>
    (A.gtr x7 x8).bind fun x9 =>
    A.cond x9 (
     (A.sliceS sz a0 none (some a1) σ).bind fun x10 =>
     (A.add x4 x2).bind fun x11 =>
     (A.sub x11 a1).bind fun x12 =>
     (A.appendZ sz most zs x10 x12 σ).bind fun r13 =>
     (A.sliceS sz r13.1 (some a1) none r13.2).bind fun x14 =>
     (A.copyS sz x14 a2 r13.2).bind fun r15 =>
     (A.add a1 x2).bind fun x16 =>
     (A.sliceS sz r13.1 (some x16) none r15.2).bind fun x17 =>
     (A.sliceS sz a0 (some a1) none r15.2).bind fun x18 =>
     (A.copyS sz x17 x18 r15.2).bind fun r19 =>
     A.renew [a0, a1, a2] σ r13.1 r19.2) (
     (A.add x4 x2).bind fun x20 =>
     (A.sliceS sz a0 none (some x20) σ).bind fun x21 =>
     (A.add a1 x2).bind fun x22 =>
     (A.sliceS sz x21 (some x22) none σ).bind fun x23 =>
     (m_slices_overlaps [a2, x23] σ).bind fun r24 =>
     (A.not r24.1).bind fun x25 =>
     A.cond x25 (
      (A.add a1 x2).bind fun x26 =>
      (A.sliceS sz x21 (some x26) none r24.2).bind fun x27 =>
      (A.sliceS sz x21 (some a1) none r24.2).bind fun x28 =>
      (A.copyS sz x27 x28 r24.2).bind fun r29 =>
      (A.sliceS sz x21 (some a1) none r29.2).bind fun x30 =>
      (A.copyS sz x30 a2 r29.2).bind fun r31 =>
      A.renew [a0, a1, a2] σ x21 r31.2) (
      (A.sliceS sz x21 (some x4) none r24.2).bind fun x32 =>
      (A.copyS sz x32 a2 r24.2).bind fun r33 =>
      (A.sliceS sz x21 (some a1) none r33.2).bind fun x34 =>
      (rot [x34, x2] r33.2).bind fun r35 =>
      A.renew [a0, a1, a2] σ x21 r35.2))) (A.capU a0 σ fun n36 s37 =>
    (A.gtr x7 (AV.int .i64 n36)).bind fun x38 =>
    A.cond x38 (
     (A.sliceS sz a0 none (some a1) s37).bind fun x39 =>
     (A.add x4 x2).bind fun x40 =>
     (A.sub x40 a1).bind fun x41 =>
     (A.appendZ sz most zs x39 x41 s37).bind fun r42 =>
     (A.sliceS sz r42.1 (some a1) none r42.2).bind fun x43 =>
     (A.copyS sz x43 a2 r42.2).bind fun r44 =>
     (A.add a1 x2).bind fun x45 =>
     (A.sliceS sz r42.1 (some x45) none r44.2).bind fun x46 =>
     (A.sliceS sz a0 (some a1) none r44.2).bind fun x47 =>
     (A.copyS sz x46 x47 r44.2).bind fun r48 =>
     A.renew [a0, a1, a2] σ r42.1 r48.2) (
     (A.add x4 x2).bind fun x49 =>
     (A.sliceS sz a0 none (some x49) s37).bind fun x50 =>
     (A.add a1 x2).bind fun x51 =>
     (A.sliceS sz x50 (some x51) none s37).bind fun x52 =>
     (m_slices_overlaps [a2, x52] s37).bind fun r53 =>
     (A.not r53.1).bind fun x54 =>
     A.cond x54 (
      (A.add a1 x2).bind fun x55 =>
      (A.sliceS sz x50 (some x55) none r53.2).bind fun x56 =>
      (A.sliceS sz x50 (some a1) none r53.2).bind fun x57 =>
      (A.copyS sz x56 x57 r53.2).bind fun r58 =>
      (A.sliceS sz x50 (some a1) none r58.2).bind fun x59 =>
      (A.copyS sz x59 a2 r58.2).bind fun r60 =>
      A.renew [a0, a1, a2] σ x50 r60.2) (
      (A.sliceS sz x50 (some x4) none r53.2).bind fun x61 =>
      (A.copyS sz x61 a2 r53.2).bind fun r62 =>
      (A.sliceS sz x50 (some a1) none r62.2).bind fun x63 =>
      (rot [x63, x2] r62.2).bind fun r64 =>
      A.renew [a0, a1, a2] σ x50 r64.2)))))
noncomputable def delR (sz most : Nat) (zs : List AV) (a0 a1 a2 : AV) (σ : Heap) : Option (AV × Heap) :=
 (A.lenS a0).bind fun x1 =>
 (A.slice3 a0 (some a1) a2 x1).bind fun x2 =>
 (A.eql .i a1 a2).bind fun x3 =>
 A.cond x3 (
  A.renew [a0, a1, a2] σ a0 σ) (
  (A.lenS a0).bind fun x4 =>
  (A.sliceS sz a0 none (some a1) σ).bind fun x5 =>
  (A.sliceS sz a0 (some a2) none σ).bind fun x6 =>
  (A.append sz most x5 x6 σ).bind fun r7 =>
  (A.lenS r7.1).bind fun x8 =>
  (A.sliceS sz r7.1 (some x8) (some x4) r7.2).bind fun x9 =>
  (A.clearS sz zs x9 r7.2).bind fun h10 =>
  A.renew [a0, a1, a2] σ r7.1 h10)
section
variable {σ : Heap} {id g sz off len : Nat} {es : List (List AV)}
theorem cnd_t {α : Type} {X Y : Option α} : A.cond (.bool true) X Y = X := rfl
theorem cnd_f {α : Type} {X Y : Option α} : A.cond (.bool false) X Y = Y := rfl
theorem capM_os {R : Type} {k : AV → Option R} {u : Option R} : A.capM (A.capN (.os id g sz off len)) k u = u := rfl
theorem bnd_s {y d k : Nat} (h : k ≤ y) : A.bound y d (some (.int .i64 (k : Int))) = some k := by
 have : (k : Int) ≤ y := by omega
 simp [A.bound, this]
theorem bnd_n {y d : Nat} : A.bound y d none = some d := rfl
theorem room_arr (h : σ[id]? = some (.arr g sz es)) (hl : off + len ≤ es.length) : A.room σ id g sz off len = es.length - off := by simp [A.room, h, hl]
theorem room_arrF (h : σ[id]? = some (.arrF g sz es)) : A.room σ id g sz off len = len := by simp [A.room, h]
theorem slo {lo hi : Option AV} {r h l : Nat} (hr : A.room σ id g sz off len = r) (hh : A.bound r len hi = some h) (hl : A.bound h 0 lo = some l) : A.sliceS sz (.os id g sz off len) lo hi σ = some (.os id g sz (off + l) (h - l)) := by
 simp [A.sliceS, hr, hh, hl]
theorem add_nn {a b : Nat} (h : a + b < 9223372036854775808) : A.add (.int .i64 (a : Int)) (.int .i64 (b : Int)) = some (.int .i64 ((a + b : Nat) : Int)) := by
 rw [aAdd, wrap64 (by unfold inI; omega)]; simp
theorem sub_nn {a b : Nat} (h : b ≤ a) (h2 : a < 9223372036854775808) : A.sub (.int .i64 (a : Int)) (.int .i64 (b : Int)) = some (.int .i64 ((a - b : Nat) : Int)) := by
 rw [aSub, wrap64 (by unfold inI; omega), Int.ofNat_sub h]
theorem eq_nn (a b : Nat) : A.eql .i (.int .i64 (a : Int)) (.int .i64 (b : Int)) = some (.bool (decide (a = b))) := by
 rw [aEq]
 have : ((a : Int) = (b : Int)) = (a = b) := propext ⟨fun h => by omega, fun h => by omega⟩
 simp only [this]
theorem all_of {R : Type} {p : Nat → Prop} {k : Nat → Option R} {r : R} (n : Nat) (hn : p n) (h : ∀ n, p n → k n = some r) : A.all p k = some r := by
 have hx : ∃ r, ∀ n, p n → k n = some r := ⟨r, h⟩
 unfold A.all
 rw [dif_pos hx]
 have := Classical.choose_spec hx n hn
 rw [h n hn] at this
 injection this with this
 rw [← this]
theorem copy_os {σ : Heap} {y : AV} {ys : List (List AV)} (h : σ[id]? = some (.arr g sz es)) (hl : off + len ≤ es.length) (hy : A.elems sz y σ = some ys) (h0 : ys.length ≠ 0) (h1 : len ≠ 0) :
  A.copyS sz (.os id g sz off len) y σ = some (.int .i64 (ys.take len).length, σ.set id (.arr g sz (es.take off ++ ys.take len ++ es.drop (off + (ys.take len).length)))) := by
 simp only [A.copyS, hy, Option.bind_some, h]
 rw [if_pos (by simp [hl]), if_neg (by simp only [not_or]; exact ⟨h0, h1⟩)]
theorem elems_os (h : σ[id]? = some (.arr g sz es)) (hl : off + len ≤ es.length) : A.elems sz (.os id g sz off len) σ = some ((es.drop off).take len) := by
 simp [A.elems, h, hl]
theorem elems_osF (h : σ[id]? = some (.arrF g sz es)) (hl : off + len ≤ es.length) : A.elems sz (.os id g sz off len) σ = some ((es.drop off).take len) := by
 simp [A.elems, h, hl]
end
section
variable {α : Type} {E : List AV → α → HP} {σ0 σ : Heap} {R : HP} {sz most : Nat} {zs : List AV} {rot : List AV → Heap → Option (AV × Heap)} {v : AV} {l : List α} {y : α} {ye : List AV} {i : Nat}
theorem gen_ins (id g n : Nat) (i : AV) (hi : ∃ k : Int, i = .int .i64 k) : A.gen [.os id g sz 0 n, i, .sl sz [ye]] = g + n + 1 := by
 obtain ⟨k, rfl⟩ := hi
 simp [A.gen]
theorem ins_mid {id g n : Nat} {seg : List (List AV)} (hs : σ[id]? = some (.arr g sz seg)) (hl : seg.length = n) (hi : i < n) (hm : n + 1 ≤ most) (hb : n < 4611686018427387904) :
  insR sz most zs rot (.os id g sz 0 n) (.int .i64 (i : Int)) (.sl sz [ye]) σ = some (.os id (g + n + 2) sz 0 (n + 1), σ.set id (.arr (g + n + 2) sz (seg.take i ++ [ye] ++ seg.drop i))) := by
 have hid := (List.getElem?_eq_some_iff.1 hs).1
 have hgen : A.gen [.os id g sz 0 n, .int .i64 (i : Int), .sl sz [ye]] = g + n + 1 := gen_ins id g n _ ⟨_, rfl⟩
 unfold insR
 rw [slo (room_arr hs (by omega)) bnd_n (bnd_s (k := i) (by omega)), Option.bind_some]
 rw [show A.lenS (.sl sz [ye]) = some (.int .i64 ((1 : Nat) : Int)) from rfl, Option.bind_some]
 rw [show A.eql .i (.int .i64 ((1 : Nat) : Int)) (.int .i64 0) = some (.bool false) from rfl, Option.bind_some]
 rw [cnd_f]
 rw [show A.lenS (.os id g sz 0 n) = some (.int .i64 (n : Int)) from rfl, Option.bind_some, eq_nn, Option.bind_some, decide_eq_false (by omega)]
 rw [cnd_f, add_nn (by omega), Option.bind_some, capM_os]
 simp only [A.capU, hs]
 rw [if_pos (by simp; omega)]
 refine all_of n (by omega) fun c hc => ?_
 obtain ⟨hc1, hc2⟩ := hc
 by_cases ht : c = n
 ·subst ht
  rw [if_pos rfl]
  obtain ⟨σ1, hσ1⟩ : ∃ σ1, σ1 = σ.set id (.arrF g sz seg) := ⟨_, rfl⟩
  have h1 : σ1[id]? = some (.arrF g sz seg) := by rw [hσ1, List.getElem?_set_self hid]
  have hl1 : σ1.length = σ.length := by rw [hσ1, List.length_set]
  rw [← hσ1]
  rw [show A.gtr (.int .i64 ((c + 1 : Nat) : Int)) (.int .i64 (c : Int)) = some (.bool true) by simp [A.gtr]; omega, Option.bind_some]
  rw [cnd_t, slo (room_arrF h1) (bnd_s (k := i) (by omega)) bnd_n, Option.bind_some, add_nn (by omega), Option.bind_some, sub_nn (by omega) (by omega), Option.bind_some]
  obtain ⟨rows, hrows⟩ : ∃ rows, rows = seg.take i ++ List.replicate (c + 1 - i) zs := ⟨_, rfl⟩
  have hrl : rows.length = c + 1 := by rw [hrows]; simp; omega
  have e1 : A.appendZ sz most zs (.os id g sz (0 + 0) (i - 0)) (.int .i64 ((c + 1 - i : Nat) : Int)) σ1 = some (.os σ1.length (c + 1) sz 0 (c + 1), σ1 ++ [.arr (c + 1) sz rows]) := by
   have q1 : (0 : Int) ≤ ((c + 1 - i : Nat) : Int) ∧ ((c + 1 - i : Nat) : Int) ≤ most := by omega
   have q2 : i + (c + 1 - i) = c + 1 := by omega
   simp only [A.appendZ]
   rw [if_pos q1]
   simp only [A.appendL, Nat.zero_add, Nat.sub_zero, h1, Int.toNat_natCast, List.length_replicate, List.drop_zero, ← hrows]
   rw [if_pos (by simp; omega), q2]
  rw [e1, Option.bind_some]
  simp only
  have h2 : (σ1 ++ [Blk.arr (c + 1) sz rows])[σ1.length]? = some (.arr (c + 1) sz rows) := by simp
  rw [slo (room_arr h2 (by omega)) bnd_n (bnd_s (k := i) (by omega)), Option.bind_some]
  rw [copy_os (ys := [ye]) h2 (by omega) (by simp [A.elems]) (by simp) (by omega), Option.bind_some]
  have e2 : ([ye] : List (List AV)).take (c + 1 - i) = [ye] := List.take_of_length_le (by simp; omega)
  rw [e2]
  simp only [Nat.zero_add, List.length_singleton]
  rw [Option.bind_some]
  obtain ⟨rows2, hrows2⟩ : ∃ rows2, rows2 = rows.take i ++ [ye] ++ rows.drop (i + 1) := ⟨_, rfl⟩
  have hrl2 : rows2.length = c + 1 := by rw [hrows2]; simp; omega
  rw [← hrows2]
  have hset : (σ1 ++ [Blk.arr (c + 1) sz rows]).set σ1.length (.arr (c + 1) sz rows2) = σ1 ++ [.arr (c + 1) sz rows2] := by simp
  rw [hset]
  have h3 : (σ1 ++ [Blk.arr (c + 1) sz rows2])[σ1.length]? = some (.arr (c + 1) sz rows2) := by simp
  have h3' : (σ1 ++ [Blk.arr (c + 1) sz rows2])[id]? = some (.arrF g sz seg) := by rw [List.getElem?_append_left (by omega)]; exact h1
  rw [slo (room_arr h3 (by omega)) bnd_n (bnd_s (k := i + 1) (by omega)), Option.bind_some]
  rw [slo (room_arrF h3') bnd_n (bnd_s (k := i) (by omega)), Option.bind_some]
  rw [copy_os h3 (by omega) (elems_osF h3' (by omega)) (by simp; omega) (by omega), Option.bind_some]
  have e3 : ((seg.drop (0 + i)).take (c - i)).take (c + 1 - (i + 1)) = seg.drop i := by
   rw [Nat.zero_add, List.take_of_length_le (by simp; omega), List.take_of_length_le (by simp; omega)]
  rw [e3]
  have e4 : rows2.take (0 + (i + 1)) ++ seg.drop i ++ rows2.drop (0 + (i + 1) + (seg.drop i).length) = seg.take i ++ [ye] ++ seg.drop i := by
   have q1 : rows2.drop (0 + (i + 1) + (seg.drop i).length) = [] := List.drop_of_length_le (by simp; omega)
   have q2 : rows.take i = seg.take i := by rw [hrows, List.take_append_of_le_length (by simp; omega), List.take_take, Nat.min_self]
   have q3 : rows2.take (0 + (i + 1)) = seg.take i ++ [ye] := by
    rw [hrows2, q2, Nat.zero_add, List.take_append_of_le_length (by simp; omega), List.take_of_length_le (by simp; omega)]
   rw [q1, q3]; simp
  rw [e4]
  have hset2 : (σ1 ++ [Blk.arr (c + 1) sz rows2]).set σ1.length (.arr (c + 1) sz (seg.take i ++ [ye] ++ seg.drop i)) = σ1 ++ [.arr (c + 1) sz (seg.take i ++ [ye] ++ seg.drop i)] := by simp
  simp only
  rw [hset2]
  have h4 : (σ1 ++ [Blk.arr (c + 1) sz (seg.take i ++ [ye] ++ seg.drop i)])[σ1.length]? = some (.arr (c + 1) sz (seg.take i ++ [ye] ++ seg.drop i)) := by simp
  have hsl : (seg.take i ++ [ye] ++ seg.drop i).length = c + 1 := by simp; omega
  have e5 : ((seg.take i ++ [ye] ++ seg.drop i).drop 0).take (c + 1) = seg.take i ++ [ye] ++ seg.drop i := by rw [List.drop_zero, List.take_of_length_le (by omega)]
  simp only [A.renew, h4]
  rw [hgen, if_pos (by simp only [true_and]; omega), if_neg (by simp [A.hdOs, hl1]), e5]
  simp only [A.merge, hs, hgen]
  rw [if_pos]
  ·rw [hsl]
  refine ⟨by omega, by simp [hl1], rfl, by omega, fun j hj hne => ?_, by rw [List.getElem?_append_left (by omega)]; exact h1, fun z hz => ?_⟩
  ·rw [List.getElem?_append_left (by omega), hσ1, List.getElem?_set_ne (fun e => hne e.symm)]
  ·simp only [List.mem_append, List.mem_singleton] at hz
   rcases hz with (hz | hz) | hz
   ·exact .inl (List.mem_of_mem_take hz)
   ·right; simp [A.rowsOf, hz]
   ·exact .inl (List.mem_of_mem_drop hz)
 ·rw [if_neg ht]
  obtain ⟨es, hes⟩ : ∃ es, es = seg ++ List.replicate (0 + c - seg.length) (List.replicate sz AV.undef) := ⟨_, rfl⟩
  have hel : es.length = c := by rw [hes]; simp; omega
  have het : ∀ k, k ≤ n → es.take k = seg.take k := fun k hk => by rw [hes, List.take_append_of_le_length (by omega)]
  obtain ⟨σ1, hσ1⟩ : ∃ σ1, σ1 = σ.set id (.arr g sz es) := ⟨_, rfl⟩
  have h1 : σ1[id]? = some (.arr g sz es) := by rw [hσ1, List.getElem?_set_self hid]
  have hl1 : id < σ1.length := by rw [hσ1, List.length_set]; exact hid
  rw [← hes, ← hσ1]
  rw [show A.gtr (.int .i64 ((n + 1 : Nat) : Int)) (.int .i64 (c : Int)) = some (.bool false) by simp [A.gtr]; omega, Option.bind_some]
  rw [cnd_f, add_nn (by omega), Option.bind_some]
  rw [slo (room_arr h1 (by omega)) (bnd_s (k := n + 1) (by omega)) bnd_n, Option.bind_some, Option.bind_some]
  simp only [Nat.zero_add, Nat.sub_zero]
  rw [slo (room_arr h1 (by omega)) bnd_n (bnd_s (k := i + 1) (by omega)), Option.bind_some]
  have e1 : m_slices_overlaps [.sl sz [ye], .os id g sz (0 + (i + 1)) (n + 1 - (i + 1))] σ1 = some (.bool false, σ1) := by
   simp only [m_slices_overlaps, A.ar2, h1]
   rw [if_pos]
   refine ⟨by simp, trivial, fun e => ?_, by omega⟩
   rw [e] at hel; simp at hel; omega
  rw [e1, Option.bind_some, show A.not (.bool false) = some (.bool true) from rfl, Option.bind_some, cnd_t, Option.bind_some]
  simp only
  rw [slo (room_arr h1 (by omega)) bnd_n (bnd_s (k := i + 1) (by omega)), Option.bind_some]
  rw [slo (room_arr h1 (by omega)) bnd_n (bnd_s (k := i) (by omega)), Option.bind_some]
  rw [copy_os h1 (by omega) (elems_os h1 (by omega)) (by simp; omega) (by omega), Option.bind_some]
  have e2 : ((es.drop (0 + i)).take (n + 1 - i)).take (n + 1 - (i + 1)) = seg.drop i := by
   rw [List.take_take, Nat.zero_add, show min (n + 1 - (i + 1)) (n + 1 - i) = n - i by omega, List.take_drop, show i + (n - i) = n by omega, het n (Nat.le_refl _), List.take_of_length_le (by omega)]
  rw [e2]
  obtain ⟨es2, hes2⟩ : ∃ es2, es2 = es.take (0 + (i + 1)) ++ seg.drop i ++ es.drop (0 + (i + 1) + (seg.drop i).length) := ⟨_, rfl⟩
  have hel2 : es2.length = c := by rw [hes2]; simp; omega
  rw [← hes2]
  have h2 : (σ1.set id (.arr g sz es2))[id]? = some (.arr g sz es2) := List.getElem?_set_self hl1
  simp only
  rw [slo (room_arr h2 (by omega)) bnd_n (bnd_s (k := i) (by omega)), Option.bind_some]
  rw [copy_os (ys := [ye]) h2 (by omega) (by simp [A.elems]) (by simp) (by omega), Option.bind_some]
  have e3 : ([ye] : List (List AV)).take (n + 1 - i) = [ye] := List.take_of_length_le (by simp; omega)
  rw [e3]
  simp only [Nat.zero_add, List.length_singleton, List.set_set]
  obtain ⟨es3, hes3⟩ : ∃ es3, es3 = es2.take i ++ [ye] ++ es2.drop (i + 1) := ⟨_, rfl⟩
  have hel3 : es3.length = c := by rw [hes3]; simp; omega
  rw [← hes3]
  have h3 : (σ1.set id (.arr g sz es3))[id]? = some (.arr g sz es3) := List.getElem?_set_self hl1
  have e4 : (es3.drop 0).take (n + 1) = seg.take i ++ [ye] ++ seg.drop i := by
   have q1 : es2.take i = seg.take i := by rw [hes2, List.append_assoc, List.take_append_of_le_length (by simp; omega), List.take_take, show min i (0 + (i + 1)) = i by omega, het i (by omega)]
   have q2 : es2.drop (i + 1) = seg.drop i ++ es.drop (i + 1 + (seg.drop i).length) := by
    rw [hes2, Nat.zero_add, List.append_assoc, List.drop_append_of_le_length (by simp; omega), List.drop_of_length_le (by simp; omega), List.nil_append]
   rw [List.drop_zero, hes3, q1, q2, ← List.append_assoc, List.take_append_of_le_length (by simp; omega), List.take_of_length_le (by simp; omega)]
  simp only [A.renew, h3]
  rw [hgen, if_pos (by simp only [true_and]; omega), if_pos (.inl hid), e4, List.set_set, hσ1, List.set_set]
theorem ins_end {id g n : Nat} {seg : List (List AV)} (hs : σ[id]? = some (.arr g sz seg)) (hl : seg.length = n) (hm : n + 1 ≤ most) :
  insR sz most zs rot (.os id g sz 0 n) (.int .i64 (n : Int)) (.sl sz [ye]) σ = some (.os id (g + n + 2) sz 0 (n + 1), σ.set id (.arr (g + n + 2) sz (seg ++ [ye]))) := by
 have hid := (List.getElem?_eq_some_iff.1 hs).1
 have hgen : A.gen [.os id g sz 0 n, .int .i64 (n : Int), .sl sz [ye]] = g + n + 1 := gen_ins id g n _ ⟨_, rfl⟩
 unfold insR
 rw [slo (room_arr hs (by omega)) bnd_n (bnd_s (k := n) (by omega)), Option.bind_some]
 rw [show A.lenS (.sl sz [ye]) = some (.int .i64 ((1 : Nat) : Int)) from rfl, Option.bind_some]
 rw [show A.eql .i (.int .i64 ((1 : Nat) : Int)) (.int .i64 0) = some (.bool false) from rfl, Option.bind_some]
 rw [cnd_f]
 rw [show A.lenS (.os id g sz 0 n) = some (.int .i64 (n : Int)) from rfl, Option.bind_some, eq_nn, Option.bind_some, decide_eq_true rfl, cnd_t]
 have e1 : A.append sz most (.os id g sz 0 n) (.sl sz [ye]) σ = some (.os id (g + 1) sz 0 (n + 1), σ.set id (.arr (g + 1) sz (seg ++ [ye]))) := by
  have q : seg.take n = seg := List.take_of_length_le (by omega)
  simp [A.append, A.elems, A.appendL, hs, hl, hm, q]
 rw [e1, Option.bind_some]
 have h2 : (σ.set id (.arr (g + 1) sz (seg ++ [ye])))[id]? = some (.arr (g + 1) sz (seg ++ [ye])) := List.getElem?_set_self hid
 simp only [A.renew, h2]
 rw [hgen, if_pos (by simp; omega), if_pos (.inl hid), List.set_set, List.drop_zero, List.take_of_length_le (by simp; omega)]
theorem ins_nil (hv : v = .nsl ∨ v = .ez) (hm : 1 ≤ most) : insR sz most zs rot v (.int .i64 0) (.sl sz [ye]) σ = some (.os σ.length 2 sz 0 1, σ ++ [.arr 2 sz [ye]]) := by
 have hgen : ∀ w : AV, (w = .nsl ∨ w = .ez) → A.gen [w, .int .i64 0, .sl sz [ye]] = 1 := by
  rintro w (rfl | rfl) <;> simp [A.gen]
 have hbd : A.bound 0 0 (some (AV.int .i64 0)) = some 0 := bnd_s (y := 0) (d := 0) (k := 0) (Nat.le_refl _)
 have key : ∀ w : AV, (w = .nsl ∨ w = .ez) → A.renew [w, .int .i64 0, .sl sz [ye]] σ (.os σ.length 1 sz 0 1) (σ ++ [.arr 1 sz [ye]]) = some (.os σ.length 2 sz 0 1, σ ++ [.arr 2 sz [ye]]) := by
  intro w hw
  have h2 : (σ ++ [Blk.arr 1 sz [ye]])[σ.length]? = some (.arr 1 sz [ye]) := by simp
  simp only [A.renew, h2]
  rw [hgen w hw, if_pos (by simp), if_pos (.inr (by rcases hw with rfl | rfl <;> rfl))]
  simp
 unfold insR
 rw [show A.lenS (.sl sz [ye]) = some (.int .i64 ((1 : Nat) : Int)) from rfl]
 rcases hv with rfl | rfl
 ·rw [show A.sliceS sz .nsl (some (.int .i64 0)) none σ = some .nsl by simp [A.sliceS, bnd_n, hbd], Option.bind_some, Option.bind_some]
  rw [show A.eql .i (.int .i64 ((1 : Nat) : Int)) (.int .i64 0) = some (.bool false) from rfl, Option.bind_some, cnd_f]
  rw [show A.lenS .nsl = some (.int .i64 0) from rfl, Option.bind_some, show A.eql .i (.int .i64 0) (.int .i64 0) = some (.bool true) from rfl, Option.bind_some, cnd_t]
  rw [show A.append sz most .nsl (.sl sz [ye]) σ = some (.os σ.length 1 sz 0 1, σ ++ [.arr 1 sz [ye]]) by simp [A.append, A.elems, A.appendL, hm], Option.bind_some]
  exact key _ (.inl rfl)
 ·rw [show A.sliceS sz .ez (some (.int .i64 0)) none σ = some .ez by simp [A.sliceS, bnd_n, hbd], Option.bind_some, Option.bind_some]
  rw [show A.eql .i (.int .i64 ((1 : Nat) : Int)) (.int .i64 0) = some (.bool false) from rfl, Option.bind_some, cnd_f]
  rw [show A.lenS .ez = some (.int .i64 0) from rfl, Option.bind_some, show A.eql .i (.int .i64 0) (.int .i64 0) = some (.bool true) from rfl, Option.bind_some, cnd_t]
  rw [show A.append sz most .ez (.sl sz [ye]) σ = some (.os σ.length 1 sz 0 1, σ ++ [.arr 1 sz [ye]]) by simp [A.append, A.elems, A.appendL, hm], Option.bind_some]
  exact key _ (.inr rfl)
theorem sl_ins {B : Blk → Prop} (H : Hs B σ0 σ (Sl E sz v l * (E ye y * R))) (hi : i ≤ l.length) (hm : l.length + 1 ≤ most) (hb : l.length < 4611686018427387904) (hB : ∀ g g' seg k, (seg = [] ∨ B (.arr g sz seg)) → B (.arr g' sz (seg.take k ++ [ye] ++ seg.drop k))) :
  ∃ v' σ', insR sz most zs rot v (.int .i64 (i : Int)) (.sl sz [ye]) σ = some (v', σ') ∧ Hs B σ0 σ' (Sl E sz v' (l.take i ++ [y] ++ l.drop i) * R) := by
 rcases sl_cases H with ⟨rfl, hv, H⟩ | ⟨id, g, seg, rfl, hl, H⟩
 ·have hi0 : i = 0 := by simpa using hi
  subst hi0
  refine ⟨_, _, ins_nil hv (by simpa using hm), ?_⟩
  have H2 := hs_new (b := .arr 2 sz [ye]) H (by simpa using hB 0 2 [] 0 (.inl rfl))
  exact sl_os (id := σ.length) (g := 2) (seg := [ye]) (hs_eq (by simp only [List.take_nil, List.drop_nil, List.nil_append, List.append_nil, els_one]) H2) rfl
 ·obtain ⟨h1, h2⟩ := hs_get H
  have e : ∃ g', insR sz most zs rot (.os id g sz 0 l.length) (.int .i64 (i : Int)) (.sl sz [ye]) σ = some (.os id g' sz 0 (l.length + 1), σ.set id (.arr g' sz (seg.take i ++ [ye] ++ seg.drop i))) := by
   by_cases hil : i = l.length
   ·subst hil
    refine ⟨g + l.length + 2, ?_⟩
    rw [ins_end h2 hl hm, List.take_of_length_le (by omega), List.drop_of_length_le (by omega), List.append_nil]
   ·exact ⟨_, ins_mid h2 hl (by omega) hm hb⟩
  obtain ⟨g', e⟩ := e
  refine ⟨_, _, e, ?_⟩
  have H2 := hs_set (b' := .arr g' sz (seg.take i ++ [ye] ++ seg.drop i)) H (hB g g' seg i (.inr (hs_B H)))
  refine sl_os (id := id) (g := g') (seg := seg.take i ++ [ye] ++ seg.drop i) (hs_eq ?_ H2) (by simp; omega)
  have q : els E seg l = els E (seg.take i) (l.take i) * els E (seg.drop i) (l.drop i) := by
   rw [← els_app (by simp; omega), List.take_append_drop, List.take_append_drop]
  rw [els_app (es1 := seg.take i ++ [ye]) (l1 := l.take i ++ [y]) (by simp; omega), els_app (by simp; omega), els_one, q]
  ac_rfl
theorem gen_del (id g n : Nat) (i j : Int) : A.gen [.os id g sz 0 n, .int .i64 i, .int .i64 j] = g + n := by simp [A.gen]
theorem sl_del {B : Blk → Prop} {x : α} (H : Hs B σ0 σ (Sl E sz v l * R)) (hx : l[i]? = some x) (hm : l.length ≤ most) (hb : l.length < 4611686018427387904) (hB : ∀ g g' seg k, B (.arr g sz seg) → B (.arr g' sz (seg.eraseIdx k))) :
  ∃ v' σ' xe, (∃ p, A.iaddr sz v (.int .i64 (i : Int)) = some p ∧ A.deref p σ = some xe) ∧ delR sz most zs v (.int .i64 (i : Int)) (.int .i64 ((i + 1 : Nat) : Int)) σ = some (v', σ') ∧ Hs B σ0 σ' (Sl E sz v' (l.eraseIdx i) * (E xe x * R)) := by
 have hil := (List.getElem?_eq_some_iff.1 hx).1
 rcases sl_cases H with ⟨rfl, hv, H⟩ | ⟨id, g, seg, rfl, hl, H⟩
 ·simp at hx
 ·obtain ⟨h1, h2⟩ := hs_get H
  have hid := (List.getElem?_eq_some_iff.1 h2).1
  obtain ⟨n, hn⟩ : ∃ n, n = l.length := ⟨_, rfl⟩
  obtain ⟨xe, hxe⟩ : ∃ xe, seg[i]? = some xe := ⟨_, List.getElem?_eq_getElem (by omega)⟩
  have hgen : A.gen [.os id g sz 0 n, .int .i64 (i : Int), .int .i64 ((i + 1 : Nat) : Int)] = g + n := gen_del id g n _ _
  have e : delR sz most zs (.os id g sz 0 n) (.int .i64 (i : Int)) (.int .i64 ((i + 1 : Nat) : Int)) σ = some (.os id (g + n + 1) sz 0 (n - 1), σ.set id (.arr (g + n + 1) sz (seg.eraseIdx i))) := by
   unfold delR
   rw [show A.lenS (.os id g sz 0 n) = some (.int .i64 (n : Int)) from rfl, Option.bind_some]
   have s3 : A.slice3 (.os id g sz 0 n) (some (.int .i64 (i : Int))) (.int .i64 ((i + 1 : Nat) : Int)) (.int .i64 (n : Int)) = some .undef := by
    simp only [A.slice3, A.lenS, Option.bind_some, Int.toNat_natCast]
    rw [bnd_s (Nat.le_refl n), Option.bind_some, bnd_s (show i + 1 ≤ n by omega), Option.bind_some, bnd_s (show i ≤ i + 1 by omega), Option.map_some, if_neg (by omega)]
   rw [s3, Option.bind_some, eq_nn, Option.bind_some, decide_eq_false (by omega), cnd_f, Option.bind_some]
   rw [slo (room_arr h2 (by omega)) (bnd_s (k := i) (by omega)) bnd_n, Option.bind_some]
   rw [slo (room_arr h2 (by omega)) bnd_n (bnd_s (k := i + 1) (by omega)), Option.bind_some]
   obtain ⟨es, hes⟩ : ∃ es, es = seg.take i ++ seg.drop (i + 1) ++ seg.drop (i + (n - (i + 1))) := ⟨_, rfl⟩
   have hel : es.length = n := by rw [hes]; simp; omega
   have e1 : A.append sz most (.os id g sz (0 + 0) (i - 0)) (.os id g sz (0 + (i + 1)) (n - (i + 1))) σ = some (.os id g sz 0 (n - 1), σ.set id (.arr g sz es)) := by
    have q : ((seg.drop (0 + (i + 1))).take (n - (i + 1))) = seg.drop (i + 1) := by rw [Nat.zero_add, List.take_of_length_le (by simp; omega)]
    simp only [A.append, elems_os h2 (by omega : 0 + (i + 1) + (n - (i + 1)) ≤ seg.length), Option.bind_some, q, A.appendL, h2]
    rw [if_pos (by simp; omega)]
    by_cases hlast : seg.drop (i + 1) = []
    ·have hni : n = i + 1 := by
      have := congrArg List.length hlast
      simp at this; omega
     rw [if_pos hlast]
     have qe : es = seg := by rw [hes, hlast, hni]; simp
     rw [qe, show n - 1 = i - 0 by omega]
     congr 2
     apply List.ext_getElem?
     intro k
     rw [List.getElem?_set]
     split
     ·rename_i ek; subst ek; rw [h2]
     ·rfl
    ·rw [if_neg hlast, if_pos (by simp; omega)]
     congr 2
     ·congr 1; simp; omega
     ·rw [hes]
      congr 2
      simp only [Nat.zero_add, Nat.sub_zero, List.length_drop]
      rw [show seg.length - (i + 1) = n - (i + 1) by omega]
   rw [e1, Option.bind_some]
   simp only
   have h3 : (σ.set id (.arr g sz es))[id]? = some (.arr g sz es) := List.getElem?_set_self hid
   rw [show A.lenS (.os id g sz 0 (n - 1)) = some (.int .i64 ((n - 1 : Nat) : Int)) from rfl, Option.bind_some]
   rw [slo (room_arr h3 (by omega)) (bnd_s (k := n) (by omega)) (bnd_s (k := n - 1) (by omega)), Option.bind_some]
   have e2 : A.clearS sz zs (.os id g sz (0 + (n - 1)) (n - (n - 1))) (σ.set id (.arr g sz es)) = some (σ.set id (.arr g sz (es.take (n - 1) ++ List.replicate (n - (n - 1)) zs ++ es.drop n))) := by
    simp only [A.clearS, h3]
    rw [if_pos (by simp; omega), if_neg (by omega), List.set_set, Nat.zero_add, show n - 1 + (n - (n - 1)) = n by omega]
   rw [e2, Option.bind_some]
   have h4 : (σ.set id (.arr g sz (es.take (n - 1) ++ List.replicate (n - (n - 1)) zs ++ es.drop n)))[id]? = some (.arr g sz (es.take (n - 1) ++ List.replicate (n - (n - 1)) zs ++ es.drop n)) := List.getElem?_set_self hid
   simp only [A.renew, h4]
   rw [hgen, if_pos (by simp; omega), if_pos (.inl hid), List.set_set, List.drop_zero, List.append_assoc, List.take_append_of_le_length (by simp; omega), List.take_take, Nat.min_self]
   congr 4
   rw [hes, List.take_append_of_le_length (by simp; omega), List.take_of_length_le (by simp; omega), List.eraseIdx_eq_take_drop_succ]
  rw [hn] at e
  have hi' : ((i : Int) < (l.length : Int)) := by omega
  refine ⟨_, _, xe, ⟨.oe id g i 0, by simp [A.iaddr, A.idx, hi'], by simp [A.deref, h2, hxe]⟩, e, ?_⟩
  have H2 := hs_set (b' := .arr (g + l.length + 1) sz (seg.eraseIdx i)) H (hB g _ seg i (hs_B H))
  refine sl_os (id := id) (g := g + l.length + 1) (seg := seg.eraseIdx i) (hs_eq ?_ H2) (by rw [List.length_eraseIdx, if_pos hil])
  rw [els_at hl hxe hx]
  ac_rfl
end
end Go.Proofs.YtphgchakmkankaaGreat

namespace Go.Proofs.YtphgchakmkankaaGreat
set_option linter.unusedSectionVars false
set_option linter.unusedVariables false
set_option linter.unusedSimpArgs false
def withinB (n lo hi : Int) : Bool := decide (lo ≤ n ∧ n ≤ hi)
def okc (c : UInt8) : Bool := decide (97 ≤ c.toNat ∧ c.toNat ≤ 122) || decide (48 ≤ c.toNat ∧ c.toNat ≤ 57) || decide (c.toNat = 45)
def rowB (s : ByteArray) : Bool := s.data.toList.all okc && decide (0 < s.size)
def nameB (s : ByteArray) : Bool := rowB s && decide (s.size ≤ 20) && decide (97 ≤ (s.data.toList.getD 0 0).toNat) && decide ((s.data.toList.getD 0 0).toNat ≤ 122)
def pc (c : UInt8) : Bool := decide (32 ≤ c.toNat ∧ c.toNat ≤ 126)
def edgeB (s : ByteArray) : Bool := decide (0 < s.size) && decide (s.size ≤ 60) && (decide ((s.data.toList.getD 0 0).toNat ≠ 32) && decide ((s.data.toList.getD (s.size - 1) 0).toNat ≠ 32))
def titleB (s : ByteArray) : Bool := s.data.toList.all pc && edgeB s
theorem getD_byte (s : ByteArray) (i : Nat) (h : i < s.size) : s.data.toList.getD i 0 = s[i] := by
 rw [List.getD_eq_getElem?_getD, List.getElem?_eq_getElem (by simpa using h)]; rfl
def chkR (pre : List RangeD) : List RangeD → Int
 | [] => 0
 | r :: rest =>
  if withinB r.low 0 65535 = false ∨ withinB r.high 0 65535 = false ∨ r.high < r.low then 1
  else if 0 < pre.length ∧ r.low ≤ (pre.getLast?.map (·.high)).getD 0 then 7
  else if nameB r.name = false then 5
  else if memB r.name (pre.map (·.name)) = true then 6
  else chkR (pre ++ [r]) rest
def rangesF (l : List RangeD) : Int := if 30 < l.length then 2 else chkR [] l
def slotsOf (l : List ParamD) : List Int := l.flatMap fun x => if 0 < x.fine then [x.att, x.fine] else [x.att]
theorem slotsOf_snoc (l : List ParamD) (x : ParamD) : slotsOf (l ++ [x]) = slotsOf l ++ (if 0 < x.fine then [x.att, x.fine] else [x.att]) := by simp [slotsOf]
def chkP (size : Int) (pre : List ParamD) : List ParamD → Int
 | [] => 0
 | x :: rest =>
  if nameB x.name = false then 5
  else if memB x.name (pre.map (·.name)) = true then 6
  else if withinB x.group 1 4 = false then 4
  else if withinB x.att 1 size = false ∨ withinB x.fine 0 size = false ∨ withinB x.default 0 65535 = false then 1
  else if x.att = x.fine ∨ memB x.att (slotsOf pre) = true ∨ (0 < x.fine ∧ memB x.fine (slotsOf pre) = true) then 12
  else if rangesF x.ranges = 0 then chkP size (pre ++ [x]) rest else rangesF x.ranges
def profileF (p : ProfileD) : Int :=
 if nameB p.name = false then 5 else if withinB p.size 1 512 = false then 1 else if p.params.length = 0 then 8 else if 40 < p.params.length then 2 else chkP p.size [] p.params
def slotL (xa xf : Int) : List Int := if xf = 0 then [xa] else [xa, xf]
def chkX (size : Int) (pre : List ParamD) (x : ParamD) : Int :=
 if nameB x.name = false then 5
 else if memB x.name (pre.map (·.name)) = true then 6
 else if withinB x.group 1 4 = false then 4
 else if withinB x.att 1 size = false ∨ withinB x.fine 0 size = false ∨ withinB x.default 0 65535 = false then 1
 else if x.att = x.fine ∨ memB x.att (slotsOf pre) = true ∨ (0 < x.fine ∧ memB x.fine (slotsOf pre) = true) then 12
 else rangesF x.ranges
theorem chkP_cons (size : Int) (pre : List ParamD) (x : ParamD) (rest : List ParamD) : chkP size pre (x :: rest) = if chkX size pre x = 0 then chkP size (pre ++ [x]) rest else chkX size pre x := by
 rw [chkP, chkX]
 split <;> first | (simp; done) | skip
 split <;> first | (simp; done) | skip
 split <;> first | (simp; done) | skip
 split <;> first | (simp; done) | skip
 split <;> first | (simp; done) | skip
def clash2 (xa xf ya yf : Int) : Bool := (slotL xa xf).any fun s => memB s (slotL ya yf)
def clashL (xa xf : Int) (l : List ParamD) : Bool := l.any fun y => clash2 xa xf y.att y.fine
theorem mem_slotsOf {s : Int} {l : List ParamD} (h : ∀ y ∈ l, 0 ≤ y.fine) : s ∈ slotsOf l ↔ ∃ y ∈ l, s ∈ slotL y.att y.fine := by
 simp only [slotsOf, List.mem_flatMap]
 constructor
 ·rintro ⟨y, hy, hs⟩
  refine ⟨y, hy, ?_⟩
  have := h y hy
  unfold slotL
  split at hs
  ·rw [if_neg (by omega)]; exact hs
  ·split
   ·exact hs
   ·simp at hs; simp [hs]
 ·rintro ⟨y, hy, hs⟩
  refine ⟨y, hy, ?_⟩
  have := h y hy
  unfold slotL at hs
  split at hs
  ·rw [if_neg (by omega)]; exact hs
  ·rw [if_pos (by omega)]; exact hs
theorem clash_iff {xa xf : Int} {l : List ParamD} (h : ∀ y ∈ l, 0 ≤ y.fine) (hx : 0 ≤ xf) : clashL xa xf l = true ↔ (memB xa (slotsOf l) = true ∨ (0 < xf ∧ memB xf (slotsOf l) = true)) := by
 simp only [memB_iff, mem_slotsOf h, clashL, clash2, List.any_eq_true]
 constructor
 ·rintro ⟨y, hy, s, hs, hm⟩
  unfold slotL at hs
  split at hs
  ·simp at hs; subst hs; exact .inl ⟨y, hy, hm⟩
  ·simp at hs
   rcases hs with rfl | rfl
   ·exact .inl ⟨y, hy, hm⟩
   ·exact .inr ⟨by omega, y, hy, hm⟩
 ·rintro (⟨y, hy, hm⟩ | ⟨h0, y, hy, hm⟩)
  ·exact ⟨y, hy, xa, by unfold slotL; split <;> simp, hm⟩
  ·exact ⟨y, hy, xf, by unfold slotL; rw [if_neg (by omega)]; simp, hm⟩
theorem chkX_fine {size : Int} {pre : List ParamD} {x : ParamD} (h : chkX size pre x = 0) : 0 ≤ x.fine := by
 unfold chkX at h
 split at h
 ·cases h
 split at h
 ·cases h
 split at h
 ·cases h
 split at h
 ·cases h
 rename_i h4
 cases hf : withinB x.fine 0 size
 ·exact absurd (.inr (.inl hf)) h4
 ·simp [withinB] at hf; exact hf.1
def chkL (pre : List ProfileD) : List ProfileD → Int
 | [] => 0
 | p :: rest => if profileF p = 0 then (if memB p.name (pre.map (·.name)) = true then 6 else chkL (pre ++ [p]) rest) else profileF p
def libF (l : List ProfileD) : Int := if 60 < l.length then 2 else chkL [] l
def profOf (nm : ByteArray) : List ProfileD → ProfileD × Bool
 | [] => (⟨⟨#[]⟩, 0, []⟩, false)
 | p :: rest => if p.name = nm then (p, true) else profOf nm rest
def freeF (f : Nat → Bool) : Nat → Nat → Bool
 | 0, _ => true
 | n + 1, a => if 512 < a ∨ f a = true then false else freeF f n (a + 1)
def markF (f : Int → Nat → Bool) (u : Int) (a s : Nat) : Int → Nat → Bool := fun v k => if v = u ∧ a ≤ k ∧ k < a + s then true else f v k
def ordB (pre : List Int) (n : Int) : Bool := match pre.getLast? with | some m => decide (n ≤ m) | none => false
def lastU (lib : List ProfileD) (u : UnitD) : Int := u.address + (profOf u.profile lib).1.size - 1
def clashU (lib : List ProfileD) (u : UnitD) (pre : List UnitD) : Bool := pre.any fun x => decide (x.univ = u.univ ∧ x.address ≤ lastU lib u ∧ u.address ≤ lastU lib x)
def chkU (lib : List ProfileD) (pre : List UnitD) : List UnitD → Int
 | [] => 0
 | u :: rest =>
  if withinB u.number 1 9999 = false then 1
  else if ordB (pre.map (·.number)) u.number = true then 7
  else if (profOf u.profile lib).2 = false then 5
  else if withinB u.univ 1 64 = false ∨ withinB u.address 1 512 = false ∨ 512 < lastU lib u then 1
  else if clashU lib u pre = true then 12
  else chkU lib (pre ++ [u]) rest
def rigF (r : RigD) : Int := if libF r.library = 0 then (if 400 < r.units.length then 2 else chkU r.library [] r.units) else libF r.library
def UnitsOk (lib : List ProfileD) (pre : List UnitD) : Prop := ∀ x ∈ pre, 1 ≤ x.address ∧ x.address ≤ lastU lib x ∧ lastU lib x ≤ 512
def MarksP (lib : List ProfileD) (pre : List UnitD) (f : Int → Nat → Bool) : Prop := ∀ v k, f v k = true ↔ ∃ x ∈ pre, x.univ = v ∧ x.address ≤ (k : Int) ∧ (k : Int) ≤ lastU lib x
theorem MarksP.nil (lib : List ProfileD) : MarksP lib [] (fun _ _ => false) := fun v k => by simp
theorem MarksP.snoc {lib : List ProfileD} {pre : List UnitD} {f : Int → Nat → Bool} (h : MarksP lib pre f) (u : UnitD) (a s : Nat) (ha : u.address = a) (hs : lastU lib u = (a : Int) + s - 1) : MarksP lib (pre ++ [u]) (markF f u.univ a s) := by
 intro v k
 unfold markF
 by_cases e : v = u.univ ∧ a ≤ k ∧ k < a + s
 ·rw [if_pos e]
  refine ⟨fun _ => ⟨u, by simp, e.1.symm, by omega, by omega⟩, fun _ => rfl⟩
 ·rw [if_neg e, h v k]
  constructor
  ·rintro ⟨x, hx, h1⟩
   exact ⟨x, by simp [hx], h1⟩
  ·rintro ⟨x, hx, h1, h2, h3⟩
   simp only [List.mem_append, List.mem_singleton] at hx
   rcases hx with hx | rfl
   ·exact ⟨x, hx, h1, h2, h3⟩
   ·exact absurd ⟨h1.symm, by omega, by omega⟩ e
theorem freeF_iff (f : Nat → Bool) : ∀ (s a : Nat), freeF f s a = true ↔ ∀ k, a ≤ k → k < a + s → k ≤ 512 ∧ f k = false
 | 0, a => by simp [freeF]; intro k h1 h2; omega
 | s + 1, a => by
  rw [freeF]
  by_cases e : 512 < a ∨ f a = true
  ·rw [if_pos e]
   simp only [Bool.false_eq_true, false_iff]
   intro h
   have := h a (Nat.le_refl _) (by omega)
   rcases e with e | e
   ·omega
   ·rw [e] at this; simp at this
  ·rw [if_neg e, freeF_iff f s (a + 1)]
   constructor
   ·intro h k h1 h2
    by_cases hk : k = a
    ·subst hk
     refine ⟨by omega, ?_⟩
     cases hf : f k
     ·rfl
     ·exact absurd (.inr hf) e
    ·exact h k (by omega) (by omega)
   ·intro h k h1 h2
    exact h k (by omega) (by omega)
theorem free_clash {lib : List ProfileD} {pre : List UnitD} {f : Int → Nat → Bool} (h : MarksP lib pre f) (hok : UnitsOk lib pre) (u : UnitD) (a s : Nat) (ha : u.address = a) (h1 : 1 ≤ s) (hs : lastU lib u = (a : Int) + s - 1) (h2 : lastU lib u ≤ 512) : freeF (f u.univ) s a = !clashU lib u pre := by
 rw [Bool.eq_iff_iff, freeF_iff]
 simp only [Bool.not_eq_true', clashU, List.any_eq_false, decide_eq_true_eq, not_and]
 constructor
 ·intro hf x hx e1 e2 e3
  have hx' := hok x hx
  obtain ⟨k, hk⟩ : ∃ k : Nat, (k : Int) = max x.address a := ⟨(max x.address (a : Int)).toNat, by omega⟩
  have hf' := (hf k (by omega) (by omega)).2
  have : f u.univ k = true := (h u.univ k).2 ⟨x, hx, e1, by omega, by omega⟩
  rw [this] at hf'; simp at hf'
 ·intro hf k h3 h4
  refine ⟨by omega, ?_⟩
  cases hfk : f u.univ k
  ·rfl
  ·obtain ⟨x, hx, e1, e2, e3⟩ := (h u.univ k).1 hfk
   exact absurd (show u.address ≤ lastU lib x by omega) (hf x hx e1 (by omega))
theorem profileF_size {p : ProfileD} (h : profileF p = 0) : 1 ≤ p.size ∧ p.size ≤ 512 := by
 unfold profileF at h
 by_cases h1 : nameB p.name = false
 ·rw [if_pos h1] at h; simp at h
 ·rw [if_neg h1] at h
  by_cases h2 : withinB p.size 1 512 = false
  ·rw [if_pos h2] at h; simp at h
  ·simpa [withinB] using h2
theorem chkL_sizes : ∀ (l pre : List ProfileD), chkL pre l = 0 → ∀ p ∈ l, 1 ≤ p.size ∧ p.size ≤ 512
 | [], pre, h, p, hp => by simp at hp
 | q :: rest, pre, h, p, hp => by
  rw [chkL] at h
  by_cases e : profileF q = 0
  ·rw [if_pos e] at h
   by_cases e2 : memB q.name (pre.map (·.name)) = true
   ·rw [if_pos e2] at h; simp at h
   ·rw [if_neg e2] at h
    simp only [List.mem_cons] at hp
    rcases hp with rfl | hp
    ·exact profileF_size e
    ·exact chkL_sizes rest _ h p hp
  ·rw [if_neg e] at h; exact absurd h e
theorem libF_sizes {l : List ProfileD} (h : libF l = 0) : ∀ p ∈ l, 1 ≤ p.size ∧ p.size ≤ 512 := by
 unfold libF at h
 by_cases e : 60 < l.length
 ·rw [if_pos e] at h; simp at h
 ·rw [if_neg e] at h; exact chkL_sizes l [] h
theorem profOf_mem (nm : ByteArray) : ∀ (l : List ProfileD), (profOf nm l).2 = true → (profOf nm l).1 ∈ l
 | [], h => by simp [profOf] at h
 | p :: r, h => by
  rw [profOf] at h ⊢
  by_cases e : p.name = nm
  ·rw [if_pos e]; simp
  ·rw [if_neg e] at h ⊢
   exact List.mem_cons_of_mem _ (profOf_mem nm r h)
theorem UnitsOk.snoc {lib : List ProfileD} {pre : List UnitD} (h : UnitsOk lib pre) {u : UnitD} (h1 : 1 ≤ u.address ∧ u.address ≤ lastU lib u ∧ lastU lib u ≤ 512) : UnitsOk lib (pre ++ [u]) := fun x hx => by
 simp only [List.mem_append, List.mem_singleton] at hx
 rcases hx with hx | rfl
 ·exact h x hx
 ·exact h1
end Go.Proofs.YtphgchakmkankaaGreat

namespace Go.Proofs.YtphgchakmkankaaGreat
set_option linter.unusedSectionVars false
set_option linter.unusedVariables false
set_option linter.unusedSimpArgs false
theorem Within_eq (n lo hi : Int) (σ : Heap) : m_word_Within [.int .i64 n, .int .i64 lo, .int .i64 hi] σ = some (.bool (withinB n lo hi), σ) := by
 refine wrap_eq rfl ?_ rfl
 show r_word_Within _ _ _ σ = _
 unfold r_word_Within withinB
 by_cases h : lo ≤ n <;> simp only [MSb, reduceCtorEq, h, true_and, false_and]
theorem Within1_eq (n lo hi : Int) (σ : Heap) : m_R1_Within [.int .i64 n, .int .i64 lo, .int .i64 hi] σ = some (.bool (withinB n lo hi), σ) := by
 refine wrap_eq rfl ?_ rfl
 show r_R1_Within _ _ _ σ = _
 unfold r_R1_Within withinB
 by_cases h : lo ≤ n <;> simp only [MSb, reduceCtorEq, h, true_and, false_and]
theorem When_eq (b : Bool) (n : Int) (σ : Heap) : m_word_When [.bool b, .int .i64 n] σ = some (.int .i64 (if b = true then n else 0), σ) := by
 refine wrap_eq rfl ?_ rfl
 show r_word_When _ _ σ = _
 unfold r_word_When
 cases b <;> simp [MSb, reduceCtorEq]
theorem sidx_eq (s : ByteArray) {i : Nat} (h : i < s.size) : A.sidx (.str s) (.int .i64 (i : Int)) = some (.int .u8 (s.data.toList.getD i 0).toNat) := by
 have h1 : s[i]? = some s[i] := by simp [h]
 simp [A.sidx, A.idx, h, getD_byte s i h]
 rfl
theorem isEmpty_ne (s : ByteArray) : (decide (¬ s = ⟨#[]⟩)) = decide (0 < s.size) := by
 rw [decide_eq_decide]
 constructor
 ·intro h
  rcases Nat.eq_zero_or_pos s.size with e | e
  ·exact absurd (ByteArray.ext (Array.eq_empty_of_size_eq_zero e)) h
  ·exact e
 ·rintro h rfl; exact absurd h (by decide)
theorem Row_eq (s : ByteArray) (hs : okS s) (σ : Heap) : m_word_Row [.str s] σ = some (.bool (rowB s), σ) := by
 refine wrap_eq rfl ?_ rfl
 show r_word_Row _ σ = _
 unfold r_word_Row
 simp only [MSb, reduceCtorEq]
 refine (all_loop (p := okc) s (some (.bool false, σ)) ?_ ?_ ?_).trans ?_
 ·intro i c hi hc
  have h1 : inI ((i : Int) + 1) := by unfold okS mxl at hs; unfold inI; omega
  have h2 : (i : Int) < s.size := by omega
  simp only [MSb, reduceCtorEq, h2, hc, wrap64 h1, okc]
  clear hc h1
  repeat' ((first | rw [gDp] | rw [gDb] | rw [cDp] | rw [cDnp] | rw [cDn] | rw [cDb]); split <;> try simp only [MSb, reduceCtorEq, *])
  all_goals first | rfl | (refine (if_pos ?_).symm; simp; omega) | (refine (if_neg ?_).symm; simp; omega) | (refine congrArg some (congrArg (fun b => (AV.bool b, σ)) ?_); rw [Bool.eq_iff_iff]; simp; omega)
 ·simp only [MSb, reduceCtorEq, Int.lt_irrefl]
 ·intro i; simp only [MSb, reduceCtorEq]
 ·simp only [MSb, reduceCtorEq, isEmpty_ne, rowB]
  cases s.data.toList.all okc <;> simp
theorem IsWord1_eq (s : ByteArray) (hs : okS s) (σ : Heap) : m_R1_IsWord [.str s] σ = some (.bool (rowB s), σ) := by
 refine wrap_eq rfl ?_ rfl
 show r_R1_IsWord _ σ = _
 unfold r_R1_IsWord
 simp only [MSb, reduceCtorEq]
 refine (all_loop (p := okc) s (some (.bool false, σ)) ?_ ?_ ?_).trans ?_
 ·intro i c hi hc
  have h1 : inI ((i : Int) + 1) := by unfold okS mxl at hs; unfold inI; omega
  have h2 : (i : Int) < s.size := by omega
  simp only [MSb, reduceCtorEq, h2, hc, wrap64 h1, okc]
  clear hc h1
  repeat' ((first | rw [gDp] | rw [gDb] | rw [cDp] | rw [cDnp] | rw [cDn] | rw [cDb]); split <;> try simp only [MSb, reduceCtorEq, *])
  all_goals first | rfl | (refine (if_pos ?_).symm; simp; omega) | (refine (if_neg ?_).symm; simp; omega) | (refine congrArg some (congrArg (fun b => (AV.bool b, σ)) ?_); rw [Bool.eq_iff_iff]; simp; omega)
 ·simp only [MSb, reduceCtorEq, Int.lt_irrefl]
 ·intro i; simp only [MSb, reduceCtorEq]
 ·simp only [MSb, reduceCtorEq, isEmpty_ne, rowB]
  cases s.data.toList.all okc <;> simp
theorem rowB_pos {s : ByteArray} (h : rowB s = true) : 0 < s.size := by
 simp only [rowB, Bool.and_eq_true, decide_eq_true_eq] at h; exact h.2
theorem Name_eq (s : ByteArray) (hs : okS s) (σ : Heap) : m_word_Name [.str s] σ = some (.bool (nameB s), σ) := by
 refine wrap_eq rfl ?_ rfl
 show r_word_Name _ σ = _
 unfold r_word_Name
 simp only [MSb, reduceCtorEq, Row_eq s hs]
 cases h : rowB s
 ·simp [MSb, reduceCtorEq, nameB, h]
 ·have h0 := rowB_pos h
  have := sidx_eq s h0
  simp only [Int.ofNat_zero] at this
  simp only [MSb, reduceCtorEq, this]
  simp only [nameB, h, Bool.true_and]
  generalize s.data.toList.getD 0 0 = c0 at *
  repeat' ((first | rw [gDp] | rw [gDb] | rw [cDp] | rw [cDnp] | rw [cDn] | rw [cDb]); split <;> try simp only [MSb, reduceCtorEq, *])
  all_goals first | rfl | (refine (if_pos ?_).symm; simp; omega) | (refine (if_neg ?_).symm; simp; omega) | (refine congrArg some (congrArg (fun b => (AV.bool b, σ)) ?_); rw [Bool.eq_iff_iff]; simp; omega)
theorem IsName1_eq (s : ByteArray) (hs : okS s) (σ : Heap) : m_R1_IsName [.str s] σ = some (.bool (nameB s), σ) := by
 refine wrap_eq rfl ?_ rfl
 show r_R1_IsName _ σ = _
 unfold r_R1_IsName
 simp only [MSb, reduceCtorEq, IsWord1_eq s hs]
 cases h : rowB s
 ·simp [MSb, reduceCtorEq, nameB, h]
 ·have h0 := rowB_pos h
  have := sidx_eq s h0
  simp only [Int.ofNat_zero] at this
  simp only [MSb, reduceCtorEq, this]
  simp only [nameB, h, Bool.true_and]
  generalize s.data.toList.getD 0 0 = c0 at *
  repeat' ((first | rw [gDp] | rw [gDb] | rw [cDp] | rw [cDnp] | rw [cDn] | rw [cDb]); split <;> try simp only [MSb, reduceCtorEq, *])
  all_goals first | rfl | (refine (if_pos ?_).symm; simp; omega) | (refine (if_neg ?_).symm; simp; omega) | (refine congrArg some (congrArg (fun b => (AV.bool b, σ)) ?_); rw [Bool.eq_iff_iff]; simp; omega)
theorem Title_eq (s : ByteArray) (hs : okS s) (σ : Heap) : m_word_Title [.str s] σ = some (.bool (titleB s), σ) := by
 refine wrap_eq rfl ?_ rfl
 show r_word_Title _ σ = _
 unfold r_word_Title
 simp only [MSb, reduceCtorEq]
 refine (all_loop (p := pc) s (some (.bool false, σ)) ?_ ?_ ?_).trans ?_
 ·intro i c hi hc
  have h1 : inI ((i : Int) + 1) := by unfold okS mxl at hs; unfold inI; omega
  have h2 : (i : Int) < s.size := by omega
  simp only [MSb, reduceCtorEq, h2, hc, wrap64 h1, pc]
  clear h1
  repeat' ((first | rw [gDp] | rw [gDb] | rw [cDp] | rw [cDnp] | rw [cDn] | rw [cDb]); split <;> try simp only [MSb, reduceCtorEq, *])
  all_goals first | rfl | (refine (if_pos ?_).symm; simp; omega) | (refine (if_neg ?_).symm; simp; omega) | (refine congrArg some (congrArg (fun b => (AV.bool b, σ)) ?_); rw [Bool.eq_iff_iff]; simp; omega)
 ·simp only [MSb, reduceCtorEq, Int.lt_irrefl]
 ·intro i; simp only [MSb, reduceCtorEq]
 ·simp only [MSb, reduceCtorEq, isEmpty_ne, titleB]
  cases s.data.toList.all pc
  ·simp
  ·simp only [if_true, Bool.true_and]
   by_cases h0 : 0 < s.size
   ·by_cases h60 : s.size ≤ 60
    ·have e0 := sidx_eq s h0
     have e1 := sidx_eq s (i := s.size - 1) (by omega)
     simp only [Int.ofNat_zero] at e0
     rw [show ((s.size - 1 : Nat) : Int) = (s.size : Int) - 1 by omega] at e1
     have h1 : inI ((s.size : Int) - 1) := by unfold okS mxl at hs; unfold inI; omega
     have h60' : (s.size : Int) ≤ 60 := by omega
     have hw := wrap64 h1
     simp only [edgeB, h0, h60]
     generalize s.data.toList.getD 0 0 = c0 at *
     generalize s.data.toList.getD (s.size - 1) 0 = c1 at *
     simp only [MSb, reduceCtorEq, h0, h60', e0, e1, hw]
     repeat' ((first | rw [gDp] | rw [gDb] | rw [cDp] | rw [cDnp] | rw [cDn] | rw [cDb]); split <;> try simp only [MSb, reduceCtorEq, *])
     all_goals first | rfl | (refine (if_pos ?_).symm; simp; omega) | (refine (if_neg ?_).symm; simp; omega) | (refine congrArg some (congrArg (fun b => (AV.bool b, σ)) ?_); rw [Bool.eq_iff_iff]; simp; omega)
    ·have h60' : ¬ (s.size : Int) ≤ 60 := by omega
     simp [MSb, reduceCtorEq, h0, h60', edgeB, h60]
   ·simp [MSb, reduceCtorEq, h0, edgeB]
theorem IsTitle1_eq (s : ByteArray) (hs : okS s) (σ : Heap) : m_R1_IsTitle [.str s] σ = some (.bool (titleB s), σ) := by
 refine wrap_eq rfl ?_ rfl
 show r_R1_IsTitle _ σ = _
 have e : (s = ⟨#[]⟩) ↔ ¬ 0 < s.size := by
  have := isEmpty_ne s
  rw [decide_eq_decide] at this
  rw [← this]; simp
 have tail : titleB s = (edgeB s && s.data.toList.all pc) := by unfold titleB; exact Bool.and_comm _ _
 unfold r_R1_IsTitle
 simp only [MSb, reduceCtorEq, e]
 by_cases h0 : 0 < s.size
 ·by_cases h60 : s.size ≤ 60
  ·have e0 := sidx_eq s h0
   have e1 := sidx_eq s (i := s.size - 1) (by omega)
   simp only [Int.ofNat_zero] at e0
   rw [show ((s.size - 1 : Nat) : Int) = (s.size : Int) - 1 by omega] at e1
   have h1 : inI ((s.size : Int) - 1) := by unfold okS mxl at hs; unfold inI; omega
   have h60' : ¬ (60 : Int) < (s.size : Int) := by omega
   have hw := wrap64 h1
   have hedge : edgeB s = (decide (¬ (s.data.toList.getD 0 0).toNat = 32) && decide (¬ (s.data.toList.getD (s.size - 1) 0).toNat = 32)) := by simp [edgeB, h0, h60]
   rw [tail, hedge]
   clear tail hedge
   generalize s.data.toList.getD 0 0 = c0 at *
   generalize s.data.toList.getD (s.size - 1) 0 = c1 at *
   by_cases k0 : c0.toNat = 32
   ·have k0' : (c0.toNat : Int) = 32 := by omega
    simp [MSb, reduceCtorEq, h0, h60', e0, k0', k0]
   ·have k0' : ¬ (c0.toNat : Int) = 32 := by omega
    by_cases k1 : c1.toNat = 32
    ·have k1' : (c1.toNat : Int) = 32 := by omega
     simp [MSb, reduceCtorEq, h0, h60', e0, k0', hw, e1, k1', k1]
    ·have k1' : ¬ (c1.toNat : Int) = 32 := by omega
     simp only [MSb, reduceCtorEq, h0, h60', e0, k0', hw, e1, k1', k0, k1]
     refine (all_loop (p := pc) s (some (.bool false, σ)) ?_ ?_ ?_).trans ?_
     ·intro i c hi hc
      have h1 : inI ((i : Int) + 1) := by unfold okS mxl at hs; unfold inI; omega
      have h2 : (i : Int) < s.size := by omega
      simp only [MSb, reduceCtorEq, h2, hc, wrap64 h1, pc]
      clear h1
      repeat' ((first | rw [gDp] | rw [gDb] | rw [cDp] | rw [cDnp] | rw [cDn] | rw [cDb]); split <;> try simp only [MSb, reduceCtorEq, *])
      all_goals first | rfl | (refine (if_pos ?_).symm; simp; omega) | (refine (if_neg ?_).symm; simp; omega) | (refine congrArg some (congrArg (fun b => (AV.bool b, σ)) ?_); rw [Bool.eq_iff_iff]; simp; omega)
     ·simp only [MSb, reduceCtorEq, Int.lt_irrefl]
     ·intro i; simp only [MSb, reduceCtorEq]
     ·simp only [MSb, reduceCtorEq]
      cases s.data.toList.all pc <;> simp
  ·have h60' : (60 : Int) < (s.size : Int) := by omega
   simp [MSb, reduceCtorEq, h0, h60', tail, edgeB, h60]
 ·simp [MSb, reduceCtorEq, h0, tail, edgeB]
end Go.Proofs.YtphgchakmkankaaGreat

namespace Go.Proofs.YtphgchakmkankaaGreat
set_option linter.unusedSectionVars false
set_option linter.unusedVariables false
set_option linter.unusedSimpArgs false
theorem IsTime1_eq (n : Int) (σ : Heap) : m_R1_IsTime [.int .i64 n] σ = some (.bool (withinB n 0 36000000), σ) := by
 refine wrap_eq rfl ?_ rfl
 show r_R1_IsTime (.int .i64 n) σ = _
 unfold r_R1_IsTime
 simp only [MSb, reduceCtorEq, Within1_eq]
theorem loop_anyN {γ : Type} {f : List AV → Heap → Option (AX × List AV × Heap)} (a n : Nat) (p : Nat → Bool) (vs : Nat → List AV) (σ : Heap) (fin : AX × List AV × Heap) (ret : Nat → AX × List AV × Heap) {k : AX × List AV × Heap → Option γ} (K1 K2 : Option γ)
  (hstep : ∀ (i : Nat), a ≤ i → i < a + n → f (vs i) σ = if p i = true then some (ret i) else some (.normal, vs (i + 1), σ)) (hend : f (vs (a + n)) σ = some fin) (hk1 : k fin = K1) (hk2 : ∀ i, k (ret i) = K2)
  (hfin : fin.1 ≠ .normal := by simp) (hret : ∀ i, (ret i).1 ≠ .normal := by intros; simp) {v : List AV} {σ' : Heap} (hv : v = vs a := by rfl) (hσ : σ' = σ := by rfl) :
  (A.loop f v σ').bind k = if (List.range' a n).any p = true then K2 else K1 := by
 refine loop_any (List.range' a n) p (fun i => vs (a + i)) σ fin (fun i => ret (a + i)) K1 K2 ?_ (by rw [List.length_range']; exact hend) hk1 (fun i => hk2 _) hfin (fun i => hret _) hv hσ
 intro i x hx
 obtain ⟨h1, h2⟩ := List.getElem?_eq_some_iff.1 hx
 rw [List.length_range'] at h1
 obtain rfl : a + i = x := by simpa [List.getElem_range'] using h2
 exact hstep (a + i) (by omega) (by omega)
def zPoint : PointD := ⟨0, 0⟩
def badP (p : PointD) : Bool := !(withinB p.time 0 1000) || !(withinB p.way 0 1000)
def ordP (l : List PointD) (i : Nat) : Bool := decide ((l.getD i zPoint).time ≤ (l.getD (i - 1) zPoint).time ∨ (l.getD i zPoint).way < (l.getD (i - 1) zPoint).way)
def ptsF (l : List PointD) : Int :=
 if l.any badP = true then 1
 else if ¬ ((l.getD 0 zPoint).time = 0 ∧ (l.getD 0 zPoint).way = 0) then 3
 else if ¬ ((l.getD (l.length - 1) zPoint).time = 1000 ∧ (l.getD (l.length - 1) zPoint).way = 1000) then 3
 else if (List.range' 1 (l.length - 1)).any (ordP l) = true then 7 else 0
def curveF (c : CurveD) : Int :=
 if withinB c.kind 1 6 = false then 4
 else if c.kind = 6 then (if c.points.length < 2 then 8 else if 20 < c.points.length then 2 else ptsF c.points)
 else if 0 < c.points.length then 3 else 0
theorem ne_point (x : PointD) (a b : Int) : A.neq (.s [0, 0]) (.agg (cPoint x)) (.agg [.int .i64 a, .int .i64 b]) = some (.bool (decide (¬ (x.time = a ∧ x.way = b)))) := by
 simp only [A.neq, A.eqK, cPoint, A.eqAll, A.eqC, A.eqI, if_true, Option.bind_some, Option.map_some]
 congr 2
 rw [Bool.eq_iff_iff]
 simp
theorem spl20 (a b c : AV) : A.splice 0 [a] [b, c] = some [a, c] := rfl
theorem spl21 (a b c : AV) : A.splice 1 [a] [b, c] = some [b, a] := rfl
theorem getD_at {l : List PointD} {i : Nat} (h : i < l.length) : l[i]? = some (l.getD i zPoint) := by simp [h]
theorem CheckCurve1_eq (c : CurveD) (σ : Heap) : m_R1_CheckCurve [.agg (cCurve c)] σ = some (.int .i64 (curveF c), σ) := by
 refine wrap_eq rfl ?_ rfl
 show r_R1_CheckCurve (.agg (cCurve c)) σ = _
 unfold r_R1_CheckCurve curveF
 simp only [MSb, reduceCtorEq, p1_cCurve_0, p1_cCurve_1, pA_cCurve, ce_cCurve, sp_cCurve, Within1_eq]
 cases hk : withinB c.kind 1 6
 ·simp only [MSb, reduceCtorEq]
 by_cases h6 : c.kind = 6
 case neg =>
  by_cases h0 : 0 < c.points.length
  ·simp only [MSb, reduceCtorEq, p1_cCurve_0, p1_cCurve_1, pA_cCurve, ce_cCurve, sp_cCurve, h6, h0, show (0 : Int) < c.points.length by omega]
  ·simp only [MSb, reduceCtorEq, p1_cCurve_0, p1_cCurve_1, pA_cCurve, ce_cCurve, sp_cCurve, h6, h0, show ¬ (0 : Int) < c.points.length by omega]
 by_cases h2 : c.points.length < 2
 ·simp only [MSb, reduceCtorEq, p1_cCurve_0, p1_cCurve_1, pA_cCurve, ce_cCurve, sp_cCurve, h6, h2, show (c.points.length : Int) < 2 by omega]
 by_cases h20 : 20 < c.points.length
 ·simp only [MSb, reduceCtorEq, p1_cCurve_0, p1_cCurve_1, pA_cCurve, ce_cCurve, sp_cCurve, h6, h2, h20, show ¬ (c.points.length : Int) < 2 by omega, show (20 : Int) < c.points.length by omega]
 simp only [MSb, reduceCtorEq, p1_cCurve_0, p1_cCurve_1, pA_cCurve, ce_cCurve, sp_cCurve, h6, h2, h20, show ¬ (c.points.length : Int) < 2 by omega, show ¬ (20 : Int) < c.points.length by omega]
 have hmx : c.points.length ≤ mxl := by unfold mxl; omega
 refine (loop_any c.points badP (fun i => [.lbx (cCurve c), .int .i64 0, .int .i64 (i : Int)]) σ (.exit 1, [.lbx (cCurve c), .int .i64 0, .int .i64 (c.points.length : Int)], σ) (fun i => (.ret, [.lbx (cCurve c), .int .i64 1, .int .i64 (i : Int)], σ))
  (some (.int .i64 (if ¬ ((c.points.getD 0 zPoint).time = 0 ∧ (c.points.getD 0 zPoint).way = 0) then 3
 else if ¬ ((c.points.getD (c.points.length - 1) zPoint).time = 1000 ∧ (c.points.getD (c.points.length - 1) zPoint).way = 1000) then 3
 else if (List.range' 1 (c.points.length - 1)).any (ordP c.points) = true then 7 else 0), σ)) (some (.int .i64 1, σ)) ?_ ?_ ?_ ?_).trans ?_
 ·intro i x hx
  obtain ⟨g1, g2, g3⟩ := iaddr_at 2 cPoint hx
  have g3 := g3 hmx
  simp only [MSb, reduceCtorEq, p1_cPoint_0, p1_cPoint_1, pA_cPoint, ce_cPoint, sp_cPoint, g1, g2, g3, Within1_eq, badP]
  rcases Bool.eq_false_or_eq_true (withinB x.time 0 1000) with e | e
  ·rcases Bool.eq_false_or_eq_true (withinB x.way 0 1000) with e' | e' <;> simp only [MSb, reduceCtorEq, Within1_eq, e, e', Bool.false_or, Bool.or_false]
  ·simp only [MSb, reduceCtorEq, e, Bool.true_or]
 ·exact hend_lss _ _ _
 ·have g0 := iaddr_sl 2 cPoint c.points (getD_at (l := c.points) (i := 0) (by omega))
  have gl := iaddr_pred 2 cPoint c.points (k := c.points.length) (by omega) (getD_at (by omega))
  have hw : IntKind.i64.wrap ((c.points.length : Int) - 1) = (c.points.length : Int) - 1 := wrap64 (by unfold inI; omega)
  simp only [Int.ofNat_zero, Int.natCast_zero] at g0
  simp only [MSb, reduceCtorEq, p1_cCurve_0, p1_cCurve_1, pA_cCurve, ce_cCurve, sp_cCurve, p1_cPoint_0, p1_cPoint_1, pA_cPoint, ce_cPoint, sp_cPoint, g0, ne_point]
  by_cases e1 : (c.points.getD 0 zPoint).time = 0 ∧ (c.points.getD 0 zPoint).way = 0
  case neg => simp only [MSb, reduceCtorEq, e1]
  simp only [MSb, reduceCtorEq, p1_cCurve_0, p1_cCurve_1, pA_cCurve, ce_cCurve, sp_cCurve, e1, hw, gl, p1_cPoint_0, p1_cPoint_1, pA_cPoint, ce_cPoint, sp_cPoint]
  by_cases e2 : (c.points.getD (c.points.length - 1) zPoint).time = 1000 ∧ (c.points.getD (c.points.length - 1) zPoint).way = 1000
  case neg =>
   simp only [spl20, spl21, MSb, reduceCtorEq, ne_point, e2]
  simp only [spl20, spl21, MSb, reduceCtorEq, ne_point, e2]
  refine (loop_anyN 1 (c.points.length - 1) (ordP c.points) (fun i => [.lbx (cCurve c), .int .i64 0, .int .i64 (i : Int)]) σ (.exit 3, [.lbx (cCurve c), .int .i64 0, .int .i64 (c.points.length : Int)], σ) (fun i => (.ret, [.lbx (cCurve c), .int .i64 7, .int .i64 (i : Int)], σ)) (some (AV.int .i64 0, σ)) (some (AV.int .i64 7, σ)) ?_ ?_ ?_ ?_).trans ?_
  ·intro i hi1 hi2
   have k1 := iaddr_sl 2 cPoint c.points (getD_at (l := c.points) (i := i) (by omega))
   have k2 := iaddr_pred 2 cPoint c.points (k := i) (by omega) (getD_at (by omega))
   have k3 : IntKind.i64.wrap ((i : Int) - 1) = (i : Int) - 1 := wrap64 (by unfold inI; omega)
   have k4 : IntKind.i64.wrap ((i : Int) + 1) = ((i + 1 : Nat) : Int) := by rw [wrap64 (by unfold inI; omega)]; omega
   have k5 : (i : Int) < c.points.length := by omega
   simp only [MSb, reduceCtorEq, p1_cCurve_0, p1_cCurve_1, pA_cCurve, ce_cCurve, sp_cCurve, p1_cPoint_0, p1_cPoint_1, pA_cPoint, ce_cPoint, sp_cPoint, k1, k2, k3, k5, ordP]
   by_cases q1 : (c.points.getD i zPoint).time ≤ (c.points.getD (i - 1) zPoint).time
   ·simp only [MSb, reduceCtorEq, q1]
   ·by_cases q2 : (c.points.getD i zPoint).way < (c.points.getD (i - 1) zPoint).way <;> simp only [MSb, reduceCtorEq, p1_cCurve_0, p1_cCurve_1, pA_cCurve, ce_cCurve, sp_cCurve, p1_cPoint_0, p1_cPoint_1, pA_cPoint, ce_cPoint, sp_cPoint, k1, k2, k3, k4, q1, q2]
  ·rw [show 1 + (c.points.length - 1) = c.points.length by omega]
   simp only [MSb, reduceCtorEq, p1_cCurve_0, p1_cCurve_1, pA_cCurve, ce_cCurve, sp_cCurve, Int.lt_irrefl]
  ·simp only [MSb, reduceCtorEq]
  ·intro i; simp only [MSb, reduceCtorEq]
  ·cases (List.range' 1 (c.points.length - 1)).any (ordP c.points) <;> rfl
 ·intro i; simp only [MSb, reduceCtorEq]
 ·unfold ptsF
  cases c.points.any badP <;> rfl
end Go.Proofs.YtphgchakmkankaaGreat

namespace Go.Proofs.YtphgchakmkankaaGreat
set_option linter.unusedSectionVars false
set_option linter.unusedVariables false
set_option linter.unusedSimpArgs false
theorem CheckCurve_eq (c : CurveD) (σ : Heap) : m_level_CheckCurve [.agg (cCurve c)] σ = some (.int .i64 (curveF c), σ) := by
 refine wrap_eq rfl ?_ rfl
 show r_level_CheckCurve (.agg (cCurve c)) σ = _
 unfold r_level_CheckCurve curveF
 simp only [MSb, reduceCtorEq, p1_cCurve_0, p1_cCurve_1, pA_cCurve, ce_cCurve, sp_cCurve, Within_eq]
 cases hk : withinB c.kind 1 6
 ·simp only [MSb, reduceCtorEq]
 by_cases h6 : c.kind = 6
 case neg =>
  by_cases h0 : 0 < c.points.length
  ·simp only [MSb, reduceCtorEq, p1_cCurve_0, p1_cCurve_1, pA_cCurve, ce_cCurve, sp_cCurve, h6, h0, When_eq, show (0 : Int) < c.points.length by omega]
  ·simp only [MSb, reduceCtorEq, p1_cCurve_0, p1_cCurve_1, pA_cCurve, ce_cCurve, sp_cCurve, h6, h0, When_eq, show ¬ (0 : Int) < c.points.length by omega]
 by_cases h2 : c.points.length < 2
 ·simp only [MSb, reduceCtorEq, p1_cCurve_0, p1_cCurve_1, pA_cCurve, ce_cCurve, sp_cCurve, h6, h2, show (c.points.length : Int) < 2 by omega]
 by_cases h20 : 20 < c.points.length
 ·simp only [MSb, reduceCtorEq, p1_cCurve_0, p1_cCurve_1, pA_cCurve, ce_cCurve, sp_cCurve, h6, h2, h20, show ¬ (c.points.length : Int) < 2 by omega, show (20 : Int) < c.points.length by omega]
 simp only [MSb, reduceCtorEq, p1_cCurve_0, p1_cCurve_1, pA_cCurve, ce_cCurve, sp_cCurve, h6, h2, h20, show ¬ (c.points.length : Int) < 2 by omega, show ¬ (20 : Int) < c.points.length by omega]
 have hmx : c.points.length ≤ mxl := by unfold mxl; omega
 refine (loop_any c.points badP (fun i => [.int .i64 0, .int .i64 (i : Int)]) σ (.exit 0, [.int .i64 0, .int .i64 (c.points.length : Int)], σ) (fun i => (.ret, [.int .i64 1, .int .i64 (i : Int)], σ))
  (some (.int .i64 (if ¬ ((c.points.getD 0 zPoint).time = 0 ∧ (c.points.getD 0 zPoint).way = 0) then 3
 else if ¬ ((c.points.getD (c.points.length - 1) zPoint).time = 1000 ∧ (c.points.getD (c.points.length - 1) zPoint).way = 1000) then 3
 else if (List.range' 1 (c.points.length - 1)).any (ordP c.points) = true then 7 else 0), σ)) (some (.int .i64 1, σ)) ?_ ?_ ?_ ?_).trans ?_
 ·intro i x hx
  obtain ⟨g1, g2, g3⟩ := iaddr_at 2 cPoint hx
  have g3 := g3 hmx
  simp only [MSb, reduceCtorEq, p1_cPoint_0, p1_cPoint_1, pA_cPoint, ce_cPoint, sp_cPoint, g1, g2, g3, Within_eq, badP]
  rcases Bool.eq_false_or_eq_true (withinB x.time 0 1000) with e | e
  ·rcases Bool.eq_false_or_eq_true (withinB x.way 0 1000) with e' | e' <;> simp only [MSb, reduceCtorEq, Within_eq, e, e', Bool.false_or, Bool.or_false]
  ·simp only [MSb, reduceCtorEq, e, Bool.true_or]
 ·exact hend_lss _ _ _
 ·have g0 := iaddr_sl 2 cPoint c.points (getD_at (l := c.points) (i := 0) (by omega))
  have gl := iaddr_pred 2 cPoint c.points (k := c.points.length) (by omega) (getD_at (by omega))
  have hw : IntKind.i64.wrap ((c.points.length : Int) - 1) = (c.points.length : Int) - 1 := wrap64 (by unfold inI; omega)
  simp only [Int.ofNat_zero, Int.natCast_zero] at g0
  simp only [MSb, reduceCtorEq, p1_cCurve_0, p1_cCurve_1, pA_cCurve, ce_cCurve, sp_cCurve, p1_cPoint_0, p1_cPoint_1, pA_cPoint, ce_cPoint, sp_cPoint, g0, ne_point]
  by_cases e1 : (c.points.getD 0 zPoint).time = 0 ∧ (c.points.getD 0 zPoint).way = 0
  case neg => simp only [MSb, reduceCtorEq, e1]
  simp only [MSb, reduceCtorEq, p1_cCurve_0, p1_cCurve_1, pA_cCurve, ce_cCurve, sp_cCurve, e1, hw, gl, p1_cPoint_0, p1_cPoint_1, pA_cPoint, ce_cPoint, sp_cPoint]
  by_cases e2 : (c.points.getD (c.points.length - 1) zPoint).time = 1000 ∧ (c.points.getD (c.points.length - 1) zPoint).way = 1000
  case neg =>
   simp only [spl20, spl21, MSb, reduceCtorEq, ne_point, e2]
  simp only [spl20, spl21, MSb, reduceCtorEq, ne_point, e2]
  refine (loop_anyN 1 (c.points.length - 1) (ordP c.points) (fun i => [.int .i64 0, .int .i64 (i : Int)]) σ (.exit 2, [.int .i64 0, .int .i64 (c.points.length : Int)], σ) (fun i => (.ret, [.int .i64 7, .int .i64 (i : Int)], σ)) (some (AV.int .i64 0, σ)) (some (AV.int .i64 7, σ)) ?_ ?_ ?_ ?_).trans ?_
  ·intro i hi1 hi2
   have k1 := iaddr_sl 2 cPoint c.points (getD_at (l := c.points) (i := i) (by omega))
   have k2 := iaddr_pred 2 cPoint c.points (k := i) (by omega) (getD_at (by omega))
   have k3 : IntKind.i64.wrap ((i : Int) - 1) = (i : Int) - 1 := wrap64 (by unfold inI; omega)
   have k4 : IntKind.i64.wrap ((i : Int) + 1) = ((i + 1 : Nat) : Int) := by rw [wrap64 (by unfold inI; omega)]; omega
   have k5 : (i : Int) < c.points.length := by omega
   simp only [MSb, reduceCtorEq, p1_cCurve_0, p1_cCurve_1, pA_cCurve, ce_cCurve, sp_cCurve, p1_cPoint_0, p1_cPoint_1, pA_cPoint, ce_cPoint, sp_cPoint, k1, k2, k3, k5, ordP]
   by_cases q1 : (c.points.getD i zPoint).time ≤ (c.points.getD (i - 1) zPoint).time
   ·simp only [MSb, reduceCtorEq, q1]
   ·by_cases q2 : (c.points.getD i zPoint).way < (c.points.getD (i - 1) zPoint).way <;> simp only [MSb, reduceCtorEq, p1_cCurve_0, p1_cCurve_1, pA_cCurve, ce_cCurve, sp_cCurve, p1_cPoint_0, p1_cPoint_1, pA_cPoint, ce_cPoint, sp_cPoint, k1, k2, k3, k4, q1, q2]
  ·rw [show 1 + (c.points.length - 1) = c.points.length by omega]
   simp only [MSb, reduceCtorEq, p1_cCurve_0, p1_cCurve_1, pA_cCurve, ce_cCurve, sp_cCurve, Int.lt_irrefl]
  ·simp only [MSb, reduceCtorEq]
  ·intro i; simp only [MSb, reduceCtorEq]
  ·cases (List.range' 1 (c.points.length - 1)).any (ordP c.points) <;> rfl
 ·intro i; simp only [MSb, reduceCtorEq]
 ·unfold ptsF
  cases c.points.any badP <;> rfl
end Go.Proofs.YtphgchakmkankaaGreat

namespace Go.Proofs.YtphgchakmkankaaGreat
set_option linter.unusedSectionVars false
set_option linter.unusedVariables false
set_option linter.unusedSimpArgs false
theorem First_eq (l : List Int) (hl : l.length ≤ mxl) (σ : Heap) : m_word_First [sl 1 cInt l] σ = some (.int .i64 ((l.find? fun n => decide (¬ n = 0)).getD 0), σ) := by
 refine wrap_eq rfl ?_ rfl
 show r_word_First (sl 1 cInt l) σ = _
 unfold r_word_First
 simp only [MSb, reduceCtorEq]
 refine (loop_find l (fun n => decide (¬ n = 0)) (fun i => [.int .i64 0, .int .i64 (i : Int)]) σ (.exit 0, [.int .i64 0, .int .i64 (l.length : Int)], σ) (fun i n => (.ret, [.int .i64 n, .int .i64 (i : Int)], σ)) (some (AV.int .i64 0, σ)) (fun n => some (AV.int .i64 n, σ)) ?_ ?_ ?_ ?_).trans ?_
 ·intro i x hx
  obtain ⟨g1, g2, g3⟩ := iaddr_at 1 cInt hx
  have g3 := g3 hl
  simp only [MSb, reduceCtorEq, g1, g2, g3]
  repeat' ((first | rw [gDp] | rw [gDb] | rw [cDp] | rw [cDnp] | rw [cDn] | rw [cDb]); split <;> try simp only [MSb, reduceCtorEq, *])
  all_goals first | with_reducible rfl | (simp [*]; done) | (simp_all; done) | (simp_all; omega) | rfl
 ·exact hend_lss _ _ _
 ·simp only [MSb, reduceCtorEq]
 ·intro i n; simp only [MSb, reduceCtorEq]
 ·cases l.find? (fun n => decide (¬ n = 0)) <;> rfl
end Go.Proofs.YtphgchakmkankaaGreat

