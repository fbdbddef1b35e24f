/- Parts of the proof of PickParsesMatchSpec, in order. -/
import Derived.Orders
import Derived.Below
import Derived.WalkKit
import Derived.Test.YtfalbgflabajbaaDoorRows
import Derived.Lib.LaidTab
import Derived.Lib.ItoaNum
import Derived.KernelRfl
import Derived.Laws.StructEq
namespace Go.Proofs.YtfalbgflabajbaaDoor
set_option linter.unusedSectionVars false
set_option linter.unusedSimpArgs false
set_option linter.unusedVariables false

inductive AV where
 | undef
 | int (k : IntKind) (n : Int)
 | bool (b : Bool)
 | str (s : ByteArray)
 | agg (cs : List AV)
 | tup (vs : List AV)
 | sl (sz : Nat) (es : List (List AV))
 | nsl
 | ez
 | rp (cs : List AV)
 | np
 | op (id off : Nat)
 | oe (id g i off : Nat)
 | os (id g sz off len : Nat)
 | om (id : Nat)
 | fm (es : List (AV × AV))
 | nm
 | fn (f : Nat) (caps : List AV)
 | nfn
 | lbx (cs : List AV)
 deriving Inhabited
inductive Blk where
 | box (cs : List AV)
 | arr (g sz : Nat) (es : List (List AV))
 | arrF (g sz : Nat) (es : List (List AV))
 | map (es : List (AV × AV))
 | it (cur left : List (AV × AV))
 deriving Inhabited
def DistK (es : List (AV × AV)) : Prop := (∀ p ∈ es, ∃ n s, p.1 = .agg [.int .i64 n, .str s]) ∧ (es.map (·.1)).Nodup
abbrev Heap := List Blk
inductive AX where
 | normal
 | exit (id : Nat)
 | ret
 deriving DecidableEq, Inhabited

namespace A
set_option linter.unusedSectionVars false
set_option linter.unusedSimpArgs false
def cond {α : Type} (c : AV) (t e : Option α) : Option α := match c with | .bool b => bif b then t else e | _ => none
def guard {α : Type} (c : AV) (want : Bool) (t e : Option α) : Option α := match c with | .bool b => bif b == want then t else e | .tup [] => e | _ => none
def pick (c a b : AV) : Option AV := match c with | .bool c => some (bif c then a else b) | _ => none
def cell (v : AV) : Option AV := match v with | .undef => none | .agg _ => none | .tup _ => none | .lbx _ => none | v => some v
def cells (n : Nat) (v : AV) : Option (List AV) := match v with | .agg cs => if cs.length = n then some cs else none | _ => none
def lb (v : AV) : Option (List AV) := match v with | .lbx cs => some cs | _ => none
def part1 (off : Nat) (cs : List AV) : Option AV := (cs[off]?).bind cell
def partA (off n : Nat) (cs : List AV) : Option AV := if off + n ≤ cs.length then some (.agg ((cs.drop off).take n)) else none
def splice (off : Nat) (new cs : List AV) : Option (List AV) := if off + new.length ≤ cs.length then some (cs.take off ++ new ++ cs.drop (off + new.length)) else none
def deref (v : AV) (σ : Heap) : Option (List AV) := match v with
 | .rp cs => some cs
 | .op id off => match σ[id]? with | some (.box cs) => some (cs.drop off) | _ => none
 | .oe id g i off => match σ[id]? with | some (.arr g' _ es) => if g = g' then (es[i]?).map (·.drop off) else none | _ => none
 | _ => none
def storeAt (v : AV) (new : List AV) (σ : Heap) : Option Heap := match v with
 | .op id off => match σ[id]? with | some (.box cs) => (splice off new cs).map fun cs => σ.set id (.box cs) | _ => none
 | .oe id g i off => match σ[id]? with
  | some (.arr g' sz es) => if g = g' then (es[i]?).bind fun e => (splice off new e).map fun e => σ.set id (.arr g sz (es.set i e)) else none
  | _ => none
 | _ => none
def faddr (off : Nat) (v : AV) : Option AV := match v with
 | .rp cs => some (.rp (cs.drop off))
 | .op id o => some (.op id (o + off))
 | .oe id g i o => some (.oe id g i (o + off))
 | _ => none
def idx (len : Nat) (i : AV) : Option Nat := match i with | .int _ n => if 0 ≤ n ∧ n < len then some n.toNat else none | _ => none
def iaddr (sz : Nat) (x i : AV) : Option AV := match x with
 | .sl sz' es => (idx es.length i).bind fun j => if sz = sz' then (es[j]?).map .rp else none
 | .os id g sz' off len => (idx len i).bind fun j => if sz = sz' then some (.oe id g (off + j) 0) else none
 | _ => none
def aaddr (len sz : Nat) (x i : AV) : Option AV := (idx len i).bind fun j => match x with
 | .rp cs => some (.rp (cs.drop (j * sz)))
 | .op id o => some (.op id (o + j * sz))
 | .oe id g k o => some (.oe id g k (o + j * sz))
 | _ => none
def nilck (x : AV) : Option AV := match x with | .rp cs => some (.rp cs) | .op id o => some (.op id o) | .oe id g i o => some (.oe id g i o) | .fn f c => some (.fn f c) | _ => none
def ext (i : Nat) (x : AV) : Option AV := match x with | .tup vs => vs[i]? | _ => none
def add (x y : AV) : Option AV := match x, y with
 | .int k a, .int k' b => if k = k' then some (.int k (k.wrap (a + b))) else none
 | .str a, .str b => if a.size + b.size ≤ 9223372036854775807 then some (.str (a ++ b)) else none
 | _, _ => none
def sub (x y : AV) : Option AV := match x, y with | .int k a, .int k' b => if k = k' then some (.int k (k.wrap (a - b))) else none | _, _ => none
def mul (x y : AV) : Option AV := match x, y with | .int k a, .int k' b => if k = k' then some (.int k (k.wrap (a * b))) else none | _, _ => none
def quo (x y : AV) : Option AV := match x, y with | .int k a, .int k' b => if k = k' ∧ b ≠ 0 then some (.int k (k.wrap (a.tdiv b))) else none | _, _ => none
def rem (x y : AV) : Option AV := match x, y with | .int k a, .int k' b => if k = k' ∧ b ≠ 0 then some (.int k (a.tmod b)) else none | _, _ => none
def shl (x y : AV) : Option AV := match x, y with | .int k a, .int _ b => if b < 0 then none else some (.int k (k.wrap (a * 2 ^ min b.toNat k.bits))) | _, _ => none
def shr (x y : AV) : Option AV := match x, y with | .int k a, .int _ b => if b < 0 then none else some (.int k (a.fdiv (2 ^ min b.toNat k.bits))) | _, _ => none
def lss (x y : AV) : Option AV := match x, y with | .int k a, .int k' b => if k = k' then some (.bool (decide (a < b))) else none | .str a, .str b => some (.bool (Op.bytesLess a.toList b.toList)) | _, _ => none
def leq (x y : AV) : Option AV := match x, y with | .int k a, .int k' b => if k = k' then some (.bool (decide (a ≤ b))) else none | _, _ => none
def gtr (x y : AV) : Option AV := match x, y with | .int k a, .int k' b => if k = k' then some (.bool (decide (a > b))) else none | _, _ => none
def geq (x y : AV) : Option AV := match x, y with | .int k a, .int k' b => if k = k' then some (.bool (decide (a ≥ b))) else none | _, _ => none
def eqI (x y : AV) : Option Bool := match x, y with | .int k a, .int k' b => if k = k' then some (a == b) else none | _, _ => none
def eqB (x y : AV) : Option Bool := match x, y with | .bool a, .bool b => some (a == b) | _, _ => none
def eqZ (x y : AV) : Option Bool := match x, y with | .str a, .str b => some (a == b) | _, _ => none
def eqP (x y : AV) : Option Bool := match x, y with
 | .np, .np => some true
 | .np, .rp _ => some false
 | .np, .op _ _ => some false
 | .rp _, .np => some false
 | .op _ _, .np => some false
 | _, _ => none
def eqC (k : Nat) (x y : AV) : Option Bool := match k with | 0 => eqI x y | 1 => eqB x y | 2 => eqZ x y | _ => none
def eqAll : List Nat → List AV → List AV → Option Bool
 | [], [], [] => some true
 | k :: ks, x :: xs, y :: ys => (eqC k x y).bind fun b => (eqAll ks xs ys).map fun c => b && c
 | _, _, _ => none
inductive EK where
 | i | b | z | p
 | s (ks : List Nat)
def eqK (k : EK) (x y : AV) : Option Bool := match k with
 | .i => eqI x y
 | .b => eqB x y
 | .z => eqZ x y
 | .p => eqP x y
 | .s ks => match x, y with | .agg xs, .agg ys => eqAll ks xs ys | _, _ => none
def eql (k : EK) (x y : AV) : Option AV := (eqK k x y).map .bool
def neq (k : EK) (x y : AV) : Option AV := (eqK k x y).map fun b => .bool (!b)
def isN (x y : AV) : Option Bool := match y with
 | .nsl => (match x with | .nsl => some true | .sl _ (_ :: _) => some false | .os _ _ _ _ _ => some false | _ => none)
 | _ => none
def eqN (x y : AV) : Option AV := (isN x y).map .bool
def neN (x y : AV) : Option AV := (isN x y).map fun b => .bool (!b)
def capN (x : AV) : Option AV := match x with | .nsl => some (.int .i64 0) | .ez => some (.int .i64 0) | _ => none
def not (x : AV) : Option AV := match x with | .bool b => some (.bool (!b)) | _ => none
def neg (x : AV) : Option AV := match x with | .int k n => some (.int k (k.wrap (0 - n))) | _ => none
def conv (k : IntKind) (x : AV) : Option AV := match x with | .int _ n => some (.int k (k.wrap n)) | _ => none
def asStr (x : AV) : Option AV := match x with | .str s => some (.str s) | _ => none
def max (x y : AV) : Option AV := match x, y with | .int k a, .int _ b => some (.int k (if b > a then b else a)) | _, _ => none
def min (x y : AV) : Option AV := match x, y with | .int k a, .int _ b => some (.int k (if b < a then b else a)) | _, _ => none
def lenZ (x : AV) : Option AV := match x with | .str s => some (.int .i64 s.size) | _ => none
def lenS (x : AV) : Option AV := match x with
 | .sl _ es => some (.int .i64 es.length)
 | .nsl => some (.int .i64 0)
 | .ez => some (.int .i64 0)
 | .os _ _ _ _ n => some (.int .i64 n)
 | _ => none
def lenM (x : AV) (σ : Heap) : Option AV := match x with
 | .nm => some (.int .i64 0)
 | .fm es => some (.int .i64 es.length)
 | .om id => match σ[id]? with | some (.map es) => some (.int .i64 es.length) | _ => none
 | _ => none
def sidx (x i : AV) : Option AV := match x with | .str s => (idx s.size i).bind fun j => (s[j]?).map fun b => .int .u8 b.toNat | _ => none
def bound (y : Nat) (dflt : Nat) (x : Option AV) : Option Nat := match x with
 | none => some dflt
 | some (.int _ i) => if 0 ≤ i ∧ i ≤ y then some i.toNat else none
 | _ => none
def sliceZ (x : AV) (lo hi : Option AV) : Option AV := match x with
 | .str s => (bound s.size s.size hi).bind fun h => (bound h 0 lo).map fun l => .str (s.extract l h)
 | _ => none
def room (σ : Heap) (id g sz off len : Nat) : Nat := match σ[id]? with
 | some (.arr g' sz' es) => if g = g' ∧ sz = sz' ∧ off + len ≤ es.length then es.length - off else len
 | _ => len
def sliceS (sz : Nat) (x : AV) (lo hi : Option AV) (σ : Heap) : Option AV := match x with
 | .sl sz' es => if sz = sz' then (bound es.length es.length hi).bind fun h => (bound h 0 lo).map fun l => .sl sz ((es.take h).drop l) else none
 | .nsl => (bound 0 0 hi).bind fun h => (bound h 0 lo).map fun _ => .nsl
 | .ez => (bound 0 0 hi).bind fun h => (bound h 0 lo).map fun _ => .ez
 | .os id g sz' off len => if sz = sz' then (bound (room σ id g sz off len) len hi).bind fun h => (bound h 0 lo).map fun l => .os id g sz (off + l) (h - l) else none
 | _ => none
def slice3 (x : AV) (lo : Option AV) (hi mx : AV) : Option AV := (lenS x).bind fun n => match n with
 | .int _ n => (bound n.toNat 0 (some mx)).bind fun m => (bound m 0 (some hi)).bind fun h => (bound h 0 lo).map fun _ => if m = 0 then .ez else .undef
 | _ => none
def elems (sz : Nat) (x : AV) (σ : Heap) : Option (List (List AV)) := match x with
 | .nsl => some []
 | .ez => some []
 | .sl sz' es => if sz = sz' then some es else none
 | .os id g sz0 off len => match σ[id]? with
  | some (.arr g' sz' es) => if g = g' ∧ sz = sz' ∧ sz0 = sz ∧ off + len ≤ es.length then some ((es.drop off).take len) else none
  | some (.arrF g' sz' es) => if g = g' ∧ sz = sz' ∧ sz0 = sz ∧ off + len ≤ es.length then some ((es.drop off).take len) else none
  | _ => none
 | _ => none
def appendL (sz most : Nat) (x : AV) (ys : List (List AV)) (σ : Heap) : Option (AV × Heap) := match x with
 | .nsl => if ys = [] then some (.nsl, σ) else if ys.length ≤ most then some (.os σ.length ys.length sz 0 ys.length, σ ++ [.arr ys.length sz ys]) else none
 | .ez => if ys = [] then some (.ez, σ) else if ys.length ≤ most then some (.os σ.length ys.length sz 0 ys.length, σ ++ [.arr ys.length sz ys]) else none
 | .os id g sz0 off len => match σ[id]? with
  | some (.arr g' sz' es) => if g = g' ∧ sz = sz' ∧ sz0 = sz ∧ off + len ≤ es.length ∧ len + ys.length ≤ most then
    (if ys = [] then some (.os id g sz off len, σ) else if off + len + ys.length ≤ es.length then some (.os id g sz off (len + ys.length), σ.set id (.arr g sz (es.take (off + len) ++ ys ++ es.drop (off + len + ys.length))))
    else some (.os id (g + ys.length) sz 0 (len + ys.length), σ.set id (.arr (g + ys.length) sz ((es.drop off).take len ++ ys)))) else none
  | some (.arrF g' sz' es) => if g = g' ∧ sz = sz' ∧ sz0 = sz ∧ off + len ≤ es.length ∧ len + ys.length ≤ most ∧ es.length < off + len + ys.length then
    some (.os σ.length (len + ys.length) sz 0 (len + ys.length), σ ++ [.arr (len + ys.length) sz ((es.drop off).take len ++ ys)]) else none
  | _ => none
 | _ => none
def append (sz most : Nat) (x y : AV) (σ : Heap) : Option (AV × Heap) := (elems sz y σ).bind fun ys => appendL sz most x ys σ
def appendZ (sz most : Nat) (zs : List AV) (x n : AV) (σ : Heap) : Option (AV × Heap) := match n with
 | .int _ k => if 0 ≤ k ∧ k ≤ most then appendL sz most x (List.replicate k.toNat zs) σ else none
 | _ => none
def copyS (sz : Nat) (x y : AV) (σ : Heap) : Option (AV × Heap) := (elems sz y σ).bind fun ys => match x with
 | .nsl => some (.int .i64 0, σ)
 | .ez => some (.int .i64 0, σ)
 | .os id g sz0 off len => match σ[id]? with
  | some (.arr g' sz' es) => if g = g' ∧ sz = sz' ∧ sz0 = sz ∧ off + len ≤ es.length then (if ys.length = 0 ∨ len = 0 then some (.int .i64 0, σ) else
    some (.int .i64 (ys.take len).length, σ.set id (.arr g sz (es.take off ++ ys.take len ++ es.drop (off + (ys.take len).length))))) else none
  | _ => none
 | _ => none
noncomputable def all {R : Type} (p : Nat → Prop) (k : Nat → Option R) : Option R := open Classical in if h : ∃ r, ∀ n, p n → k n = some r then some (Classical.choose h) else none
noncomputable def capU {R : Type} (x : AV) (σ : Heap) (k : Nat → Heap → Option R) : Option R := match x with
 | .os id g sz off len => match σ[id]? with
  | some (.arr g' sz' es) => if g = g' ∧ sz = sz' ∧ off + len ≤ es.length then all (fun c => len ≤ c ∧ es.length ≤ off + c) (fun c => k c (if c = len then σ.set id (.arrF g sz es) else σ.set id (.arr g sz (es ++ List.replicate (off + c - es.length) (List.replicate sz .undef))))) else none
  | _ => none
 | _ => none
def litK {R : Type} (v : AV) (k : Nat → List (List AV) → Option R) : Option R := match v with | .sl sz es => bif es.length == 0 then none else k sz es | _ => none
def capM {R : Type} (v : Option AV) (k : AV → Option R) (u : Option R) : Option R := match v with | some v => k v | none => u
def rangeA (m : AV) : Option (List (AV × AV)) := match m with
 | .nm => some []
 | .fm es => some es
 | _ => none
noncomputable def nextA {R : Type} (i : AV) (σ : Heap) (k : AV → Heap → Option R) : Option R := match i with
 | .op id 0 => match σ[id]? with
  | some (.it _ []) => k (.tup [.bool false]) σ
  | some (.it _ (e :: left)) => all (fun j => j < (e :: left).length) (fun j => match (e :: left)[j]? with
   | some p => k (.tup [.bool true, p.1, p.2]) (σ.set id (.it [p] ((e :: left).eraseIdx j)))
   | none => none)
  | _ => none
 | _ => none
def entryA (i : AV) (σ : Heap) : Option AV := match i with
 | .op id 0 => match σ[id]? with
  | some (.it [p] _) => some (.tup [p.1, p.2])
  | _ => none
 | _ => none
def clearS (sz : Nat) (zs : List AV) (x : AV) (σ : Heap) : Option Heap := match x with
 | .nsl => some σ
 | .ez => some σ
 | .sl _ [] => some σ
 | .os id g sz0 off len => match σ[id]? with
  | some (.arr g' sz' es) => if g = g' ∧ sz = sz' ∧ sz0 = sz ∧ off + len ≤ es.length then (if len = 0 then some σ else some (σ.set id (.arr g sz (es.take off ++ List.replicate len zs ++ es.drop (off + len))))) else none
  | _ => none
 | _ => none
def find (e : EK) (k : AV) : List (AV × AV) → Option (Option AV)
 | [] => some none
 | (k', v) :: r => (eqK e k k').bind fun b => bif b then some (some v) else find e k r
def ixFrom (e : EK) (k : AV) : List (AV × AV) → Nat → Option (Option Nat)
 | [], _ => some none
 | (k', _) :: r, i => (eqK e k k').bind fun b => bif b then some (some i) else ixFrom e k r (i + 1)
def upd (e : EK) (k v : AV) : List (AV × AV) → Option (List (AV × AV))
 | [] => some [(k, v)]
 | (k', v') :: r => (eqK e k k').bind fun b => bif b then some ((k, v) :: r) else (upd e k v r).map ((k', v') :: ·)
def del (e : EK) (k : AV) : List (AV × AV) → Option (List (AV × AV))
 | [] => some []
 | (k', v') :: r => (eqK e k k').bind fun b => bif b then some r else (del e k r).map ((k', v') :: ·)
def entries (m : AV) (σ : Heap) : Option (List (AV × AV)) := match m with
 | .nm => some []
 | .fm es => some es
 | .om id => match σ[id]? with | some (.map es) => some es | _ => none
 | _ => none
def keyOk (e : EK) (k : AV) : Bool := match e, k with
 | .i, .int _ _ => true
 | .b, .bool _ => true
 | .z, .str _ => true
 | .s ks, .agg xs => xs.length == ks.length
 | _, _ => false
def look (e : EK) (m k zero : AV) (σ : Heap) : Option AV := bif keyOk e k then (entries m σ).bind fun es => (find e k es).map fun r => r.getD zero else none
def lookOk (e : EK) (m k zero : AV) (σ : Heap) : Option AV := bif keyOk e k then (entries m σ).bind fun es => (find e k es).map fun r => .tup [r.getD zero, .bool r.isSome] else none
def mupd (e : EK) (m k v : AV) (σ : Heap) : Option Heap := bif keyOk e k then (match m with
 | .om id => match σ[id]? with | some (.map es) => (upd e k v es).map fun es => σ.set id (.map es) | _ => none
 | _ => none) else none
def mdel (e : EK) (m k : AV) (σ : Heap) : Option Heap := bif keyOk e k then (match m with
 | .nm => some σ
 | .om id => match σ[id]? with | some (.map es) => (del e k es).map fun es => σ.set id (.map es) | _ => none
 | _ => none) else none
noncomputable def quiet (r : Option (AV × Heap)) (σ : Heap) : Option AV := r.bind fun p => open Classical in if p.2 = σ then some p.1 else none
def callv (dyn : Nat → List AV → Heap → Option (AV × Heap)) (f : AV) (args : List AV) (σ : Heap) : Option (AV × Heap) := match f with | .fn n caps => dyn n (args ++ caps) σ | _ => none
def tab {α : Type} (d : α) : List (Nat × α) → Nat → α
 | [], _ => d
 | (m, x) :: r, n => bif n == m then x else tab d r n
def iter (f : List AV → Heap → Option (AX × List AV × Heap)) : Nat → List AV → Heap → Option (AX × List AV × Heap)
 | 0, _, _ => none
 | n + 1, v, σ => (f v σ).bind fun r => match r.1 with | .normal => iter f n r.2.1 r.2.2 | _ => some r
noncomputable def loop (f : List AV → Heap → Option (AX × List AV × Heap)) (v : List AV) (σ : Heap) : Option (AX × List AV × Heap) :=
 open Classical in if h : ∃ n r, iter f n v σ = some r then some (Classical.choose (Classical.choose_spec h)) else none
def iterC {R : Type} (f : List AV → Heap → (AX × List AV × Heap → Option R) → Option R) : Nat → List AV → Heap → (AX × List AV × Heap → Option R) → Option R
 | 0, _, _, _ => none
 | n + 1, v, σ, K => f v σ fun r => match r.1 with | .normal => iterC f n r.2.1 r.2.2 K | _ => K r
noncomputable def loopC {R : Type} (f : List AV → Heap → (AX × List AV × Heap → Option R) → Option R) (v : List AV) (σ : Heap) (K : AX × List AV × Heap → Option R) : Option R :=
 open Classical in if h : ∃ r, ∃ n, ∀ m, n ≤ m → iterC f m v σ K = some r then some (Classical.choose h) else none
mutual
def frz (σ : Heap) (n : Nat) : Nat → AV → Option AV
 | _, .int k a => some (.int k a)
 | _, .bool b => some (.bool b)
 | _, .str s => some (.str s)
 | _, .nsl => some .nsl
 | _, .ez => some .ez
 | _, .np => some .np
 | _, .nm => some .nm
 | _, .nfn => some .nfn
 | d, .agg cs => (frzL σ n d cs).map .agg
 | d, .tup cs => (frzL σ n d cs).map .tup
 | d, .sl sz es => (frzLL σ n d es).map (.sl sz)
 | d, .rp cs => (frzL σ n d cs).map .rp
 | d, .fm es => (frzM σ n d es).map .fm
 | d, .fn f cs => (frzL σ n d cs).map (.fn f)
 | 0, _ => none
 | d + 1, .om id => if id < n then some (.om id) else match σ[id]? with
  | some (.map es) => (frzM' σ n d es).map .fm
  | _ => none
 | d + 1, .op id off => if id < n then some (.op id off) else match σ[id]? with
  | some (.box cs) => (frzL' σ n d (cs.drop off)).map .rp
  | _ => none
 | d + 1, .oe id g i off => if id < n then some (.oe id g i off) else match σ[id]? with
  | some (.arr g' _ es) => if g = g' then (match es[i]? with | some e => (frzL' σ n d (e.drop off)).map .rp | none => none) else none
  | _ => none
 | d + 1, .os id g sz0 off len => if id < n then some (.os id g sz0 off len) else match σ[id]? with
  | some (.arr g' sz es) => if g = g' ∧ sz0 = sz ∧ off + len ≤ es.length then (frzLL' σ n d ((es.drop off).take len)).map (.sl sz) else none
  | _ => none
 | _, _ => none
def frzL (σ : Heap) (n : Nat) : Nat → List AV → Option (List AV)
 | _, [] => some []
 | d, x :: r => (frz σ n d x).bind fun y => (frzL σ n d r).map (y :: ·)
def frzL' (σ : Heap) (n : Nat) : Nat → List AV → Option (List AV)
 | _, [] => some []
 | d, x :: r => (frz σ n d x).bind fun y => (frzL' σ n d r).map (y :: ·)
def frzM (σ : Heap) (n : Nat) : Nat → List (AV × AV) → Option (List (AV × AV))
 | _, [] => some []
 | d, (k, v) :: r => (frz σ n d k).bind fun k => (frz σ n d v).bind fun v => (frzM σ n d r).map ((k, v) :: ·)
def frzM' (σ : Heap) (n : Nat) : Nat → List (AV × AV) → Option (List (AV × AV))
 | _, [] => some []
 | d, (k, v) :: r => (frz σ n d k).bind fun k => (frz σ n d v).bind fun v => (frzM' σ n d r).map ((k, v) :: ·)
def frzLL (σ : Heap) (n : Nat) : Nat → List (List AV) → Option (List (List AV))
 | _, [] => some []
 | d, x :: r => (frzL σ n d x).bind fun y => (frzLL σ n d r).map (y :: ·)
def frzLL' (σ : Heap) (n : Nat) : Nat → List (List AV) → Option (List (List AV))
 | _, [] => some []
 | d, x :: r => (frzL σ n d x).bind fun y => (frzLL' σ n d r).map (y :: ·)
end
end A
end Go.Proofs.YtfalbgflabajbaaDoor

namespace Go.Proofs.YtfalbgflabajbaaDoor
set_option linter.unusedSectionVars false
set_option linter.unusedSimpArgs false
set_option linter.unusedVariables false

structure Pl0 where
 slot : Nat
 off : Nat
 tag : Option (Nat × Bool)
structure AS where
 sl : List AV
 A : Nat → Option Pl0
 σ : Heap
structure Fx where
 P : Program
 nm : List Nat
 call : FuncId → List AV → Heap → Option (AV × Heap)
 dyn : Nat → List AV → Heap → Option (AV × Heap)
 L : List Nat
 O : List Nat
 n : Nat
 W : List Nat
inductive Ann where
 | n
 | s (a b : Ann)
 | c (live : List Nat) (a b : Ann)
 | j (a b : Ann)
 | b (a : Ann)
 | l (live : List Nat) (xs : List AX) (a : Ann)
 | lc (live : List Nat) (xs : List AX) (a : Ann)

noncomputable section
def ofCell : Value → AV
 | .int k n => .int k n
 | .bool b => .bool b
 | .string s => .str s
 | .slice none 0 0 => .nsl
 | .pointer none => .np
 | .map none => .nm
 | .nilFunc => .nfn
 | _ => .undef
def one1 : Value → Bool
 | .agg _ => false
 | .tuple _ => false
 | _ => true
def ofVal : Value → AV
 | .agg cs => bif cs.toList.all one1 then .agg (cs.toList.map ofCell) else .undef
 | v => ofCell v

section
variable {R : Type} (X : Fx)
def isAggT (t : TypeId) : Bool := match X.P.underlying t with | some (.struct _) => true | some (.array _ _) => true | _ => false
def zeroT (t : TypeId) : Option (List AV) := match X.P.info? t with | some i => (match i.zero with | some v => bif v.cells.toList.all one1 then some (v.cells.toList.map ofCell) else none | none => none) | none => none
def ev (s : AS) : Operand → AV
 | .tmp t => bif X.L.contains t then .undef else s.sl.getD t .undef
 | .const v => ofVal v
 | .global _ => .undef
 | .func f => .fn (X.nm.getD f 0) []
def keepTag (d : Nat) : Option Pl0 → Option Pl0
 | some p => (match p.tag with | some (g, _) => bif g == d then none else some p | none => some p)
 | none => none
def AS.put (X : Fx) (d : Option Nat) (v : AV) (s : AS) : AS :=
 match d with
 | some d => ⟨s.sl.set d (bif X.L.contains d then .undef else v), fun t => bif t == d then none else keepTag d (s.A t), s.σ⟩
 | none => s
def AS.adr (X : Fx) (d : Option Nat) (b off : Nat) (tag : Option (Nat × Bool)) (s : AS) : AS :=
 match d with
 | some d => ⟨s.sl.set d .undef, fun t => bif t == d then (bif X.L.contains d || !Nat.blt d X.n then none else match tag with | some (g, w) => (bif g == d then none else some ⟨b, off, some (g, w)⟩) | none => some ⟨b, off, none⟩) else keepTag d (s.A t), s.σ⟩
 | none => s
def AS.newBox (d : Nat) (cs : List AV) (s : AS) : AS :=
 ⟨s.sl.set d (.lbx cs), fun t => bif t == d then none else match keepTag d (s.A t) with | some p => bif p.slot == d then none else some p | none => none, s.σ⟩
def AS.heap (σ : Heap) (s : AS) : AS := ⟨s.sl, s.A, σ⟩
def place (s : AS) (tag : Option (Nat × Bool)) : Operand → Option (Nat × Nat)
 | .tmp t => bif X.L.contains t then some (t, 0) else match s.A t with
  | some p => bif X.L.contains p.slot then (match p.tag with | none => some (p.slot, p.off) | some g => bif tag == some g then some (p.slot, p.off) else none) else none
  | none => none
 | _ => none
def partT (t : TypeId) (off : Nat) (cs : List AV) : Option AV := match X.P.underlying t with
 | none => none
 | some _ => bif isAggT X t then A.partA off (X.P.cellsOf t) cs else A.part1 off cs
def cellsT (t : TypeId) (v : AV) : Option (List AV) := match X.P.underlying t with
 | none => none
 | some _ => bif isAggT X t then A.cells (X.P.cellsOf t) v else bif X.P.cellsOf t == 1 then (A.cell v).bind fun v => some [v] else none
def fillA (s : AS) (place : Nat → Option (Nat × TypeId)) : List (Nat × Operand) → List AV → Option (List AV)
 | [], cs => some cs
 | (i, x) :: r, cs => match place i with
  | none => none
  | some (off, t) => (cellsT X t (ev X s x)).bind fun new => (A.splice off new cs).bind fun cs => fillA s place r cs
def fieldOf (t : TypeId) (f : Nat) : Option (Nat × TypeId) := match X.P.underlying t with
 | some (.struct fs) => (match fs[f]? with | some f => some (f.offset, f.type) | none => none)
 | _ => none
def eqFs (f : TypeId → Bool) (size : TypeId → Nat) : List Field → Nat → Option Nat
 | [], off => some off
 | x :: r, off => bif x.name != "_" && x.offset == off && f x.type then eqFs f size r (off + size x.type) else none
def eqOk (P : Program) : Nat → TypeId → Bool
 | 0, _ => false
 | d + 1, t => match P.underlying t with
  | some .bool => P.cellsOf t == 1
  | some (.int _) => P.cellsOf t == 1
  | some .string => P.cellsOf t == 1
  | some (.struct fs) => !P.stoodInHeld t && eqFs (eqOk P d) P.cellsOf fs.toList 0 == some (P.cellsOf t)
  | _ => false
def kinds (P : Program) : Nat → TypeId → List Nat
 | 0, _ => []
 | d + 1, t => match P.underlying t with
  | some .bool => [1]
  | some (.int _) => [0]
  | some .string => [2]
  | some (.struct fs) => fs.toList.flatMap fun f => kinds P d f.type
  | _ => []
def ekT (t : TypeId) : Option A.EK := match X.P.underlying t with
 | some .bool => some .b
 | some (.int _) => some .i
 | some .string => some .z
 | some (.pointer e) => bif X.P.cellsOf e != 0 then some .p else none
 | some (.struct _) => bif eqOk X.P 9 t && !X.P.eqGuardType X.P.depth t then some (.s (kinds X.P 9 t)) else none
 | _ => none
def binA (op : BinOp) (t : TypeId) (x y : AV) : Option AV := match op with
 | .add => A.add x y | .sub => A.sub x y | .mul => A.mul x y | .quo => A.quo x y | .rem => A.rem x y
 | .lss => A.lss x y | .leq => A.leq x y | .gtr => A.gtr x y | .geq => A.geq x y
 | .eql => (match ekT X t with | some e => A.eql e x y | none => match X.P.underlying t with | some (.slice _) => A.eqN x y | _ => none)
 | .neq => (match ekT X t with | some e => A.neq e x y | none => match X.P.underlying t with | some (.slice _) => A.neN x y | _ => none)
 | .shl => A.shl x y | .shr => A.shr x y | _ => none
def chunks (sz : Nat) : Nat → List AV → List (List AV)
 | 0, _ => []
 | n + 1, l => l.take sz :: chunks sz n (l.drop sz)
def opV (o : Oper) (s : AS) (tag : Option (Nat × Bool)) : Option AV :=
 match o.op with
 | .move x => some (ev X s x)
 | .assign x => some (ev X s x)
 | .pick c a b => A.pick (ev X s c) (ev X s a) (ev X s b)
 | .alloc t => (match zeroT X t with | some cs => some (.rp cs) | none => none)
 | .box t x => (cellsT X t (ev X s x)).bind fun cs => some (.rp cs)
 | .build t ps => (match zeroT X t, X.P.underlying t with
  | some zs, some (.struct fs) => bif fs.toList.all (fun f => (X.P.info? f.type).isSome) then (fillA X s (fieldOf X t) ps.toList zs).bind fun cs => some (.agg cs) else none
  | _, _ => none)
 | .buildSlice t len ps => (match X.P.underlying t with
  | some (.slice e) => (match X.P.info? e, zeroT X e with
   | some i, some zs => bif (i.size == 0 || zs.length != i.size) then none else bif Nat.blt 16777216 (len * i.size) then none
    else (fillA X s (fun j => some (j * i.size, e)) ps.toList ((List.replicate len zs).flatten)).bind fun cs => some (bif len == 0 then .ez else .sl i.size (chunks i.size len cs))
   | _, _ => none)
  | _ => none)
 | .load t x => (match place X s tag x with
  | some (b, off) => (A.lb (s.sl.getD b .undef)).bind fun cs => partT X t off cs
  | none => (A.deref (ev X s x) s.σ).bind fun cs => partT X t 0 cs)
 | .nilCheck x => A.nilck (ev X s x)
 | .binOp op t x y _ => binA X op t (ev X s x) (ev X s y)
 | .unOp op _ x => (match op with
  | .not => A.not (ev X s x)
  | .neg => A.neg (ev X s x)
  | _ => none)
 | .convert src dst x => (match X.P.underlying src, X.P.underlying dst with
  | some (.int _), some (.int j) => A.conv j (ev X s x)
  | some .string, some .string => A.asStr (ev X s x)
  | _, _ => none)
 | .makeInterface t _ => (match X.P.underlying t with | some (.interface _) => none | some _ => some .undef | none => none)
 | .makeFunc fn first caps => (match fn with | .func f => bif first.toList.isEmpty then some (.fn (X.nm.getD f 0) (caps.toList.map (ev X s))) else none | _ => none)
 | .slice t x lo hi mx => (match mx with
  | none => (match X.P.underlying t with
   | some .string => A.sliceZ (ev X s x) (lo.map (ev X s)) (hi.map (ev X s))
   | some (.slice e) => (match X.P.info? e with | some i => A.sliceS i.size (ev X s x) (lo.map (ev X s)) (hi.map (ev X s)) s.σ | none => none)
   | _ => none)
  | some mx => (match X.P.underlying t, hi with
   | some (.slice e), some hi => (match X.P.info? e with | some _ => A.slice3 (ev X s x) (lo.map (ev X s)) (ev X s hi) (ev X s mx) | none => none)
   | _, _ => none))
 | .fieldAddr t x f => (match fieldOf X t f with
  | some (off, ft) => (match X.P.info? ft with | some i => bif i.size == 0 then none else A.faddr off (ev X s x) | none => none)
  | none => none)
 | .field t x f => (match fieldOf X t f with
  | some (off, ft) => (A.cells (X.P.cellsOf t) (ev X s x)).bind fun cs => partT X ft off cs
  | none => none)
 | .indexAddr t x i => (match X.P.underlying t with
  | some (.slice e) => (match X.P.info? e with | some j => A.iaddr j.size (ev X s x) (ev X s i) | none => none)
  | some (.array len e) => (match X.P.info? e with | some j => A.aaddr len j.size (ev X s x) (ev X s i) | none => none)
  | _ => none)
 | .index t x i => (match X.P.underlying t with
  | some .string => A.sidx (ev X s x) (ev X s i)
  | _ => none)
 | .lookup t m i ok => (match X.P.underlying t with
  | some (.map kt e) => (match X.P.info? e, ekT X kt with
   | some inf, some ek => (match inf.zero with
    | some z => bif ok then A.lookOk ek (ev X s m) (ev X s i) (ofVal z) s.σ else A.look ek (ev X s m) (ev X s i) (ofVal z) s.σ
    | none => none)
   | _, _ => none)
  | _ => none)
 | .extract x i => A.ext i (ev X s x)
 | .entry i => A.entryA (ev X s i) s.σ
 | .call c => (match c.callee with
  | .builtin b => (match b, c.argTypes.toList, c.args.toList.map (ev X s) with
   | .len, [t], [x] => (match X.P.underlying t with
    | some .string => A.lenZ x
    | some (.slice _) => A.lenS x
    | some (.map _ _) => A.lenM x s.σ
    | _ => none)
   | .cap, [t], [x] => (match X.P.underlying t with | some (.slice _) => A.capN x | _ => none)
   | .max, _, [x, y] => A.max x y
   | .min, _, [x, y] => A.min x y
   | _, _, _ => none)
  | .value (.func f) => A.quiet (X.call f (c.args.toList.map (ev X s)) s.σ) s.σ
  | .value x => A.quiet (A.callv X.dyn (ev X s x) (c.args.toList.map (ev X s)) s.σ) s.σ
  | _ => none)
 | _ => none
def opP (o : Oper) (s : AS) (tag : Option (Nat × Bool)) : Option (Nat × Option Nat) :=
 match o.op with
 | .nilCheck x => (match place X s tag x with | some (b, off) => some (b, (A.lb (s.sl.getD b .undef)).bind fun _ => some off) | none => none)
 | .fieldAddr t x f => (match place X s tag x with
  | some (b, o') => some (b, match fieldOf X t f with
   | some (off, ft) => (match X.P.info? ft with | some i => bif i.size == 0 then none else (A.lb (s.sl.getD b .undef)).bind fun _ => some (o' + off) | none => none)
   | none => none)
  | none => none)
 | .indexAddr t x i => (match place X s tag x with
  | some (b, o') => some (b, match X.P.underlying t with
   | some (.array len e) => (match X.P.info? e with | some ie => (A.lb (s.sl.getD b .undef)).bind fun _ => (A.idx len (ev X s i)).bind fun j => some (o' + j * ie.size) | none => none)
   | _ => none)
  | none => none)
 | _ => none
def zeroBad (i : TypeInfo) : Bool := i.size == 0 || i.bytes == 0 || (match i.zero with | some z => z.cells.size != i.size || !z.cells.toList.all one1 | none => true)
def opA (q : Bool) (o : Oper) (s : AS) (k : AS → Option R) : Option R :=
 match opP X o s none with
 | some (b, r) => r.bind fun off => k (s.adr X o.dst b off none)
 | none =>
 match o.op with
 | .alloc t => (match o.dst with
  | some d => bif X.L.contains d then (match zeroT X t with | some cs => k (s.newBox d cs) | none => none)
   else bif X.O.contains d then (match zeroT X t with | some cs => k ((s.heap (s.σ ++ [.box cs])).put X (some d) (.op s.σ.length 0)) | none => none)
   else (opV X o s none).bind fun v => k (s.put X o.dst v)
  | none => none)
 | .box t x => (match o.dst with
  | some d => bif X.L.contains d then (cellsT X t (ev X s x)).bind fun cs => k (s.newBox d cs)
   else bif X.O.contains d then (cellsT X t (ev X s x)).bind fun cs => k ((s.heap (s.σ ++ [.box cs])).put X (some d) (.op s.σ.length 0))
   else (opV X o s none).bind fun v => k (s.put X o.dst v)
  | none => none)
 | .store t x v => (match place X s none x with
  | some (b, off) => (A.lb (s.sl.getD b .undef)).bind fun cs => (cellsT X t (ev X s v)).bind fun new => (A.splice off new cs).bind fun cs => k ((⟨s.sl.set b (.lbx cs), s.A, s.σ⟩ : AS).put X o.dst (.tup []))
  | none => (cellsT X t (ev X s v)).bind fun new => (A.storeAt (ev X s x) new s.σ).bind fun σ => k ((s.heap σ).put X o.dst (.tup [])))
 | .buildSlice t n ps => (match o.dst with
  | some d => bif X.O.contains d then (opV X o s none).bind fun v => A.litK v fun sz es => k ((s.heap (s.σ ++ [.arr es.length sz es])).put X (some d) (.os s.σ.length es.length sz 0 es.length))
   else (opV X o s none).bind fun v => k (s.put X o.dst v)
  | none => (opV X o s none).bind fun v => k (s.put X o.dst v))
 | .makeMap t r => (match r with
  | none => k ((s.heap (s.σ ++ [.map []])).put X o.dst (.om s.σ.length))
  | some _ => none)
 | .mapUpdate t m i v => (match X.P.underlying t with
  | some (.map kt _) => (match ekT X kt with | some ek => (A.mupd ek (ev X s m) (ev X s i) (ev X s v) s.σ).bind fun σ => k ((s.heap σ).put X o.dst (.tup [])) | none => none)
  | _ => none)
 | .range t x => (match X.P.underlying t with
  | some (.map _ _) => (A.rangeA (ev X s x)).bind fun es => k ((s.heap (s.σ ++ [.it [] es])).put X o.dst (.op s.σ.length 0))
  | _ => none)
 | .next i str => bif q || str then none else A.nextA (ev X s i) s.σ (fun v σ => k ((s.heap σ).put X o.dst v))
 | .call c => (match c.callee with
  | .builtin .append => (match c.argTypes.toList, c.args.toList.map (ev X s) with
   | [t, u], [x, y] => (match X.P.underlying t, X.P.underlying u with
    | some (.slice e), some (.slice _) => (match X.P.info? e with
     | some i => bif zeroBad i then none else (A.append i.size (140737488355328 / i.bytes) x y s.σ).bind fun r => k ((s.heap r.2).put X o.dst r.1)
     | none => none)
    | some (.slice e), some (.int _) => (match X.P.info? e, zeroT X e with
     | some i, some zs => bif zeroBad i then none else (A.appendZ i.size (140737488355328 / i.bytes) zs x y s.σ).bind fun r => k ((s.heap r.2).put X o.dst r.1)
     | _, _ => none)
    | _, _ => none)
   | _, _ => none)
  | .builtin .copy => (match c.argTypes.toList, c.args.toList.map (ev X s) with
   | [t, u], [x, y] => (match X.P.underlying t, X.P.underlying u with
    | some (.slice e), some (.slice _) => (match X.P.info? e with
     | some i => bif zeroBad i then none else (A.copyS i.size x y s.σ).bind fun r => k ((s.heap r.2).put X o.dst r.1)
     | none => none)
    | _, _ => none)
   | _, _ => none)
  | .builtin .cap => A.capM (opV X o s none) (fun v => k (s.put X o.dst v)) (bif q then none else (match c.argTypes.toList, c.args.toList.map (ev X s) with
    | [t], [x] => (match X.P.underlying t with | some (.slice _) => A.capU x s.σ (fun c σ => k ((s.heap σ).put X o.dst (.int .i64 c))) | _ => none)
    | _, _ => none))
  | .builtin .clear => (match c.argTypes.toList, c.args.toList.map (ev X s) with
   | [t], [x] => (match X.P.underlying t with
    | some (.slice e) => (match X.P.info? e, zeroT X e with
     | some i, some zs => bif zeroBad i then none else (A.clearS i.size zs x s.σ).bind fun σ => k ((s.heap σ).put X o.dst (.tup []))
     | _, _ => none)
    | _ => none)
   | _, _ => none)
  | .builtin .delete => (match c.argTypes.toList, c.args.toList.map (ev X s) with
   | [t, _], [m, key] => (match X.P.underlying t with
    | some (.map kt _) => (match ekT X kt with | some ek => (A.mdel ek m key s.σ).bind fun σ => k ((s.heap σ).put X o.dst (.tup [])) | none => none)
    | _ => none)
   | _, _ => none)
  | .builtin _ => (opV X o s none).bind fun v => k (s.put X o.dst v)
  | .value (.func f) => bif q && !X.W.contains f then (opV X o s none).bind fun v => k (s.put X o.dst v)
    else (X.call f (c.args.toList.map (ev X s)) s.σ).bind fun r => k ((s.heap r.2).put X o.dst r.1)
  | .value x => bif q then (opV X o s none).bind fun v => k (s.put X o.dst v)
    else (A.callv X.dyn (ev X s x) (c.args.toList.map (ev X s)) s.σ).bind fun r => k ((s.heap r.2).put X o.dst r.1)
  | _ => none)
 | _ => (opV X o s none).bind fun v => k (s.put X o.dst v)
def wCall (o : Oper) : Option (FuncId × List Operand) := match o.op with
 | .call c => (match c.callee with | .value (.func f) => bif X.W.contains f then some (f, c.args.toList) else none | _ => none)
 | _ => none
def guardBad (o : Oper) (d : Nat) : Bool := X.L.contains d || (match o.dst with | some d => X.L.contains d || X.O.contains d | none => false)
def opG (q : Bool) (ops : Array Oper) (o : Oper) (s : AS) (k : AS → Option R) : Option R :=
 match o.guard with
 | none => opA X q o s k
 | some (j, want) => match (ops[j]?).bind (·.dst) with
  | some d => bif guardBad X o d then none else (match wCall X o with
   | some (f, as') => (A.guard (s.sl.getD d .undef) want (X.call f (as'.map (ev X s)) s.σ) (some (.tup [], s.σ))).bind fun r => k ((s.heap r.2).put X o.dst r.1)
   | none => (match opP X o s (some (d, want)) with
    | some (b, r) => r.bind fun off => k (s.adr X o.dst b off (some (d, want)))
    | none => (A.guard (s.sl.getD d .undef) want (opV X o s (some (d, want))) (some (.tup []))).bind fun v => k (s.put X o.dst v)))
  | none => none
def force {R : Type} : List AV → (List AV → Option R) → Option R
 | [], k => k []
 | x :: l, k => force l fun l => k (x :: l)
def opsA (q : Bool) (ops : Array Oper) : List Oper → AS → (AS → Option R) → Option R
 | [], s, k => k s
 | o :: r, s, k => opG X q ops o s fun s => opsA q ops r s k
def opsF (q : Bool) (ops : Array Oper) : List Oper → AS → (AS → Option R) → Option R
 | [], s, k => k s
 | o :: r, s, k => opG X q ops o s fun s => force s.sl fun sl => opsF q ops r ⟨sl, s.A, s.σ⟩ k
def rL (o : Oper) : Bool := match o.op with | .load .. | .store .. | .fieldAddr .. | .indexAddr .. | .nilCheck .. => true | _ => false
def rH (o : Oper) : Bool := match o.op with | .load .. | .store .. | .lookup .. | .mapUpdate .. | .call .. | .makeMap .. | .alloc .. | .box .. | .range .. | .next .. | .entry .. | .slice .. | .buildSlice .. => true | _ => false
def wH (o : Oper) : Bool := match o.op with
 | .store .. | .mapUpdate .. | .makeMap .. | .range .. | .next .. => true
 | .alloc .. | .box .. | .buildSlice .. => (match o.dst with | some d => X.O.contains d | none => false)
 | .call c => (match c.callee with | .builtin .len => false | .builtin .max => false | .builtin .min => false | .builtin _ => true | .value (.func f) => X.W.contains f | _ => false)
 | _ => false
def notOe : AV → Bool
 | .oe .. => false
 | _ => true
def chainB (Bt : List Nat) (o : Oper) : Bool := match o.op with
 | .move (.tmp t) => Bt.contains t
 | .assign (.tmp t) => Bt.contains t
 | .nilCheck (.tmp t) => Bt.contains t
 | .fieldAddr _ (.tmp t) _ => Bt.contains t
 | _ => false
def chainT (o : Oper) : Option Nat := match o.op with
 | .move (.tmp t) => some t
 | .assign (.tmp t) => some t
 | .nilCheck (.tmp t) => some t
 | .fieldAddr _ (.tmp t) _ => some t
 | .load _ (.tmp t) => some t
 | _ => none
def startB (ops : List Oper) (sl : List AV) : List Nat := (ops.filterMap chainT).filter fun t => !(ops.any fun o => o.dst == some t) && notOe (sl.getD t .undef)
def rootsB : List Oper → List Nat → List Nat
 | [], acc => acc
 | o :: r, acc => rootsB r (match o.dst with | some d => (bif chainB acc o then d :: acc else acc) | none => acc)
def soft (Bt : List Nat) (o : Oper) : Bool := match o.op with | .load _ (.tmp t) => Bt.contains t | _ => false
def frW (o : Oper) : Bool := match o.op with
 | .makeMap .. => true
 | .mapUpdate .. => true
 | .call c => (match c.callee with | .builtin .append => true | _ => false)
 | _ => false
def Bok1 (Bt : List Nat) (o : Oper) : Bool := match o.dst with
 | some d => !Bt.contains d || chainB Bt o
 | none => true
def adO (o : Oper) : Option Operand := match o.op with
 | .load _ x => some x
 | .store _ x _ => some x
 | .fieldAddr _ x _ => some x
 | .indexAddr _ x _ => some x
 | .nilCheck x => some x
 | _ => none
def isAdr (o : Oper) : Bool := match o.op with | .fieldAddr .. => true | .indexAddr .. => true | .nilCheck .. => true | _ => false
def rtX (Rt : List (Nat × Nat)) : Operand → Option Nat
 | .tmp t => bif X.L.contains t then some t else Rt.lookup t
 | _ => none
def rt (Rt : List (Nat × Nat)) (o : Oper) : Option Nat := match adO o with | some x => rtX X Rt x | none => none
def rootsL : List Oper → List (Nat × Nat) → List (Nat × Nat)
 | [], Rt => Rt
 | o :: r, Rt => rootsL r (match o.dst with | some d => (bif isAdr o then (match rt X Rt o with | some b => (d, b) :: Rt | none => Rt) else Rt) | none => Rt)
def Rok1 (Rt : List (Nat × Nat)) (o : Oper) : Bool := match o.dst with
 | some d => X.L.contains d || Rt.lookup d == (bif isAdr o then rt X Rt o else none)
 | none => true
def noAd : AV → Bool
 | .undef => true
 | .tup [] => true
 | _ => false
def startOk (Rt : List (Nat × Nat)) (sl : List AV) : Bool := Rt.all fun p => noAd (sl.getD p.1 .undef)
def wb (Rt : List (Nat × Nat)) (o : Oper) : Option Nat := match o.op with | .store .. => rt X Rt o | _ => none
def rH' (Rt : List (Nat × Nat)) (o : Oper) : Bool := match o.op with
 | .load .. => (rt X Rt o).isNone
 | .store .. => (rt X Rt o).isNone
 | .alloc .. | .box .. | .buildSlice .. => (match o.dst with | some d => X.O.contains d | none => false)
 | _ => rH o
def wH' (Rt : List (Nat × Nat)) (o : Oper) : Bool := match o.op with
 | .store .. => (rt X Rt o).isNone
 | _ => wH X o
def confl (Rt : List (Nat × Nat)) (Bt : List Nat) (x y : Oper) : Bool :=
 (match wb X Rt x with | some b => rt X Rt y == some b | none => false) || (match x.dst with | some d => X.L.contains d && rt X Rt y == some d | none => false) || (wH' X Rt x && ((rH' X Rt y && !(soft Bt y && frW x)) || wH' X Rt y))
def indep (Rt : List (Nat × Nat)) (Bt : List Nat) (ops : Array Oper) (x y : Oper) : Bool := x.apart ops y && !confl X Rt Bt x y && !confl X Rt Bt y x
def ancGo : List Oper → List Nat → List Nat
 | [], acc => acc
 | o :: r, acc => ancGo r (acc ++ [o.after.toList.foldl (fun s e => bif Region.binds .any e then s ||| 2 ^ e.on ||| acc.getD e.on 0 else s) 0])
def backOk : List Oper → Nat → Bool
 | [], _ => true
 | o :: r, i => o.after.toList.all (fun e => !Region.binds .any e || Nat.blt e.on i) && backOk r (i + 1)
def pairsOk (Rt : List (Nat × Nat)) (Bt : List Nat) (ops : Array Oper) (anc : List Nat) : List Oper → Nat → Bool
 | [], _ => true
 | o :: r, i => (ops.toList.take i).zipIdx.all (fun p => (anc.getD i 0).testBit p.2 || indep X Rt Bt ops p.1 o) && pairsOk Rt Bt ops anc r (i + 1)
def regionOk' (Rt : List (Nat × Nat)) (Bt : List Nat) (ops : Array Oper) (sl : List AV) : Bool :=
 X.P.follows .mixedOrders && backOk ops.toList 0 && pairsOk X Rt Bt ops (ancGo ops.toList []) ops.toList 0 && ops.toList.all (Rok1 X Rt) && startOk Rt sl && Rt.all (fun p => X.L.contains p.2) && ops.toList.all (Bok1 Bt) && Bt.all (fun t => notOe (sl.getD t .undef))
def regionOk (ops : Array Oper) (sl : List AV) : Bool := regionOk' X (rootsL X ops.toList []) [] ops sl || regionOk' X (rootsL X ops.toList []) (rootsB ops.toList (startB ops.toList sl)) ops sl

def dsts : Code → List Nat
 | .region _ ops _ => ops.toList.filterMap (·.dst)
 | .seq a b => dsts a ++ dsts b
 | .cond _ a b => dsts a ++ dsts b
 | .block _ c => dsts c
 | .loop c => dsts c
 | _ => []
def clearAll (sl : List AV) : List Nat → List AV
 | [] => sl
 | d :: r => clearAll (sl.set d .undef) r
def setAll (vs : List AV) : List AV → List Nat → Nat → List AV
 | sl, d :: r, j => setAll vs (sl.set d (vs.getD j .undef)) r (j + 1)
 | sl, [], _ => sl
def vals (sl : List AV) (live : List Nat) : List AV := live.map (sl.getD · .undef)
def AS.meet (s : AS) (mods live : List Nat) (vs : List AV) (σ : Heap) : AS := ⟨setAll vs (clearAll s.sl mods) live 0, fun _ => none, σ⟩
def leave (live : List Nat) (e : AX) (s : AS) : Option (AX × List AV × Heap) := some (e, vals s.sl live, s.σ)
def leaveN (live : List Nat) (e : AX) (s : AS) : Option (List AV × Heap) := match e with | .normal => some (vals s.sl live, s.σ) | _ => none
def A.sel {R : Type} (e : AX) (k : AX → Option R) : List AX → Option R
 | [] => none
 | x :: r => bif e == x then k x else A.sel e k r
def exec : {R : Type} → Ann → Code → AS → (AX → AS → Option R) → Option R
 | _, _, .skip, s, k => k .normal s
 | _, _, .label _, s, k => k .normal s
 | _, _, .region _ ops draw, s, k => bif draw then (bif regionOk X ops s.sl then opsF X true ops ops.toList ⟨s.sl, fun _ => none, s.σ⟩ fun s => k .normal ⟨s.sl, fun _ => none, s.σ⟩ else none)
   else opsF X false ops ops.toList s fun s => k .normal ⟨s.sl, fun _ => none, s.σ⟩
 | _, .s a b, .seq x y, s, k => exec a x s fun e s => match e with | .normal => exec b y s k | e => k e s
 | _, .c live a b, .cond c x y, s, k => bif !(live.all fun d => (dsts x ++ dsts y ++ X.L).contains d) then none else (A.cond (ev X s c) (exec a x s (leaveN live)) (exec b y s (leaveN live))).bind fun r => force (s.meet (dsts x ++ dsts y ++ X.L) live r.1 r.2).sl fun sl => k .normal ⟨sl, fun _ => none, r.2⟩
 | _, .j a b, .cond c x y, s, k => A.cond (ev X s c) (exec a x s k) (exec b y s k)
 | _, .b a, .block id c, s, k => exec a c s fun e s => match e with | .exit i => bif i == id then k .normal s else k (.exit i) s | e => k e s
 | _, .l live xs a, .loop c, s, k => bif !(live.all fun d => (dsts c ++ X.L).contains d) then none else (A.loop (fun vs σ => force (s.meet (dsts c ++ X.L) live vs σ).sl fun sl => exec a c ⟨sl, fun _ => none, σ⟩ (leave live)) (vals s.sl live) s.σ).bind fun r => A.sel r.1 (fun e => force (s.meet (dsts c ++ X.L) live r.2.1 r.2.2).sl fun sl => k e ⟨sl, fun _ => none, r.2.2⟩) xs
 | _, .lc live xs a, .loop c, s, k => bif !(live.all fun d => (dsts c ++ X.L).contains d) then none else A.loopC (fun vs σ K => force (s.meet (dsts c ++ X.L) live vs σ).sl fun sl => exec a c ⟨sl, fun _ => none, σ⟩ fun e s' => K (e, vals s'.sl live, s'.σ)) (vals s.sl live) s.σ fun r => A.sel r.1 (fun e => force (s.meet (dsts c ++ X.L) live r.2.1 r.2.2).sl fun sl => k e ⟨sl, fun _ => none, r.2.2⟩) xs
 | _, _, .exit id, s, k => k (.exit id) s
 | _, _, .ret, s, k => k .ret s
 | _, _, _, _, _ => none
def resA (s : AS) : List ResultVar → (List AV → Option R) → Option R
 | [], k => k []
 | .tmp t :: r, k => resA s r fun vs => k (ev X s (.tmp t) :: vs)
 | .cell a t :: r, k => (match place X s none (.tmp a) with
  | some (b, off) => ((A.lb (s.sl.getD b .undef)).bind fun cs => partT X t off cs).bind fun v => resA s r fun vs => k (v :: vs)
  | none => ((A.deref (ev X s (.tmp a)) s.σ).bind fun cs => partT X t 0 cs).bind fun v => resA s r fun vs => k (v :: vs))
def one : List AV → AV
 | [v] => v
 | vs => .tup vs
def A.fin (σ : Heap) (r : AV) (σ' : Heap) : Option (AV × Heap) := open Classical in
 if σ' = σ then some (r, σ) else if σ'.take σ.length = σ then (A.frz σ' σ.length 8 r).map fun r => (r, σ) else none
noncomputable def A.canM (es : List (AV × AV)) : List (AV × AV) := Classical.choose (p := fun l : List (AV × AV) => l.Perm es) ⟨es, .refl _⟩
noncomputable def A.can (x : AV) : AV := match x with
 | .fm es => open Classical in if DistK es then .fm (A.canM es) else .fm es
 | x => x
noncomputable def A.frzB (σ : Heap) (n : Nat) (x : Blk) : Option Blk := match x with
 | .box cs => (A.frzL σ n 8 cs).map fun cs => .box (cs.map A.can)
 | .arr g sz es => (A.frzLL σ n 8 es).map fun es => .arr g sz (es.map (·.map A.can))
 | .arrF g sz es => (A.frzLL σ n 8 es).map fun es => .arrF g sz (es.map (·.map A.can))
 | .map es => (A.frzM σ n 8 es).map .map
 | .it _ _ => none
noncomputable def A.frzBs (σ : Heap) (n : Nat) : Heap → Heap → Option Heap
 | [], _ => some []
 | _ :: _, [] => none
 | b :: r, b' :: r' => open Classical in (if b' = b then some b else A.frzB σ n b').bind fun x => (A.frzBs σ n r r').map (x :: ·)
noncomputable def A.finG (σ : Heap) (v : AV) (σ' : Heap) : Option (AV × Heap) := (A.frzBs σ' σ.length σ σ').bind fun τ => (A.frz σ' σ.length 8 v).map fun r => (r, τ)
inductive Back where
 | K
 | F
  | N (f : AV → AV)
  | G
  | R
def A.gen : List AV → Nat
 | [] => 0
 | x :: r => (match x with | .os _ g _ _ len => g + len | .sl _ es => es.length | _ => 0) + A.gen r
def A.rowsOf : List AV → List (List AV)
 | [] => []
 | x :: r => (match x with | .sl _ es => es | _ => []) ++ A.rowsOf r
def A.merge (args : List AV) (σ : Heap) (sz : Nat) (seg : List (List AV)) (id : Nat) (σ' : Heap) : Option (AV × Heap) := match args with
 | .os id0 _ _ _ _ :: _ => match σ[id0]? with
  | some (.arr g1 sz1 es1) => open Classical in if id = σ.length ∧ σ'.length = σ.length + 1 ∧ sz1 = sz ∧ g1 < A.gen args + 1 ∧ (∀ j, j < σ.length → j ≠ id0 → σ'[j]? = σ[j]?) ∧ σ'[id0]? = some (.arrF g1 sz1 es1) ∧ (∀ y ∈ seg, y ∈ es1 ∨ y ∈ A.rowsOf args) then
    some (.os id0 (A.gen args + 1) sz 0 seg.length, σ.set id0 (.arr (A.gen args + 1) sz seg)) else none
  | _ => none
 | _ => none
def A.hdOs : List AV → Bool
 | .os .. :: _ => true
 | _ => false
def A.renew (args : List AV) (σ : Heap) (v : AV) (σ' : Heap) : Option (AV × Heap) := match v with
 | .os id g sz off len => match σ'[id]? with
  | some (.arr g' sz' es) => if g = g' ∧ sz = sz' ∧ off + len ≤ es.length ∧ g < A.gen args + 1 then
    (if id < σ.length ∨ A.hdOs args = false then some (.os id (A.gen args + 1) sz 0 len, σ'.set id (.arr (A.gen args + 1) sz ((es.drop off).take len))) else A.merge args σ sz ((es.drop off).take len) id σ') else none
  | _ => none
 | .nsl => some (.nsl, σ')
 | .ez => some (.ez, σ')
 | .sl sz [] => some (.sl sz [], σ')
 | _ => none
def Back.run (f : Back) (args : List AV) (σ : Heap) (v : AV) (σ' : Heap) : Option (AV × Heap) := match f with
 | .K => some (v, σ')
 | .F => A.fin σ v σ'
 | .N g => (A.fin σ v σ').map fun p => (g p.1, p.2)
 | .G => A.finG σ v σ'
 | .R => A.renew args σ v σ'
def runA (fin : Back) (ann : Ann) (fn : Func) (args : List AV) (σ : Heap) : Option (AV × Heap) :=
 match fn.body with
 | some c => bif !(Nat.ble args.length fn.ntmps && X.n == fn.ntmps) then none else exec X ann c ⟨args ++ List.replicate (fn.ntmps - args.length) (.tup []), fun _ => none, σ⟩ fun e s => match e with
  | .exit _ => none
  | _ => resA X s fn.results.toList fun vs => fin.run args σ (one vs) s.σ
 | none => none
end
end
end Go.Proofs.YtfalbgflabajbaaDoor

namespace Go.Proofs.YtfalbgflabajbaaDoor
set_option linter.unusedSectionVars false
set_option linter.unusedVariables false
set_option linter.unusedSimpArgs false

structure Pl where
 b : Nat
 base : Nat
 g : Nat
 sz : Nat
 csz : Nat
structure RC where
 w : World
 E : List Pl
 X : Nat → Prop
 nm : List Nat
def MapWf (es : Array MapEntry) (clock : Nat) : Prop := (∀ e ∈ es.toList, e.born < clock) ∧ (es.toList.map (·.born)).Nodup
def PermOk (es : List (AV × AV)) (l L : List MapEntry) : Prop := l = L ∨ (l.Perm L ∧ DistK es)
mutual
def Rep (c : RC) : AV → Value → Prop
 | .undef, _ => True
 | .int k n, v => v = .int k n
 | .bool b, v => v = .bool b
 | .str s, v => v = .string s
 | .agg cs, v => ∃ vs, v = .agg vs ∧ RepL c cs vs.toList ∧ ∀ x ∈ vs.toList, one1 x = true
 | .tup cs, v => ∃ vs, v = .tuple vs ∧ RepL c cs vs.toList
 | .sl sz es, v => ∃ a cap, v = .slice a es.length cap ∧ es.length ≤ cap ∧ 0 < sz ∧ (es = [] ∨ ∃ b off, a = some ⟨b, off, none⟩ ∧ b < c.w.heap.size ∧ ¬ c.X b ∧ RepEs c sz b off es)
 | .nsl, v => v = .slice none 0 0
 | .ez, v => ∃ a, v = .slice a 0 0
 | .rp cs, v => ∃ b off, v = .pointer (some ⟨b, off, none⟩) ∧ b < c.w.heap.size ∧ ¬ c.X b ∧ RepCs c b off cs
 | .np, v => v = .pointer none
 | .op id off, v => ∃ p, c.E[id]? = some p ∧ p.g = 0 ∧ v = .pointer (some ⟨p.b, off, none⟩)
 | .oe id g i off, v => 0 < g ∧ ∃ p, c.E[id]? = some p ∧ g ≤ p.g ∧ ∃ a, v = .pointer (some a) ∧ (g = p.g → a = ⟨p.b, p.base + i * p.sz + off, none⟩)
 | .os id g sz off len, v => 0 < g ∧ ∃ p, c.E[id]? = some p ∧ g ≤ p.g ∧ ∃ a cap, v = .slice (some a) len cap ∧ len ≤ cap ∧ (g = p.g → p.sz = sz ∧ (cap = 0 ∨ a = ⟨p.b, p.base + off * p.sz, none⟩) ∧ p.base + (off + cap) * p.sz = p.csz)
 | .om id, v => ∃ p, c.E[id]? = some p ∧ p.g = 0 ∧ v = .map (some p.b)
 | .fm es, v => ∃ b, v = .map (some b) ∧ b < c.w.heap.size ∧ ¬ c.X b ∧ ∃ ents clock, c.w.heap[b]? = some (.map ents clock) ∧ MapWf ents clock ∧ ∃ l, RepM c es l ∧ PermOk es l ents.toList
 | .nm, v => v = .map none
 | .fn n caps, v => ∃ f vs, v = .func (.func f) #[] vs ∧ c.nm.getD f 0 = n ∧ RepL c caps vs.toList
 | .nfn, v => v = .nilFunc
 | .lbx _, _ => False
def RepL (c : RC) : List AV → List Value → Prop
 | [], vs => vs = []
 | a :: r, vs => ∃ v vs', vs = v :: vs' ∧ Rep c a v ∧ RepL c r vs'
def RepM (c : RC) : List (AV × AV) → List MapEntry → Prop
 | [], es => es = []
 | (k, v) :: r, es => ∃ e es', es = e :: es' ∧ Rep c k e.key ∧ Rep c v e.val ∧ RepM c r es'
def RepCs (c : RC) (b : Nat) : Nat → List AV → Prop
 | _, [] => True
 | off, a :: r => (∃ v, c.w.cell? ⟨b, off, none⟩ = some v ∧ one1 v = true ∧ Rep c a v) ∧ RepCs c b (off + 1) r
def RepEs (c : RC) (sz b : Nat) : Nat → List (List AV) → Prop
 | _, [] => True
 | off, e :: r => e.length = sz ∧ RepCs c b off e ∧ RepEs c sz b (off + sz) r
end
structure Ext (c c' : RC) : Prop where
 size : c.w.heap.size ≤ c'.w.heap.size
 stay : ∀ b, b < c.w.heap.size → ¬ c.X b → c'.w.heap[b]? = c.w.heap[b]? ∧ ¬ c'.X b
 env : ∀ (i : Nat) (p : Pl), c.E[i]? = some p → ∃ p' : Pl, c'.E[i]? = some p' ∧ (p' = p ∨ (0 < p.g ∧ p.g < p'.g))
 nm : c'.nm = c.nm
theorem cell_of_block {w w' : World} {b off : Nat} (h : w'.heap[b]? = w.heap[b]?) : w'.cell? ⟨b, off, none⟩ = w.cell? ⟨b, off, none⟩ := by simp [World.cell?, h]
mutual
theorem Rep.mono {c c' : RC} (h : Ext c c') : ∀ (a : AV) (v : Value), Rep c a v → Rep c' a v
 | .undef, _, _ => by simp [Rep]
 | .int k n, v, r => by simpa [Rep] using r
 | .bool b, v, r => by simpa [Rep] using r
 | .str s, v, r => by simpa [Rep] using r
 | .agg cs, v, r => by
  simp only [Rep] at r ⊢
  obtain ⟨vs, e, r, k⟩ := r
  exact ⟨vs, e, RepL.mono h cs _ r, k⟩
 | .tup cs, v, r => by
  simp only [Rep] at r ⊢
  obtain ⟨vs, e, r⟩ := r
  exact ⟨vs, e, RepL.mono h cs _ r⟩
 | .sl sz es, v, r => by
  simp only [Rep] at r ⊢
  obtain ⟨a, cap, e, h1, h2, r⟩ := r
  refine ⟨a, cap, e, h1, h2, ?_⟩
  rcases r with r | ⟨b, off, e, hb, hx, r⟩
  ·exact .inl r
  ·exact .inr ⟨b, off, e, Nat.lt_of_lt_of_le hb h.size, (h.stay b hb hx).2, RepEs.mono h sz b (h.stay b hb hx).1 es off r⟩
 | .nsl, v, r => by simpa [Rep] using r
 | .ez, v, r => by simpa [Rep] using r
 | .rp cs, v, r => by
  simp only [Rep] at r ⊢
  obtain ⟨b, off, e, hb, hx, r⟩ := r
  exact ⟨b, off, e, Nat.lt_of_lt_of_le hb h.size, (h.stay b hb hx).2, RepCs.mono h b (h.stay b hb hx).1 cs off r⟩
 | .np, v, r => by simpa [Rep] using r
 | .op id off, v, r => by
  simp only [Rep] at r ⊢
  obtain ⟨p, h1, h2, e⟩ := r
  obtain ⟨p', h3, h4⟩ := h.env _ _ h1
  rcases h4 with rfl | ⟨h4, _⟩
  ·exact ⟨p', h3, h2, e⟩
  ·omega
 | .oe id g i off, v, r => by
  simp only [Rep] at r ⊢
  obtain ⟨hg, p, h1, h2, a, e, r⟩ := r
  obtain ⟨p', h3, h4⟩ := h.env _ _ h1
  rcases h4 with rfl | ⟨h4, h5⟩
  ·exact ⟨hg, p', h3, h2, a, e, r⟩
  ·exact ⟨hg, p', h3, by omega, a, e, fun k => by omega⟩
 | .os id g sz off len, v, r => by
  simp only [Rep] at r ⊢
  obtain ⟨hg, p, h1, h2, a, cap, e, h6, r⟩ := r
  obtain ⟨p', h3, h4⟩ := h.env _ _ h1
  rcases h4 with rfl | ⟨h4, h5⟩
  ·exact ⟨hg, p', h3, h2, a, cap, e, h6, r⟩
  ·exact ⟨hg, p', h3, by omega, a, cap, e, h6, fun k => by omega⟩
 | .om id, v, r => by
  simp only [Rep] at r ⊢
  obtain ⟨p, h1, h2, e⟩ := r
  obtain ⟨p', h3, h4⟩ := h.env _ _ h1
  rcases h4 with rfl | ⟨h4, _⟩
  ·exact ⟨p', h3, h2, e⟩
  ·omega
 | .nm, v, r => by simpa [Rep] using r
 | .fm es, v, r => by
  simp only [Rep] at r ⊢
  obtain ⟨b, e, hb, hx, ents, clock, h1, hw, l, h2, h3⟩ := r
  exact ⟨b, e, Nat.lt_of_lt_of_le hb h.size, (h.stay b hb hx).2, ents, clock, (h.stay b hb hx).1.trans h1, hw, l, RepM.mono' h es _ h2, h3⟩
 | .fn n caps, v, r => by
  simp only [Rep] at r ⊢
  obtain ⟨f, vs, e, h1, r⟩ := r
  exact ⟨f, vs, e, by rw [h.nm]; exact h1, RepL.mono h caps _ r⟩
 | .nfn, v, r => by simpa [Rep] using r
 | .lbx _, v, r => by simp [Rep] at r
theorem RepM.mono' {c c' : RC} (h : Ext c c') : ∀ (l : List (AV × AV)) (es : List MapEntry), RepM c l es → RepM c' l es
 | [], es, r => by simpa [RepM] using r
 | (k, v) :: l, es, r => by
  simp only [RepM] at r ⊢
  obtain ⟨e, es', h1, h2, h3, h4⟩ := r
  exact ⟨e, es', h1, Rep.mono h k _ h2, Rep.mono h v _ h3, RepM.mono' h l es' h4⟩
theorem RepL.mono {c c' : RC} (h : Ext c c') : ∀ (l : List AV) (vs : List Value), RepL c l vs → RepL c' l vs
 | [], vs, r => by simpa [RepL] using r
 | a :: l, vs, r => by
  simp only [RepL] at r ⊢
  obtain ⟨v, vs', e, h1, h2⟩ := r
  exact ⟨v, vs', e, Rep.mono h a v h1, RepL.mono h l vs' h2⟩
theorem RepCs.mono {c c' : RC} (h : Ext c c') (b : Nat) (hb : c'.w.heap[b]? = c.w.heap[b]?) : ∀ (l : List AV) (off : Nat), RepCs c b off l → RepCs c' b off l
 | [], off, r => by simp [RepCs]
 | a :: l, off, r => by
  simp only [RepCs] at r ⊢
  obtain ⟨⟨v, h1, h2, h3⟩, r⟩ := r
  exact ⟨⟨v, by rw [cell_of_block hb]; exact h1, h2, Rep.mono h a v h3⟩, RepCs.mono h b hb l (off + 1) r⟩
theorem RepEs.mono {c c' : RC} (h : Ext c c') (sz b : Nat) (hb : c'.w.heap[b]? = c.w.heap[b]?) : ∀ (l : List (List AV)) (off : Nat), RepEs c sz b off l → RepEs c' sz b off l
 | [], off, r => by simp [RepEs]
 | e :: l, off, r => by
  simp only [RepEs] at r ⊢
  obtain ⟨h1, h2, r⟩ := r
  exact ⟨h1, RepCs.mono h b hb e off h2, RepEs.mono h sz b hb l (off + sz) r⟩
end
theorem Ext.trans {a b c : RC} (h : Ext a b) (k : Ext b c) : Ext a c := by
 refine ⟨Nat.le_trans h.size k.size, fun x hx hn => ?_, fun i p hp => ?_, k.nm.trans h.nm⟩
 ·obtain ⟨h1, h2⟩ := h.stay x hx hn
  obtain ⟨h3, h4⟩ := k.stay x (Nat.lt_of_lt_of_le hx h.size) h2
  exact ⟨h3.trans h1, h4⟩
 ·obtain ⟨p', h1, h2⟩ := h.env i p hp
  obtain ⟨p'', h3, h4⟩ := k.env i p' h1
  refine ⟨p'', h3, ?_⟩
  rcases h2 with rfl | ⟨h2, h5⟩
  ·exact h4
  ·rcases h4 with rfl | ⟨h6, h7⟩
   ·exact .inr ⟨h2, h5⟩
   ·exact .inr ⟨h2, by omega⟩

theorem RepL.length {c : RC} : ∀ {l : List AV} {vs : List Value}, RepL c l vs → l.length = vs.length
 | [], vs, h => by simp only [RepL] at h; subst h; rfl
 | a :: l, vs, h => by
  simp only [RepL] at h
  obtain ⟨v, vs', rfl, _, h2⟩ := h
  simp [RepL.length h2]
theorem RepL.nth {c : RC} : ∀ {l : List AV} {vs : List Value} {i : Nat} {a : AV}, RepL c l vs → l[i]? = some a → ∃ v, vs[i]? = some v ∧ Rep c a v
 | [], vs, i, a, h, k => by simp at k
 | x :: l, vs, 0, a, h, k => by
  simp only [RepL] at h
  obtain ⟨v, vs', rfl, h1, _⟩ := h
  simp at k; subst k
  exact ⟨v, rfl, h1⟩
 | x :: l, vs, i + 1, a, h, k => by
  simp only [RepL] at h
  obtain ⟨v, vs', rfl, _, h2⟩ := h
  simp at k
  obtain ⟨u, h3, h4⟩ := RepL.nth h2 k
  exact ⟨u, by simpa using h3, h4⟩
theorem RepL.append {c : RC} : ∀ {l m : List AV} {vs us : List Value}, RepL c l vs → RepL c m us → RepL c (l ++ m) (vs ++ us)
 | [], m, vs, us, h, k => by simp only [RepL] at h; subst h; simpa using k
 | a :: l, m, vs, us, h, k => by
  simp only [RepL] at h
  obtain ⟨v, vs', rfl, h1, h2⟩ := h
  simp only [List.cons_append, RepL]
  exact ⟨v, _, rfl, h1, h2.append k⟩
theorem RepL.take {c : RC} : ∀ {l : List AV} {vs : List Value} (n : Nat), RepL c l vs → RepL c (l.take n) (vs.take n)
 | [], vs, n, h => by simp only [RepL] at h; subst h; simp [RepL]
 | a :: l, vs, 0, h => by simp [RepL]
 | a :: l, vs, n + 1, h => by
  simp only [RepL] at h
  obtain ⟨v, vs', rfl, h1, h2⟩ := h
  simp only [List.take_succ_cons, RepL]
  exact ⟨v, _, rfl, h1, h2.take n⟩
theorem RepL.drop {c : RC} : ∀ {l : List AV} {vs : List Value} (n : Nat), RepL c l vs → RepL c (l.drop n) (vs.drop n)
 | [], vs, n, h => by simp only [RepL] at h; subst h; simp [RepL]
 | a :: l, vs, 0, h => by simpa using h
 | a :: l, vs, n + 1, h => by
  simp only [RepL] at h
  obtain ⟨v, vs', rfl, h1, h2⟩ := h
  simp only [List.drop_succ_cons]
  exact h2.drop n
theorem RepL.map {c : RC} {α : Type} (f : α → AV) (g : α → Value) : ∀ (l : List α), (∀ x ∈ l, Rep c (f x) (g x)) → RepL c (l.map f) (l.map g)
 | [], _ => by simp [RepL]
 | a :: l, h => by
  simp only [List.map_cons, RepL]
  exact ⟨_, _, rfl, h a (by simp), RepL.map f g l (fun x hx => h x (by simp [hx]))⟩
theorem RepL.single {c : RC} {a : AV} {v : Value} (h : Rep c a v) : RepL c [a] [v] := by simp only [RepL]; exact ⟨v, [], rfl, h, rfl⟩
theorem RepCs.nth {c : RC} {b : Nat} : ∀ {l : List AV} {off i : Nat} {a : AV}, RepCs c b off l → l[i]? = some a → ∃ v, c.w.cell? ⟨b, off + i, none⟩ = some v ∧ one1 v = true ∧ Rep c a v
 | [], off, i, a, h, k => by simp at k
 | x :: l, off, 0, a, h, k => by
  simp only [RepCs] at h
  simp at k; subst k
  exact h.1
 | x :: l, off, i + 1, a, h, k => by
  simp only [RepCs] at h
  simp at k
  have := RepCs.nth h.2 k
  rwa [show off + 1 + i = off + (i + 1) by omega] at this
theorem RepCs.of {c : RC} {b : Nat} : ∀ {l : List AV} {off : Nat}, (∀ i a, l[i]? = some a → ∃ v, c.w.cell? ⟨b, off + i, none⟩ = some v ∧ one1 v = true ∧ Rep c a v) → RepCs c b off l
 | [], off, h => by simp [RepCs]
 | x :: l, off, h => by
  simp only [RepCs]
  refine ⟨by simpa using h 0 x rfl, RepCs.of fun i a hi => ?_⟩
  have := h (i + 1) a (by simpa using hi)
  rwa [show off + (i + 1) = off + 1 + i by omega] at this
theorem RepCs.drop {c : RC} {b : Nat} {l : List AV} {off : Nat} (n : Nat) (h : RepCs c b off l) : RepCs c b (off + n) (l.drop n) :=
 RepCs.of fun i a hi => by
  have := RepCs.nth h (i := n + i) (a := a) (by rw [← hi, List.getElem?_drop])
  rwa [show off + (n + i) = off + n + i by omega] at this
theorem RepCs.take {c : RC} {b : Nat} {l : List AV} {off : Nat} (n : Nat) (h : RepCs c b off l) : RepCs c b off (l.take n) :=
 RepCs.of fun i a hi => by
  have : l[i]? = some a := by
   rw [List.getElem?_take] at hi
   split at hi
   ·exact hi
   ·cases hi
  exact RepCs.nth h this
theorem RepEs.nth {c : RC} {sz b : Nat} : ∀ {l : List (List AV)} {off i : Nat} {e : List AV}, RepEs c sz b off l → l[i]? = some e → e.length = sz ∧ RepCs c b (off + i * sz) e
 | [], off, i, e, h, k => by simp at k
 | x :: l, off, 0, e, h, k => by
  simp only [RepEs] at h
  simp at k; subst k
  exact ⟨h.1, by simpa using h.2.1⟩
 | x :: l, off, i + 1, e, h, k => by
  simp only [RepEs] at h
  simp at k
  have := RepEs.nth h.2.2 k
  rwa [show off + sz + i * sz = off + (i + 1) * sz by rw [Nat.add_mul]; omega] at this
theorem RepEs.of {c : RC} {sz b : Nat} : ∀ {l : List (List AV)} {off : Nat}, (∀ i e, l[i]? = some e → e.length = sz ∧ RepCs c b (off + i * sz) e) → RepEs c sz b off l
 | [], off, h => by simp [RepEs]
 | x :: l, off, h => by
  simp only [RepEs]
  have h0 := h 0 x rfl
  simp at h0
  refine ⟨h0.1, h0.2, RepEs.of fun i e hi => ?_⟩
  have := h (i + 1) e (by simpa using hi)
  rwa [show off + (i + 1) * sz = off + sz + i * sz by rw [Nat.add_mul]; omega] at this
theorem RepEs.drop {c : RC} {sz b : Nat} {l : List (List AV)} {off : Nat} (n : Nat) (h : RepEs c sz b off l) : RepEs c sz b (off + n * sz) (l.drop n) :=
 RepEs.of fun i e hi => by
  have := RepEs.nth h (i := n + i) (e := e) (by rw [← hi, List.getElem?_drop])
  rwa [show off + (n + i) * sz = off + n * sz + i * sz by rw [Nat.add_mul]; omega] at this
theorem RepEs.take {c : RC} {sz b : Nat} {l : List (List AV)} {off : Nat} (n : Nat) (h : RepEs c sz b off l) : RepEs c sz b off (l.take n) :=
 RepEs.of fun i e hi => by
  have : l[i]? = some e := by
   rw [List.getElem?_take] at hi
   split at hi
   ·exact hi
   ·cases hi
  exact RepEs.nth h this
end Go.Proofs.YtfalbgflabajbaaDoor

namespace Go.Proofs.YtfalbgflabajbaaDoor
set_option linter.unusedSectionVars false
set_option linter.unusedSimpArgs false
set_option linter.unusedVariables false
theorem gPow : Tryd.prog.globalNamed "internal/strconv.uint64pow10" = some 0 := by kernel_rfl
def tabOk (w : World) (free : Nat → Prop) : Prop := Lib.TabIs Tryd.prog w "internal/strconv.uint64pow10" .u64 Lib.pow10Tab ∧ 0 < w.heap.size ∧ ¬ free 0
theorem tabOk.to {w w' : World} {free free' : Nat → Prop} (h : tabOk w free) (hs : w.heap.size ≤ w'.heap.size) (hk : ∀ b, b < w.heap.size → ¬ free b → w'.heap[b]? = w.heap[b]?) (hf : ∀ b, b < w.heap.size → free' b → free b) : tabOk w' free' := by
 obtain ⟨h1, h2, h3⟩ := h
 refine ⟨?_, Nat.lt_of_lt_of_le h2 hs, fun k => h3 (hf _ h2 k)⟩
 have e := hk _ h2 h3
 unfold Lib.TabIs World.var? at h1 ⊢
 rw [gPow, Option.bind_some] at h1 ⊢
 rw [e]; exact h1
end Go.Proofs.YtfalbgflabajbaaDoor

namespace Go.Proofs.YtfalbgflabajbaaDoor
set_option linter.unusedSectionVars false
open Go.RowKit
set_option linter.unusedVariables false
set_option linter.unusedSimpArgs false

def BoxAt (c : RC) (b : Nat) (cs : List AV) : Prop := (∃ arr t, c.w.heap[b]? = some (.cells arr t (0, 0)) ∧ arr.size = cs.length) ∧ RepCs c b 0 cs
def OneB (c : RC) (b : Nat) : Prop := ∀ arr t fz, c.w.heap[b]? = some (.cells arr t fz) → ∀ x ∈ arr.toList, one1 x = true
def ItAt (c : RC) (b : Nat) (cur left : List (AV × AV)) : Prop := (cur = [] ∧ left = [] ∧ ∃ since seen last, c.w.heap[b]? = some (.mapIter none since seen last)) ∨
 ∃ m seen ents clock, c.w.heap[b]? = some (.mapIter (some m) clock seen clock) ∧ m < c.w.heap.size ∧ ¬ c.X m ∧ c.w.heap[m]? = some (.map ents clock) ∧ MapWf ents clock ∧ (∃ l, RepM c left l ∧ l.Perm (ents.toList.filter fun e => !seen.contains e.born)) ∧
  (cur = [] ∨ ∃ k v e, cur = [(k, v)] ∧ seen.back? = some e.born ∧ e ∈ ents.toList ∧ Rep c k e.key ∧ Rep c v e.val)
def BlkAt (c : RC) (p : Pl) : Blk → Prop
 | .box cs => p.g = 0 ∧ BoxAt c p.b cs
 | .arr g sz es => p.g = g ∧ 0 < g ∧ p.sz = sz ∧ 0 < sz ∧ (∃ arr t, c.w.heap[p.b]? = some (.cells arr t (0, 0)) ∧ arr.size = p.csz) ∧ p.base + es.length * sz ≤ p.csz ∧ RepEs c sz p.b p.base es ∧ OneB c p.b
 | .arrF g sz es => p.g = g ∧ 0 < g ∧ p.sz = sz ∧ 0 < sz ∧ (∃ arr t, c.w.heap[p.b]? = some (.cells arr t (0, 0)) ∧ arr.size = p.csz) ∧ p.base + es.length * sz = p.csz ∧ RepEs c sz p.b p.base es ∧ OneB c p.b
 | .map es => p.g = 0 ∧ ∃ ents clock, c.w.heap[p.b]? = some (.map ents clock) ∧ MapWf ents clock ∧ RepM c es ents.toList
 | .it cur left => p.g = 0 ∧ ItAt c p.b cur left
structure HeapRel (c : RC) (σ : Heap) : Prop where
 len : c.E.length = σ.length
 inj : ∀ (i j : Nat) (p q : Pl), c.E[i]? = some p → c.E[j]? = some q → p.b = q.b → i = j
 blk : ∀ (i : Nat) (p : Pl) (x : Blk), c.E[i]? = some p → σ[i]? = some x → BlkAt c p x
structure Z where
 w : World
 E : List Pl
 X : Nat → Prop
 nm : List Nat
def ctx (z : Z) (w : World) (E : List Pl) (pb : Nat → Option Nat) : RC := ⟨w, E, fun b => z.X b ∨ (∃ p ∈ E, p.b = b) ∨ ∃ i, pb i = some b, z.nm⟩
def zFree (z : Z) (b : Nat) : Prop := z.X b ∨ ∃ p ∈ z.E, p.b = b
structure ZLt (z : Z) : Prop where
 f : ∀ b, z.X b → b < z.w.heap.size
 tab : tabOk z.w (zFree z)
instance {z : Z} : CoeFun (ZLt z) (fun _ => ∀ b, z.X b → b < z.w.heap.size) := ⟨ZLt.f⟩
theorem ZLt.none {z : Z} (h : ZLt z) {nm : List Nat} : ZLt ⟨z.w, [], fun _ => False, nm⟩ :=
 ⟨fun _ (k : False) => k.elim, h.tab.to (Nat.le_refl _) (fun _ _ _ => rfl) fun b _ k => by rcases k with k | ⟨p, hp, _⟩; exact (show False from k).elim; cases hp⟩
structure Out (z : Z) (w : World) (E : List Pl) : Prop where
 os : w.os = z.w.os
 tape : w.tape = z.w.tape
 output : w.output = z.w.output
 size : z.w.heap.size ≤ w.heap.size
 stay : ∀ b, b < z.w.heap.size → (∀ p ∈ z.E, p.b ≠ b) → w.heap[b]? = z.w.heap[b]?
 fresh' : ∀ (i : Nat) (p : Pl), E[i]? = some p → z.w.heap.size ≤ p.b ∨ ∃ q : Pl, z.E[i]? = some q ∧ q.b = p.b
 env : ∀ (i : Nat) (p : Pl), z.E[i]? = some p → ∃ p' : Pl, E[i]? = some p' ∧ (p' = p ∨ (0 < p.g ∧ p.g < p'.g))
 lt : ZLt z
 mine : ∀ p ∈ z.E, p.b < z.w.heap.size
theorem Out.fresh {z : Z} {w : World} {E : List Pl} (h : Out z w E) (p : Pl) (hp : p ∈ E) : z.w.heap.size ≤ p.b ∨ ∃ q ∈ z.E, q.b = p.b := by
 obtain ⟨i, hi, rfl⟩ := List.mem_iff_getElem.1 hp
 rcases h.fresh' i E[i] (by simp [hi]) with k | ⟨q, hq, k⟩
 ·exact .inl k
 ·exact .inr ⟨q, List.mem_of_getElem? hq, k⟩
def Slot (c : RC) (pb : Nat → Option Nat) (i : Nat) (av : AV) (v : Value) : Prop := match av with
 | .lbx cs => ∃ b, pb i = some b ∧ v = .pointer (some ⟨b, 0, none⟩) ∧ BoxAt c b cs
 | av => Rep c av v
def tagOk (a : Act) : Option (Nat × Bool) → Prop
 | none => True
 | some (g, want) => a.tmps.getD g undef = .bool want
structure St (X : Fx) (z : Z) (s : AS) (a : Act) (w : World) (E : List Pl) (pb : Nat → Option Nat) : Prop where
 len : a.tmps.size = s.sl.length
 lenN : s.sl.length = X.n
 slot : ∀ i av, s.sl[i]? = some av → Slot (ctx z w E pb) pb i av (a.tmps.getD i undef)
 box : ∀ i cs, s.sl[i]? = some (.lbx cs) → X.L.contains i = true
 adr : ∀ t p, s.A t = some p → tagOk a p.tag → ∃ b, pb p.slot = some b ∧ a.tmps.getD t undef = .pointer (some ⟨b, p.off, none⟩)
 priv : ∀ i b, pb i = some b → z.w.heap.size ≤ b ∧ b < w.heap.size ∧ ∀ p ∈ E, p.b ≠ b
 inj : ∀ i j b, pb i = some b → pb j = some b → i = j
 heap : HeapRel (ctx z w E pb) s.σ
 defers : a.defers = []
 out : Out z w E
 nm : X.nm = z.nm

theorem BoxAt.mono {c c' : RC} (h : Ext c c') {b : Nat} {cs : List AV} (hb : c'.w.heap[b]? = c.w.heap[b]?) (k : BoxAt c b cs) : BoxAt c' b cs :=
 ⟨by rw [hb]; exact k.1, RepCs.mono h b hb cs 0 k.2⟩
theorem RepM.mono {c c' : RC} (h : Ext c c') {l : List (AV × AV)} {es : List MapEntry} (r : RepM c l es) : RepM c' l es := RepM.mono' h l es r
theorem oneB_of {c : RC} {b : Nat} {arr : Array Value} {t : TypeId} {fz : Nat × Nat} (h : c.w.heap[b]? = some (.cells arr t fz)) (ho : ∀ x ∈ arr.toList, one1 x = true) : OneB c b := fun arr' t' fz' e => by
 rw [h] at e; injection e with e; injection e with e1; subst e1; exact ho
theorem BlkAt.mono {c c' : RC} (h : Ext c c') {p : Pl} {x : Blk} (hb : c'.w.heap[p.b]? = c.w.heap[p.b]?) (k : BlkAt c p x) : BlkAt c' p x := by
 cases x with
 | box cs => exact ⟨k.1, k.2.mono h hb⟩
 | arr g sz es =>
  obtain ⟨h1, h2, h3, h4, h5, h6, h7, h8⟩ := k
  exact ⟨h1, h2, h3, h4, by rw [hb]; exact h5, h6, RepEs.mono h sz _ hb es _ h7, fun arr t fz e => h8 arr t fz (hb ▸ e)⟩
 | arrF g sz es =>
  obtain ⟨h1, h2, h3, h4, h5, h6, h7, h8⟩ := k
  exact ⟨h1, h2, h3, h4, by rw [hb]; exact h5, h6, RepEs.mono h sz _ hb es _ h7, fun arr t fz e => h8 arr t fz (hb ▸ e)⟩
 | map es =>
  obtain ⟨h1, ents, clock, h2, hw, h3⟩ := k
  exact ⟨h1, ents, clock, by rw [hb]; exact h2, hw, h3.mono h⟩
 | it cur left =>
  obtain ⟨h1, h2⟩ := k
  refine ⟨h1, ?_⟩
  rcases h2 with ⟨h2, h2', since, seen, last, h3⟩ | ⟨m, seen, ents, clock, h3, h4, h5, h6, h7, h8, h9⟩
  ·exact .inl ⟨h2, h2', since, seen, last, by rw [hb]; exact h3⟩
  ·refine .inr ⟨m, seen, ents, clock, by rw [hb]; exact h3, Nat.lt_of_lt_of_le h4 h.size, (h.stay m h4 h5).2, by rw [(h.stay m h4 h5).1]; exact h6, h7, h8.imp fun _ q => ⟨q.1.mono h, q.2⟩, ?_⟩
   rcases h9 with h9 | ⟨k, v, e, e1, e2, e3, e4, e5⟩
   ·exact .inl h9
   ·exact .inr ⟨k, v, e, e1, e2, e3, Rep.mono h _ _ e4, Rep.mono h _ _ e5⟩
theorem BlkAt.lt {c : RC} {p : Pl} {x : Blk} (k : BlkAt c p x) : p.b < c.w.heap.size := by
 have key : ∀ o, c.w.heap[p.b]? = some o → p.b < c.w.heap.size := fun o ho => (Array.getElem?_eq_some_iff.1 ho).1
 cases x with
 | box cs => obtain ⟨_, ⟨⟨arr, t, h, _⟩, _⟩⟩ := k; exact key _ h
 | arr g sz es => obtain ⟨_, _, _, _, ⟨arr, t, h, _⟩, _⟩ := k; exact key _ h
 | arrF g sz es => obtain ⟨_, _, _, _, ⟨arr, t, h, _⟩, _⟩ := k; exact key _ h
 | map es => obtain ⟨_, ents, clock, h, _⟩ := k; exact key _ h
 | it cur left => obtain ⟨_, ⟨_, _, _, _, _, h⟩ | ⟨_, _, _, _, h, _⟩⟩ := k <;> exact key _ h
theorem HeapRel.lt {c : RC} {σ : Heap} (h : HeapRel c σ) {p : Pl} (hp : p ∈ c.E) : p.b < c.w.heap.size := by
 obtain ⟨i, hi, rfl⟩ := List.mem_iff_getElem.1 hp
 have hs : i < σ.length := by rw [← h.len]; exact hi
 exact (h.blk i _ σ[i] (by simp [hi]) (by simp [hs])).lt
theorem HeapRel.mono {c c' : RC} {σ : Heap} (h : HeapRel c σ) (hx : Ext c c') (hE : c'.E = c.E) (hb : ∀ p ∈ c.E, c'.w.heap[p.b]? = c.w.heap[p.b]?) : HeapRel c' σ := by
 refine ⟨by rw [hE]; exact h.len, by rw [hE]; exact h.inj, fun i p x hi hxx => ?_⟩
 rw [hE] at hi
 exact (h.blk i p x hi hxx).mono hx (hb p (List.mem_of_getElem? hi))
theorem Slot.rep {c : RC} {pb : Nat → Option Nat} {i : Nat} {av : AV} {v : Value} (h : Slot c pb i av v) (k : ∀ cs, av ≠ .lbx cs) : Rep c av v := by
 cases av <;> first | exact h | exact absurd rfl (k _)
theorem Slot.of {c : RC} {pb : Nat → Option Nat} {i : Nat} {av : AV} {v : Value} (h : Rep c av v) : Slot c pb i av v := by
 cases av <;> first | exact h | (simp [Rep] at h)
section
variable {X : Fx} {z : Z} {s : AS} {a : Act} {w w' : World} {E : List Pl} {pb : Nat → Option Nat}
theorem St.ext (h : St X z s a w E pb) {E' : List Pl} {pb' : Nat → Option Nat} {σ' : Heap} (hx : Ext (ctx z w E pb) (ctx z w' E' pb'))
  (hp : ∀ i b, pb i = some b → pb' i = some b ∧ w'.heap[b]? = w.heap[b]?) (hpriv : ∀ i b, pb' i = some b → z.w.heap.size ≤ b ∧ b < w'.heap.size ∧ ∀ p ∈ E', p.b ≠ b)
  (hinj : ∀ i j b, pb' i = some b → pb' j = some b → i = j) (hh : HeapRel (ctx z w' E' pb') σ') (ho : Out z w' E') : St X z (s.heap σ') a w' E' pb' := by
 refine ⟨h.len, h.lenN, fun i av hi => ?_, h.box, fun t p hp' ht => ?_, hpriv, hinj, hh, h.defers, ho, h.nm⟩
 ·have k := h.slot i av hi
  cases av with
  | lbx cs =>
   obtain ⟨b, h1, h2, h3⟩ := k
   exact ⟨b, (hp i b h1).1, h2, h3.mono hx (hp i b h1).2⟩
  | _ => exact Rep.mono hx _ _ k
 ·obtain ⟨b, h1, h2⟩ := h.adr t p hp' ht
  exact ⟨b, (hp _ b h1).1, h2⟩
theorem grow_ext (g : Below w.heap.size w w') : Ext (ctx z w E pb) (ctx z w' E pb) :=
 ⟨g.size, fun b hb hX => ⟨g.block b hb, hX⟩, fun i p h => ⟨p, h, .inl rfl⟩, rfl⟩
theorem Out.grow (h : Out z w E) (g : Below w.heap.size w w') : Out z w' E :=
 ⟨g.os.trans h.os, g.tape.trans h.tape, g.output.trans h.output, Nat.le_trans h.size g.size, fun b hb hp => (g.block b (Nat.lt_of_lt_of_le hb h.size)).trans (h.stay b hb hp), h.fresh', h.env, h.lt, h.mine⟩
theorem St.grow (h : St X z s a w E pb) (g : Below w.heap.size w w') : St X z s a w' E pb := by
 have hx : Ext (ctx z w E pb) (ctx z w' E pb) := grow_ext g
 exact h.ext (σ' := s.σ) hx (fun i b hb => ⟨hb, g.block b (h.priv i b hb).2.1⟩) (fun i b hb => ⟨(h.priv i b hb).1, Nat.lt_of_lt_of_le (h.priv i b hb).2.1 g.size, (h.priv i b hb).2.2⟩) h.inj
  (h.heap.mono hx rfl fun p hp => g.block _ (h.heap.lt hp)) (h.out.grow g)
theorem St.fresh (h : St X z s a w E pb) : ¬ (ctx z w E pb).X w.heap.size := by
 rintro (h1 | ⟨p, hp, e⟩ | ⟨i, hi⟩)
 ·have := h.out.lt _ h1; have := h.out.size; omega
 ·have := h.heap.lt hp; simp only [ctx] at this; omega
 ·have := (h.priv i _ hi).2.1; omega
theorem getD_set (l : Array Value) (d i : Nat) (v : Value) : (l.setIfInBounds d v).getD i undef = if i = d ∧ d < l.size then v else l.getD i undef := by
 by_cases h : d = i
 ·subst h
  by_cases hd : d < l.size
  ·simp [Array.getD, hd]
  ·simp [Array.getD, hd]
 ·have h' : ¬ i = d := fun e => h e.symm
  simp [Array.getD_eq_getD_getElem?, Array.getElem?_setIfInBounds_ne h, h']
theorem keepTag_some {d : Nat} {o : Option Pl0} {p : Pl0} (h : keepTag d o = some p) : o = some p ∧ ∀ g w, p.tag = some (g, w) → g ≠ d := by
 cases o with
 | none => simp [keepTag] at h
 | some q =>
  simp only [keepTag] at h
  cases hq : q.tag with
  | none =>
   rw [hq] at h; simp at h; subst h
   exact ⟨rfl, fun g w e => by rw [hq] at e; cases e⟩
  | some gw =>
   obtain ⟨g, w⟩ := gw
   rw [hq] at h
   simp only at h
   by_cases e : g = d
   ·simp [e] at h
   ·have : (g == d) = false := by simpa using e
    rw [this] at h
    simp at h; subst h
    exact ⟨rfl, fun g' w' e' => by rw [hq] at e'; injection e' with e'; injection e' with e1 e2; subst e1; exact e⟩
theorem tagOk_put {d : Nat} {v : Value} {tag : Option (Nat × Bool)} (h : ∀ g w, tag = some (g, w) → g ≠ d) (k : tagOk (a.put (some d) v) tag) : tagOk a tag := by
 cases tag with
 | none => trivial
 | some gw =>
  obtain ⟨g, want⟩ := gw
  have hg := h g want rfl
  simp only [tagOk, Act.put] at k ⊢
  rw [getD_set] at k
  rwa [if_neg (fun e => hg e.1)] at k
theorem St.put (h : St X z s a w E pb) (d : Option Nat) {av : AV} {v : Value} (hr : Rep (ctx z w E pb) av v) : St X z (s.put X d av) (a.put d v) w E pb := by
 cases d with
 | none => exact h
 | some d =>
  refine ⟨by simp [AS.put, Act.put, h.len], by simp [AS.put, h.lenN], fun i x hi => ?_, fun i cs hi => ?_, fun t p hp ht => ?_, h.priv, h.inj, h.heap, h.defers, h.out, h.nm⟩
  ·simp only [AS.put, Act.put] at hi ⊢
   rw [getD_set]
   rw [List.getElem?_set] at hi
   by_cases e : d = i
   ·subst e
    rw [if_pos rfl] at hi
    by_cases hd : d < s.sl.length
    ·rw [if_pos hd] at hi
     rw [if_pos ⟨rfl, by rw [h.len]; exact hd⟩]
     injection hi with hi
     subst hi
     cases X.L.contains d
     ·exact Slot.of hr
     ·exact trivial
    ·rw [if_neg hd] at hi; cases hi
   ·rw [if_neg e] at hi
    rw [if_neg (fun k => e k.1.symm)]
    exact h.slot i x hi
  ·simp only [AS.put] at hi
   rw [List.getElem?_set] at hi
   by_cases e : d = i
   ·subst e
    rw [if_pos rfl] at hi
    split at hi
    ·injection hi with hi
     cases hL : X.L.contains d
     ·rw [hL] at hi; simp at hi; subst hi; simp [Rep] at hr
     ·rfl
    ·cases hi
   ·rw [if_neg e] at hi
    exact h.box i cs hi
  ·simp only [AS.put] at hp
   by_cases e : t = d
   ·subst e; simp at hp
   ·have : (t == d) = false := by simpa using e
    rw [this] at hp
    simp at hp
    obtain ⟨hp, hg⟩ := keepTag_some hp
    obtain ⟨b, h1, h2⟩ := h.adr t p hp (tagOk_put hg ht)
    refine ⟨b, h1, ?_⟩
    simp only [Act.put]
    rw [getD_set, if_neg (fun k => e k.1)]
    exact h2
theorem St.adr' (h : St X z s a w E pb) (d : Option Nat) {sl off : Nat} {tag : Option (Nat × Bool)} {v : Value} (hv : tagOk a tag → ∃ b, pb sl = some b ∧ v = .pointer (some ⟨b, off, none⟩)) :
  St X z (s.adr X d sl off tag) (a.put d v) w E pb := by
 cases d with
 | none => exact h
 | some d =>
  have hput := h.put (some d) (av := .undef) (v := v) (by simp [Rep])
  have hsl : (s.put X (some d) .undef).sl = (s.adr X (some d) sl off tag).sl := by
   simp only [AS.put, AS.adr]; cases X.L.contains d <;> rfl
  refine ⟨by rw [← hsl]; exact hput.len, by rw [← hsl]; exact hput.lenN, by rw [← hsl]; exact hput.slot, by rw [← hsl]; exact hput.box, fun t p hp ht => ?_, h.priv, h.inj, h.heap, h.defers, h.out, h.nm⟩
  by_cases e : t = d
  ·subst e
   simp only [AS.adr] at hp
   simp only [beq_self_eq_true, cond_true] at hp
   cases hL : (X.L.contains t || !Nat.blt t X.n)
   ·rw [hL] at hp
    simp only [cond_false] at hp
    have hlt : t < a.tmps.size := by
     rw [h.len, h.lenN]
     simp only [Bool.or_eq_false_iff, Bool.not_eq_false'] at hL
     exact Nat.blt_eq.mp hL.2
    have key : p.slot = sl ∧ p.off = off ∧ tagOk a tag := by
     cases tag with
     | none => simp at hp; subst hp; exact ⟨rfl, rfl, trivial⟩
     | some gw =>
      obtain ⟨g, want⟩ := gw
      simp only at hp
      by_cases eg : g = t
      ·subst eg; simp at hp
      ·have : (g == t) = false := by simpa using eg
       rw [this] at hp
       simp at hp; subst hp
       exact ⟨rfl, rfl, tagOk_put (d := t) (v := v) (fun g' w' e' => by injection e' with e'; injection e' with e1; subst e1; exact eg) ht⟩
    obtain ⟨k1, k2, k3⟩ := key
    obtain ⟨b, h1, h2⟩ := hv k3
    refine ⟨b, by rw [k1]; exact h1, ?_⟩
    simp only [Act.put]
    rw [getD_set, if_pos ⟨rfl, hlt⟩, k2]
    exact h2
   ·rw [hL] at hp; simp at hp
  ·have hp' : (s.put X (some d) .undef).A t = some p := by
    simp only [AS.adr] at hp
    simp only [AS.put]
    have : (t == d) = false := by simpa using e
    rw [this] at hp ⊢
    exact hp
   exact hput.adr t p hp' ht

def _root_.Go.World.setB (w : World) (b : Nat) (o : Obj) : World := { w with heap := w.heap.setIfInBounds b o }
theorem heap_setB (b k : Nat) (o : Obj) : (w.setB b o).heap[k]? = if b = k ∧ b < w.heap.size then some o else w.heap[k]? := by
 simp only [World.setB, Array.getElem?_setIfInBounds]
 by_cases h : b = k
 ·subst h
  by_cases hb : b < w.heap.size
  ·simp [hb]
  ·simp [hb]
 ·simp [h]
theorem heap_setB_same {b : Nat} (o : Obj) (hb : b < w.heap.size) : (w.setB b o).heap[b]? = some o := by rw [heap_setB, if_pos ⟨rfl, hb⟩]
theorem heap_setB_other {b k : Nat} (o : Obj) (h : b ≠ k) : (w.setB b o).heap[k]? = w.heap[k]? := by rw [heap_setB, if_neg (fun e => h e.1)]
theorem size_setB (b : Nat) (o : Obj) : (w.setB b o).heap.size = w.heap.size := by simp [World.setB]
theorem setB_ext {b : Nat} {o : Obj} (hX : (ctx z w E pb).X b) : Ext (ctx z w E pb) (ctx z (w.setB b o) E pb) :=
 ⟨by simp [ctx, size_setB], fun k hk hn => ⟨heap_setB_other o (fun e => hn (e ▸ hX)), hn⟩, fun i p h => ⟨p, h, .inl rfl⟩, rfl⟩
theorem cells_of_list {w : World} {b off : Nat} {arr : Array Value} {t : TypeId} {fz : Nat × Nat} (h : w.heap[b]? = some (.cells arr t fz)) : w.cell? ⟨b, off, none⟩ = arr[off]? := by simp [World.cell?, h]
theorem RepCs.ofL {c : RC} {b : Nat} {arr : Array Value} {t : TypeId} {fz : Nat × Nat} (h : c.w.heap[b]? = some (.cells arr t fz)) {cs : List AV} {off : Nat} {vs : List Value}
  (hr : RepL c cs vs) (ho : ∀ x ∈ vs, one1 x = true) (hv : ∀ i, i < vs.length → arr[off + i]? = vs[i]?) : RepCs c b off cs := by
 refine RepCs.of fun i a hi => ?_
 obtain ⟨v, h1, h2⟩ := hr.nth hi
 have hl : i < vs.length := (List.getElem?_eq_some_iff.1 h1).1
 exact ⟨v, by rw [cells_of_list h, hv i hl, h1], ho v (List.mem_of_getElem? h1), h2⟩
theorem RepCs.toL {c : RC} {b : Nat} : ∀ {cs : List AV} {off : Nat}, RepCs c b off cs → ∃ vs, RepL c cs vs ∧ (∀ x ∈ vs, one1 x = true) ∧ ∀ j v, vs[j]? = some v → c.w.cell? ⟨b, off + j, none⟩ = some v
 | [], off, _ => ⟨[], by simp [RepL], by simp, by simp⟩
 | x :: l, off, h => by
  simp only [RepCs] at h
  obtain ⟨⟨v, h1, h2, h3⟩, h4⟩ := h
  obtain ⟨vs, k1, k2, k3⟩ := RepCs.toL h4
  refine ⟨v :: vs, by simp only [RepL]; exact ⟨v, vs, rfl, h3, k1⟩, by simpa [h2] using k2, fun j u hj => ?_⟩
  cases j with
  | zero => simp at hj; subst hj; exact h1
  | succ j =>
   simp at hj
   have := k3 j u hj
   rwa [show off + 1 + j = off + (j + 1) by omega] at this
theorem St.newBox (h : St X z s a w E pb) (d : Nat) (hL : X.L.contains d = true) {cs : List AV} {vs : List Value} (t : TypeId) (hr : RepL (ctx z w E pb) cs vs) (ho : ∀ x ∈ vs, one1 x = true) :
  ∃ pb', St X z (s.newBox d cs) (a.put (some d) (.pointer (some ⟨w.heap.size, 0, none⟩))) (w.alloc (.cells vs.toArray t)) E pb' := by
 have g : Below w.heap.size w (w.alloc (.cells vs.toArray t)) := (Below.refl _ _).alloc (Nat.le_refl _) _
 have h1 := h.grow g
 obtain ⟨pb', hpb'⟩ : ∃ pb' : Nat → Option Nat, pb' = fun i => if i = d then some w.heap.size else pb i := ⟨_, rfl⟩
 have e1 : ∀ i, i ≠ d → pb' i = pb i := fun i hi => by rw [hpb']; simp [hi]
 have e2 : pb' d = some w.heap.size := by rw [hpb']; simp
 clear hpb'
 have hx : Ext (ctx z w E pb) (ctx z (w.alloc (.cells vs.toArray t)) E pb') := by
  refine ⟨g.size, fun b hb hn => ⟨g.block b hb, ?_⟩, fun i p h => ⟨p, h, .inl rfl⟩, rfl⟩
  rintro (k | k | ⟨i, k⟩)
  ·exact hn (.inl k)
  ·exact hn (.inr (.inl k))
  ·by_cases e : i = d
   ·subst e; rw [e2] at k; injection k with k; simp [ctx] at hb; omega
   ·rw [e1 i e] at k; exact hn (.inr (.inr ⟨i, k⟩))
 have hbx : BoxAt (ctx z (w.alloc (.cells vs.toArray t)) E pb') w.heap.size cs := by
  have hb : (w.alloc (.cells vs.toArray t)).heap[w.heap.size]? = some (.cells vs.toArray t (0, 0)) := (MapKept.heap_alloc w _).1
  exact ⟨⟨vs.toArray, t, hb, by simp [hr.length]⟩, RepCs.ofL hb (RepL.mono hx _ _ hr) ho (fun i hi => by simp)⟩
 refine ⟨pb', by simp [AS.newBox, Act.put, h.len], by simp [AS.newBox, h.lenN], fun i x hi => ?_, fun i cs' hi => ?_, fun t' p hp ht => ?_, fun i b hb => ?_, fun i j b hi hj => ?_, h.heap.mono hx rfl fun p hp => g.block _ (h.heap.lt hp), h.defers, h.out.grow g, h.nm⟩
 ·simp only [AS.newBox, Act.put] at hi ⊢
  rw [getD_set]
  rw [List.getElem?_set] at hi
  by_cases e : d = i
  ·subst e
   rw [if_pos rfl] at hi
   by_cases hd : d < s.sl.length
   ·rw [if_pos hd] at hi
    rw [if_pos ⟨rfl, by rw [h.len]; exact hd⟩]
    injection hi with hi
    subst hi
    exact ⟨_, e2, rfl, hbx⟩
   ·rw [if_neg hd] at hi; cases hi
  ·rw [if_neg e] at hi
   rw [if_neg (fun k => e k.1.symm)]
   have k := h.slot i x hi
   cases x with
   | lbx cs' =>
    obtain ⟨b, k1, k2, k3⟩ := k
    exact ⟨b, by rw [e1 i (fun e' => e e'.symm)]; exact k1, k2, k3.mono hx (g.block b (h.priv i b k1).2.1)⟩
   | _ => exact Rep.mono hx _ _ k
 ·simp only [AS.newBox] at hi
  rw [List.getElem?_set] at hi
  by_cases e : d = i
  ·subst e; exact hL
  ·rw [if_neg e] at hi; exact h.box i cs' hi
 ·simp only [AS.newBox] at hp
  by_cases e : t' = d
  ·subst e; simp at hp
  ·have : (t' == d) = false := by simpa using e
   rw [this] at hp
   simp only [cond_false] at hp
   cases hk : keepTag d (s.A t') with
   | none => rw [hk] at hp; simp at hp
   | some q =>
    rw [hk] at hp
    simp only at hp
    by_cases eq : q.slot = d
    ·simp [eq] at hp
    ·have : (q.slot == d) = false := by simpa using eq
     rw [this] at hp
     simp at hp; subst hp
     obtain ⟨hp, hg⟩ := keepTag_some hk
     obtain ⟨b, k1, k2⟩ := h.adr t' q hp (tagOk_put hg ht)
     refine ⟨b, by rw [e1 _ eq]; exact k1, ?_⟩
     simp only [Act.put]
     rw [getD_set, if_neg (fun k => e k.1)]
     exact k2
 ·by_cases e : i = d
  ·subst e; rw [e2] at hb; injection hb with hb; subst hb
   exact ⟨h.out.size, by simp, fun p hp => by have := h.heap.lt hp; simp only [ctx] at this; omega⟩
  ·rw [e1 i e] at hb
   exact ⟨(h.priv i b hb).1, by have := (h.priv i b hb).2.1; simp; omega, (h.priv i b hb).2.2⟩
 ·by_cases ei : i = d
  ·by_cases ej : j = d
   ·rw [ei, ej]
   ·subst ei; rw [e2] at hi; rw [e1 j ej] at hj; injection hi with hi; have := (h.priv j b hj).2.1; omega
  ·by_cases ej : j = d
   ·subst ej; rw [e2] at hj; rw [e1 i ei] at hi; injection hj with hj; have := (h.priv i b hi).2.1; omega
   ·rw [e1 i ei] at hi; rw [e1 j ej] at hj; exact h.inj i j b hi hj
theorem St.setBox (h : St X z s a w E pb) {i b : Nat} (hb : pb i = some b) (hi : ∃ cs0, s.sl[i]? = some (.lbx cs0)) {cs : List AV} {arr : Array Value} {t : TypeId}
  (hr : RepL (ctx z w E pb) cs arr.toList) (ho : ∀ x ∈ arr.toList, one1 x = true) : St X z ⟨s.sl.set i (.lbx cs), s.A, s.σ⟩ a (w.setB b (.cells arr t (0, 0))) E pb := by
 have hlt := (h.priv i b hb).2.1
 have hX : (ctx z w E pb).X b := .inr (.inr ⟨i, hb⟩)
 have hx : Ext (ctx z w E pb) (ctx z (w.setB b (.cells arr t (0, 0))) E pb) := setB_ext hX
 have hbx : BoxAt (ctx z (w.setB b (.cells arr t (0, 0))) E pb) b cs := by
  have hh := heap_setB_same (w := w) (.cells arr t (0, 0)) hlt
  exact ⟨⟨arr, t, hh, by have := hr.length; simpa using this.symm⟩, RepCs.ofL hh (RepL.mono hx _ _ hr) ho (fun j hj => by simp)⟩
 have hother : ∀ p ∈ E, (w.setB b (.cells arr t (0, 0))).heap[p.b]? = w.heap[p.b]? := fun p hp => heap_setB_other _ (fun e => (h.priv i b hb).2.2 p hp e.symm)
 obtain ⟨cs0, hi⟩ := hi
 have hil : i < s.sl.length := (List.getElem?_eq_some_iff.1 hi).1
 refine ⟨by simp [h.len], by simp [h.lenN], fun j x hj => ?_, fun j cs' hj => ?_, h.adr, fun j b' hj => ⟨(h.priv j b' hj).1, by rw [size_setB]; exact (h.priv j b' hj).2.1, (h.priv j b' hj).2.2⟩, h.inj, h.heap.mono hx rfl hother, h.defers, ?_, h.nm⟩
 ·simp only at hj
  rw [List.getElem?_set] at hj
  by_cases e : i = j
  ·subst e
   rw [if_pos rfl, if_pos hil] at hj
   injection hj with hj; subst hj
   have k := h.slot i _ hi
   obtain ⟨b', k1, k2, _⟩ := k
   rw [hb] at k1; injection k1 with k1; subst k1
   exact ⟨b, hb, k2, hbx⟩
  ·rw [if_neg e] at hj
   have k := h.slot j x hj
   cases x with
   | lbx cs' =>
    obtain ⟨b', k1, k2, k3⟩ := k
    exact ⟨b', k1, k2, k3.mono hx (heap_setB_other _ (fun e' => e (h.inj i j b hb (e' ▸ k1))))⟩
   | _ => exact Rep.mono hx _ _ k
 ·simp only at hj
  rw [List.getElem?_set] at hj
  by_cases e : i = j
  ·subst e; exact h.box i cs0 hi
  ·rw [if_neg e] at hj; exact h.box j cs' hj
 ·have o := h.out
  exact ⟨o.os, o.tape, o.output, by rw [size_setB]; exact o.size, fun k hk hp => by rw [heap_setB_other _ (by have := (h.priv i b hb).1; omega)]; exact o.stay k hk hp, o.fresh', o.env, o.lt, o.mine⟩
theorem St.newOwn (h : St X z s a w E pb) (o : Obj) (blk : Blk) (p : Pl) (hp : p.b = w.heap.size)
  (hk : Ext (ctx z w E pb) (ctx z (w.alloc o) (E ++ [p]) pb) → BlkAt (ctx z (w.alloc o) (E ++ [p]) pb) p blk) : St X z (s.heap (s.σ ++ [blk])) a (w.alloc o) (E ++ [p]) pb := by
 have g : Below w.heap.size w (w.alloc o) := (Below.refl _ _).alloc (Nat.le_refl _) _
 have hx : Ext (ctx z w E pb) (ctx z (w.alloc o) (E ++ [p]) pb) := by
  refine ⟨g.size, fun b hb hn => ⟨g.block b hb, ?_⟩, fun i q hq => ⟨q, ?_, .inl rfl⟩, rfl⟩
  ·rintro (k | ⟨q, hq, k⟩ | k)
   ·exact hn (.inl k)
   ·rcases List.mem_append.1 hq with hq | hq
    ·exact hn (.inr (.inl ⟨q, hq, k⟩))
    ·simp at hq; subst hq; simp [ctx] at hb; omega
   ·exact hn (.inr (.inr k))
  ·simp only [ctx] at hq ⊢
   rw [List.getElem?_append_left (List.getElem?_eq_some_iff.1 hq).1]; exact hq
 have hlen := h.heap.len
 simp only [ctx] at hlen
 refine h.ext hx (fun i b hb => ⟨hb, g.block b (h.priv i b hb).2.1⟩) (fun i b hb => ⟨(h.priv i b hb).1, by have := (h.priv i b hb).2.1; simp; omega, fun q hq => ?_⟩) h.inj ⟨by simp [ctx, hlen], fun i j q r hq hr he => ?_, fun i q x hq hxx => ?_⟩ ?_
 ·rcases List.mem_append.1 hq with hq | hq
  ·exact (h.priv i b hb).2.2 q hq
  ·simp at hq; subst hq; have := (h.priv i b hb).2.1; omega
 ·simp only [ctx] at hq hr
  have key : ∀ (i : Nat) (q : Pl), (E ++ [p])[i]? = some q → (i < E.length ∧ E[i]? = some q) ∨ (i = E.length ∧ q = p) := fun i q hq => by
   by_cases hi : i < E.length
   ·rw [List.getElem?_append_left hi] at hq; exact .inl ⟨hi, hq⟩
   ·rw [List.getElem?_append_right (by omega)] at hq
    have : i - E.length = 0 := by
     rcases Nat.eq_zero_or_pos (i - E.length) with e | e
     ·exact e
     ·rw [List.getElem?_eq_none (by simp; omega)] at hq; cases hq
    rw [this] at hq; simp at hq
    exact .inr ⟨by omega, hq.symm⟩
  rcases key i q hq with ⟨hi, hq2⟩ | ⟨hi, eq⟩ <;> rcases key j r hr with ⟨hj, hr2⟩ | ⟨hj, er⟩
  ·exact h.heap.inj i j q r hq2 hr2 he
  ·have := h.heap.lt (p := q) (List.mem_of_getElem? hq2); simp only [ctx] at this; rw [er] at he; omega
  ·have := h.heap.lt (p := r) (List.mem_of_getElem? hr2); simp only [ctx] at this; rw [eq] at he; omega
  ·omega
 ·simp only [ctx] at hq
  by_cases hi : i < E.length
  ·rw [List.getElem?_append_left hi] at hq
   rw [List.getElem?_append_left (by omega)] at hxx
   exact (h.heap.blk i q x hq hxx).mono hx (g.block _ (h.heap.lt (p := q) (List.mem_of_getElem? hq)))
  ·rw [List.getElem?_append_right (by omega)] at hq hxx
   have : i - E.length = 0 := by
    rcases Nat.eq_zero_or_pos (i - E.length) with e | e
    ·exact e
    ·rw [List.getElem?_eq_none (by simp; omega)] at hq; cases hq
   rw [this] at hq; rw [show i - s.σ.length = 0 by omega] at hxx
   simp at hq hxx; subst hq; subst hxx
   exact hk hx
 ·have o' := h.out.grow g
  refine ⟨o'.os, o'.tape, o'.output, o'.size, o'.stay, fun i q hq => ?_, fun i q hq => ?_, o'.lt, o'.mine⟩
  ·by_cases hi : i < E.length
   ·rw [List.getElem?_append_left hi] at hq; exact o'.fresh' i q hq
   ·rw [List.getElem?_append_right (by omega)] at hq
    have : q = p := by
     have := List.mem_of_getElem? hq
     simpa using this
    subst this; exact .inl (by rw [hp]; exact h.out.size)
  ·obtain ⟨p', k1, k2⟩ := o'.env i q hq
   exact ⟨p', by rw [List.getElem?_append_left (List.getElem?_eq_some_iff.1 k1).1]; exact k1, k2⟩
theorem St.setOwn (h : St X z s a w E pb) {i : Nat} {p : Pl} (hi : E[i]? = some p) (o : Obj) (blk : Blk)
  (hk : Ext (ctx z w E pb) (ctx z (w.setB p.b o) E pb) → BlkAt (ctx z (w.setB p.b o) E pb) p blk) : St X z (s.heap (s.σ.set i blk)) a (w.setB p.b o) E pb := by
 have hm : p ∈ E := List.mem_of_getElem? hi
 have hX : (ctx z w E pb).X p.b := .inr (.inl ⟨p, hm, rfl⟩)
 have hx : Ext (ctx z w E pb) (ctx z (w.setB p.b o) E pb) := setB_ext hX
 refine h.ext hx (fun j b hb => ⟨hb, heap_setB_other _ (fun e => (h.priv j b hb).2.2 p hm e)⟩) (fun j b hb => ⟨(h.priv j b hb).1, by rw [size_setB]; exact (h.priv j b hb).2.1, (h.priv j b hb).2.2⟩) h.inj
  ⟨by have := h.heap.len; simpa [ctx] using this, h.heap.inj, fun j q x hq hxx => ?_⟩ ?_
 ·by_cases e : i = j
  ·subst e
   simp only [ctx] at hq
   rw [hi] at hq; injection hq with hq; subst hq
   rw [List.getElem?_set] at hxx
   rw [if_pos rfl] at hxx
   split at hxx
   ·injection hxx with hxx; subst hxx; exact hk hx
   ·cases hxx
  ·rw [List.getElem?_set, if_neg e] at hxx
   exact (h.heap.blk j q x hq hxx).mono hx (heap_setB_other _ (fun e' => e (h.heap.inj i j p q hi hq e')))
 ·have o' := h.out
  refine ⟨o'.os, o'.tape, o'.output, by rw [size_setB]; exact o'.size, fun k hk hp => ?_, o'.fresh', o'.env, o'.lt, o'.mine⟩
  rw [heap_setB_other]
  ·exact o'.stay k hk hp
  ·rintro rfl
   rcases o'.fresh p hm with e | ⟨q, hq, e⟩
   ·omega
   ·exact hp q hq e
end
end Go.Proofs.YtfalbgflabajbaaDoor

namespace Go.Proofs.YtfalbgflabajbaaDoor
set_option linter.unusedSectionVars false
open Go.RowKit
set_option linter.unusedVariables false
set_option linter.unusedSimpArgs false

theorem ofCell_rep (c : RC) (v : Value) : Rep c (ofCell v) v := by
 unfold ofCell
 split <;> simp [Rep]
theorem ofVal_rep (c : RC) (v : Value) : Rep c (ofVal v) v := by
 unfold ofVal
 split
 ·rename_i cs
  cases h : cs.toList.all one1
  ·simp [Rep]
  ·simp only [cond_true, Rep]
   refine ⟨cs, rfl, ?_, List.all_eq_true.1 h⟩
   have := RepL.map (c := c) ofCell id cs.toList (fun x _ => ofCell_rep c x)
   simpa using this
 ·exact ofCell_rep c _
section
variable {X : Fx} {z : Z} {s : AS} {a : Act} {w w' : World} {E : List Pl} {pb : Nat → Option Nat}
theorem ev_rep (h : St X z s a w E pb) (x : Operand) : Rep (ctx z w E pb) (ev X s x) (a.eval x) := by
 cases x with
 | tmp t =>
  simp only [ev, Act.eval]
  cases hL : X.L.contains t
  ·simp only [cond_false]
   by_cases ht : t < s.sl.length
   ·have hs : s.sl[t]? = some s.sl[t] := by simp [ht]
    have e : s.sl.getD t .undef = s.sl[t] := by simp [List.getD, ht]
    rw [e]
    refine (h.slot t _ hs).rep fun cs k => ?_
    have := h.box t cs (by rw [hs, k])
    rw [hL] at this; cases this
   ·have e : s.sl.getD t .undef = .undef := by simp [List.getD, Nat.le_of_not_lt ht]
    rw [e]; simp [Rep]
  ·simp [Rep]
 | const v => exact ofVal_rep _ v
 | global g => simp [ev, Rep]
 | func f => simp only [ev, Act.eval, Rep]; exact ⟨f, #[], rfl, by rw [h.nm]; rfl, by simp [RepL]⟩
theorem evs_rep (h : St X z s a w E pb) (xs : List Operand) : RepL (ctx z w E pb) (xs.map (ev X s)) (xs.map a.eval) := RepL.map _ _ xs fun x _ => ev_rep h x
end
section
variable {P : Program} {c : RC} (w : World)
theorem und_info {t : TypeId} {d : TypeDesc} (h : P.underlying t = some d) : ∃ i, P.info? t = some i := by
 unfold Program.underlying at h
 split at h
 ·rename_i u e; exact ⟨_, by assumption⟩
 ·rename_i i e; exact ⟨_, by assumption⟩
 ·cases h
theorem run_typeInfo' {t : TypeId} {i : TypeInfo} (h : P.info? t = some i) : (typeInfo t).run P w = .ok i w := by
 simp [typeInfo, h]
theorem run_sizeOf' {t : TypeId} {i : TypeInfo} (h : P.info? t = some i) : (sizeOf t).run P w = .ok (P.cellsOf t) w := by
 simp [sizeOf, run_typeInfo' w h, Program.cellsOf, h]
theorem run_sizeOf'' {t : TypeId} {d : TypeDesc} (h : P.underlying t = some d) : (sizeOf t).run P w = .ok (P.cellsOf t) w := by
 obtain ⟨i, hi⟩ := und_info h; exact run_sizeOf' w hi
theorem run_isAgg' (X : Fx) {t : TypeId} {d : TypeDesc} (h : X.P.underlying t = some d) : (isAgg t).run X.P w = .ok (isAggT X t) w := by
 unfold isAgg
 simp only [Sem.run_bind, run_underlying h, Result.andThen_ok]
 unfold isAggT
 rw [h]
 cases d <;> rfl
theorem one1_of_cell {av x : AV} {v : Value} (h : A.cell av = some x) (r : Rep c av v) : x = av ∧ one1 v = true := by
 cases av <;> simp only [A.cell] at h <;> first | (cases h; done) | skip
 all_goals
  injection h with h
  refine ⟨h.symm, ?_⟩
  simp only [Rep] at r
 case int => subst r; rfl
 case bool => subst r; rfl
 case str => subst r; rfl
 case fm => obtain ⟨_, rfl, _⟩ := r; rfl
 case sl => obtain ⟨_, _, rfl, _⟩ := r; rfl
 case nsl => subst r; rfl
 case ez => obtain ⟨_, rfl⟩ := r; rfl
 case rp => obtain ⟨_, _, rfl, _⟩ := r; rfl
 case np => subst r; rfl
 case op => obtain ⟨_, _, _, rfl⟩ := r; rfl
 case oe => obtain ⟨_, _, _, _, _, rfl, _⟩ := r; rfl
 case os => obtain ⟨_, _, _, _, _, _, rfl, _⟩ := r; rfl
 case om => obtain ⟨_, _, _, rfl⟩ := r; rfl
 case nm => subst r; rfl
 case fn => obtain ⟨_, _, rfl, _⟩ := r; rfl
 case nfn => subst r; rfl
theorem cells_one {v : Value} (h : one1 v = true) : v.cells = #[v] := by cases v <;> first | rfl | (simp [one1] at h)
theorem cellsT_rep (X : Fx) {t : TypeId} {av : AV} {cs : List AV} {v : Value} (h : cellsT X t av = some cs) (r : Rep c av v) :
  RepL c cs v.cells.toList ∧ (∀ x ∈ v.cells.toList, one1 x = true) ∧ v.cells.size = X.P.cellsOf t ∧ ∃ d, X.P.underlying t = some d := by
 unfold cellsT at h
 cases hd : X.P.underlying t with
 | none => rw [hd] at h; cases h
 | some d =>
  rw [hd] at h
  simp only at h
  cases ha : isAggT X t
  ·rw [ha] at h
   simp only [cond_false] at h
   cases hc : (X.P.cellsOf t == 1)
   ·rw [hc] at h; cases h
   ·rw [hc] at h
    simp only [cond_true] at h
    obtain ⟨x, h1, h2⟩ := Option.bind_eq_some_iff.1 h
    injection h2 with h2
    obtain ⟨e, h3⟩ := one1_of_cell h1 r
    subst h2; subst e
    rw [cells_one h3]
    exact ⟨by simpa using RepL.single r, by simpa using h3, by simpa using (beq_iff_eq.1 hc).symm, d, rfl⟩
  ·rw [ha] at h
   simp only [cond_true] at h
   cases av <;> simp only [A.cells] at h <;> first | (cases h; done) | skip
   rename_i l
   split at h
   ·injection h with h
    subst h
    simp only [Rep] at r
    obtain ⟨vs, rfl, r1, r2⟩ := r
    refine ⟨r1, r2, ?_, d, rfl⟩
    have := r1.length
    simp only [Value.cells]
    rw [← Array.length_toList, ← this]; assumption
   ·cases h
theorem addr_add (b o n : Nat) : (⟨b, o, none⟩ : Addr).add n = ⟨b, o + n, none⟩ := by
 unfold Addr.add; split
 ·subst_vars; rfl
 ·rfl
theorem partT_load (X : Fx) (hw : c.w = w) {t : TypeId} {b off o : Nat} {cs : List AV} {av : AV} (r : RepCs c b off cs) (h : partT X t o cs = some av) :
  ∃ v, (loadVar t ⟨b, off + o, none⟩).run X.P w = .ok v w ∧ Rep c av v := by
 unfold partT at h
 cases hd : X.P.underlying t with
 | none => rw [hd] at h; cases h
 | some d =>
  rw [hd] at h
  simp only at h
  unfold loadVar
  simp only [Sem.run_bind, run_isAgg' w X hd, Result.andThen_ok]
  cases ha : isAggT X t
  ·rw [ha] at h
   simp only [cond_false, A.part1] at h
   obtain ⟨x, h1, h2⟩ := Option.bind_eq_some_iff.1 h
   obtain ⟨v, k1, k2, k3⟩ := RepCs.nth r h1
   obtain ⟨e, _⟩ := one1_of_cell h2 k3
   subst e
   refine ⟨v, ?_, k3⟩
   rw [hw] at k1
   simp [run_load, k1]
  ·rw [ha] at h
   simp only [cond_true, A.partA] at h
   split at h
   ·rename_i hle
    injection h with h
    subst h
    obtain ⟨vs, k1, k2, k3⟩ := RepCs.toL ((r.drop o).take (X.P.cellsOf t))
    have hl : vs.length = X.P.cellsOf t := by rw [← k1.length]; simp; omega
    refine ⟨.agg vs.toArray, ?_, by simp only [Rep]; exact ⟨vs.toArray, rfl, by simpa using k1, by simpa using k2⟩⟩
    have hrun := run_loadCells_list (P := X.P) w ⟨b, off + o, none⟩ vs (fun j v hj => by rw [addr_add]; have := k3 j v hj; rwa [hw] at this)
    rw [hl] at hrun
    simp [run_sizeOf'' w hd, hrun]
   ·cases h
theorem partT_part (X : Fx) {t : TypeId} {o : Nat} {cs : List AV} {av : AV} {vs : Array Value} (r : RepL c cs vs.toList) (k : ∀ x ∈ vs.toList, one1 x = true) (h : partT X t o cs = some av) :
  ∃ v, (part t vs o).run X.P w = .ok v w ∧ Rep c av v := by
 unfold partT at h
 cases hd : X.P.underlying t with
 | none => rw [hd] at h; cases h
 | some d =>
  rw [hd] at h
  simp only at h
  unfold part
  simp only [Sem.run_bind, run_isAgg' w X hd, Result.andThen_ok]
  cases ha : isAggT X t
  ·rw [ha] at h
   simp only [cond_false, A.part1] at h
   obtain ⟨x, h1, h2⟩ := Option.bind_eq_some_iff.1 h
   obtain ⟨v, k1, k3⟩ := r.nth h1
   obtain ⟨e, _⟩ := one1_of_cell h2 k3
   subst e
   refine ⟨v, ?_, k3⟩
   have : vs[o]? = some v := by rw [← Array.getElem?_toList]; exact k1
   simp [this]
  ·rw [ha] at h
   simp only [cond_true, A.partA] at h
   split at h
   ·rename_i hle
    injection h with h
    subst h
    refine ⟨.agg (vs.extract o (o + X.P.cellsOf t)), by simp [run_sizeOf'' w hd], ?_⟩
    simp only [Rep]
    have e : (vs.extract o (o + X.P.cellsOf t)).toList = (vs.toList.drop o).take (X.P.cellsOf t) := by simp [Array.toList_extract, List.extract_eq_take_drop]
    refine ⟨_, rfl, by rw [e]; exact (r.drop o).take _, ?_⟩
    rw [e]
    exact fun x hx => k x (List.mem_of_mem_drop (List.mem_of_mem_take hx))
   ·cases h
end
section
variable {P : Program} {c : RC} (w : World)
theorem strEq (a b : ByteArray) : (a == b) = (a.toList == b.toList) := beq_toListBytes a b
theorem add_run {t : TypeId} {x y av : AV} {v u : Value} (h : A.add x y = some av) (r : Rep c x v) (q : Rep c y u) : ∃ k, (binOp .add t v u).run P w = .ok k w ∧ Rep c av k := by
 unfold A.add at h
 split at h
 ·simp only [Rep] at r q; subst r; subst q
  split at h
  ·injection h with h; subst h; subst_vars
   exact ⟨_, by simp [binOp, Op.intArith]; rfl, by simp [Rep]⟩
  ·cases h
 ·simp only [Rep] at r q; subst r; subst q
  split at h
  ·rename_i a b hs
   injection h with h; subst h
   refine ⟨.string (a ++ b), ?_, by simp [Rep]⟩
   have : ¬ ((a.size + b.size : Nat) : Int) > IntKind.i64.max := by rw [IntKind.max_i64]; omega
   simp only [binOp, Op.stringOp, if_neg this]
   rfl
  ·cases h
 ·cases h
theorem int2_run {f : IntKind → Int → Int → Option AV} {op : BinOp} {t : TypeId} {x y av : AV} {v u : Value}
  (hf : ∀ k a b av, f k a b = some av → ∃ n, (binOp op t (.int k a) (.int k b)).run P w = .ok n w ∧ Rep c av n)
  (h : (match x, y with | .int k a, .int k' b => if k = k' then f k a b else none | _, _ => none) = some av) (r : Rep c x v) (q : Rep c y u) : ∃ k, (binOp op t v u).run P w = .ok k w ∧ Rep c av k := by
 split at h
 ·simp only [Rep] at r q; subst r; subst q
  split at h
  ·subst_vars; exact hf _ _ _ _ h
  ·cases h
 ·cases h
theorem sub_run {t : TypeId} {x y av : AV} {v u : Value} (h : A.sub x y = some av) (r : Rep c x v) (q : Rep c y u) : ∃ k, (binOp .sub t v u).run P w = .ok k w ∧ Rep c av k :=
 int2_run w (f := fun k a b => some (.int k (k.wrap (a - b)))) (fun k a b av e => by injection e with e; subst e; exact ⟨_, by simp [binOp, Op.intArith]; rfl, by simp [Rep]⟩) h r q
theorem mul_run {t : TypeId} {x y av : AV} {v u : Value} (h : A.mul x y = some av) (r : Rep c x v) (q : Rep c y u) : ∃ k, (binOp .mul t v u).run P w = .ok k w ∧ Rep c av k :=
 int2_run w (f := fun k a b => some (.int k (k.wrap (a * b)))) (fun k a b av e => by injection e with e; subst e; exact ⟨_, by simp [binOp, Op.intArith]; rfl, by simp [Rep]⟩) h r q
theorem lss_run {t : TypeId} {x y av : AV} {v u : Value} (h : A.lss x y = some av) (r : Rep c x v) (q : Rep c y u) : ∃ k, (binOp .lss t v u).run P w = .ok k w ∧ Rep c av k := by
 unfold A.lss at h
 split at h
 ·exact int2_run w (x := .int _ _) (y := .int _ _) (f := fun k a b => some (.bool (decide (a < b)))) (fun k a b av e => by injection e with e; subst e; exact ⟨_, by simp [binOp, Op.intCmp]; rfl, by simp [Rep]⟩) h r q
 ·simp only [Rep] at r q; subst r; subst q
  injection h with h; subst h
  exact ⟨.bool _, by simp only [binOp, Op.stringOp]; rfl, by simp [Rep]⟩
 ·cases h
theorem leq_run {t : TypeId} {x y av : AV} {v u : Value} (h : A.leq x y = some av) (r : Rep c x v) (q : Rep c y u) : ∃ k, (binOp .leq t v u).run P w = .ok k w ∧ Rep c av k :=
 int2_run w (f := fun k a b => some (.bool (decide (a ≤ b)))) (fun k a b av e => by injection e with e; subst e; exact ⟨_, by simp [binOp, Op.intCmp]; rfl, by simp [Rep]⟩) h r q
theorem gtr_run {t : TypeId} {x y av : AV} {v u : Value} (h : A.gtr x y = some av) (r : Rep c x v) (q : Rep c y u) : ∃ k, (binOp .gtr t v u).run P w = .ok k w ∧ Rep c av k :=
 int2_run w (f := fun k a b => some (.bool (decide (a > b)))) (fun k a b av e => by injection e with e; subst e; exact ⟨.bool (decide (a > b)), by simp [binOp, Op.intCmp], by simp [Rep]⟩) h r q
theorem geq_run {t : TypeId} {x y av : AV} {v u : Value} (h : A.geq x y = some av) (r : Rep c x v) (q : Rep c y u) : ∃ k, (binOp .geq t v u).run P w = .ok k w ∧ Rep c av k :=
 int2_run w (f := fun k a b => some (.bool (decide (a ≥ b)))) (fun k a b av e => by injection e with e; subst e; exact ⟨.bool (decide (a ≥ b)), by simp [binOp, Op.intCmp], by simp [Rep]⟩) h r q
theorem quo_run {t : TypeId} {x y av : AV} {v u : Value} (h : A.quo x y = some av) (r : Rep c x v) (q : Rep c y u) : ∃ k, (binOp .quo t v u).run P w = .ok k w ∧ Rep c av k := by
 unfold A.quo at h
 split at h
 ·simp only [Rep] at r q; subst r; subst q
  split at h
  ·rename_i hk
   obtain ⟨rfl, hb⟩ := hk
   injection h with h; subst h
   exact ⟨_, by simp [binOp, Op.intDiv, hb]; rfl, by simp [Rep]⟩
  ·cases h
 ·cases h
theorem rem_run {t : TypeId} {x y av : AV} {v u : Value} (h : A.rem x y = some av) (r : Rep c x v) (q : Rep c y u) : ∃ k, (binOp .rem t v u).run P w = .ok k w ∧ Rep c av k := by
 unfold A.rem at h
 split at h
 ·simp only [Rep] at r q; subst r; subst q
  split at h
  ·rename_i hk
   obtain ⟨rfl, hb⟩ := hk
   injection h with h; subst h
   exact ⟨_, by simp [binOp, Op.intDiv, hb]; rfl, by simp [Rep]⟩
  ·cases h
 ·cases h
theorem shl_run {t : TypeId} {x y av : AV} {v u : Value} (h : A.shl x y = some av) (r : Rep c x v) (q : Rep c y u) : ∃ k, (binOp .shl t v u).run P w = .ok k w ∧ Rep c av k := by
 unfold A.shl at h
 split at h
 ·simp only [Rep] at r q; subst r; subst q
  split at h
  ·cases h
  ·rename_i hb
   injection h with h; subst h
   exact ⟨_, by simp only [binOp, Op.shift, if_neg hb]; rfl, by simp [Rep]⟩
 ·cases h
theorem shr_run {t : TypeId} {x y av : AV} {v u : Value} (h : A.shr x y = some av) (r : Rep c x v) (q : Rep c y u) : ∃ k, (binOp .shr t v u).run P w = .ok k w ∧ Rep c av k := by
 unfold A.shr at h
 split at h
 ·simp only [Rep] at r q; subst r; subst q
  split at h
  ·cases h
  ·rename_i hb
   injection h with h; subst h
   exact ⟨_, by simp only [binOp, Op.shift, if_neg hb]; rfl, by simp [Rep]⟩
 ·cases h
theorem eqAll_split : ∀ {k1 k2 : List Nat} {xs ys : List AV} {b : Bool}, A.eqAll (k1 ++ k2) xs ys = some b → ∃ p q, A.eqAll k1 (xs.take k1.length) (ys.take k1.length) = some p ∧ A.eqAll k2 (xs.drop k1.length) (ys.drop k1.length) = some q ∧ b = (p && q)
 | [], k2, xs, ys, b, h => ⟨true, b, by simp [A.eqAll], by simpa using h, by simp⟩
 | k :: k1, k2, [], [], b, h => by simp [A.eqAll] at h
 | k :: k1, k2, [], _ :: _, b, h => by simp [A.eqAll] at h
 | k :: k1, k2, _ :: _, [], b, h => by simp [A.eqAll] at h
 | k :: k1, k2, x :: xs, y :: ys, b, h => by
  simp only [List.cons_append, A.eqAll] at h
  obtain ⟨p, h1, h2⟩ := Option.bind_eq_some_iff.1 h
  obtain ⟨q, h3, h4⟩ := Option.map_eq_some_iff.1 h2
  obtain ⟨p', q', k1', k2', k3'⟩ := eqAll_split h3
  exact ⟨p && p', q', by simp [A.eqAll, h1, k1'], by simpa using k2', by rw [← h4, k3', Bool.and_assoc]⟩
def asCells (P : Program) (t : TypeId) (vs : List Value) : Value := match P.underlying t with
 | some (.struct _) => .agg vs.toArray
 | _ => vs.headD undef
theorem run_part_cells {t : TypeId} {d : Nat} (hk : eqOk P (d + 1) t = true) {vs : Array Value} {off : Nat} (h : off + P.cellsOf t ≤ vs.size) :
  (part t vs off).run P w = .ok (asCells P t ((vs.toList.drop off).take (P.cellsOf t))) w := by
 unfold eqOk at hk
 have scalar : ∀ de, P.underlying t = some de → (∀ fs, de ≠ .struct fs) → (∀ n e, de ≠ .array n e) → P.cellsOf t = 1 → (part t vs off).run P w = .ok (asCells P t ((vs.toList.drop off).take (P.cellsOf t))) w := by
  intro de hd h1 h2 h3
  have ha : (isAgg t).run P w = .ok false w := by
   unfold isAgg
   simp only [Sem.run_bind, run_underlying hd, Result.andThen_ok]
   cases de <;> first | rfl | exact absurd rfl (h1 _) | exact absurd rfl (h2 _ _)
  have e : asCells P t ((vs.toList.drop off).take (P.cellsOf t)) = vs[off]'(by omega) := by
   unfold asCells
   rw [hd]
   have : (vs.toList.drop off).take (P.cellsOf t) = [vs[off]'(by omega)] := by
    have hlt : off < vs.toList.length := by rw [Array.length_toList]; omega
    rw [h3, List.drop_eq_getElem_cons hlt]
    simp
   rw [this]
   cases de <;> first | rfl | exact absurd rfl (h1 _)
  rw [e]
  unfold part
  simp [ha, Array.getElem?_eq_getElem (show off < vs.size by omega)]
 cases hd : P.underlying t with
 | none => rw [hd] at hk; cases hk
 | some de =>
  rw [hd] at hk
  cases de <;> simp only at hk <;> first | (cases hk; done) | skip
  case bool => exact scalar _ hd (by intro _ e; cases e) (by intro _ _ e; cases e) (by simpa using hk)
  case int => exact scalar _ hd (by intro _ e; cases e) (by intro _ _ e; cases e) (by simpa using hk)
  case string => exact scalar _ hd (by intro _ e; cases e) (by intro _ _ e; cases e) (by simpa using hk)
  case struct fs =>
   have ha : (isAgg t).run P w = .ok true w := by
    unfold isAgg
    simp only [Sem.run_bind, run_underlying hd, Result.andThen_ok]
    rfl
   unfold part
   simp only [Sem.run_bind, ha, Result.andThen_ok, if_true, run_sizeOf'' w hd, Sem.run_pure]
   congr 1
   simp only [asCells, hd]
   congr 1
   apply Array.toList_inj.1
   simp [Array.toList_extract, List.extract_eq_take_drop]
theorem eqAll_len : ∀ {ks : List Nat} {xs ys : List AV} {b : Bool}, A.eqAll ks xs ys = some b → xs.length = ks.length ∧ ys.length = ks.length
 | [], [], [], _, _ => ⟨rfl, rfl⟩
 | [], [], _ :: _, _, h => by simp [A.eqAll] at h
 | [], _ :: _, _, _, h => by simp [A.eqAll] at h
 | _ :: _, [], _, _, h => by simp [A.eqAll] at h
 | _ :: _, _ :: _, [], _, h => by simp [A.eqAll] at h
 | k :: ks, x :: xs, y :: ys, b, h => by
  simp only [A.eqAll] at h
  obtain ⟨p, h1, h2⟩ := Option.bind_eq_some_iff.1 h
  obtain ⟨q, h3, h4⟩ := Option.map_eq_some_iff.1 h2
  have := eqAll_len h3
  simp [this]
theorem eqFs_len {d : Nat} (ih : ∀ t, eqOk P d t = true → (kinds P d t).length = P.cellsOf t) : ∀ (fs : List Field) (off tot : Nat), eqFs (eqOk P d) P.cellsOf fs off = some tot → off + (fs.flatMap fun f => kinds P d f.type).length = tot
 | [], off, tot, h => by simpa [eqFs] using h
 | f :: fs, off, tot, h => by
  simp only [eqFs] at h
  cases hc : (f.name != "_" && f.offset == off && eqOk P d f.type)
  ·rw [hc] at h; cases h
  ·rw [hc] at h
   simp only [cond_true] at h
   simp only [Bool.and_eq_true] at hc
   have := eqFs_len ih fs _ _ h
   have := ih _ hc.2
   simp only [List.flatMap_cons, List.length_append]
   omega
theorem kinds_len : ∀ (d : Nat) (t : TypeId), eqOk P d t = true → (kinds P d t).length = P.cellsOf t
 | 0, t, h => by simp [eqOk] at h
 | d + 1, t, h => by
  unfold eqOk at h
  unfold kinds
  cases hd : P.underlying t with
  | none => rw [hd] at h; cases h
  | some de =>
   rw [hd] at h
   cases de <;> simp only at h <;> first | (cases h; done) | skip
   case bool => simpa using (beq_iff_eq.1 h).symm
   case int => simpa using (beq_iff_eq.1 h).symm
   case string => simpa using (beq_iff_eq.1 h).symm
   case struct fs =>
    simp only [Bool.and_eq_true, beq_iff_eq] at h
    have := eqFs_len (fun t => kinds_len d t) fs.toList 0 _ h.2
    simpa using this
theorem eqFs_run {d D : Nat} (ih : ∀ (t : TypeId) (xs ys : List AV) (vs us : List Value) (b : Bool), eqOk P d t = true → A.eqAll (kinds P d t) xs ys = some b → RepL c xs vs → RepL c ys us → vs.length = P.cellsOf t → us.length = P.cellsOf t →
   (Op.equalIn D t (asCells P t vs) (asCells P t us)).run P w = .ok b w) :
  ∀ (fs : List Field) (off tot : Nat) (xs ys : List AV) (vs us : Array Value) (b : Bool), eqFs (eqOk P d) P.cellsOf fs off = some tot → tot = vs.size → tot = us.size → A.eqAll (fs.flatMap fun f => kinds P d f.type) (xs.drop off) (ys.drop off) = some b → RepL c xs vs.toList → RepL c ys us.toList →
   (Op.eqFields D vs us fs).run P w = .ok b w
 | [], off, tot, xs, ys, vs, us, b, h, h1, h2, h3, h4, h5 => by
  simp only [eqFs] at h
  injection h with h
  have l1 := h4.length
  have : xs.drop off = [] := List.drop_eq_nil_of_le (by rw [l1]; simp; omega)
  rw [this] at h3
  have l2 := h5.length
  have : ys.drop off = [] := List.drop_eq_nil_of_le (by rw [l2]; simp; omega)
  rw [this] at h3
  simp only [List.flatMap_nil, A.eqAll] at h3
  injection h3 with h3
  subst h3
  simp [Op.eqFields]
 | f :: fs, off, tot, xs, ys, vs, us, b, h, h1, h2, h3, h4, h5 => by
  simp only [eqFs] at h
  cases hc : (f.name != "_" && f.offset == off && eqOk P d f.type)
  ·rw [hc] at h; cases h
  ·rw [hc] at h
   simp only [cond_true] at h
   simp only [Bool.and_eq_true, bne_iff_ne, beq_iff_eq] at hc
   obtain ⟨⟨hn, ho⟩, hk⟩ := hc
   have hle := eqFs_len (fun t => kinds_len d t) fs _ _ h
   have hkl := kinds_len d f.type hk
   rw [List.flatMap_cons] at h3
   obtain ⟨p, q, k1, k2, k3⟩ := eqAll_split h3
   rw [hkl] at k1 k2
   rw [List.drop_drop, List.drop_drop] at k2
   obtain ⟨d', rfl⟩ : ∃ d', d = d' + 1 := by
    cases d with
    | zero => simp [eqOk] at hk
    | succ d' => exact ⟨d', rfl⟩
   have r1 := run_part_cells w hk (vs := vs) (off := off) (by omega)
   have r2 := run_part_cells w hk (vs := us) (off := off) (by omega)
   have e1 := ih f.type _ _ _ _ p hk k1 ((h4.drop off).take _) ((h5.drop off).take _) (by simp; omega) (by simp; omega)
   have ihf := eqFs_run ih fs (off + P.cellsOf f.type) tot xs ys vs us q h h1 h2 k2 h4 h5
   simp only [Op.eqFields, Sem.run_ite, if_pos hn]
   simp only [Sem.run_bind, ho, r1, r2, Result.andThen_ok, e1]
   cases p
   ·simp [k3]
   ·simp only [Bool.not_true, Bool.false_eq_true, if_false, ihf, k3, Bool.true_and]
theorem eqOk_run : ∀ (d D : Nat) (hD : d ≤ D) (t : TypeId) (xs ys : List AV) (vs us : List Value) (b : Bool), eqOk P d t = true → A.eqAll (kinds P d t) xs ys = some b → RepL c xs vs → RepL c ys us → vs.length = P.cellsOf t → us.length = P.cellsOf t →
   (Op.equalIn D t (asCells P t vs) (asCells P t us)).run P w = .ok b w
 | 0, _, _, t, xs, ys, vs, us, b, hk, _, _, _, _, _ => by simp [eqOk] at hk
 | d + 1, 0, hD, _, _, _, _, _, _, _, _, _, _, _, _ => by omega
 | d + 1, D + 1, hD, t, xs, ys, vs, us, b, hk, h, r, q, l1, l2 => by
  unfold eqOk at hk
  unfold kinds at h
  cases hd : P.underlying t with
  | none => rw [hd] at hk; cases hk
  | some de =>
   rw [hd] at hk h
   have scalar : ∀ k, A.eqAll [k] xs ys = some b → P.cellsOf t = 1 → ∃ x y v u, xs = [x] ∧ ys = [y] ∧ vs = [v] ∧ us = [u] ∧ A.eqC k x y = some b ∧ Rep c x v ∧ Rep c y u := by
    intro k h h1
    rw [h1] at l1 l2
    have m1 := r.length; have m2 := q.length
    obtain ⟨x, rfl⟩ := List.length_eq_one_iff.1 (m1.trans l1)
    obtain ⟨y, rfl⟩ := List.length_eq_one_iff.1 (m2.trans l2)
    obtain ⟨v, rfl⟩ := List.length_eq_one_iff.1 l1
    obtain ⟨u, rfl⟩ := List.length_eq_one_iff.1 l2
    simp only [A.eqAll] at h
    obtain ⟨p, h2, h3⟩ := Option.bind_eq_some_iff.1 h
    simp at h3; subst h3
    obtain ⟨v', k1, k2⟩ := r.nth (i := 0) (a := x) rfl
    obtain ⟨u', k3, k4⟩ := q.nth (i := 0) (a := y) rfl
    simp at k1 k3; subst k1; subst k3
    exact ⟨x, y, v, u, rfl, rfl, rfl, rfl, h2, k2, k4⟩
   cases de <;> simp only at hk h <;> first | (cases hk; done) | skip
   case bool =>
    obtain ⟨x, y, v, u, rfl, rfl, rfl, rfl, e, r1, q1⟩ := scalar _ h (by simpa using hk)
    simp only [asCells, hd, List.headD_cons]
    simp only [A.eqC, A.eqB] at e
    split at e
    ·simp only [Rep] at r1 q1; injection e with e; subst_vars
     exact run_equalIn_bool' w D t _ _ hd
    ·cases e
   case int kk =>
    obtain ⟨x, y, v, u, rfl, rfl, rfl, rfl, e, r1, q1⟩ := scalar _ h (by simpa using hk)
    simp only [asCells, hd, List.headD_cons]
    simp only [A.eqC, A.eqI] at e
    split at e
    ·simp only [Rep] at r1 q1
     split at e
     ·injection e with e; subst_vars
      exact run_equalIn_int w D t _ kk _ _ hd
     ·cases e
    ·cases e
   case string =>
    obtain ⟨x, y, v, u, rfl, rfl, rfl, rfl, e, r1, q1⟩ := scalar _ h (by simpa using hk)
    simp only [asCells, hd, List.headD_cons]
    simp only [A.eqC, A.eqZ] at e
    split at e
    ·simp only [Rep] at r1 q1; injection e with e; subst_vars
     rw [strEq]
     exact run_equalIn_string w D t _ _ hd
    ·cases e
   case struct fs =>
    simp only [Bool.and_eq_true, Bool.not_eq_true', beq_iff_eq] at hk
    have hf : P.fieldsOf t = fs := by simp [Program.fieldsOf, hd]
    simp only [asCells, hd]
    rw [run_equalIn_struct w D t _ _ (by rw [hf]; exact hd) hk.1, hf]
    exact eqFs_run w (fun t xs ys vs us b => eqOk_run d D (by omega) t xs ys vs us b) fs.toList 0 _ xs ys vs.toArray us.toArray b hk.2 (by simp [l1]) (by simp [l2]) (by simpa using h) (by simpa using r) (by simpa using q)
theorem ptr_none {el : TypeId} (d : Nat) (t : TypeId) (p : Option Addr) (h : P.underlying t = some (.pointer el)) : (Op.equalIn (d + 1) t (.pointer none) (.pointer p)).run P w = .ok p.isNone w := by
 simp [Op.equalIn, run_underlying h]
theorem ptr_some {el : TypeId} (d : Nat) (t : TypeId) (p : Addr) (h : P.underlying t = some (.pointer el)) : (Op.equalIn (d + 1) t (.pointer (some p)) (.pointer none)).run P w = .ok false w := by
 simp [Op.equalIn, run_underlying h]
theorem eqK_run (X : Fx) {t : TypeId} {e : A.EK} {x y : AV} {b : Bool} {v u : Value} (ht : ekT X t = some e) (h : A.eqK e x y = some b) (r : Rep c x v) (q : Rep c y u) :
  (Op.equal t v u).run X.P w = .ok b w ∧ ((∃ xs ys, v = .agg xs ∧ u = .agg ys ∧ X.P.eqGuardType X.P.depth t = false) ∨ (∃ k m n, v = .int k m ∧ u = .int k n ∧ b = (m == n)) ∨ (∃ m n, v = .string m ∧ u = .string n ∧ b = (m == n)) ∨ (∃ m n, v = .bool m ∧ u = .bool n ∧ b = (m == n)) ∨ ∃ m n, v = .pointer m ∧ u = .pointer n) := by
 unfold ekT at ht
 cases hd : X.P.underlying t with
 | none => rw [hd] at ht; cases ht
 | some de =>
  rw [hd] at ht
  cases de <;> simp only at ht <;> first | (cases ht; done) | skip
  case bool =>
   injection ht with ht; subst ht
   simp only [A.eqK, A.eqB] at h
   split at h
   ·simp only [Rep] at r q; injection h with h; subst_vars
    exact ⟨run_equalIn_bool' w _ t _ _ hd, .inr (.inr (.inr (.inl ⟨_, _, rfl, rfl, rfl⟩)))⟩
   ·cases h
  case int kk =>
   injection ht with ht; subst ht
   simp only [A.eqK, A.eqI] at h
   split at h
   ·simp only [Rep] at r q
    split at h
    ·injection h with h; subst_vars
     exact ⟨run_equalIn_int w _ t _ kk _ _ hd, .inr (.inl ⟨_, _, _, rfl, rfl, rfl⟩)⟩
    ·cases h
   ·cases h
  case string =>
   injection ht with ht; subst ht
   simp only [A.eqK, A.eqZ] at h
   split at h
   ·simp only [Rep] at r q; injection h with h; subst_vars
    refine ⟨?_, .inr (.inr (.inl ⟨_, _, rfl, rfl, rfl⟩))⟩
    rw [strEq]
    exact run_equalIn_string w _ t _ _ hd
   ·cases h
  case pointer el =>
   cases hc : (X.P.cellsOf el != 0)
   ·rw [hc] at ht; cases ht
   ·rw [hc] at ht
    injection ht with ht; subst ht
    simp only [A.eqK, A.eqP] at h
    split at h <;> first | (cases h; done) | skip
    all_goals
     simp only [Rep] at r q
     injection h with h; subst h
    ·subst r; subst q
     exact ⟨by first | exact ptr_none w 9999 t _ hd | exact ptr_some w 9999 t _ hd, .inr (.inr (.inr (.inr ⟨_, _, rfl, rfl⟩)))⟩
    ·subst r; obtain ⟨b, off, rfl, _⟩ := q
     exact ⟨by first | exact ptr_none w 9999 t _ hd | exact ptr_some w 9999 t _ hd, .inr (.inr (.inr (.inr ⟨_, _, rfl, rfl⟩)))⟩
    ·subst r; obtain ⟨p, _, _, rfl⟩ := q
     exact ⟨by first | exact ptr_none w 9999 t _ hd | exact ptr_some w 9999 t _ hd, .inr (.inr (.inr (.inr ⟨_, _, rfl, rfl⟩)))⟩
    ·subst q; obtain ⟨b, off, rfl, _⟩ := r
     exact ⟨by first | exact ptr_none w 9999 t _ hd | exact ptr_some w 9999 t _ hd, .inr (.inr (.inr (.inr ⟨_, _, rfl, rfl⟩)))⟩
    ·subst q; obtain ⟨p, _, _, rfl⟩ := r
     exact ⟨by first | exact ptr_none w 9999 t _ hd | exact ptr_some w 9999 t _ hd, .inr (.inr (.inr (.inr ⟨_, _, rfl, rfl⟩)))⟩
  case struct fs =>
   cases hc : (eqOk X.P 9 t && !X.P.eqGuardType X.P.depth t)
   ·rw [hc] at ht; cases ht
   ·rw [hc] at ht
    injection ht with ht; subst ht
    simp only [Bool.and_eq_true, Bool.not_eq_true'] at hc
    simp only [A.eqK] at h
    split at h
    ·simp only [Rep] at r q
     obtain ⟨vs, rfl, r1, _⟩ := r
     obtain ⟨us, rfl, q1, _⟩ := q
     have hl := eqAll_len h
     rw [kinds_len 9 t hc.1] at hl
     have e := eqOk_run w 9 Op.maxDepth (by decide) t _ _ _ _ b hc.1 h r1 q1 (by rw [← r1.length]; exact hl.1) (by rw [← q1.length]; exact hl.2)
     simp only [asCells, hd, Array.toArray_toList] at e
     exact ⟨e, .inl ⟨_, _, rfl, rfl, hc.2⟩⟩
    ·cases h
theorem eql_run (X : Fx) {t : TypeId} {ox oy : Operand} {e : A.EK} {x y av : AV} {v u : Value} (ht : ekT X t = some e) (h : A.eql e x y = some av) (r : Rep c x v) (q : Rep c y u) :
  ∃ k, (do eqGuard .eql t ox oy v u; binOp .eql t v u : Sem Value).run X.P w = .ok k w ∧ Rep c av k := by
 obtain ⟨b, h1, h2⟩ := Option.map_eq_some_iff.1 h
 subst h2
 obtain ⟨h3, h4⟩ := eqK_run w X ht h1 r q
 refine ⟨.bool b, ?_, by simp [Rep]⟩
 rcases h4 with ⟨xs, ys, rfl, rfl, hg⟩ | ⟨k, m, n, rfl, rfl, rfl⟩ | ⟨m, n, rfl, rfl, rfl⟩ | ⟨m, n, rfl, rfl, hb⟩ | ⟨m, n, rfl, rfl⟩
 ·simp only [Sem.run_bind, run_eqGuard_agg w .eql t ox oy xs ys hg, Result.andThen_ok]
  simp [binOp, h3]
 ·simp [eqGuard_at_int, binOp_eql]
 ·rw [strEq]; simp [eqGuard_at_string, binOp, Op.stringOp]
 ·simp only [eqGuard_at_bool, Sem.run_bind, Sem.run_pure, Result.andThen_ok]; simp [binOp, h3]
 ·simp only [eqGuard_at_pointer, Sem.run_bind, Sem.run_pure, Result.andThen_ok]; simp [binOp, h3]
theorem neq_run (X : Fx) {t : TypeId} {ox oy : Operand} {e : A.EK} {x y av : AV} {v u : Value} (ht : ekT X t = some e) (h : A.neq e x y = some av) (r : Rep c x v) (q : Rep c y u) :
  ∃ k, (do eqGuard .neq t ox oy v u; binOp .neq t v u : Sem Value).run X.P w = .ok k w ∧ Rep c av k := by
 obtain ⟨b, h1, h2⟩ := Option.map_eq_some_iff.1 h
 subst h2
 obtain ⟨h3, h4⟩ := eqK_run w X ht h1 r q
 refine ⟨.bool (!b), ?_, by simp [Rep]⟩
 rcases h4 with ⟨xs, ys, rfl, rfl, hg⟩ | ⟨k, m, n, rfl, rfl, rfl⟩ | ⟨m, n, rfl, rfl, rfl⟩ | ⟨m, n, rfl, rfl, hb⟩ | ⟨m, n, rfl, rfl⟩
 ·simp only [Sem.run_bind, run_eqGuard_agg w .neq t ox oy xs ys hg, Result.andThen_ok]
  simp [binOp, h3]
 ·simp [eqGuard_at_int, binOp_neq]; rfl
 ·rw [strEq]; simp [eqGuard_at_string, binOp, Op.stringOp]
 ·simp only [eqGuard_at_bool, Sem.run_bind, Sem.run_pure, Result.andThen_ok]; simp [binOp, h3]
 ·simp only [eqGuard_at_pointer, Sem.run_bind, Sem.run_pure, Result.andThen_ok]; simp [binOp, h3]
theorem sl_nil {P : Program} {el : TypeId} (d : Nat) (t : TypeId) (a : Option Addr) (n m : Nat) (h : P.underlying t = some (.slice el)) : (Op.equalIn (d + 1) t (.slice a n m) (.slice none 0 0)).run P w = .ok a.isNone w := by
 cases a <;> simp [Op.equalIn, run_underlying h]
theorem isN_run {P : Program} {t e : TypeId} {x y : AV} {b : Bool} {v u : Value} (ht : P.underlying t = some (.slice e)) (h : A.isN x y = some b) (r : Rep c x v) (q : Rep c y u) :
  ∃ a n m, v = .slice a n m ∧ u = .slice none 0 0 ∧ (Op.equal t v u).run P w = .ok b w := by
 cases y <;> simp only [A.isN] at h <;> first | (cases h; done) | skip
 simp only [Rep] at q; subst q
 have hs : ∃ a n m, v = .slice a n m ∧ b = a.isNone := by
  split at h <;> first | (cases h; done) | skip
  all_goals injection h with h; subst h; simp only [Rep] at r
  ·exact ⟨none, 0, 0, r, rfl⟩
  ·obtain ⟨a, cap, e1, _, _, k | ⟨b, off, rfl, _⟩⟩ := r
   ·cases k
   ·exact ⟨_, _, _, e1, rfl⟩
  ·obtain ⟨_, p, _, _, a, cap, rfl, _⟩ := r
   exact ⟨_, _, _, rfl, rfl⟩
 obtain ⟨a, n, m, rfl, rfl⟩ := hs
 exact ⟨a, n, m, rfl, rfl, sl_nil w 9999 t a n m ht⟩
theorem bin_run (X : Fx) {op : BinOp} {t : TypeId} {ox oy : Operand} {x y av : AV} {v u : Value} (h : binA X op t x y = some av) (r : Rep c x v) (q : Rep c y u) :
  ∃ k, (do eqGuard op t ox oy v u; binOp op t v u : Sem Value).run X.P w = .ok k w ∧ Rep c av k := by
 cases op <;> simp only [binA] at h <;> first | (cases h; done) | skip
 case add => obtain ⟨k, h1, h2⟩ := add_run (P := X.P) (t := t) w h r q; exact ⟨k, by simp [eqGuard_add, h1], h2⟩
 case sub => obtain ⟨k, h1, h2⟩ := sub_run (P := X.P) (t := t) w h r q; exact ⟨k, by simp [eqGuard_sub, h1], h2⟩
 case mul => obtain ⟨k, h1, h2⟩ := mul_run (P := X.P) (t := t) w h r q; exact ⟨k, by simp [eqGuard_mul, h1], h2⟩
 case quo => obtain ⟨k, h1, h2⟩ := quo_run (P := X.P) (t := t) w h r q; exact ⟨k, by simp [eqGuard_quo, h1], h2⟩
 case rem => obtain ⟨k, h1, h2⟩ := rem_run (P := X.P) (t := t) w h r q; exact ⟨k, by simp [eqGuard_rem, h1], h2⟩
 case lss => obtain ⟨k, h1, h2⟩ := lss_run (P := X.P) (t := t) w h r q; exact ⟨k, by simp [eqGuard_lss, h1], h2⟩
 case leq => obtain ⟨k, h1, h2⟩ := leq_run (P := X.P) (t := t) w h r q; exact ⟨k, by simp [eqGuard_leq, h1], h2⟩
 case gtr => obtain ⟨k, h1, h2⟩ := gtr_run (P := X.P) (t := t) w h r q; exact ⟨k, by simp [eqGuard_gtr, h1], h2⟩
 case geq => obtain ⟨k, h1, h2⟩ := geq_run (P := X.P) (t := t) w h r q; exact ⟨k, by simp [eqGuard_geq, h1], h2⟩
 case shl => obtain ⟨k, h1, h2⟩ := shl_run (P := X.P) (t := t) w h r q; exact ⟨k, by simp [eqGuard_shl, h1], h2⟩
 case shr => obtain ⟨k, h1, h2⟩ := shr_run (P := X.P) (t := t) w h r q; exact ⟨k, by simp [eqGuard_shr, h1], h2⟩
 case eql =>
  cases he : ekT X t with
  | none =>
   rw [he] at h
   simp only at h
   split at h
   ·rename_i e ht
    obtain ⟨b, h1, rfl⟩ := Option.map_eq_some_iff.1 h
    obtain ⟨a, n, m, rfl, rfl, k2⟩ := isN_run (P := X.P) w ht h1 r q
    exact ⟨.bool b, by simp [eqGuard, binOp, k2], by simp [Rep]⟩
   ·cases h
  | some e => rw [he] at h; exact eql_run w X he h r q
 case neq =>
  cases he : ekT X t with
  | none =>
   rw [he] at h
   simp only at h
   split at h
   ·rename_i e ht
    obtain ⟨b, h1, rfl⟩ := Option.map_eq_some_iff.1 h
    obtain ⟨a, n, m, rfl, rfl, k2⟩ := isN_run (P := X.P) w ht h1 r q
    exact ⟨.bool (!b), by simp [eqGuard, binOp, k2], by simp [Rep]⟩
   ·cases h
  | some e => rw [he] at h; exact neq_run w X he h r q
theorem idx_rep {n j : Nat} {i : AV} {v : Value} (h : A.idx n i = some j) (r : Rep c i v) : ∃ k, v = .int k (j : Int) ∧ j < n := by
 unfold A.idx at h
 split at h
 ·simp only [Rep] at r
  split at h
  ·rename_i k m hm
   injection h with h
   subst r
   exact ⟨_, by rw [← h]; congr 1; omega, by omega⟩
  ·cases h
 ·cases h
def RepO (c : RC) : Option AV → Option Value → Prop
 | none, none => True
 | some x, some v => Rep c x v
 | _, _ => False
theorem bound_rep {y d j : Nat} {x : Option AV} {v : Option Value} {code : BoundsCode} (h : A.bound y d x = some j) (r : RepO c x v) :
  (x = none ∧ v = none ∧ j = d) ∨ ∃ a u, x = some a ∧ v = some u ∧ (Instr.sliceBound u y code).run P w = .ok j w ∧ j ≤ y := by
 cases x with
 | none => cases v with
  | none => simp only [A.bound] at h; injection h with h; exact .inl ⟨rfl, rfl, h.symm⟩
  | some u => exact r.elim
 | some a => cases v with
  | none => exact r.elim
  | some u =>
   simp only [RepO] at r
   cases a <;> simp only [A.bound] at h <;> first | (cases h; done) | skip
   rename_i k m
   split at h
   ·rename_i hm
    injection h with h
    simp only [Rep] at r; subst r
    refine .inr ⟨_, _, rfl, rfl, ?_, by omega⟩
    simp [Instr.sliceBound, asIntOf, hm, h]
   ·cases h
theorem sliceBounds_run {isS : Bool} {y len cap l h : Nat} {lo hi : Option AV} {vl vh : Option Value} (hc : len ≤ cap) (hy : y ≤ cap) (hh : A.bound y len hi = some h) (hl : A.bound h 0 lo = some l)
  (rh : RepO c hi vh) (rl : RepO c lo vl) :
  (Instr.sliceBounds isS len cap vl vh none).run P w = .ok (l, h, cap) w ∧ l ≤ h ∧ (h ≤ y ∨ h ≤ len) := by
 have big : ∀ {u : Value} {code : BoundsCode}, (Instr.sliceBound u y code).run P w = .ok h w → (Instr.sliceBound u cap code).run P w = .ok h w := by
  intro u code e
  unfold Instr.sliceBound at e ⊢
  simp only [Sem.run_bind] at e ⊢
  generalize (asIntOf u).run P w = r at *
  cases r with
  | halt x w' => simp at e
  | ok p w' =>
   obtain ⟨k, i⟩ := p
   simp only [Result.andThen_ok, Sem.run_ite] at e ⊢
   split at e
   ·rename_i hi
    rw [if_pos ⟨hi.1, by omega⟩]; exact e
   ·simp only [boundsPanic, Sem.run_bind] at e
    exfalso
    revert e
    split
    ·simp [runtimePanic, goPanic]; split <;> simp [runtimePanic, goPanic]
    ·simp [runtimePanic, goPanic]
 rcases bound_rep (P := P) (code := if isS then .sliceAcap else .sliceAlen) w hh rh with ⟨rfl, rfl, rfl⟩ | ⟨x, u, rfl, rfl, e1, e2⟩
 ·rcases bound_rep (P := P) (code := .sliceB) w hl rl with ⟨rfl, rfl, rfl⟩ | ⟨y, q, rfl, rfl, e3, e4⟩
  ·exact ⟨by simp [Instr.sliceBounds], Nat.zero_le _, .inr (Nat.le_refl _)⟩
  ·exact ⟨by simp [Instr.sliceBounds, e3], e4, .inr (Nat.le_refl _)⟩
 ·rcases bound_rep (P := P) (code := .sliceB) w hl rl with ⟨rfl, rfl, rfl⟩ | ⟨y, q, rfl, rfl, e3, e4⟩
  ·exact ⟨by simp [Instr.sliceBounds, big e1], Nat.zero_le _, .inl e2⟩
  ·exact ⟨by simp [Instr.sliceBounds, big e1, e3], e4, .inl e2⟩
theorem bound_up {y y' d d' j : Nat} {x : AV} (h : A.bound y d (some x) = some j) (hy : y ≤ y') : A.bound y' d' (some x) = some j := by
 cases x <;> simp only [A.bound] at h ⊢ <;> first | (cases h; done) | skip
 split at h
 ·rename_i hm; rw [if_pos ⟨hm.1, by omega⟩]; exact h
 ·cases h
theorem slice3_run {t e : TypeId} {i : TypeInfo} {x hi mx av : AV} {lo : Option AV} {v vh vm : Value} {vl : Option Value} (ht : P.underlying t = some (.slice e)) (hi' : P.info? e = some i)
  (h : A.slice3 x lo hi mx = some av) (r : Rep c x v) (rl : RepO c lo vl) (rh : Rep c hi vh) (rm : Rep c mx vm) : ∃ k, (Instr.slice t v vl (some vh) (some vm)).run P w = .ok k w ∧ Rep c av k := by
 have hsz : (sizeOf e).run P w = .ok i.size w := by simp [sizeOf, run_typeInfo' w hi']
 unfold A.slice3 at h
 obtain ⟨n, h0, h⟩ := Option.bind_eq_some_iff.1 h
 have hv : ∃ a len cap, v = .slice a len cap ∧ len ≤ cap ∧ n = .int .i64 (len : Nat) := by
  cases x <;> simp only [A.lenS] at h0 <;> first | (cases h0; done) | skip
  all_goals injection h0 with h0; subst h0; simp only [Rep] at r
  case sl => obtain ⟨a, cap, rfl, hc, _⟩ := r; exact ⟨a, _, cap, rfl, hc, rfl⟩
  case nsl => subst r; exact ⟨none, 0, 0, rfl, Nat.le_refl _, rfl⟩
  case ez => obtain ⟨a, rfl⟩ := r; exact ⟨a, 0, 0, rfl, Nat.le_refl _, rfl⟩
  case os => obtain ⟨_, p, _, _, a, cap, rfl, hc, _⟩ := r; exact ⟨some a, _, cap, rfl, hc, rfl⟩
 obtain ⟨a, len, cap, rfl, hc, rfl⟩ := hv
 simp only [Int.toNat_natCast] at h
 obtain ⟨m, h1, h⟩ := Option.bind_eq_some_iff.1 h
 obtain ⟨h', h2, h⟩ := Option.bind_eq_some_iff.1 h
 obtain ⟨l, h3, rfl⟩ := Option.map_eq_some_iff.1 h
 rcases bound_rep (P := P) (code := .slice3Acap) w (bound_up (d' := 0) h1 hc) (show RepO c (some mx) (some vm) from rm) with ⟨k, _⟩ | ⟨_, u, _, q1, e1, _⟩
 ·cases k
 injection q1 with q1; subst q1
 rcases bound_rep (P := P) (code := .slice3B) w h2 (show RepO c (some hi) (some vh) from rh) with ⟨k, _⟩ | ⟨_, u, _, q2, e2, hle⟩
 ·cases k
 injection q2 with q2; subst q2
 rcases bound_rep (P := P) (code := .slice3C) w h3 rl with ⟨rfl, rfl, rfl⟩ | ⟨y, q, rfl, rfl, e3, e4⟩
 ·refine ⟨_, by simp [Instr.slice, run_underlying ht, Instr.sliceBounds, e1, e2, hsz]; rfl, ?_⟩
  by_cases hm : m = 0
  ·subst hm
   have : h' = 0 := by omega
   subst this
   simp [Rep]
  ·rw [if_neg hm]; simp [Rep]
 ·refine ⟨_, by simp [Instr.slice, run_underlying ht, Instr.sliceBounds, e1, e2, e3, hsz]; rfl, ?_⟩
  by_cases hm : m = 0
  ·subst hm
   have : h' = 0 := by omega
   subst this
   have : l = 0 := by omega
   subst this
   simp [Rep]
  ·rw [if_neg hm]; simp [Rep]
theorem sliceZ_run {t : TypeId} {x av : AV} {lo hi : Option AV} {v : Value} {vl vh : Option Value} (ht : P.underlying t = some .string)
  (h : A.sliceZ x lo hi = some av) (r : Rep c x v) (rl : RepO c lo vl) (rh : RepO c hi vh) : ∃ k, (Instr.slice t v vl vh none).run P w = .ok k w ∧ Rep c av k := by
 cases x <;> simp only [A.sliceZ] at h <;> first | (cases h; done) | skip
 rename_i s
 obtain ⟨h', h1, h2⟩ := Option.bind_eq_some_iff.1 h
 obtain ⟨l, h3, h4⟩ := Option.map_eq_some_iff.1 h2
 simp only [Rep] at r; subst r; subst h4
 obtain ⟨e, _, _⟩ := sliceBounds_run (P := P) (isS := false) w (Nat.le_refl _) (Nat.le_refl _) h1 h3 rh rl
 exact ⟨.string (s.extract l h'), by simp [Instr.slice, run_underlying ht, e], by simp [Rep]⟩
theorem room_le {σ : Heap} (hh : HeapRel c σ) {id g sz off len cap : Nat} {p : Pl} (h1 : c.E[id]? = some p) (hc : len ≤ cap) (hsz : 0 < sz) (r : g = p.g → p.sz = sz ∧ p.base + (off + cap) * p.sz = p.csz) : A.room σ id g sz off len ≤ cap := by
 unfold A.room
 split
 ·rename_i g' sz' es hs
  split
  ·rename_i hc'
   obtain ⟨rfl, rfl, hle⟩ := hc'
   obtain ⟨j1, j2, j3, j4, j5, j7, j8, j9⟩ := hh.blk id p _ h1 hs
   obtain ⟨k1, k3⟩ := r j1.symm
   rw [k1] at k3
   have : es.length * sz ≤ (off + cap) * sz := by omega
   have := Nat.le_of_mul_le_mul_right this j4
   omega
  ·exact hc
 ·exact hc
theorem sliceS_run {t e : TypeId} {i : TypeInfo} {x av : AV} {lo hi : Option AV} {v : Value} {vl vh : Option Value} {σ : Heap} (hh0 : HeapRel c σ) (ht : P.underlying t = some (.slice e)) (hi' : P.info? e = some i)
  (h : A.sliceS i.size x lo hi σ = some av) (r : Rep c x v) (rl : RepO c lo vl) (rh : RepO c hi vh) : ∃ k, (Instr.slice t v vl vh none).run P w = .ok k w ∧ Rep c av k := by
 have hsz : (sizeOf e).run P w = .ok i.size w := by simp [sizeOf, run_typeInfo' w hi']
 cases x <;> simp only [A.sliceS] at h <;> first | (cases h; done) | skip
 case sl sz es =>
  split at h
  ·rename_i hs
   subst hs
   obtain ⟨h', h1, h2⟩ := Option.bind_eq_some_iff.1 h
   obtain ⟨l, h3, h4⟩ := Option.map_eq_some_iff.1 h2
   subst h4
   simp only [Rep] at r
   obtain ⟨a, cap, rfl, hcap, hp, r⟩ := r
   obtain ⟨e1, hl, hh⟩ := sliceBounds_run (P := P) (isS := true) w hcap hcap h1 h3 rh rl
   refine ⟨.slice (if cap = l then a else a.map (·.add (l * i.size))) (h' - l) (cap - l), by simp [Instr.slice, run_underlying ht, e1, hsz], ?_⟩
   simp only [Rep]
   have hlen : ((es.take h').drop l).length = h' - l := by simp; omega
   refine ⟨_, _, by rw [hlen], by rw [hlen]; omega, hp, ?_⟩
   by_cases hz : h' = l
   ·left; apply List.drop_eq_nil_of_le; simp; omega
   ·right
    rcases r with r | ⟨b, off, rfl, hb, hX, r⟩
    ·subst r; simp at hh; omega
    ·refine ⟨b, off + l * i.size, ?_, hb, hX, (r.take h').drop l⟩
     rw [if_neg (by omega)]
     simp [addr_add]
  ·cases h
 case nsl =>
  obtain ⟨h', h1, h2⟩ := Option.bind_eq_some_iff.1 h
  obtain ⟨l, h3, h4⟩ := Option.map_eq_some_iff.1 h2
  subst h4
  simp only [Rep] at r
  subst r
  obtain ⟨e1, hl, hh⟩ := sliceBounds_run (P := P) (isS := true) w (Nat.le_refl 0) (Nat.le_refl 0) h1 h3 rh rl
  refine ⟨.slice none 0 0, ?_, by simp [Rep]⟩
  have : h' = 0 := by omega
  have : l = 0 := by omega
  subst_vars
  simp [Instr.slice, run_underlying ht, e1, hsz]
 case ez =>
  obtain ⟨h', h1, h2⟩ := Option.bind_eq_some_iff.1 h
  obtain ⟨l, h3, h4⟩ := Option.map_eq_some_iff.1 h2
  subst h4
  simp only [Rep] at r
  obtain ⟨q, rfl⟩ := r
  obtain ⟨e1, hl, hh⟩ := sliceBounds_run (P := P) (isS := true) w (Nat.le_refl 0) (Nat.le_refl 0) h1 h3 rh rl
  refine ⟨.slice q 0 0, ?_, by simp [Rep]⟩
  have : h' = 0 := by omega
  have : l = 0 := by omega
  subst_vars
  simp [Instr.slice, run_underlying ht, e1, hsz]
 case os id g sz off len =>
  split at h
  ·rename_i hs
   subst hs
   obtain ⟨h', h1, h2⟩ := Option.bind_eq_some_iff.1 h
   obtain ⟨l, h3, h4⟩ := Option.map_eq_some_iff.1 h2
   subst h4
   simp only [Rep] at r
   obtain ⟨hg, p, hp1, hp2, a, cap, rfl, hcap, r⟩ := r
   obtain ⟨e1, hl, hh⟩ := sliceBounds_run (P := P) (isS := true) w hcap (by
    by_cases hz : i.size = 0
    ·have : A.room σ id g i.size off len = len := by
      unfold A.room
      split
      ·rename_i g' sz' es hs
       split
       ·rename_i hc'
        obtain ⟨rfl, rfl, hle⟩ := hc'
        obtain ⟨_, _, _, j4, _⟩ := hh0.blk id p _ hp1 hs
        omega
       ·rfl
      ·rfl
     rw [this]; exact hcap
    ·exact room_le hh0 hp1 hcap (by omega) (fun k => ⟨(r k).1, (r k).2.2⟩)) h1 h3 rh rl
   have hle : h' ≤ cap := by
    rcases hh with hh | hh
    ·refine Nat.le_trans hh ?_
     by_cases hz : i.size = 0
     ·have : A.room σ id g i.size off len = len := by
       unfold A.room
       split
       ·rename_i g' sz' es hs
        split
        ·rename_i hc'
         obtain ⟨rfl, rfl, hle⟩ := hc'
         obtain ⟨_, _, _, j4, _⟩ := hh0.blk id p _ hp1 hs
         omega
        ·rfl
       ·rfl
      rw [this]; exact hcap
     ·exact room_le hh0 hp1 hcap (by omega) (fun k => ⟨(r k).1, (r k).2.2⟩)
    ·omega
   refine ⟨.slice (if cap = l then some a else (some a).map (·.add (l * i.size))) (h' - l) (cap - l), by simp [Instr.slice, run_underlying ht, e1, hsz], ?_⟩
   simp only [Rep]
   refine ⟨hg, p, hp1, hp2, (if cap = l then a else a.add (l * i.size)), cap - l, by by_cases e : cap = l <;> simp [e], by omega, fun hgp => ?_⟩
   obtain ⟨k1, k2, k3⟩ := r hgp
   refine ⟨k1, ?_, ?_⟩
   ·by_cases e : cap = l
    ·left; omega
    ·right
     rw [if_neg e]
     rcases k2 with k2 | k2
     ·omega
     ·rw [k2, addr_add, k1, Nat.add_mul]; congr 1; omega
   ·rw [show off + l + (cap - l) = off + cap by omega]; exact k3
  ·cases h
end
end Go.Proofs.YtfalbgflabajbaaDoor

namespace Go.Proofs.YtfalbgflabajbaaDoor
set_option linter.unusedSectionVars false
open Go.RowKit
set_option linter.unusedVariables false
set_option linter.unusedSimpArgs false

def spl (arr : Array Value) (off : Nat) (l : List Value) : Array Value := (arr.toList.take off ++ l ++ arr.toList.drop (off + l.length)).toArray
theorem spl_nil (arr : Array Value) (off : Nat) : spl arr off [] = arr := by simp [spl]
theorem spl_cons (arr : Array Value) (off : Nat) (x : Value) (l : List Value) (h : off + (l.length + 1) ≤ arr.size) : spl arr off (x :: l) = spl (arr.setIfInBounds off x) (off + 1) l := by
 unfold spl
 congr 1
 have hlt : off < arr.toList.length := by simp; omega
 simp only [Array.toList_setIfInBounds, List.length_cons]
 rw [List.take_succ_eq_append_getElem (by simpa using hlt), List.getElem_set_self, List.take_set_of_le (Nat.le_refl _), List.drop_set_of_lt (by omega)]
 simp [Nat.add_assoc, Nat.add_comm 1 l.length]
theorem spl_size (arr : Array Value) (off : Nat) (l : List Value) (h : off + l.length ≤ arr.size) : (spl arr off l).size = arr.size := by
 simp [spl]; omega
theorem fold_spl (off : Nat) : ∀ (l : List Value) (k : Nat) (arr : Array Value), off + k + l.length ≤ arr.size → (l.zipIdx k).foldl (fun cs (p : Value × Nat) => cs.setIfInBounds (off + p.2) p.1) arr = spl arr (off + k) l
 | [], k, arr, h => by simp [spl_nil]
 | x :: l, k, arr, h => by
  simp only [List.zipIdx_cons, List.foldl_cons]
  rw [fold_spl off l (k + 1) _ (by simp at h ⊢; omega), spl_cons _ _ _ _ (by simpa using h)]
  rfl
theorem setB_same {w : World} {b : Nat} {o : Obj} (h : w.heap[b]? = some o) : w.setB b o = w := by
 unfold World.setB
 have hb := (Array.getElem?_eq_some_iff.1 h)
 obtain ⟨hb, e⟩ := hb
 have : w.heap.setIfInBounds b o = w.heap := by
  apply Array.ext_getElem?
  intro i
  rw [Array.getElem?_setIfInBounds]
  by_cases hi : b = i
  ·subst hi; rw [if_pos rfl, if_pos hb, h]
  ·rw [if_neg hi]
 rw [this]
theorem setB_setB (w : World) (b : Nat) (o o' : Obj) : (w.setB b o).setB b o' = w.setB b o' := by
 unfold World.setB; simp
theorem setCell_setB {w : World} {b off : Nat} {arr : Array Value} {t : TypeId} {fz : Nat × Nat} (h : w.heap[b]? = some (.cells arr t fz)) (v : Value) :
  w.setCell ⟨b, off, none⟩ v = w.setB b (.cells (arr.setIfInBounds off v) t fz) := by
 unfold World.setCell World.setB
 obtain ⟨hb, e⟩ := Array.getElem?_eq_some_iff.1 h
 congr 1
 apply Array.ext_getElem?
 intro i
 rw [Array.getElem?_modify, Array.getElem?_setIfInBounds]
 by_cases hi : b = i
 ·subst hi; simp [h, hb, e]
 ·simp [hi]
section
variable {P : Program} {c : RC}
theorem store_one {v : Value} (h : one1 v = true) (w : World) (a : Addr) : (store a v).run P w = stored P w a v .plain := by
 cases v <;> first | exact run_store P w a _ .plain rfl | (simp [one1] at h)
theorem run_storeCells {b off : Nat} {t : TypeId} : ∀ (vs : List Value) (i : Nat) (w : World) (arr : Array Value), w.heap[b]? = some (.cells arr t (0, 0)) → off + i + vs.length ≤ arr.size → (∀ x ∈ vs, one1 x = true) →
  (storeCells ⟨b, off, none⟩ vs i).run P w = .ok () (w.setB b (.cells (spl arr (off + i) vs) t (0, 0)))
 | [], i, w, arr, h, hl, ho => by simp [storeCells, spl_nil, setB_same h]
 | v :: vs, i, w, arr, h, hl, ho => by
  have hc : w.cell? ⟨b, off + i, none⟩ = some (arr[off + i]'(by simp at hl; omega)) := by
   rw [cells_of_list h, Array.getElem?_eq_getElem]
  have hf : w.frozen? ⟨b, off + i, none⟩ = false := by simp [World.frozen?, h]
  have hs : (store ((⟨b, off, none⟩ : Addr).add i) v).run P w = .ok () (w.setB b (.cells (arr.setIfInBounds (off + i) v) t (0, 0))) := by
   rw [addr_add, store_one (ho v (by simp)), stored]
   simp [hc, hf, setCell_setB h]
  have hb : b < w.heap.size := (Array.getElem?_eq_some_iff.1 h).1
  have ih := run_storeCells (off := off) vs (i + 1) (w.setB b (.cells (arr.setIfInBounds (off + i) v) t (0, 0))) (arr.setIfInBounds (off + i) v) (heap_setB_same _ hb) (by simp at hl ⊢; omega) (fun x hx => ho x (by simp [hx]))
  simp only [storeCells, Sem.run_bind, hs, Result.andThen_ok, ih, setB_setB]
  rw [spl_cons _ _ _ _ (by simpa using hl)]
  rfl
theorem RepL.spl {cs new cs' : List AV} {arr : Array Value} {vs : List Value} {off : Nat} (h : A.splice off new cs = some cs') (r : RepL c cs arr.toList) (q : RepL c new vs) : RepL c cs' (Proofs.YtfalbgflabajbaaDoor.spl arr off vs).toList ∧ off + vs.length ≤ arr.size := by
 unfold A.splice at h
 split at h
 ·injection h with h
  subst h
  have l1 := r.length; have l2 := q.length
  simp at l1
  refine ⟨?_, by omega⟩
  simp only [Proofs.YtfalbgflabajbaaDoor.spl, List.toList_toArray]
  rw [← l2]
  exact ((r.take off).append q).append (r.drop _)
 ·cases h
theorem one_spl {arr : Array Value} {vs : List Value} {off : Nat} (h : ∀ x ∈ arr.toList, one1 x = true) (k : ∀ x ∈ vs, one1 x = true) : ∀ x ∈ (spl arr off vs).toList, one1 x = true := by
 intro x hx
 simp only [spl, List.toList_toArray, List.mem_append] at hx
 rcases hx with (hx | hx) | hx
 ·exact h x (List.mem_of_mem_take hx)
 ·exact k x hx
 ·exact h x (List.mem_of_mem_drop hx)
theorem chunks_len (sz : Nat) : ∀ (n : Nat) (l : List AV), (chunks sz n l).length = n
 | 0, _ => rfl
 | n + 1, l => by simp [chunks, chunks_len sz n]
theorem chunks_rep {sz b : Nat} : ∀ (n off : Nat) (l : List AV), l.length = n * sz → RepCs c b off l → RepEs c sz b off (chunks sz n l)
 | 0, off, l, _, _ => by simp [chunks, RepEs]
 | n + 1, off, l, hl, r => by
  simp only [chunks, RepEs]
  rw [Nat.add_mul] at hl
  refine ⟨by simp; omega, r.take sz, chunks_rep n (off + sz) _ (by simp; omega) (r.drop sz)⟩
theorem range_zero (z : List Value) (hz : 0 < z.length) : ∀ n, ((List.range (n * z.length)).map fun i => (z.toArray)[i % z.toArray.size]!) = (List.replicate n z).flatten
 | 0 => by simp
 | n + 1 => by
  rw [Nat.add_mul, Nat.one_mul, List.range_add, List.map_append, range_zero z hz n, List.replicate_succ', List.flatten_append]
  congr 1
  simp only [List.map_map, List.flatten_cons, List.flatten_nil, List.append_nil]
  apply List.ext_getElem
  ·simp
  ·intro i h1 h2
   simp at h1
   simp only [List.getElem_map, List.getElem_range, Function.comp, List.size_toArray]
   rw [Nat.add_comm, Nat.add_mul_mod_self_right, Nat.mod_eq_of_lt h1]
   simp [h1]
theorem RepL.flatten {zs : List AV} {vs : List Value} (h : RepL c zs vs) : ∀ n, RepL c (List.replicate n zs).flatten (List.replicate n vs).flatten
 | 0 => by simp [RepL]
 | n + 1 => by simp only [List.replicate_succ, List.flatten_cons]; exact h.append (RepL.flatten h n)
end
section
variable {X : Fx} {z : Z} {s : AS} {a : Act} {w w' : World} {E : List Pl} {pb : Nat → Option Nat}
theorem place_rep (h : St X z s a w E pb) {tag : Option (Nat × Bool)} (ht : tagOk a tag) {x : Operand} {b off : Nat} {cs : List AV} (hp : place X s tag x = some (b, off)) (hb : A.lb (s.sl.getD b .undef) = some cs) :
  ∃ k, pb b = some k ∧ a.eval x = .pointer (some ⟨k, off, none⟩) ∧ BoxAt (ctx z w E pb) k cs ∧ s.sl[b]? = some (.lbx cs) := by
 have hsl : s.sl[b]? = some (.lbx cs) := by
  by_cases hlt : b < s.sl.length
  ·have e : s.sl.getD b .undef = s.sl[b] := by simp [List.getD, hlt]
   rw [e] at hb
   rw [List.getElem?_eq_getElem hlt]
   generalize s.sl[b] = y at *
   cases y <;> simp only [A.lb] at hb <;> first | (cases hb; done) | (injection hb with hb; subst hb; rfl)
  ·have e : s.sl.getD b .undef = .undef := by simp [List.getD, Nat.le_of_not_lt hlt]
   rw [e] at hb; cases hb
 obtain ⟨k, k1, k2, k3⟩ := h.slot b _ hsl
 refine ⟨k, k1, ?_, k3, hsl⟩
 cases x with
 | tmp t =>
  simp only [place] at hp
  cases hL : X.L.contains t
  ·rw [hL] at hp
   simp only [cond_false] at hp
   cases hA : s.A t with
   | none => rw [hA] at hp; cases hp
   | some p =>
    rw [hA] at hp
    simp only at hp
    cases hLs : X.L.contains p.slot
    ·rw [hLs] at hp; cases hp
    rw [hLs] at hp
    simp only [cond_true] at hp
    have key : p.slot = b ∧ p.off = off ∧ tagOk a p.tag := by
     cases htag : p.tag with
     | none =>
      rw [htag] at hp
      simp only [Option.some.injEq, Prod.mk.injEq] at hp
      exact ⟨hp.1, hp.2, trivial⟩
     | some g =>
      rw [htag] at hp
      simp only at hp
      cases hg : (tag == some g)
      ·rw [hg] at hp; cases hp
      ·rw [hg] at hp
       simp only [cond_true, Option.some.injEq, Prod.mk.injEq] at hp
       have : tag = some g := by simpa using hg
       exact ⟨hp.1, hp.2, this ▸ ht⟩
    obtain ⟨e1, e2, e3⟩ := key
    obtain ⟨k', j1, j2⟩ := h.adr t p hA e3
    rw [e1, k1] at j1
    injection j1 with j1; subst j1
    rw [e2] at j2
    exact j2
  ·rw [hL] at hp
   simp only [cond_true, Option.some.injEq, Prod.mk.injEq] at hp
   obtain ⟨rfl, rfl⟩ := hp
   exact k2
 | _ => simp [place] at hp
theorem deref_rep {c : RC} {σ : Heap} (hh : HeapRel c σ) {x : AV} {cs : List AV} {v : Value} (h : A.deref x σ = some cs) (r : Rep c x v) : ∃ b off, v = .pointer (some ⟨b, off, none⟩) ∧ RepCs c b off cs := by
 cases x <;> simp only [A.deref] at h <;> first | (cases h; done) | skip
 case rp l =>
  injection h with h; subst h
  simp only [Rep] at r
  obtain ⟨b, off, e, _, _, r⟩ := r
  exact ⟨b, off, e, r⟩
 case op id off =>
  simp only [Rep] at r
  obtain ⟨p, h1, h2, e⟩ := r
  split at h
  ·rename_i cs0 hs
   injection h with h; subst h
   obtain ⟨_, h3⟩ := hh.blk id p _ h1 hs
   exact ⟨_, _, e, by simpa using h3.2.drop off⟩
  ·cases h
 case oe id g i off =>
  simp only [Rep] at r
  obtain ⟨hg, p, h1, h2, q, e, r⟩ := r
  split at h
  ·rename_i g' sz es hs
   split at h
   ·rename_i hgg
    obtain ⟨el, h3, h4⟩ := Option.map_eq_some_iff.1 h
    subst h4
    obtain ⟨k1, k2, k3, k4, k5, k6, k7, _⟩ := hh.blk id p _ h1 hs
    have hq := r (by rw [hgg, k1])
    subst hq
    refine ⟨_, _, e, ?_⟩
    rw [k3]
    exact (RepEs.nth k7 h3).2.drop off
   ·cases h
  ·cases h
theorem fill_rep {c : RC} {ρ : Operand → Value} (hev : ∀ x, Rep c (ev X s x) (ρ x)) {pl : Nat → Option (Nat × TypeId)} {place : Nat → Option (Nat × Nat)} (hp : ∀ i off t, pl i = some (off, t) → place i = some (off, X.P.cellsOf t)) :
  ∀ (ps : List (Nat × Operand)) (cs cs' : List AV) (arr : Array Value), fillA X s pl ps cs = some cs' → RepL c cs arr.toList → (∀ x ∈ arr.toList, one1 x = true) →
   ∃ arr', Instr.fill place arr (ps.map fun p => (p.1, ρ p.2)) = some arr' ∧ RepL c cs' arr'.toList ∧ ∀ x ∈ arr'.toList, one1 x = true
 | [], cs, cs', arr, h, r, o => by
  simp only [fillA] at h; injection h with h; subst h
  exact ⟨arr, by simp [Instr.fill], r, o⟩
 | (i, x) :: ps, cs, cs', arr, h, r, o => by
  simp only [fillA] at h
  cases hpl : pl i with
  | none => rw [hpl] at h; cases h
  | some ot =>
   obtain ⟨off, t⟩ := ot
   rw [hpl] at h
   simp only at h
   obtain ⟨new, h1, h2⟩ := Option.bind_eq_some_iff.1 h
   obtain ⟨c2, h3, h4⟩ := Option.bind_eq_some_iff.1 h2
   obtain ⟨r1, r2, r3, _⟩ := cellsT_rep X h1 (hev x)
   obtain ⟨r4, r5⟩ := r.spl h3 r1
   have r5' : off + (ρ x).cells.size ≤ arr.size := by simpa using r5
   obtain ⟨arr', k1, k2, k3⟩ := fill_rep hev hp ps c2 cs' (spl arr off (ρ x).cells.toList) h4 r4 (one_spl o r2)
   refine ⟨arr', ?_, k2, k3⟩
   simp only [List.map_cons, Instr.fill, hp i off t hpl]
   have hz : ((ρ x).cells.size ≠ X.P.cellsOf t || decide (off + (ρ x).cells.size > arr.size)) = false := by simp [r3]; omega
   have hf : (ρ x).cells.zipIdx.foldl (fun cs (p : Value × Nat) => cs.setIfInBounds (off + p.2) p.1) arr = spl arr off (ρ x).cells.toList := by
    have := fold_spl off (ρ x).cells.toList 0 arr (by simpa using r5')
    rw [← Array.foldl_toList]
    simpa using this
   simp only [hz]
   rw [← k1, ← hf]
   rfl
end
end Go.Proofs.YtfalbgflabajbaaDoor

namespace Go.Proofs.YtfalbgflabajbaaDoor
set_option linter.unusedSectionVars false
open Go.RowKit
set_option linter.unusedVariables false
set_option linter.unusedSimpArgs false
section
variable {c : RC} (w : World)
theorem forIn_yield {P : Program} (fs : List Field) (body : Field → PUnit → Sem (ForInStep PUnit)) (h : ∀ f ∈ fs, (body f ⟨⟩).run P w = .ok (.yield ⟨⟩) w) : (forIn fs PUnit.unit body : Sem PUnit).run P w = .ok ⟨⟩ w := by
 induction fs with
 | nil => simp
 | cons f fs ih =>
  simp only [List.forIn_cons, Sem.run_bind, h f (by simp), Result.andThen_ok]
  exact ih fun g hg => h g (by simp [hg])
theorem eqFs_mem {P : Program} {d : Nat} : ∀ (fs : List Field) (off tot : Nat), eqFs (eqOk P d) P.cellsOf fs off = some tot → ∀ f ∈ fs, f.name ≠ "_" ∧ eqOk P d f.type = true ∧ f.offset + P.cellsOf f.type ≤ tot
 | [], off, tot, h, f, hf => by simp at hf
 | g :: fs, off, tot, h, f, hf => by
  simp only [eqFs] at h
  cases hc : (g.name != "_" && g.offset == off && eqOk P d g.type)
  ·rw [hc] at h; cases h
  ·rw [hc] at h
   simp only [cond_true] at h
   simp only [Bool.and_eq_true, bne_iff_ne, beq_iff_eq] at hc
   obtain ⟨⟨hn, ho⟩, hk⟩ := hc
   have hle := eqFs_len (fun t => kinds_len d t) fs _ _ h
   rcases List.mem_cons.1 hf with rfl | hf
   ·exact ⟨hn, hk, by omega⟩
   ·exact eqFs_mem fs _ _ h f hf
theorem checkKey_run {P : Program} {em : Bool} : ∀ (d D : Nat) (hD : d ≤ D) (t : TypeId) (vs : List Value), eqOk P d t = true → vs.length = P.cellsOf t → (Instr.checkKey em D t (asCells P t vs)).run P w = .ok () w
 | 0, _, _, t, vs, h, _ => by simp [eqOk] at h
 | d + 1, 0, hD, _, _, _, _ => by omega
 | d + 1, D + 1, hD, t, vs, h, l => by
  unfold eqOk at h
  cases hd : P.underlying t with
  | none => rw [hd] at h; cases h
  | some de =>
   rw [hd] at h
   cases de <;> simp only at h <;> first | (cases h; done) | skip
   case bool => unfold Instr.checkKey; simp [run_underlying hd, asCells, hd]
   case int => unfold Instr.checkKey; simp [run_underlying hd, asCells, hd]
   case string => unfold Instr.checkKey; simp [run_underlying hd, asCells, hd]
   case struct fs =>
    simp only [Bool.and_eq_true, Bool.not_eq_true', beq_iff_eq] at h
    have hm := eqFs_mem fs.toList 0 _ h.2
    unfold Instr.checkKey
    simp only [Sem.run_bind, run_underlying hd, asCells, hd, Result.andThen_ok]
    rw [← Array.forIn_toList, forIn_yield w]
    ·first | done | simp
    ·intro f hf
     obtain ⟨hn, hk, hle⟩ := hm f hf
     obtain ⟨d', rfl⟩ : ∃ d', d = d' + 1 := by
      cases d with
      | zero => simp [eqOk] at hk
      | succ d' => exact ⟨d', rfl⟩
     have r1 := run_part_cells w hk (vs := vs.toArray) (off := f.offset) (by simp; omega)
     have e1 := checkKey_run (em := em) (d' + 1) D (by omega) f.type _ hk (show ((vs.toArray.toList.drop f.offset).take (P.cellsOf f.type)).length = _ by simp; omega)
     simp [hn, r1, e1]
theorem key_checked (X : Fx) {kt : TypeId} {ek : A.EK} (ht : ekT X kt = some ek) {k : AV} {key : Value} (hk : A.keyOk ek k = true) (r : Rep c k key) (em : Bool) : (Instr.checkKey em 10000 kt key).run X.P w = .ok () w := by
 unfold ekT at ht
 cases hd : X.P.underlying kt with
 | none => rw [hd] at ht; cases ht
 | some de =>
  rw [hd] at ht
  cases de <;> simp only at ht <;> first | (cases ht; done) | skip
  case bool => show (Instr.checkKey em (9999 + 1) kt key).run X.P w = _; unfold Instr.checkKey; simp [run_underlying hd]
  case int => show (Instr.checkKey em (9999 + 1) kt key).run X.P w = _; unfold Instr.checkKey; simp [run_underlying hd]
  case string => show (Instr.checkKey em (9999 + 1) kt key).run X.P w = _; unfold Instr.checkKey; simp [run_underlying hd]
  case pointer el =>
   cases hc : (X.P.cellsOf el != 0)
   ·rw [hc] at ht; cases ht
   ·rw [hc] at ht; injection ht with ht; subst ht; cases k <;> simp [A.keyOk] at hk
  case struct fs =>
   cases hc : (eqOk X.P 9 kt && !X.P.eqGuardType X.P.depth kt)
   ·rw [hc] at ht; cases ht
   ·rw [hc] at ht
    injection ht with ht; subst ht
    simp only [Bool.and_eq_true, Bool.not_eq_true'] at hc
    cases k <;> simp only [A.keyOk] at hk <;> first | (cases hk; done) | skip
    rename_i xs
    simp only [Rep] at r
    obtain ⟨vs, rfl, r1, _⟩ := r
    have hl : vs.toList.length = X.P.cellsOf kt := by rw [← r1.length, beq_iff_eq.1 hk, kinds_len 9 kt hc.1]
    have := checkKey_run w (em := em) 9 10000 (by decide) kt vs.toList hc.1 hl
    simpa [asCells, hd] using this
def FindsAs (c : RC) (es : List MapEntry) : Option AV → Option (Nat × Value) → Prop
 | none, none => True
 | some av, some (i, v) => Rep c av v ∧ ∃ e, es[i]? = some e ∧ e.val = v
 | _, _ => False
theorem find_asking (X : Fx) {kt : TypeId} {ek : A.EK} (ht : ekT X kt = some ek) {k : AV} {key : Value} (rk : Rep c k key) : ∀ (ents : List (AV × AV)) (es es0 : List MapEntry) (i : Nat) (r : Option AV), A.find ek k ents = some r → RepM c ents es → (∀ j, es[j]? = es0[i + j]?) →
  ∃ res, (Instr.findAsking kt key es i).run X.P w = .ok res w ∧ FindsAs c es0 r res ∧ A.ixFrom ek k ents i = some (res.map (·.1))
 | [], es, es0, i, r, h, re, he => by
  simp only [A.find] at h; injection h with h; subst h
  simp only [RepM] at re; subst re
  exact ⟨none, by simp [Instr.findAsking], trivial, rfl⟩
 | (k', v') :: ents, es, es0, i, r, h, re, he => by
  simp only [A.find] at h
  obtain ⟨b, h1, h2⟩ := Option.bind_eq_some_iff.1 h
  obtain ⟨e, es', rfl, r1, r2, r3⟩ := re
  have hq := (eqK_run w X ht h1 rk r1).1
  cases b
  ·simp only [cond_false] at h2
   obtain ⟨res, k1, k2⟩ := find_asking X ht rk ents es' es0 (i + 1) r h2 r3 (fun j => by have := he (j + 1); simp at this; rw [show i + 1 + j = i + (j + 1) by omega]; exact this)
   exact ⟨res, by simp [Instr.findAsking, hq, k1], k2.1, by simp [A.ixFrom, h1, k2.2]⟩
  ·simp only [cond_true] at h2
   injection h2 with h2; subst h2
   have h0 := he 0
   simp at h0
   exact ⟨some (i, e.val), by simp [Instr.findAsking, hq], ⟨r2, e, h0.symm, rfl⟩, by simp [A.ixFrom, h1]⟩
theorem find_now (X : Fx) {kt : TypeId} {ek : A.EK} {d : TypeDesc} (hd : X.P.underlying kt = some d) (ht : ekT X kt = some ek) (hns : ∀ fs, d ≠ .struct fs) (hnp : ∀ e, d ≠ .pointer e) {k : AV} {key : Value} (rk : Rep c k key) :
  ∀ (ents : List (AV × AV)) (es es0 : List MapEntry) (i : Nat) (r : Option AV), A.find ek k ents = some r → RepM c ents es → (∀ j, es[j]? = es0[i + j]?) →
  ∃ res, Instr.findNow d key es i = some res ∧ FindsAs c es0 r res ∧ A.ixFrom ek k ents i = some (res.map (·.1))
 | [], es, es0, i, r, h, re, he => by
  simp only [A.find] at h; injection h with h; subst h
  simp only [RepM] at re; subst re
  exact ⟨none, by simp [Instr.findNow], trivial, rfl⟩
 | (k', v') :: ents, es, es0, i, r, h, re, he => by
  simp only [A.find] at h
  obtain ⟨b, h1, h2⟩ := Option.bind_eq_some_iff.1 h
  obtain ⟨e, es', rfl, r1, r2, r3⟩ := re
  have hsame : Instr.sameNow d key e.key = some b := by
   unfold ekT at ht
   rw [hd] at ht
   cases d <;> simp only at ht <;> first | (cases ht; done) | exact absurd rfl (hns _) | exact absurd rfl (hnp _) | skip
   case bool =>
    injection ht with ht; subst ht
    simp only [A.eqK, A.eqB] at h1
    split at h1
    ·simp only [Rep] at rk r1; injection h1 with h1; rw [rk, r1]; simp [Instr.sameNow, h1]
    ·cases h1
   case int =>
    injection ht with ht; subst ht
    simp only [A.eqK, A.eqI] at h1
    split at h1
    ·split at h1
     ·simp only [Rep] at rk r1; injection h1 with h1; rw [rk, r1]; simp [Instr.sameNow, h1]; assumption
     ·cases h1
    ·cases h1
   case string =>
    injection ht with ht; subst ht
    simp only [A.eqK, A.eqZ] at h1
    split at h1
    ·simp only [Rep] at rk r1; injection h1 with h1; rw [rk, r1]; simp [Instr.sameNow, h1]
    ·cases h1
  cases b
  ·simp only [cond_false] at h2
   obtain ⟨res, k1, k2⟩ := find_now X hd ht hns hnp rk ents es' es0 (i + 1) r h2 r3 (fun j => by have := he (j + 1); simp at this; rw [show i + 1 + j = i + (j + 1) by omega]; exact this)
   exact ⟨res, by simp [Instr.findNow, hsame, k1], k2.1, by simp [A.ixFrom, h1, k2.2]⟩
  ·simp only [cond_true] at h2
   injection h2 with h2; subst h2
   have h0 := he 0
   simp at h0
   exact ⟨some (i, e.val), by simp [Instr.findNow, hsame], ⟨r2, e, h0.symm, rfl⟩, by simp [A.ixFrom, h1]⟩
theorem find_run (X : Fx) {kt : TypeId} {ek : A.EK} (ht : ekT X kt = some ek) {k : AV} {key : Value} (hk : A.keyOk ek k = true) (rk : Rep c k key) {ents : List (AV × AV)} {es : List MapEntry} {r : Option AV} (h : A.find ek k ents = some r) (re : RepM c ents es) :
  ∃ res, (Instr.findKey kt key es).run X.P w = .ok res w ∧ FindsAs c es r res ∧ A.ixFrom ek k ents 0 = some (res.map (·.1)) := by
 cases hd : X.P.underlying kt with
 | none => unfold ekT at ht; rw [hd] at ht; cases ht
 | some d =>
  by_cases hs : ∃ fs, d = .struct fs
  ·obtain ⟨fs, rfl⟩ := hs
   cases es with
   | nil =>
    cases ents with
    | nil => simp only [A.find] at h; injection h with h; subst h; exact ⟨none, by simp [Instr.findKey, run_underlying hd, Instr.findNow], trivial, rfl⟩
    | cons p ents => obtain ⟨k', v'⟩ := p; simp [RepM] at re
   | cons e es' =>
    obtain ⟨res, k1, k2⟩ := find_asking w X ht rk ents (e :: es') (e :: es') 0 r h re (fun j => by simp)
    refine ⟨res, ?_, k2⟩
    have : Instr.findNow (.struct fs) key (e :: es') 0 = none := by simp [Instr.findNow, Instr.sameNow]
    simp [Instr.findKey, run_underlying hd, this, k1]
  ·have hp : ∀ e, d ≠ .pointer e := by
    rintro e rfl
    unfold ekT at ht
    rw [hd] at ht
    simp only at ht
    cases hc : (X.P.cellsOf e != 0)
    ·rw [hc] at ht; cases ht
    ·rw [hc] at ht; injection ht with ht; subst ht; cases k <;> simp [A.keyOk] at hk
   obtain ⟨res, k1, k2⟩ := find_now X hd ht (fun fs e => hs ⟨fs, e⟩) hp rk ents es es 0 r h re (fun j => by simp)
   exact ⟨res, by simp [Instr.findKey, run_underlying hd, k1], k2⟩
theorem RepM.length {c : RC} : ∀ {l : List (AV × AV)} {es : List MapEntry}, RepM c l es → l.length = es.length
 | [], es, h => by simp only [RepM] at h; subst h; rfl
 | (k, v) :: l, es, h => by obtain ⟨e, es', rfl, _, _, h⟩ := h; simp [RepM.length h]
theorem perm_rep {c : RC} {l L : List MapEntry} (hp : l.Perm L) : ∀ {es : List (AV × AV)}, RepM c es l → ∃ es0, RepM c es0 L ∧ es0.Perm es := by
 induction hp with
 | nil =>
  intro es h
  exact ⟨es, h, List.Perm.refl _⟩
 | cons x _ ih =>
  intro es h
  cases es with
  | nil => simp [RepM] at h
  | cons p es =>
   obtain ⟨e, es', h1, h2, h3, h4⟩ := h
   injection h1 with h1 h5
   subst h1 h5
   obtain ⟨es0, k1, k2⟩ := ih h4
   exact ⟨p :: es0, ⟨_, _, rfl, h2, h3, k1⟩, k2.cons p⟩
 | swap x y l =>
  intro es h
  match es, h with
  | [], h => simp [RepM] at h
  | [p], h =>
   obtain ⟨e, es', h1, h2, h3, h4⟩ := h
   simp only [RepM] at h4
   subst h4
   cases h1
  | p :: q :: es, h =>
   obtain ⟨e, es', h1, h2, h3, h4⟩ := h
   obtain ⟨e', es'', h5, h6, h7, h8⟩ := h4
   subst h5
   injection h1 with h1 h9
   injection h9 with h9 h10
   subst h1 h9 h10
   exact ⟨q :: p :: es, ⟨_, _, rfl, h6, h7, _, _, rfl, h2, h3, h8⟩, List.Perm.swap _ _ _⟩
 | trans _ _ ih1 ih2 =>
  intro es h
  obtain ⟨es1, k1, k2⟩ := ih1 h
  obtain ⟨es2, k3, k4⟩ := ih2 k1
  exact ⟨es2, k3, k4.trans k2⟩
theorem find_some {e : A.EK} {k v : AV} : ∀ {es : List (AV × AV)}, A.find e k es = some (some v) → ∃ p ∈ es, p.2 = v ∧ A.eqK e k p.1 = some true
 | [], h => by simp [A.find] at h
 | (k', v') :: r, h => by
  simp only [A.find] at h
  obtain ⟨b, h1, h2⟩ := Option.bind_eq_some_iff.1 h
  cases b
  ·obtain ⟨p, q1, q2, q3⟩ := find_some h2
   exact ⟨p, List.mem_cons_of_mem _ q1, q2, q3⟩
  ·injection h2 with h2; injection h2 with h2
   exact ⟨(k', v'), List.mem_cons_self, h2, h1⟩
theorem find_none {e : A.EK} {k : AV} : ∀ {es : List (AV × AV)}, A.find e k es = some none → ∀ p ∈ es, A.eqK e k p.1 = some false
 | [], h => by simp
 | (k', v') :: r, h => by
  simp only [A.find] at h
  obtain ⟨b, h1, h2⟩ := Option.bind_eq_some_iff.1 h
  cases b
  ·intro p hp
   rcases List.mem_cons.1 hp with rfl | hp
   ·exact h1
   ·exact find_none h2 p hp
  ·injection h2 with h2; cases h2
theorem find_of_none {e : A.EK} {k : AV} : ∀ {es : List (AV × AV)}, (∀ p ∈ es, A.eqK e k p.1 = some false) → A.find e k es = some none
 | [], _ => rfl
 | (k', v') :: r, h => by
  simp only [A.find, h (k', v') List.mem_cons_self, Option.bind_some, cond_false]
  exact find_of_none fun p hp => h p (List.mem_cons_of_mem _ hp)
theorem find_of_some {e : A.EK} {k : AV} {p : AV × AV} (h1 : A.eqK e k p.1 = some true) : ∀ {es : List (AV × AV)}, p ∈ es → (es.map (·.1)).Nodup → (∀ q ∈ es, q.1 ≠ p.1 → A.eqK e k q.1 = some false) → A.find e k es = some (some p.2)
 | [], hm, _, _ => by simp at hm
 | (k', v') :: r, hm, hn, h => by
  rcases List.mem_cons.1 hm with rfl | hm
  ·simp only [A.find, h1, Option.bind_some, cond_true]
  ·simp only [List.map_cons, List.nodup_cons] at hn
   have hne : k' ≠ p.1 := fun q => hn.1 (by rw [q]; exact List.mem_map_of_mem hm)
   simp only [A.find, h (k', v') List.mem_cons_self hne, Option.bind_some, cond_false]
   exact find_of_some h1 hm hn.2 fun q hq => h q (List.mem_cons_of_mem _ hq)
theorem bqB (s t : ByteArray) : (s == t) = decide (s = t) := by
 obtain ⟨a⟩ := s
 obtain ⟨b⟩ := t
 show (a == b) = _
 rw [Bool.eq_iff_iff]
 simp
theorem eqC_int {q : Nat} {x : AV} {n : Int} {b : Bool} (h : A.eqC q x (.int .i64 n) = some b) : q = 0 ∧ ∃ a, x = .int .i64 a ∧ b = (a == n) := by
 match q, h with
 | 0, h =>
  cases x <;> simp only [A.eqC, A.eqI] at h <;> first | (cases h; done) | skip
  split at h
  ·rename_i hk
   injection h with h
   exact ⟨rfl, _, by rw [hk], h.symm⟩
  ·cases h
 | 1, h => cases x <;> simp [A.eqC, A.eqB] at h
 | 2, h => cases x <;> simp [A.eqC, A.eqZ] at h
 | q + 3, h => simp [A.eqC] at h
theorem eqC_str {q : Nat} {x : AV} {n : ByteArray} {b : Bool} (h : A.eqC q x (.str n) = some b) : q = 2 ∧ ∃ a, x = .str a ∧ b = (a == n) := by
 match q, h with
 | 0, h => cases x <;> simp [A.eqC, A.eqI] at h
 | 1, h => cases x <;> simp [A.eqC, A.eqB] at h
 | 2, h =>
  cases x <;> simp only [A.eqC, A.eqZ] at h <;> first | (cases h; done) | skip
  injection h with h
  exact ⟨rfl, _, rfl, h.symm⟩
 | q + 3, h => simp [A.eqC] at h
theorem eqK_other {e : A.EK} {k : AV} {n m : Int} {s t : ByteArray} (h : A.eqK e k (.agg [.int .i64 n, .str s]) = some true) (hne : (AV.agg [.int .i64 m, .str t]) ≠ .agg [.int .i64 n, .str s]) : A.eqK e k (.agg [.int .i64 m, .str t]) = some false := by
 unfold A.eqK at h ⊢
 cases e with
 | i => cases k <;> simp [A.eqI] at h
 | b => cases k <;> simp [A.eqB] at h
 | z => cases k <;> simp [A.eqZ] at h
 | p => cases k <;> simp [A.eqP] at h
 | s ks =>
  cases k <;> simp only [reduceCtorEq] at h ⊢
  rename_i xs
  have hk : ∃ k1 k2 x y, ks = [k1, k2] ∧ xs = [x, y] := by
   match ks, xs, h with
   | [], [], h => simp [A.eqAll] at h
   | [], _ :: _, h => simp [A.eqAll] at h
   | _ :: _, [], h => simp [A.eqAll] at h
   | [_], [_], h => simp [A.eqAll] at h
   | [_], _ :: _ :: _, h => simp [A.eqAll] at h
   | _ :: _ :: _, [_], h => simp [A.eqAll] at h
   | [k1, k2], [x, y], h => exact ⟨_, _, _, _, rfl, rfl⟩
   | [_, _], _ :: _ :: _ :: _, h => simp [A.eqAll] at h
   | _ :: _ :: _ :: _, [_, _], h => simp [A.eqAll] at h
   | _ :: _ :: _ :: _, _ :: _ :: _ :: _, h => simp [A.eqAll] at h
  obtain ⟨k1, k2, x, y, rfl, rfl⟩ := hk
  simp only [A.eqAll] at h ⊢
  obtain ⟨b1, h1, h2⟩ := Option.bind_eq_some_iff.1 h
  obtain ⟨b2, h3, h4⟩ := Option.map_eq_some_iff.1 h2
  obtain ⟨b3, h5, h6⟩ := Option.bind_eq_some_iff.1 h3
  simp only [Option.map_some, Option.some.injEq, Bool.and_true] at h6
  subst h6
  simp only [Bool.and_eq_true] at h4
  obtain ⟨rfl, rfl⟩ := h4
  obtain ⟨rfl, a, rfl, e1⟩ := eqC_int h1
  obtain ⟨rfl, z, rfl, e2⟩ := eqC_str h5
  have e1 := eq_of_beq e1.symm
  rw [bqB] at e2
  have e2 := of_decide_eq_true e2.symm
  subst e1 e2
  simp only [A.eqC, A.eqI, A.eqZ, if_true, Option.bind_some, Option.map_some, Option.some.injEq, Bool.and_eq_false_iff, Bool.and_true, bqB]
  by_cases e1 : a = m
  ·right
   rw [decide_eq_false_iff_not]
   intro e2
   exact hne (by rw [e1, e2])
  ·left
   rw [beq_eq_false_iff_ne]; exact e1
theorem find_perm {e : A.EK} {k : AV} {es es0 : List (AV × AV)} {r : Option AV} (hd : DistK es) (hp : es0.Perm es) (h : A.find e k es = some r) : A.find e k es0 = some r := by
 cases r with
 | none => exact find_of_none fun p hm => find_none h p (hp.mem_iff.1 hm)
 | some v =>
  obtain ⟨p, h1, rfl, h3⟩ := find_some h
  refine find_of_some h3 (hp.mem_iff.2 h1) ((hp.map _).nodup_iff.2 hd.2) fun q hq hne => ?_
  obtain ⟨n, s, e1⟩ := hd.1 p h1
  obtain ⟨m, t, e2⟩ := hd.1 q (hp.mem_iff.1 hq)
  rw [e1] at h3 hne
  rw [e2] at hne ⊢
  exact eqK_other h3 hne
theorem perm_find {c : RC} {es : List (AV × AV)} {l L : List MapEntry} (h : RepM c es l) (hp : PermOk es l L) : ∃ es0, RepM c es0 L ∧ es0.length = es.length ∧ ∀ e k r, A.find e k es = some r → A.find e k es0 = some r := by
 rcases hp with rfl | ⟨hp, hd⟩
 ·exact ⟨es, h, rfl, fun _ _ _ q => q⟩
 ·obtain ⟨es0, k1, k2⟩ := perm_rep hp h
  exact ⟨es0, k1, k2.length_eq, fun _ _ _ q => find_perm hd k2 q⟩
theorem entries_run {P : Program} (hw : c.w = w) {σ : Heap} (hh : HeapRel c σ) {m : AV} {v : Value} {ents : List (AV × AV)} (h : A.entries m σ = some ents) (r : Rep c m v) :
  ∃ (es : Array MapEntry) (ents' : List (AV × AV)), RepM c ents' es.toList ∧ ents'.length = ents.length ∧ (∀ e k r, A.find e k ents = some r → A.find e k ents' = some r) ∧ ((v = .map none ∧ es = #[]) ∨ ∃ b clock, v = .map (some b) ∧ (getObj b).run P w = .ok (.map es clock) w) := by
 cases m <;> simp only [A.entries] at h <;> first | (cases h; done) | skip
 case nm =>
  injection h with h; subst h
  simp only [Rep] at r
  exact ⟨#[], [], by simp [RepM], rfl, fun _ _ _ q => q, .inl ⟨r, rfl⟩⟩
 case fm es0 =>
  injection h with h; subst h
  simp only [Rep] at r
  obtain ⟨b, e, _, _, es, clock, k1, _, l, k2, k3⟩ := r
  rw [hw] at k1
  obtain ⟨es1, j1, j2, j3⟩ := perm_find k2 k3
  exact ⟨es, es1, j1, j2, j3, .inr ⟨b, clock, e, by simp [getObj, Sem.run, k1]⟩⟩
 case om id =>
  simp only [Rep] at r
  obtain ⟨p, h1, h2, e⟩ := r
  split at h
  ·rename_i es0 hs
   injection h with h; subst h
   obtain ⟨_, es, clock, k1, _, k2⟩ := hh.blk id p _ h1 hs
   rw [hw] at k1
   exact ⟨es, _, k2, rfl, fun _ _ _ q => q, .inr ⟨p.b, clock, e, by simp [getObj, Sem.run, k1]⟩⟩
  ·cases h
theorem look_run (X : Fx) (hw : c.w = w) {σ : Heap} (hh : HeapRel c σ) {t kt et : TypeId} {inf : TypeInfo} {zv : Value} {ek : A.EK} {ok : Bool} {m k av : AV} {mv key : Value} (ht : X.P.underlying t = some (.map kt et)) (hi : X.P.info? et = some inf) (hz : inf.zero = some zv) (he : ekT X kt = some ek)
  (h : (bif ok then A.lookOk ek m k (ofVal zv) σ else A.look ek m k (ofVal zv) σ) = some av) (rm : Rep c m mv) (rk : Rep c k key) : ∃ v, (Instr.lookup t mv key ok).run X.P w = .ok v w ∧ Rep c av v := by
 have key1 : ∃ ents r, A.keyOk ek k = true ∧ A.entries m σ = some ents ∧ A.find ek k ents = some r ∧ av = (bif ok then .tup [r.getD (ofVal zv), .bool r.isSome] else r.getD (ofVal zv)) := by
  cases ok <;> simp only [cond_true, cond_false, A.look, A.lookOk] at h
  all_goals
   cases hk : A.keyOk ek k
   ·rw [hk] at h; cases h
   ·rw [hk] at h
    simp only [cond_true] at h
    obtain ⟨ents, h1, h2⟩ := Option.bind_eq_some_iff.1 h
    obtain ⟨r, h3, h4⟩ := Option.map_eq_some_iff.1 h2
    exact ⟨ents, r, rfl, h1, h3, h4.symm⟩
 obtain ⟨ents, r, hk, h1, h2, rfl⟩ := key1
 obtain ⟨es, ents', k1, _, kf, k2⟩ := entries_run (P := X.P) w hw hh h1 rm
 obtain ⟨res, k3, k4, _⟩ := find_run w X he hk rk (kf _ _ _ h2) k1
 have hzr : (zeroValue et).run X.P w = .ok zv w := by simp [zeroValue, run_typeInfo' w hi, hz]
 have hck := key_checked w X he hk rk es.isEmpty
 have main : ∀ v b, (res = none → v = zv ∧ b = false) → (∀ i u, res = some (i, u) → v = u ∧ b = true) → (Instr.lookup t mv key ok).run X.P w = .ok (if ok then .tuple #[v, .bool b] else v) w := by
  intro v b hn hs
  unfold Instr.lookup
  simp only [Sem.run_bind, run_underlying ht, Result.andThen_ok]
  rcases k2 with ⟨rfl, rfl⟩ | ⟨bb, clock, rfl, hg⟩
  ·simp only [Sem.run_pure, Result.andThen_ok, hck, Sem.run_bind, k3]
   cases res with
   | none => obtain ⟨rfl, rfl⟩ := hn rfl; simp [hzr]
   | some p => obtain ⟨i, u⟩ := p; obtain ⟨rfl, rfl⟩ := hs i u rfl; simp
  ·simp only [Sem.run_bind, hg, Sem.run_pure, Result.andThen_ok, hck, k3]
   cases res with
   | none => obtain ⟨rfl, rfl⟩ := hn rfl; simp [hzr]
   | some p => obtain ⟨i, u⟩ := p; obtain ⟨rfl, rfl⟩ := hs i u rfl; simp
 have fin : ∀ v b, Rep c (r.getD (ofVal zv)) v → r.isSome = b → Rep c (bif ok then .tup [r.getD (ofVal zv), .bool r.isSome] else r.getD (ofVal zv)) (if ok then .tuple #[v, .bool b] else v) := by
  intro v b h1 h2
  cases ok
  ·simpa using h1
  ·simp only [cond_true, if_true, Rep]
   refine ⟨_, rfl, ?_⟩
   simp only [RepL]
   exact ⟨v, _, rfl, h1, _, _, rfl, by simp [Rep, h2], rfl⟩
 cases res with
 | none =>
  cases r with
  | none => exact ⟨_, main zv false (fun _ => ⟨rfl, rfl⟩) (fun i u e => by cases e), fin zv false (ofVal_rep c zv) rfl⟩
  | some x => exact k4.elim
 | some p =>
  obtain ⟨i, u⟩ := p
  cases r with
  | none => exact k4.elim
  | some x => exact ⟨_, main u true (fun e => by cases e) (fun i' u' e => by injection e with e; injection e with _ e; exact ⟨e, rfl⟩), fin u true k4.1 rfl⟩
theorem find_born {f : MapEntry → Nat} : ∀ {l : List MapEntry} {e : MapEntry}, (l.map f).Nodup → e ∈ l → l.find? (fun x => f x == f e) = some e
 | [], e, _, h => by simp at h
 | x :: l, e, hn, h => by
  simp only [List.map_cons, List.nodup_cons] at hn
  rcases List.mem_cons.1 h with rfl | h
  ·simp
  ·have hne : f x ≠ f e := fun k => hn.1 (List.mem_map.2 ⟨e, h, k.symm⟩)
   have : (f x == f e) = false := by simpa using hne
   rw [List.find?_cons, this]
   exact find_born hn.2 h
theorem entry_run {P : Program} (hw : c.w = w) {σ : Heap} (hh : HeapRel c σ) {i av : AV} {v : Value} (hk : A.entryA i σ = some av) (ri : Rep c i v) : ∃ v', (Instr.entry v).run P w = .ok v' w ∧ Rep c av v' := by
 subst hw
 unfold A.entryA at hk
 split at hk
 ·rename_i id
  simp only [Rep] at ri
  obtain ⟨p, e1, e2, rfl⟩ := ri
  split at hk
  ·rename_i q left hs
   injection hk with hk
   subst hk
   obtain ⟨hg, hit⟩ := hh.blk id p _ e1 hs
   rcases hit with ⟨hn, _⟩ | ⟨m, seen, ents, clock, h3, h4, h5, h6, h7, h8, h9⟩
   ·cases hn
   ·rcases h9 with h9 | ⟨k', v', e, e3, e4, e5, e6, e7⟩
    ·cases h9
    ·injection e3 with e3
     subst e3
     have hget : (getObj p.b).run P c.w = .ok (.mapIter (some m) clock seen clock) c.w := by simp [getObj, Sem.run, show c.w.heap[p.b]? = _ from h3]
     have hgetm : (getObj m).run P c.w = .ok (.map ents clock) c.w := by simp [getObj, Sem.run, show c.w.heap[m]? = _ from h6]
     have hf : ents.find? (fun x => x.born == e.born) = some e := by
      rw [← Array.find?_toList]; exact find_born (f := (·.born)) h7.2 e5
     refine ⟨.tuple #[e.key, e.val], by simp [Instr.entry, hget, hgetm, e4, hf], ?_⟩
     simp only [Rep]
     exact ⟨_, rfl, by simp only [RepL]; exact ⟨_, _, rfl, e6, _, _, rfl, e7, rfl⟩⟩
  ·cases hk
 ·cases hk
end
end Go.Proofs.YtfalbgflabajbaaDoor

namespace Go.Proofs.YtfalbgflabajbaaDoor
set_option linter.unusedSectionVars false
open Go.RowKit
set_option linter.unusedVariables false
set_option linter.unusedSimpArgs false
section
variable {X : Fx} {z : Z} {s : AS} {a : Act} {w w' : World} {E : List Pl} {pb : Nat → Option Nat}
def Yields (X : Fx) (z : Z) (a : Act) (w : World) (E : List Pl) (pb : Nat → Option Nat) (o : Oper) (av : AV) : Prop :=
 ∃ v w', (execOp a.eval o).run X.P w = .ok (.value v) w' ∧ Below w.heap.size w w' ∧ Rep (ctx z w' E pb) av v
theorem Yields.same {o : Oper} {av : AV} {v : Value} (h : (execOp a.eval o).run X.P w = .ok (.value v) w) (r : Rep (ctx z w E pb) av v) : Yields X z a w E pb o av := ⟨v, w, h, Below.refl _ _, r⟩
theorem newRow_rep (h : St X z s a w E pb) (t : TypeId) {cs : List AV} {arr : Array Value} (r : RepL (ctx z w E pb) cs arr.toList) (ho : ∀ x ∈ arr.toList, one1 x = true) :
  Below w.heap.size w (w.alloc (.cells arr t)) ∧ w.heap.size < (w.alloc (.cells arr t)).heap.size ∧ ¬ (ctx z (w.alloc (.cells arr t)) E pb).X w.heap.size ∧ RepCs (ctx z (w.alloc (.cells arr t)) E pb) w.heap.size 0 cs := by
 have g : Below w.heap.size w (w.alloc (.cells arr t)) := (Below.refl _ _).alloc (Nat.le_refl _) _
 have hx : Ext (ctx z w E pb) (ctx z (w.alloc (.cells arr t)) E pb) := grow_ext g
 have hb : (w.alloc (.cells arr t)).heap[w.heap.size]? = some (.cells arr t (0, 0)) := (MapKept.heap_alloc w _).1
 exact ⟨g, by simp, h.fresh, RepCs.ofL hb (RepL.mono hx _ _ r) ho (fun i hi => by simp)⟩
theorem run_newRow {P : Program} (t : TypeId) (arr : Array Value) : (newRow t arr).run P w = .ok ⟨w.heap.size, 0, none⟩ (w.alloc (.cells arr t)) := by
 rfl
theorem zeroT_run {t : TypeId} {zs : List AV} (h : zeroT X t = some zs) (c : RC) : ∃ i v, X.P.info? t = some i ∧ i.zero = some v ∧ (zeroValue t).run X.P w = .ok v w ∧ zs = v.cells.toList.map ofCell ∧ RepL c zs v.cells.toList ∧ ∀ x ∈ v.cells.toList, one1 x = true := by
 unfold zeroT at h
 split at h
 ·rename_i i hi
  split at h
  ·rename_i v hv
   cases ho : v.cells.toList.all one1
   ·rw [ho] at h; cases h
   ·rw [ho] at h
    simp only [cond_true] at h
    injection h with h
    refine ⟨i, v, hi, hv, by simp [zeroValue, run_typeInfo' w hi, hv], h.symm, ?_, List.all_eq_true.1 ho⟩
    rw [← h]
    have := RepL.map (c := c) ofCell id v.cells.toList (fun x _ => ofCell_rep c x)
    simpa using this
  ·cases h
 ·cases h
theorem RepO.map (h : St X z s a w E pb) (x : Option Operand) : RepO (ctx z w E pb) (x.map (ev X s)) (x.map a.eval) := by
 cases x with
 | none => trivial
 | some x => exact ev_rep h x
theorem alloc_yields (h : St X z s a w E pb) {dst : Option Tmp} {t ty : TypeId} {pos : String} {af : Array Edge} {g : Option (Nat × Bool)} {cs : List AV} (hz : zeroT X t = some cs) :
  Yields X z a w E pb ⟨dst, .alloc t, ty, pos, af, g⟩ (.rp cs) := by
 obtain ⟨i, v, h1, h2, h3, h4, h5, h6⟩ := zeroT_run (w := w) hz (ctx z w E pb)
 obtain ⟨k1, k2, k3, k4⟩ := newRow_rep h t h5 h6
 refine ⟨.pointer (some ⟨w.heap.size, 0, none⟩), _, ?_, k1, by simp only [Rep]; exact ⟨_, _, rfl, k2, k3, k4⟩⟩
 simp [execOp, Instr.alloc, h3, newVar, run_newRow]
theorem box_yields (h : St X z s a w E pb) {dst : Option Tmp} {t ty : TypeId} {x : Operand} {pos : String} {af : Array Edge} {g : Option (Nat × Bool)} {cs : List AV} (hc : cellsT X t (ev X s x) = some cs) :
  Yields X z a w E pb ⟨dst, .box t x, ty, pos, af, g⟩ (.rp cs) := by
 obtain ⟨h5, h6, _, _⟩ := cellsT_rep X hc (ev_rep h x)
 obtain ⟨k1, k2, k3, k4⟩ := newRow_rep h t h5 h6
 refine ⟨.pointer (some ⟨w.heap.size, 0, none⟩), _, ?_, k1, by simp only [Rep]; exact ⟨_, _, rfl, k2, k3, k4⟩⟩
 simp [execOp, Instr.box, newVar, run_newRow]
theorem fieldOf_spec {t : TypeId} {f off : Nat} {ft : TypeId} (h : fieldOf X t f = some (off, ft)) : ∃ fs fl, X.P.underlying t = some (.struct fs) ∧ fs[f]? = some fl ∧ fl.offset = off ∧ fl.type = ft := by
 unfold fieldOf at h
 split at h
 ·rename_i fs hd
  split at h
  ·rename_i fl hf
   simp only [Option.some.injEq, Prod.mk.injEq] at h
   exact ⟨fs, fl, hd, hf, h.1, h.2⟩
  ·cases h
 ·cases h
theorem mapM_places {P : Program} : ∀ (fs : List Field), fs.all (fun f => (P.info? f.type).isSome) = true → (fs.mapM (fun f => do pure (f.offset, ← sizeOf f.type)) : Sem (List (Nat × Nat))).run P w = .ok (fs.map fun f => (f.offset, P.cellsOf f.type)) w
 | [], _ => by simp
 | f :: fs, h => by
  simp only [List.all_cons, Bool.and_eq_true] at h
  obtain ⟨i, hi⟩ := Option.isSome_iff_exists.1 h.1
  have ih := mapM_places fs h.2
  simp only [List.mapM_cons, Sem.run_bind, run_sizeOf' w hi, Result.andThen_ok, Sem.run_pure, ih, List.map_cons]
theorem build_yields (h : St X z s a w E pb) {dst : Option Tmp} {t ty : TypeId} {ps : Array (Nat × Operand)} {pos : String} {af : Array Edge} {g : Option (Nat × Bool)} {zs cs : List AV} {fs : Array Field} (hz : zeroT X t = some zs) (hd : X.P.underlying t = some (.struct fs))
  (hi : fs.toList.all (fun f => (X.P.info? f.type).isSome) = true) (hf : fillA X s (fieldOf X t) ps.toList zs = some cs) : Yields X z a w E pb ⟨dst, .build t ps, ty, pos, af, g⟩ (.agg cs) := by
 obtain ⟨i, v, h1, h2, h3, h4, h5, h6⟩ := zeroT_run (w := w) hz (ctx z w E pb)
 have hpl := mapM_places (w := w) fs.toList hi
 obtain ⟨arr, k1, k2, k3⟩ := fill_rep (c := ctx z w E pb) (ρ := a.eval) (fun x => ev_rep h x) (pl := fieldOf X t) (place := fun j => ((fs.toList.map fun f => (f.offset, X.P.cellsOf f.type)).toArray)[j]?) (fun j off t' hj => by
   obtain ⟨fs', fl, e1, e2, e3, e4⟩ := fieldOf_spec hj
   rw [hd] at e1; injection e1 with e1; injection e1 with e1; subst e1
   simp [e2, e3, e4]) ps.toList _ cs v.cells hf h5 h6
 refine Yields.same (v := .agg arr) ?_ (by simp only [Rep]; exact ⟨arr, rfl, k2, k3⟩)
 have hps : (ps.map fun (p : Nat × Operand) => (p.1, a.eval p.2)).toList = ps.toList.map fun p => (p.1, a.eval p.2) := by simp
 simp only [execOp, Instr.build, Sem.run_bind, run_underlying hd, Result.andThen_ok, h3, Array.mapM_eq_mapM_toList, Sem.run_map, hpl, hps]
 rw [k1]
 simp
theorem buildSlice_yields (h : St X z s a w E pb) {dst : Option Tmp} {t e ty : TypeId} {len : Nat} {ps : Array (Nat × Operand)} {pos : String} {af : Array Edge} {g : Option (Nat × Bool)} {zs cs : List AV} {i : TypeInfo} {av : AV}
  (hd : X.P.underlying t = some (.slice e)) (hi : X.P.info? e = some i) (hz : zeroT X e = some zs) (h0 : i.size ≠ 0) (hl : zs.length = i.size) (hm : ¬ 16777216 < len * i.size) (hav : (len = 0 ∧ av = .ez) ∨ av = .sl i.size (chunks i.size len cs))
  (hf : fillA X s (fun j => some (j * i.size, e)) ps.toList (List.replicate len zs).flatten = some cs) : Yields X z a w E pb ⟨dst, .buildSlice t len ps, ty, pos, af, g⟩ av := by
 obtain ⟨i', v, h1, h2, h3, h4, h5, h6⟩ := zeroT_run (w := w) hz (ctx z w E pb)
 rw [hi] at h1; injection h1 with h1; subst h1
 have hvl : v.cells.toList.length = i.size := by rw [← h5.length]; exact hl
 have hce : X.P.cellsOf e = i.size := by simp [Program.cellsOf, hi]
 have hsz : (sizeOf e).run X.P w = .ok i.size w := by rw [← hce]; exact run_sizeOf' w hi
 obtain ⟨zr, hzr, hzr'⟩ : ∃ zr : Array Value, ((len * i.size = 0 ∧ zr = #[]) ∨ (¬ len * i.size = 0 ∧ zr = v.cells)) ∧ ((Array.range (len * i.size)).map (zr[· % zr.size]!)).toList = (List.replicate len v.cells.toList).flatten := by
  by_cases hz0 : len * i.size = 0
  ·have : len = 0 := (Nat.mul_eq_zero.1 hz0).resolve_right h0
   subst this
   exact ⟨#[], .inl ⟨hz0, rfl⟩, by simp⟩
  ·refine ⟨v.cells, .inr ⟨hz0, rfl⟩, ?_⟩
   have := range_zero v.cells.toList (by omega) len
   rw [hvl] at this
   rw [← this]
   simp
 obtain ⟨arr, k1, k2, k3⟩ := fill_rep (c := ctx z w E pb) (ρ := a.eval) (fun x => ev_rep h x) (pl := fun j => some (j * i.size, e)) (place := fun j => some (j * i.size, i.size)) (fun j off t' hj => by simp only [Option.some.injEq, Prod.mk.injEq] at hj; obtain ⟨rfl, rfl⟩ := hj; rw [hce]) ps.toList _ cs
  ((Array.range (len * i.size)).map (zr[· % zr.size]!)) hf (by rw [hzr']; exact h5.flatten len) (by
   rw [hzr']
   intro x hx
   obtain ⟨l, hl1, hl2⟩ := List.mem_flatten.1 hx
   rw [List.mem_replicate] at hl1
   exact h6 x (hl1.2 ▸ hl2))
 obtain ⟨j1, j2, j3, j4⟩ := newRow_rep h e k2 k3
 have hcl : cs.length = len * i.size := by
  have hlen : ∀ (ps : List (Nat × Operand)) (cs cs' : List AV), fillA X s (fun j => some (j * i.size, e)) ps cs = some cs' → cs'.length = cs.length := by
   intro ps
   induction ps with
   | nil => intro cs cs' e; simp only [fillA] at e; injection e with e; rw [e]
   | cons p ps ih =>
    intro cs cs' e
    obtain ⟨q, x⟩ := p
    simp only [fillA] at e
    obtain ⟨new, e1, e2⟩ := Option.bind_eq_some_iff.1 e
    obtain ⟨c2, e3, e4⟩ := Option.bind_eq_some_iff.1 e2
    rw [ih _ _ e4]
    unfold A.splice at e3
    split at e3
    ·injection e3 with e3; subst e3; simp; omega
    ·cases e3
  rw [hlen _ _ _ hf]
  simp [List.length_flatten, hl]
 refine ⟨.slice (some ⟨w.heap.size, 0, none⟩) len len, _, ?_, j1, ?_⟩
 ·have hps : (ps.map fun (p : Nat × Operand) => (p.1, a.eval p.2)).toList = ps.toList.map fun p => (p.1, a.eval p.2) := by simp
  have hm' : ¬ len * i.size > 2 ^ 24 := hm
  rcases hzr with ⟨e1, e2⟩ | ⟨e1, e2⟩
  ·simp only [execOp, Instr.buildSlice, Sem.run_bind, run_underlying hd, Result.andThen_ok, hsz, if_neg hm', if_pos e1, Sem.run_pure, hps]
   rw [← e2, k1]
   simp [run_newRow]
  ·simp only [execOp, Instr.buildSlice, Sem.run_bind, run_underlying hd, Result.andThen_ok, hsz, if_neg hm', if_neg e1, h3, Sem.run_pure, hps]
   rw [← e2, k1]
   simp [run_newRow]
 ·rcases hav with ⟨rfl, rfl⟩ | rfl
  ·simp [Rep]
  simp only [Rep]
  refine ⟨_, _, by rw [chunks_len], by rw [chunks_len]; exact Nat.le_refl _, by omega, ?_⟩
  by_cases hl0 : len = 0
  ·left; subst hl0; rfl
  ·right; exact ⟨_, _, rfl, j2, j3, chunks_rep len 0 cs hcl j4⟩
theorem buildSlice_raw (h : St X z s a w E pb) {dst : Option Tmp} {t e ty : TypeId} {len : Nat} {ps : Array (Nat × Operand)} {pos : String} {af : Array Edge} {g : Option (Nat × Bool)} {zs cs : List AV} {i : TypeInfo}
  (hd : X.P.underlying t = some (.slice e)) (hi : X.P.info? e = some i) (hz : zeroT X e = some zs) (h0 : i.size ≠ 0) (hl : zs.length = i.size) (hm : ¬ 16777216 < len * i.size)
  (hf : fillA X s (fun j => some (j * i.size, e)) ps.toList (List.replicate len zs).flatten = some cs) : ∃ arr : Array Value, (execOp a.eval ⟨dst, .buildSlice t len ps, ty, pos, af, g⟩).run X.P w = .ok (.value (.slice (some ⟨w.heap.size, 0, none⟩) len len)) (w.alloc (.cells arr e)) ∧ arr.size = len * i.size ∧ RepL (ctx z w E pb) cs arr.toList ∧ (∀ x ∈ arr.toList, one1 x = true) ∧ cs.length = len * i.size := by
 obtain ⟨i', v, h1, h2, h3, h4, h5, h6⟩ := zeroT_run (w := w) hz (ctx z w E pb)
 rw [hi] at h1; injection h1 with h1; subst h1
 have hvl : v.cells.toList.length = i.size := by rw [← h5.length]; exact hl
 have hce : X.P.cellsOf e = i.size := by simp [Program.cellsOf, hi]
 have hsz : (sizeOf e).run X.P w = .ok i.size w := by rw [← hce]; exact run_sizeOf' w hi
 obtain ⟨zr, hzr, hzr'⟩ : ∃ zr : Array Value, ((len * i.size = 0 ∧ zr = #[]) ∨ (¬ len * i.size = 0 ∧ zr = v.cells)) ∧ ((Array.range (len * i.size)).map (zr[· % zr.size]!)).toList = (List.replicate len v.cells.toList).flatten := by
  by_cases hz0 : len * i.size = 0
  ·have : len = 0 := (Nat.mul_eq_zero.1 hz0).resolve_right h0
   subst this
   exact ⟨#[], .inl ⟨hz0, rfl⟩, by simp⟩
  ·refine ⟨v.cells, .inr ⟨hz0, rfl⟩, ?_⟩
   have := range_zero v.cells.toList (by omega) len
   rw [hvl] at this
   rw [← this]
   simp
 obtain ⟨arr, k1, k2, k3⟩ := fill_rep (c := ctx z w E pb) (ρ := a.eval) (fun x => ev_rep h x) (pl := fun j => some (j * i.size, e)) (place := fun j => some (j * i.size, i.size)) (fun j off t' hj => by simp only [Option.some.injEq, Prod.mk.injEq] at hj; obtain ⟨rfl, rfl⟩ := hj; rw [hce]) ps.toList _ cs
  ((Array.range (len * i.size)).map (zr[· % zr.size]!)) hf (by rw [hzr']; exact h5.flatten len) (by
   rw [hzr']
   intro x hx
   obtain ⟨l, hl1, hl2⟩ := List.mem_flatten.1 hx
   rw [List.mem_replicate] at hl1
   exact h6 x (hl1.2 ▸ hl2))
 obtain ⟨j1, j2, j3, j4⟩ := newRow_rep h e k2 k3
 have hcl : cs.length = len * i.size := by
  have hlen : ∀ (ps : List (Nat × Operand)) (cs cs' : List AV), fillA X s (fun j => some (j * i.size, e)) ps cs = some cs' → cs'.length = cs.length := by
   intro ps
   induction ps with
   | nil => intro cs cs' e; simp only [fillA] at e; injection e with e; rw [e]
   | cons p ps ih =>
    intro cs cs' e
    obtain ⟨q, x⟩ := p
    simp only [fillA] at e
    obtain ⟨new, e1, e2⟩ := Option.bind_eq_some_iff.1 e
    obtain ⟨c2, e3, e4⟩ := Option.bind_eq_some_iff.1 e2
    rw [ih _ _ e4]
    unfold A.splice at e3
    split at e3
    ·injection e3 with e3; subst e3; simp; omega
    ·cases e3
  rw [hlen _ _ _ hf]
  simp [List.length_flatten, hl]
 refine ⟨arr, ?_, by have := k2.length; rw [hcl] at this; simpa using this.symm, k2, k3, hcl⟩
 ·have hps : (ps.map fun (p : Nat × Operand) => (p.1, a.eval p.2)).toList = ps.toList.map fun p => (p.1, a.eval p.2) := by simp
  have hm' : ¬ len * i.size > 2 ^ 24 := hm
  rcases hzr with ⟨e1, e2⟩ | ⟨e1, e2⟩
  ·simp only [execOp, Instr.buildSlice, Sem.run_bind, run_underlying hd, Result.andThen_ok, hsz, if_neg hm', if_pos e1, Sem.run_pure, hps]
   rw [← e2, k1]
   simp [run_newRow]
  ·simp only [execOp, Instr.buildSlice, Sem.run_bind, run_underlying hd, Result.andThen_ok, hsz, if_neg hm', if_neg e1, h3, Sem.run_pure, hps]
   rw [← e2, k1]
   simp [run_newRow]
theorem buildSlice_own (h : St X z s a w E pb) {d t n : Nat} {ps : Array (Nat × Operand)} {ty : TypeId} {pos : String} {af : Array Edge} {g : Option (Nat × Bool)} {sz : Nat} {es : List (List AV)}
  (hv : opV X ⟨some d, .buildSlice t n ps, ty, pos, af, g⟩ s none = some (.sl sz es)) : ∃ (arr : Array Value) (et : TypeId), (execOp a.eval ⟨some d, .buildSlice t n ps, ty, pos, af, g⟩).run X.P w = .ok (.value (.slice (some ⟨w.heap.size, 0, none⟩) es.length es.length)) (w.alloc (.cells arr et)) ∧
   arr.size = es.length * sz ∧ 0 < sz ∧ (∀ c', c'.w.heap[w.heap.size]? = some (.cells arr et (0, 0)) → Ext (ctx z w E pb) c' → RepEs c' sz w.heap.size 0 es) ∧ ∀ x ∈ arr.toList, one1 x = true := by
 simp only [opV] at hv
 split at hv
 ·rename_i e hd
  split at hv
  ·rename_i i zs hi hz
   cases h0 : (i.size == 0 || zs.length != i.size)
   ·rw [h0] at hv
    simp only [cond_false] at hv
    simp only [Bool.or_eq_false_iff, beq_eq_false_iff_ne, bne_eq_false_iff_eq] at h0
    cases hm : Nat.blt 16777216 (n * i.size)
    ·rw [hm] at hv
     simp only [cond_false] at hv
     obtain ⟨cs, h1, h2⟩ := Option.bind_eq_some_iff.1 hv
     cases hn : (n == 0)
     ·rw [hn] at h2
      simp only [cond_false, Option.some.injEq, AV.sl.injEq] at h2
      obtain ⟨rfl, rfl⟩ := h2
      obtain ⟨arr, k1, k2, k3, k4, k5⟩ := buildSlice_raw (dst := some d) (ty := ty) (pos := pos) (af := af) (g := g) h hd hi hz h0.1 h0.2 (fun k => by rw [show Nat.blt 16777216 (n * i.size) = true from by simpa [Nat.blt_eq] using k] at hm; cases hm) h1
      rw [chunks_len]
      exact ⟨arr, e, k1, k2, Nat.pos_of_ne_zero h0.1, fun c' hb hx => chunks_rep n 0 cs k5 (RepCs.ofL hb (RepL.mono hx _ _ k3) k4 (fun j hj => by simp)), k4⟩
     ·rw [hn] at h2; cases h2
    ·rw [hm] at hv; cases hv
   ·rw [h0] at hv; cases hv
  ·cases hv
 ·cases hv
theorem opV_run (h : St X z s a w E pb) {tag : Option (Nat × Bool)} (ht : tagOk a tag) {o : Oper} {av : AV} (hv : opV X o s tag = some av) (hc : ∀ c, o.op = .call c → ∃ b, c.callee = .builtin b) : Yields X z a w E pb o av := by
 obtain ⟨dst, op, ty, pos, af, g⟩ := o
 cases op <;> simp only [opV] at hv <;> first | (cases hv; done) | skip
 case move x => injection hv with hv; subst hv; exact Yields.same (by simp [execOp]) (ev_rep h x)
 case assign x => injection hv with hv; subst hv; exact Yields.same (by simp [execOp]) (ev_rep h x)
 case pick x y u =>
  have r := ev_rep h x
  generalize ev X s x = vx at *
  cases vx <;> simp only [A.pick] at hv <;> first | (cases hv; done) | skip
  rename_i b
  injection hv with hv
  simp only [Rep] at r
  cases b
  ·simp only [cond_false] at hv; subst hv
   exact Yields.same (v := a.eval u) (by simp [execOp, r, asBool]) (ev_rep h u)
  ·simp only [cond_true] at hv; subst hv
   exact Yields.same (v := a.eval y) (by simp [execOp, r, asBool]) (ev_rep h y)
 case alloc t =>
  split at hv
  ·injection hv with hv; subst hv; exact alloc_yields h (by assumption)
  ·cases hv
 case box t x =>
  obtain ⟨cs, h1, h2⟩ := Option.bind_eq_some_iff.1 hv
  injection h2 with h2; subst h2
  exact box_yields h h1
 case build t ps =>
  split at hv
  ·rename_i zs fs hz hd
   cases hi : fs.toList.all (fun f => (X.P.info? f.type).isSome)
   ·rw [hi] at hv; cases hv
   ·rw [hi] at hv
    simp only [cond_true] at hv
    obtain ⟨cs, h1, h2⟩ := Option.bind_eq_some_iff.1 hv
    injection h2 with h2; subst h2
    exact build_yields h hz hd hi h1
  ·cases hv
 case buildSlice t len ps =>
  split at hv
  ·rename_i e hd
   split at hv
   ·rename_i i zs hi hz
    cases h0 : (i.size == 0 || zs.length != i.size)
    ·rw [h0] at hv
     simp only [cond_false] at hv
     simp only [Bool.or_eq_false_iff, beq_eq_false_iff_ne, bne_eq_false_iff_eq] at h0
     cases hm : Nat.blt 16777216 (len * i.size)
     ·rw [hm] at hv
      simp only [cond_false] at hv
      obtain ⟨cs, h1, h2⟩ := Option.bind_eq_some_iff.1 hv
      injection h2 with h2; subst h2
      refine buildSlice_yields h hd hi hz h0.1 h0.2 (fun k => by rw [show Nat.blt 16777216 (len * i.size) = true from by simpa [Nat.blt_eq] using k] at hm; cases hm) ?_ h1
      by_cases hl : len = 0
      ·subst hl; exact .inl ⟨rfl, rfl⟩
      ·exact .inr (by rw [show (len == 0) = false by simpa using hl]; rfl)
     ·rw [hm] at hv; cases hv
    ·rw [h0] at hv; cases hv
   ·cases hv
  ·cases hv
 case load t x =>
  split at hv
  ·rename_i b off hp
   obtain ⟨cs, h1, h2⟩ := Option.bind_eq_some_iff.1 hv
   obtain ⟨k, k1, k2, k3, k4⟩ := place_rep h ht hp h1
   obtain ⟨v, j1, j2⟩ := partT_load (c := ctx z w E pb) w X rfl k3.2 h2
   rw [Nat.zero_add] at j1
   exact Yields.same (by simp [execOp, Instr.loadAt, k2, Instr.sureAddr, j1]) j2
  ·obtain ⟨cs, h1, h2⟩ := Option.bind_eq_some_iff.1 hv
   obtain ⟨b, off, k2, k3⟩ := deref_rep h.heap h1 (ev_rep h x)
   obtain ⟨v, j1, j2⟩ := partT_load (c := ctx z w E pb) w X rfl k3 h2
   rw [Nat.add_zero] at j1
   exact Yields.same (by simp [execOp, Instr.loadAt, k2, Instr.sureAddr, j1]) j2
 case nilCheck x =>
  have r := ev_rep h x
  generalize ev X s x = vx at *
  cases vx <;> simp only [A.nilck] at hv <;> first | (cases hv; done) | skip
  all_goals
   injection hv with hv; subst hv
   have r' := r
   simp only [Rep] at r
  case rp => obtain ⟨b, off, e, _⟩ := r; exact Yields.same (v := a.eval x) (by simp [execOp, e]) r'
  case op => obtain ⟨p, _, _, e⟩ := r; exact Yields.same (v := a.eval x) (by simp [execOp, e]) r'
  case oe => obtain ⟨_, p, _, _, q, e, _⟩ := r; exact Yields.same (v := a.eval x) (by simp [execOp, e]) r'
  case fn => obtain ⟨f, vs, e, _⟩ := r; exact Yields.same (v := a.eval x) (by simp [execOp, e]) r'
 case binOp op t x y u =>
  obtain ⟨k, h1, h2⟩ := bin_run (c := ctx z w E pb) w X (ox := x) (oy := y) hv (ev_rep h x) (ev_rep h y)
  exact Yields.same (v := k) (by simp only [execOp]; rw [Sem.run_bind, h1]; rfl) h2
 case unOp op t x =>
  have r := ev_rep h x
  generalize ev X s x = vx at *
  cases op <;> simp only at hv <;> first | (cases hv; done) | skip
  case neg =>
   cases vx <;> simp only [A.neg] at hv <;> first | (cases hv; done) | skip
   rename_i k n
   injection hv with hv; subst hv
   simp only [Rep] at r
   exact Yields.same (v := .int k (k.wrap (0 - n))) (by simp [execOp, r, Op.unary, Op.intArith]) (by simp [Rep])
  case not =>
   cases vx <;> simp only [A.not] at hv <;> first | (cases hv; done) | skip
   rename_i b
   injection hv with hv; subst hv
   simp only [Rep] at r
   exact Yields.same (v := .bool (!b)) (by simp [execOp, r, Op.unary]) (by simp [Rep])
 case convert src dst' x =>
  have r := ev_rep h x
  generalize ev X s x = vx at *
  split at hv
  ·rename_i k1 k2 hs hd
   cases vx <;> simp only [A.conv] at hv <;> first | (cases hv; done) | skip
   rename_i k n
   injection hv with hv; subst hv
   simp only [Rep] at r
   exact Yields.same (v := .int k2 (k2.wrap n)) (by simp [execOp, convert, r, run_underlying hs, run_underlying hd, Conv.intToInt]) (by simp [Rep])
  ·rename_i hs hd
   cases vx <;> simp only [A.asStr] at hv <;> first | (cases hv; done) | skip
   rename_i str
   injection hv with hv; subst hv
   simp only [Rep] at r
   exact Yields.same (v := .string str) (by simp [execOp, convert, r, run_underlying hs, run_underlying hd]) (by simp [Rep])
  ·cases hv
 case makeInterface t x =>
  split at hv
  ·cases hv
  ·rename_i d hn hd
   injection hv with hv; subst hv
   have : X.P.concrete t = true := by
    unfold Program.concrete; rw [hd]; cases d <;> first | rfl | exact absurd rfl (hn _)
   exact Yields.same (v := .iface t (a.eval x)) (by simp [execOp, run_makeInterface w t _ this]) (by simp [Rep])
  ·cases hv
 case makeFunc fn first caps =>
  split at hv
  ·rename_i f
   cases hf : first.toList.isEmpty
   ·rw [hf] at hv; cases hv
   ·rw [hf] at hv
    simp only [cond_true] at hv
    injection hv with hv; subst hv
    have : first = #[] := by simpa using hf
    subst this
    refine Yields.same (v := .func (.func f) #[] (caps.map a.eval)) (by simp [execOp, Instr.makeFunc]) ?_
    simp only [Rep]
    refine ⟨f, _, rfl, by rw [h.nm]; rfl, ?_⟩
    simpa using evs_rep h caps.toList
  ·cases hv
 case slice t x lo hi mx =>
  split at hv
  ·split at hv
   ·rename_i hd
    obtain ⟨k, k1, k2⟩ := sliceZ_run (P := X.P) (c := ctx z w E pb) w hd hv (ev_rep h x) (RepO.map h lo) (RepO.map h hi)
    refine Yields.same (v := k) ?_ k2
    simp [execOp, Instr.sliceAt, run_underlying hd, k1]
   ·rename_i e hd
    split at hv
    ·rename_i i hi'
     obtain ⟨k, k1, k2⟩ := sliceS_run (P := X.P) (c := ctx z w E pb) w h.heap hd hi' hv (ev_rep h x) (RepO.map h lo) (RepO.map h hi)
     refine Yields.same (v := k) ?_ k2
     simp [execOp, Instr.sliceAt, run_underlying hd, k1]
    ·cases hv
   ·cases hv
  ·split at hv
   ·rename_i e hi1 hd
    split at hv
    ·rename_i i hi'
     obtain ⟨k, k1, k2⟩ := slice3_run (P := X.P) (c := ctx z w E pb) w hd hi' hv (ev_rep h x) (RepO.map h lo) (ev_rep h _) (ev_rep h _)
     refine Yields.same (v := k) ?_ k2
     simp [execOp, Instr.sliceAt, run_underlying hd, k1]
    ·cases hv
   ·cases hv
 case entry i =>
  obtain ⟨v', k1, k2⟩ := entry_run (P := X.P) (c := ctx z w E pb) w rfl h.heap hv (ev_rep h i)
  exact Yields.same (v := v') (by simp [execOp, k1]) k2
 case fieldAddr t x f =>
  split at hv
  ·rename_i off ft hf
   split at hv
   ·rename_i i hi
    cases h0 : (i.size == 0)
    ·rw [h0] at hv
     simp only [cond_false] at hv
     obtain ⟨fs, fl, e1, e2, e3, e4⟩ := fieldOf_spec hf
     have r := ev_rep h x
     generalize ev X s x = vx at *
     have hsz : (sizeOf fl.type).run X.P w = .ok i.size w := by rw [e4]; simp [sizeOf, run_typeInfo' w hi]
     have h0' : ¬ i.size = 0 := by simpa using h0
     have run : ∀ q, a.eval x = .pointer (some q) → (execOp a.eval ⟨dst, .fieldAddr t x f, ty, pos, af, g⟩).run X.P w = .ok (.value (.pointer (some (q.add off)))) w := by
      intro q e
      simp [execOp, Instr.fieldAt, run_underlying e1, e2, e, Instr.sureAddr, fieldPlace, hsz, h0', e3]
     cases vx <;> simp only [A.faddr] at hv <;> first | (cases hv; done) | skip
     case rp cs =>
      injection hv with hv; subst hv
      simp only [Rep] at r
      obtain ⟨b, o, e, hb, hx, r⟩ := r
      exact Yields.same (run _ e) (by simp only [Rep, addr_add]; exact ⟨b, o + off, rfl, hb, hx, r.drop off⟩)
     case op id o =>
      injection hv with hv; subst hv
      simp only [Rep] at r
      obtain ⟨p, k1, k2, e⟩ := r
      exact Yields.same (run _ e) (by simp only [Rep, addr_add]; exact ⟨p, k1, k2, rfl⟩)
     case oe id gg i' o =>
      injection hv with hv; subst hv
      simp only [Rep] at r
      obtain ⟨hg, p, k1, k2, q, e, r⟩ := r
      exact Yields.same (run _ e) (by simp only [Rep]; exact ⟨hg, p, k1, k2, _, rfl, fun k => by rw [r k, addr_add, Nat.add_assoc]⟩)
    ·rw [h0] at hv; cases hv
   ·cases hv
  ·cases hv
 case field t x f =>
  split at hv
  ·rename_i off ft hf
   obtain ⟨fs, fl, e1, e2, e3, e4⟩ := fieldOf_spec hf
   obtain ⟨cs, h1, h2⟩ := Option.bind_eq_some_iff.1 hv
   have r := ev_rep h x
   generalize ev X s x = vx at *
   cases vx <;> simp only [A.cells] at h1 <;> first | (cases h1; done) | skip
   split at h1
   ·injection h1 with h1; subst h1
    simp only [Rep] at r
    obtain ⟨vs, e, r1, r2⟩ := r
    obtain ⟨v, k1, k2⟩ := partT_part (c := ctx z w E pb) w X r1 r2 h2
    exact Yields.same (v := v) (by simp [execOp, Instr.field, run_underlying e1, e2, e, asAgg, e3, e4, k1]) k2
   ·cases h1
  ·cases hv
 case indexAddr t x i =>
  split at hv
  ·rename_i e hd
   split at hv
   ·rename_i j hj
    have hsz : (sizeOf e).run X.P w = .ok j.size w := by simp [sizeOf, run_typeInfo' w hj]
    have r := ev_rep h x
    have ri := ev_rep h i
    generalize ev X s x = vx at *
    cases vx <;> simp only [A.iaddr] at hv <;> first | (cases hv; done) | skip
    case sl sz es =>
     obtain ⟨n, h1, h2⟩ := Option.bind_eq_some_iff.1 hv
     obtain ⟨k, e1, e2⟩ := idx_rep (c := ctx z w E pb) h1 ri
     split at h2
     ·rename_i hs
      subst hs
      obtain ⟨el, h3, h4⟩ := Option.map_eq_some_iff.1 h2
      subst h4
      simp only [Rep] at r
      obtain ⟨q, cap, e3, _, _, r⟩ := r
      rcases r with r | ⟨b, off, e4, hb, hx, r⟩
      ·subst r; simp at h3
      ·subst e4
       refine Yields.same (v := .pointer (some ⟨b, off + n * j.size, none⟩)) ?_ (by simp only [Rep]; exact ⟨_, _, rfl, hb, hx, (RepEs.nth r h3).2⟩)
       simp [execOp, Instr.indexAt, run_underlying hd, e1, e3, asIntOf, hsz, e2, addr_add]
     ·cases h2
    case os id gg sz off len =>
     obtain ⟨n, h1, h2⟩ := Option.bind_eq_some_iff.1 hv
     obtain ⟨k, e1, e2⟩ := idx_rep (c := ctx z w E pb) h1 ri
     split at h2
     ·rename_i hs
      subst hs
      injection h2 with h2; subst h2
      simp only [Rep] at r
      obtain ⟨hg, p, k1, k2, q, cap, e3, hcap, r⟩ := r
      refine Yields.same (v := .pointer (some (q.add (n * j.size)))) ?_ ?_
      ·simp [execOp, Instr.indexAt, run_underlying hd, e1, e3, asIntOf, hsz, e2]
      ·simp only [Rep]
       refine ⟨hg, p, k1, k2, _, rfl, fun k => ?_⟩
       obtain ⟨j1, j2, j3⟩ := r k
       rcases j2 with j2 | j2
       ·omega
       ·rw [j2, addr_add, j1, Nat.add_mul]; congr 1; omega
     ·cases h2
   ·cases hv
  ·rename_i len e hd
   split at hv
   ·rename_i j hj
    have hsz : (sizeOf e).run X.P w = .ok j.size w := by simp [sizeOf, run_typeInfo' w hj]
    obtain ⟨n, h1, h2⟩ := Option.bind_eq_some_iff.1 hv
    obtain ⟨k, e1, e2⟩ := idx_rep (c := ctx z w E pb) h1 (ev_rep h i)
    have r := ev_rep h x
    generalize ev X s x = vx at *
    have run : ∀ q, a.eval x = .pointer (some q) → (execOp a.eval ⟨dst, .indexAddr t x i, ty, pos, af, g⟩).run X.P w = .ok (.value (.pointer (some (q.add (n * j.size))))) w := by
     intro q e
     simp [execOp, Instr.indexAt, run_underlying hd, e1, e, asIntOf, hsz, e2, Instr.sureAddr]
    cases vx <;> simp only at h2 <;> first | (cases h2; done) | skip
    case rp cs =>
     injection h2 with h2; subst h2
     simp only [Rep] at r
     obtain ⟨b, o, e, hb, hx, r⟩ := r
     exact Yields.same (run _ e) (by simp only [Rep, addr_add]; exact ⟨b, _, rfl, hb, hx, r.drop _⟩)
    case op id o =>
     injection h2 with h2; subst h2
     simp only [Rep] at r
     obtain ⟨p, k1, k2, e⟩ := r
     exact Yields.same (run _ e) (by simp only [Rep, addr_add]; exact ⟨p, k1, k2, rfl⟩)
    case oe id gg i' o =>
     injection h2 with h2; subst h2
     simp only [Rep] at r
     obtain ⟨hg, p, k1, k2, q, e, r⟩ := r
     exact Yields.same (run _ e) (by simp only [Rep]; exact ⟨hg, p, k1, k2, _, rfl, fun k => by rw [r k, addr_add, Nat.add_assoc]⟩)
   ·cases hv
  ·cases hv
 case index t x i =>
  split at hv
  ·rename_i hd
   have r := ev_rep h x
   generalize ev X s x = vx at *
   cases vx <;> simp only [A.sidx] at hv <;> first | (cases hv; done) | skip
   rename_i str
   obtain ⟨n, h1, h2⟩ := Option.bind_eq_some_iff.1 hv
   obtain ⟨by', h3, h4⟩ := Option.map_eq_some_iff.1 h2
   subst h4
   obtain ⟨k, e1, e2⟩ := idx_rep (c := ctx z w E pb) h1 (ev_rep h i)
   simp only [Rep] at r
   refine Yields.same (v := .int .u8 by'.toNat) ?_ (by simp [Rep])
   have this := h3
   simp [execOp, Instr.index, run_underlying hd, e1, r, asIntOf, this]
  ·cases hv
 case lookup t m i ok =>
  split at hv
  ·rename_i kt e hd
   split at hv
   ·rename_i inf ek hi he
    split at hv
    ·rename_i zv hz
     obtain ⟨v, k1, k2⟩ := look_run (c := ctx z w E pb) w X rfl h.heap hd hi hz he hv (ev_rep h m) (ev_rep h i)
     exact Yields.same (v := v) (by simp [execOp, k1]) k2
    ·cases hv
   ·cases hv
  ·cases hv
 case extract x i =>
  have r := ev_rep h x
  generalize ev X s x = vx at *
  cases vx <;> simp only [A.ext] at hv <;> first | (cases hv; done) | skip
  simp only [Rep] at r
  obtain ⟨vs, e, r⟩ := r
  obtain ⟨v, k1, k2⟩ := r.nth hv
  refine Yields.same (v := v) ?_ k2
  have : vs[i]? = some v := by rw [← Array.getElem?_toList]; exact k1
  simp [execOp, Instr.extract, e, this]
 case call c =>
  obtain ⟨b, hb⟩ := hc c rfl
  rw [hb] at hv
  simp only at hv
  have re := evs_rep h c.args.toList
  have hargs : c.args.map a.eval = (c.args.toList.map a.eval).toArray := by apply Array.toList_inj.1; simp
  obtain ⟨cb, hrun⟩ : ∃ cb, (execOp a.eval ⟨dst, .call c, ty, pos, af, g⟩).run X.P w = (builtin b c.argTypes ty cb (c.args.map a.eval)).run X.P w := by
   simp only [execOp, resolve, hb, Sem.run_bind, Sem.run_pure, Result.andThen_ok, invoke]
   exact ⟨_, rfl⟩
  rw [hargs] at hrun
  split at hv
  ·rename_i t x h1 h2
   rw [h2] at re
   generalize c.args.toList.map a.eval = vs at *
   simp only [RepL] at re
   obtain ⟨v, _, rfl, r, rfl⟩ := re
   have h1' : c.argTypes = #[t] := by apply Array.toList_inj.1; simpa using h1
   rw [h1'] at hrun
   split at hv
   ·rename_i hd
    cases x <;> simp only [A.lenZ] at hv <;> first | (cases hv; done) | skip
    injection hv with hv; subst hv
    simp only [Rep] at r; subst r
    exact Yields.same (by rw [hrun]; simp [builtin, Builtin.len_, run_underlying hd, goInt]; rfl) (by simp [Rep])
   ·rename_i e hd
    cases x <;> simp only [A.lenS] at hv <;> first | (cases hv; done) | skip
    all_goals
     injection hv with hv; subst hv
     simp only [Rep] at r
    case sl sz es =>
     obtain ⟨q, cap, rfl, _⟩ := r
     exact Yields.same (v := .int .i64 es.length) (by rw [hrun]; simp [builtin, Builtin.len_, run_underlying hd, goInt]) (by simp [Rep])
    case nsl =>
     subst r
     exact Yields.same (v := .int .i64 0) (by rw [hrun]; simp [builtin, Builtin.len_, run_underlying hd, goInt]) (by simp [Rep])
    case ez =>
     obtain ⟨q, rfl⟩ := r
     exact Yields.same (v := .int .i64 0) (by rw [hrun]; simp [builtin, Builtin.len_, run_underlying hd, goInt]) (by simp [Rep])
    case os id gg sz off len =>
     obtain ⟨_, p, _, _, q, cap, rfl, _⟩ := r
     exact Yields.same (v := .int .i64 len) (by rw [hrun]; simp [builtin, Builtin.len_, run_underlying hd, goInt]) (by simp [Rep])
   ·rename_i kt e hd
    have : ∃ ents, A.entries x s.σ = some ents ∧ av = .int .i64 ents.length := by
     cases x <;> simp only [A.lenM] at hv <;> first | (cases hv; done) | skip
     case om id =>
      split at hv
      ·rename_i es hs
       injection hv with hv
       exact ⟨es, by simp [A.entries, hs], hv.symm⟩
      ·cases hv
     case nm => injection hv with hv; exact ⟨[], rfl, by simpa using hv.symm⟩
     case fm es => injection hv with hv; exact ⟨es, rfl, hv.symm⟩
    obtain ⟨ents, k1, rfl⟩ := this
    obtain ⟨es, ents', k2, kl, _, k3⟩ := entries_run (P := X.P) (c := ctx z w E pb) w rfl h.heap k1 r
    have hl := k2.length
    rw [kl] at hl
    refine Yields.same (v := .int .i64 ents.length) ?_ (by simp [Rep])
    rcases k3 with ⟨rfl, rfl⟩ | ⟨bb, clock, rfl, hg⟩
    ·rw [hrun]; simp at hl; simp [builtin, Builtin.len_, run_underlying hd, goInt, hl]
    ·rw [hrun]; simp at hl; simp [builtin, Builtin.len_, run_underlying hd, goInt, hg, hl]
   ·cases hv
  ·rename_i t x h1 h2
   rw [h2] at re
   generalize c.args.toList.map a.eval = vs at *
   simp only [RepL] at re
   obtain ⟨v, _, rfl, r, rfl⟩ := re
   have h1' : c.argTypes = #[t] := by apply Array.toList_inj.1; simpa using h1
   rw [h1'] at hrun
   split at hv
   ·rename_i e hd
    cases x <;> simp only [A.capN] at hv <;> first | (cases hv; done) | skip
    all_goals
     injection hv with hv; subst hv
     simp only [Rep] at r
    case nsl =>
     subst r
     exact Yields.same (v := .int .i64 0) (by rw [hrun]; simp [builtin, Builtin.cap_, run_underlying hd, goInt]) (by simp [Rep])
    case ez =>
     obtain ⟨q, rfl⟩ := r
     exact Yields.same (v := .int .i64 0) (by rw [hrun]; simp [builtin, Builtin.cap_, run_underlying hd, goInt]) (by simp [Rep])
   ·cases hv
  ·rename_i x y h2
   rw [h2] at re
   generalize c.args.toList.map a.eval = vs at *
   simp only [RepL] at re
   obtain ⟨v, _, rfl, r, u, _, rfl, q, rfl⟩ := re
   unfold A.max at hv
   split at hv
   ·rename_i k m k' n
    injection hv with hv; subst hv
    simp only [Rep] at r q; subst r; subst q
    exact Yields.same (v := .int k (if n > m then n else m)) (by rw [hrun]; simp [builtin, Builtin.max_, Builtin.max2]) (by simp [Rep])
   ·cases hv
  ·rename_i x y h2
   rw [h2] at re
   generalize c.args.toList.map a.eval = vs at *
   simp only [RepL] at re
   obtain ⟨v, _, rfl, r, u, _, rfl, q, rfl⟩ := re
   unfold A.min at hv
   split at hv
   ·rename_i k m k' n
    injection hv with hv; subst hv
    simp only [Rep] at r q; subst r; subst q
    exact Yields.same (v := .int k (if n < m then n else m)) (by rw [hrun]; simp [builtin, Builtin.min_, Builtin.min2]) (by simp [Rep])
   ·cases hv
  ·cases hv
end
end Go.Proofs.YtfalbgflabajbaaDoor

namespace Go.Proofs.YtfalbgflabajbaaDoor
set_option linter.unusedSectionVars false
open Go.RowKit
set_option linter.unusedVariables false
set_option linter.unusedSimpArgs false
def nopb : Nat → Option Nat := fun _ => none
def ACallsE (P : Program) (nm : List Nat) (f : FuncId) (args : List AV) (σ : Heap) (r : AV) (σ' : Heap) : Prop :=
 ∃ g, (∀ aas w, (callFunc f aas).run P w = .ok (.enter g aas) w) ∧ ∀ (z : Z) (vs : Array Value), z.nm = nm → ZLt z → HeapRel (ctx z z.w z.E nopb) σ → RepL (ctx z z.w z.E nopb) args vs.toList →
  Calls P g vs z.w fun e w' => ∃ v E', e = .returned v ∧ Out z w' E' ∧ HeapRel (ctx z w' E' nopb) σ' ∧ Rep (ctx z w' E' nopb) r v
def ACallsV (P : Program) (nm : List Nat) (f : FuncId) (args : List AV) (σ : Heap) (r : AV) (σ' : Heap) : Prop :=
 ∀ (z : Z) (vs : Array Value), z.nm = nm → ZLt z → HeapRel (ctx z z.w z.E nopb) σ → RepL (ctx z z.w z.E nopb) args vs.toList →
  ∃ v w' E', (callFunc f vs).run P z.w = .ok (.value v) w' ∧ Out z w' E' ∧ HeapRel (ctx z w' E' nopb) σ' ∧ Rep (ctx z w' E' nopb) r v
def ACalls (P : Program) (nm : List Nat) (f : FuncId) (args : List AV) (σ : Heap) (r : AV) (σ' : Heap) : Prop := ACallsE P nm f args σ r σ' ∨ ACallsV P nm f args σ r σ'
structure Snd (X : Fx) : Prop where
 call : ∀ f args σ r σ', X.call f args σ = some (r, σ') → ACalls X.P X.nm f args σ r σ'
 dyn : ∀ f args σ r σ', X.dyn (X.nm.getD f 0) args σ = some (r, σ') → ACalls X.P X.nm f args σ r σ'
section
variable {X : Fx} {z : Z} {s : AS} {a : Act} {w w' : World} {E : List Pl} {pb : Nat → Option Nat}
theorem Ext.same {c c' : RC} (hw : c'.w = c.w) (hE : c'.E = c.E) (hX : ∀ b, c'.X b → c.X b) (hn : c'.nm = c.nm) : Ext c c' :=
 ⟨by rw [hw]; exact Nat.le_refl _, fun b _ hx => ⟨by rw [hw], fun k => hx (hX b k)⟩, fun i p h => ⟨p, by rw [hE]; exact h, .inl rfl⟩, hn⟩
def below (z : Z) (w : World) (E : List Pl) (pb : Nat → Option Nat) : Z := ⟨w, E, fun b => z.X b ∨ ∃ i, pb i = some b, z.nm⟩
theorem below_to : Ext (ctx z w E pb) (ctx (below z w E pb) w E nopb) :=
 Ext.same rfl rfl (fun b k => by
  rcases k with (k | k) | k | ⟨i, k⟩
  ·exact .inl k
  ·exact .inr (.inr k)
  ·exact .inr (.inl k)
  ·cases k) rfl
theorem below_back {w' : World} {E' : List Pl} : Ext (ctx (below z w E pb) w' E' nopb) (ctx z w' E' pb) :=
 Ext.same rfl rfl (fun b k => by
  rcases k with k | k | k
  ·exact .inl (.inl k)
  ·exact .inr (.inl k)
  ·exact .inl (.inr k)) rfl
theorem St.called (h : St X z s a w E pb) {w' : World} {E' : List Pl} {σ' : Heap} (ho : Out (below z w E pb) w' E') (hh : HeapRel (ctx (below z w E pb) w' E' nopb) σ') : St X z (s.heap σ') a w' E' pb := by
 have hfresh : ∀ p ∈ E', w.heap.size ≤ p.b ∨ ∃ q ∈ E, q.b = p.b := ho.fresh
 have hx : Ext (ctx z w E pb) (ctx z w' E' pb) := by
  refine ⟨ho.size, fun b hb hn => ⟨ho.stay b hb (fun p hp e => hn (.inr (.inl ⟨p, hp, e⟩))), ?_⟩, ho.env, rfl⟩
  rintro (k | ⟨p, hp, k⟩ | k)
  ·exact hn (.inl k)
  ·rcases hfresh p hp with e | ⟨q, hq, e⟩
   ·simp only [ctx] at hb; omega
   ·exact hn (.inr (.inl ⟨q, hq, e.trans k⟩))
  ·exact hn (.inr (.inr k))
 refine h.ext hx (fun i b hb => ⟨hb, ho.stay b (h.priv i b hb).2.1 (h.priv i b hb).2.2⟩) (fun i b hb => ⟨(h.priv i b hb).1, Nat.lt_of_lt_of_le (h.priv i b hb).2.1 ho.size, fun p hp e => ?_⟩) h.inj
  (hh.mono below_back rfl (fun p hp => rfl)) ?_
 ·rcases hfresh p hp with k | ⟨q, hq, k⟩
  ·have := (h.priv i b hb).2.1; omega
  ·exact (h.priv i b hb).2.2 q hq (k.trans e)
 ·have o := h.out
  refine ⟨ho.os.trans o.os, ho.tape.trans o.tape, ho.output.trans o.output, Nat.le_trans o.size ho.size, fun b hb hp => ?_, fun i p hp => ?_, fun i p hp => ?_, o.lt, o.mine⟩
  ·rw [ho.stay b (Nat.lt_of_lt_of_le hb o.size) (fun p hpE e => ?_)]
   ·exact o.stay b hb hp
   ·rcases o.fresh p hpE with k | ⟨q, hq, k⟩
    ·omega
    ·exact hp q hq (k.trans e)
  ·rcases ho.fresh' i p hp with k | ⟨q, hq, k⟩
   ·exact .inl (Nat.le_trans o.size k)
   ·rcases o.fresh' i q hq with k' | ⟨q', hq', k'⟩
    ·exact .inl (k ▸ k')
    ·exact .inr ⟨q', hq', k'.trans k⟩
  ·obtain ⟨p', h1, h2⟩ := o.env i p hp
   obtain ⟨p'', h3, h4⟩ := ho.env i p' h1
   refine ⟨p'', h3, ?_⟩
   rcases h2 with rfl | ⟨h2, h5⟩
   ·exact h4
   ·rcases h4 with rfl | ⟨h6, h7⟩
    ·exact .inr ⟨h2, h5⟩
    ·exact .inr ⟨h2, by omega⟩
theorem below_heap (h : St X z s a w E pb) : HeapRel (ctx (below z w E pb) w E nopb) s.σ := h.heap.mono below_to rfl (fun p hp => rfl)
theorem below_lt (h : St X z s a w E pb) : ZLt (below z w E pb) := by
 refine ⟨?_, h.out.lt.tab.to h.out.size (fun b hb hn => h.out.stay b hb fun p hp e => hn (.inr ⟨p, hp, e⟩)) ?_⟩
 ·rintro b (k | ⟨i, k⟩)
  ·exact Nat.lt_of_lt_of_le (h.out.lt b k) h.out.size
  ·exact (h.priv i b k).2.1
 ·rintro b hb ((k | ⟨i, k⟩) | ⟨p, hp, k⟩)
  ·exact .inl k
  ·have := (h.priv i b k).1; omega
  ·rcases h.out.fresh p hp with q | ⟨q, hq, e⟩
   ·omega
   ·exact .inr ⟨q, hq, e.trans k⟩
theorem call_wp (h : St X z s a w E pb) {f : FuncId} {args : List AV} {vs : Array Value} {r : AV} {σ' : Heap} (hc : ACalls X.P X.nm f args s.σ r σ') (ha : RepL (ctx z w E pb) args vs.toList) {o : Oper} {K : Act → World → Prop} {Q : Exit → Act → World → Prop}
  (ho : (execOp a.eval o).run X.P w = (callFunc f vs).run X.P w) (hK : ∀ v w' E', St X z (s.heap σ') a w' E' pb → Rep (ctx z w' E' pb) r v → K (a.put o.dst v) w') : o.wp X.P a w K Q := by
 rcases hc with hc | hc
 ·obtain ⟨g, hg, hc⟩ := hc
  unfold Oper.wp
  rw [ho, hg, Oper.upon_enter]
  refine (hc (below z w E pb) vs h.nm.symm (below_lt h) (below_heap h) (RepL.mono below_to _ _ ha)).mono ?_
  rintro e w' ⟨v, E', rfl, h1, h2, h3⟩
  exact hK v w' E' (h.called h1 h2) (Rep.mono below_back _ _ h3)
 ·obtain ⟨v, w', E', k1, h1, h2, h3⟩ := hc (below z w E pb) vs h.nm.symm (below_lt h) (below_heap h) (RepL.mono below_to _ _ ha)
  unfold Oper.wp
  rw [ho, show (callFunc f vs).run X.P w = _ from k1, Oper.upon_value]
  exact hK v w' E' (h.called h1 h2) (Rep.mono below_back _ _ h3)
theorem run_call_static {f : FuncId} {c : Call} (hc : c.callee = .value (.func f)) {dst : Option Tmp} {ty : TypeId} {pos : String} {af : Array Edge} {g : Option (Nat × Bool)} :
  (execOp a.eval ⟨dst, .call c, ty, pos, af, g⟩).run X.P w = (callFunc f (c.args.map a.eval)).run X.P w := by
 simp [execOp, resolve, hc, Act.eval, Deferred.ofValue, invoke]
theorem run_call_value {f : FuncId} {caps : Array Value} {x : Operand} {c : Call} (hc : c.callee = .value x) (hx : a.eval x = .func (.func f) #[] caps) {dst : Option Tmp} {ty : TypeId} {pos : String} {af : Array Edge} {g : Option (Nat × Bool)} :
  (execOp a.eval ⟨dst, .call c, ty, pos, af, g⟩).run X.P w = (callFunc f (c.args.map a.eval ++ caps)).run X.P w := by
 simp [execOp, resolve, hc, hx, Deferred.ofValue, invoke]
theorem opV_wp (hs : Snd X) (h : St X z s a w E pb) {tag : Option (Nat × Bool)} (ht : tagOk a tag) {o : Oper} {av : AV} (hv : opV X o s tag = some av) {K : Act → World → Prop} {Q : Exit → Act → World → Prop}
  (hK : ∀ v w' E', St X z s a w' E' pb → Rep (ctx z w' E' pb) av v → K (a.put o.dst v) w') : o.wp X.P a w K Q := by
 by_cases hc : ∀ c, o.op = .call c → ∃ b, c.callee = .builtin b
 ·obtain ⟨v, w', h1, h2, h3⟩ := opV_run h ht hv hc
  unfold Oper.wp
  rw [h1, Oper.upon_value]
  exact hK v w' E (h.grow h2) h3
 ·obtain ⟨dst, op, ty, pos, af, g⟩ := o
  have : ∃ c, op = .call c ∧ ∀ b, c.callee ≠ .builtin b := by
   refine Classical.byContradiction fun hn => hc fun c e => Classical.byContradiction fun hb => hn ⟨c, e, fun b e' => hb ⟨b, e'⟩⟩
  obtain ⟨c, rfl, hb⟩ := this
  simp only [opV] at hv
  have quiet : ∀ r, A.quiet r s.σ = some av → r = some (av, s.σ) := by
   intro r hr
   unfold A.quiet at hr
   obtain ⟨p, h1, h2⟩ := Option.bind_eq_some_iff.1 hr
   split at h2
   ·rename_i he
    injection h2 with h2
    rw [h1, ← he, ← h2]
   ·cases h2
  have hargs : (c.args.map a.eval).toList = c.args.toList.map a.eval := by simp
  have hheap : s.heap s.σ = s := rfl
  cases hcal : c.callee with
  | builtin b => exact absurd hcal (hb b)
  | invoke rr m => rw [hcal] at hv; cases hv
  | value x =>
   rw [hcal] at hv
   cases x with
   | func f =>
    simp only at hv
    have hq := hs.call _ _ _ _ _ (quiet _ hv)
    refine call_wp h hq (by rw [hargs]; exact evs_rep h _) (run_call_static hcal) (fun v w' E' h1 h2 => ?_)
    exact hK v w' E' h1 h2
   | tmp t =>
    simp only at hv
    have hq := quiet _ hv
    have r := ev_rep h (.tmp t)
    generalize ev X s (.tmp t) = vx at *
    cases vx <;> simp only [A.callv] at hq <;> first | (cases hq; done) | skip
    rename_i fn0 caps0
    simp only [Rep] at r
    obtain ⟨f, cs, e1, e2, e3⟩ := r
    rw [← e2] at hq
    have hq' : X.dyn (X.nm.getD f 0) (c.args.toList.map (ev X s) ++ caps0) s.σ = some (av, s.σ) := by rw [h.nm]; exact hq
    refine call_wp h (hs.dyn _ _ _ _ _ hq') (vs := c.args.map a.eval ++ cs) (by rw [Array.toList_append, hargs]; exact (evs_rep h _).append e3) (run_call_value hcal e1) (fun v w' E' h1 h2 => ?_)
    exact hK v w' E' h1 h2
   | const v =>
    simp only at hv
    have hq := quiet _ hv
    have r := ev_rep h (.const v)
    generalize ev X s (.const v) = vx at *
    cases vx <;> simp only [A.callv] at hq <;> first | (cases hq; done) | skip
    rename_i fn0 caps0
    simp only [Rep] at r
    obtain ⟨f, cs, e1, e2, e3⟩ := r
    rw [← e2] at hq
    have hq' : X.dyn (X.nm.getD f 0) (c.args.toList.map (ev X s) ++ caps0) s.σ = some (av, s.σ) := by rw [h.nm]; exact hq
    refine call_wp h (hs.dyn _ _ _ _ _ hq') (vs := c.args.map a.eval ++ cs) (by rw [Array.toList_append, hargs]; exact (evs_rep h _).append e3) (run_call_value hcal e1) (fun v w' E' h1 h2 => ?_)
    exact hK v w' E' h1 h2
   | global g => simp only [ev, A.callv] at hv; have := quiet _ hv; cases this
theorem opP_wp (h : St X z s a w E pb) {tag : Option (Nat × Bool)} (ht : tagOk a tag) {o : Oper} {b off : Nat} (hv : opP X o s tag = some (b, some off)) :
  (∃ k, pb b = some k ∧ (execOp a.eval o).run X.P w = .ok (.value (.pointer (some ⟨k, off, none⟩))) w) := by
 obtain ⟨dst, op, ty, pos, af, g⟩ := o
 cases op <;> simp only [opP] at hv <;> first | (cases hv; done) | skip
 case nilCheck x =>
  split at hv
  ·rename_i b' off' hp
   injection hv with hv
   injection hv with hb hv
   subst hb
   obtain ⟨cs, h1, h2⟩ := Option.bind_eq_some_iff.1 hv
   simp only [Option.some.injEq] at h2
   subst h2
   obtain ⟨k, k1, k2, _⟩ := place_rep h ht hp h1
   exact ⟨k, k1, by simp [execOp, k2]⟩
  ·cases hv
 case fieldAddr t x f =>
  split at hv
  ·rename_i b' off' hp
   injection hv with hv
   injection hv with hb hv
   subst hb
   split at hv
   ·rename_i fo ft hf
    split at hv
    ·rename_i i hi
     cases h0 : (i.size == 0)
     ·rw [h0] at hv
      simp only [cond_false] at hv
      obtain ⟨cs, h1, h2⟩ := Option.bind_eq_some_iff.1 hv
      simp only [Option.some.injEq] at h2
      subst h2
      obtain ⟨k, k1, k2, _⟩ := place_rep h ht hp h1
      obtain ⟨fs, fl, e1, e2, e3, e4⟩ := fieldOf_spec hf
      have hsz : (sizeOf fl.type).run X.P w = .ok i.size w := by rw [e4]; simp [sizeOf, run_typeInfo' w hi]
      have h0' : ¬ i.size = 0 := by simpa using h0
      exact ⟨k, k1, by simp [execOp, Instr.fieldAt, run_underlying e1, e2, k2, Instr.sureAddr, fieldPlace, hsz, h0', e3, addr_add]⟩
     ·rw [h0] at hv; cases hv
    ·cases hv
   ·cases hv
  ·cases hv
 case indexAddr t x i =>
  split at hv
  ·rename_i b' off' hp
   injection hv with hv
   injection hv with hb hv
   subst hb
   split at hv
   ·rename_i len e hd
    split at hv
    ·rename_i ie hie
     obtain ⟨cs, h1, h2⟩ := Option.bind_eq_some_iff.1 hv
     obtain ⟨n, h3, h4⟩ := Option.bind_eq_some_iff.1 h2
     simp only [Option.some.injEq] at h4
     subst h4
     obtain ⟨k, k1, k2, _⟩ := place_rep h ht hp h1
     obtain ⟨kk, e1, e2⟩ := idx_rep (c := ctx z w E pb) h3 (ev_rep h i)
     have hsz : (sizeOf e).run X.P w = .ok ie.size w := by simp [sizeOf, run_typeInfo' w hie]
     exact ⟨k, k1, by simp [execOp, Instr.indexAt, run_underlying hd, e1, k2, asIntOf, hsz, e2, Instr.sureAddr, addr_add]⟩
    ·cases hv
   ·cases hv
  ·cases hv
theorem cell_box {c : RC} {b : Nat} {cs : List AV} (h : BoxAt c b cs) : ∃ arr t, c.w.heap[b]? = some (.cells arr t (0, 0)) ∧ RepL c cs arr.toList ∧ ∀ x ∈ arr.toList, one1 x = true := by
 obtain ⟨⟨arr, t, h1, h2⟩, h3⟩ := h
 obtain ⟨vs, k1, k2, k3⟩ := h3.toL
 have : arr.toList = vs := by
  apply List.ext_getElem?
  intro i
  by_cases hi : i < vs.length
  ·have := k3 i vs[i] (by simp [hi])
   rw [Nat.zero_add, cells_of_list h1] at this
   rw [Array.getElem?_toList, this]; simp [hi]
  ·have hl := k1.length
   rw [List.getElem?_eq_none (by simp; omega), List.getElem?_eq_none (by omega)]
 rw [← this] at k1 k2
 exact ⟨arr, t, h1, k1, k2⟩
theorem run_storeAt {P : Program} {t : TypeId} {b off : Nat} {v : Value} {arr : Array Value} {bt : TypeId} (hb : w.heap[b]? = some (.cells arr bt (0, 0))) (hsz : v.cells.size = P.cellsOf t) (ht : (P.info? t).isSome = true) (ho : ∀ x ∈ v.cells.toList, one1 x = true) (hl : off + v.cells.toList.length ≤ arr.size) :
  (Instr.storeAt t (.pointer (some ⟨b, off, none⟩)) v).run P w = .ok () (w.setB b (.cells (spl arr off v.cells.toList) bt (0, 0))) := by
 obtain ⟨i, hi⟩ := Option.isSome_iff_exists.1 ht
 have := run_storeCells (P := P) (b := b) (off := off) (t := bt) v.cells.toList 0 w arr hb (by simpa using hl) ho
 simp [Instr.storeAt, Instr.sureAddr, storeVar, run_sizeOf' w hi, hsz, this]
theorem isSome_of_und {P : Program} {t : TypeId} {d : TypeDesc} (h : P.underlying t = some d) : (P.info? t).isSome = true := by
 obtain ⟨i, hi⟩ := und_info h; rw [hi]; rfl
theorem spl_get (arr : Array Value) (o : Nat) (l : List Value) (h : o + l.length ≤ arr.size) (j : Nat) : (spl arr o l)[j]? = if o ≤ j ∧ j < o + l.length then l[j - o]? else arr[j]? := by
 unfold spl
 rw [List.getElem?_toArray]
 have h1 : (arr.toList.take o).length = o := by simp; omega
 by_cases hj : j < o
 ·rw [if_neg (by omega), List.append_assoc, List.getElem?_append_left (by omega), List.getElem?_take_of_lt hj, Array.getElem?_toList]
 ·rw [List.append_assoc, List.getElem?_append_right (by omega), h1]
  by_cases hk : j < o + l.length
  ·rw [if_pos ⟨by omega, hk⟩, List.getElem?_append_left (by omega)]
  ·rw [if_neg (by omega), List.getElem?_append_right (by omega), List.getElem?_drop, Array.getElem?_toList]
   congr 1; omega
theorem storeAt_wp (h : St X z s a w E pb) {t : TypeId} {x : AV} {pv v : Value} {vv : AV} {new : List AV} {σ' : Heap} (hc : cellsT X t vv = some new) (rv : Rep (ctx z w E pb) vv v) (hst : A.storeAt x new s.σ = some σ') (rx : Rep (ctx z w E pb) x pv) :
  ∃ w', (Instr.storeAt t pv v).run X.P w = .ok () w' ∧ St X z (s.heap σ') a w' E pb := by
 obtain ⟨r1, r2, r3, d, hd⟩ := cellsT_rep X hc rv
 have hi := isSome_of_und hd
 cases x <;> simp only [A.storeAt] at hst <;> first | (cases hst; done) | skip
 case op id off =>
  simp only [Rep] at rx
  obtain ⟨p, e1, e2, rfl⟩ := rx
  split at hst
  ·rename_i cs hs
   obtain ⟨cs', h1, h2⟩ := Option.map_eq_some_iff.1 hst
   subst h2
   obtain ⟨hg, hbox⟩ := h.heap.blk id p _ e1 hs
   obtain ⟨arr, bt, k1, k2, k3⟩ := cell_box hbox
   obtain ⟨k4, k5⟩ := k2.spl h1 r1
   refine ⟨_, run_storeAt k1 r3 hi r2 k5, h.setOwn e1 _ _ fun hx => ?_⟩
   have hlt : p.b < w.heap.size := h.heap.lt (p := p) (List.mem_of_getElem? e1)
   have hh := heap_setB_same (w := w) (.cells (spl arr off v.cells.toList) bt (0, 0)) hlt
   have k6 := RepL.mono hx _ _ k4
   exact ⟨hg, ⟨_, _, hh, by have := k6.length; simpa using this.symm⟩, RepCs.ofL hh k6 (one_spl k3 r2) (fun i hi => by simp)⟩
  ·cases hst
 case oe id g i off =>
  simp only [Rep] at rx
  obtain ⟨hg0, p, e1, e2, q, rfl, rx⟩ := rx
  split at hst
  ·rename_i g' sz es hs
   split at hst
   ·rename_i hgg
    subst hgg
    obtain ⟨e, h1, h2⟩ := Option.bind_eq_some_iff.1 hst
    obtain ⟨e', h3, h4⟩ := Option.map_eq_some_iff.1 h2
    subst h4
    obtain ⟨j1, j2, j3, j4, ⟨arr, bt, j5, j6⟩, j7, j8, j9⟩ := h.heap.blk id p _ e1 hs
    have hq := rx j1.symm
    subst hq
    obtain ⟨hel, hcs⟩ := RepEs.nth j8 h1
    have hsp : off + new.length ≤ e.length ∧ e' = e.take off ++ new ++ e.drop (off + new.length) := by
     unfold A.splice at h3
     split at h3
     ·injection h3 with h3; exact ⟨by assumption, h3.symm⟩
     ·cases h3
    have hlen : i < es.length := (List.getElem?_eq_some_iff.1 h1).1
    have hbound : p.base + i * sz + sz ≤ arr.size := by
     have : (i + 1) * sz ≤ es.length * sz := Nat.mul_le_mul_right _ hlen
     rw [Nat.add_mul] at this
     rw [j6]; omega
    have hl : new.length = v.cells.toList.length := r1.length
    have k5 : p.base + i * p.sz + off + v.cells.toList.length ≤ arr.size := by rw [j3]; omega
    refine ⟨_, run_storeAt j5 r3 hi r2 k5, h.setOwn e1 _ _ fun hx => ?_⟩
    have hlt : p.b < w.heap.size := h.heap.lt (p := p) (List.mem_of_getElem? e1)
    have hh := heap_setB_same (w := w) (.cells (spl arr (p.base + i * p.sz + off) v.cells.toList) bt (0, 0)) hlt
    have hcell : ∀ j, (w.setB p.b (.cells (spl arr (p.base + i * p.sz + off) v.cells.toList) bt (0, 0))).cell? ⟨p.b, j, none⟩ = (spl arr (p.base + i * p.sz + off) v.cells.toList)[j]? := fun j => cells_of_list hh
    have hold : ∀ j, w.cell? ⟨p.b, j, none⟩ = arr[j]? := fun j => cells_of_list j5
    obtain ⟨hsp1, hsp2⟩ := hsp
    have hsz : p.sz = sz := j3
    rw [hsz] at k5 hcell
    have out : ∀ j, (j < p.base + i * sz + off ∨ p.base + i * sz + off + new.length ≤ j) → (w.setB p.b (.cells (spl arr (p.base + i * p.sz + off) v.cells.toList) bt (0, 0))).cell? ⟨p.b, j, none⟩ = w.cell? ⟨p.b, j, none⟩ := by
     intro j hj
     rw [hsz, hcell, hold, spl_get _ _ _ k5, if_neg (by omega)]
    refine ⟨j1, j2, j3, j4, ⟨_, _, hh, by rw [hsz, spl_size _ _ _ k5]; exact j6⟩, by simpa using j7, RepEs.of fun j x hj => ?_, oneB_of hh (one_spl (j9 _ _ _ j5) r2)⟩
    rw [List.getElem?_set] at hj
    by_cases hij : i = j
    ·subst hij
     rw [if_pos rfl, if_pos hlen] at hj
     injection hj with hj; subst hj
     refine ⟨by rw [hsp2]; simp; omega, RepCs.of fun k av hk => ?_⟩
     by_cases hin : off ≤ k ∧ k < off + new.length
     ·have hnk : new[k - off]? = some av := by
       rw [hsp2, List.append_assoc, List.getElem?_append_right (by simp; omega)] at hk
       rw [List.getElem?_append_left (by simp; omega)] at hk
       rw [← hk]; congr 1; simp; omega
      obtain ⟨u, m1, m2⟩ := r1.nth hnk
      refine ⟨u, ?_, r2 u (List.mem_of_getElem? m1), Rep.mono hx _ _ m2⟩
      show (w.setB p.b (.cells (spl arr (p.base + i * p.sz + off) v.cells.toList) bt (0, 0))).cell? ⟨p.b, p.base + i * sz + k, none⟩ = _
      rw [hsz, hcell, spl_get _ _ _ k5, if_pos (by omega), ← m1]
      congr 1; omega
     ·have hek : e[k]? = some av := by
       rw [hsp2] at hk
       by_cases hk1 : k < off
       ·rw [List.append_assoc, List.getElem?_append_left (by simp; omega), List.getElem?_take_of_lt hk1] at hk; exact hk
       ·rw [List.getElem?_append_right (by simp; omega), List.getElem?_drop] at hk
        rw [← hk]; congr 1; simp; omega
      obtain ⟨u, m1, m2, m3⟩ := RepCs.nth hcs hek
      refine ⟨u, ?_, m2, Rep.mono hx _ _ m3⟩
      rw [← m1]
      exact out _ (by omega)
    ·rw [if_neg hij] at hj
     obtain ⟨m1, m2⟩ := RepEs.nth j8 hj
     refine ⟨m1, RepCs.of fun k av hk => ?_⟩
     obtain ⟨u, n1, n2, n3⟩ := RepCs.nth m2 hk
     refine ⟨u, ?_, n2, Rep.mono hx _ _ n3⟩
     rw [← n1]
     have hkl : k < sz := by rw [← m1]; exact (List.getElem?_eq_some_iff.1 hk).1
     refine out _ ?_
     rcases Nat.lt_or_gt_of_ne hij with hlt' | hgt
     ·right
      have : (i + 1) * sz ≤ j * sz := Nat.mul_le_mul_right _ hlt'
      rw [Nat.add_mul] at this; omega
     ·left
      have : (j + 1) * sz ≤ i * sz := Nat.mul_le_mul_right _ hgt
      rw [Nat.add_mul] at this; omega
   ·cases hst
  ·cases hst
end
end Go.Proofs.YtfalbgflabajbaaDoor

