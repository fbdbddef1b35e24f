/- Parts of the proof of PickSpreadsMatchSpec, in order. -/
import Derived.Orders
import Derived.Below
import Derived.WalkKit
import Derived.Laws.StructEq
import Derived.Laws.Append
import Derived.Laws.AppendOwn
import Derived.Test.YtjjjjbgohkklnaaRows
import Derived.KernelRfl
import Derived.Lib.Bytealg
import Derived.Sort.Defs
import Derived.Lib.BitFns
import Derived.Test.YtjjjjbgohkklnaaShelf
import Derived.WalkSpells
import Derived.ProofKit
import Derived.OpenShut
import Derived.Deep.QuietTactic
import Derived.BigQuiet
import Derived.Lib.Hide
import Derived.IntWalk
import Derived.Deep.RegionHeld3
import Derived.Deep.Slices
import Derived.OwnWalk
import Derived.Laws.OwnMore
import Derived.Deep.OwnRows
import Derived.Deep.RegionHeld
import Derived.Deep.AppendLies
import Derived.StillTailTactics
import Derived.Lib.Overlaps
import Derived.Test.YtjjjjbgohkklnaaKPickSpreadsMatchSpec2
namespace Go.Proofs.Ytjjjjbgohkklnaa
set_option linter.unusedVariables false
set_option linter.unusedSimpArgs false
set_option linter.unusedSectionVars false
section
open Go.RowKit
def Gr(w w':World):Prop:=Below w.heap.size w w'
theorem Gr.refl(w:World):Gr w w:=Below.refl _ _
theorem Gr.below{w w':World}(h:Gr w w'):Below w.heap.size w w':=h
theorem Gr.trans{a b c:World}(h:Gr a b)(k:Gr b c):Gr a c:=Below.trans h (Below.mono k (Below.size h))
theorem Gr.alloc{a b:World}(h:Gr a b)(o:Obj):Gr a (b.alloc o):=Below.alloc h (Below.size h) o
theorem Gr.drew{a b:World}(h:Gr a b):Gr a b.drew:=Below.drew h
theorem Gr.drewN{a b:World}(h:Gr a b)(n:Nat):Gr a (b.drewN n):=⟨h.os,h.tape,h.output,h.size,h.block⟩
theorem Gr.put{a b:World}{k o:Nat}(hp:a.heap.size≤k)(h:Gr a b)(u:Value):Gr a (b.setCell ⟨k,o,none⟩ u):=Below.setCell h hp u
theorem Gr.after{a b c:World}(k:Gr b c)(h:Gr a b):Gr a c:=h.trans k
theorem Gr.size{a b:World}(h:Gr a b):a.heap.size≤b.heap.size:=Below.size h
theorem Gr.cell{a b:World}(h:Gr a b){p:Addr}{v:Value}(hc:a.cell? p=some v):b.cell? p=some v:=by
 by_cases hp:p.block<a.heap.size
 ·rw[Below.cell h hp];exact hc
 ·have:a.heap[p.block]? =none:=Array.getElem?_eq_none (by omega);simp [World.cell?,this]at hc
theorem Gr.free{a b:World}(h:Gr a b){p:Addr}(hp:p.block<a.heap.size){x:Bool}(hc:a.frozen? p=x):b.frozen? p=x:=by rw[Below.frozen h hp];exact hc
theorem dJ(w:World)(o:Obj):(w.alloc o).heap[w.heap.size]? =some o:=(MapKept.heap_alloc w o).1
theorem kg(w:World)(o:Obj)(n:Nat)(h:n=w.heap.size):(w.alloc o).heap[n]? =some o:=h▸dJ w o
theorem jX(w:World)(o u:Obj)(n:Nat)(h:n<w.heap.size)(hu:w.heap[n]? =some u):(w.alloc o).heap[n]? =some u:=by rw[Below.heap_alloc w o n h];exact hu
theorem nO{k:IntKind}{a b:Int}(h:a=b):Ending.returned (.int k a)=.returned (.int k b):=by rw[h]
theorem sD{n:Int}(h:-9223372036854775808≤n∧n≤9223372036854775807):IntKind.i64.wrap n=n:=IntWalk.i64_in n h
abbrev adB(w:World)(b:Nat)(v0:Value):Prop:=(w.cell? ⟨b,0,none⟩=some v0)∧(w.frozen? ⟨b,0,none⟩=false)∧b<w.heap.size
abbrev E8(w:World)(b:Nat)(v0 v1:Value):Prop:=(w.cell? ⟨b,0,none⟩=some v0∧w.cell? ⟨b,1,none⟩=some v1)∧(w.frozen? ⟨b,0,none⟩=false∧w.frozen? ⟨b,1,none⟩=false)∧b<w.heap.size
theorem E8.of{w:World}{b:Nat}{v0 v1:Value}{t:TypeId}(h:w.heap[b]? =some (.cells #[v0,v1] t (0,0))):E8 w b v0 v1:=by have hlt:b<w.heap.size:=(nU.1 h).1;refine⟨⟨?_,?_⟩,⟨?_,?_⟩,hlt⟩<;>simp [World.cell?,World.frozen?,h]
abbrev bR(w:World)(b:Nat)(v0 v1 v2:Value):Prop:=(w.cell? ⟨b,0,none⟩=some v0∧w.cell? ⟨b,1,none⟩=some v1∧w.cell? ⟨b,2,none⟩=some v2)∧(w.frozen? ⟨b,0,none⟩=false∧w.frozen? ⟨b,1,none⟩=false∧w.frozen? ⟨b,2,none⟩=false)∧b<w.heap.size
theorem bR.mono{w w1:World}{b:Nat}{v0 v1 v2:Value}(k:bR w b v0 v1 v2)(h:Gr w w1):bR w1 b v0 v1 v2:=by obtain⟨⟨k0,k1,k2⟩,⟨f0,f1,f2⟩,hlt⟩:=k;exact⟨⟨h.cell k0,h.cell k1,h.cell k2⟩,⟨h.free (by exact hlt) f0,h.free (by exact hlt) f1,h.free (by exact hlt) f2⟩,nV hlt h.size⟩
theorem bR.of{w:World}{b:Nat}{v0 v1 v2:Value}{t:TypeId}(h:w.heap[b]? =some (.cells #[v0,v1,v2] t (0,0))):bR w b v0 v1 v2:=by have hlt:b<w.heap.size:=(nU.1 h).1;refine⟨⟨?_,?_,?_⟩,⟨?_,?_,?_⟩,hlt⟩<;>simp [World.cell?,World.frozen?,h]
abbrev E9(w:World)(b:Nat)(v0 v1 v2 v3:Value):Prop:=(w.cell? ⟨b,0,none⟩=some v0∧w.cell? ⟨b,1,none⟩=some v1∧w.cell? ⟨b,2,none⟩=some v2∧w.cell? ⟨b,3,none⟩=some v3)∧(w.frozen? ⟨b,0,none⟩=false∧w.frozen? ⟨b,1,none⟩=false∧w.frozen? ⟨b,2,none⟩=false∧w.frozen? ⟨b,3,none⟩=false)∧b<w.heap.size
theorem E9.of{w:World}{b:Nat}{v0 v1 v2 v3:Value}{t:TypeId}(h:w.heap[b]? =some (.cells #[v0,v1,v2,v3] t (0,0))):E9 w b v0 v1 v2 v3:=by have hlt:b<w.heap.size:=(nU.1 h).1;refine⟨⟨?_,?_,?_,?_⟩,⟨?_,?_,?_,?_⟩,hlt⟩<;>simp [World.cell?,World.frozen?,h]
abbrev adC(w:World)(b:Nat)(v0 v1 v2 v3 v4:Value):Prop:=(w.cell? ⟨b,0,none⟩=some v0∧w.cell? ⟨b,1,none⟩=some v1∧w.cell? ⟨b,2,none⟩=some v2∧w.cell? ⟨b,3,none⟩=some v3∧w.cell? ⟨b,4,none⟩=some v4)∧(w.frozen? ⟨b,0,none⟩=false∧w.frozen? ⟨b,1,none⟩=false∧w.frozen? ⟨b,2,none⟩=false∧w.frozen? ⟨b,3,none⟩=false∧w.frozen? ⟨b,4,none⟩=false)∧b<w.heap.size
abbrev adD(w:World)(b:Nat)(v0 v1 v2 v3 v4 v5:Value):Prop:=(w.cell? ⟨b,0,none⟩=some v0∧w.cell? ⟨b,1,none⟩=some v1∧w.cell? ⟨b,2,none⟩=some v2∧w.cell? ⟨b,3,none⟩=some v3∧w.cell? ⟨b,4,none⟩=some v4∧w.cell? ⟨b,5,none⟩=some v5)∧(w.frozen? ⟨b,0,none⟩=false∧w.frozen? ⟨b,1,none⟩=false∧w.frozen? ⟨b,2,none⟩=false∧w.frozen? ⟨b,3,none⟩=false∧w.frozen? ⟨b,4,none⟩=false∧w.frozen? ⟨b,5,none⟩=false)∧b<w.heap.size
abbrev adE(w:World)(b:Nat)(v0 v1 v2 v3 v4 v5 v6:Value):Prop:=(w.cell? ⟨b,0,none⟩=some v0∧w.cell? ⟨b,1,none⟩=some v1∧w.cell? ⟨b,2,none⟩=some v2∧w.cell? ⟨b,3,none⟩=some v3∧w.cell? ⟨b,4,none⟩=some v4∧w.cell? ⟨b,5,none⟩=some v5∧w.cell? ⟨b,6,none⟩=some v6)∧(w.frozen? ⟨b,0,none⟩=false∧w.frozen? ⟨b,1,none⟩=false∧w.frozen? ⟨b,2,none⟩=false∧w.frozen? ⟨b,3,none⟩=false∧w.frozen? ⟨b,4,none⟩=false∧w.frozen? ⟨b,5,none⟩=false∧w.frozen? ⟨b,6,none⟩=false)∧b<w.heap.size
abbrev adF(w:World)(b:Nat)(v0 v1 v2 v3 v4 v5 v6 v7:Value):Prop:=(w.cell? ⟨b,0,none⟩=some v0∧w.cell? ⟨b,1,none⟩=some v1∧w.cell? ⟨b,2,none⟩=some v2∧w.cell? ⟨b,3,none⟩=some v3∧w.cell? ⟨b,4,none⟩=some v4∧w.cell? ⟨b,5,none⟩=some v5∧w.cell? ⟨b,6,none⟩=some v6∧w.cell? ⟨b,7,none⟩=some v7)∧(w.frozen? ⟨b,0,none⟩=false∧w.frozen? ⟨b,1,none⟩=false∧w.frozen? ⟨b,2,none⟩=false∧w.frozen? ⟨b,3,none⟩=false∧w.frozen? ⟨b,4,none⟩=false∧w.frozen? ⟨b,5,none⟩=false∧w.frozen? ⟨b,6,none⟩=false∧w.frozen? ⟨b,7,none⟩=false)∧b<w.heap.size
abbrev adG(w:World)(b:Nat)(v0 v1 v2 v3 v4 v5 v6 v7 v8:Value):Prop:=(w.cell? ⟨b,0,none⟩=some v0∧w.cell? ⟨b,1,none⟩=some v1∧w.cell? ⟨b,2,none⟩=some v2∧w.cell? ⟨b,3,none⟩=some v3∧w.cell? ⟨b,4,none⟩=some v4∧w.cell? ⟨b,5,none⟩=some v5∧w.cell? ⟨b,6,none⟩=some v6∧w.cell? ⟨b,7,none⟩=some v7∧w.cell? ⟨b,8,none⟩=some v8)∧(w.frozen? ⟨b,0,none⟩=false∧w.frozen? ⟨b,1,none⟩=false∧w.frozen? ⟨b,2,none⟩=false∧w.frozen? ⟨b,3,none⟩=false∧w.frozen? ⟨b,4,none⟩=false∧w.frozen? ⟨b,5,none⟩=false∧w.frozen? ⟨b,6,none⟩=false∧w.frozen? ⟨b,7,none⟩=false∧w.frozen? ⟨b,8,none⟩=false)∧b<w.heap.size
abbrev adf(w:World)(b:Nat)(v0 v1 v2 v3 v4 v5 v6 v7 v8 v9:Value):Prop:=(w.cell? ⟨b,0,none⟩=some v0∧w.cell? ⟨b,1,none⟩=some v1∧w.cell? ⟨b,2,none⟩=some v2∧w.cell? ⟨b,3,none⟩=some v3∧w.cell? ⟨b,4,none⟩=some v4∧w.cell? ⟨b,5,none⟩=some v5∧w.cell? ⟨b,6,none⟩=some v6∧w.cell? ⟨b,7,none⟩=some v7∧w.cell? ⟨b,8,none⟩=some v8∧w.cell? ⟨b,9,none⟩=some v9)∧(w.frozen? ⟨b,0,none⟩=false∧w.frozen? ⟨b,1,none⟩=false∧w.frozen? ⟨b,2,none⟩=false∧w.frozen? ⟨b,3,none⟩=false∧w.frozen? ⟨b,4,none⟩=false∧w.frozen? ⟨b,5,none⟩=false∧w.frozen? ⟨b,6,none⟩=false∧w.frozen? ⟨b,7,none⟩=false∧w.frozen? ⟨b,8,none⟩=false∧w.frozen? ⟨b,9,none⟩=false)∧b<w.heap.size
abbrev adg(w:World)(b:Nat)(v0 v1 v2 v3 v4 v5 v6 v7 v8 v9 v10:Value):Prop:=(w.cell? ⟨b,0,none⟩=some v0∧w.cell? ⟨b,1,none⟩=some v1∧w.cell? ⟨b,2,none⟩=some v2∧w.cell? ⟨b,3,none⟩=some v3∧w.cell? ⟨b,4,none⟩=some v4∧w.cell? ⟨b,5,none⟩=some v5∧w.cell? ⟨b,6,none⟩=some v6∧w.cell? ⟨b,7,none⟩=some v7∧w.cell? ⟨b,8,none⟩=some v8∧w.cell? ⟨b,9,none⟩=some v9∧w.cell? ⟨b,10,none⟩=some v10)∧(w.frozen? ⟨b,0,none⟩=false∧w.frozen? ⟨b,1,none⟩=false∧w.frozen? ⟨b,2,none⟩=false∧w.frozen? ⟨b,3,none⟩=false∧w.frozen? ⟨b,4,none⟩=false∧w.frozen? ⟨b,5,none⟩=false∧w.frozen? ⟨b,6,none⟩=false∧w.frozen? ⟨b,7,none⟩=false∧w.frozen? ⟨b,8,none⟩=false∧w.frozen? ⟨b,9,none⟩=false∧w.frozen? ⟨b,10,none⟩=false)∧b<w.heap.size
abbrev adh(w:World)(b:Nat)(v0 v1 v2 v3 v4 v5 v6 v7 v8 v9 v10 v11:Value):Prop:=(w.cell? ⟨b,0,none⟩=some v0∧w.cell? ⟨b,1,none⟩=some v1∧w.cell? ⟨b,2,none⟩=some v2∧w.cell? ⟨b,3,none⟩=some v3∧w.cell? ⟨b,4,none⟩=some v4∧w.cell? ⟨b,5,none⟩=some v5∧w.cell? ⟨b,6,none⟩=some v6∧w.cell? ⟨b,7,none⟩=some v7∧w.cell? ⟨b,8,none⟩=some v8∧w.cell? ⟨b,9,none⟩=some v9∧w.cell? ⟨b,10,none⟩=some v10∧w.cell? ⟨b,11,none⟩=some v11)∧(w.frozen? ⟨b,0,none⟩=false∧w.frozen? ⟨b,1,none⟩=false∧w.frozen? ⟨b,2,none⟩=false∧w.frozen? ⟨b,3,none⟩=false∧w.frozen? ⟨b,4,none⟩=false∧w.frozen? ⟨b,5,none⟩=false∧w.frozen? ⟨b,6,none⟩=false∧w.frozen? ⟨b,7,none⟩=false∧w.frozen? ⟨b,8,none⟩=false∧w.frozen? ⟨b,9,none⟩=false∧w.frozen? ⟨b,10,none⟩=false∧w.frozen? ⟨b,11,none⟩=false)∧b<w.heap.size
abbrev adi(w:World)(b:Nat)(v0 v1 v2 v3 v4 v5 v6 v7 v8 v9 v10 v11 v12:Value):Prop:=(w.cell? ⟨b,0,none⟩=some v0∧w.cell? ⟨b,1,none⟩=some v1∧w.cell? ⟨b,2,none⟩=some v2∧w.cell? ⟨b,3,none⟩=some v3∧w.cell? ⟨b,4,none⟩=some v4∧w.cell? ⟨b,5,none⟩=some v5∧w.cell? ⟨b,6,none⟩=some v6∧w.cell? ⟨b,7,none⟩=some v7∧w.cell? ⟨b,8,none⟩=some v8∧w.cell? ⟨b,9,none⟩=some v9∧w.cell? ⟨b,10,none⟩=some v10∧w.cell? ⟨b,11,none⟩=some v11∧w.cell? ⟨b,12,none⟩=some v12)∧(w.frozen? ⟨b,0,none⟩=false∧w.frozen? ⟨b,1,none⟩=false∧w.frozen? ⟨b,2,none⟩=false∧w.frozen? ⟨b,3,none⟩=false∧w.frozen? ⟨b,4,none⟩=false∧w.frozen? ⟨b,5,none⟩=false∧w.frozen? ⟨b,6,none⟩=false∧w.frozen? ⟨b,7,none⟩=false∧w.frozen? ⟨b,8,none⟩=false∧w.frozen? ⟨b,9,none⟩=false∧w.frozen? ⟨b,10,none⟩=false∧w.frozen? ⟨b,11,none⟩=false∧w.frozen? ⟨b,12,none⟩=false)∧b<w.heap.size
abbrev adj(w:World)(b:Nat)(v0 v1 v2 v3 v4 v5 v6 v7 v8 v9 v10 v11 v12 v13:Value):Prop:=(w.cell? ⟨b,0,none⟩=some v0∧w.cell? ⟨b,1,none⟩=some v1∧w.cell? ⟨b,2,none⟩=some v2∧w.cell? ⟨b,3,none⟩=some v3∧w.cell? ⟨b,4,none⟩=some v4∧w.cell? ⟨b,5,none⟩=some v5∧w.cell? ⟨b,6,none⟩=some v6∧w.cell? ⟨b,7,none⟩=some v7∧w.cell? ⟨b,8,none⟩=some v8∧w.cell? ⟨b,9,none⟩=some v9∧w.cell? ⟨b,10,none⟩=some v10∧w.cell? ⟨b,11,none⟩=some v11∧w.cell? ⟨b,12,none⟩=some v12∧w.cell? ⟨b,13,none⟩=some v13)∧(w.frozen? ⟨b,0,none⟩=false∧w.frozen? ⟨b,1,none⟩=false∧w.frozen? ⟨b,2,none⟩=false∧w.frozen? ⟨b,3,none⟩=false∧w.frozen? ⟨b,4,none⟩=false∧w.frozen? ⟨b,5,none⟩=false∧w.frozen? ⟨b,6,none⟩=false∧w.frozen? ⟨b,7,none⟩=false∧w.frozen? ⟨b,8,none⟩=false∧w.frozen? ⟨b,9,none⟩=false∧w.frozen? ⟨b,10,none⟩=false∧w.frozen? ⟨b,11,none⟩=false∧w.frozen? ⟨b,12,none⟩=false∧w.frozen? ⟨b,13,none⟩=false)∧b<w.heap.size
end
section
open Go.RowKit Go.Deep
structure cA (α : Type) where
 size:Nat
 is:World→List Value→α→Prop
 len:∀{w cs a},is w cs a→cs.length=size
 mono:∀{w w' cs a},is w cs a→Gr w w'→is w' cs a
 dh:α→Nat
def bu:cA Int where
 size:=1
 is:=λ_ cs n=>cs=[.int .i64 n]∧-9223372036854775808≤n∧n≤9223372036854775807
 len:=λh=>by rw[h.1];rfl
 mono:=λh _=>h
 dh:=λ_=>1
def EW:cA Bool where
 size:=1
 is:=λ_ cs b=>cs=[.bool b]
 len:=λh=>by rw[h];rfl
 mono:=λh _=>h
 dh:=λ_=>1
def qq:cA ByteArray where
 size:=1
 is:=λ_ cs s=>cs=[.string s]∧s.size≤maxLen
 len:=λh=>by rw[h.1];rfl
 mono:=λh _=>h
 dh:=λs=>s.size+1
def cA.pair{α β:Type}(c:cA α)(d:cA β):cA (α×β) where
 size:=c.size+d.size
 is:=λw cs x=>c.is w (cs.take c.size) x.1∧d.is w (cs.drop c.size) x.2
 len:=λ{w cs a}h=>by have h1:=c.len h.1;have h2:=d.len h.2;simp at h1 h2;omega
 mono:=λh g=>⟨c.mono h.1 g,d.mono h.2 g⟩
 dh:=λx=>c.dh x.1+d.dh x.2
def ck{α:Type}(c:cA α):cA (List α) where
 size:=1
 is:=λw cs l=>(cs=[.slice none 0 0]∧l=[])∨∃(b off:Nat)(sp:Option Nat)(cap:Nat),cs=[.slice (some ⟨b,off,sp⟩) l.length cap]∧l.length≤cap∧l.length≤maxLen∧
  ∀i(h:i<l.length),sp=none∧∃cs',(∀j,j<c.size→w.cell? ⟨b,off+(i*c.size+j),none⟩=cs'[j]?)∧c.is w cs' l[i]
 len:=λh=>by rcases h with⟨rfl,_⟩|⟨b,off,sp,cap,rfl,_⟩<;>rfl
 mono:=λ{w w' cs l}h g=>by
  rcases h with h|⟨b,off,sp,cap,h1,h2,h3,h4⟩
  ·exact .inl h
  ·refine .inr ⟨b,off,sp,cap,h1,h2,h3,λi hi=>?_⟩;obtain⟨e,cs',h5,h6⟩:=h4 i hi;refine⟨e,cs',λj hj=>?_,c.mono h6 g⟩;have h7:=h5 j hj;have hl:=c.len h6;rw[cI (by omega)]at h7 ⊢;exact g.cell h7
 dh:=λl=>(l.map c.dh).sum+1
def fU{α:Type}(F:Nat→Prop)(P:Program)(c:cA α)(t:TypeId):Prop:=∀⦃H:Type⦄ ⦃enc:TypeId×Value→H⦄ ⦃w:World⦄ ⦃base:Nat⦄ ⦃spare:Nat→Bool⦄ ⦃held:Bool⦄ ⦃fuel:Nat⦄ ⦃cs:List Value⦄ ⦃x:DataW H×List MemPlace⦄,F fuel→DataW.trod enc P w base spare held fuel t cs=some x→∃a,c.is w cs a∧c.dh a≤Rows.uptoBulk x.1
abbrev Reads{α:Type}(P:Program)(c:cA α)(t:TypeId):Prop:=fU (λ_=>True) P c t
theorem Bi{H:Type}(l:List (DataW H)):Rows.uptoBulkAll l=(l.map Rows.uptoBulk).sum:=by
 induction l with
 |nil=>rfl
 |cons x r ih=>simp only[Rows.uptoBulkAll,fJ,List.sum_cons,ih]
theorem MB{α:Type}(f:α→Nat)(D:Nat→Nat):∀(l:List α)(o:Nat),(∀i(h:i<l.length),f l[i]≤D (o+i))→(l.map f).sum≤((List.range' o l.length).map D).sum
 |[],_,_=>by simp
 |x::r,o,h=>by simp only[List.length_cons,List.range'_succ,fJ,List.sum_cons];have h0:=h 0 (by simp);have:=MB f D r (o+1) (λi hi=>by have:=h (i+1) (by simp;omega);simp only[List.getElem_cons_succ]at this;rw[show o+1+i=o+(i+1) by omega];exact this);simp at h0;omega
theorem wf_i64{n:Int}(h:(Lit.int .i64 n).wf=true):-9223372036854775808≤n∧n≤9223372036854775807:=by simpa [Lit.wf,IntKind.min,IntKind.max,IntKind.signed,IntKind.bits]using h
theorem Om{H:Type}(d:DataW H):1≤Rows.uptoBulk d:=by
 cases d with
 |lit l=>cases l<;>simp [Rows.uptoBulk]
 |_=>simp [Rows.uptoBulk]
theorem ng{F:Nat→Prop}{P:Program}{t:TypeId}(ht:P.underlying t=some (.int .i64)):fU F P bu t:=by intro H enc w base spare held fuel cs x _ h;obtain⟨n,rfl,_,hw⟩:=DataW.trod_int ht h;exact⟨n,⟨rfl,wf_i64 hw⟩,Om _⟩
theorem WH{F:Nat→Prop}{P:Program}{t:TypeId}(ht:P.underlying t=some .bool):fU F P EW t:=by intro H enc w base spare held fuel cs x _ h;obtain⟨n,rfl,_⟩:=DataW.trod_bool ht h;exact⟨n,rfl,Om _⟩
theorem Bx{F:Nat→Prop}{P:Program}{t:TypeId}(ht:P.underlying t=some .string):fU F P qq t:=by intro H enc w base spare held fuel cs x _ h;obtain⟨n,rfl,hx,hw⟩:=DataW.trod_string ht h;refine⟨n,⟨rfl,hw⟩,?_⟩;subst hx;simp only[Rows.uptoBulk,qq];first|(simp;done)|omega
theorem zx{F:Nat→Prop}{P:Program}{α:Type}{c:cA α}{t e:TypeId}(ht:P.underlying t=some (.slice e))(hz:P.cellsOf e=c.size)(hp:0<c.size)(hr:fU (λm=>F (m+1)) P c e):fU F P (ck c) t:=by
 intro H enc w base spare held fuel cs x hF h;rcases DataW.trod_slice ht h with⟨rfl,rfl⟩|⟨a,len,cap,elems,rest,n,jI,rfl,S9,hb,hl,hm,hlen,hel,h8,h9⟩
 ·exact⟨[],.inl ⟨rfl,rfl⟩,by simp [ck,Rows.uptoBulk]⟩
 ·obtain⟨D,hD⟩:∃D:Nat→DataW H,D=λi=>(elems.getD i (.nil,[])).1:=⟨_,rfl⟩
  have key:∀i,i<len→∃(y:α)(cs':List Value),(∀j,j<c.size→w.cell? (a.add (i*c.size+j))=cs'[j]?)∧c.is w cs' y∧c.dh y≤Rows.uptoBulk (D i):=by
   intro i hi;have hk:=hel i hi;rw[cI (by omega)]at hk;obtain⟨cs',h1,h2⟩:=bg.1 hk;obtain⟨y,hy,C1⟩:=hr (by subst jI;exact hF) h2
   have C1:c.dh y≤Rows.uptoBulk (D i):=by rw[hD];simpa [List.getD,cI (show i<elems.length by omega)]using C1
   obtain⟨_,h3,h4⟩:=World.cells?_some h1;refine⟨y,cs',λj hj=>?_,hy,C1⟩;have:=h4 j (by rw[hz];exact hj);rw[hz]at this;rw[←this,add_add]
  obtain⟨ys,hys⟩:∃ys:List α,ys.length=len∧∀i(h:i<ys.length),c.dh ys[i]≤Rows.uptoBulk (D i)∧∃cs',(∀j,j<c.size→w.cell? (a.add (i*c.size+j))=cs'[j]?)∧c.is w cs' ys[i]:=by
   clear hel hlen h hl S9 h8 h9;induction len with
   |zero=>exact⟨[],rfl,λi h=>by simp at h⟩
   |succ k ih=>
    obtain⟨ys,h1,h2⟩:=ih (λi hi=>key i (by omega));obtain⟨y,cs',h3,h4,h4b⟩:=key k (by omega);refine⟨ys++[y],by simp [h1],λi hi=>?_⟩;by_cases hk:i<ys.length
    ·rw[List.getElem_append_left hk];exact h2 i hk
    ·have:i=k:=by simp at hi;omega
     subst this;rw[List.getElem_append_right (by omega)];simp only[h1,Nat.sub_self,List.getElem_cons_zero];exact⟨h4b,cs',h3,h4⟩
  obtain⟨h1,h2⟩:=hys;obtain⟨b,off,sp⟩:=a;refine⟨ys,.inr ⟨b,off,sp,cap,by rw[h1],by omega,Nat.le_trans (show ys.length≤cap by omega) hm,λi hi=>?_⟩,?_⟩
  ·have hs:sp=none:=by
    cases sp with
    |none=>rfl
    |some q=>exfalso;obtain⟨_,cs',h3,h4⟩:=h2 0 (by omega);have h5:=h3 0 hp;have hl:=c.len h4;rw[cI (by omega)]at h5;simp only[Nat.zero_mul,Nat.zero_add,World.cell?,Addr.add]at h5;split at h5<;>simp at h5
   obtain⟨_,cs',h3,h4⟩:=h2 i hi;subst hs;refine⟨rfl,cs',λj hj=>?_,h4⟩;have h6:=h3 j hj;rw[←h6];congr 1;simp only[Addr.add];split
   ·rename_i h7;simp only[h7,Nat.add_zero]
   ·rfl
  ·subst S9;simp only[ck,Rows.uptoBulk,Bi,List.map_map];have:=MB c.dh (λi=>Rows.uptoBulk (D i)) ys 0 (λi hi=>by simpa using(h2 i hi).1);rw[h1,←List.range_eq_range']at this
   have e:List.map (Rows.uptoBulk∘λx=>x.1) elems=List.map (λi=>Rows.uptoBulk (D i)) (List.range len):=by rw[←hlen,hD];apply List.ext_getElem (by simp);intro i h3 h4;simp at h3;simp [List.getD,cI h3]
   rw[e];omega
theorem DJ{α:Type}(l:List α)(o n:Nat)(h:l.length=o+n):(l.drop o).take n=l.drop o:=fF (by simp;omega)
theorem Vr{α:Type}(l:List α)(h:l.length=2):∃x0 x1,l=[x0,x1]:=by
 match l,h with
 |[x0,x1],_=>exact⟨x0,x1,rfl⟩
theorem GP{F:Nat→Prop}{P:Program}{y9 za:Type}{t:TypeId}{f0 f1:Field}{c0:cA y9}{c1:cA za}(ht:P.underlying t=some (.struct #[f0,f1]))(hz:P.cellsOf t=c0.size+c1.size)(o0:f0.offset=0)(o1:f1.offset=c0.size)(z0:P.cellsOf f0.type=c0.size)(z1:P.cellsOf f1.type=c1.size)(r0:fU (λm=>F (m+1)) P c0 f0.type) (r1:fU (λm=>F (m+1)) P c1 f1.type):fU F P (c0.pair c1) t:=by
 intro H enc w base spare held fuel cs x hF h;obtain⟨xs,m,jI,cO,hlen,hxl,hf⟩:=DataW.trod_struct ht h;rw[hz]at hlen;have hxl:xs.length=2:=hxl;have h0:=hf 0 f0 rfl;rw[o0,z0,cI (show 0<xs.length by omega)]at h0;obtain⟨a0,k0,b0⟩:=r0 (by subst jI;exact hF) h0;have h1:=hf 1 f1 rfl;rw[o1,z1,cI (show 1<xs.length by omega)]at h1;obtain⟨a1,k1,b1⟩:=r1 (by subst jI;exact hF) h1;rw[DJ cs (c0.size) c1.size (by omega)]at k1;refine⟨(a0,a1),?_,?_⟩
 ·exact⟨by simpa using k0,(by simpa [nW,kQ]using k1)⟩
 ·subst cO;simp only[Rows.uptoBulk,Bi,cA.pair]
  have hs:(List.map Rows.uptoBulk (xs.map (·.1))).sum=Rows.uptoBulk xs[0].1+(Rows.uptoBulk xs[1].1):=by obtain⟨x0,x1,rfl⟩:=Vr xs hxl;simp
  rw[hs];exact Nat.le_succ_of_le (ql b0 b1)
theorem Vs{α:Type}(l:List α)(h:l.length=3):∃x0 x1 x2,l=[x0,x1,x2]:=by
 match l,h with
 |[x0,x1,x2],_=>exact⟨x0,x1,x2,rfl⟩
theorem GQ{F:Nat→Prop}{P:Program}{y9 za Dj:Type}{t:TypeId}{f0 f1 f2:Field}{c0:cA y9}{c1:cA za}{c2:cA Dj}(ht:P.underlying t=some (.struct #[f0,f1,f2]))(hz:P.cellsOf t=c0.size+c1.size+c2.size)(o0:f0.offset=0)(o1:f1.offset=c0.size)(o2:f2.offset=c0.size+c1.size)(z0:P.cellsOf f0.type=c0.size)(z1:P.cellsOf f1.type=c1.size)(z2:P.cellsOf f2.type=c2.size)(r0:fU (λm=>F (m+1)) P c0 f0.type) (r1:fU (λm=>F (m+1)) P c1 f1.type) (r2:fU (λm=>F (m+1)) P c2 f2.type):fU F P (c0.pair (c1.pair c2)) t:=by
 intro H enc w base spare held fuel cs x hF h;obtain⟨xs,m,jI,cO,hlen,hxl,hf⟩:=DataW.trod_struct ht h;rw[hz]at hlen;have hxl:xs.length=3:=hxl;have h0:=hf 0 f0 rfl;rw[o0,z0,cI (show 0<xs.length by omega)]at h0;obtain⟨a0,k0,b0⟩:=r0 (by subst jI;exact hF) h0;have h1:=hf 1 f1 rfl;rw[o1,z1,cI (show 1<xs.length by omega)]at h1;obtain⟨a1,k1,b1⟩:=r1 (by subst jI;exact hF) h1;have h2:=hf 2 f2 rfl;rw[o2,z2,cI (show 2<xs.length by omega)]at h2;obtain⟨a2,k2,b2⟩:=r2 (by subst jI;exact hF) h2;rw[DJ cs (c0.size+c1.size) c2.size (by omega)]at k2;refine⟨(a0,(a1,a2)),?_,?_⟩
 ·exact⟨by simpa using k0,⟨by simpa [nW,kQ]using k1,(by simpa [nW,kQ]using k2)⟩⟩
 ·subst cO;simp only[Rows.uptoBulk,Bi,cA.pair]
  have hs:(List.map Rows.uptoBulk (xs.map (·.1))).sum=Rows.uptoBulk xs[0].1+(Rows.uptoBulk xs[1].1+(Rows.uptoBulk xs[2].1)):=by obtain⟨x0,x1,x2,rfl⟩:=Vs xs hxl;simp
  rw[hs];exact Nat.le_succ_of_le (ql b0 (ql b1 b2))
theorem Vt{α:Type}(l:List α)(h:l.length=4):∃x0 x1 x2 x3,l=[x0,x1,x2,x3]:=by
 match l,h with
 |[x0,x1,x2,x3],_=>exact⟨x0,x1,x2,x3,rfl⟩
theorem Va{F:Nat→Prop}{P:Program}{y9 za Dj LZ:Type}{t:TypeId}{f0 f1 f2 f3:Field}{c0:cA y9}{c1:cA za}{c2:cA Dj}{c3:cA LZ}(ht:P.underlying t=some (.struct #[f0,f1,f2,f3]))(hz:P.cellsOf t=c0.size+c1.size+c2.size+c3.size)(o0:f0.offset=0)(o1:f1.offset=c0.size)(o2:f2.offset=c0.size+c1.size)(o3:f3.offset=c0.size+c1.size+c2.size)(z0:P.cellsOf f0.type=c0.size)(z1:P.cellsOf f1.type=c1.size)(z2:P.cellsOf f2.type=c2.size)(z3:P.cellsOf f3.type=c3.size)(r0:fU (λm=>F (m+1)) P c0 f0.type) (r1:fU (λm=>F (m+1)) P c1 f1.type) (r2:fU (λm=>F (m+1)) P c2 f2.type) (r3:fU (λm=>F (m+1)) P c3 f3.type):fU F P (c0.pair (c1.pair (c2.pair c3))) t:=by
 intro H enc w base spare held fuel cs x hF h;obtain⟨xs,m,jI,cO,hlen,hxl,hf⟩:=DataW.trod_struct ht h;rw[hz]at hlen;have hxl:xs.length=4:=hxl;have h0:=hf 0 f0 rfl;rw[o0,z0,cI (show 0<xs.length by omega)]at h0;obtain⟨a0,k0,b0⟩:=r0 (by subst jI;exact hF) h0;have h1:=hf 1 f1 rfl;rw[o1,z1,cI (show 1<xs.length by omega)]at h1;obtain⟨a1,k1,b1⟩:=r1 (by subst jI;exact hF) h1;have h2:=hf 2 f2 rfl;rw[o2,z2,cI (show 2<xs.length by omega)]at h2;obtain⟨a2,k2,b2⟩:=r2 (by subst jI;exact hF) h2;have h3:=hf 3 f3 rfl;rw[o3,z3,cI (show 3<xs.length by omega)]at h3;obtain⟨a3,k3,b3⟩:=r3 (by subst jI;exact hF) h3;rw[DJ cs (c0.size+c1.size+c2.size) c3.size (by omega)]at k3;refine⟨(a0,(a1,(a2,a3))),?_,?_⟩
 ·exact⟨by simpa using k0,⟨by simpa [nW,kQ]using k1,⟨by simpa [nW,kQ]using k2,(by simpa [nW,kQ]using k3)⟩⟩⟩
 ·subst cO;simp only[Rows.uptoBulk,Bi,cA.pair]
  have hs:(List.map Rows.uptoBulk (xs.map (·.1))).sum=Rows.uptoBulk xs[0].1+(Rows.uptoBulk xs[1].1+(Rows.uptoBulk xs[2].1+(Rows.uptoBulk xs[3].1))):=by obtain⟨x0,x1,x2,x3,rfl⟩:=Vt xs hxl;simp
  rw[hs];exact Nat.le_succ_of_le (ql b0 (ql b1 (ql b2 b3)))
theorem Vu{α:Type}(l:List α)(h:l.length=7):∃x0 x1 x2 x3 x4 x5 x6,l=[x0,x1,x2,x3,x4,x5,x6]:=by
 match l,h with
 |[x0,x1,x2,x3,x4,x5,x6],_=>exact⟨x0,x1,x2,x3,x4,x5,x6,rfl⟩
theorem Vb{F:Nat→Prop}{P:Program}{y9 za Dj LZ α4 α5 α6:Type}{t:TypeId}{f0 f1 f2 f3 f4 f5 f6:Field}{c0:cA y9}{c1:cA za}{c2:cA Dj}{c3:cA LZ}{c4:cA α4}{c5:cA α5}{c6:cA α6}(ht:P.underlying t=some (.struct #[f0,f1,f2,f3,f4,f5,f6]))(hz:P.cellsOf t=c0.size+c1.size+c2.size+c3.size+c4.size+c5.size+c6.size)(o0:f0.offset=0)(o1:f1.offset=c0.size)(o2:f2.offset=c0.size+c1.size)(o3:f3.offset=c0.size+c1.size+c2.size)(o4:f4.offset=c0.size+c1.size+c2.size+c3.size)(o5:f5.offset=c0.size+c1.size+c2.size+c3.size+c4.size)(o6:f6.offset=c0.size+c1.size+c2.size+c3.size+c4.size+c5.size)(z0:P.cellsOf f0.type=c0.size)(z1:P.cellsOf f1.type=c1.size)(z2:P.cellsOf f2.type=c2.size)(z3:P.cellsOf f3.type=c3.size)(z4:P.cellsOf f4.type=c4.size)(z5:P.cellsOf f5.type=c5.size)(z6:P.cellsOf f6.type=c6.size)(r0:fU (λm=>F (m+1)) P c0 f0.type) (r1:fU (λm=>F (m+1)) P c1 f1.type) (r2:fU (λm=>F (m+1)) P c2 f2.type) (r3:fU (λm=>F (m+1)) P c3 f3.type) (r4:fU (λm=>F (m+1)) P c4 f4.type) (r5:fU (λm=>F (m+1)) P c5 f5.type) (r6:fU (λm=>F (m+1)) P c6 f6.type):fU F P (c0.pair (c1.pair (c2.pair (c3.pair (c4.pair (c5.pair c6)))))) t:=by
 intro H enc w base spare held fuel cs x hF h;obtain⟨xs,m,jI,cO,hlen,hxl,hf⟩:=DataW.trod_struct ht h;rw[hz]at hlen;have hxl:xs.length=7:=hxl;have h0:=hf 0 f0 rfl;rw[o0,z0,cI (show 0<xs.length by omega)]at h0;obtain⟨a0,k0,b0⟩:=r0 (by subst jI;exact hF) h0;have h1:=hf 1 f1 rfl;rw[o1,z1,cI (show 1<xs.length by omega)]at h1;obtain⟨a1,k1,b1⟩:=r1 (by subst jI;exact hF) h1;have h2:=hf 2 f2 rfl;rw[o2,z2,cI (show 2<xs.length by omega)]at h2;obtain⟨a2,k2,b2⟩:=r2 (by subst jI;exact hF) h2;have h3:=hf 3 f3 rfl;rw[o3,z3,cI (show 3<xs.length by omega)]at h3;obtain⟨a3,k3,b3⟩:=r3 (by subst jI;exact hF) h3;have h4:=hf 4 f4 rfl;rw[o4,z4,cI (show 4<xs.length by omega)]at h4;obtain⟨a4,k4,b4⟩:=r4 (by subst jI;exact hF) h4;have h5:=hf 5 f5 rfl;rw[o5,z5,cI (show 5<xs.length by omega)]at h5;obtain⟨a5,k5,b5⟩:=r5 (by subst jI;exact hF) h5;have h6:=hf 6 f6 rfl;rw[o6,z6,cI (show 6<xs.length by omega)]at h6;obtain⟨a6,k6,b6⟩:=r6 (by subst jI;exact hF) h6;rw[DJ cs (c0.size+c1.size+c2.size+c3.size+c4.size+c5.size) c6.size (by omega)]at k6;refine⟨(a0,(a1,(a2,(a3,(a4,(a5,a6)))))),?_,?_⟩
 ·exact⟨by simpa using k0,⟨by simpa [nW,kQ]using k1,⟨by simpa [nW,kQ]using k2,⟨by simpa [nW,kQ]using k3,⟨by simpa [nW,kQ]using k4,⟨by simpa [nW,kQ]using k5,(by simpa [nW,kQ]using k6)⟩⟩⟩⟩⟩⟩
 ·subst cO;simp only[Rows.uptoBulk,Bi,cA.pair]
  have hs:(List.map Rows.uptoBulk (xs.map (·.1))).sum=Rows.uptoBulk xs[0].1+(Rows.uptoBulk xs[1].1+(Rows.uptoBulk xs[2].1+(Rows.uptoBulk xs[3].1+(Rows.uptoBulk xs[4].1+(Rows.uptoBulk xs[5].1+(Rows.uptoBulk xs[6].1)))))):=by obtain⟨x0,x1,x2,x3,x4,x5,x6,rfl⟩:=Vu xs hxl;simp
  rw[hs];exact Nat.le_succ_of_le (ql b0 (ql b1 (ql b2 (ql b3 (ql b4 (ql b5 b6))))))
end
section
open Go.RowKit Go.Deep
theorem fU.imp{F:Nat→Prop}{P:Program}{α β:Type}{c:cA α}{d:cA β}{t:TypeId}(h:fU F P c t)(k:∀w cs a,c.is w cs a→∃b,d.is w cs b∧d.dh b≤c.dh a):fU F P d t:=by intro H enc w base spare held fuel cs x hF h1;obtain⟨a,ha,hb⟩:=h hF h1;obtain⟨b,h2,h3⟩:=k _ _ _ ha;exact⟨b,h2,Nat.le_trans h3 hb⟩
theorem lq{α:Type}{cs a b:List α}{n:Nat}(h1:cs.take n=a)(h2:cs.drop n=b):cs=a++b:=by rw[←h1,←h2,List.take_append_drop]
theorem Mz{α:Type}{c:cA α}{w:World}{v:Value}{l:List α}(h:(ck c).is w [v] l):∃(a:Option Addr)(cap:Nat),v=.slice a l.length cap∧l.length≤cap∧l.length≤maxLen:=by
 rcases h with⟨h,rfl⟩|⟨b,off,sp,cap,h,h1,h2,_⟩
 ·exact⟨none,0,by simpa using h,ay _,gU _⟩
 ·exact⟨some ⟨b,off,sp⟩,cap,by simpa using h,h1,h2⟩
theorem i7{α:Type}{c:cA α}{w:World}{v:Value}{l:List α}(h:(ck c).is w [v] l):∃(a:Option Addr)(n cap:Nat),v=.slice a n cap∧Hid (n=l.length)∧n≤cap∧n≤9223372036854775807:=by obtain⟨a,cap,h1,h2,h3⟩:=Mz h;exact⟨a,l.length,cap,h1,Lib.hid rfl,h2,by unfold maxLen at h3;omega⟩
theorem Wa{α:Type}{c:cA α}{w:World}{a:Option Addr}{n cap:Nat}{l:List α}(h:(ck c).is w [.slice a n cap] l){k:Nat}(hk:k<l.length):
  ∃(b off:Nat),a=some ⟨b,off,none⟩∧∃cs,(∀j,j<c.size→w.cell? ⟨b,off+(k*c.size+j),none⟩=cs[j]?)∧c.is w cs l[k]:=by
 rcases h with⟨_,rfl⟩|⟨b,off,sp,cap',h1,h2,h3,h4⟩
 ·simp at hk
 ·obtain⟨rfl,cs,h5,h6⟩:=h4 k hk;simp only[List.cons.injEq,Value.slice.injEq,and_true]at h1;exact⟨b,off,h1.1,cs,h5,h6⟩
theorem fT{w:World}{a:Option Addr}{n cap:Nat}{l:List Int}(h:(ck bu).is w [.slice a n cap] l){k:Nat}(hk:k<l.length):
  ∃(b off:Nat),a=some ⟨b,off,none⟩∧w.cell? ⟨b,off+k,none⟩=some (.int .i64 l[k])∧aZ l[k]:=by
 obtain⟨b,off,e,cs,h1,h2⟩:=Wa h hk;obtain⟨rfl,h3⟩:=h2;exact⟨b,off,e,by simpa [bu]using h1 0 (by decide),h3⟩
theorem Nc:Reads Try.prog (ck bu) 26:=zx Try.underlying26 (c:=bu) (by kernel_rfl) (by decide) (ng Try.underlying3)
def ud:cA ko where
 size:=3
 is:=λw cs x=>cs=[.int .i64 x.low,.int .i64 x.high,.string x.name]∧aZ x.low∧aZ x.high∧x.name.size≤maxLen
 len:=λh=>by obtain⟨rfl,_⟩:=h;rfl
 mono:=λh _=>h
 dh:=λx=>bu.dh x.low+(bu.dh x.high+(qq.dh x.name))
theorem VX:Reads Try.prog ud 147:=
 (GQ (F:=λ_=>True) Try.underlying147 (c0:=bu) (c1:=bu) (c2:=qq) (by kernel_rfl) rfl rfl rfl (by kernel_rfl) (by kernel_rfl) (by kernel_rfl) (ng Try.underlying3) (ng Try.underlying3) (Bx Try.underlying9)).imp λw cs a h=>by obtain⟨a0,a1,a2⟩:=a;obtain⟨h0,h1,h2⟩:=h;obtain⟨e0,b0⟩:=h0;obtain⟨e1,b1⟩:=h1;obtain⟨e2,b2⟩:=h2;have ur:=lq e1 e2;have nv:=lq e0 ur;exact⟨⟨a0,a1,a2⟩,⟨by rw[nv];rfl,b0,b1,b2⟩,ay _⟩
theorem Vx:Reads Try.prog (ck ud) 66:=zx Try.underlying66 (c:=ud) (by kernel_rfl) (by decide) VX
def uc:cA dR where
 size:=7
 is:=λw cs x=>∃v0:Value,cs=[.string x.name,.int .i64 x.group,.int .i64 x.ef,.int .i64 x.cU,.int .i64 x.default,.bool x.snap,v0]∧x.name.size≤maxLen∧aZ x.group∧aZ x.ef∧aZ x.cU∧aZ x.default∧(ck ud).is w [v0] x.ranges
 len:=λh=>by obtain⟨v0,rfl,_⟩:=h;rfl
 mono:=λ{w w' cs x}h g=>by obtain⟨v0,e,h0,h1,h2,h3,h4,h5⟩:=h;exact⟨v0,e,h0,h1,h2,h3,h4,((ck ud)).mono h5 g⟩
 dh:=λx=>qq.dh x.name+(bu.dh x.group+(bu.dh x.ef+(bu.dh x.cU+(bu.dh x.default+(EW.dh x.snap+((ck ud).dh x.ranges))))))
theorem VW:Reads Try.prog uc 68:=
 (Vb (F:=λ_=>True) Try.underlying68 (c0:=qq) (c1:=bu) (c2:=bu) (c3:=bu) (c4:=bu) (c5:=EW) (c6:=(ck ud)) (by kernel_rfl) rfl rfl rfl rfl rfl rfl rfl (by kernel_rfl) (by kernel_rfl) (by kernel_rfl) (by kernel_rfl) (by kernel_rfl) (by kernel_rfl) (by kernel_rfl) (Bx Try.underlying9) (ng Try.underlying3) (ng Try.underlying3) (ng Try.underlying3) (ng Try.underlying3) (WH Try.underlying4) Vx).imp λw cs a h=>by obtain⟨a0,a1,a2,a3,a4,a5,a6⟩:=a;obtain⟨h0,h1,h2,h3,h4,h5,h6⟩:=h;obtain⟨e0,b0⟩:=h0;obtain⟨e1,b1⟩:=h1;obtain⟨e2,b2⟩:=h2;obtain⟨e3,b3⟩:=h3;obtain⟨e4,b4⟩:=h4;have e5:=h5;simp only[EW]at e5;obtain⟨s6,e6⟩:=qR.1 (((ck ud)).len h6);rw[e6]at h6;have abT:=lq e5 e6;have abS:=lq e4 abT;have abR:=lq e3 abS;have JR:=lq e2 abR;have ur:=lq e1 JR;have nv:=lq e0 ur;exact⟨⟨a0,a1,a2,a3,a4,a5,a6⟩,⟨s6,by rw[nv];rfl,b0,b1,b2,b3,b4,h6⟩,ay _⟩
theorem Vw:Reads Try.prog (ck uc) 93:=zx Try.underlying93 (c:=uc) (by kernel_rfl) (by decide) VW
def tQ:cA ct where
 size:=3
 is:=λw cs x=>∃v0:Value,cs=[.string x.name,.int .i64 x.size,v0]∧x.name.size≤maxLen∧aZ x.size∧(ck uc).is w [v0] x.params
 len:=λh=>by obtain⟨v0,rfl,_⟩:=h;rfl
 mono:=λ{w w' cs x}h g=>by obtain⟨v0,e,h0,h1,h2⟩:=h;exact⟨v0,e,h0,h1,((ck uc)).mono h2 g⟩
 dh:=λx=>qq.dh x.name+(bu.dh x.size+((ck uc).dh x.params))
theorem U8:Reads Try.prog tQ 95:=
 (GQ (F:=λ_=>True) Try.underlying95 (c0:=qq) (c1:=bu) (c2:=(ck uc)) (by kernel_rfl) rfl rfl rfl (by kernel_rfl) (by kernel_rfl) (by kernel_rfl) (Bx Try.underlying9) (ng Try.underlying3) Vw).imp λw cs a h=>by obtain⟨a0,a1,a2⟩:=a;obtain⟨h0,h1,h2⟩:=h;obtain⟨e0,b0⟩:=h0;obtain⟨e1,b1⟩:=h1;obtain⟨s2,e2⟩:=qR.1 (((ck uc)).len h2);rw[e2]at h2;have ur:=lq e1 e2;have nv:=lq e0 ur;exact⟨⟨a0,a1,a2⟩,⟨s2,by rw[nv];rfl,b0,b1,h2⟩,ay _⟩
theorem UR:Reads Try.prog (ck tQ) 22:=zx Try.underlying22 (c:=tQ) (by kernel_rfl) (by decide) U8
def uj:cA eG where
 size:=4
 is:=λw cs x=>cs=[.int .i64 x.cz,.string x.fq,.int .i64 x.univ,.int .i64 x.address]∧aZ x.cz∧x.fq.size≤maxLen∧aZ x.univ∧aZ x.address
 len:=λh=>by obtain⟨rfl,_⟩:=h;rfl
 mono:=λh _=>h
 dh:=λx=>bu.dh x.cz+(qq.dh x.fq+(bu.dh x.univ+(bu.dh x.address)))
theorem WI:Reads Try.prog uj 92:=
 (Va (F:=λ_=>True) Try.underlying92 (c0:=bu) (c1:=qq) (c2:=bu) (c3:=bu) (by kernel_rfl) rfl rfl rfl rfl (by kernel_rfl) (by kernel_rfl) (by kernel_rfl) (by kernel_rfl) (ng Try.underlying3) (Bx Try.underlying9) (ng Try.underlying3) (ng Try.underlying3)).imp λw cs a h=>by obtain⟨a0,a1,a2,a3⟩:=a;obtain⟨h0,h1,h2,h3⟩:=h;obtain⟨e0,b0⟩:=h0;obtain⟨e1,b1⟩:=h1;obtain⟨e2,b2⟩:=h2;obtain⟨e3,b3⟩:=h3;have JR:=lq e2 e3;have ur:=lq e1 JR;have nv:=lq e0 ur;exact⟨⟨a0,a1,a2,a3⟩,⟨by rw[nv];rfl,b0,b1,b2,b3⟩,ay _⟩
theorem VY:Reads Try.prog (ck uj) 23:=zx Try.underlying23 (c:=uj) (by kernel_rfl) (by decide) WI
def RU:cA dP where
 size:=2
 is:=λw cs x=>∃v0 v1:Value,cs=[v0,v1]∧(ck tQ).is w [v0] x.bL∧(ck uj).is w [v1] x.fA
 len:=λh=>by obtain⟨v0,v1,rfl,_⟩:=h;rfl
 mono:=λ{w w' cs x}h g=>by obtain⟨v0,v1,e,h0,h1⟩:=h;exact⟨v0,v1,e,((ck tQ)).mono h0 g,((ck uj)).mono h1 g⟩
 dh:=λx=>(ck tQ).dh x.bL+((ck uj).dh x.fA)
theorem XS:Reads Try.prog RU 25:=
 (GP (F:=λ_=>True) Try.underlying25 (c0:=(ck tQ)) (c1:=(ck uj)) (by kernel_rfl) rfl rfl (by kernel_rfl) (by kernel_rfl) UR VY).imp λw cs a h=>by obtain⟨a0,a1⟩:=a;obtain⟨h0,h1⟩:=h;obtain⟨s0,e0⟩:=qR.1 (((ck tQ)).len h0);rw[e0]at h0;obtain⟨s1,e1⟩:=qR.1 (((ck uj)).len h1);rw[e1]at h1;have nv:=lq e0 e1;exact⟨⟨a0,a1⟩,⟨s0,s1,by rw[nv];rfl,h0,h1⟩,ay _⟩
def Ke:cA aS where
 size:=2
 is:=λw cs x=>cs=[.int .i64 x.unit,.string x.param]∧aZ x.unit∧x.param.size≤maxLen
 len:=λh=>by obtain⟨rfl,_⟩:=h;rfl
 mono:=λh _=>h
 dh:=λx=>bu.dh x.unit+(qq.dh x.param)
theorem XR:Reads Try.prog Ke 35:=
 (GP (F:=λ_=>True) Try.underlying35 (c0:=bu) (c1:=qq) (by kernel_rfl) rfl rfl (by kernel_rfl) (by kernel_rfl) (ng Try.underlying3) (Bx Try.underlying9)).imp λw cs a h=>by obtain⟨a0,a1⟩:=a;obtain⟨h0,h1⟩:=h;obtain⟨e0,b0⟩:=h0;obtain⟨e1,b1⟩:=h1;have nv:=lq e0 e1;exact⟨⟨a0,a1⟩,⟨by rw[nv];rfl,b0,b1⟩,ay _⟩
def Er:cA aA where
 size:=3
 is:=λw cs x=>cs=[.int .i64 x.key.unit,.string x.key.param,.int .i64 x.level]∧aZ x.key.unit∧x.key.param.size≤maxLen∧aZ x.level
 len:=λh=>by obtain⟨rfl,_⟩:=h;rfl
 mono:=λh _=>h
 dh:=λx=>Ke.dh x.key+(bu.dh x.level)
theorem U9:Reads Try.prog Er 37:=
 (GP (F:=λ_=>True) Try.underlying37 (c0:=Ke) (c1:=bu) (by kernel_rfl) rfl rfl (by kernel_rfl) (by kernel_rfl) XR (ng Try.underlying3)).imp λw cs a h=>by obtain⟨a0,a1⟩:=a;obtain⟨h0,h1⟩:=h;obtain⟨e0,b0⟩:=h0;obtain⟨abE,abF⟩:=b0;obtain⟨e1,b1⟩:=h1;have nv:=lq e0 e1;exact⟨⟨a0,a1⟩,⟨by rw[nv];rfl,abE,abF,b1⟩,ay _⟩
theorem US:Reads Try.prog (ck Er) 29:=zx Try.underlying29 (c:=Er) (by kernel_rfl) (by decide) U9
def Rn:cA iF where
 size:=3
 is:=λw cs x=>∃v0:Value,cs=[v0,.int .i64 x.block,.int .i64 x.eR]∧(ck bu).is w [v0] x.dg∧aZ x.block∧aZ x.eR
 len:=λh=>by obtain⟨v0,rfl,_⟩:=h;rfl
 mono:=λ{w w' cs x}h g=>by obtain⟨v0,e,h0,h1,h2⟩:=h;exact⟨v0,e,((ck bu)).mono h0 g,h1,h2⟩
 dh:=λx=>(ck bu).dh x.dg+(bu.dh x.block+(bu.dh x.eR))
theorem XQ:Reads Try.prog Rn 28:=
 (GQ (F:=λ_=>True) Try.underlying28 (c0:=(ck bu)) (c1:=bu) (c2:=bu) (by kernel_rfl) rfl rfl rfl (by kernel_rfl) (by kernel_rfl) (by kernel_rfl) Nc (ng Try.underlying3) (ng Try.underlying3)).imp λw cs a h=>by obtain⟨a0,a1,a2⟩:=a;obtain⟨h0,h1,h2⟩:=h;obtain⟨s0,e0⟩:=qR.1 (((ck bu)).len h0);rw[e0]at h0;obtain⟨e1,b1⟩:=h1;obtain⟨e2,b2⟩:=h2;have ur:=lq e1 e2;have nv:=lq e0 ur;exact⟨⟨a0,a1,a2⟩,⟨s0,by rw[nv];rfl,h0,b1,b2⟩,ay _⟩
end
def fQ(l:List Int):Prop:=∀x∈l,0≤x∧x<1000000000
def aR:List Int→Int
 |[]=>0
 |x::r=>x+1000000000*aR r
def aP(n:Nat):List Int:=if h:n=0 then[]else((n % 1000000000:Nat):Int)::aP (n / 1000000000)
termination_by n
decreasing_by omega
theorem mC:aP 0=[]:=by unfold aP;simp
theorem qK{n:Nat}(h:0<n):aP n=((n % 1000000000:Nat):Int)::aP (n / 1000000000):=by rw[aP,dif_neg (by omega)]
theorem qL:fQ []:=λx h=>by simp at h
theorem pZ{x:Int}{l:List Int}:fQ (x::l)↔(0≤x∧x<1000000000)∧fQ l:=by
 constructor
 ·intro h;exact⟨h x (by simp),λy hy=>h y (by simp [hy])⟩
 ·rintro⟨h1,h2⟩ y hy;rcases eM.1 hy with rfl|hy
  ·exact h1
  ·exact h2 y hy
theorem vA{l m:List Int}:fQ (l++m)↔fQ l∧fQ m:=by
 constructor
 ·intro h;exact⟨λx hx=>h x (by simp [hx]),λx hx=>h x (by simp [hx])⟩
 ·rintro⟨h1,h2⟩ y hy;rcases eN.1 hy with hy|hy
  ·exact h1 y hy
  ·exact h2 y hy
theorem oK(n:Nat):fQ (aP n):=by
 induction n using Nat.strongRecOn with
 |_ n ih=>
  by_cases h:n=0
  ·subst h;rw[mC];exact qL
  ·rw[qK (by omega),pZ];exact⟨⟨by omega,by omega⟩,ih _ (by omega)⟩
theorem oJ(n:Nat):aR (aP n)=n:=by
 induction n using Nat.strongRecOn with
 |_ n ih=>
  by_cases h:n=0
  ·subst h;rw[mC];rfl
  ·rw[qK (by omega),aR,ih _ (by omega)];omega
theorem vw{l:List Int}(h:fQ l):0≤aR l:=by
 induction l with
 |nil=>simp [aR]
 |cons x r ih=>have h1:=pZ.1 h;have:=ih h1.2;simp only[aR];omega
theorem zq(l m:List Int):aR (l++m)=aR l+1000000000 ^ l.length*aR m:=by
 induction l with
 |nil=>simp [aR]
 |cons x r ih=>simp only[l6,aR,ih,List.length_cons,Int.pow_succ];rw[Int.mul_add,←Int.mul_assoc,Int.mul_comm (1000000000 ^ r.length) 1000000000];omega
theorem BO{l:List Int}(h:fQ l):aR l<1000000000 ^ l.length:=by
 induction l with
 |nil=>simp [aR]
 |cons x r ih=>
  have h1:=pZ.1 h;have:=ih h1.2;simp only[aR,List.length_cons,Int.pow_succ];generalize (1000000000:Int) ^ r.length=q at *
  omega
def qQ:List Int→List Int
 |[]=>[]
 |x::r=>if qQ r=[]∧x=0 then[]else x::qQ r
theorem YW{l:List Int}(h:fQ l):qQ l=aP (aR l).toNat:=by
 induction l with
 |nil=>simp [qQ,aR,mC]
 |cons x r ih=>
  have h1:=pZ.1 h;have h2:=ih h1.2;have h3:=vw h1.2;simp only[qQ,aR,h2];by_cases hz:aR r=0
  ·rw[hz];simp only[Int.toNat_zero,mC,true_and];by_cases hx:x=0
   ·subst hx;simp [mC]
   ·rw[aI hx,qK (by omega)];have e1:(x+1000000000*0).toNat % 1000000000=x.toNat:=by omega
    have e2:(x+1000000000*0).toNat / 1000000000=0:=by omega
    rw[e1,e2,mC,Int.toNat_of_nonneg h1.1.1]
  ·have hne:aP (aR r).toNat≠[]:=by rw[qK (by omega)];simp
   rw[aI (λhh=>hne hh.1),qK (n:=(x+1000000000*aR r).toNat) (by omega)];have e1:(((x+1000000000*aR r).toNat % 1000000000:Nat):Int)=x:=by omega
   have e2:(x+1000000000*aR r).toNat / 1000000000=(aR r).toNat:=by omega
   rw[e1,e2]
theorem WZ(l:List Int)(x:Int):qQ (l++[x])=if x=0 then qQ l else l++[x]:=by
 induction l with
 |nil=>simp [qQ]
 |cons y r ih=>
  simp only[l6,qQ,ih];by_cases hx:x=0
  ·simp [hx]
  ·simp [hx]
theorem DM{n:Nat}(h:n<1000000000)(h0:0<n):aP n=[(n:Int)]:=by rw[qK h0,Nat.div_eq_of_lt h,mC,Nat.mod_eq_of_lt h]
theorem VH{n:Nat}:aP n=[]↔n=0:=by
 constructor
 ·intro h;have:=oJ n;rw[h]at this;simp [aR]at this;omega
 ·rintro rfl;exact mC
theorem XN(l:List Int)(c x y u v S:Int)(h:aR l+1000000000 ^ l.length*(c+(x+1000000000*u)+(y+1000000000*v))=S):
  aR (l++[(c+x+y) % 1000000000])+1000000000 ^ (l.length+1)*((c+x+y) / 1000000000+u+v)=S:=by
 rw[zq,Int.pow_succ,←h];simp only[aR];have hn:=Int.emod_add_mul_ediv (c+x+y) 1000000000;generalize (1000000000:Int) ^ l.length=q at *
 generalize (c+x+y) % 1000000000=r at *
 generalize (c+x+y) / 1000000000=d at *
 have:r=c+x+y-1000000000*d:=by omega
 subst this
 grind
theorem vC(l:List Int)(k:Nat):aR (l.drop k)=l.getD k 0+1000000000*aR (l.drop (k+1)):=by
 by_cases h:k<l.length
 ·rw[List.drop_eq_getElem_cons h,aR];simp [List.getD,cI h]
 ·rw[List.drop_eq_nil_of_le (by omega),List.drop_eq_nil_of_le (by omega)];simp [aR,List.getD,ku (show l.length≤k by omega)]
theorem tP{l:List Int}(h:fQ l)(k:Nat):0≤l.getD k 0∧l.getD k 0<1000000000:=by
 by_cases hk:k<l.length
 ·simp only[List.getD,cI hk,Option.getD_some];exact h _ (List.getElem_mem hk)
 ·simp [List.getD,ku (show l.length≤k by omega)]
theorem iO{l:List Int}{k:Nat}(h:k<l.length):l[k]=l.getD k 0:=by simp [List.getD,cI h]
theorem Bp{l:List Int}{k:Nat}(h:l.length≤k):l.getD k 0=0:=by simp [List.getD,ku h]
theorem Yk(l:List Int)(j:Nat)(d:Int)(h:j<l.length):aR (l.set j d)=aR l+(d-l.getD j 0)*1000000000 ^ j:=by
 induction l generalizing j with
 |nil=>simp at h
 |cons x r ih=>
  cases j with
  |zero=>simp [aR];omega
  |succ j=>
   simp only[List.set_cons_succ,aR,ih j (by simpa using h),Int.pow_succ,ji]
   grind
theorem I5{l:List Int}(h:fQ l)(j:Nat)(d:Int)(hd:0≤d∧d<1000000000):fQ (l.set j d):=λx hx=>by
 rcases List.mem_or_eq_of_mem_set hx with h1|rfl
 ·exact h x h1
 ·exact hd
theorem Mm(l:List Int)(k:Nat):aR (l.take (k+1))=aR (l.take k)+1000000000 ^ k*l.getD k 0:=by
 by_cases h:k<l.length
 ·rw[List.take_succ_eq_append_getElem h,zq,gn,Nat.min_eq_left (by omega),iO h];simp [aR]
 ·rw[Bp (by omega),fF (by omega),fF (by omega)];simp
theorem BI{l:List Int}(h:fQ l)(k:Nat):fQ (l.take k):=λx hx=>h x (uo hx)
theorem WY(out A D:List Int)(i k:Nat)(c x:Int)(hk:i+k<out.length)
  (h:aR out+c*1000000000 ^ (i+k)=aR (A.take i)*aR D+x*1000000000 ^ i*aR (D.take k)):
  aR (out.set (i+k) ((out.getD (i+k) 0+c+x*D.getD k 0) % 1000000000))+(out.getD (i+k) 0+c+x*D.getD k 0) / 1000000000*1000000000 ^ (i+(k+1))=aR (A.take i)*aR D+x*1000000000 ^ i*aR (D.take (k+1)):=by
 rw[Yk _ _ _ hk,Mm,←kQ,Int.pow_succ];rw[Int.pow_add]at *
 have hn:=Int.emod_add_mul_ediv (out.getD (i+k) 0+c+x*D.getD k 0) 1000000000;generalize (out.getD (i+k) 0+c+x*D.getD k 0) % 1000000000=r at *
 generalize (out.getD (i+k) 0+c+x*D.getD k 0) / 1000000000=d at *
 generalize (1000000000:Int) ^ i=q at *
 generalize (1000000000:Int) ^ k=p at *
 generalize D.getD k 0=y at *
 generalize out.getD (i+k) 0=o at *
 grind
theorem zQ(k:Nat):(0:Int)<1000000000 ^ k:=Int.pow_pos (by omega)
theorem Wd(out A D:List Int)(i:Nat)(c x:Int)(ho:fQ out)(hA:fQ A)(hD:fQ D)(hi:i≤A.length)(hx:0≤x∧x<1000000000)(hc:0≤c)
  (h:aR out+c*1000000000 ^ (i+(D.length+1))=aR (A.take i)*aR D+x*1000000000 ^ i*aR (D.take (D.length+1))):c=0:=by
 have h1:=vw ho;have h2:=BO (BI hA i);rw[gn,Nat.min_eq_left hi]at h2;have h3:=BO hD;have h4:=vw hD;have h5:=vw (BI hA i);rw[fF (l:=D) (by omega),←kQ,Int.pow_succ,Int.pow_add]at h;have hq:=zQ i;have hp:=zQ D.length;generalize (1000000000:Int) ^ i=q at *
 generalize (1000000000:Int) ^ D.length=p at *
 generalize aR D=d at *
 generalize aR (A.take i)=a at *
 generalize aR out=o at *
 have hxq:x*q≤999999999*q:=Int.mul_le_mul_of_nonneg_right (by omega) (by omega);have adY:0≤x*q:=Int.mul_nonneg (by omega) (by omega);have hP:a+x*q<1000000000*q:=by omega
 have e:a*d+x*q*d=(a+x*q)*d:=by grind
 rw[e]at h;have hP0:0≤a+x*q:=by omega
 generalize a+x*q=P at *
 have h6:P*d≤P*p:=Int.mul_le_mul_of_nonneg_left (by omega) hP0;have h7:P*p<1000000000*q*p:=Int.mul_lt_mul_of_pos_right hP hp;rcases Int.lt_or_le 0 c with hc1|hc1
 ·exfalso;have h8:1*(q*p*1000000000)≤c*(q*p*1000000000):=Int.mul_le_mul_of_nonneg_right (by omega) (Int.mul_nonneg (Int.mul_nonneg (by omega) (by omega)) (by omega));have h9:1000000000*q*p=1*(q*p*1000000000):=by grind
  omega
 ·omega
theorem X3(out A D:List Int)(i k:Nat)(x:Int)(hx:x=A.getD i 0)(hk:D.length≤k)(h:aR out+0*1000000000 ^ (i+k)=aR (A.take i)*aR D+x*1000000000 ^ i*aR (D.take k)):
  aR out=aR (A.take (i+1))*aR D:=by
 rw[Mm,←hx];rw[fF (l:=D) (by omega)]at h;generalize (1000000000:Int) ^ i=q at *
 generalize aR (A.take i)=a at *
 generalize aR D=d at *
 clear hx hk
 grind
theorem aat{y:Nat}(h:0<y):(1000000000:Int) ^ ((aP y).length-1)≤y:=by
 induction y using Nat.strongRecOn with
 |_ y ih=>
  rw[qK h];simp only[List.length_cons,Nat.add_sub_cancel];by_cases h1:y / 1000000000=0
  ·rw[h1,mC];simp;omega
  ·have h2:=ih (y / 1000000000) (by omega) (by omega);have h3:0<(aP (y / 1000000000)).length:=List.length_pos_iff.2 (by rw[Ne,VH];exact h1);obtain⟨q,hq⟩:∃q,(aP (y / 1000000000)).length=q+1:=⟨_,(Nat.sub_add_cancel h3).symm⟩
   rw[hq]at h2 ⊢;simp only[Nat.add_sub_cancel]at h2;rw[Int.pow_succ];generalize (1000000000:Int) ^ q=p at *
   omega
theorem XO{a b:Nat}(h:a≤b):(1000000000:Int) ^ a≤1000000000 ^ b:=by
 obtain⟨c,rfl⟩:=Nat.exists_eq_add_of_le h;rw[Int.pow_add];have h1:=zQ a;have h2:=zQ c;generalize (1000000000:Int) ^ a=p at *
 generalize (1000000000:Int) ^ c=q at *
 have h4:p*1≤p*q:=Int.mul_le_mul_of_nonneg_left (by omega) (by omega);omega
theorem Hz{x y:Nat}(h:(aP x).length<(aP y).length):x<y:=by
 have h1:=BO (oK x);rw[oJ]at h1
 have h0:0<y:=by
  rcases Nat.eq_zero_or_pos y with rfl|h0
  ·rw[mC]at h;simp at h
  ·exact h0
 have h2:=aat h0;have h3:=XO (a:=(aP x).length) (b:=(aP y).length-1) (by omega);omega
theorem Mr{x y:Nat}(k:Nat)(hlx:k<(aP x).length)(hly:k<(aP y).length)(hd:(aP x).drop (k+1)=(aP y).drop (k+1))(h:(aP x).getD k 0<(aP y).getD k 0):x<y:=by
 have e1:=zq ((aP x).take k) ((aP x).drop k);have e2:=zq ((aP y).take k) ((aP y).drop k);rw[List.take_append_drop,oJ,vC,gn,Nat.min_eq_left (by omega)]at e1 e2;rw[hd]at e1;have b1:=BO (BI (oK x) k);have b2:=vw (BI (oK y) k);rw[gn,Nat.min_eq_left (by omega)]at b1;generalize aR ((aP y).drop (k+1))=r at *
 generalize (aP x).getD k 0=dx at *
 generalize (aP y).getD k 0=dy at *
 have hp:=zQ k;generalize (1000000000:Int) ^ k=p at *
 have h4:p*(dx+1000000000*r+1)≤p*(dy+1000000000*r):=Int.mul_le_mul_of_nonneg_left (by omega) (by omega);rw[Int.mul_add p (dx+1000000000*r) 1]at h4;generalize p*(dx+1000000000*r)=u at *
 generalize p*(dy+1000000000*r)=v at *
 omega
theorem UN{x y:Nat}(h:(aP x).drop 0=(aP y).drop 0):x=y:=by have h1:=oJ x;have h2:=oJ y;simp at h;rw[h,h2]at h1;omega
theorem Ms{x:Nat}(k:Nat):0≤aR ((aP x).drop k)∧aR ((aP x).drop k)≤x:=by
 have hok:fQ ((aP x).drop k):=λy hy=>oK x y (List.mem_of_mem_drop hy)
 have e1:=zq ((aP x).take k) ((aP x).drop k);rw[List.take_append_drop,oJ]at e1;have b2:=vw (BI (oK x) k);have b3:=vw hok;have hp:=zQ ((aP x).take k).length;generalize (1000000000:Int) ^ ((aP x).take k).length=p at *
 generalize aR ((aP x).drop k)=r at *
 have h4:1*r≤p*r:=Int.mul_le_mul_of_nonneg_right (by omega) b3;omega
theorem WA(l:List Int)(c x y u v S:Int)(d c':Int)(hd:d=x-c-y+1000000000*c')(h:aR l+1000000000 ^ l.length*((x+1000000000*u) -(y+1000000000*v) -c)=S):
  aR (l++[d])+1000000000 ^ (l.length+1)*(u-v-c')=S:=by
 rw[zq,Int.pow_succ,←h];simp only[aR];generalize (1000000000:Int) ^ l.length=q at *
 subst hd
 grind
theorem XH{l:List Int}(h:fQ l)(c:Int)(S:Int)(hS:0≤S)(hc:c=0∨c=1)(hE:aR l+1000000000 ^ l.length*(0-0-c)=S):aR l=S:=by
 have:=BO h;generalize (1000000000:Int) ^ l.length=q at *
 rcases hc with rfl|rfl<;>omega
theorem WR(out X:List Int)(k:Nat)(n rest:Int)(hk:k<out.length)(hn:0<n)(h:aR (out.drop (k+1))*n+rest=aR (X.drop (k+1))):
  aR ((out.set k ((rest*1000000000+X.getD k 0) / n)).drop k)*n+(rest*1000000000+X.getD k 0) % n=aR (X.drop k):=by
 rw[vC X k,←h,vC];have e1:(out.set k ((rest*1000000000+X.getD k 0) / n)).getD k 0=(rest*1000000000+X.getD k 0) / n:=by simp [List.getD,lZ hk]
 have e2:(out.set k ((rest*1000000000+X.getD k 0) / n)).drop (k+1)=out.drop (k+1):=by rw[List.drop_set_of_lt (by omega)]
 rw[e1,e2];have:=Int.emod_add_mul_ediv (rest*1000000000+X.getD k 0) n;generalize (rest*1000000000+X.getD k 0) % n=r at *
 generalize hq:(rest*1000000000+X.getD k 0) / n=q at *
 grind
theorem Iz{n:Nat}(h:n<1000000000000000000000000000):(aP n).length≤3:=by
 by_cases h0:n=0
 ·subst h0;simp [mC]
 rw[qK (by omega)];by_cases h1:n / 1000000000=0
 ·rw[h1];simp [mC]
 rw[qK (by omega)];by_cases h2:n / 1000000000 / 1000000000=0
 ·rw[h2];simp [mC]
 rw[qK (by omega),show n / 1000000000 / 1000000000 / 1000000000=0 by omega];simp [mC]
section
open Go.RowKit
def eF(n lo hi:Int):Bool:=decide (lo≤n∧n≤hi)
theorem zC(n lo hi:Int)(w:World):
  Calls Try.prog 35 #[.int .i64 n,.int .i64 lo,.int .i64 hi] w λe w'=>e=.returned (.bool (eF n lo hi))∧w=w':=by
 by_cases h1:lo≤n
 ·go_enter Try.func35,Try.ntmps35
  go_wp2
  go_ret
  exact⟨by simp [eF,h1],rfl⟩
 ·have h1':decide (lo≤n)=false:=by simpa using h1
  go_enter Try.func35,Try.ntmps35
  go_wp2
  go_ret
  exact⟨by simp [eF];omega,rfl⟩
theorem MR(n lo hi:Int)(w:World):
  Calls Try.prog 43 #[.int .i64 n,.int .i64 lo,.int .i64 hi] w λe w'=>e=.returned (.bool (eF n lo hi))∧w=w':=by
 by_cases h1:lo≤n
 ·go_enter Try.func43,Try.ntmps43
  go_wp2
  go_ret
  exact⟨by simp [eF,h1],rfl⟩
 ·have h1':decide (lo≤n)=false:=by simpa using h1
  go_enter Try.func43,Try.ntmps43
  go_wp2
  go_ret
  exact⟨by simp [eF];omega,rfl⟩
def oS(b:Bool)(n:Int):Int:=bif b then n else 0
theorem OZ(b:Bool)(n:Int)(w:World):
  Calls Try.prog 25 #[.bool b,.int .i64 n] w λe w'=>e=.returned (.int .i64 (oS b n))∧w=w':=by
 cases b<;>
 ·go_enter Try.func25,Try.ntmps25
  go_wp2
  go_ret
  exact⟨rfl,rfl⟩
theorem Xp(n d:Int)(hd:0<d)(h:n<0)(ht:n.tmod d<0):n.tdiv d-1=n / d:=by
 obtain⟨m,rfl⟩:∃m,n=-m:=⟨-n,by omega⟩
 rw[Int.neg_tdiv,Int.tdiv_eq_ediv_of_nonneg (by omega)];rw[Int.neg_tmod,Int.tmod_eq_emod_of_nonneg (by omega)]at ht;have b2:=Int.emod_lt_of_pos m hd;have e2:=Int.emod_add_mul_ediv m d;refine((Int.ediv_emod_unique hd (r:=d-m % d)).2 ⟨?_,by omega,by omega⟩).1.symm;rw[Int.mul_sub,Int.mul_neg];omega
theorem Wq(n d:Int)(hd:0<d)(h:n<0)(ht:0≤n.tmod d):n.tdiv d=n / d:=by
 obtain⟨m,rfl⟩:∃m,n=-m:=⟨-n,by omega⟩
 rw[Int.neg_tdiv,Int.tdiv_eq_ediv_of_nonneg (by omega)];rw[Int.neg_tmod,Int.tmod_eq_emod_of_nonneg (by omega)]at ht;have b1:=Int.emod_nonneg m (show d≠0 by omega);have e2:=Int.emod_add_mul_ediv m d;refine((Int.ediv_emod_unique hd (r:=0)).2 ⟨?_,by omega,by omega⟩).1.symm;rw[Int.mul_neg];omega
theorem aaf(n d:Int)(hd:0<d)(hn:-9000000000000000000≤n)(h:n<0):-9000000000000000000≤n.tdiv d∧n.tdiv d≤0:=by
 obtain⟨m,rfl⟩:∃m,n=-m:=⟨-n,by omega⟩
 rw[Int.neg_tdiv,Int.tdiv_eq_ediv_of_nonneg (by omega)];have:=Int.ediv_le_self d (show 0≤m by omega);have:=Int.ediv_nonneg (show 0≤m by omega) (show 0≤d by omega);omega
theorem Xo(n d:Int)(hd:0<d)(hn:-9000000000000000000≤n)(hn2:n≤9000000000000000000)(hd2:d≤9000000000000000000)(w:World):
  Calls Try.prog 107 #[.int .i64 n,.int .i64 d] w λe w'=>e=.returned (.int .i64 (n / d))∧w=w':=by
 by_cases h0:0≤n
 ·have b1:=Int.emod_nonneg n (show d≠0 by omega)
  go_enter Try.func107,Try.ntmps107
  go_wp2
  go_ret
  exact⟨rfl,rfl⟩
 ·have tb:=aaf n d hd hn (by omega);obtain⟨tb1,tb2⟩:=tb
  go_enter Try.func107,Try.ntmps107
  go_wp2
  ·go_ret
   exact⟨nO (Xp n d hd (by omega) (by assumption)),rfl⟩
  ·go_ret
   exact⟨nO (Wq n d hd (by omega) (by assumption)),rfl⟩
def kq(n d:Int):Int:=(2*n+d) / (2*d)
theorem XU(n d:Int)(hd:0<d)(hn:-1000000000000000000≤n)(hn2:n≤1000000000000000000)(hd2:d≤1000000000000000000)(w:World):
  Calls Try.prog 93 #[.int .i64 n,.int .i64 d] w λe w'=>e=.returned (.int .i64 (kq n d))∧w=w':=by
 go_enter Try.func93,Try.ntmps93
 go_wp2_with (go_at_call 107;refine(Xo _ _ (by omega) (by omega) (by omega) (by omega) _).mono ?_;rintro e w' ⟨rfl,rfl⟩)
 go_ret
 exact⟨rfl,rfl⟩
def vM(f:Nat→Int):Nat→Nat→Int
 |_,0=>0
 |i,n+1=>if f i=0 then vM f (i+1) n else f i
def Ad(l:List Int):Int:=vM (λi=>l.getD i 0) 0 l.length
theorem Xn(f:Nat→Int)(k:Nat):∀(i n:Nat),(∀j,i≤j→j<i+k→f j=0)→k<n→f (i+k)≠0→vM f i n=f (i+k):=by
 induction k with
 |zero=>intro i n _ hn h1;cases n with
  |zero=>omega
  |succ n=>rw[vM,aI (by simpa using h1)];simp
 |succ k ih=>intro i n h hn h1;cases n with
  |zero=>omega
  |succ n=>rw[vM,aK (h i (by omega) (by omega)),ih (i+1) n (λj h2 h3=>h j (by omega) (by omega)) (by omega) (by rw[show i+1+k=i+(k+1) by omega];exact h1)];rw[show i+1+k=i+(k+1) by omega]
theorem MI(f:Nat→Int):∀(n i:Nat),(∀j,i≤j→j<i+n→f j=0)→vM f i n=0
 |0,_,_=>rfl
 |n+1,i,h=>by rw[vM,aK (h i (by omega) (by omega)),MI f n (i+1) (λj h2 h3=>h j (by omega) (by omega))]
theorem NB(n:Nat)(f:Nat→Int)(blk:Nat)(w:World)(hlen:n≤1000)(hc:Hid (∀i,i<n→w.cell? ⟨blk,i,none⟩=some (.int .i64 (f i)))):
  Calls Try.prog 22 #[.slice (some ⟨blk,0,none⟩) n n] w λe w'=>e=.returned (.int .i64 (vM f 0 n))∧w=w':=by
 go_enter Try.func22,Try.ntmps22
 go_wp2
 go_loop [7] (λi=>∃k:Nat,k≤n∧i=.int .i64 k∧(∀j,j<k→f j=0)) (λi=>n-(intOf i).toNat)
 case atStart=>exact⟨0,gU _,rfl,λj hj=>by omega⟩
 case round=>
  obtain⟨k,hk,rfl,hz⟩:=hrel;have HZ:=Lib.hid hz;clear hz;by_cases hlt:k<n
  ·have uR:=hc.out k (by omega);by_cases hv:f k=0
   ·have Lb:(f k !=0)=false:=by simpa using hv
    have HV:=Lib.hid hv;clear hv
    go_wp2
    go_round
    case rel=>exact⟨k+1,by omega,by go_num,λj hj=>by
     by_cases h:j=k
     ·rw[h];exact HV.out
     ·exact HZ.out j (by omega)⟩
    case measure=>simp [intOf];omega
   ·have Lb:(f k !=0)=true:=by simpa using hv
    have HV:=Lib.hid hv;clear hv
    go_wp2
    go_ret
    exact⟨nO (by rw[Xn f k 0 n (λj _ h2=>HZ.out j (by omega)) hlt (by simpa using HV.out)];simp),rfl⟩
  ·go_wp2
   go_ret
   exact⟨nO (by rw[MI f n 0 (λj _ h2=>HZ.out j (by omega))]),rfl⟩
theorem Zp(x0 x1:Int)(b:Nat)(w:World)(K:E8 w b (.int .i64 x0) (.int .i64 x1)):
  Calls Try.prog 22 #[.slice (some ⟨b,0,none⟩) 2 2] w λe w'=>e=.returned (.int .i64 (Ad [x0,x1]))∧w=w':=
 NB 2 (λi=>[x0,x1].getD i 0) b w (by omega) (Lib.hid λi hi=>by
  match i,hi with
  |0,_=>exact K.1.1
  |1,_=>exact K.1.2)
theorem Zq(x0 x1 x2 x3:Int)(b:Nat)(w:World)(K:E9 w b (.int .i64 x0) (.int .i64 x1) (.int .i64 x2) (.int .i64 x3)):
  Calls Try.prog 22 #[.slice (some ⟨b,0,none⟩) 4 4] w λe w'=>e=.returned (.int .i64 (Ad [x0,x1,x2,x3]))∧w=w':=
 NB 4 (λi=>[x0,x1,x2,x3].getD i 0) b w (by omega) (Lib.hid λi hi=>by
  match i,hi with
  |0,_=>exact K.1.1
  |1,_=>exact K.1.2.1
  |2,_=>exact K.1.2.2.1
  |3,_=>exact K.1.2.2.2)
theorem Zn(x0 x1:Int)(t:TypeId)(b:Nat)(w:World)(hb:b=w.heap.size):
  Calls Try.prog 22 #[.slice (some ⟨b,0,none⟩) 2 2] (w.alloc (.cells #[.int .i64 x0,.int .i64 x1] t)) λe w'=>e=.returned (.int .i64 (Ad [x0,x1]))∧(w.alloc (.cells #[.int .i64 x0,.int .i64 x1] t))=w':=
 hb▸Zp x0 x1 w.heap.size _ (E8.of (t:=t) (dJ w _))
theorem Zo(x0 x1 x2 x3:Int)(t:TypeId)(b:Nat)(w:World)(hb:b=w.heap.size):
  Calls Try.prog 22 #[.slice (some ⟨b,0,none⟩) 4 4] (w.alloc (.cells #[.int .i64 x0,.int .i64 x1,.int .i64 x2,.int .i64 x3] t)) λe w'=>e=.returned (.int .i64 (Ad [x0,x1,x2,x3]))∧(w.alloc (.cells #[.int .i64 x0,.int .i64 x1,.int .i64 x2,.int .i64 x3] t))=w':=
 hb▸Zq x0 x1 x2 x3 w.heap.size _ (E9.of (t:=t) (dJ w _))
end
section
open Go.RowKit
def cA.Flat{α:Type}(c:cA α):Prop:=∀w w' cs a,c.is w cs a→c.is w' cs a
theorem NK:bu.Flat:=λ_ _ _ _ h=>h
def b9{α:Type}(w:World)(base:Nat)(e:TypeId)(c:cA α)(v:Value)(l:List α):Prop:=∃xs:List Value,w.ownsRow base e c.size v l.length xs∧∀i(h:i<l.length),c.is w ((xs.drop (i*c.size)).take c.size) l[i]
theorem b9.nil{α:Type}(w:World)(base:Nat)(e:TypeId)(c:cA α):b9 w base e c (.slice none 0 0) []:=
 ⟨[],World.ownsRow_nil w base e c.size,λi h=>by simp at h⟩
theorem b9.mono{α:Type}{w w':World}{base:Nat}{e:TypeId}{c:cA α}{v:Value}{l:List α}(h:b9 w base e c v l)(g:Gr w w'):b9 w' base e c v l:=by
 obtain⟨xs,h1,h2⟩:=h;refine⟨xs,⟨h1.1,?_⟩,λi hi=>c.mono (h2 i hi) g⟩;rcases h1.2 with h|⟨b,cap,cur,rfl,hb,hh,r⟩
 ·exact .inl h
 ·exact .inr ⟨b,cap,cur,rfl,hb,by rw[g.below.block b (nU.1 hh).1];exact hh,r⟩
theorem b9.alloc{α:Type}{w:World}{base:Nat}{e:TypeId}{c:cA α}{v:Value}{l:List α}(h:b9 w base e c v l)(o:Obj):b9 (w.alloc o) base e c v l:=h.mono ((Gr.refl _).alloc o)
theorem b9.gr{α:Type}{W w w':World}{base:Nat}{e:TypeId}{c:cA α}{v:Value}{l:List α}(h:b9 w base e c v l)(hG:Gr W w)(hb:W.heap.size≤base)(hg:w.grownBy w' v.ownBlock):Gr W w':=by obtain⟨xs,h1,_⟩:=h;exact Below.grown hG hg hG.size (λk hk=>Nat.le_trans hb (h1.lt k hk).1)
theorem b9.is{α:Type}{w:World}{base:Nat}{e:TypeId}{c:cA α}{v:Value}{l:List α}(h:b9 w base e c v l):(ck c).is w [v] l:=by
 obtain⟨xs,h1,h2⟩:=h;rcases h1.2 with⟨rfl,h3⟩|⟨b,cap,cur,rfl,hb,hh,hnc,KV,hsz,abx⟩
 ·exact .inl ⟨rfl,uk h3⟩
 ·refine .inr ⟨b,0,none,cap,rfl,hnc,Nat.le_trans hnc KV,λi hi=>⟨rfl,_,λj hj=>?_,h2 i hi⟩⟩
  have hlt:i*c.size+j<l.length*c.size:=by have:(i+1)*c.size≤l.length*c.size:=kC _ hi;rw[eX]at this;omega
  rw[Nat.zero_add,h1.cellAt (i*c.size+j) hlt,List.getElem?_take_of_lt hj,List.getElem?_drop]
theorem b9.shape{α:Type}{w:World}{base:Nat}{e:TypeId}{c:cA α}{v:Value}{l:List α}(h:b9 w base e c v l):∃(a:Option Addr)(n cap:Nat),v=.slice a n cap∧Hid (n=l.length)∧n≤cap∧cap≤9223372036854775807:=by
 obtain⟨xs,h1,_⟩:=h;rcases h1.2 with⟨rfl,h3⟩|⟨b,cap,cur,rfl,hb,hh,hnc,KV,hsz,abx⟩
 ·exact⟨none,0,0,rfl,Lib.hid h3.symm,ay _,by omega⟩
 ·exact⟨_,l.length,cap,rfl,Lib.hid rfl,hnc,by unfold maxLen at KV;omega⟩
theorem QD{P:Program}{α:Type}{c:cA α}{o:Oper}{a:Act}{K:Act→World→Prop}{Q:Exit→Act→World→Prop}(w:World)(s x:Operand)(t:TypeId)
  (ho:o.op=.call {callee:=.builtin .append,args:=#[s,x],argTypes:=#[t,t]})
  (e:TypeId) (z:Value) (bytes:Nat) (ht:P.underlying t=some (.slice e)) (hinfo:(P.info? e).map (λi=>(i.zero,i.size,i.bytes))=some (some z,c.size,bytes)) (hzs:z.cells.size=c.size) (hsz:0<c.size) (hf:c.Flat)
  (base:Nat) (v:Value) (l:List α) (hs:a.eval s=v) (hown:b9 w base e c v l)
  (g:Nat) (hx:a.eval x=.slice (some ⟨g,0,none⟩) 1 1) (y:α) (cs:Array Value) (tt:TypeId) (hg:w.heap[g]? =some (.cells cs tt (0,0))) (hy:c.is w cs.toList y) (h1:∀u∈cs.toList,u.oneCell'=true)
  (hlen:(l.length+1)*bytes≤140737488355328) (hm:l.length+1≤maxLen) (hbase:base≤w.heap.size)
  (h:∀v' w',b9 w' base e c v' (l++[y])→w.grownBy w' v.ownBlock→K (a.put o.dst v') w'):o.wp P a w K Q:=by
 obtain⟨i0,hi,dn,hz1,Ld⟩:=info_parts hinfo;obtain⟨xs,wL,CQ⟩:=hown;have eZ:=c.len hy;refine wp_append_own w s x t ho base e i0 z c.size bytes ht hi dn hz1 Ld hzs hsz v l.length xs hs wL ⟨g,0,none⟩ 1 1 cs.toList hx (by simpa using eZ) ?_ h1 hm hlen hbase ?_
 ·intro j u hu;have Rp:(⟨g,0,none⟩:Addr).add j=⟨g,j,none⟩:=by unfold Addr.add;split<;>simp_all
  rw[Rp,cell_of_row w g j cs tt (0,0) hg];simpa using hu
 ·intro v' w' h3 h4 _;refine h v' w' ⟨xs++cs.toList,by simpa using h3,λi hi'=>?_⟩ h4;have hxl:=wL.1;by_cases hil:i<l.length
  ·have hle:(i+1)*c.size≤l.length*c.size:=kC _ hil;rw[eX,Nat.one_mul]at hle;rw[List.getElem_append_left hil]
   have e1:((xs++cs.toList).drop (i*c.size)).take c.size=(xs.drop (i*c.size)).take c.size:=by rw[List.drop_append_of_le_length (by omega),List.take_append_of_le_length (by simp;omega)]
   rw[e1];exact hf _ _ _ _ (CQ i hil)
  ·have ab8:i=l.length:=by simp at hi';omega
   subst ab8;rw[List.getElem_append_right (ay _)]
   have e1:((xs++cs.toList).drop (l.length*c.size)).take c.size=cs.toList:=by rw[←hxl,List.drop_left];exact fF (by omega)
   rw[e1];simpa using hf _ _ _ _ hy
theorem W0{P:Program}{α:Type}{c:cA α}{ops:Array Oper}{rest:List Oper}{o:Oper}{a:Act}{Q:Exit→Act→World→Prop}(w:World)(hgd:o.guard=none)(s x:Operand)(t:TypeId)
  (ho:o.op=.call {callee:=.builtin .append,args:=#[s,x],argTypes:=#[t,t]})
  (e:TypeId) (z:Value) (bytes:Nat) (ht:P.underlying t=some (.slice e)) (hinfo:(P.info? e).map (λi=>(i.zero,i.size,i.bytes))=some (some z,c.size,bytes)) (hzs:z.cells.size=c.size) (hsz:0<c.size) (hf:c.Flat)
  (base:Nat) (v:Value) (l:List α) (hs:a.eval s=v) (hown:b9 w base e c v l)
  (g:Nat) (hx:a.eval x=.slice (some ⟨g,0,none⟩) 1 1) (y:α) (cs:Array Value) (tt:TypeId) (hg:w.heap[g]? =some (.cells cs tt (0,0))) (hy:c.is w cs.toList y) (h1:∀u∈cs.toList,u.oneCell'=true)
  (hlen:(l.length+1)*bytes≤140737488355328) (hm:l.length+1≤maxLen) (hbase:base≤w.heap.size)
  (h:∀v' w',b9 w' base e c v' (l++[y])→w.grownBy w' v.ownBlock→wpList P ops Q rest (a.put o.dst v') w'):wpList P ops Q (o::rest) a w:=
 wpList_plain hgd λ_ hK=>QD w s x t ho e z bytes ht hinfo hzs hsz hf base v l hs hown g hx y cs tt hg hy h1 hlen hm hbase λv' w' h2 h3=>hK _ _ (h v' w' h2 h3)
theorem YV{P:Program}{α:Type}{c:cA α}{ops:Array Oper}{o:Oper}{a:Act}{K:Act→World→Prop}{Q:Exit→Act→World→Prop}{E:Prop}(w:World)(hgd:o.guard=none)(s x:Operand)(t:TypeId)
  (ho:o.op=.call {callee:=.builtin .append,args:=#[s,x],argTypes:=#[t,t]})
  (e:TypeId) (z:Value) (bytes:Nat) (ht:P.underlying t=some (.slice e)) (hinfo:(P.info? e).map (λi=>(i.zero,i.size,i.bytes))=some (some z,c.size,bytes)) (hzs:z.cells.size=c.size) (hsz:0<c.size) (hf:c.Flat)
  (base:Nat) (v:Value) (l:List α) (hs:a.eval s=v) (hown:b9 w base e c v l)
  (g:Nat) (hx:a.eval x=.slice (some ⟨g,0,none⟩) 1 1) (y:α) (cs:Array Value) (tt:TypeId) (hg:w.heap[g]? =some (.cells cs tt (0,0))) (hy:c.is w cs.toList y) (h1:∀u∈cs.toList,u.oneCell'=true)
  (hlen:(l.length+1)*bytes≤140737488355328) (hm:l.length+1≤maxLen) (hbase:base≤w.heap.size)
  (h:∀v' w',b9 w' base e c v' (l++[y])→w.grownBy w' v.ownBlock→K (a.put o.dst v') w'):if Region.wanted o (yielded ops a.tmps)=true then Oper.wp P o a w K Q else E:=by
 have hw:Region.wanted o (yielded ops a.tmps)=true:=by simp [Region.wanted,hgd]
 rw[aK hw];exact QD w s x t ho e z bytes ht hinfo hzs hsz hf base v l hs hown g hx y cs tt hg hy h1 hlen hm hbase h
theorem lz{ops:Array Oper}{rest:List Oper}{o:Oper}{a:Act}{Q:Exit→Act→World→Prop}(w:World)(hgd:o.guard=none)(s x:Operand)(t:TypeId)
  (ho:o.op=.call {callee:=.builtin .append,args:=#[s,x],argTypes:=#[t,t]}) (ht:Try.prog.underlying t=some (.slice 3))
  (base:Nat) (v:Value) (l:List Int) (hs:a.eval s=v) (hown:b9 w base 3 bu v l)
  (g:Nat) (hx:a.eval x=.slice (some ⟨g,0,none⟩) 1 1) (y:Int) (tt:TypeId) (hg:w.heap[g]? =some (.cells #[.int .i64 y] tt (0,0))) (hy:aZ y)
  (hlen:l.length≤1000000000000) (hbase:base≤w.heap.size)
  (h:∀v' w',b9 w' base 3 bu v' (l++[y])→w.grownBy w' v.ownBlock→wpList Try.prog ops Q rest (a.put o.dst v') w'):wpList Try.prog ops Q (o::rest) a w:=
 W0 (c:=bu) w hgd s x t ho 3 (.int .i64 0) 8 ht (by kernel_rfl) rfl (by decide) NK base v l hs hown g hx y _ tt hg ⟨rfl,hy⟩ (by simp [Value.oneCell']) (by omega) (by unfold maxLen;omega) hbase h
theorem OS{ops:Array Oper}{o:Oper}{a:Act}{K:Act→World→Prop}{Q:Exit→Act→World→Prop}{E:Prop}(w:World)(hgd:o.guard=none)(s x:Operand)(t:TypeId)
  (ho:o.op=.call {callee:=.builtin .append,args:=#[s,x],argTypes:=#[t,t]}) (ht:Try.prog.underlying t=some (.slice 3))
  (base:Nat) (v:Value) (l:List Int) (hs:a.eval s=v) (hown:b9 w base 3 bu v l)
  (g:Nat) (hx:a.eval x=.slice (some ⟨g,0,none⟩) 1 1) (y:Int) (tt:TypeId) (hg:w.heap[g]? =some (.cells #[.int .i64 y] tt (0,0))) (hy:aZ y)
  (hlen:l.length≤1000000000000) (hbase:base≤w.heap.size)
  (h:∀v' w',b9 w' base 3 bu v' (l++[y])→w.grownBy w' v.ownBlock→K (a.put o.dst v') w'):if Region.wanted o (yielded ops a.tmps)=true then Oper.wp Try.prog o a w K Q else E:=
 YV (c:=bu) w hgd s x t ho 3 (.int .i64 0) 8 ht (by kernel_rfl) rfl (by decide) NK base v l hs hown g hx y _ tt hg ⟨rfl,hy⟩ (by simp [Value.oneCell']) (by omega) (by unfold maxLen;omega) hbase h
end
section
open Go.RowKit
def bF(w:World)(v:Value)(n:Nat):Prop:=(ck bu).is w [v] (aP n)
theorem bF.mono{w w':World}{v:Value}{n:Nat}(h:bF w v n)(g:Gr w w'):bF w' v n:=(ck bu).mono h g
def gD(B:Nat):Value→Prop
 |.slice (some a) _ _=>B≤a.block
 |_=>True
theorem b9.fresh{α:Type}{w:World}{base:Nat}{e:TypeId}{c:cA α}{a:Option Addr}{n cap:Nat}{l:List α}(h:b9 w base e c (.slice a n cap) l)(k:Nat):gD base (.slice a k cap):=by
 obtain⟨xs,h1,_⟩:=h;cases a with
 |none=>trivial
 |some a=>exact(h1.lt a.block rfl).1
theorem bF.off{w:World}{v:Value}{n B g i:Nat}{u:Value}(h:bF w v n)(hf:gD B v)(hg:g<B):bF (w.setCell ⟨g,i,none⟩ u) v n:=by
 rcases h with h|⟨b,off,sp,cap,h1,h2,h3,h4⟩
 ·exact .inl h
 ·refine .inr ⟨b,off,sp,cap,h1,h2,h3,λj hj=>?_⟩;obtain⟨h5,cs,h6,h7⟩:=h4 j hj;refine⟨h5,cs,λq hq=>?_,h7⟩
  have hbg:g≠b:=by
   have:v=.slice (some ⟨b,off,sp⟩) (aP n).length cap:=by simpa using h1
   subst this;simp only[gD]at hf;omega
  rw[World.cell?_setCell_far _ _ _ _ (by exact hbg)];exact h6 q hq
def B7(n:Nat)(w:World)(e:Ending)(w':World):Prop:=∃v,e=.returned v∧bF w' v n∧gD w.heap.size v∧Gr w w'
theorem MQ{α:Type}{c:cA α}{w:World}{a:Option Addr}{n cap:Nat}{l:List α}(h:(ck c).is w [.slice a n cap] l)(k:Nat)(hk:k≤l.length):(ck c).is w [.slice a k cap] (l.take k):=by
 rcases h with⟨h1,rfl⟩|⟨b,off,sp,cap',h1,h2,h3,h4⟩
 ·simp at hk;subst hk;simp at h1;obtain⟨rfl,rfl,rfl⟩:=h1;exact .inl ⟨rfl,by simp⟩
 ·simp only[List.cons.injEq,Value.slice.injEq,and_true]at h1;obtain⟨rfl,rfl,rfl⟩:=h1;have hl:(l.take k).length=k:=by simp;omega
  refine .inr ⟨b,off,sp,cap,by rw[hl],by omega,(by rw[hl];exact Nat.le_trans hk h3),λi hi=>?_⟩;obtain⟨h5,cs,h6,h7⟩:=h4 i (by omega);exact⟨h5,cs,h6,by simpa using h7⟩
set_option maxHeartbeats 1000000 in
theorem Eu(l:List Int)(a:Option Addr)(n cap:Nat)(w:World)(hl:(ck bu).is w [.slice a n cap] l)(hd:fQ l):
  Calls Try.prog 118 #[.slice a n cap] w λe w'=>∃k,e=.returned (.slice a k cap)∧bF w (.slice a k cap) (aR l).toNat∧w=w':=by
 obtain⟨a',n',cap',e',HN,hn,hcap⟩:=i7 hl;injection e' with e1 e2 e3
 subst e1;subst e2;subst e3;have HL:=Lib.hid hl;clear hl;have HT:=Lib.hid (YW hd);clear hd
 go_enter Try.func118,Try.ntmps118
 go_wp2
 go_loop [3] (λi=>∃k:Nat,k≤n∧i=.int .i64 k∧Hid (qQ (l.take k)=qQ l)) (λi=>(intOf i).toNat)
 case atStart=>exact⟨n,ay _,rfl,Lib.hid (by rw[HN.out,List.take_length])⟩
 case round=>
  obtain⟨k,hk,rfl,HE⟩:=hrel;cases k with
  |zero=>
   go_wp2
   go_ret
   refine⟨0,rfl,?_,rfl⟩;have h1:=MQ HL.out 0 (gU _);have h2:=HE.out.trans HT.out;rw[List.take_zero]at h1 h2;unfold bF;rw[←h2];exact h1
  |succ k=>
   have iu:k<l.length:=by have:=HN.out;omega
   obtain⟨b,off,rfl,hc,hi⟩:=fT HL.out iu;have hE:=HE.out;rw[List.take_succ_eq_append_getElem iu,WZ]at hE;clear HE;generalize SM:l[k]=x at *
   have HX:=Lib.hid SM;clear SM;by_cases hx:x=0
   ·subst hx;rw[aK rfl]at hE;have HE:=Lib.hid hE;clear hE
    go_wp2
    go_round
    case rel=>exact⟨k,by omega,by first|rfl|(simp;done),HE⟩
    case measure=>simp [intOf]<;>omega
   ·have hx':(x==0)=false:=by simpa using hx
    rw[aI hx]at hE;have HE:=Lib.hid hE;clear hE
    go_wp2
    go_ret
    refine⟨k+1,rfl,?_,rfl⟩;have h1:=MQ HL.out (k+1) iu;have h2:=HE.out.trans HT.out;unfold bF;rw[←h2,←HX.out,←List.take_succ_eq_append_getElem iu];exact h1
set_option maxHeartbeats 1000000 in
theorem zJ(n:Nat)(w:World)(hn:n≤9223372036854775807):
  Calls Try.prog 100 #[.int .i64 n] w (B7 n w):=by
 have hown:b9 w w.heap.size 3 bu (.slice none 0 0) []:=b9.nil _ _ _ _;have HL:Hid ((aP n).length≤3):=Lib.hid (Iz (by omega))
 go_enter Try.func100,Try.ntmps100
 go_wp2
 go_loopw [0,3] (λx v wr=>∃(m:Nat)(l:List Int),m≤n∧x=.int .i64 m∧b9 wr w.heap.size 3 bu v l∧Hid (l++aP m=aP n)∧Gr w wr) (λx _ _=>(intOf x).toNat)
 case atStart=>exact⟨n,[],ay _,rfl,hown,Lib.hid rfl,Gr.refl _⟩
 case round=>
  clear hown;obtain⟨m,l,hm,rfl,hown,HE,hG⟩:=hrel;by_cases h0:0<m
  ·have FL:l.length≤3:=by have h1:=congrArg List.length HE.out;have h2:=HL.out;simp at h1;omega
   have hsz:=hG.size;have ij:Hid (l++[((m % 1000000000:Nat):Int)]++aP (m / 1000000000)=aP n):=Lib.hid (by rw[←HE.out,qK h0];simp);clear HE;obtain⟨va,vn,vc,rfl,AD,h7,h8⟩:=hown.shape
   go_wp2_with (at_builtin;refine lz _ rfl _ _ 130 rfl Try.underlying130 w.heap.size _ l rfl (hown.alloc _) _ rfl _ _ (dJ _ _) (by unfold aZ;omega) (by omega) (by simp;omega) ?_;intro v' w' dZ eu)
   go_roundw
   case rel=>exact⟨m / 1000000000,_,by omega,by go_num,dZ,ij,b9.gr (hown.alloc _) (hG.alloc _) (ay _) eu⟩
   case measure=>simp [intOf];omega
  ·go_wp2
   go_ret
   obtain rfl:m=0:=by omega
   have e:=HE.out;rw[mC,List.append_nil]at e;subst e;obtain⟨va,vn,vc,rfl,-,-,-⟩:=hown.shape;exact⟨_,rfl,hown.is,hown.fresh _,hG⟩
set_option maxHeartbeats 2000000 in
theorem YH(x y:Nat)(vx vy:Value)(w:World)(hx:bF w vx x)(hy:bF w vy y)(hxl:(aP x).length≤1000000)(C2:(aP y).length≤1000000):
  Calls Try.prog 111 #[vx,vy] w (B7 (x+y) w):=by
 obtain⟨a,n,cap,rfl,HN,hn,hcap⟩:=i7 hx;obtain⟨b,m,KK,rfl,HM,hm,JW⟩:=i7 hy;have HX:=Lib.hid hx;have HY:=Lib.hid hy;clear hx hy;have AL:n≤1000000:=by rw[HN.out];exact hxl
 have hm6:m≤1000000:=by rw[HM.out];exact C2
 clear hxl C2;have HS:Hid (aR (aP x)+aR (aP y)=((x+y:Nat):Int)):=Lib.hid (by rw[oJ,oJ];omega);have th:=Lib.hid (oK x);have Az:=Lib.hid (oK y);have hown:b9 w w.heap.size 3 bu (.slice none 0 0) []:=b9.nil _ _ _ _
 go_enter Try.func111,Try.ntmps111
 go_wp2
 go_loopw [5,6,7] (λv cr i wr=>∃(k:Nat)(c:Int)(l:List Int),i=.int .i64 k∧cr=.int .i64 c∧0≤c∧c≤1∧(k≤max n m∨c=0∧k≤max n m+1)∧Hid (l.length=k)∧Hid (fQ l)∧b9 wr w.heap.size 3 bu v l∧
  Hid (aR l+1000000000 ^ k*(c+aR ((aP x).drop k)+aR ((aP y).drop k))=((x+y:Nat):Int))∧Gr w wr) (λ_ _ i _=>max n m+1-(intOf i).toNat)
 case atStart=>exact⟨0,0,[],rfl,rfl,by omega,by omega,.inl (gU _),Lib.hid rfl,Lib.hid qL,hown,Lib.hid (by rw[←HS.out];simp [aR]),Gr.refl _⟩
 case round=>
  clear hown;obtain⟨k,c,l,rfl,rfl,hc0,hc1,hkm,HK,gG,hown,HE,hG⟩:=hrel;by_cases hgo:k<max n m∨0<c
  ·have hkk:k≤max n m:=by omega
   have hsz:=hG.size;obtain⟨va,vn,vc,rfl,AD,h7,h8⟩:=hown.shape;have tv:=tP th.out k;have FJ:=tP Az.out k
   have R3:Hid (k<n→∃(b off:Nat),a=some ⟨b,off,none⟩∧w.cell? ⟨b,off+k,none⟩=some (.int .i64 ((aP x).getD k 0))):=Lib.hid λh=>by obtain⟨b,off,e,h1,_⟩:=fT HX.out (k:=k) (by have:=HN.out;omega);exact⟨b,off,e,by rw[h1,iO]⟩
   have AB:Hid (k<m→∃(b' off:Nat),b=some ⟨b',off,none⟩∧w.cell? ⟨b',off+k,none⟩=some (.int .i64 ((aP y).getD k 0))):=Lib.hid λh=>by obtain⟨b,off,e,h1,_⟩:=fT HY.out (k:=k) (by have:=HM.out;omega);exact⟨b,off,e,by rw[h1,iO]⟩
   have RZ:Hid (¬k<n→(aP x).getD k 0=0):=Lib.hid λh=>Bp (by have:=HN.out;omega)
   have AA:Hid (¬k<m→(aP y).getD k 0=0):=Lib.hid λh=>Bp (by have:=HM.out;omega)
   have ij:Hid (aR (l++[(c+(aP x).getD k 0+(aP y).getD k 0) % 1000000000])+1000000000 ^ (k+1)*((c+(aP x).getD k 0+(aP y).getD k 0) / 1000000000+aR ((aP x).drop (k+1))+aR ((aP y).drop (k+1)))=((x+y:Nat):Int)):=Lib.hid (by
    have h1:=HE.out;rw[vC (aP x) k,vC (aP y) k,←HK.out]at h1;have h2:=XN l _ _ _ _ _ _ h1;rw[HK.out]at h2
    exact h2)
   clear HE;generalize (aP x).getD k 0=dx at *
   generalize (aP y).getD k 0=dy at *
   by_cases h1:k<n<;>by_cases h2:k<m
   ·obtain⟨B1,o1,rfl,c1⟩:=R3.out h1;replace c1:=hG.cell c1;obtain⟨B2,o2,rfl,c2⟩:=AB.out h2;replace c2:=hG.cell c2;have hz:k<max n m:=by omega
    go_wp2_with (at_builtin;refine lz _ rfl _ _ 130 rfl Try.underlying130 w.heap.size _ l rfl (hown.alloc _) _ rfl _ _ (dJ _ _) (by unfold aZ;omega) (by have:=HK.out;omega) (by simp;omega) ?_;intro v' w' dZ eu)
    all_goals
     go_roundw
     case rel=>exact⟨k+1,(c+dx+dy) / 1000000000,_,by go_num,by first|rfl|go_num,by omega,by omega,by omega,Lib.hid (by simp [HK.out]),Lib.hid (vA.2 ⟨gG.out,pZ.2 ⟨by omega,qL⟩⟩),dZ,ij,b9.gr (hown.alloc _) (hG.alloc _) (ay _) eu⟩
     case measure=>simp [intOf];omega
   ·obtain⟨B1,o1,rfl,c1⟩:=R3.out h1;replace c1:=hG.cell c1;obtain rfl:=AA.out h2;simp only[Int.add_zero]at ij;have hz:k<max n m:=by omega
    go_wp2_with (at_builtin;refine lz _ rfl _ _ 130 rfl Try.underlying130 w.heap.size _ l rfl (hown.alloc _) _ rfl _ _ (dJ _ _) (by unfold aZ;omega) (by have:=HK.out;omega) (by simp;omega) ?_;intro v' w' dZ eu)
    all_goals
     go_roundw
     case rel=>exact⟨k+1,(c+dx) / 1000000000,_,by go_num,by first|rfl|go_num,by omega,by omega,by omega,Lib.hid (by simp [HK.out]),Lib.hid (vA.2 ⟨gG.out,pZ.2 ⟨by omega,qL⟩⟩),dZ,ij,b9.gr (hown.alloc _) (hG.alloc _) (ay _) eu⟩
     case measure=>simp [intOf];omega
   ·obtain rfl:=RZ.out h1;simp only[Int.add_zero]at ij;obtain⟨B2,o2,rfl,c2⟩:=AB.out h2;replace c2:=hG.cell c2;have hz:k<max n m:=by omega
    go_wp2_with (at_builtin;refine lz _ rfl _ _ 130 rfl Try.underlying130 w.heap.size _ l rfl (hown.alloc _) _ rfl _ _ (dJ _ _) (by unfold aZ;omega) (by have:=HK.out;omega) (by simp;omega) ?_;intro v' w' dZ eu)
    all_goals
     go_roundw
     case rel=>exact⟨k+1,(c+dy) / 1000000000,_,by go_num,by first|rfl|go_num,by omega,by omega,by omega,Lib.hid (by simp [HK.out]),Lib.hid (vA.2 ⟨gG.out,pZ.2 ⟨by omega,qL⟩⟩),dZ,ij,b9.gr (hown.alloc _) (hG.alloc _) (ay _) eu⟩
     case measure=>simp [intOf];omega
   ·obtain rfl:=RZ.out h1;simp only[Int.add_zero]at ij;obtain rfl:=AA.out h2;simp only[Int.add_zero]at ij;have hz:decide (k<max n m)=false:=by simp;omega
    have kV:0<c:=by omega
    go_wp2_with (at_builtin;refine lz _ rfl _ _ 130 rfl Try.underlying130 w.heap.size _ l rfl (hown.alloc _) _ rfl _ _ (dJ _ _) (by unfold aZ;omega) (by have:=HK.out;omega) (by simp;omega) ?_;intro v' w' dZ eu)
    all_goals
     go_roundw
     case rel=>exact⟨k+1,(c) / 1000000000,_,by go_num,by first|rfl|go_num,by omega,by omega,by omega,Lib.hid (by simp [HK.out]),Lib.hid (vA.2 ⟨gG.out,pZ.2 ⟨by omega,qL⟩⟩),dZ,ij,b9.gr (hown.alloc _) (hG.alloc _) (ay _) eu⟩
     case measure=>simp [intOf];omega
  ·have hk2:max n m≤k:=by omega
   obtain rfl:c=0:=by omega
   obtain⟨va,vn,vc,rfl,-,-,-⟩:=hown.shape;have uF:=Lib.hid hown.is;have hz:decide (k<max n m)=false:=by simp;omega
   go_wp2_with (go_at_call 118;refine(Eu _ _ _ _ _ uF.out gG.out).mono ?_;rintro e w' ⟨kt,rfl,hnt,rfl⟩)
   all_goals
    go_ret
    refine⟨_,rfl,?_,hown.fresh _,hG⟩;have h1:=HE.out;rw[List.drop_eq_nil_of_le (by have:=HN.out;omega),List.drop_eq_nil_of_le (by have:=HM.out;omega)]at h1;simp only[aR,Int.add_zero,Int.mul_zero]at h1;rw[h1,Int.toNat_natCast]at hnt;exact hnt
def mK(w:World)(g:Nat)(l:List Int):Prop:=w.rowIs g 3 l.length (λj=>.int .i64 (l.getD j 0))
theorem mK.set{w:World}{g:Nat}{l:List Int}(h:mK w g l)(j:Nat)(d:Int)(hj:j<l.length):mK (w.setCell ⟨g,j,none⟩ (.int .i64 d)) g (l.set j d):=by
 have h1:=World.rowIs.set h j (.int .i64 d);unfold mK;rw[List.length_set];refine h1.congr λi hi=>?_
 by_cases e:i=j
 ·subst e;simp [List.getD,lZ hi]
 ·rw[aI e];simp [List.getD,List.getElem?_set_ne (λh=>e h.symm)]
theorem mK.is{w:World}{g:Nat}{l:List Int}(h:mK w g l)(hd:fQ l)(hl:l.length≤maxLen):(ck bu).is w [.slice (some ⟨g,0,none⟩) l.length l.length] l:=by
 refine .inr ⟨g,0,none,l.length,rfl,ay _,hl,λi hi=>⟨rfl,[.int .i64 l[i]],λj hj=>?_,rfl,?_⟩⟩
 ·have hj0:j=0:=by simp [bu]at hj;exact hj
  subst hj0;have:=World.rowIs.cell h hi;simp only[bu,Nat.mul_one,Nat.add_zero,Nat.zero_add,List.getElem?_cons_zero];rw[this,iO hi]
 ·have:=hd _ (List.getElem_mem hi);omega
theorem mK.made(w:World)(n:Nat):mK (w.alloc (.cells (madeCells #[.int .i64 0] n) 3)) w.heap.size (List.replicate n 0):=by have h:=World.rowIs_made w (.int .i64 0) n 3;unfold mK;rw[List.length_replicate];exact h.congr λi hi=>by simp [List.getD,List.getElem?_replicate,hi]
theorem NR(n:Nat):fQ (List.replicate n 0):=λx hx=>by rw[List.eq_of_mem_replicate hx];omega
theorem Wo(n:Nat):aR (List.replicate n 0)=0:=by
 induction n with
 |zero=>rfl
 |succ n ih=>simp [List.replicate_succ,aR,ih]
theorem Qj(n:Nat)(hn:n≤10000000)(w:World):(Instr.makeSlice 130 (.int .i64 (n:Int)) (.int .i64 (n:Int))).run Try.prog w=.ok (.slice (some ⟨w.heap.size,0,none⟩) n n) (w.alloc (.cells (madeCells #[.int .i64 0] n) 3)):=
 run_make_row' 130 3 (.int .i64 0) 8 Try.underlying130 (by kernel_rfl) rfl .i64 .i64 n (by omega) (by omega) w
end
section
open Go.RowKit
set_option maxHeartbeats 4000000 in
set_option maxRecDepth 100000 in
theorem qF(x y:Nat)(vx vy:Value)(w:World)(hx:bF w vx x)(hy:bF w vy y)(hxl:(aP x).length≤1000000)(C2:(aP y).length≤1000000):
  Calls Try.prog 110 #[vx,vy] w (B7 (x*y) w):=by
 obtain⟨a,n,cap,rfl,HN,hn,hcap⟩:=i7 hx;obtain⟨b,m,KK,rfl,HM,hm,JW⟩:=i7 hy;have HX:=Lib.hid hx;have HY:=Lib.hid hy;clear hx hy;have AL:n≤1000000:=by rw[HN.out];exact hxl
 have hm6:m≤1000000:=by rw[HM.out];exact C2
 clear hxl C2;have th:=Lib.hid (oK x);have Az:=Lib.hid (oK y);have hmk:∀W:World,(Instr.makeSlice 130 (.int .i64 ((n:Int)+(m:Int)+1)) (.int .i64 ((n:Int)+(m:Int)+1))).run Try.prog W=.ok (.slice (some ⟨W.heap.size,0,none⟩) (n+m+1) (n+m+1)) (W.alloc (.cells (madeCells #[.int .i64 0] (n+m+1)) 3)):=λW=>by rw[show((n:Int)+(m:Int)+1)=((n+m+1:Nat):Int) by omega];exact Qj _ (by omega) W
 go_enter Try.func110,Try.ntmps110
 go_wp2
 have hrow:=mK.made w (n+m+1);have g0:Gr w (w.alloc (.cells (madeCells #[.int .i64 0] (n+m+1)) 3)):=(by repeat (first|exact Gr.refl _|assumption|refine Gr.alloc ?_ _|refine Gr.drew ?_|refine Gr.drewN ?_ _|(refine Gr.put ?_ ?_ _;first|exact ay _|(simp;done)|omega)|(apply Gr.after;assumption)))
 generalize hW:w.alloc (.cells (madeCells #[.int .i64 0] (n+m+1)) 3)=W at *
 have hg:w.heap.size≤w.heap.size:=ay _;generalize uS:w.heap.size=g at hrow hg ⊢;clear hW hmk;have HG:=Lib.hid uS;clear uS
 go_loopw [19] (λi wr=>∃(k:Nat)(out:List Int),k≤n∧i=.int .i64 k∧out.length=n+m+1∧Hid (fQ out)∧mK wr g out∧Hid (aR out=aR ((aP x).take k)*aR (aP y))∧Gr w wr) (λi _=>n-(intOf i).toNat)
 case atStart=>exact⟨0,_,gU _,rfl,by simp,Lib.hid (NR _),hrow,Lib.hid (by rw[Wo];simp [aR]),g0⟩
 case round=>
  clear hrow;obtain⟨i,out,hi,rfl,hlen,gG,hrow,HE,hG⟩:=hrel;by_cases hlt:i<n
  ·obtain⟨B1,o1,rfl,c1,-⟩:=fT HX.out (k:=i) (by have:=HN.out;omega);rw[iO]at c1;have c1w:=c1;replace c1:=hG.cell c1;have tv:=tP th.out i;generalize Rr:(aP x).getD i 0=dx at *
   have HDX:=Lib.hid Rr;clear Rr
   go_wp2
   obtain⟨wo,rfl⟩:∃wo:World,wo=wr:=⟨_,rfl⟩
   go_loopw [7,8] (λcr kk wr=>∃(k:Nat)(c:Int)(out:List Int),kk=.int .i64 k∧cr=.int .i64 c∧0≤c∧c<1000000000∧(k≤m∨c=0∧k≤m+1)∧out.length=n+m+1∧Hid (fQ out)∧mK wr g out∧
    Hid (aR out+c*1000000000 ^ (i+k)=aR ((aP x).take i)*aR (aP y)+dx*1000000000 ^ i*aR ((aP y).take k))∧Gr w wr) (λ_ kk _=>m+1-(intOf kk).toNat)
   case atStart=>exact⟨0,0,out,rfl,rfl,by omega,by omega,.inl (gU _),hlen,gG,hrow,Lib.hid (by rw[HE.out];simp [aR]),hG⟩
   case round=>
    clear hrow HE gG c1 hG hlen;obtain⟨k,c,out,rfl,rfl,hc0,hc1,hkm,hlen,gG,hrow,HE,hG⟩:=hrel;have c1:=hG.cell c1w;by_cases hgo:k<m∨0<c
    ·have hkk:k≤m:=by omega
     have hdo:=tP gG.out (i+k);have FJ:=tP Az.out k;have HR:=Lib.hid hrow;have r1:=World.rowIs.cell hrow (i:=i+k) (by omega);have r2:=World.rowIs.frozen hrow (i+k);have ij:=Lib.hid (WY out (aP x) (aP y) i k c dx (by omega) HE.out)
     have AB:Hid (k<m→∃(b' off:Nat),b=some ⟨b',off,none⟩∧w.cell? ⟨b',off+k,none⟩=some (.int .i64 ((aP y).getD k 0))):=Lib.hid λh=>by obtain⟨b,off,e,h1,_⟩:=fT HY.out (k:=k) (by have:=HM.out;omega);exact⟨b,off,e,by rw[h1,iO]⟩
     have AA:Hid (¬k<m→(aP y).getD k 0=0):=Lib.hid λh=>Bp (by have:=HM.out;omega)
     clear HE hrow
     have HLT:Hid (k=m→∀(out':List Int)(c':Int),fQ out'→0≤c'→aR out'+c'*1000000000 ^ (i+(k+1))=aR ((aP x).take i)*aR (aP y)+dx*1000000000 ^ i*aR ((aP y).take (k+1))→c'=0):=Lib.hid λace out' c' h1 h2 h3=>by subst ace;rw[HM.out]at h3;exact Wd out' (aP x) (aP y) i c' dx h1 th.out Az.out (by have:=HN.out;omega) tv h2 h3
     have adu:0≤dx*(aP y).getD k 0:=Int.mul_nonneg tv.1 FJ.1;have adv:dx*(aP y).getD k 0≤999999999*999999999:=Int.mul_le_mul (by omega) (by omega) FJ.1 (by omega);generalize CT:out.getD (i+k) 0=o at *
     have HOO:=Lib.hid CT;clear CT;generalize (aP y).getD k 0=dy at *
     by_cases h2:k<m
     ·obtain⟨B2,o2,rfl,c2⟩:=AB.out h2;replace c2:=hG.cell c2;have hw1:IntKind.i64.wrap (dx*dy)=dx*dy:=sD (by omega);have FN:IntKind.i64.wrap (o+c+dx*dy)=o+c+dx*dy:=sD (by omega)
      go_wp2
      go_quiet (fail)
      go_wp2
      go_roundw
      case rel=>
       have SL:=HG.out;have Jy:=(HR.out).set (i+k) ((o+c+dx*dy) % 1000000000) (by omega)
       have Fc:=I5 gG.out (i+k) ((o+c+dx*dy) % 1000000000) (by omega);exact⟨k+1,(o+c+dx*dy) / 1000000000,_,by go_num,by first|rfl|go_num,by omega,by omega,.inl (by omega),by simp [hlen],Lib.hid Fc,Jy,ij,(hG.drewN _).put (by omega) _⟩
      case measure=>simp [intOf]<;>omega
     ·obtain rfl:=AA.out h2;obtain rfl:k=m:=by omega
      have nG:0<c:=by omega
      simp only[Int.mul_zero,Int.add_zero]at ij;have Fc:=I5 gG.out (i+k) ((o+c) % 1000000000) (by omega);have hcz:(o+c) / 1000000000=0:=HLT.out rfl _ _ Fc (by omega) ij.out;have HCZ:=Lib.hid hcz;clear hcz
      go_wp2
      go_roundw
      case rel=>
       have SL:=HG.out;have Jy:=(HR.out).set (i+k) ((o+c) % 1000000000) (by omega)
       exact⟨k+1,(o+c) / 1000000000,_,by go_num,by first|rfl|go_num,by omega,by omega,.inr ⟨HCZ.out,ay _⟩,by simp [hlen],Lib.hid Fc,Jy,ij,hG.put (by omega) _⟩
      case measure=>simp [intOf]<;>omega
    ·obtain rfl:c=0:=by omega
     go_wp2
     go_roundw
     case rel=>exact⟨i+1,out,by omega,by go_num,hlen,gG,hrow,Lib.hid (X3 out (aP x) (aP y) i k dx HDX.out.symm (by have:=HM.out;omega) HE.out),hG⟩
     case measure=>simp [intOf]<;>omega
  ·have uF:=Lib.hid (mK.is hrow gG.out (by unfold maxLen;omega));rw[hlen]at uF
   go_wp2_with (go_at_call 118;refine(Eu _ _ _ _ _ uF.out gG.out).mono ?_;rintro e w' ⟨kt,rfl,hnt,rfl⟩)
   go_ret
   refine⟨.slice (some ⟨g,0,none⟩) kt (n+m+1),rfl,?_,Nat.le_of_eq HG.out,hG⟩;have h1:=HE.out;rw[fF (by have:=HN.out;omega),oJ,oJ]at h1;rw[h1,←Int.natCast_mul,Int.toNat_natCast]at hnt;exact hnt
end
section
open Go.RowKit
def l9(x y:Nat):Int:=if x<y then -1 else if x=y then 0 else 1
set_option maxHeartbeats 2000000 in
theorem Bw(x y:Nat)(vx vy:Value)(w:World)(hx:bF w vx x)(hy:bF w vy y):
  Calls Try.prog 113 #[vx,vy] w λe w'=>e=.returned (.int .i64 (l9 x y))∧∃k,w'=w.drewN k:=by
 obtain⟨a,n,cap,rfl,HN,hn,hcap⟩:=i7 hx;obtain⟨b,m,KK,rfl,HM,hm,JW⟩:=i7 hy;have HX:=Lib.hid hx;have HY:=Lib.hid hy;clear hx hy;by_cases hnm:n=m
 ·subst hnm;have h0:((n:Int)!=(n:Int))=false:=by simp
  go_enter Try.func113,Try.ntmps113
  go_wp2
  go_loopw [5] (λi wr=>∃k:Nat,k≤n∧i=.int .i64 ((k:Int) -1)∧Hid ((aP x).drop k=(aP y).drop k)∧∃q,wr=w.drewN q) (λi _=>(intOf i+1).toNat)
  case atStart=>exact⟨n,ay _,rfl,Lib.hid (by rw[List.drop_eq_nil_of_le (by have:=HN.out;omega),List.drop_eq_nil_of_le (by have:=HM.out;omega)]),0,rfl⟩
  case round=>
   obtain⟨k,hk,rfl,HE,q,rfl⟩:=hrel;cases k with
   |zero=>
    go_wp2
    go_ret
    have e:=UN HE.out;exact⟨nO (by simp [l9,e]),_,rfl⟩
   |succ k=>
    obtain⟨B1,o1,rfl,c1,-⟩:=fT HX.out (k:=k) (by have:=HN.out;omega);obtain⟨B2,o2,rfl,c2,-⟩:=fT HY.out (k:=k) (by have:=HM.out;omega);rw[iO]at c1 c2;have Fq:Hid (k<(aP x).length):=Lib.hid (by have:=HN.out;omega);have Ft:Hid (k<(aP y).length):=Lib.hid (by have:=HM.out;omega);have qt:Hid ((aP x).getD k 0<(aP y).getD k 0→x<y):=Lib.hid λh=>Mr k Fq.out Ft.out HE.out h
    have qu:Hid ((aP y).getD k 0<(aP x).getD k 0→y<x):=Lib.hid λh=>Mr k Ft.out Fq.out HE.out.symm h
    have HD3:Hid ((aP x).getD k 0=(aP y).getD k 0→(aP x).drop k=(aP y).drop k):=Lib.hid λh=>by rw[List.drop_eq_getElem_cons Fq.out,List.drop_eq_getElem_cons Ft.out,HE.out,iO Fq.out,iO Ft.out,h]
    generalize (aP x).getD k 0=dx at *
    generalize (aP y).getD k 0=dy at *
    have SN:(0:Int)≤(k:Int):=by omega
    have hi1:(k:Int)<(n:Int):=by omega
    have hi2:k<n:=by omega
    have hs:((k+1:Nat):Int) -1=(k:Int):=by omega
    rw[hs];clear hs;by_cases h1:dx=dy
    ·subst h1;have h1':(dx !=dx)=false:=by simp
     go_wp2
     go_quiet (fail)
     go_wp2
     go_roundw
     case rel=>exact⟨k,by omega,by first|rfl|go_num,Lib.hid (HD3.out (by trivial)),_,by first|rfl|(simp only[World.drewN_drewN];rfl)⟩
     case measure=>simp [intOf]<;>omega
    ·have h1':(dx !=dy)=true:=by simpa using h1
     by_cases h2:dx<dy
     ·go_wp2
      go_quiet (fail)
      go_wp2
      go_quiet (fail)
      go_wp2
      go_ret
      have:=qt.out h2;exact⟨nO (by simp [l9,this]),_,by first|rfl|(simp only[World.drewN_drewN];rfl)⟩
     ·have h2':decide (dx<dy)=false:=by simpa using h2
      go_wp2
      go_quiet (fail)
      go_wp2
      go_quiet (fail)
      go_wp2
      go_ret
      have:=qu.out (by omega);exact⟨nO (by rw[l9,aI (by omega),aI (by omega)]),_,by first|rfl|(simp only[World.drewN_drewN];rfl)⟩
 ·have h0:((n:Int)!=(m:Int))=true:=by simp;omega
  by_cases h1:n<m
  ·have:=Hz (x:=x) (y:=y) (by rw[←HN.out,←HM.out];exact h1);have HR:Hid (l9 x y=-1):=Lib.hid (by simp [l9,this]);clear this
   go_enter Try.func113,Try.ntmps113
   go_wp2
   go_ret
   exact⟨nO HR.out.symm,0,rfl⟩
  ·have:=Hz (x:=y) (y:=x) (by rw[←HN.out,←HM.out];omega);have HR:Hid (l9 x y=1):=Lib.hid (by rw[l9,aI (by omega),aI (by omega)]);clear this
   go_enter Try.func113,Try.ntmps113
   go_wp2
   go_ret
   exact⟨nO HR.out.symm,0,rfl⟩
set_option maxHeartbeats 2000000 in
theorem NP(x y:Nat)(vx vy:Value)(w:World)(hx:bF w vx x)(hy:bF w vy y)(hxl:(aP x).length≤1000000)(hyx:y≤x):
  Calls Try.prog 114 #[vx,vy] w (B7 (x-y) w):=by
 obtain⟨a,n,cap,rfl,HN,hn,hcap⟩:=i7 hx;obtain⟨b,m,KK,rfl,HM,hm,JW⟩:=i7 hy;have HX:=Lib.hid hx;have HY:=Lib.hid hy;clear hx hy;have AL:n≤1000000:=by rw[HN.out];exact hxl
 have hmn:m≤n:=by
  rcases Nat.lt_or_ge n m with h|h
  ·have:=Hz (x:=x) (y:=y) (by rw[←HN.out,←HM.out];exact h);omega
  ·exact h
 clear hxl;have th:=Lib.hid (oK x);have Az:=Lib.hid (oK y);have hown:b9 w w.heap.size 3 bu (.slice none 0 0) []:=b9.nil _ _ _ _
 go_enter Try.func114,Try.ntmps114
 go_wp2
 go_loopw [5,6,11] (λv cr i wr=>∃(k:Nat)(c:Int)(l:List Int),i=.int .i64 k∧cr=.int .i64 c∧(c=0∨c=1)∧k≤n∧Hid (l.length=k)∧Hid (fQ l)∧b9 wr w.heap.size 3 bu v l∧
  Hid (aR l+1000000000 ^ k*(aR ((aP x).drop k) -aR ((aP y).drop k) -c)=(x:Int) -(y:Int))∧Gr w wr) (λ_ _ i _=>n-(intOf i).toNat)
 case atStart=>exact⟨0,0,[],rfl,rfl,.inl rfl,gU _,Lib.hid rfl,Lib.hid qL,hown,Lib.hid (by simp [aR,oJ]),Gr.refl _⟩
 case round=>
  clear hown;obtain⟨k,c,l,rfl,rfl,ab3,hkm,HK,gG,hown,HE,hG⟩:=hrel;have hc0:0≤c:=by omega
  have hc1:c≤1:=by omega
  by_cases hgo:k<n
  ·have hsz:=hG.size;obtain⟨va,vn,vc,rfl,AD,h7,h8⟩:=hown.shape;have tv:=tP th.out k;have FJ:=tP Az.out k;obtain⟨B1,o1,rfl,c1,-⟩:=fT HX.out (k:=k) (by have:=HN.out;omega);rw[iO]at c1;replace c1:=hG.cell c1
   have AB:Hid (k<m→∃(b' off:Nat),b=some ⟨b',off,none⟩∧w.cell? ⟨b',off+k,none⟩=some (.int .i64 ((aP y).getD k 0))):=Lib.hid λh=>by obtain⟨b,off,e,h1,_⟩:=fT HY.out (k:=k) (by have:=HM.out;omega);exact⟨b,off,e,by rw[h1,iO]⟩
   have AA:Hid (¬k<m→(aP y).getD k 0=0):=Lib.hid λh=>Bp (by have:=HM.out;omega)
   have ij:Hid (∀d c',d=(aP x).getD k 0-c-(aP y).getD k 0+1000000000*c'→aR (l++[d])+1000000000 ^ (k+1)*(aR ((aP x).drop (k+1)) -aR ((aP y).drop (k+1)) -c')=(x:Int) -(y:Int)):=Lib.hid (λd c' hd=>by
    have h1:=HE.out;have hk:=HK.out;subst hk;rw[vC (aP x),vC (aP y)]at h1
    exact WA l _ _ _ _ _ _ d c' hd h1)
   clear HE;generalize (aP x).getD k 0=dx at *
   generalize (aP y).getD k 0=dy at *
   by_cases h2:k<m
   ·obtain⟨B2,o2,rfl,c2⟩:=AB.out h2;replace c2:=hG.cell c2;by_cases hneg:dx-c-dy<0
    ·go_wp2_with (first|(at_builtin;refine lz _ rfl _ _ 130 rfl Try.underlying130 w.heap.size _ l rfl (hown.alloc _) _ rfl _ _ (dJ _ _) (by unfold aZ;omega) (by have:=HK.out;omega) (by simp;omega) ?_;intro v' w' dZ eu))
     go_roundw
     case rel=>exact⟨k+1,1,_,by go_num,rfl,.inr rfl,by omega,Lib.hid (by simp [HK.out]),Lib.hid (vA.2 ⟨gG.out,pZ.2 ⟨by omega,qL⟩⟩),dZ,Lib.hid (ij.out _ _ (by omega)),b9.gr (hown.alloc _) (hG.alloc _) (ay _) eu⟩
     case measure=>simp [intOf]<;>omega
    ·go_wp2_with (first|(at_builtin;refine lz _ rfl _ _ 130 rfl Try.underlying130 w.heap.size _ l rfl (hown.alloc _) _ rfl _ _ (dJ _ _) (by unfold aZ;omega) (by have:=HK.out;omega) (by simp;omega) ?_;intro v' w' dZ eu))
     go_roundw
     case rel=>exact⟨k+1,0,_,by go_num,rfl,.inl rfl,by omega,Lib.hid (by simp [HK.out]),Lib.hid (vA.2 ⟨gG.out,pZ.2 ⟨by omega,qL⟩⟩),dZ,Lib.hid (ij.out _ _ (by omega)),b9.gr (hown.alloc _) (hG.alloc _) (ay _) eu⟩
     case measure=>simp [intOf]<;>omega
   ·obtain rfl:=AA.out h2;by_cases hneg:dx-c<0
    ·go_wp2_with (first|(at_builtin;refine lz _ rfl _ _ 130 rfl Try.underlying130 w.heap.size _ l rfl (hown.alloc _) _ rfl _ _ (dJ _ _) (by unfold aZ;omega) (by have:=HK.out;omega) (by simp;omega) ?_;intro v' w' dZ eu))
     go_roundw
     case rel=>exact⟨k+1,1,_,by go_num,rfl,.inr rfl,by omega,Lib.hid (by simp [HK.out]),Lib.hid (vA.2 ⟨gG.out,pZ.2 ⟨by omega,qL⟩⟩),dZ,Lib.hid (ij.out _ _ (by omega)),b9.gr (hown.alloc _) (hG.alloc _) (ay _) eu⟩
     case measure=>simp [intOf]<;>omega
    ·go_wp2_with (first|(at_builtin;refine lz _ rfl _ _ 130 rfl Try.underlying130 w.heap.size _ l rfl (hown.alloc _) _ rfl _ _ (dJ _ _) (by unfold aZ;omega) (by have:=HK.out;omega) (by simp;omega) ?_;intro v' w' dZ eu))
     go_roundw
     case rel=>exact⟨k+1,0,_,by go_num,rfl,.inl rfl,by omega,Lib.hid (by simp [HK.out]),Lib.hid (vA.2 ⟨gG.out,pZ.2 ⟨by omega,qL⟩⟩),dZ,Lib.hid (ij.out _ _ (by omega)),b9.gr (hown.alloc _) (hG.alloc _) (ay _) eu⟩
     case measure=>simp [intOf]<;>omega
  ·obtain⟨va,vn,vc,rfl,-,-,-⟩:=hown.shape;have uF:=Lib.hid hown.is
   go_wp2_with (go_at_call 118;refine(Eu _ _ _ _ _ uF.out gG.out).mono ?_;rintro e w' ⟨kt,rfl,hnt,rfl⟩)
   go_ret
   refine⟨_,rfl,?_,hown.fresh _,hG⟩;have h1:=HE.out;rw[List.drop_eq_nil_of_le (by have:=HN.out;omega),List.drop_eq_nil_of_le (by have:=HM.out;omega),←HK.out]at h1;have h2:=XH gG.out c _ (by omega) ab3 h1;rw[h2,show((x:Int) -(y:Int)).toNat=x-y by omega]at hnt;exact hnt
end
section
open Go.RowKit
theorem XZ{X out:List Int}{x:Nat}{n rest:Int}(hX:aR X=x)(hn:0<n)(FM:0≤rest)(fP:rest<n)(ho:fQ out)(h:aR (out.drop 0)*n+rest=aR (X.drop 0)):
  (aR out).toNat=x / n.toNat∧rest=((x % n.toNat:Nat):Int):=by
 simp only[List.drop_zero,hX]at h;have h1:=vw ho;obtain⟨m,rfl⟩:∃m:Nat,n=m:=⟨n.toNat,by omega⟩
 obtain⟨r,rfl⟩:∃m:Nat,rest=m:=⟨rest.toNat,by omega⟩
 obtain⟨q,hq⟩:∃m:Nat,aR out=m:=⟨(aR out).toNat,by omega⟩
 rw[hq]at h ⊢;have h2:q*m+r=x:=by exact_mod_cast h
 simp only[Int.toNat_natCast];have hm:0<m:=by omega
 have SY:r<m:=by omega
 subst h2;constructor
 ·rw[Nat.mul_comm,Nat.mul_add_div hm,Nat.div_eq_of_lt SY];omega
 ·rw[Nat.mul_comm,Nat.mul_add_mod,Nat.mod_eq_of_lt SY]
set_option maxHeartbeats 2000000 in
set_option maxRecDepth 100000 in
theorem XY(x:Nat)(n:Int)(vx:Value)(w:World)(hx:bF w vx x)(hxl:(aP x).length≤1000000)(hn0:0<n)(hn1:n≤1000000000):
  Calls Try.prog 124 #[vx,.int .i64 n] w λe w'=>∃v,e=.returned (.tuple #[v,.int .i64 ((x % n.toNat:Nat):Int)])∧bF w' v (x / n.toNat)∧Gr w w':=by
 obtain⟨a,m,cap,rfl,HN,hn,hcap⟩:=i7 hx;have HX:=Lib.hid hx;clear hx;have AL:m≤1000000:=by rw[HN.out];exact hxl
 clear hxl;have th:=Lib.hid (oK x);have hmk:=λW=>Qj m (by omega) W
 go_enter Try.func124,Try.ntmps124
 go_wp2
 have hrow:=mK.made w m;have g0:Gr w (w.alloc (.cells (madeCells #[.int .i64 0] m) 3)):=(by repeat (first|exact Gr.refl _|assumption|refine Gr.alloc ?_ _|refine Gr.drew ?_|refine Gr.drewN ?_ _|(refine Gr.put ?_ ?_ _;first|exact ay _|(simp;done)|omega)|(apply Gr.after;assumption)))
 generalize hW:w.alloc (.cells (madeCells #[.int .i64 0] m) 3)=W at *
 have hg:w.heap.size≤w.heap.size:=ay _;generalize uS:w.heap.size=g at hrow hg ⊢;clear hW hmk;have HG:=Lib.hid uS;clear uS
 go_loopw [7,8] (λr i wr=>∃(k:Nat)(rest:Int)(out:List Int),k≤m∧i=.int .i64 ((k:Int) -1)∧r=.int .i64 rest∧0≤rest∧rest<n∧out.length=m∧Hid (fQ out)∧mK wr g out∧Hid (aR (out.drop k)*n+rest=aR ((aP x).drop k))∧Gr w wr) (λ_ i _=>(intOf i+1).toNat)
 case atStart=>exact⟨m,0,_,ay _,rfl,rfl,by omega,by omega,by simp,Lib.hid (NR _),hrow,Lib.hid (by rw[List.drop_eq_nil_of_le (by simp),List.drop_eq_nil_of_le (by have:=HN.out;omega)];simp [aR]),g0⟩
 case round=>
  clear hrow;obtain⟨k,rest,out,hk,rfl,rfl,FM,fP,hlen,gG,hrow,HE,hG⟩:=hrel;cases k with
  |zero=>
   have uF:=Lib.hid (mK.is hrow gG.out (by unfold maxLen;omega));rw[hlen]at uF
   go_wp2_with (go_at_call 118;refine(Eu _ _ _ _ _ uF.out gG.out).mono ?_;rintro e w' ⟨kt,rfl,hnt,rfl⟩)
   go_ret2
   obtain⟨h1,h2⟩:=XZ (oJ x) hn0 FM fP gG.out HE.out;refine⟨.slice (some ⟨g,0,none⟩) kt m,?_,?_,hG⟩
   ·rw[←h2];rfl
   ·rw[h1]at hnt;exact hnt
  |succ k=>
   obtain⟨B1,o1,rfl,c1,-⟩:=fT HX.out (k:=k) (by have:=HN.out;omega);rw[iO]at c1;replace c1:=hG.cell c1;have tv:=tP th.out k;have ij:=Lib.hid (WR out (aP x) k n rest (by omega) hn0 HE.out);have HR:=Lib.hid hrow;have r1:=World.rowIs.cell hrow (i:=k) (by omega);have r2:=World.rowIs.frozen hrow k;clear HE hrow;generalize (aP x).getD k 0=dx at *
   have CV:0≤(rest*1000000000+dx) / n:=Int.ediv_nonneg (by omega) (by omega)
   have hq1:(rest*1000000000+dx) / n<1000000000:=Int.ediv_lt_of_lt_mul hn0 (by
    have:(rest+1)*1000000000≤n*1000000000:=Int.mul_le_mul_of_nonneg_right (by omega) (by omega)
    rw[Int.mul_comm 1000000000 n];omega)
   have hm0:=Int.emod_nonneg (rest*1000000000+dx) (show n≠0 by omega);have hm1:=Int.emod_lt_of_pos (rest*1000000000+dx) hn0;have hs:((k+1:Nat):Int) -1=(k:Int):=by omega
   rw[hs];clear hs
   go_wp2
   go_roundw
   case rel=>
    have SL:=HG.out;exact⟨k,(rest*1000000000+dx) % n,_,by omega,by first|rfl|go_num,by first|rfl|go_num,hm0,hm1,by simp [hlen],Lib.hid (I5 gG.out k ((rest*1000000000+dx) / n) ⟨CV,hq1⟩),(HR.out).set k ((rest*1000000000+dx) / n) (by omega),ij,hG.put (by omega) _⟩
   case measure=>simp [intOf]<;>omega
set_option maxHeartbeats 2000000 in
theorem VV(x:Nat)(vx:Value)(w:World)(hx:bF w vx x)(adX:x≤9223372036854775807):
  Calls Try.prog 121 #[vx] w λe w'=>e=.returned (.int .i64 x)∧w=w':=by
 obtain⟨a,m,cap,rfl,HN,hn,hcap⟩:=i7 hx;have HX:=Lib.hid hx;clear hx;have th:=Lib.hid (oK x)
 go_enter Try.func121,Try.ntmps121
 go_wp2
 go_loop [3,4] (λr i=>∃(k:Nat)(acc:Int),k≤m∧i=.int .i64 ((k:Int) -1)∧r=.int .i64 acc∧Hid (acc=aR ((aP x).drop k))) (λ_ i=>(intOf i+1).toNat)
 case atStart=>exact⟨m,0,ay _,rfl,rfl,Lib.hid (by rw[List.drop_eq_nil_of_le (by have:=HN.out;omega)];rfl)⟩
 case round=>
  obtain⟨k,acc,hk,rfl,rfl,HE⟩:=hrel;cases k with
  |zero=>
   go_wp2
   go_ret
   exact⟨nO (by rw[HE.out,List.drop_zero,oJ]),rfl⟩
  |succ k=>
   obtain⟨B1,o1,rfl,c1,-⟩:=fT HX.out (k:=k) (by have:=HN.out;omega);rw[iO]at c1;have tv:=tP th.out k;have fZ:=Ms (x:=x) k;have jk:=Ms (x:=x) (k+1);have KT:=vC (aP x) k;rw[←HE.out]at jk KT;have ij:Hid (acc*1000000000+(aP x).getD k 0=aR ((aP x).drop k)):=Lib.hid (by omega);rw[←ij.out]at fZ;clear HE KT;generalize (aP x).getD k 0=dx at *
   have hs:((k+1:Nat):Int) -1=(k:Int):=by omega
   rw[hs];clear hs
   go_wp2
   go_round
   case rel=>exact⟨k,acc*1000000000+dx,by omega,by first|rfl|go_num,by first|rfl|go_num,ij⟩
   case measure=>simp [intOf]<;>omega
def abd(n m:Nat)(w:World)(e:Ending)(w':World):Prop:=∃v u,e=.returned (.tuple #[v,u])∧bF w' v n∧bF w' u m∧Gr w w'
set_option maxHeartbeats 2000000 in
set_option maxRecDepth 100000 in
theorem VI(x y:Nat)(vx vy:Value)(w:World)(hx:bF w vx x)(hy:bF w vy y)(hxl:(aP x).length≤1000000)(hy0:0<y)(FO:y<1000000000):
  Calls Try.prog 120 #[vx,vy] w (abd (x / y) (x % y) w):=by
 have HX:=Lib.hid hx;have HY:=Lib.hid hy;obtain⟨a,m,cap,rfl,HN,hn,hcap⟩:=i7 hy;obtain⟨B1,o1,rfl,c1,-⟩:=fT hy (k:=0) (by rw[DM FO hy0];simp);have hm1:m=1:=by rw[HN.out,DM FO hy0];rfl
 subst hm1
 have FQ:(aP y)[0]'(by rw[DM FO hy0];simp)=(y:Int):=by simp [DM FO hy0]
 rw[FQ,Nat.add_zero]at c1;clear hx hy HN FQ;by_cases hlt:x<y
 ·have HO:Hid (l9 x y=-1):=Lib.hid (by simp [l9,hlt]);have HR:Hid (x / y=0∧x % y=x):=Lib.hid ⟨Nat.div_eq_of_lt hlt,Nat.mod_eq_of_lt hlt⟩
  go_enter Try.func120,Try.ntmps120
  go_wp2_with (first|(go_at_call 113;refine(Bw x y _ _ _ HX.out HY.out).mono ?_;rintro e w' ⟨rfl,k,rfl⟩;rw[HO.out]))
  go_ret2
  obtain⟨h1,h2⟩:=HR.out;rw[h1,h2];exact⟨_,_,rfl,by unfold bF;rw[mC];exact .inl ⟨rfl,rfl⟩,HX.out.mono ((Gr.refl _).drewN _),(Gr.refl _).drewN _⟩
 ·have SR:¬l9 x y<0:=by rw[l9,aI hlt];split<;>omega
  have adT:decide (l9 x y<0)=false:=by simpa using SR
  clear SR;have hr9:x % y≤9223372036854775807:=by have:=Nat.mod_lt x hy0;omega
  go_enter Try.func120,Try.ntmps120
  go_wp2_with (first
   |(go_at_call 113;refine(Bw x y _ _ _ HX.out HY.out).mono ?_;rintro e w' ⟨rfl,k,rfl⟩)
   |(go_at_call 124;refine(XY x y _ _ (HX.out.mono ((Gr.refl _).drewN _)) hxl (by omega) (by omega)).mono ?_;rintro e w1 ⟨v1,rfl,h1,fZ⟩;simp only[Int.toNat_natCast]at h1 ⊢;have H1:=Lib.hid h1;clear h1)
   |(go_at_call 100;refine(zJ _ _ hr9).mono ?_;rintro e w2 ⟨v2,rfl,h2,-,jk⟩;have H2:=Lib.hid h2;clear h2))
  go_ret2
  exact⟨_,_,rfl,H1.out.mono jk,H2.out,(((Gr.refl _).drewN _).trans fZ).trans jk⟩
end
section
open Go.RowKit
theorem bR.other{w:World}{b c o:Nat}{u:Value}{v0 v1 v2:Value}(k:bR w b v0 v1 v2)(h:c≠b):bR (w.setCell ⟨c,o,none⟩ u) b v0 v1 v2:=by obtain⟨⟨k0,k1,k2⟩,⟨f0,f1,f2⟩,hlt⟩:=k;have hb:(w.setCell ⟨c,o,none⟩ u).heap[b]? =w.heap[b]? :=Below.heap_setCell w ⟨c,o,none⟩ u b (λe=>h e.symm);refine⟨⟨by rw[World.cell?_of_block (w:=w) hb];exact k0,by rw[World.cell?_of_block (w:=w) hb];exact k1,by rw[World.cell?_of_block (w:=w) hb];exact k2⟩,⟨by rw[World.frozen?_of_block (w:=w) hb];exact f0,by rw[World.frozen?_of_block (w:=w) hb];exact f1,by rw[World.frozen?_of_block (w:=w) hb];exact f2⟩,by simpa [World.setCell]using hlt⟩
end
section
open Go.RowKit
theorem bR.yP{w:World}{b:Nat}{u v0 v1 v2:Value}(k:bR w b v0 v1 v2):bR (w.setCell ⟨b,0,none⟩ u) b u v1 v2:=by obtain⟨⟨k0,k1,k2⟩,⟨f0,f1,f2⟩,hlt⟩:=k;exact⟨⟨World.cell?_setCell_same _ _ _ k0,(World.cell?_setCell_other _ _ _ _ (by simp)).trans k1,(World.cell?_setCell_other _ _ _ _ (by simp)).trans k2⟩,⟨(World.frozen?_setCell _ _ _ _).trans f0,(World.frozen?_setCell _ _ _ _).trans f1,(World.frozen?_setCell _ _ _ _).trans f2⟩,by simpa [World.setCell]using hlt⟩
theorem bR.st1{w:World}{b:Nat}{u v0 v1 v2:Value}(k:bR w b v0 v1 v2):bR (w.setCell ⟨b,1,none⟩ u) b v0 u v2:=by obtain⟨⟨k0,k1,k2⟩,⟨f0,f1,f2⟩,hlt⟩:=k;exact⟨⟨(World.cell?_setCell_other _ _ _ _ (by simp)).trans k0,World.cell?_setCell_same _ _ _ k1,(World.cell?_setCell_other _ _ _ _ (by simp)).trans k2⟩,⟨(World.frozen?_setCell _ _ _ _).trans f0,(World.frozen?_setCell _ _ _ _).trans f1,(World.frozen?_setCell _ _ _ _).trans f2⟩,by simpa [World.setCell]using hlt⟩
theorem bR.st2{w:World}{b:Nat}{u v0 v1 v2:Value}(k:bR w b v0 v1 v2):bR (w.setCell ⟨b,2,none⟩ u) b v0 v1 u:=by obtain⟨⟨k0,k1,k2⟩,⟨f0,f1,f2⟩,hlt⟩:=k;exact⟨⟨(World.cell?_setCell_other _ _ _ _ (by simp)).trans k0,(World.cell?_setCell_other _ _ _ _ (by simp)).trans k1,World.cell?_setCell_same _ _ _ k2⟩,⟨(World.frozen?_setCell _ _ _ _).trans f0,(World.frozen?_setCell _ _ _ _).trans f1,(World.frozen?_setCell _ _ _ _).trans f2⟩,by simpa [World.setCell]using hlt⟩
end
section
open Go.RowKit
theorem iP{n:Nat}(h:n<1000000000000000000000000000):(aP n).length≤1000000:=Nat.le_trans (Iz h) (by omega)
def oU(s:Bool)(n d:Nat)(w:World)(e:Ending)(w':World):Prop:=∃v u,e=.returned (.agg #[.bool s,v,u])∧bF w' v n∧bF w' u d∧gD w.heap.size v∧gD w.heap.size u∧Gr w w'
theorem gD.le{B C:Nat}{v:Value}(h:gD B v)(hc:C≤B):gD C v:=by
 cases v with
 |slice a n c=>cases a with
  |none=>trivial
  |some a=>exact Nat.le_trans hc h
 |_=>trivial
theorem bF.shape{w:World}{v:Value}{n:Nat}(h:bF w v n)(hn:n<1000000000000000000000000000):∃(a:Option Addr)(k cap:Nat),v=.slice a k cap∧k≤3∧k≤9223372036854775807:=by obtain⟨a,k,cap,h1,h2,_,h4⟩:=i7 h;exact⟨a,k,cap,h1,by rw[h2.out];exact Iz hn,h4⟩
set_option maxHeartbeats 1000000 in
theorem OK(a b:Nat)(w:World)(ha:a≤9223372036854775807)(hb:b≤9223372036854775807):
  Calls Try.prog 83 #[.int .i64 a,.int .i64 b] w (oU false a b w):=by
 have K:bR (w.alloc (.cells #[.bool false,.slice none 0 0,.slice none 0 0] 132)) w.heap.size (.bool false) (.slice none 0 0) (.slice none 0 0):=bR.of (by repeat (first|exact dJ _ _|(refine kg _ _ _ ?_;(simp;done))|(refine jX _ _ _ _ (by simp;try omega) ?_)));have g0:Gr w (w.alloc (.cells #[.bool false,.slice none 0 0,.slice none 0 0] 132)):=(by repeat (first|exact Gr.refl _|assumption|refine Gr.alloc ?_ _|refine Gr.drew ?_|refine Gr.drewN ?_ _|(refine Gr.put ?_ ?_ _;first|exact ay _|(simp;done)|omega)|(apply Gr.after;assumption)))
 have hs0:w.heap.size<(w.alloc (.cells #[.bool false,.slice none 0 0,.slice none 0 0] 132)).heap.size:=by simp
 go_enter Try.func83,Try.ntmps83
 go_wp2_with (first
  |(go_at_call 100;(with_reducible refine(zJ a _ ha).mono ?_);rintro e w1 ⟨v1,rfl,h1,f1,fZ⟩;replace K:=K.mono fZ;have hs1:=fZ.size;obtain⟨a1,k1,c1,rfl,-,-⟩:=h1.shape (by omega);have H1:=Lib.hid h1;have F1:=Lib.hid f1;clear h1 f1)
  |(go_at_call 100;(with_reducible refine(zJ b _ hb).mono ?_);rintro e w2 ⟨v2,rfl,h2,f2,jk⟩;replace K:=K.mono jk;have hs2:=jk.size;obtain⟨a2,k2,c2,rfl,-,-⟩:=h2.shape (by omega);have H2:=Lib.hid h2;have F2:=Lib.hid f2;clear h2 f2))
 have K':bR (((w2.setCell ⟨w.heap.size,0,none⟩ (.bool false)).setCell ⟨w.heap.size,1,none⟩ (.slice a1 k1 c1)).setCell ⟨w.heap.size,2,none⟩ (.slice a2 k2 c2)) w.heap.size (.bool false) (.slice a1 k1 c1) (.slice a2 k2 c2):=K.yP.st1.st2;refine bodyPost_ret (v:=.agg #[.bool false,.slice a1 k1 c1,.slice a2 k2 c2]) (by simp [results,Try.results83,go_sem,K']) rfl ?_;have q1:=H1.out.mono jk;exact⟨_,_,rfl,((q1.off F1.out hs0).off F1.out hs0).off F1.out hs0,((H2.out.off F2.out (by omega)).off F2.out (by omega)).off F2.out (by omega),F1.out.le (by omega),F2.out.le (by omega),((((g0.trans fZ).trans jk).put (by omega) _).put (by omega) _).put (by omega) _⟩
theorem N9(w:World):Calls Try.prog 100 #[.int .i64 1] w (B7 1 w):=zJ 1 w (by omega)
set_option maxHeartbeats 1000000 in
theorem Of(a:Nat)(w:World)(ha:a≤9223372036854775807):
  Calls Try.prog 96 #[.int .i64 a] w (oU false a 1 w):=by
 have hneg:decide ((a:Int)<0)=false:=dL (by omega);have K:bR (w.alloc (.cells #[.bool false,.slice none 0 0,.slice none 0 0] 132)) w.heap.size (.bool false) (.slice none 0 0) (.slice none 0 0):=bR.of (by repeat (first|exact dJ _ _|(refine kg _ _ _ ?_;(simp;done))|(refine jX _ _ _ _ (by simp;try omega) ?_)));have g0:Gr w (w.alloc (.cells #[.bool false,.slice none 0 0,.slice none 0 0] 132)):=(by repeat (first|exact Gr.refl _|assumption|refine Gr.alloc ?_ _|refine Gr.drew ?_|refine Gr.drewN ?_ _|(refine Gr.put ?_ ?_ _;first|exact ay _|(simp;done)|omega)|(apply Gr.after;assumption)))
 have hs0:w.heap.size<(w.alloc (.cells #[.bool false,.slice none 0 0,.slice none 0 0] 132)).heap.size:=by simp
 go_enter Try.func96,Try.ntmps96
 go_wp2_with (first
  |(go_at_call 100;(with_reducible refine(zJ a _ ha).mono ?_);rintro e w1 ⟨v1,rfl,h1,f1,fZ⟩;replace K:=K.mono fZ;have hs1:=fZ.size;obtain⟨a1,k1,c1,rfl,-,-⟩:=h1.shape (by omega);have H1:=Lib.hid h1;have F1:=Lib.hid f1;clear h1 f1)
  |(go_at_call 100;(with_reducible refine(N9 _).mono ?_);rintro e w2 ⟨v2,rfl,h2,f2,jk⟩;replace K:=K.mono jk;have hs2:=jk.size;obtain⟨a2,k2,c2,rfl,-,-⟩:=h2.shape (by omega);have H2:=Lib.hid h2;have F2:=Lib.hid f2;clear h2 f2))
 have K':bR (((w2.setCell ⟨w.heap.size,0,none⟩ (.bool false)).setCell ⟨w.heap.size,1,none⟩ (.slice a1 k1 c1)).setCell ⟨w.heap.size,2,none⟩ (.slice a2 k2 c2)) w.heap.size (.bool false) (.slice a1 k1 c1) (.slice a2 k2 c2):=K.yP.st1.st2;refine bodyPost_ret (v:=.agg #[.bool false,.slice a1 k1 c1,.slice a2 k2 c2]) (by simp [results,Try.results96,go_sem,K']) rfl ?_;have q1:=H1.out.mono jk;exact⟨_,_,rfl,((q1.off F1.out hs0).off F1.out hs0).off F1.out hs0,((H2.out.off F2.out (by omega)).off F2.out (by omega)).off F2.out (by omega),F1.out.le (by omega),F2.out.le (by omega),((((g0.trans fZ).trans jk).put (by omega) _).put (by omega) _).put (by omega) _⟩
set_option maxHeartbeats 1000000 in
theorem X5(a:Nat)(w:World)(ha:a≤9223372036854775807)(h0:0<a):
  Calls Try.prog 96 #[.int .i64 (-(a:Int))] w (oU true a 1 w):=by
 have hneg:-(a:Int)<0:=by omega
 have K:bR (w.alloc (.cells #[.bool false,.slice none 0 0,.slice none 0 0] 132)) w.heap.size (.bool false) (.slice none 0 0) (.slice none 0 0):=bR.of (by repeat (first|exact dJ _ _|(refine kg _ _ _ ?_;(simp;done))|(refine jX _ _ _ _ (by simp;try omega) ?_)));have g0:Gr w (w.alloc (.cells #[.bool false,.slice none 0 0,.slice none 0 0] 132)):=(by repeat (first|exact Gr.refl _|assumption|refine Gr.alloc ?_ _|refine Gr.drew ?_|refine Gr.drewN ?_ _|(refine Gr.put ?_ ?_ _;first|exact ay _|(simp;done)|omega)|(apply Gr.after;assumption)))
 have hs0:w.heap.size<(w.alloc (.cells #[.bool false,.slice none 0 0,.slice none 0 0] 132)).heap.size:=by simp
 go_enter Try.func96,Try.ntmps96
 go_wp2_with (first
  |(go_at_call 100;(with_reducible refine(zJ a _ ha).mono ?_);rintro e w1 ⟨v1,rfl,h1,f1,fZ⟩;replace K:=K.mono fZ;have hs1:=fZ.size;obtain⟨a1,k1,c1,rfl,-,-⟩:=h1.shape (by omega);have H1:=Lib.hid h1;have F1:=Lib.hid f1;clear h1 f1)
  |(go_at_call 100;(with_reducible refine(N9 _).mono ?_);rintro e w2 ⟨v2,rfl,h2,f2,jk⟩;replace K:=K.mono jk;have hs2:=jk.size;obtain⟨a2,k2,c2,rfl,-,-⟩:=h2.shape (by omega);have H2:=Lib.hid h2;have F2:=Lib.hid f2;clear h2 f2))
 have K':bR (((w2.setCell ⟨w.heap.size,0,none⟩ (.bool true)).setCell ⟨w.heap.size,1,none⟩ (.slice a1 k1 c1)).setCell ⟨w.heap.size,2,none⟩ (.slice a2 k2 c2)) w.heap.size (.bool true) (.slice a1 k1 c1) (.slice a2 k2 c2):=K.yP.st1.st2;refine bodyPost_ret (v:=.agg #[.bool true,.slice a1 k1 c1,.slice a2 k2 c2]) (by simp [results,Try.results96,go_sem,K']) rfl ?_;have q1:=H1.out.mono jk;exact⟨_,_,rfl,((q1.off F1.out hs0).off F1.out hs0).off F1.out hs0,((H2.out.off F2.out (by omega)).off F2.out (by omega)).off F2.out (by omega),F1.out.le (by omega),F2.out.le (by omega),((((g0.trans fZ).trans jk).put (by omega) _).put (by omega) _).put (by omega) _⟩
set_option maxHeartbeats 1000000 in
theorem DR(s:Bool)(a1:Option Addr)(k1 c1:Nat)(a2:Option Addr)(k2 c2:Nat)(w:World)(h1:k1≤5)(h2:k2≤5):
  Calls Try.prog 112 #[.agg #[.bool s,.slice a1 k1 c1,.slice a2 k2 c2]] w λe w'=>e=.returned (.agg #[.bool s,.slice a1 k1 c1,.slice a2 k2 c2])∧Gr w w':=by
 go_enter Try.func112,Try.ntmps112
 go_wp2
 refine bodyPost_ret (v:=.agg #[.bool s,.slice a1 k1 c1,.slice a2 k2 c2]) (by simp [results,Try.results112,go_sem]) rfl ⟨rfl,(by repeat (first|exact Gr.refl _|assumption|refine Gr.alloc ?_ _|refine Gr.drew ?_|refine Gr.drewN ?_ _|(refine Gr.put ?_ ?_ _;first|exact ay _|(simp;done)|omega)|(apply Gr.after;assumption)))⟩
end
section
open Go.RowKit
abbrev ac9(w:World)(b c d:Nat)(v0 v1 v2 u0 u1 u2 x0 x1 x2:Value):Prop:=bR w b v0 v1 v2∧bR w c u0 u1 u2∧bR w d x0 x1 x2
abbrev nr(w:World)(b c:Nat)(v0 v1 v2 u0 u1 u2:Value):Prop:=bR w b v0 v1 v2∧bR w c u0 u1 u2
theorem nr.mono{w w':World}{b c:Nat}{v0 v1 v2 u0 u1 u2:Value}(h:nr w b c v0 v1 v2 u0 u1 u2)(g:Gr w w'):nr w' b c v0 v1 v2 u0 u1 u2:=⟨h.1.mono g,h.2.mono g⟩
set_option maxHeartbeats 4000000 in
theorem Wu(s1 s2:Bool)(n1 d1 n2 d2:Nat)(a1:Option Addr)(k1 c1:Nat)(e1:Option Addr)(l1 p1:Nat)(a2:Option Addr)(k2 c2:Nat)(e2:Option Addr)(l2 p2:Nat)(w:World)
  (hn1:bF w (.slice a1 k1 c1) n1) (kW:bF w (.slice e1 l1 p1) d1) (hn2:bF w (.slice a2 k2 c2) n2) (hd2:bF w (.slice e2 l2 p2) d2)
  (rj:n1<10000000000000) (oo:d1<10000000000000) (rq:n2<10000000000000) (oq:d2<10000000000000):
  Calls Try.prog 98 #[.agg #[.bool s1,.slice a1 k1 c1,.slice e1 l1 p1],.agg #[.bool s2,.slice a2 k2 c2,.slice e2 l2 p2]] w (oU (s1 !=s2) (n1*n2) (d1*d2) w):=by
 have xY:=Lib.hid hn1;have xZ:=Lib.hid hn2;have qt:=Lib.hid kW;have qu:=Lib.hid hd2;have L1:=Lib.hid (iP (n:=n1) (by omega));have L2:=Lib.hid (iP (n:=n2) (by omega));have L3:=Lib.hid (iP (n:=d1) (by omega));have L4:=Lib.hid (iP (n:=d2) (by omega));have tu:n1*n2<1000000000000000000000000000:=Nat.lt_of_le_of_lt (Nat.mul_le_mul (Nat.le_of_lt rj) (Nat.le_of_lt rq)) (by omega);have yg:d1*d2<1000000000000000000000000000:=Nat.lt_of_le_of_lt (Nat.mul_le_mul (Nat.le_of_lt oo) (Nat.le_of_lt oq)) (by omega);clear hn1 hn2 kW hd2
 go_enter Try.func98,Try.ntmps98
 go_wp2
 obtain⟨W,hW⟩:∃W,W=((w.alloc (.cells #[.bool s1,.slice a1 k1 c1,.slice e1 l1 p1] 132)).alloc (.cells #[.bool s2,.slice a2 k2 c2,.slice e2 l2 p2] 132)).alloc (.cells #[.bool false,.slice none 0 0,.slice none 0 0] 132):=⟨_,rfl⟩
 have K:nr W w.heap.size (w.heap.size+1) (.bool s1) (.slice a1 k1 c1) (.slice e1 l1 p1) (.bool s2) (.slice a2 k2 c2) (.slice e2 l2 p2):=by subst hW;exact⟨bR.of (by repeat (first|exact dJ _ _|(refine kg _ _ _ ?_;(simp;done))|(refine jX _ _ _ _ (by simp;try omega) ?_))),bR.of (by repeat (first|exact dJ _ _|(refine kg _ _ _ ?_;(simp;done))|(refine jX _ _ _ _ (by simp;try omega) ?_)))⟩
 have K3:bR W (w.heap.size+1+1) (.bool false) (.slice none 0 0) (.slice none 0 0):=by subst hW;exact bR.of (by repeat (first|exact dJ _ _|(refine kg _ _ _ ?_;(simp;done))|(refine jX _ _ _ _ (by simp;try omega) ?_)))
 have g0:Gr w W:=by subst hW;exact(by repeat (first|exact Gr.refl _|assumption|refine Gr.alloc ?_ _|refine Gr.drew ?_|refine Gr.drewN ?_ _|(refine Gr.put ?_ ?_ _;first|exact ay _|(simp;done)|omega)|(apply Gr.after;assumption)))
 have hsz:w.heap.size+3=W.heap.size:=by subst hW;simp
 rw[←hW];clear hW
 go_region_held3 (λw'=>nr w' w.heap.size (w.heap.size+1) (.bool s1) (.slice a1 k1 c1) (.slice e1 l1 p1) (.bool s2) (.slice a2 k2 c2) (.slice e2 l2 p2)) (first|(refine nr.mono K ?_;(repeat (first|exact Gr.refl _|assumption|refine Gr.alloc ?_ _|refine Gr.drew ?_|refine Gr.drewN ?_ _|(refine Gr.put ?_ ?_ _;first|exact ay _|(simp;done)|omega)|(apply Gr.after;assumption)));done)|(exact⟨((Fu.other (by omega)).other (by omega)).other (by omega),((Fv.other (by omega)).other (by omega)).other (by omega)⟩)) (first
  |(go_at_call 110;(with_reducible refine(qF n1 n2 (.slice a1 k1 c1) (.slice a2 k2 c2) _ (by exact xY.out.mono (by repeat (first|exact Gr.refl _|assumption|refine Gr.alloc ?_ _|refine Gr.drew ?_|refine Gr.drewN ?_ _|(refine Gr.put ?_ ?_ _;first|exact ay _|(simp;done)|omega)|(apply Gr.after;assumption)))) (by exact xZ.out.mono (by repeat (first|exact Gr.refl _|assumption|refine Gr.alloc ?_ _|refine Gr.drew ?_|refine Gr.drewN ?_ _|(refine Gr.put ?_ ?_ _;first|exact ay _|(simp;done)|omega)|(apply Gr.after;assumption)))) L1.out L2.out).mono ?_);rintro e wa ⟨va,rfl,ha,fa,hba⟩;obtain⟨aa,ka,ca,rfl,hka,-⟩:=ha.shape tu;have HA:=Lib.hid ha;have FA:=Lib.hid (gD.le (C:=W.heap.size) fa (Gr.size (by repeat (first|exact Gr.refl _|assumption|refine Gr.alloc ?_ _|refine Gr.drew ?_|refine Gr.drewN ?_ _|(refine Gr.put ?_ ?_ _;first|exact ay _|(simp;done)|omega)|(apply Gr.after;assumption)))));clear ha fa;have hsa:=hba.size)
  |(go_at_call 110;(with_reducible refine(qF d1 d2 (.slice e1 l1 p1) (.slice e2 l2 p2) _ (by exact qt.out.mono (by repeat (first|exact Gr.refl _|assumption|refine Gr.alloc ?_ _|refine Gr.drew ?_|refine Gr.drewN ?_ _|(refine Gr.put ?_ ?_ _;first|exact ay _|(simp;done)|omega)|(apply Gr.after;assumption)))) (by exact qu.out.mono (by repeat (first|exact Gr.refl _|assumption|refine Gr.alloc ?_ _|refine Gr.drew ?_|refine Gr.drewN ?_ _|(refine Gr.put ?_ ?_ _;first|exact ay _|(simp;done)|omega)|(apply Gr.after;assumption)))) L3.out L4.out).mono ?_);rintro e wb ⟨vb,rfl,hb,fb,SG⟩;obtain⟨ab,kb,cb,rfl,hkb,-⟩:=hb.shape yg;have HB:=Lib.hid hb;have FB:=Lib.hid (gD.le (C:=W.heap.size) fb (Gr.size (by repeat (first|exact Gr.refl _|assumption|refine Gr.alloc ?_ _|refine Gr.drew ?_|refine Gr.drewN ?_ _|(refine Gr.put ?_ ?_ _;first|exact ay _|(simp;done)|omega)|(apply Gr.after;assumption)))));clear hb fb;have hsb:=SG.size)
  |(go_at_call 112;(with_reducible refine(DR _ _ _ _ _ _ _ _ (by omega) (by omega)).mono ?_);rintro e wc ⟨rfl,hbc⟩;have hsc:=hbc.size;have iJ:Gr W wc:=(by repeat (first|exact Gr.refl _|assumption|refine Gr.alloc ?_ _|refine Gr.drew ?_|refine Gr.drewN ?_ _|(refine Gr.put ?_ ?_ _;first|exact ay _|(simp;done)|omega)|(apply Gr.after;assumption)));have yc:=K3.mono iJ;have Fu:=K.1.mono iJ;have Fv:=K.2.mono iJ))
 all_goals
  have HA':bF wc (.slice aa ka ca) (n1*n2):=by clear iJ;exact HA.out.mono (by repeat (first|exact Gr.refl _|assumption|refine Gr.alloc ?_ _|refine Gr.drew ?_|refine Gr.drewN ?_ _|(refine Gr.put ?_ ?_ _;first|exact ay _|(simp;done)|omega)|(apply Gr.after;assumption)))
  have HB':bF wc (.slice ab kb cb) (d1*d2):=by clear iJ;exact HB.out.mono (by repeat (first|exact Gr.refl _|assumption|refine Gr.alloc ?_ _|refine Gr.drew ?_|refine Gr.drewN ?_ _|(refine Gr.put ?_ ?_ _;first|exact ay _|(simp;done)|omega)|(apply Gr.after;assumption)))
  have yw:Gr w wc:=g0.trans iJ
  go_wp2
  have K':bR (((wc.setCell ⟨w.heap.size+1+1,0,none⟩ (.bool (!(s1==s2)))).setCell ⟨w.heap.size+1+1,1,none⟩ (.slice aa ka ca)).setCell ⟨w.heap.size+1+1,2,none⟩ (.slice ab kb cb)) (w.heap.size+1+1) (.bool (!(s1==s2))) (.slice aa ka ca) (.slice ab kb cb):=yc.yP.st1.st2;refine bodyPost_ret (v:=.agg #[.bool (!(s1==s2)),.slice aa ka ca,.slice ab kb cb]) (by simp [results,Try.results98,go_sem,K']) rfl ?_;exact⟨_,_,rfl,((HA'.off FA.out (by omega)).off FA.out (by omega)).off FA.out (by omega),((HB'.off FB.out (by omega)).off FB.out (by omega)).off FB.out (by omega),FA.out.le (by omega),FB.out.le (by omega),((yw.put (by omega) _).put (by omega) _).put (by omega) _⟩
end
section
open Go.RowKit
def qw(s1 s2:Bool)(p q:Nat):Bool:=if s1=s2 then s1 else if q≤p then s1 else s2
def pI(s1 s2:Bool)(p q:Nat):Nat:=if s1=s2 then p+q else if q≤p then p-q else q-p
set_option maxHeartbeats 4000000 in
theorem OC(s1 s2:Bool)(n1 d1 n2 d2:Nat)(a1:Option Addr)(k1 c1:Nat)(e1:Option Addr)(l1 p1:Nat)(a2:Option Addr)(k2 c2:Nat)(e2:Option Addr)(l2 p2:Nat)(w:World)
  (hn1:bF w (.slice a1 k1 c1) n1) (kW:bF w (.slice e1 l1 p1) d1) (hn2:bF w (.slice a2 k2 c2) n2) (hd2:bF w (.slice e2 l2 p2) d2)
  (rj:n1<10000000000000) (oo:d1<10000000000000) (rq:n2<10000000000000) (oq:d2<10000000000000) (hc:s1=s2):
  Calls Try.prog 97 #[.agg #[.bool s1,.slice a1 k1 c1,.slice e1 l1 p1],.agg #[.bool s2,.slice a2 k2 c2,.slice e2 l2 p2]] w (oU (qw s1 s2 (n1*d2) (n2*d1)) (pI s1 s2 (n1*d2) (n2*d1)) (d1*d2) w):=by
 have xY:=Lib.hid hn1;have xZ:=Lib.hid hn2;have qt:=Lib.hid kW;have qu:=Lib.hid hd2;have L1:=Lib.hid (iP (n:=n1) (by omega));have L2:=Lib.hid (iP (n:=n2) (by omega));have L3:=Lib.hid (iP (n:=d1) (by omega));have L4:=Lib.hid (iP (n:=d2) (by omega));have Rl:n1*d2≤10000000000000*10000000000000:=Nat.mul_le_mul (Nat.le_of_lt rj) (Nat.le_of_lt oq);have Rk:n2*d1≤10000000000000*10000000000000:=Nat.mul_le_mul (Nat.le_of_lt rq) (Nat.le_of_lt oo);have tu:n1*d2<1000000000000000000000000000:=by omega
 have wD:n2*d1<1000000000000000000000000000:=by omega
 have yg:d1*d2<1000000000000000000000000000:=Nat.lt_of_le_of_lt (Nat.mul_le_mul (Nat.le_of_lt oo) (Nat.le_of_lt oq)) (by omega);have L5:=Lib.hid (iP tu);have L6:=Lib.hid (iP wD);clear hn1 hn2 kW hd2;subst hc;rw[show qw s1 s1 (n1*d2) (n2*d1)=s1 from aK rfl,show pI s1 s1 (n1*d2) (n2*d1)=n1*d2+n2*d1 from aK rfl];have B9:(n1*d2+n2*d1)<1000000000000000000000000000:=by omega
 go_enter Try.func97,Try.ntmps97
 go_wp2
 obtain⟨W,hW⟩:∃W,W=((w.alloc (.cells #[.bool s1,.slice a1 k1 c1,.slice e1 l1 p1] 132)).alloc (.cells #[.bool s1,.slice a2 k2 c2,.slice e2 l2 p2] 132)).alloc (.cells #[.bool false,.slice none 0 0,.slice none 0 0] 132):=⟨_,rfl⟩
 have K:nr W w.heap.size (w.heap.size+1) (.bool s1) (.slice a1 k1 c1) (.slice e1 l1 p1) (.bool s1) (.slice a2 k2 c2) (.slice e2 l2 p2):=by subst hW;exact⟨bR.of (by repeat (first|exact dJ _ _|(refine kg _ _ _ ?_;(simp;done))|(refine jX _ _ _ _ (by simp;try omega) ?_))),bR.of (by repeat (first|exact dJ _ _|(refine kg _ _ _ ?_;(simp;done))|(refine jX _ _ _ _ (by simp;try omega) ?_)))⟩
 have K3:bR W (w.heap.size+1+1) (.bool false) (.slice none 0 0) (.slice none 0 0):=by subst hW;exact bR.of (by repeat (first|exact dJ _ _|(refine kg _ _ _ ?_;(simp;done))|(refine jX _ _ _ _ (by simp;try omega) ?_)))
 have g0:Gr w W:=by subst hW;exact(by repeat (first|exact Gr.refl _|assumption|refine Gr.alloc ?_ _|refine Gr.drew ?_|refine Gr.drewN ?_ _|(refine Gr.put ?_ ?_ _;first|exact ay _|(simp;done)|omega)|(apply Gr.after;assumption)))
 have hsz:w.heap.size+3=W.heap.size:=by subst hW;simp
 rw[←hW];clear hW
 go_region_held3 (λw'=>nr w' w.heap.size (w.heap.size+1) (.bool s1) (.slice a1 k1 c1) (.slice e1 l1 p1) (.bool s1) (.slice a2 k2 c2) (.slice e2 l2 p2)) (first|(refine nr.mono K ?_;(repeat (first|exact Gr.refl _|assumption|refine Gr.alloc ?_ _|refine Gr.drew ?_|refine Gr.drewN ?_ _|(refine Gr.put ?_ ?_ _;first|exact ay _|(simp;done)|omega)|(apply Gr.after;assumption)));done)|(exact⟨((Fu.other (by omega)).other (by omega)).other (by omega),((Fv.other (by omega)).other (by omega)).other (by omega)⟩)) (first
  |(go_at_call 110;(with_reducible refine(qF n1 d2 (.slice a1 k1 c1) (.slice e2 l2 p2) _ (by exact xY.out.mono (by repeat (first|exact Gr.refl _|assumption|refine Gr.alloc ?_ _|refine Gr.drew ?_|refine Gr.drewN ?_ _|(refine Gr.put ?_ ?_ _;first|exact ay _|(simp;done)|omega)|(apply Gr.after;assumption)))) (by exact qu.out.mono (by repeat (first|exact Gr.refl _|assumption|refine Gr.alloc ?_ _|refine Gr.drew ?_|refine Gr.drewN ?_ _|(refine Gr.put ?_ ?_ _;first|exact ay _|(simp;done)|omega)|(apply Gr.after;assumption)))) L1.out L4.out).mono ?_);rintro e wz ⟨va,rfl,ha,fa,hbz⟩;obtain⟨aa,ka,ca,rfl,hka,-⟩:=ha.shape tu;have HA:=Lib.hid ha;have FA:=Lib.hid (gD.le (C:=W.heap.size) fa (Gr.size (by repeat (first|exact Gr.refl _|assumption|refine Gr.alloc ?_ _|refine Gr.drew ?_|refine Gr.drewN ?_ _|(refine Gr.put ?_ ?_ _;first|exact ay _|(simp;done)|omega)|(apply Gr.after;assumption)))));clear ha fa;(try replace HB:=Lib.hid (bF.mono (w':=wz) HB.out (by repeat (first|exact Gr.refl _|assumption|refine Gr.alloc ?_ _|refine Gr.drew ?_|refine Gr.drewN ?_ _|(refine Gr.put ?_ ?_ _;first|exact ay _|(simp;done)|omega)|(apply Gr.after;assumption)))));have gz:Gr W wz:=(by repeat (first|exact Gr.refl _|assumption|refine Gr.alloc ?_ _|refine Gr.drew ?_|refine Gr.drewN ?_ _|(refine Gr.put ?_ ?_ _;first|exact ay _|(simp;done)|omega)|(apply Gr.after;assumption))))
  |(go_at_call 110;(with_reducible refine(qF n2 d1 (.slice a2 k2 c2) (.slice e1 l1 p1) _ (by exact xZ.out.mono (by repeat (first|exact Gr.refl _|assumption|refine Gr.alloc ?_ _|refine Gr.drew ?_|refine Gr.drewN ?_ _|(refine Gr.put ?_ ?_ _;first|exact ay _|(simp;done)|omega)|(apply Gr.after;assumption)))) (by exact qt.out.mono (by repeat (first|exact Gr.refl _|assumption|refine Gr.alloc ?_ _|refine Gr.drew ?_|refine Gr.drewN ?_ _|(refine Gr.put ?_ ?_ _;first|exact ay _|(simp;done)|omega)|(apply Gr.after;assumption)))) L2.out L3.out).mono ?_);rintro e wz ⟨vb,rfl,hb,fb,hbz⟩;obtain⟨ab,kb,cb,rfl,hkb,-⟩:=hb.shape wD;have HB:=Lib.hid hb;have FB:=Lib.hid (gD.le (C:=W.heap.size) fb (Gr.size (by repeat (first|exact Gr.refl _|assumption|refine Gr.alloc ?_ _|refine Gr.drew ?_|refine Gr.drewN ?_ _|(refine Gr.put ?_ ?_ _;first|exact ay _|(simp;done)|omega)|(apply Gr.after;assumption)))));clear hb fb;(try replace HA:=Lib.hid (bF.mono (w':=wz) HA.out (by repeat (first|exact Gr.refl _|assumption|refine Gr.alloc ?_ _|refine Gr.drew ?_|refine Gr.drewN ?_ _|(refine Gr.put ?_ ?_ _;first|exact ay _|(simp;done)|omega)|(apply Gr.after;assumption)))));have gz:Gr W wz:=(by repeat (first|exact Gr.refl _|assumption|refine Gr.alloc ?_ _|refine Gr.drew ?_|refine Gr.drewN ?_ _|(refine Gr.put ?_ ?_ _;first|exact ay _|(simp;done)|omega)|(apply Gr.after;assumption)))))
 all_goals
  rename_i hh;have K1:=hh.1;have K2:=hh.2;clear hh K hbz;replace K3:=K3.mono gz
  go_wp2_with (first
   |(go_at_call 110;(with_reducible refine(qF d1 d2 (.slice e1 l1 p1) (.slice e2 l2 p2) _ (by exact qt.out.mono (g0.trans gz)) (by exact qu.out.mono (g0.trans gz)) L3.out L4.out).mono ?_);rintro e wy ⟨vd,rfl,hd,fd,hby⟩;obtain⟨ad,kd,cd,rfl,SP,-⟩:=hd.shape yg;have HD:=Lib.hid hd;have FD:=Lib.hid (gD.le (C:=W.heap.size) fd gz.size);clear hd fd;replace HA:=Lib.hid (bF.mono HA.out hby);replace HB:=Lib.hid (bF.mono HB.out hby);have gy:Gr W wy:=gz.trans hby;replace K1:=K1.mono hby;replace K2:=K2.mono hby;replace K3:=K3.mono hby)
   |(go_at_call 113;(with_reducible refine(Bw (n1*d2) (n2*d1) _ _ _ HA.out HB.out).mono ?_);rintro e wo ⟨rfl,q,rfl⟩))
  clear gz hby
  go_region_held3 (λw'=>bR w' w.heap.size (.bool s1) (.slice a1 k1 c1) (.slice e1 l1 p1)) (first|(refine bR.mono K1 ?_;(repeat (first|exact Gr.refl _|assumption|refine Gr.alloc ?_ _|refine Gr.drew ?_|refine Gr.drewN ?_ _|(refine Gr.put ?_ ?_ _;first|exact ay _|(simp;done)|omega)|(apply Gr.after;assumption)));done)|(exact((Kc.other (by omega)).other (by omega)).other (by omega))) (first
   |(go_at_call 111;(with_reducible refine(YH (n1*d2) (n2*d1) (.slice aa ka ca) (.slice ab kb cb) _ (by exact HA.out.mono (by repeat (first|exact Gr.refl _|assumption|refine Gr.alloc ?_ _|refine Gr.drew ?_|refine Gr.drewN ?_ _|(refine Gr.put ?_ ?_ _;first|exact ay _|(simp;done)|omega)|(apply Gr.after;assumption)))) (by exact HB.out.mono (by repeat (first|exact Gr.refl _|assumption|refine Gr.alloc ?_ _|refine Gr.drew ?_|refine Gr.drewN ?_ _|(refine Gr.put ?_ ?_ _;first|exact ay _|(simp;done)|omega)|(apply Gr.after;assumption)))) L5.out L6.out).mono ?_);rintro e wp ⟨vp,rfl,rF,fp,SJ⟩;obtain⟨ap,kp,cp,rfl,hkp,-⟩:=rF.shape B9;have HP:=Lib.hid rF;have FP:=Lib.hid (gD.le (C:=W.heap.size) fp (Gr.size (by repeat (first|exact Gr.refl _|assumption|refine Gr.alloc ?_ _|refine Gr.drew ?_|refine Gr.drewN ?_ _|(refine Gr.put ?_ ?_ _;first|exact ay _|(simp;done)|omega)|(apply Gr.after;assumption)))));clear rF fp)
   |(go_at_call 112;(with_reducible refine(DR _ _ _ _ _ _ _ _ (by omega) (by omega)).mono ?_);rintro e wc ⟨rfl,hbc⟩;have iJ:Gr wy wc:=(by repeat (first|exact Gr.refl _|assumption|refine Gr.alloc ?_ _|refine Gr.drew ?_|refine Gr.drewN ?_ _|(refine Gr.put ?_ ?_ _;first|exact ay _|(simp;done)|omega)|(apply Gr.after;assumption)));have yc:=K3.mono iJ;have Kc:=K1.mono iJ))
  all_goals
   have Cp:bF wc (.slice ap kp cp) (n1*d2+n2*d1):=by clear iJ;exact HP.out.mono (by repeat (first|exact Gr.refl _|assumption|refine Gr.alloc ?_ _|refine Gr.drew ?_|refine Gr.drewN ?_ _|(refine Gr.put ?_ ?_ _;first|exact ay _|(simp;done)|omega)|(apply Gr.after;assumption)))
   have Co:bF wc (.slice ad kd cd) (d1*d2):=HD.out.mono iJ;have yw:Gr w wc:=(g0.trans gy).trans iJ
   go_wp2
   have K':bR (((wc.setCell ⟨w.heap.size+1+1,0,none⟩ (.bool s1)).setCell ⟨w.heap.size+1+1,1,none⟩ (.slice ap kp cp)).setCell ⟨w.heap.size+1+1,2,none⟩ (.slice ad kd cd)) (w.heap.size+1+1) (.bool s1) (.slice ap kp cp) (.slice ad kd cd):=yc.yP.st1.st2;refine bodyPost_ret (v:=.agg #[.bool s1,.slice ap kp cp,.slice ad kd cd]) (by simp [results,Try.results97,go_sem,K']) rfl ?_;exact⟨_,_,rfl,((Cp.off FP.out (by omega)).off FP.out (by omega)).off FP.out (by omega),((Co.off FD.out (by omega)).off FD.out (by omega)).off FD.out (by omega),FP.out.le (by omega),FD.out.le (by omega),((yw.put (by omega) _).put (by omega) _).put (by omega) _⟩
set_option maxHeartbeats 4000000 in
theorem Yq(s1 s2:Bool)(n1 d1 n2 d2:Nat)(a1:Option Addr)(k1 c1:Nat)(e1:Option Addr)(l1 p1:Nat)(a2:Option Addr)(k2 c2:Nat)(e2:Option Addr)(l2 p2:Nat)(w:World)
  (hn1:bF w (.slice a1 k1 c1) n1) (kW:bF w (.slice e1 l1 p1) d1) (hn2:bF w (.slice a2 k2 c2) n2) (hd2:bF w (.slice e2 l2 p2) d2)
  (rj:n1<10000000000000) (oo:d1<10000000000000) (rq:n2<10000000000000) (oq:d2<10000000000000) (hc:(s1==s2)=false) (hpq:n2*d1≤n1*d2):
  Calls Try.prog 97 #[.agg #[.bool s1,.slice a1 k1 c1,.slice e1 l1 p1],.agg #[.bool s2,.slice a2 k2 c2,.slice e2 l2 p2]] w (oU (qw s1 s2 (n1*d2) (n2*d1)) (pI s1 s2 (n1*d2) (n2*d1)) (d1*d2) w):=by
 have xY:=Lib.hid hn1;have xZ:=Lib.hid hn2;have qt:=Lib.hid kW;have qu:=Lib.hid hd2;have L1:=Lib.hid (iP (n:=n1) (by omega));have L2:=Lib.hid (iP (n:=n2) (by omega));have L3:=Lib.hid (iP (n:=d1) (by omega));have L4:=Lib.hid (iP (n:=d2) (by omega));have Rl:n1*d2≤10000000000000*10000000000000:=Nat.mul_le_mul (Nat.le_of_lt rj) (Nat.le_of_lt oq);have Rk:n2*d1≤10000000000000*10000000000000:=Nat.mul_le_mul (Nat.le_of_lt rq) (Nat.le_of_lt oo);have tu:n1*d2<1000000000000000000000000000:=by omega
 have wD:n2*d1<1000000000000000000000000000:=by omega
 have yg:d1*d2<1000000000000000000000000000:=Nat.lt_of_le_of_lt (Nat.mul_le_mul (Nat.le_of_lt oo) (Nat.le_of_lt oq)) (by omega);have L5:=Lib.hid (iP tu);have L6:=Lib.hid (iP wD);clear hn1 hn2 kW hd2;have mU:s1≠s2:=by simpa using hc
 rw[show qw s1 s2 (n1*d2) (n2*d1)=s1 by rw[qw,aI mU,aK hpq],show pI s1 s2 (n1*d2) (n2*d1)=n1*d2-n2*d1 by rw[pI,aI mU,aK hpq]];clear mU;have ack:0≤l9 (n1*d2) (n2*d1):=by rw[l9,aI (by omega)];split<;>omega
 have B9:(n1*d2-n2*d1)<1000000000000000000000000000:=by omega
 go_enter Try.func97,Try.ntmps97
 go_wp2
 obtain⟨W,hW⟩:∃W,W=((w.alloc (.cells #[.bool s1,.slice a1 k1 c1,.slice e1 l1 p1] 132)).alloc (.cells #[.bool s2,.slice a2 k2 c2,.slice e2 l2 p2] 132)).alloc (.cells #[.bool false,.slice none 0 0,.slice none 0 0] 132):=⟨_,rfl⟩
 have K:nr W w.heap.size (w.heap.size+1) (.bool s1) (.slice a1 k1 c1) (.slice e1 l1 p1) (.bool s2) (.slice a2 k2 c2) (.slice e2 l2 p2):=by subst hW;exact⟨bR.of (by repeat (first|exact dJ _ _|(refine kg _ _ _ ?_;(simp;done))|(refine jX _ _ _ _ (by simp;try omega) ?_))),bR.of (by repeat (first|exact dJ _ _|(refine kg _ _ _ ?_;(simp;done))|(refine jX _ _ _ _ (by simp;try omega) ?_)))⟩
 have K3:bR W (w.heap.size+1+1) (.bool false) (.slice none 0 0) (.slice none 0 0):=by subst hW;exact bR.of (by repeat (first|exact dJ _ _|(refine kg _ _ _ ?_;(simp;done))|(refine jX _ _ _ _ (by simp;try omega) ?_)))
 have g0:Gr w W:=by subst hW;exact(by repeat (first|exact Gr.refl _|assumption|refine Gr.alloc ?_ _|refine Gr.drew ?_|refine Gr.drewN ?_ _|(refine Gr.put ?_ ?_ _;first|exact ay _|(simp;done)|omega)|(apply Gr.after;assumption)))
 have hsz:w.heap.size+3=W.heap.size:=by subst hW;simp
 rw[←hW];clear hW
 go_region_held3 (λw'=>nr w' w.heap.size (w.heap.size+1) (.bool s1) (.slice a1 k1 c1) (.slice e1 l1 p1) (.bool s2) (.slice a2 k2 c2) (.slice e2 l2 p2)) (first|(refine nr.mono K ?_;(repeat (first|exact Gr.refl _|assumption|refine Gr.alloc ?_ _|refine Gr.drew ?_|refine Gr.drewN ?_ _|(refine Gr.put ?_ ?_ _;first|exact ay _|(simp;done)|omega)|(apply Gr.after;assumption)));done)|(exact⟨((Fu.other (by omega)).other (by omega)).other (by omega),((Fv.other (by omega)).other (by omega)).other (by omega)⟩)) (first
  |(go_at_call 110;(with_reducible refine(qF n1 d2 (.slice a1 k1 c1) (.slice e2 l2 p2) _ (by exact xY.out.mono (by repeat (first|exact Gr.refl _|assumption|refine Gr.alloc ?_ _|refine Gr.drew ?_|refine Gr.drewN ?_ _|(refine Gr.put ?_ ?_ _;first|exact ay _|(simp;done)|omega)|(apply Gr.after;assumption)))) (by exact qu.out.mono (by repeat (first|exact Gr.refl _|assumption|refine Gr.alloc ?_ _|refine Gr.drew ?_|refine Gr.drewN ?_ _|(refine Gr.put ?_ ?_ _;first|exact ay _|(simp;done)|omega)|(apply Gr.after;assumption)))) L1.out L4.out).mono ?_);rintro e wz ⟨va,rfl,ha,fa,hbz⟩;obtain⟨aa,ka,ca,rfl,hka,-⟩:=ha.shape tu;have HA:=Lib.hid ha;have FA:=Lib.hid (gD.le (C:=W.heap.size) fa (Gr.size (by repeat (first|exact Gr.refl _|assumption|refine Gr.alloc ?_ _|refine Gr.drew ?_|refine Gr.drewN ?_ _|(refine Gr.put ?_ ?_ _;first|exact ay _|(simp;done)|omega)|(apply Gr.after;assumption)))));clear ha fa;(try replace HB:=Lib.hid (bF.mono (w':=wz) HB.out (by repeat (first|exact Gr.refl _|assumption|refine Gr.alloc ?_ _|refine Gr.drew ?_|refine Gr.drewN ?_ _|(refine Gr.put ?_ ?_ _;first|exact ay _|(simp;done)|omega)|(apply Gr.after;assumption)))));have gz:Gr W wz:=(by repeat (first|exact Gr.refl _|assumption|refine Gr.alloc ?_ _|refine Gr.drew ?_|refine Gr.drewN ?_ _|(refine Gr.put ?_ ?_ _;first|exact ay _|(simp;done)|omega)|(apply Gr.after;assumption))))
  |(go_at_call 110;(with_reducible refine(qF n2 d1 (.slice a2 k2 c2) (.slice e1 l1 p1) _ (by exact xZ.out.mono (by repeat (first|exact Gr.refl _|assumption|refine Gr.alloc ?_ _|refine Gr.drew ?_|refine Gr.drewN ?_ _|(refine Gr.put ?_ ?_ _;first|exact ay _|(simp;done)|omega)|(apply Gr.after;assumption)))) (by exact qt.out.mono (by repeat (first|exact Gr.refl _|assumption|refine Gr.alloc ?_ _|refine Gr.drew ?_|refine Gr.drewN ?_ _|(refine Gr.put ?_ ?_ _;first|exact ay _|(simp;done)|omega)|(apply Gr.after;assumption)))) L2.out L3.out).mono ?_);rintro e wz ⟨vb,rfl,hb,fb,hbz⟩;obtain⟨ab,kb,cb,rfl,hkb,-⟩:=hb.shape wD;have HB:=Lib.hid hb;have FB:=Lib.hid (gD.le (C:=W.heap.size) fb (Gr.size (by repeat (first|exact Gr.refl _|assumption|refine Gr.alloc ?_ _|refine Gr.drew ?_|refine Gr.drewN ?_ _|(refine Gr.put ?_ ?_ _;first|exact ay _|(simp;done)|omega)|(apply Gr.after;assumption)))));clear hb fb;(try replace HA:=Lib.hid (bF.mono (w':=wz) HA.out (by repeat (first|exact Gr.refl _|assumption|refine Gr.alloc ?_ _|refine Gr.drew ?_|refine Gr.drewN ?_ _|(refine Gr.put ?_ ?_ _;first|exact ay _|(simp;done)|omega)|(apply Gr.after;assumption)))));have gz:Gr W wz:=(by repeat (first|exact Gr.refl _|assumption|refine Gr.alloc ?_ _|refine Gr.drew ?_|refine Gr.drewN ?_ _|(refine Gr.put ?_ ?_ _;first|exact ay _|(simp;done)|omega)|(apply Gr.after;assumption)))))
 all_goals
  rename_i hh;have K1:=hh.1;have K2:=hh.2;clear hh K hbz;replace K3:=K3.mono gz
  go_wp2_with (first
   |(go_at_call 110;(with_reducible refine(qF d1 d2 (.slice e1 l1 p1) (.slice e2 l2 p2) _ (by exact qt.out.mono (g0.trans gz)) (by exact qu.out.mono (g0.trans gz)) L3.out L4.out).mono ?_);rintro e wy ⟨vd,rfl,hd,fd,hby⟩;obtain⟨ad,kd,cd,rfl,SP,-⟩:=hd.shape yg;have HD:=Lib.hid hd;have FD:=Lib.hid (gD.le (C:=W.heap.size) fd gz.size);clear hd fd;replace HA:=Lib.hid (bF.mono HA.out hby);replace HB:=Lib.hid (bF.mono HB.out hby);have gy:Gr W wy:=gz.trans hby;replace K1:=K1.mono hby;replace K2:=K2.mono hby;replace K3:=K3.mono hby)
   |(go_at_call 113;(with_reducible refine(Bw (n1*d2) (n2*d1) _ _ _ HA.out HB.out).mono ?_);rintro e wo ⟨rfl,q,rfl⟩))
  have gq:Gr wy (wy.drewN q):=(Gr.refl _).drewN _;replace K1:=K1.mono gq;replace K2:=K2.mono gq;replace K3:=K3.mono gq;replace HA:=Lib.hid (bF.mono HA.out gq);replace HB:=Lib.hid (bF.mono HB.out gq);replace HD:=Lib.hid (bF.mono HD.out gq);replace gy:=gy.trans gq;generalize wy.drewN q=wy at *
  clear gz hby gq
  go_region_held3 (λw'=>bR w' w.heap.size (.bool s1) (.slice a1 k1 c1) (.slice e1 l1 p1)) (first|(refine bR.mono K1 ?_;(repeat (first|exact Gr.refl _|assumption|refine Gr.alloc ?_ _|refine Gr.drew ?_|refine Gr.drewN ?_ _|(refine Gr.put ?_ ?_ _;first|exact ay _|(simp;done)|omega)|(apply Gr.after;assumption)));done)|(exact((Kc.other (by omega)).other (by omega)).other (by omega))) (first
   |(go_at_call 114;(with_reducible refine(NP (n1*d2) (n2*d1) (.slice aa ka ca) (.slice ab kb cb) _ (by exact HA.out.mono (by repeat (first|exact Gr.refl _|assumption|refine Gr.alloc ?_ _|refine Gr.drew ?_|refine Gr.drewN ?_ _|(refine Gr.put ?_ ?_ _;first|exact ay _|(simp;done)|omega)|(apply Gr.after;assumption)))) (by exact HB.out.mono (by repeat (first|exact Gr.refl _|assumption|refine Gr.alloc ?_ _|refine Gr.drew ?_|refine Gr.drewN ?_ _|(refine Gr.put ?_ ?_ _;first|exact ay _|(simp;done)|omega)|(apply Gr.after;assumption)))) L5.out hpq).mono ?_);rintro e wp ⟨vp,rfl,rF,fp,SJ⟩;obtain⟨ap,kp,cp,rfl,hkp,-⟩:=rF.shape B9;have HP:=Lib.hid rF;have FP:=Lib.hid (gD.le (C:=W.heap.size) fp (Gr.size (by repeat (first|exact Gr.refl _|assumption|refine Gr.alloc ?_ _|refine Gr.drew ?_|refine Gr.drewN ?_ _|(refine Gr.put ?_ ?_ _;first|exact ay _|(simp;done)|omega)|(apply Gr.after;assumption)))));clear rF fp)
   |(go_at_call 112;(with_reducible refine(DR _ _ _ _ _ _ _ _ (by omega) (by omega)).mono ?_);rintro e wc ⟨rfl,hbc⟩;have iJ:Gr wy wc:=(by repeat (first|exact Gr.refl _|assumption|refine Gr.alloc ?_ _|refine Gr.drew ?_|refine Gr.drewN ?_ _|(refine Gr.put ?_ ?_ _;first|exact ay _|(simp;done)|omega)|(apply Gr.after;assumption)));have yc:=K3.mono iJ;have Kc:=K1.mono iJ))
  all_goals
   have Cp:bF wc (.slice ap kp cp) (n1*d2-n2*d1):=by clear iJ;exact HP.out.mono (by repeat (first|exact Gr.refl _|assumption|refine Gr.alloc ?_ _|refine Gr.drew ?_|refine Gr.drewN ?_ _|(refine Gr.put ?_ ?_ _;first|exact ay _|(simp;done)|omega)|(apply Gr.after;assumption)))
   have Co:bF wc (.slice ad kd cd) (d1*d2):=HD.out.mono iJ;have yw:Gr w wc:=(g0.trans gy).trans iJ
   go_wp2
   have K':bR (((wc.setCell ⟨w.heap.size+1+1,0,none⟩ (.bool s1)).setCell ⟨w.heap.size+1+1,1,none⟩ (.slice ap kp cp)).setCell ⟨w.heap.size+1+1,2,none⟩ (.slice ad kd cd)) (w.heap.size+1+1) (.bool s1) (.slice ap kp cp) (.slice ad kd cd):=yc.yP.st1.st2;refine bodyPost_ret (v:=.agg #[.bool s1,.slice ap kp cp,.slice ad kd cd]) (by simp [results,Try.results97,go_sem,K']) rfl ?_;exact⟨_,_,rfl,((Cp.off FP.out (by omega)).off FP.out (by omega)).off FP.out (by omega),((Co.off FD.out (by omega)).off FD.out (by omega)).off FD.out (by omega),FP.out.le (by omega),FD.out.le (by omega),((yw.put (by omega) _).put (by omega) _).put (by omega) _⟩
set_option maxHeartbeats 4000000 in
theorem Yr(s1 s2:Bool)(n1 d1 n2 d2:Nat)(a1:Option Addr)(k1 c1:Nat)(e1:Option Addr)(l1 p1:Nat)(a2:Option Addr)(k2 c2:Nat)(e2:Option Addr)(l2 p2:Nat)(w:World)
  (hn1:bF w (.slice a1 k1 c1) n1) (kW:bF w (.slice e1 l1 p1) d1) (hn2:bF w (.slice a2 k2 c2) n2) (hd2:bF w (.slice e2 l2 p2) d2)
  (rj:n1<10000000000000) (oo:d1<10000000000000) (rq:n2<10000000000000) (oq:d2<10000000000000) (hc:(s1==s2)=false) (hpq:n1*d2<n2*d1):
  Calls Try.prog 97 #[.agg #[.bool s1,.slice a1 k1 c1,.slice e1 l1 p1],.agg #[.bool s2,.slice a2 k2 c2,.slice e2 l2 p2]] w (oU (qw s1 s2 (n1*d2) (n2*d1)) (pI s1 s2 (n1*d2) (n2*d1)) (d1*d2) w):=by
 have xY:=Lib.hid hn1;have xZ:=Lib.hid hn2;have qt:=Lib.hid kW;have qu:=Lib.hid hd2;have L1:=Lib.hid (iP (n:=n1) (by omega));have L2:=Lib.hid (iP (n:=n2) (by omega));have L3:=Lib.hid (iP (n:=d1) (by omega));have L4:=Lib.hid (iP (n:=d2) (by omega));have Rl:n1*d2≤10000000000000*10000000000000:=Nat.mul_le_mul (Nat.le_of_lt rj) (Nat.le_of_lt oq);have Rk:n2*d1≤10000000000000*10000000000000:=Nat.mul_le_mul (Nat.le_of_lt rq) (Nat.le_of_lt oo);have tu:n1*d2<1000000000000000000000000000:=by omega
 have wD:n2*d1<1000000000000000000000000000:=by omega
 have yg:d1*d2<1000000000000000000000000000:=Nat.lt_of_le_of_lt (Nat.mul_le_mul (Nat.le_of_lt oo) (Nat.le_of_lt oq)) (by omega);have L5:=Lib.hid (iP tu);have L6:=Lib.hid (iP wD);clear hn1 hn2 kW hd2;have mU:s1≠s2:=by simpa using hc
 rw[show qw s1 s2 (n1*d2) (n2*d1)=s2 by rw[qw,aI mU,aI (by omega)],show pI s1 s2 (n1*d2) (n2*d1)=n2*d1-n1*d2 by rw[pI,aI mU,aI (by omega)]];clear mU;have ack:decide (0≤l9 (n1*d2) (n2*d1))=false:=by rw[l9,aK hpq];rfl
 have B9:(n2*d1-n1*d2)<1000000000000000000000000000:=by omega
 go_enter Try.func97,Try.ntmps97
 go_wp2
 obtain⟨W,hW⟩:∃W,W=((w.alloc (.cells #[.bool s1,.slice a1 k1 c1,.slice e1 l1 p1] 132)).alloc (.cells #[.bool s2,.slice a2 k2 c2,.slice e2 l2 p2] 132)).alloc (.cells #[.bool false,.slice none 0 0,.slice none 0 0] 132):=⟨_,rfl⟩
 have K:nr W w.heap.size (w.heap.size+1) (.bool s1) (.slice a1 k1 c1) (.slice e1 l1 p1) (.bool s2) (.slice a2 k2 c2) (.slice e2 l2 p2):=by subst hW;exact⟨bR.of (by repeat (first|exact dJ _ _|(refine kg _ _ _ ?_;(simp;done))|(refine jX _ _ _ _ (by simp;try omega) ?_))),bR.of (by repeat (first|exact dJ _ _|(refine kg _ _ _ ?_;(simp;done))|(refine jX _ _ _ _ (by simp;try omega) ?_)))⟩
 have K3:bR W (w.heap.size+1+1) (.bool false) (.slice none 0 0) (.slice none 0 0):=by subst hW;exact bR.of (by repeat (first|exact dJ _ _|(refine kg _ _ _ ?_;(simp;done))|(refine jX _ _ _ _ (by simp;try omega) ?_)))
 have g0:Gr w W:=by subst hW;exact(by repeat (first|exact Gr.refl _|assumption|refine Gr.alloc ?_ _|refine Gr.drew ?_|refine Gr.drewN ?_ _|(refine Gr.put ?_ ?_ _;first|exact ay _|(simp;done)|omega)|(apply Gr.after;assumption)))
 have hsz:w.heap.size+3=W.heap.size:=by subst hW;simp
 rw[←hW];clear hW
 go_region_held3 (λw'=>nr w' w.heap.size (w.heap.size+1) (.bool s1) (.slice a1 k1 c1) (.slice e1 l1 p1) (.bool s2) (.slice a2 k2 c2) (.slice e2 l2 p2)) (first|(refine nr.mono K ?_;(repeat (first|exact Gr.refl _|assumption|refine Gr.alloc ?_ _|refine Gr.drew ?_|refine Gr.drewN ?_ _|(refine Gr.put ?_ ?_ _;first|exact ay _|(simp;done)|omega)|(apply Gr.after;assumption)));done)|(exact⟨((Fu.other (by omega)).other (by omega)).other (by omega),((Fv.other (by omega)).other (by omega)).other (by omega)⟩)) (first
  |(go_at_call 110;(with_reducible refine(qF n1 d2 (.slice a1 k1 c1) (.slice e2 l2 p2) _ (by exact xY.out.mono (by repeat (first|exact Gr.refl _|assumption|refine Gr.alloc ?_ _|refine Gr.drew ?_|refine Gr.drewN ?_ _|(refine Gr.put ?_ ?_ _;first|exact ay _|(simp;done)|omega)|(apply Gr.after;assumption)))) (by exact qu.out.mono (by repeat (first|exact Gr.refl _|assumption|refine Gr.alloc ?_ _|refine Gr.drew ?_|refine Gr.drewN ?_ _|(refine Gr.put ?_ ?_ _;first|exact ay _|(simp;done)|omega)|(apply Gr.after;assumption)))) L1.out L4.out).mono ?_);rintro e wz ⟨va,rfl,ha,fa,hbz⟩;obtain⟨aa,ka,ca,rfl,hka,-⟩:=ha.shape tu;have HA:=Lib.hid ha;have FA:=Lib.hid (gD.le (C:=W.heap.size) fa (Gr.size (by repeat (first|exact Gr.refl _|assumption|refine Gr.alloc ?_ _|refine Gr.drew ?_|refine Gr.drewN ?_ _|(refine Gr.put ?_ ?_ _;first|exact ay _|(simp;done)|omega)|(apply Gr.after;assumption)))));clear ha fa;(try replace HB:=Lib.hid (bF.mono (w':=wz) HB.out (by repeat (first|exact Gr.refl _|assumption|refine Gr.alloc ?_ _|refine Gr.drew ?_|refine Gr.drewN ?_ _|(refine Gr.put ?_ ?_ _;first|exact ay _|(simp;done)|omega)|(apply Gr.after;assumption)))));have gz:Gr W wz:=(by repeat (first|exact Gr.refl _|assumption|refine Gr.alloc ?_ _|refine Gr.drew ?_|refine Gr.drewN ?_ _|(refine Gr.put ?_ ?_ _;first|exact ay _|(simp;done)|omega)|(apply Gr.after;assumption))))
  |(go_at_call 110;(with_reducible refine(qF n2 d1 (.slice a2 k2 c2) (.slice e1 l1 p1) _ (by exact xZ.out.mono (by repeat (first|exact Gr.refl _|assumption|refine Gr.alloc ?_ _|refine Gr.drew ?_|refine Gr.drewN ?_ _|(refine Gr.put ?_ ?_ _;first|exact ay _|(simp;done)|omega)|(apply Gr.after;assumption)))) (by exact qt.out.mono (by repeat (first|exact Gr.refl _|assumption|refine Gr.alloc ?_ _|refine Gr.drew ?_|refine Gr.drewN ?_ _|(refine Gr.put ?_ ?_ _;first|exact ay _|(simp;done)|omega)|(apply Gr.after;assumption)))) L2.out L3.out).mono ?_);rintro e wz ⟨vb,rfl,hb,fb,hbz⟩;obtain⟨ab,kb,cb,rfl,hkb,-⟩:=hb.shape wD;have HB:=Lib.hid hb;have FB:=Lib.hid (gD.le (C:=W.heap.size) fb (Gr.size (by repeat (first|exact Gr.refl _|assumption|refine Gr.alloc ?_ _|refine Gr.drew ?_|refine Gr.drewN ?_ _|(refine Gr.put ?_ ?_ _;first|exact ay _|(simp;done)|omega)|(apply Gr.after;assumption)))));clear hb fb;(try replace HA:=Lib.hid (bF.mono (w':=wz) HA.out (by repeat (first|exact Gr.refl _|assumption|refine Gr.alloc ?_ _|refine Gr.drew ?_|refine Gr.drewN ?_ _|(refine Gr.put ?_ ?_ _;first|exact ay _|(simp;done)|omega)|(apply Gr.after;assumption)))));have gz:Gr W wz:=(by repeat (first|exact Gr.refl _|assumption|refine Gr.alloc ?_ _|refine Gr.drew ?_|refine Gr.drewN ?_ _|(refine Gr.put ?_ ?_ _;first|exact ay _|(simp;done)|omega)|(apply Gr.after;assumption)))))
 all_goals
  rename_i hh;have K1:=hh.1;have K2:=hh.2;clear hh K hbz;replace K3:=K3.mono gz
  go_wp2_with (first
   |(go_at_call 110;(with_reducible refine(qF d1 d2 (.slice e1 l1 p1) (.slice e2 l2 p2) _ (by exact qt.out.mono (g0.trans gz)) (by exact qu.out.mono (g0.trans gz)) L3.out L4.out).mono ?_);rintro e wy ⟨vd,rfl,hd,fd,hby⟩;obtain⟨ad,kd,cd,rfl,SP,-⟩:=hd.shape yg;have HD:=Lib.hid hd;have FD:=Lib.hid (gD.le (C:=W.heap.size) fd gz.size);clear hd fd;replace HA:=Lib.hid (bF.mono HA.out hby);replace HB:=Lib.hid (bF.mono HB.out hby);have gy:Gr W wy:=gz.trans hby;replace K1:=K1.mono hby;replace K2:=K2.mono hby;replace K3:=K3.mono hby)
   |(go_at_call 113;(with_reducible refine(Bw (n1*d2) (n2*d1) _ _ _ HA.out HB.out).mono ?_);rintro e wo ⟨rfl,q,rfl⟩))
  have gq:Gr wy (wy.drewN q):=(Gr.refl _).drewN _;replace K1:=K1.mono gq;replace K2:=K2.mono gq;replace K3:=K3.mono gq;replace HA:=Lib.hid (bF.mono HA.out gq);replace HB:=Lib.hid (bF.mono HB.out gq);replace HD:=Lib.hid (bF.mono HD.out gq);replace gy:=gy.trans gq;generalize wy.drewN q=wy at *
  clear gz hby gq
  go_region_held3 (λw'=>bR w' (w.heap.size+1) (.bool s2) (.slice a2 k2 c2) (.slice e2 l2 p2)) (first|(refine bR.mono K2 ?_;(repeat (first|exact Gr.refl _|assumption|refine Gr.alloc ?_ _|refine Gr.drew ?_|refine Gr.drewN ?_ _|(refine Gr.put ?_ ?_ _;first|exact ay _|(simp;done)|omega)|(apply Gr.after;assumption)));done)|(exact((Kc.other (by omega)).other (by omega)).other (by omega))) (first
   |(go_at_call 114;(with_reducible refine(NP (n2*d1) (n1*d2) (.slice ab kb cb) (.slice aa ka ca) _ (by exact HB.out.mono (by repeat (first|exact Gr.refl _|assumption|refine Gr.alloc ?_ _|refine Gr.drew ?_|refine Gr.drewN ?_ _|(refine Gr.put ?_ ?_ _;first|exact ay _|(simp;done)|omega)|(apply Gr.after;assumption)))) (by exact HA.out.mono (by repeat (first|exact Gr.refl _|assumption|refine Gr.alloc ?_ _|refine Gr.drew ?_|refine Gr.drewN ?_ _|(refine Gr.put ?_ ?_ _;first|exact ay _|(simp;done)|omega)|(apply Gr.after;assumption)))) L6.out (Nat.le_of_lt hpq)).mono ?_);rintro e wp ⟨vp,rfl,rF,fp,SJ⟩;obtain⟨ap,kp,cp,rfl,hkp,-⟩:=rF.shape B9;have HP:=Lib.hid rF;have FP:=Lib.hid (gD.le (C:=W.heap.size) fp (Gr.size (by repeat (first|exact Gr.refl _|assumption|refine Gr.alloc ?_ _|refine Gr.drew ?_|refine Gr.drewN ?_ _|(refine Gr.put ?_ ?_ _;first|exact ay _|(simp;done)|omega)|(apply Gr.after;assumption)))));clear rF fp)
   |(go_at_call 112;(with_reducible refine(DR _ _ _ _ _ _ _ _ (by omega) (by omega)).mono ?_);rintro e wc ⟨rfl,hbc⟩;have iJ:Gr wy wc:=(by repeat (first|exact Gr.refl _|assumption|refine Gr.alloc ?_ _|refine Gr.drew ?_|refine Gr.drewN ?_ _|(refine Gr.put ?_ ?_ _;first|exact ay _|(simp;done)|omega)|(apply Gr.after;assumption)));have yc:=K3.mono iJ;have Kc:=K2.mono iJ))
  all_goals
   have Cp:bF wc (.slice ap kp cp) (n2*d1-n1*d2):=by clear iJ;exact HP.out.mono (by repeat (first|exact Gr.refl _|assumption|refine Gr.alloc ?_ _|refine Gr.drew ?_|refine Gr.drewN ?_ _|(refine Gr.put ?_ ?_ _;first|exact ay _|(simp;done)|omega)|(apply Gr.after;assumption)))
   have Co:bF wc (.slice ad kd cd) (d1*d2):=HD.out.mono iJ;have yw:Gr w wc:=(g0.trans gy).trans iJ
   go_wp2
   have K':bR (((wc.setCell ⟨w.heap.size+1+1,0,none⟩ (.bool s2)).setCell ⟨w.heap.size+1+1,1,none⟩ (.slice ap kp cp)).setCell ⟨w.heap.size+1+1,2,none⟩ (.slice ad kd cd)) (w.heap.size+1+1) (.bool s2) (.slice ap kp cp) (.slice ad kd cd):=yc.yP.st1.st2;refine bodyPost_ret (v:=.agg #[.bool s2,.slice ap kp cp,.slice ad kd cd]) (by simp [results,Try.results97,go_sem,K']) rfl ?_;exact⟨_,_,rfl,((Cp.off FP.out (by omega)).off FP.out (by omega)).off FP.out (by omega),((Co.off FD.out (by omega)).off FD.out (by omega)).off FD.out (by omega),FP.out.le (by omega),FD.out.le (by omega),((yw.put (by omega) _).put (by omega) _).put (by omega) _⟩
theorem Xt(s1 s2:Bool)(n1 d1 n2 d2:Nat)(a1:Option Addr)(k1 c1:Nat)(e1:Option Addr)(l1 p1:Nat)(a2:Option Addr)(k2 c2:Nat)(e2:Option Addr)(l2 p2:Nat)(w:World)
  (hn1:bF w (.slice a1 k1 c1) n1) (kW:bF w (.slice e1 l1 p1) d1) (hn2:bF w (.slice a2 k2 c2) n2) (hd2:bF w (.slice e2 l2 p2) d2)
  (rj:n1<10000000000000) (oo:d1<10000000000000) (rq:n2<10000000000000) (oq:d2<10000000000000):
  Calls Try.prog 97 #[.agg #[.bool s1,.slice a1 k1 c1,.slice e1 l1 p1],.agg #[.bool s2,.slice a2 k2 c2,.slice e2 l2 p2]] w (oU (qw s1 s2 (n1*d2) (n2*d1)) (pI s1 s2 (n1*d2) (n2*d1)) (d1*d2) w):=by
 by_cases hc:s1=s2
 ·exact OC s1 s2 n1 d1 n2 d2 a1 k1 c1 e1 l1 p1 a2 k2 c2 e2 l2 p2 w hn1 kW hn2 hd2 rj oo rq oq hc
 ·rcases Nat.lt_or_ge (n1*d2) (n2*d1)with h|h
  ·exact Yr s1 s2 n1 d1 n2 d2 a1 k1 c1 e1 l1 p1 a2 k2 c2 e2 l2 p2 w hn1 kW hn2 hd2 rj oo rq oq (by simpa using hc) h
  ·exact Yq s1 s2 n1 d1 n2 d2 a1 k1 c1 e1 l1 p1 a2 k2 c2 e2 l2 p2 w hn1 kW hn2 hd2 rj oo rq oq (by simpa using hc) h
end
section
open Go.RowKit
set_option maxHeartbeats 2000000 in
theorem Wp(n d:Nat)(a1:Option Addr)(k1 c1:Nat)(e1:Option Addr)(l1 p1:Nat)(w:World)
  (hn:bF w (.slice a1 k1 c1) n) (hd:bF w (.slice e1 l1 p1) d) (bn:n<1000000000000000000) (Kv:0<d) (bd:d<1000000000):
  Calls Try.prog 115 #[.agg #[.bool false,.slice a1 k1 c1,.slice e1 l1 p1]] w λe w'=>e=.returned (.int .i64 ((n / d:Nat):Int))∧Gr w w':=by
 have HN:=Lib.hid hn;have HD:=Lib.hid hd;clear hn hd;have L1:=Lib.hid (iP (n:=n) (by omega));have K:bR (w.alloc (.cells #[.bool false,.slice a1 k1 c1,.slice e1 l1 p1] 132)) w.heap.size (.bool false) (.slice a1 k1 c1) (.slice e1 l1 p1):=bR.of (by repeat (first|exact dJ _ _|(refine kg _ _ _ ?_;(simp;done))|(refine jX _ _ _ _ (by simp;try omega) ?_)));have g0:Gr w (w.alloc (.cells #[.bool false,.slice a1 k1 c1,.slice e1 l1 p1] 132)):=(by repeat (first|exact Gr.refl _|assumption|refine Gr.alloc ?_ _|refine Gr.drew ?_|refine Gr.drewN ?_ _|(refine Gr.put ?_ ?_ _;first|exact ay _|(simp;done)|omega)|(apply Gr.after;assumption)))
 have hqn:n / d≤n:=Nat.div_le_self n d;have hqm:n % d<d:=Nat.mod_lt n Kv;generalize hQ:n / d=Q at *
 generalize hR:n % d=R at *
 have HQ:=Lib.hid hQ;have HRR:=Lib.hid hR;clear hQ hR
 go_enter Try.func115,Try.ntmps115
 go_wp2_with (first
   |(go_at_call 120;(with_reducible refine(VI n d _ _ _ (by exact HN.out.mono g0) (by exact HD.out.mono g0) L1.out Kv bd).mono ?_);rintro e w1 ⟨v1,v2,rfl,h1,h2,fZ⟩;rw[HQ.out]at h1;rw[HRR.out]at h2;have H1:=Lib.hid h1;have H2:=Lib.hid h2;clear h1 h2;replace K:=K.mono fZ)
   |(go_at_call 121;(with_reducible refine(VV Q _ _ H1.out (by omega)).mono ?_);rintro e w2 ⟨rfl,rfl⟩))
 go_ret
 exact⟨rfl,g0.trans fZ⟩
set_option maxHeartbeats 2000000 in
theorem aaS(w:World):Calls Try.prog 83 #[.int .i64 1,.int .i64 2] w (oU false 1 2 w):=OK 1 2 w (by omega) (by omega)
theorem Wt(n d:Nat)(a1:Option Addr)(k1 c1:Nat)(e1:Option Addr)(l1 p1:Nat)(w:World)
  (hn:bF w (.slice a1 k1 c1) n) (hd:bF w (.slice e1 l1 p1) d) (bn:n<10000000000000) (Kv:0<d) (bd:d<500000000):
  Calls Try.prog 99 #[.agg #[.bool false,.slice a1 k1 c1,.slice e1 l1 p1]] w λe w'=>e=.returned (.int .i64 (((n*2+1*d) / (d*2):Nat):Int))∧Gr w w':=by
 have HN:=Lib.hid hn;have HD:=Lib.hid hd;clear hn hd
 go_enter Try.func99,Try.ntmps99
 go_wp2
 obtain⟨W,hW⟩:∃W,W=w.alloc (.cells #[.bool false,.slice a1 k1 c1,.slice e1 l1 p1] 132):=⟨_,rfl⟩
 have K:bR W w.heap.size (.bool false) (.slice a1 k1 c1) (.slice e1 l1 p1):=by subst hW;exact bR.of (by repeat (first|exact dJ _ _|(refine kg _ _ _ ?_;(simp;done))|(refine jX _ _ _ _ (by simp;try omega) ?_)))
 have g0:Gr w W:=by subst hW;exact(by repeat (first|exact Gr.refl _|assumption|refine Gr.alloc ?_ _|refine Gr.drew ?_|refine Gr.drewN ?_ _|(refine Gr.put ?_ ?_ _;first|exact ay _|(simp;done)|omega)|(apply Gr.after;assumption)))
 rw[←hW];clear hW
 go_region_held3 (λw'=>bR w' w.heap.size (.bool false) (.slice a1 k1 c1) (.slice e1 l1 p1)) ((refine bR.mono K ?_;(repeat (first|exact Gr.refl _|assumption|refine Gr.alloc ?_ _|refine Gr.drew ?_|refine Gr.drewN ?_ _|(refine Gr.put ?_ ?_ _;first|exact ay _|(simp;done)|omega)|(apply Gr.after;assumption)));done)) (first
  |(go_at_call 83;(with_reducible refine(aaS _).mono ?_);rintro e w1 ⟨v1,u1,rfl,h1,h2,-,-,fZ⟩;obtain⟨a2,k2,c2,rfl,-,-⟩:=h1.shape (by omega);obtain⟨e2,l2,p2,rfl,-,-⟩:=h2.shape (by omega);have H1:=Lib.hid h1;have H2:=Lib.hid h2;clear h1 h2)
  |(go_at_call 97;(with_reducible refine(OC false false n d 1 2 a1 k1 c1 e1 l1 p1 a2 k2 c2 e2 l2 p2 _ (by exact HN.out.mono (by repeat (first|exact Gr.refl _|assumption|refine Gr.alloc ?_ _|refine Gr.drew ?_|refine Gr.drewN ?_ _|(refine Gr.put ?_ ?_ _;first|exact ay _|(simp;done)|omega)|(apply Gr.after;assumption)))) (by exact HD.out.mono (by repeat (first|exact Gr.refl _|assumption|refine Gr.alloc ?_ _|refine Gr.drew ?_|refine Gr.drewN ?_ _|(refine Gr.put ?_ ?_ _;first|exact ay _|(simp;done)|omega)|(apply Gr.after;assumption)))) (by exact H1.out.mono (by repeat (first|exact Gr.refl _|assumption|refine Gr.alloc ?_ _|refine Gr.drew ?_|refine Gr.drewN ?_ _|(refine Gr.put ?_ ?_ _;first|exact ay _|(simp;done)|omega)|(apply Gr.after;assumption)))) (by exact H2.out.mono (by repeat (first|exact Gr.refl _|assumption|refine Gr.alloc ?_ _|refine Gr.drew ?_|refine Gr.drewN ?_ _|(refine Gr.put ?_ ?_ _;first|exact ay _|(simp;done)|omega)|(apply Gr.after;assumption)))) bn (by omega) (by omega) (by omega) rfl).mono ?_);rintro e w2 ⟨v3,u3,rfl,h3,h4,-,-,jk⟩;rw[show pI false false (n*2) (1*d)=n*2+1*d from aK rfl]at h3;obtain⟨a3,k3,c3,rfl,-,-⟩:=h3.shape (by omega);obtain⟨e3,l3,p3,rfl,-,-⟩:=h4.shape (by omega);have H3:=Lib.hid h3;have H4:=Lib.hid h4;clear h3 h4;rw[show qw false false (n*2) (1*d)=false from aK rfl])
  |(go_at_call 115;(with_reducible refine(Wp (n*2+1*d) (d*2) a3 k3 c3 e3 l3 p3 _ (by exact H3.out.mono (by repeat (first|exact Gr.refl _|assumption|refine Gr.alloc ?_ _|refine Gr.drew ?_|refine Gr.drewN ?_ _|(refine Gr.put ?_ ?_ _;first|exact ay _|(simp;done)|omega)|(apply Gr.after;assumption)))) (by exact H4.out.mono (by repeat (first|exact Gr.refl _|assumption|refine Gr.alloc ?_ _|refine Gr.drew ?_|refine Gr.drewN ?_ _|(refine Gr.put ?_ ?_ _;first|exact ay _|(simp;done)|omega)|(apply Gr.after;assumption)))) (by omega) (by omega) (by omega)).mono ?_);rintro e w3 ⟨rfl,KT⟩))
 all_goals
  go_wp2
  go_ret
  exact⟨nO (by simp),(by repeat (first|exact Gr.refl _|assumption|refine Gr.alloc ?_ _|refine Gr.drew ?_|refine Gr.drewN ?_ _|(refine Gr.put ?_ ?_ _;first|exact ay _|(simp;done)|omega)|(apply Gr.after;assumption)))⟩
theorem Nu{a b c d:Int}(h:a=c)(k:b=d):a / b=c / d:=by rw[h,k]
theorem Y0(x:Int)(m:Nat)(w:World)(h:x=m)(hm:m≤9223372036854775807):Calls Try.prog 96 #[.int .i64 x] w (oU false m 1 w):=h▸Of m w hm
theorem X6(x:Int)(m:Nat)(w:World)(h:x=-(m:Int))(hm:m≤9223372036854775807)(h0:0<m):Calls Try.prog 96 #[.int .i64 x] w (oU true m 1 w):=h▸X5 m w hm h0
theorem OI(A B p v D:Nat)(sg:Bool)(num:Nat)(a1:Option Addr)(k1 c1:Nat)(e1:Option Addr)(l1 p1:Nat)(w:World)
  (hn:bF w (.slice a1 k1 c1) p) (hd:bF w (.slice e1 l1 p1) v) (bA:A≤65535) (bD:D≤65535) (bB:B≤65535) (bp:p≤v) (Kw:0<v) (bv:v≤36000000)
  (aaG:Hid (∀W,Calls Try.prog 96 #[.int .i64 ((B:Int) -(A:Int))] W (oU sg D 1 W))) (hS:Hid (qw false sg (A*(1*v)) (D*p*1)=false)) (hN:Hid (pI false sg (A*(1*v)) (D*p*1)=num)) (abG:num<10000000000000):
  Calls Try.prog 82 #[.int .i64 A,.int .i64 B,.agg #[.bool false,.slice a1 k1 c1,.slice e1 l1 p1]] w λe w'=>e=.returned (.int .i64 (((num*2+1*(1*(1*v))) / (1*(1*v)*2):Nat):Int))∧Gr w w':=by
 have HN:=Lib.hid hn;have HD:=Lib.hid hd;clear hn hd;have Sa:D*p≤65535*36000000:=Nat.mul_le_mul bD (by omega);have hw1:IntKind.i64.wrap ((B:Int) -(A:Int))=(B:Int) -(A:Int):=sD (by omega)
 go_enter Try.func82,Try.ntmps82
 go_wp2
 obtain⟨W,hW⟩:∃W,W=w.alloc (.cells #[.bool false,.slice a1 k1 c1,.slice e1 l1 p1] 132):=⟨_,rfl⟩
 have K:bR W w.heap.size (.bool false) (.slice a1 k1 c1) (.slice e1 l1 p1):=by subst hW;exact bR.of (by repeat (first|exact dJ _ _|(refine kg _ _ _ ?_;(simp;done))|(refine jX _ _ _ _ (by simp;try omega) ?_)))
 have g0:Gr w W:=by subst hW;exact(by repeat (first|exact Gr.refl _|assumption|refine Gr.alloc ?_ _|refine Gr.drew ?_|refine Gr.drewN ?_ _|(refine Gr.put ?_ ?_ _;first|exact ay _|(simp;done)|omega)|(apply Gr.after;assumption)))
 rw[←hW];clear hW
 go_region_held3 (λw'=>bR w' w.heap.size (.bool false) (.slice a1 k1 c1) (.slice e1 l1 p1)) ((refine bR.mono K ?_;(repeat (first|exact Gr.refl _|assumption|refine Gr.alloc ?_ _|refine Gr.drew ?_|refine Gr.drewN ?_ _|(refine Gr.put ?_ ?_ _;first|exact ay _|(simp;done)|omega)|(apply Gr.after;assumption)));done)) (first
  |(go_at_call 96;(with_reducible refine(Of A _ (by omega)).mono ?_);rintro e wa ⟨v2,u2,rfl,h1,h2,-,-,hba⟩;obtain⟨a2,k2,c2,rfl,-,-⟩:=h1.shape (by omega);obtain⟨e2,l2,p2,rfl,-,-⟩:=h2.shape (by omega);have H1:=Lib.hid h1;have H2:=Lib.hid h2;clear h1 h2)
  |(go_at_call 96;(with_reducible refine(aaG.out _).mono ?_);rintro e wb ⟨v3,u3,rfl,h3,h4,-,-,SG⟩;obtain⟨a3,k3,c3,rfl,-,-⟩:=h3.shape (by omega);obtain⟨e3,l3,p3,rfl,-,-⟩:=h4.shape (by omega);have H3:=Lib.hid h3;have H4:=Lib.hid h4;clear h3 h4)
  |(go_at_call 98;(with_reducible refine(Wu sg false D 1 p v a3 k3 c3 e3 l3 p3 a1 k1 c1 e1 l1 p1 _ (by exact H3.out.mono (by repeat (first|exact Gr.refl _|assumption|refine Gr.alloc ?_ _|refine Gr.drew ?_|refine Gr.drewN ?_ _|(refine Gr.put ?_ ?_ _;first|exact ay _|(simp;done)|omega)|(apply Gr.after;assumption)))) (by exact H4.out.mono (by repeat (first|exact Gr.refl _|assumption|refine Gr.alloc ?_ _|refine Gr.drew ?_|refine Gr.drewN ?_ _|(refine Gr.put ?_ ?_ _;first|exact ay _|(simp;done)|omega)|(apply Gr.after;assumption)))) (by exact HN.out.mono (by repeat (first|exact Gr.refl _|assumption|refine Gr.alloc ?_ _|refine Gr.drew ?_|refine Gr.drewN ?_ _|(refine Gr.put ?_ ?_ _;first|exact ay _|(simp;done)|omega)|(apply Gr.after;assumption)))) (by exact HD.out.mono (by repeat (first|exact Gr.refl _|assumption|refine Gr.alloc ?_ _|refine Gr.drew ?_|refine Gr.drewN ?_ _|(refine Gr.put ?_ ?_ _;first|exact ay _|(simp;done)|omega)|(apply Gr.after;assumption)))) (by omega) (by omega) (by omega) (by omega)).mono ?_);rintro e wc ⟨v4,u4,rfl,h5,h6,-,-,hbc⟩;obtain⟨a4,k4,c4,rfl,-,-⟩:=h5.shape (by omega);obtain⟨e4,l4,p4,rfl,-,-⟩:=h6.shape (by omega);have H5:=Lib.hid h5;have H6:=Lib.hid h6;clear h5 h6;rw[show(sg !=false)=sg by cases sg<;>rfl])
  |(go_at_call 97;(with_reducible refine(Xt false sg A 1 (D*p) (1*v) a2 k2 c2 e2 l2 p2 a4 k4 c4 e4 l4 p4 _ (by exact H1.out.mono (by repeat (first|exact Gr.refl _|assumption|refine Gr.alloc ?_ _|refine Gr.drew ?_|refine Gr.drewN ?_ _|(refine Gr.put ?_ ?_ _;first|exact ay _|(simp;done)|omega)|(apply Gr.after;assumption)))) (by exact H2.out.mono (by repeat (first|exact Gr.refl _|assumption|refine Gr.alloc ?_ _|refine Gr.drew ?_|refine Gr.drewN ?_ _|(refine Gr.put ?_ ?_ _;first|exact ay _|(simp;done)|omega)|(apply Gr.after;assumption)))) (by exact H5.out.mono (by repeat (first|exact Gr.refl _|assumption|refine Gr.alloc ?_ _|refine Gr.drew ?_|refine Gr.drewN ?_ _|(refine Gr.put ?_ ?_ _;first|exact ay _|(simp;done)|omega)|(apply Gr.after;assumption)))) (by exact H6.out.mono (by repeat (first|exact Gr.refl _|assumption|refine Gr.alloc ?_ _|refine Gr.drew ?_|refine Gr.drewN ?_ _|(refine Gr.put ?_ ?_ _;first|exact ay _|(simp;done)|omega)|(apply Gr.after;assumption)))) (by omega) (by omega) (by omega) (by omega)).mono ?_);rintro e wd ⟨v5,u5,rfl,h7,h8,-,-,hbd⟩;rw[hN.out]at h7;rw[hS.out];obtain⟨a5,k5,c5,rfl,-,-⟩:=h7.shape (by omega);obtain⟨e5,l5,p5,rfl,-,-⟩:=h8.shape (by omega);have H7:=Lib.hid h7;have H8:=Lib.hid h8;clear h7 h8)
  |(go_at_call 99;(with_reducible refine(Wt num (1*(1*v)) a5 k5 c5 e5 l5 p5 _ (by exact H7.out.mono (by repeat (first|exact Gr.refl _|assumption|refine Gr.alloc ?_ _|refine Gr.drew ?_|refine Gr.drewN ?_ _|(refine Gr.put ?_ ?_ _;first|exact ay _|(simp;done)|omega)|(apply Gr.after;assumption)))) (by exact H8.out.mono (by repeat (first|exact Gr.refl _|assumption|refine Gr.alloc ?_ _|refine Gr.drew ?_|refine Gr.drewN ?_ _|(refine Gr.put ?_ ?_ _;first|exact ay _|(simp;done)|omega)|(apply Gr.after;assumption)))) abG (by omega) (by omega)).mono ?_);rintro e we ⟨rfl,SH⟩))
 all_goals
  go_wp2
  go_ret
  exact⟨nO (by simp),(by repeat (first|exact Gr.refl _|assumption|refine Gr.alloc ?_ _|refine Gr.drew ?_|refine Gr.drewN ?_ _|(refine Gr.put ?_ ?_ _;first|exact ay _|(simp;done)|omega)|(apply Gr.after;assumption)))⟩
theorem YC(A B p v:Nat)(a1:Option Addr)(k1 c1:Nat)(e1:Option Addr)(l1 p1:Nat)(w:World)
  (hn:bF w (.slice a1 k1 c1) p) (hd:bF w (.slice e1 l1 p1) v) (bA:A≤65535) (bB:B≤65535) (bp:p≤v) (Kw:0<v) (bv:v≤36000000):
  Calls Try.prog 82 #[.int .i64 A,.int .i64 B,.agg #[.bool false,.slice a1 k1 c1,.slice e1 l1 p1]] w λe w'=>e=.returned (.int .i64 (kq ((A:Int)*v+((B:Int) -A)*p) v))∧Gr w w':=by
 have bAv:A*v≤65535*36000000:=Nat.mul_le_mul bA bv;by_cases h:A≤B
 ·obtain⟨D,rfl⟩:=Nat.exists_eq_add_of_le h;have Sa:D*p≤65535*36000000:=Nat.mul_le_mul (by omega) (by omega)
  have e:kq ((A:Int)*v+(((A+D:Nat):Int) -A)*p) v=((((A*v+D*p)*2+1*(1*(1*v))) / (1*(1*v)*2):Nat):Int):=by rw[show(((A+D:Nat):Int) -A)=(D:Int) by omega,←Int.natCast_mul,←Int.natCast_mul];generalize A*v=x;generalize D*p=y;unfold kq;simp only[Nat.one_mul];rw[Int.natCast_ediv];exact Nu (by omega) (by omega)
  rw[e];exact OI A (A+D) p v D false (A*v+D*p) a1 k1 c1 e1 l1 p1 w hn hd bA (by omega) bB bp Kw bv (Lib.hid λW=>Y0 _ D W (by omega) (by omega)) (Lib.hid (aK rfl)) (Lib.hid (by rw[pI,aK rfl,Nat.one_mul,Nat.mul_one])) (by omega)
 ·obtain⟨D,hD⟩:=Nat.exists_eq_add_of_lt (Nat.lt_of_not_le h);have hD':A=B+(D+1):=by omega
  have Sa:(D+1)*p≤65535*36000000:=Nat.mul_le_mul (by omega) (by omega);have hle:(D+1)*p≤A*v:=Nat.mul_le_mul (by omega) bp
  have e:kq ((A:Int)*v+((B:Int) -A)*p) v=((((A*v-(D+1)*p)*2+1*(1*(1*v))) / (1*(1*v)*2):Nat):Int):=by
   rw[show((B:Int) -A)=-((D+1:Nat):Int) by omega,Int.neg_mul,←Int.natCast_mul,←Int.natCast_mul];generalize A*v=x at *
   generalize (D+1)*p=y at *
   unfold kq;simp only[Nat.one_mul];rw[Int.natCast_ediv];exact Nu (by omega) (by omega)
  rw[e];exact OI A B p v (D+1) true (A*v-(D+1)*p) a1 k1 c1 e1 l1 p1 w hn hd bA (by omega) bB bp Kw bv (Lib.hid λW=>X6 _ (D+1) W (by omega) (by omega) (by omega)) (Lib.hid (by rw[qw,aI (by decide),Nat.one_mul,Nat.mul_one,aK hle])) (Lib.hid (by rw[pI,aI (by decide),Nat.one_mul,Nat.mul_one,aK hle])) (by omega)
end
section
open Go.RowKit
theorem VQ(n:Int)(w:World):
  Calls Try.prog 37 #[.int .i64 n] w λe w'=>e=.returned (.bool (eF n 0 65535))∧w=w':=by
 go_enter Try.func37,Try.ntmps37
 go_wp2_with (go_at_call 35;refine(zC _ _ _ _).mono ?_;rintro e w' ⟨rfl,rfl⟩)
 go_ret
 exact⟨rfl,rfl⟩
theorem Vp(n:Int)(w:World):
  Calls Try.prog 45 #[.int .i64 n] w λe w'=>e=.returned (.bool (eF n 0 65535))∧w=w':=by
 go_enter Try.func45,Try.ntmps45
 go_wp2_with (go_at_call 43;refine(MR _ _ _ _).mono ?_;rintro e w' ⟨rfl,rfl⟩)
 go_ret
 exact⟨rfl,rfl⟩
end
section
open Go.RowKit
abbrev uf(w:World)(b o p:Nat)(x y:Value):Prop:=w.cell? ⟨b,o,none⟩=some x∧w.cell? ⟨b,p,none⟩=some y
theorem uf.mono{w w':World}{b o p:Nat}{x y:Value}(h:uf w b o p x y)(g:Gr w w'):uf w' b o p x y:=⟨g.cell h.1,g.cell h.2⟩
theorem Vq(n:Int)(w:World):
  Calls Try.prog 92 #[.int .i64 n] w λe w'=>e=.returned (.bool (eF n 0 65535))∧w=w':=by
 go_enter Try.func92,Try.ntmps92
 go_wp2_with (go_at_call 35;refine(zC _ _ _ _).mono ?_;rintro e w' ⟨rfl,rfl⟩)
 go_ret
 exact⟨rfl,rfl⟩
theorem XC(l:List Int)(v:Value)(w:World)(hl:(ck bu).is w [v] l)(hv:∀x∈l,eF x 0 65535=true):
  Calls Try.prog 79 #[v] w λe w'=>e=.returned (.int .i64 0)∧w=w':=by
 obtain⟨a,n,cap,rfl,HN,hn,hcap⟩:=i7 hl;have HL:=Lib.hid hl;have HV:=Lib.hid hv;clear hl hv
 go_enter Try.func79,Try.ntmps79
 go_wp2
 go_loop [7] (λi=>∃k:Nat,k≤n∧i=.int .i64 k) (λi=>n-(intOf i).toNat)
 case atStart=>exact⟨0,gU _,rfl⟩
 case round=>
  obtain⟨k,hk,rfl⟩:=hrel;by_cases hlt:k<n
  ·have iu:k<l.length:=by have:=HN.out;omega
   obtain⟨b,off,rfl,c0,-⟩:=fT HL.out iu;have hx:=HV.out l[k] (List.getElem_mem iu);generalize l[k]=x at *
   go_wp2_with (go_at_call 92;refine(Vq _ _).mono ?_;rintro e w' ⟨rfl,rfl⟩)
   go_round
   case rel=>exact⟨k+1,by omega,by go_num⟩
   case measure=>simp [intOf];omega
  ·go_wp2
   go_ret
   exact⟨rfl,rfl⟩
theorem ZN(a b p v:Int)(w:World)(ha:0≤a∧a≤65535)(hb:0≤b∧b≤65535)(hp:0≤p∧p≤v)(hv:0<v∧v≤36000000):
  Calls Try.prog 80 #[.int .i64 a,.int .i64 b,.int .i64 p,.int .i64 v] w λe w'=>e=.returned (.int .i64 (kq (a*v+(b-a)*p) v))∧w=w':=by
 have h1:0≤a*v:=Int.mul_nonneg (by omega) (by omega);have h2:a*v≤65535*36000000:=Int.mul_le_mul (by omega) (by omega) (by omega) (by omega)
 have h3:-(65535*36000000)≤(b-a)*p:=by have:-65535*p≤(b-a)*p:=Int.mul_le_mul_of_nonneg_right (by omega) (by omega);omega
 have h4:(b-a)*p≤65535*36000000:=by have:(b-a)*p≤65535*p:=Int.mul_le_mul_of_nonneg_right (by omega) (by omega);omega
 go_enter Try.func80,Try.ntmps80
 go_wp2_with (go_at_call 93;refine(XU _ _ (by omega) (by omega) (by omega) (by omega) _).mono ?_;rintro e w' ⟨rfl,rfl⟩)
 go_ret
 exact⟨rfl,rfl⟩
def nS(l:List Int)(n i:Nat):Int:=
 if n=1 then l.getD 0 0 else kq (l.getD (i*(l.length-1) / (n-1)) 0*((n-1:Nat):Int)+(l.getD (i*(l.length-1) / (n-1)+1) 0-l.getD (i*(l.length-1) / (n-1)) 0)*((i*(l.length-1) % (n-1):Nat):Int)) ((n-1:Nat):Int)
theorem XT(n d B:Int)(hd:0<d)(h1:0≤n)(h2:n≤B*d):0≤kq n d∧kq n d≤B:=by
 unfold kq;constructor
 ·exact Int.ediv_nonneg (by omega) (by omega)
 ·have:(2*n+d) / (2*d)<B+1:=Int.ediv_lt_of_lt_mul (by omega) (by rw[show(B+1)*(2*d)=2*(B*d)+2*d by grind];omega);omega
theorem Py(a b p v:Int)(ha:0≤a∧a≤65535)(hb:0≤b∧b≤65535)(hp:0≤p∧p≤v)(hv:0<v):0≤kq (a*v+(b-a)*p) v∧kq (a*v+(b-a)*p) v≤65535:=by
 have h1:0≤a*(v-p):=Int.mul_nonneg (by omega) (by omega);have h2:0≤b*p:=Int.mul_nonneg (by omega) (by omega);have h3:a*(v-p)≤65535*(v-p):=Int.mul_le_mul_of_nonneg_right (by omega) (by omega);have h4:b*p≤65535*p:=Int.mul_le_mul_of_nonneg_right (by omega) (by omega);have e:a*v+(b-a)*p=a*(v-p)+b*p:=by grind
 rw[e];exact XT _ v 65535 hv (by omega) (by omega)
theorem GZ(x m:Int)(hm:0<m):kq (x*m) m=x:=by unfold kq;rw[show 2*(x*m)+m=m+x*(2*m) by grind,Int.add_mul_ediv_right _ _ (by omega),Int.ediv_eq_zero_of_lt (by omega) (by omega)];omega
def jh(l:List Int)(n:Nat):List Int:=(List.range n).map (nS l n)
theorem Oa(l:List Int)(n k:Nat)(hk:k<n):(jh l n).take (k+1)=(jh l n).take k++[nS l n k]:=by
 have h:k<(jh l n).length:=by simp [jh];exact hk
 rw[List.take_succ_eq_append_getElem h];simp [jh]
theorem qI(l:List Int)(n:Nat):(jh l n).length=n:=by simp [jh]
def QJ(l:List Int)(w:World)(e:Ending)(w':World):Prop:=∃v,e=.returned (.tuple #[v,.int .i64 0])∧(ck bu).is w' [v] l∧Gr w w'
set_option maxHeartbeats 2000000 in
set_option maxRecDepth 100000 in
theorem W6(l:List Int)(n:Nat)(v:Value)(w:World)(hl:(ck bu).is w [v] l)(hv:∀x∈l,eF x 0 65535=true)(h0:0<l.length)(yx:l.length≤2000)(hn:n≤2000):
  Calls Try.prog 58 #[v,.int .i64 n] w (QJ (jh l n) w):=by
 obtain⟨a,m,cap,rfl,HM,hm,hcap⟩:=i7 hl;have HL:=Lib.hid hl;have HV:=Lib.hid hv;clear hl hv;have hm0:0<m:=by rw[HM.out];exact h0
 have hm1:m≤2000:=by rw[HM.out];exact yx
 clear h0 yx;have hwn:eF (n:Int) 0 2000=true:=by simp [eF];omega
 have hz:((m:Int)==0)=false:=by simp;omega
 have hf:Hid (Ad [oS false 2,0,oS false 8,oS false 1]=0):=Lib.hid (by decide);have Ld:decide ((2000:Int)<(m:Int))=false:=dL (by omega)
 go_enter Try.func58,Try.ntmps58
 go_wp2_with (first
  |(go_at_call 35;refine(zC _ _ _ _).mono ?_;rintro e w' ⟨rfl,rfl⟩)
  |(go_at_call 25;refine(OZ _ _ _).mono ?_;rintro e w' ⟨rfl,rfl⟩)
  |(go_at_call 79;(with_reducible refine(XC l _ _ HL.out HV.out).mono ?_);rintro e w' ⟨rfl,rfl⟩)
  |(go_at_call 22;(with_reducible refine(Zo _ _ _ _ _ _ _ ?_).mono ?_);(focus (simp;done));rintro e w' ⟨rfl,rfl⟩;rw[hf.out]))
 have g0:Gr w (w.alloc (.cells #[.int .i64 (oS false 2),.int .i64 0,.int .i64 (oS false 8),.int .i64 (oS false 1)] 30)):=(by repeat (first|exact Gr.refl _|assumption|refine Gr.alloc ?_ _|refine Gr.drew ?_|refine Gr.drewN ?_ _|(refine Gr.put ?_ ?_ _;first|exact ay _|(simp;done)|omega)|(apply Gr.after;assumption)))
 generalize hW:w.alloc (.cells #[.int .i64 (oS false 2),.int .i64 0,.int .i64 (oS false 8),.int .i64 (oS false 1)] 30)=W at *
 clear hW;have hown:b9 W W.heap.size 3 bu (.slice none 0 0) []:=b9.nil _ _ _ _
 go_loopw [7,32] (λv i wr=>∃k:Nat,k≤n∧i=.int .i64 k∧b9 wr W.heap.size 3 bu v ((jh l n).take k)∧Gr W wr) (λ_ i _=>n-(intOf i).toNat)
 case atStart=>exact⟨0,gU _,rfl,hown,Gr.refl _⟩
 case round=>
  clear hown;obtain⟨k,hk,rfl,hown,hG⟩:=hrel;obtain⟨va,vn,vc,rfl,AD,h7,h8⟩:=hown.shape;have hsz:=hG.size;by_cases hlt:k<n
  ·have FL:((jh l n).take k).length≤2000:=by rw[gn,qI];omega
   have HT:=Lib.hid (Oa l n k hlt);by_cases hn1:n=1
   ·subst hn1;obtain rfl:k=0:=by omega
    obtain⟨b,off,rfl,c0,ci⟩:=fT HL.out (k:=0) (by have:=HM.out;omega)
    have HX:Hid (nS l 1 0=l[0]'(by have:=HM.out;omega)):=Lib.hid (by rw[nS,aK rfl,iO])
    generalize l[0]'(by have:=HM.out;omega)=x at *
    replace c0:=(g0.trans hG).cell c0;rw[Nat.add_zero]at c0
    go_wp2_with (at_builtin;refine lz _ rfl _ _ 26 rfl Try.underlying26 W.heap.size _ _ rfl (hown.alloc _) _ rfl _ _ (dJ _ _) ci (by omega) (by simp;omega) ?_;intro v' w' dZ eu)
    go_ret2
    have e:jh l 1=(jh l 1).take 0++[x]:=by rw[←HX.out,←HT.out,fF (by rw[qI];omega)]
    rw[←e]at dZ;exact⟨_,rfl,dZ.is,g0.trans (b9.gr (hown.alloc _) (hG.alloc _) (ay _) eu)⟩
   ·have adR:((n:Int)==1)=false:=by simp;omega
    have aaA:(k:Int)*((m:Int) -1)=((k*(m-1):Nat):Int):=by rw[Int.natCast_mul,Int.natCast_sub (by omega)];rfl
    have hkm:k*(m-1)≤(n-1)*(m-1):=kC _ (by omega);have acf:k*(m-1)≤2000*2000:=Nat.mul_le_mul (by omega) (by omega);have hK:k*(m-1) / (n-1)≤m-1:=Nat.div_le_of_le_mul hkm;have hR:k*(m-1) % (n-1)<n-1:=Nat.mod_lt _ (by omega);have CF:=Nat.div_add_mod (k*(m-1)) (n-1)
    have Kq:Hid (0<k*(m-1) % (n-1)→k*(m-1) / (n-1)+1<m):=Lib.hid (λh=>by
     rcases Nat.lt_or_ge (k*(m-1) / (n-1)) (m-1)with h1|h1
     ·omega
     ·have:k*(m-1) / (n-1)=m-1:=by omega
      rw[this]at CF
      omega)
    have iT:Hid (nS l n k=kq (l.getD (k*(m-1) / (n-1)) 0*((n-1:Nat):Int)+(l.getD (k*(m-1) / (n-1)+1) 0-l.getD (k*(m-1) / (n-1)) 0)*((k*(m-1) % (n-1):Nat):Int)) ((n-1:Nat):Int)):=Lib.hid (by rw[nS,aI hn1,HM.out])
    have K8:((k*(m-1):Nat):Int).tdiv ((n:Int) -1)=((k*(m-1) / (n-1):Nat):Int):=by rw[show((n:Int) -1)=((n-1:Nat):Int) by omega,Int.tdiv_eq_ediv_of_nonneg (by omega),Int.natCast_ediv]
    have S5:((k*(m-1):Nat):Int).tmod ((n:Int) -1)=((k*(m-1) % (n-1):Nat):Int):=by rw[show((n:Int) -1)=((n-1:Nat):Int) by omega,Int.tmod_eq_emod_of_nonneg (by omega),Int.natCast_emod]
    generalize k*(m-1) / (n-1)=K at *
    generalize k*(m-1) % (n-1)=R at *
    generalize k*(m-1)=X at *
    clear CF hkm;have hw1:IntKind.i64.wrap ((n:Int) -1)=(n:Int) -1:=sD (by omega);have FN:IntKind.i64.wrap (K:Int)=(K:Int):=sD (by omega);have hw3:IntKind.i64.wrap (R:Int)=(R:Int):=sD (by omega);have hne:((n:Int) -1==0)=false:=by simp;omega
    go_wp2
    go_quiet (fail)
    by_cases FM:R=0
    ·subst FM;obtain⟨b,off,rfl,c0,ci⟩:=fT HL.out (k:=K) (by have:=HM.out;omega);rw[iO]at c0 ci;replace c0:=(g0.trans hG).cell c0;have HX:Hid (nS l n k=l.getD K 0):=Lib.hid (by rw[iT.out];simp only[Int.natCast_zero,Int.mul_zero,Int.add_zero];exact GZ _ _ (by omega));clear iT;generalize l.getD K 0=x at *
     rw[HX.out]at HT
     go_wp2_with (at_builtin;refine lz _ rfl _ _ 26 rfl Try.underlying26 W.heap.size _ _ rfl ((hown.mono (by repeat (first|exact Gr.refl _|assumption|refine Gr.alloc ?_ _|refine Gr.drew ?_|refine Gr.drewN ?_ _|(refine Gr.put ?_ ?_ _;first|exact ay _|(simp;done)|omega)|(apply Gr.after;assumption))))) _ rfl _ _ (dJ _ _) ci (by omega) (by simp;omega) ?_;intro v' w' dZ eu)
     go_roundw
     case rel=>exact⟨k+1,by omega,by go_num,by rw[HT.out];exact dZ,b9.gr (hown.mono (by repeat (first|exact Gr.refl _|assumption|refine Gr.alloc ?_ _|refine Gr.drew ?_|refine Gr.drewN ?_ _|(refine Gr.put ?_ ?_ _;first|exact ay _|(simp;done)|omega)|(apply Gr.after;assumption)))) (hG.trans (by repeat (first|exact Gr.refl _|assumption|refine Gr.alloc ?_ _|refine Gr.drew ?_|refine Gr.drewN ?_ _|(refine Gr.put ?_ ?_ _;first|exact ay _|(simp;done)|omega)|(apply Gr.after;assumption)))) (ay _) eu⟩
     case measure=>simp [intOf];omega
    ·have fP:((R:Int)==0)=false:=by simp;omega
     have FE:=Kq.out (by omega);obtain⟨b,off,rfl,c0,-⟩:=fT HL.out (k:=K) (by have:=HM.out;omega);obtain⟨b',off',e',c1,-⟩:=fT HL.out (k:=K+1) (by have:=HM.out;omega);injection e' with e'
     injection e' with e1 e2 e3
     subst e1;subst e2;have v0:=HV.out _ (List.getElem_mem (show K<l.length by have:=HM.out;omega));have v1:=HV.out _ (List.getElem_mem (show K+1<l.length by have:=HM.out;omega));rw[iO]at c0 c1 v0 v1;have KC:uf W b (off+K) (off+(K+1)) (.int .i64 (l.getD K 0)) (.int .i64 (l.getD (K+1) 0)):=⟨g0.cell c0,g0.cell c1⟩
     clear c0 c1;have A0:0≤l.getD K 0∧l.getD K 0≤65535:=by simpa [eF]using v0
     have v1':0≤l.getD (K+1) 0∧l.getD (K+1) 0≤65535:=by simpa [eF]using v1
     clear v0 v1;generalize l.getD K 0=x at *
     generalize l.getD (K+1) 0=y at *
     have hw4:IntKind.i64.wrap ((K:Int)+1)=(K:Int)+1:=sD (by omega);have SO:(0:Int)≤(K:Int)+1:=by omega
     have hk1:((K:Int)+1).toNat=K+1:=by omega
     have hk2:(K:Int)+1<(m:Int):=by omega
     have hk3:(K:Int)<(m:Int):=by omega
     go_wp2
     have hG3:Gr W (wr.drewN nq):=hG.drewN _;replace hown:=hown.mono ((Gr.refl wr).drewN nq);generalize wr.drewN nq=W3 at *
     have acs:=hG3.size
     have K6:aZ (kq (x*((n:Int) -1)+(y-x)*(R:Int)) ((n:Int) -1)):=by have:=Py x y R ((n:Int) -1) A0 v1' (by omega) (by omega);unfold aZ;omega
     go_region_held3 (λw'=>uf w' b (off+K) (off+(K+1)) (.int .i64 x) (.int .i64 y)) ((refine uf.mono KC ?_;(repeat (first|exact Gr.refl _|assumption|refine Gr.alloc ?_ _|refine Gr.drew ?_|refine Gr.drewN ?_ _|(refine Gr.put ?_ ?_ _;first|exact ay _|(simp;done)|omega)|(apply Gr.after;assumption)));done)) (first
      |(go_at_call 80;(with_reducible refine(ZN x y R ((n:Int) -1) _ A0 v1' (by omega) (by omega)).mono ?_);rintro e w' ⟨rfl,rfl⟩)
      |(refine OS _ rfl _ _ 26 rfl Try.underlying26 W.heap.size _ _ rfl (hown.mono (by repeat (first|exact Gr.refl _|assumption|refine Gr.alloc ?_ _|refine Gr.drew ?_|refine Gr.drewN ?_ _|(refine Gr.put ?_ ?_ _;first|exact ay _|(simp;done)|omega)|(apply Gr.after;assumption)))) _ rfl _ _ (by exact dJ _ _) K6 (by omega) (by simp;omega) ?_;intro v' w' dZ eu;have gA:Gr W w':=b9.gr (hown.mono (w':=_) (by repeat (first|exact Gr.refl _|assumption|refine Gr.alloc ?_ _|refine Gr.drew ?_|refine Gr.drewN ?_ _|(refine Gr.put ?_ ?_ _;first|exact ay _|(simp;done)|omega)|(apply Gr.after;assumption)))) (by exact(by repeat (first|exact Gr.refl _|assumption|refine Gr.alloc ?_ _|refine Gr.drew ?_|refine Gr.drewN ?_ _|(refine Gr.put ?_ ?_ _;first|exact ay _|(simp;done)|omega)|(apply Gr.after;assumption)))) (ay _) eu))
     all_goals
      have HX:Hid (nS l n k=kq (x*((n:Int) -1)+(y-x)*(R:Int)) ((n:Int) -1)):=Lib.hid (by rw[iT.out,show((n-1:Nat):Int)=(n:Int) -1 by omega]);rw[HX.out]at HT
      go_wp2
      go_roundw
      case rel=>exact⟨k+1,by omega,by go_num,by rw[HT.out];exact dZ,gA⟩
      case measure=>simp [intOf];omega
  ·go_wp2
   go_ret2
   have e:(jh l n).take k=jh l n:=fF (by rw[qI];omega);rw[e]at hown;exact⟨_,rfl,hown.is,g0.trans hG⟩
end
section
open Go.RowKit
theorem ZW(x y:Int)(a b:Nat)(w:World)(hx:x=a)(hy:y=b)(ha:a≤9223372036854775807)(hb:b≤9223372036854775807):Calls Try.prog 83 #[.int .i64 x,.int .i64 y] w (oU false a b w):=by subst hx;subst hy;exact OK a b w ha hb
set_option maxHeartbeats 4000000 in
set_option maxRecDepth 100000 in
theorem Wg(l:List Int)(n:Nat)(v:Value)(w:World)(hl:(ck bu).is w [v] l)(hv:∀x∈l,eF x 0 65535=true)(h0:0<l.length)(yx:l.length≤2000)(hn:n≤2000):
  Calls Try.prog 65 #[v,.int .i64 n] w (QJ (jh l n) w):=by
 obtain⟨a,m,cap,rfl,HM,hm,hcap⟩:=i7 hl;have HL:=Lib.hid hl;have HV:=Lib.hid hv;clear hl hv;have hm0:0<m:=by rw[HM.out];exact h0
 have hm1:m≤2000:=by rw[HM.out];exact yx
 clear h0 yx;have hwn:eF (n:Int) 0 2000=true:=by simp [eF];omega
 have hz:((m:Int)==0)=false:=by simp;omega
 have Ld:decide ((2000:Int)<(m:Int))=false:=dL (by omega)
 go_enter Try.func65,Try.ntmps65
 go_wp2
 go_loop [22] (λi=>∃k:Nat,k≤m∧i=.int .i64 k) (λi=>m-(intOf i).toNat)
 case atStart=>exact⟨0,gU _,rfl⟩
 case round=>
  obtain⟨k,hk,rfl⟩:=hrel;by_cases hlt:k<m
  ·have iu:k<l.length:=by have:=HM.out;omega
   obtain⟨b,off,rfl,c0,-⟩:=fT HL.out iu;have hx:=HV.out l[k] (List.getElem_mem iu);generalize l[k]=x at *
   go_wp2_with (go_at_call 45;refine(Vp _ _).mono ?_;rintro e w' ⟨rfl,rfl⟩)
   go_round
   case rel=>exact⟨k+1,by omega,by go_num⟩
   case measure=>simp [intOf];omega
  ·have hkm:k=m:=by omega
   subst hkm;clear hlt hk
   go_wp2_with (go_at_call 43;refine(MR _ _ _ _).mono ?_;rintro e w' ⟨rfl,rfl⟩)
   have hown:b9 w w.heap.size 3 bu (.slice none 0 0) []:=b9.nil _ _ _ _
   go_loopw [8,34] (λv i wr=>∃j:Nat,j≤n∧i=.int .i64 j∧b9 wr w.heap.size 3 bu v ((jh l n).take j)∧Gr w wr) (λ_ i _=>n-(intOf i).toNat)
   case atStart=>exact⟨0,gU _,rfl,hown,Gr.refl _⟩
   case round=>
    clear hown;obtain⟨j,hk,rfl,hown,hG⟩:=hrel;obtain⟨m,rfl⟩:∃m,m=k:=⟨_,rfl⟩
    obtain⟨k,rfl⟩:∃k,k=j:=⟨_,rfl⟩
    obtain⟨va,vn,vc,rfl,AD,h7,h8⟩:=hown.shape;have hsz:=hG.size;by_cases hlt:k<n
    ·have FL:((jh l n).take k).length≤2000:=by rw[gn,qI];omega
     have HT:=Lib.hid (Oa l n k hlt);by_cases hn1:n=1∨m=1
     ·obtain⟨b,off,rfl,c0,ci⟩:=fT HL.out (k:=0) (by have:=HM.out;omega)
      have HX:Hid (nS l n k=l[0]'(by have:=HM.out;omega)):=Lib.hid (by
       rw[iO];by_cases h1:n=1
       ·rw[nS,aK h1]
       ·have hm1:l.length-1=0:=by have:=HM.out;omega
        rw[nS,aI h1,hm1];simp only[Nat.mul_zero,Nat.zero_div,Nat.zero_mod,Int.natCast_zero,Int.mul_zero,Int.add_zero]
        exact GZ _ _ (by omega))
      generalize l[0]'(by have:=HM.out;omega)=x at *
      replace c0:=hG.cell c0;rw[Nat.add_zero]at c0;rw[HX.out]at HT;by_cases h1:n=1
      ·have h1':((n:Int)==1)=true:=by simp;omega
       clear h1 hn1
       go_wp2_with (at_builtin;refine lz _ rfl _ _ 26 rfl Try.underlying26 w.heap.size _ _ rfl ((hown.mono (by repeat (first|exact Gr.refl _|assumption|refine Gr.alloc ?_ _|refine Gr.drew ?_|refine Gr.drewN ?_ _|(refine Gr.put ?_ ?_ _;first|exact ay _|(simp;done)|omega)|(apply Gr.after;assumption))))) _ rfl _ _ (dJ _ _) ci (by omega) (by simp;omega) ?_;intro v' w' dZ eu)
       go_roundw
       case rel=>exact⟨k+1,by omega,by go_num,by rw[HT.out];exact dZ,b9.gr (hown.mono (by repeat (first|exact Gr.refl _|assumption|refine Gr.alloc ?_ _|refine Gr.drew ?_|refine Gr.drewN ?_ _|(refine Gr.put ?_ ?_ _;first|exact ay _|(simp;done)|omega)|(apply Gr.after;assumption)))) (hG.trans (by repeat (first|exact Gr.refl _|assumption|refine Gr.alloc ?_ _|refine Gr.drew ?_|refine Gr.drewN ?_ _|(refine Gr.put ?_ ?_ _;first|exact ay _|(simp;done)|omega)|(apply Gr.after;assumption)))) (ay _) eu⟩
       case measure=>simp [intOf];omega
      ·have h1':((n:Int)==1)=false:=by simp;omega
       have h2':((m:Int)==1)=true:=by simp;omega
       clear h1 hn1
       go_wp2_with (at_builtin;refine lz _ rfl _ _ 26 rfl Try.underlying26 w.heap.size _ _ rfl ((hown.mono (by repeat (first|exact Gr.refl _|assumption|refine Gr.alloc ?_ _|refine Gr.drew ?_|refine Gr.drewN ?_ _|(refine Gr.put ?_ ?_ _;first|exact ay _|(simp;done)|omega)|(apply Gr.after;assumption))))) _ rfl _ _ (dJ _ _) ci (by omega) (by simp;omega) ?_;intro v' w' dZ eu)
       go_roundw
       case rel=>exact⟨k+1,by omega,by go_num,by rw[HT.out];exact dZ,b9.gr (hown.mono (by repeat (first|exact Gr.refl _|assumption|refine Gr.alloc ?_ _|refine Gr.drew ?_|refine Gr.drewN ?_ _|(refine Gr.put ?_ ?_ _;first|exact ay _|(simp;done)|omega)|(apply Gr.after;assumption)))) (hG.trans (by repeat (first|exact Gr.refl _|assumption|refine Gr.alloc ?_ _|refine Gr.drew ?_|refine Gr.drewN ?_ _|(refine Gr.put ?_ ?_ _;first|exact ay _|(simp;done)|omega)|(apply Gr.after;assumption)))) (ay _) eu⟩
       case measure=>simp [intOf];omega
     ·have h1':((n:Int)==1)=false:=by simp;omega
      have h2':((m:Int)==1)=false:=by simp;omega
      have aaA:(k:Int)*((m:Int) -1)=((k*(m-1):Nat):Int):=by rw[Int.natCast_mul,Int.natCast_sub (by omega)];rfl
      have hkm:k*(m-1)≤(n-1)*(m-1):=kC _ (by omega);have acf:k*(m-1)≤2000*2000:=Nat.mul_le_mul (by omega) (by omega);have hK:k*(m-1) / (n-1)≤m-1:=Nat.div_le_of_le_mul hkm;have hR:k*(m-1) % (n-1)<n-1:=Nat.mod_lt _ (by omega);have CF:=Nat.div_add_mod (k*(m-1)) (n-1);have Kq:Hid (k*(m-1) / (n-1)=m-1→k*(m-1) % (n-1)=0):=Lib.hid (λh=>by rw[h]at CF;omega);have iT:Hid (nS l n k=kq (l.getD (k*(m-1) / (n-1)) 0*((n-1:Nat):Int)+(l.getD (k*(m-1) / (n-1)+1) 0-l.getD (k*(m-1) / (n-1)) 0)*((k*(m-1) % (n-1):Nat):Int)) ((n-1:Nat):Int)):=Lib.hid (by rw[nS,aI (by omega),HM.out])
      have K8:((k*(m-1):Nat):Int) / ((n:Int) -1)=((k*(m-1) / (n-1):Nat):Int):=by rw[show((n:Int) -1)=((n-1:Nat):Int) by omega,Int.natCast_ediv]
      have S5:((k*(m-1):Nat):Int).tmod ((n:Int) -1)=((k*(m-1) % (n-1):Nat):Int):=by rw[show((n:Int) -1)=((n-1:Nat):Int) by omega,Int.tmod_eq_emod_of_nonneg (by omega),Int.natCast_emod]
      generalize k*(m-1) / (n-1)=K at *
      generalize k*(m-1) % (n-1)=R at *
      generalize k*(m-1)=X at *
      have adS:¬n=1:=by omega
      clear CF hkm hn1;by_cases FE:K=m-1
      ·have hR0:=Kq.out FE;subst hR0;have abZ:((K:Int)==(m:Int) -1)=true:=by simp;omega
       obtain⟨b,off,rfl,c0,ci⟩:=fT HL.out (k:=K) (by have:=HM.out;omega);rw[iO]at c0 ci;replace c0:=hG.cell c0;have HX:Hid (nS l n k=l.getD K 0):=Lib.hid (by rw[iT.out];simp only[Int.natCast_zero,Int.mul_zero,Int.add_zero];exact GZ _ _ (by omega));clear iT S5;generalize l.getD K 0=x at *
       rw[HX.out]at HT;have hkb:K<m:=by omega
       clear FE
       go_wp2_with (at_builtin;refine lz _ rfl _ _ 26 rfl Try.underlying26 w.heap.size _ _ rfl ((hown.mono (by repeat (first|exact Gr.refl _|assumption|refine Gr.alloc ?_ _|refine Gr.drew ?_|refine Gr.drewN ?_ _|(refine Gr.put ?_ ?_ _;first|exact ay _|(simp;done)|omega)|(apply Gr.after;assumption))))) _ rfl _ _ (dJ _ _) ci (by omega) (by simp;omega) ?_;intro v' w' dZ eu)
       go_roundw
       case rel=>exact⟨k+1,by omega,by go_num,by rw[HT.out];exact dZ,b9.gr (hown.mono (by repeat (first|exact Gr.refl _|assumption|refine Gr.alloc ?_ _|refine Gr.drew ?_|refine Gr.drewN ?_ _|(refine Gr.put ?_ ?_ _;first|exact ay _|(simp;done)|omega)|(apply Gr.after;assumption)))) (hG.trans (by repeat (first|exact Gr.refl _|assumption|refine Gr.alloc ?_ _|refine Gr.drew ?_|refine Gr.drewN ?_ _|(refine Gr.put ?_ ?_ _;first|exact ay _|(simp;done)|omega)|(apply Gr.after;assumption)))) (ay _) eu⟩
       case measure=>simp [intOf];omega
      ·have abZ:((K:Int)==(m:Int) -1)=false:=by simp;omega
       have hKl:K+1<m:=by omega
       clear FE;obtain⟨b,off,rfl,c0,-⟩:=fT HL.out (k:=K) (by have:=HM.out;omega);obtain⟨b',off',e',c1,-⟩:=fT HL.out (k:=K+1) (by have:=HM.out;omega);injection e' with e'
       injection e' with e1 e2 e3
       subst e1;subst e2;have v0:=HV.out _ (List.getElem_mem (show K<l.length by have:=HM.out;omega));have v1:=HV.out _ (List.getElem_mem (show K+1<l.length by have:=HM.out;omega));rw[iO]at c0 c1 v0 v1;have KC:uf w b (off+K) (off+(K+1)) (.int .i64 (l.getD K 0)) (.int .i64 (l.getD (K+1) 0)):=⟨c0,c1⟩
       clear c0 c1;have A0:0≤l.getD K 0∧l.getD K 0≤65535:=by simpa [eF]using v0
       have v1':0≤l.getD (K+1) 0∧l.getD (K+1) 0≤65535:=by simpa [eF]using v1
       clear v0 v1;obtain⟨x,hx⟩:∃x:Nat,l.getD K 0=x:=⟨_,(Int.toNat_of_nonneg A0.1).symm⟩
       obtain⟨y,hy⟩:∃x:Nat,l.getD (K+1) 0=x:=⟨_,(Int.toNat_of_nonneg v1'.1).symm⟩
       rw[hx]at KC A0 iT;rw[hy]at KC v1' iT;clear hx hy;have hw4:IntKind.i64.wrap ((K:Int)+1)=(K:Int)+1:=sD (by omega);have SO:(0:Int)≤(K:Int)+1:=by omega
       have hk1:((K:Int)+1).toNat=K+1:=by omega
       have hk2:(K:Int)+1<(m:Int):=by omega
       have hk3:(K:Int)<(m:Int):=by omega
       have hw3:IntKind.i64.wrap (R:Int)=(R:Int):=sD (by omega)
       have K6:aZ (kq ((x:Int)*((n-1:Nat):Int)+((y:Int) -x)*(R:Int)) ((n-1:Nat):Int)):=by have:=Py x y R ((n-1:Nat):Int) A0 v1' (by omega) (by omega);unfold aZ;omega
       rw[iT.out]at HT
       go_wp2
       have hw1:IntKind.i64.wrap ((n:Int) -1)=(n:Int) -1:=sD (by omega);have hne:((n:Int) -1==0)=false:=by simp;omega
       have q3:¬((n:Int) -1=0):=by omega
       have q4:(0:Int)<(n:Int) -1:=by omega
       have q5:¬((n:Int)=1):=by omega
       have q6:(0:Int)≤(X:Int):=by omega
       go_region_held3 (λw'=>uf w' b (off+K) (off+(K+1)) (.int .i64 x) (.int .i64 y)) ((refine uf.mono KC ?_;(repeat (first|exact Gr.refl _|assumption|refine Gr.alloc ?_ _|refine Gr.drew ?_|refine Gr.drewN ?_ _|(refine Gr.put ?_ ?_ _;first|exact ay _|(simp;done)|omega)|(apply Gr.after;assumption)));done)) (first
        |(go_at_call 83;(with_reducible refine(ZW R ((n:Int) -1) R (n-1) _ rfl (by omega) (by omega) (by omega)).mono ?_);rintro e w1 ⟨v1,u1,rfl,h1,h2,-,-,fZ⟩;obtain⟨a2,k2,c2,rfl,-,-⟩:=h1.shape (by omega);obtain⟨e2,l2,p2,rfl,-,-⟩:=h2.shape (by omega);have H1:=Lib.hid h1;have H2:=Lib.hid h2;clear h1 h2;have hs1:wr.heap.size≤w1.heap.size:=fZ.size)
        |(go_at_call 82;(with_reducible refine(YC x y R (n-1) a2 k2 c2 e2 l2 p2 _ (by exact H1.out.mono (by repeat (first|exact Gr.refl _|assumption|refine Gr.alloc ?_ _|refine Gr.drew ?_|refine Gr.drewN ?_ _|(refine Gr.put ?_ ?_ _;first|exact ay _|(simp;done)|omega)|(apply Gr.after;assumption)))) (by exact H2.out.mono (by repeat (first|exact Gr.refl _|assumption|refine Gr.alloc ?_ _|refine Gr.drew ?_|refine Gr.drewN ?_ _|(refine Gr.put ?_ ?_ _;first|exact ay _|(simp;done)|omega)|(apply Gr.after;assumption)))) (by omega) (by omega) (by omega) (by omega) (by omega)).mono ?_);rintro e w2 ⟨rfl,jk⟩;have hs2:=jk.size)
        |(refine OS _ rfl _ _ 26 rfl Try.underlying26 w.heap.size _ _ rfl (hown.mono (by repeat (first|exact Gr.refl _|assumption|refine Gr.alloc ?_ _|refine Gr.drew ?_|refine Gr.drewN ?_ _|(refine Gr.put ?_ ?_ _;first|exact ay _|(simp;done)|omega)|(apply Gr.after;assumption)))) _ rfl _ _ (by exact dJ _ _) K6 (by omega) (by simp;omega) ?_;intro v' w' dZ eu;have gA:Gr w w':=b9.gr (hown.mono (w':=_) (by repeat (first|exact Gr.refl _|assumption|refine Gr.alloc ?_ _|refine Gr.drew ?_|refine Gr.drewN ?_ _|(refine Gr.put ?_ ?_ _;first|exact ay _|(simp;done)|omega)|(apply Gr.after;assumption)))) (by exact(by repeat (first|exact Gr.refl _|assumption|refine Gr.alloc ?_ _|refine Gr.drew ?_|refine Gr.drewN ?_ _|(refine Gr.put ?_ ?_ _;first|exact ay _|(simp;done)|omega)|(apply Gr.after;assumption)))) (ay _) eu))
       all_goals
        go_wp2
        go_roundw
        case rel=>exact⟨k+1,by omega,by go_num,by rw[HT.out];exact dZ,gA⟩
        case measure=>simp [intOf];omega
    ·go_wp2
     go_ret2
     have e:(jh l n).take k=jh l n:=fF (by rw[qI];omega);rw[e]at hown;exact⟨_,rfl,hown.is,hG⟩
end
section
open Go.RowKit
theorem MZ(n:Int)(w:World):
  Calls Try.prog 56 #[.int .i64 n] w λe w'=>e=.returned (.bool (!eF n 0 65535))∧w=w':=by
 go_enter Try.func56,Try.ntmps56
 go_wp2_with (go_at_call 37;refine(VQ _ _).mono ?_;rintro e w' ⟨rfl,rfl⟩)
 go_ret
 exact⟨rfl,rfl⟩
def tc(p:Int→Bool):List Int→Int→Int
 |[],_=>-1
 |x::r,i=>if p x=true then i else tc p r (i+1)
def sN(x:Int):Bool:=!eF x 0 65535
set_option maxHeartbeats 1000000 in
theorem Ww(l:List Int)(v:Value)(w:World)(hl:(ck bu).is w [v] l):
  Calls Try.prog 78 #[v,.func (.func 56) #[] #[]] w λe w'=>e=.returned (.int .i64 (tc sN l 0))∧w=w':=by
 obtain⟨a,n,cap,rfl,HN,hn,hcap⟩:=i7 hl;have HL:=Lib.hid hl;clear hl
 go_enter Try.func78,Try.ntmps78
 go_wp2
 go_loop [8] (λi=>∃k:Nat,k≤n∧i=.int .i64 k∧Hid (tc sN (l.drop k) k=tc sN l 0)) (λi=>n-(intOf i).toNat)
 case atStart=>exact⟨0,gU _,rfl,Lib.hid rfl⟩
 case round=>
  obtain⟨k,hk,rfl,HE⟩:=hrel;by_cases hlt:k<n
  ·have iu:k<l.length:=by have:=HN.out;omega
   obtain⟨b,off,rfl,c0,-⟩:=fT HL.out iu;have hE:=HE.out;rw[List.drop_eq_getElem_cons iu,tc]at hE;clear HE;generalize l[k]=x at *
   cases hb:eF x 0 65535
   ·rw[aK (by simp [sN,hb])]at hE;have HE:=Lib.hid hE;clear hE
    go_wp2_with (go_at_call 56;refine(MZ _ _).mono ?_;rintro e w' ⟨rfl,rfl⟩)
    go_ret
    exact⟨nO HE.out,rfl⟩
   ·rw[aI (by simp [sN,hb])]at hE;have HE:=Lib.hid hE;clear hE
    go_wp2_with (go_at_call 56;refine(MZ _ _).mono ?_;rintro e w' ⟨rfl,rfl⟩)
    go_round
    case rel=>exact⟨k+1,by omega,by go_num,Lib.hid (by rw[←HE.out];rfl)⟩
    case measure=>simp [intOf];omega
  ·go_wp2
   go_ret
   have hE:=HE.out;rw[List.drop_eq_nil_of_le (by have:=HN.out;omega),tc]at hE;exact⟨nO hE,rfl⟩
theorem Yx(p:Int→Bool)(l:List Int)(i:Int)(hi:0≤i):0≤tc p l i↔l.any p=true:=by
 induction l generalizing i with
 |nil=>simp [tc]
 |cons x r ih=>
  rw[tc,List.any_cons];by_cases h:p x=true
  ·rw[aK h,h];simp [hi]
  ·rw[aI h,Bool.eq_false_iff.2 h,Bool.false_or];exact ih (i+1) (by omega)
theorem ZC(p:Int→Bool)(l:List Int)(i:Int)(hi:0≤i):decide (0≤tc p l i)=l.any p:=by rw[lH,decide_eq_true_iff];exact Yx p l i hi
theorem MS(l:List Int)(v:Value)(w:World)(hl:(ck bu).is w [v] l):
  Calls Try.prog 55 #[v,.func (.func 56) #[] #[]] w λe w'=>e=.returned (.bool (l.any sN))∧w=w':=by
 have HL:=Lib.hid hl;clear hl;have HI:=Lib.hid (ZC sN l 0 (Int.le_refl _))
 go_enter Try.func55,Try.ntmps55
 go_wp2_with (go_at_call 78;refine(Ww l _ _ HL.out).mono ?_;rintro e w' ⟨rfl,rfl⟩)
 go_ret
 exact⟨by rw[←HI.out];rfl,rfl⟩
def Am(l:List Int)(b g:Int):Int:=if l.length=0 then 8 else if 20<l.length then 2 else if l.any sN=true then 1 else if eF b 1 9999=false∨eF g 1 50=false then 1 else 0
set_option maxHeartbeats 1000000 in
theorem Vk(l:List Int)(v:Value)(b g:Int)(w:World)(hl:(ck bu).is w [v] l):
  Calls Try.prog 24 #[.agg #[v,.int .i64 b,.int .i64 g]] w λe w'=>e=.returned (.int .i64 (Am l b g))∧Gr w w':=by
 obtain⟨a,n,cap,rfl,HN,hn,hcap⟩:=i7 hl;have HL:=Lib.hid hl;clear hl;generalize hR:Am l b g=R;unfold Am at hR;rw[←HN.out]at hR;have HR:=Lib.hid hR;clear hR;have g0:Gr w (w.alloc (.cells #[.slice a n cap,.int .i64 b,.int .i64 g] 28)):=(by repeat (first|exact Gr.refl _|assumption|refine Gr.alloc ?_ _|refine Gr.drew ?_|refine Gr.drewN ?_ _|(refine Gr.put ?_ ?_ _;first|exact ay _|(simp;done)|omega)|(apply Gr.after;assumption)))
 by_cases h0:n=0
 ·have e:=HR.out;rw[aK h0]at e;subst e;clear HR;have fL:((n:Int)==0)=true:=by simp;omega
  clear h0
  go_enter Try.func24,Try.ntmps24
  go_wp2
  go_ret
  exact⟨rfl,g0⟩
 ·have e:=HR.out;rw[aI h0]at e;clear HR;have HR:=Lib.hid e;clear e;have fL:((n:Int)==0)=false:=by simp;omega
  clear h0;by_cases h1:20<n
  ·have e:=HR.out;rw[aK h1]at e;subst e;clear HR
   go_enter Try.func24,Try.ntmps24
   go_wp2
   go_ret
   exact⟨rfl,g0⟩
  ·have e:=HR.out;rw[aI h1]at e;clear HR;have HR:=Lib.hid e;clear e;have h1':decide (20<n)=false:=dL h1;have adJ:decide ((20:Int)<(n:Int))=false:=dL (by omega);clear h1;cases h2:l.any sN
   ·have e:=HR.out;rw[aI (by simp [h2])]at e;clear HR;have HR:=Lib.hid e;clear e;cases h3:eF b 1 9999<;>cases h4:eF g 1 50
    all_goals
     have e:=HR.out;simp only[h3,h4,true_or,or_true,if_true,Bool.true_eq_false,or_self,if_false]at e;subst e;clear HR
     go_enter Try.func24,Try.ntmps24
     go_wp2_with (first
      |(go_at_call 35;refine(zC _ _ _ _).mono ?_;rintro e w' ⟨rfl,rfl⟩)
      |(go_at_call 55;refine(MS l _ _ ((ck bu).mono HL.out g0)).mono ?_;rintro e w' ⟨rfl,rfl⟩))
     go_ret
     exact⟨rfl,g0⟩
   ·have e:=HR.out;rw[aK (by simp [h2])]at e;subst e;clear HR
    go_enter Try.func24,Try.ntmps24
    go_wp2_with (first
     |(go_at_call 35;refine(zC _ _ _ _).mono ?_;rintro e w' ⟨rfl,rfl⟩)
     |(go_at_call 55;refine(MS l _ _ ((ck bu).mono HL.out g0)).mono ?_;rintro e w' ⟨rfl,rfl⟩))
    go_ret
    exact⟨rfl,g0⟩
end
section
open Go.RowKit
theorem EE{n B N:Nat}(hB:0<B)(hn:n≤N):(n+B-1) / B≤N:=by
 have:(n+B-1) / B<N+1:=by rw[Nat.div_lt_iff_lt_mul hB,eX,Nat.one_mul];have:N*1≤N*B:=Nat.mul_le_mul_left _ hB;omega
 omega
theorem PR{n B:Nat}(hn:0<n)(hB:0<B):0<(n+B-1) / B:=Nat.div_pos (by omega) hB
theorem OT{n B G:Nat}(hn:0<n)(hB:0<B)(hG:0<G):0<((n+B-1) / B+G-1) / G:=PR (PR hn hB) hG
def sP(c:List Int)(B G n i:Nat):Int:=
 (jh c (((n+B-1) / B+G-1) / G)).getD (if i / B / (((n+B-1) / B+G-1) / G) % 2=1 then((n+B-1) / B+G-1) / G-1-i / B % (((n+B-1) / B+G-1) / G)else i / B % (((n+B-1) / B+G-1) / G)) 0
def l7(c:List Int)(B G n:Nat):List Int:=(List.range n).map (sP c B G n)
theorem BB(c:List Int)(B G n:Nat):(l7 c B G n).length=n:=by simp [l7]
theorem Ny(c:List Int)(B G n k:Nat)(hk:k<n):(l7 c B G n).take (k+1)=(l7 c B G n).take k++[sP c B G n k]:=by
 have h:k<(l7 c B G n).length:=by rw[BB];exact hk
 rw[List.take_succ_eq_append_getElem h];simp [l7]
def abc(l:List Int)(w:World)(e:Ending)(w':World):Prop:=∃v,e=.returned v∧(ck bu).is w' [v] l∧gD w.heap.size v∧Gr w w'
def aak(l:List Int)(w:World)(e:Ending)(w':World):Prop:=∃v,e=.returned (.tuple #[v,.int .i64 0])∧(ck bu).is w' [v] l∧gD w.heap.size v∧Gr w w'
set_option maxHeartbeats 2000000 in
set_option maxRecDepth 100000 in
theorem VR(c:List Int)(B G n:Nat)(v:Value)(w:World)(hl:(ck bu).is w [v] c)(hv:∀x∈c,eF x 0 65535=true)(hc0:0<c.length)(ab4:c.length≤20)(CE:0<B)(hB1:B≤9999)(CH:0<G)(hG1:G≤50)(hn:n≤400):
  Calls Try.prog 32 #[.agg #[v,.int .i64 B,.int .i64 G],.int .i64 n] w (abc (l7 c B G n) w):=by
 obtain⟨a,cn,cap,rfl,HCN,hcn,hcap⟩:=i7 hl;have HL:=Lib.hid hl;have HV:=Lib.hid hv;clear hl hv;obtain⟨m,uG⟩:∃m,Hid (m=(n+B-1) / B):=⟨_,Lib.hid rfl⟩
 obtain⟨s,HS⟩:∃s,Hid (s=(m+G-1) / G):=⟨_,Lib.hid rfl⟩
 have hm1:((n:Int)+(B:Int) -1) / (B:Int)=(m:Int):=by rw[uG.out,Int.natCast_ediv,Int.natCast_sub (by omega)];rfl
 have hs1:((m:Int)+(G:Int) -1) / (G:Int)=(s:Int):=by rw[HS.out,Int.natCast_ediv,Int.natCast_sub (by omega)];rfl
 have Jx:m≤400:=by rw[uG.out];exact EE CE hn
 have abu:s≤400:=by rw[HS.out];exact EE CH Jx
 have g0:Gr w (w.alloc (.cells #[.slice a cn cap,.int .i64 B,.int .i64 G] 28)):=(by repeat (first|exact Gr.refl _|assumption|refine Gr.alloc ?_ _|refine Gr.drew ?_|refine Gr.drewN ?_ _|(refine Gr.put ?_ ?_ _;first|exact ay _|(simp;done)|omega)|(apply Gr.after;assumption)))
 have K:bR (w.alloc (.cells #[.slice a cn cap,.int .i64 B,.int .i64 G] 28)) w.heap.size (.slice a cn cap) (.int .i64 B) (.int .i64 G):=bR.of (by repeat (first|exact dJ _ _|(refine kg _ _ _ ?_;(simp;done))|(refine jX _ _ _ _ (by simp;try omega) ?_)));have HW:=Lib.hid ((ck bu).mono HL.out g0)
 go_enter Try.func32,Try.ntmps32
 go_wp2_with (first
  |(go_at_call 65;(with_reducible refine(Wg c s _ _ HW.out HV.out hc0 (by omega) (by omega)).mono ?_);rintro e w1 ⟨v1,rfl,h1,fZ⟩;obtain⟨sa,sn,acK,rfl,Kr,K7,abv⟩:=i7 h1;have H1:=Lib.hid h1;clear h1;replace K:=K.mono fZ))
 have hown:b9 w1 w1.heap.size 3 bu (.slice none 0 0) []:=b9.nil _ _ _ _;have Ch:sn=s:=by rw[Kr.out,qI]
 subst Ch
 go_loopw [9,37] (λv i wr=>∃k:Nat,k≤n∧i=.int .i64 k∧b9 wr w1.heap.size 3 bu v ((l7 c B G n).take k)∧Gr w1 wr) (λ_ i _=>n-(intOf i).toNat)
 case atStart=>exact⟨0,gU _,rfl,hown,Gr.refl _⟩
 case round=>
  clear hown;obtain⟨k,hk,rfl,hown,hG⟩:=hrel;obtain⟨va,vn,vc,rfl,AD,h7,h8⟩:=hown.shape;have hsz:=hG.size;replace K:=K.mono hG;by_cases hlt:k<n
  ·have FL:((l7 c B G n).take k).length≤400:=by rw[gn,BB];omega
   have HT:=Lib.hid (Ny c B G n k hlt);have hs0:0<sn:=by rw[HS.out,uG.out];exact OT (by omega) CE CH
   have iT:Hid (sP c B G n k=(jh c sn).getD (if k / B / sn % 2=1 then sn-1-k / B % sn else k / B % sn) 0):=Lib.hid (by rw[sP,←uG.out,←HS.out]);have hQ:k / B % sn<sn:=Nat.mod_lt _ hs0;have hj:(k:Int) / (B:Int)=((k / B:Nat):Int):=(Int.natCast_ediv k B).symm;have hj2:((k / B:Nat):Int) % (sn:Int)=((k / B % sn:Nat):Int):=(Int.natCast_emod _ _).symm;have hj3:((k / B:Nat):Int) / (sn:Int)=((k / B / sn:Nat):Int):=(Int.natCast_ediv _ _).symm;have acd:((k / B:Nat):Int).tmod (sn:Int)=((k / B % sn:Nat):Int):=by rw[Int.tmod_eq_emod_of_nonneg (Int.natCast_nonneg _)];exact hj2
   have hJ:k / B≤k:=Nat.div_le_self _ _;have hJ2:k / B / sn≤k / B:=Nat.div_le_self _ _;generalize k / B % sn=Q at *
   generalize k / B / sn=P at *
   generalize k / B=J at *
   by_cases hp:P % 2=1
   ·have hpa:((P:Int) % 2==1)=true:=by simp;omega
    have hpb:((P:Int).tmod 2==1)=true:=by rw[Int.tmod_eq_emod_of_nonneg (Int.natCast_nonneg _)];exact hpa
    rw[aK hp]at iT;obtain⟨b',off',rfl,c0,ci⟩:=fT H1.out (k:=sn-1-Q) (by rw[qI];omega);rw[iO,←iT.out]at c0 ci;replace c0:=hG.cell c0;have hi1:(sn:Int) -1-(Q:Int)=((sn-1-Q:Nat):Int):=by omega
    have hi2:sn-1-Q<sn:=by omega
    clear hp iT;generalize sP c B G n k=x at *
    generalize sn-1-Q=idx at *
    go_wp2_with (at_builtin;refine lz _ rfl _ _ 26 rfl Try.underlying26 w1.heap.size _ _ rfl (hown.alloc _) _ rfl _ _ (dJ _ _) ci (by omega) (by simp;omega) ?_;intro v' w' dZ eu)
    go_roundw
    case rel=>exact⟨k+1,by omega,by go_num,by rw[HT.out];exact dZ,b9.gr (hown.alloc _) (hG.alloc _) (ay _) eu⟩
    case measure=>simp [intOf];omega
   ·have hpa:((P:Int) % 2==1)=false:=by simp;omega
    have hpb:((P:Int).tmod 2==1)=false:=by rw[Int.tmod_eq_emod_of_nonneg (Int.natCast_nonneg _)];exact hpa
    rw[aI hp]at iT;obtain⟨b',off',rfl,c0,ci⟩:=fT H1.out (k:=Q) (by rw[qI];omega);rw[iO,←iT.out]at c0 ci;replace c0:=hG.cell c0;clear hp iT;generalize sP c B G n k=x at *
    go_wp2_with (at_builtin;refine lz _ rfl _ _ 26 rfl Try.underlying26 w1.heap.size _ _ rfl (hown.alloc _) _ rfl _ _ (dJ _ _) ci (by omega) (by simp;omega) ?_;intro v' w' dZ eu)
    go_roundw
    case rel=>exact⟨k+1,by omega,by go_num,by rw[HT.out];exact dZ,b9.gr (hown.alloc _) (hG.alloc _) (ay _) eu⟩
    case measure=>simp [intOf];omega
  ·go_wp2
   go_ret
   have e:(l7 c B G n).take k=l7 c B G n:=fF (by rw[BB];omega);rw[e]at hown;exact⟨_,rfl,hown.is,(hown.fresh _).le (g0.trans fZ).size,(g0.trans fZ).trans hG⟩
end
section
open Go.RowKit
set_option maxHeartbeats 2000000 in
set_option maxRecDepth 100000 in
theorem VC(c:List Int)(B G n:Nat)(v:Value)(w:World)(hl:(ck bu).is w [v] c)(hv:∀x∈c,eF x 0 65535=true)(hc0:0<c.length)(ab4:c.length≤20)(CE:0<B)(hB1:B≤9999)(CH:0<G)(hG1:G≤50)(hn:n≤400)(hf:Am c B G=0):
  Calls Try.prog 27 #[.agg #[v,.int .i64 B,.int .i64 G],.int .i64 n] w (aak (l7 c B G n) w):=by
 obtain⟨a,cn,cap,rfl,HCN,hcn,hcap⟩:=i7 hl;have HL:=Lib.hid hl;have HV:=Lib.hid hv;clear hl hv;obtain⟨m,uG⟩:∃m,Hid (m=(n+B-1) / B):=⟨_,Lib.hid rfl⟩
 obtain⟨s,HS⟩:∃s,Hid (s=(m+G-1) / G):=⟨_,Lib.hid rfl⟩
 have hm1:((n:Int)+(B:Int) -1) / (B:Int)=(m:Int):=by rw[uG.out,Int.natCast_ediv,Int.natCast_sub (by omega)];rfl
 have hs1:((m:Int)+(G:Int) -1) / (G:Int)=(s:Int):=by rw[HS.out,Int.natCast_ediv,Int.natCast_sub (by omega)];rfl
 have Jx:m≤400:=by rw[uG.out];exact EE CE hn
 have abu:s≤400:=by rw[HS.out];exact EE CH Jx
 have hwn:eF (n:Int) 0 400=true:=by simp [eF];omega
 have HF:=Lib.hid hf;clear hf;have Hfi:Hid (Ad [0,oS false 1]=0):=Lib.hid (by decide);have g0:Gr w (w.alloc (.cells #[.slice a cn cap,.int .i64 B,.int .i64 G] 28)):=(by repeat (first|exact Gr.refl _|assumption|refine Gr.alloc ?_ _|refine Gr.drew ?_|refine Gr.drewN ?_ _|(refine Gr.put ?_ ?_ _;first|exact ay _|(simp;done)|omega)|(apply Gr.after;assumption)))
 have K:bR (w.alloc (.cells #[.slice a cn cap,.int .i64 B,.int .i64 G] 28)) w.heap.size (.slice a cn cap) (.int .i64 B) (.int .i64 G):=bR.of (by repeat (first|exact dJ _ _|(refine kg _ _ _ ?_;(simp;done))|(refine jX _ _ _ _ (by simp;try omega) ?_)))
 go_enter Try.func27,Try.ntmps27
 go_wp2_with (first
  |(go_at_call 35;refine(zC _ _ _ _).mono ?_;rintro e w' ⟨rfl,rfl⟩)
  |(go_at_call 25;refine(OZ _ _ _).mono ?_;rintro e w' ⟨rfl,rfl⟩)
  |(go_at_call 24;(with_reducible refine(Vk c _ _ _ _ ((ck bu).mono HL.out g0)).mono ?_);rintro e w0 ⟨rfl,hb0⟩;rw[HF.out];replace K:=K.mono hb0;have HW:=Lib.hid ((ck bu).mono HL.out (g0.trans hb0)))
  |(go_at_call 22;(with_reducible refine(Zn _ _ _ _ _ ?_).mono ?_);(focus (simp;done));rintro e w' ⟨rfl,rfl⟩;rw[Hfi.out])
  |fail)
 have g2:Gr w0 (w0.alloc (.cells #[.int .i64 0,.int .i64 (oS false 1)] 30)):=(by repeat (first|exact Gr.refl _|assumption|refine Gr.alloc ?_ _|refine Gr.drew ?_|refine Gr.drewN ?_ _|(refine Gr.put ?_ ?_ _;first|exact ay _|(simp;done)|omega)|(apply Gr.after;assumption)))
 replace K:=K.mono g2;replace HW:=Lib.hid ((ck bu).mono HW.out g2);have g3:=(g0.trans hb0).trans g2;generalize w0.alloc (.cells #[.int .i64 0,.int .i64 (oS false 1)] 30)=W at *
 go_wp2_with (first
  |(go_at_call 58;(with_reducible refine(W6 c s _ _ HW.out HV.out hc0 (by omega) (by omega)).mono ?_);rintro e w1 ⟨v1,rfl,h1,fZ⟩;obtain⟨sa,sn,acK,rfl,Kr,K7,abv⟩:=i7 h1;have H1:=Lib.hid h1;clear h1;replace K:=K.mono fZ))
 have hown:b9 w1 w1.heap.size 3 bu (.slice none 0 0) []:=b9.nil _ _ _ _;have Ch:sn=s:=by rw[Kr.out,qI]
 subst Ch
 go_loopw [11,50] (λv i wr=>∃k:Nat,k≤n∧i=.int .i64 k∧b9 wr w1.heap.size 3 bu v ((l7 c B G n).take k)∧Gr w1 wr) (λ_ i _=>n-(intOf i).toNat)
 case atStart=>exact⟨0,gU _,rfl,hown,Gr.refl _⟩
 case round=>
  clear hown;obtain⟨k,hk,rfl,hown,hG⟩:=hrel;obtain⟨va,vn,vc,rfl,AD,h7,h8⟩:=hown.shape;have hsz:=hG.size;replace K:=K.mono hG;by_cases hlt:k<n
  ·have FL:((l7 c B G n).take k).length≤400:=by rw[gn,BB];omega
   have HT:=Lib.hid (Ny c B G n k hlt);have hs0:0<sn:=by rw[HS.out,uG.out];exact OT (by omega) CE CH
   have iT:Hid (sP c B G n k=(jh c sn).getD (if k / B / sn % 2=1 then sn-1-k / B % sn else k / B % sn) 0):=Lib.hid (by rw[sP,←uG.out,←HS.out]);have hQ:k / B % sn<sn:=Nat.mod_lt _ hs0;have hj:(k:Int) / (B:Int)=((k / B:Nat):Int):=(Int.natCast_ediv k B).symm;have hj2:((k / B:Nat):Int) % (sn:Int)=((k / B % sn:Nat):Int):=(Int.natCast_emod _ _).symm;have hj3:((k / B:Nat):Int) / (sn:Int)=((k / B / sn:Nat):Int):=(Int.natCast_ediv _ _).symm;have acd:((k / B:Nat):Int).tmod (sn:Int)=((k / B % sn:Nat):Int):=by rw[Int.tmod_eq_emod_of_nonneg (Int.natCast_nonneg _)];exact hj2
   have hJ:k / B≤k:=Nat.div_le_self _ _;have hJ2:k / B / sn≤k / B:=Nat.div_le_self _ _;generalize k / B % sn=Q at *
   generalize k / B / sn=P at *
   generalize k / B=J at *
   by_cases hp:P % 2=1
   ·have hpa:((P:Int) % 2==1)=true:=by simp;omega
    have hpb:((P:Int).tmod 2==1)=true:=by rw[Int.tmod_eq_emod_of_nonneg (Int.natCast_nonneg _)];exact hpa
    rw[aK hp]at iT;obtain⟨b',off',rfl,c0,ci⟩:=fT H1.out (k:=sn-1-Q) (by rw[qI];omega);rw[iO,←iT.out]at c0 ci;replace c0:=hG.cell c0;have hi1:(sn:Int) -1-(Q:Int)=((sn-1-Q:Nat):Int):=by omega
    have hi2:sn-1-Q<sn:=by omega
    clear hp iT;generalize sP c B G n k=x at *
    generalize sn-1-Q=idx at *
    go_wp2_with (at_builtin;refine lz _ rfl _ _ 26 rfl Try.underlying26 w1.heap.size _ _ rfl (hown.alloc _) _ rfl _ _ (dJ _ _) ci (by omega) (by simp;omega) ?_;intro v' w' dZ eu)
    go_roundw
    case rel=>exact⟨k+1,by omega,by go_num,by rw[HT.out];exact dZ,b9.gr (hown.alloc _) (hG.alloc _) (ay _) eu⟩
    case measure=>simp [intOf];omega
   ·have hpa:((P:Int) % 2==1)=false:=by simp;omega
    have hpb:((P:Int).tmod 2==1)=false:=by rw[Int.tmod_eq_emod_of_nonneg (Int.natCast_nonneg _)];exact hpa
    rw[aI hp]at iT;obtain⟨b',off',rfl,c0,ci⟩:=fT H1.out (k:=Q) (by rw[qI];omega);rw[iO,←iT.out]at c0 ci;replace c0:=hG.cell c0;clear hp iT;generalize sP c B G n k=x at *
    go_wp2_with (at_builtin;refine lz _ rfl _ _ 26 rfl Try.underlying26 w1.heap.size _ _ rfl (hown.alloc _) _ rfl _ _ (dJ _ _) ci (by omega) (by simp;omega) ?_;intro v' w' dZ eu)
    go_roundw
    case rel=>exact⟨k+1,by omega,by go_num,by rw[HT.out];exact dZ,b9.gr (hown.alloc _) (hG.alloc _) (ay _) eu⟩
    case measure=>simp [intOf];omega
  ·go_wp2
   go_ret2
   have e:(l7 c B G n).take k=l7 c B G n:=fF (by rw[BB];omega);rw[e]at hown;exact⟨_,rfl,hown.is,(hown.fresh _).le (g3.trans fZ).size,(g3.trans fZ).trans hG⟩
end
section
open Go.RowKit
theorem Nd{c:RC}{b:Nat}{P:Int→Prop}:∀(l:List Int)(off:Nat),(∀k(h:k<l.length),c.w.cell? ⟨b,off+k,none⟩=some (.int .i64 l[k]))→aX c 1 b off (l.map cC)
 |[],off,h=>by simp [aX]
 |x::l,off,h=>by
  simp only[fJ,aX];refine⟨rfl,?_,Nd (P:=P) l (off+1) λk hk=>?_⟩
  ·unfold cC;simp only[aT];exact⟨⟨_,h 0 (by simp),rfl,by simp [ak]⟩,trivial⟩
  ·have:=h (k+1) (by simp;omega);rw[show off+1+k=off+(k+1) by omega];simpa using this
theorem M5{c:RC}{b:Nat}:∀(l:List Int)(off:Nat),aX c 1 b off (l.map cC)→∀k(h:k<l.length),c.w.cell? ⟨b,off+k,none⟩=some (.int .i64 l[k])
 |[],off,h,k,hk=>by simp at hk
 |x::l,off,h,k,hk=>by
  simp only[fJ,aX]at h;obtain⟨_,h2,h3⟩:=h;cases k with
  |zero=>unfold cC at h2;simp only[aT,ak]at h2;obtain⟨⟨v,h4,_,h5⟩,_⟩:=h2;subst h5;exact h4
  |succ k=>have:=M5 l (off+1) h3 k (by simp at hk;omega);rw[show off+1+k=off+(k+1) by omega]at this;simpa using this
theorem ZG{c:RC}{v:Value}{l:List Int}(h:ak c (.sl 1 (l.map cC)) v)(yx:l.length≤20)(hl:∀x∈l,0≤x∧x≤65535):(ck bu).is c.w [v] l∨l=[]:=by
 simp only[ak]at h;obtain⟨a,cap,rfl,hc,_,hor⟩:=h;rcases hor with h|⟨b,off,rfl,_,_,hE⟩
 ·right;simpa using h
 ·left;refine .inr ⟨b,off,none,cap,by rw[List.length_map],by simpa using hc,Nat.le_trans yx (show(20:Nat)≤maxLen by decide),λi hi=>⟨rfl,[.int .i64 l[i]],λj hj=>?_,rfl,?_⟩⟩
  ·have hj0:j=0:=by simp [bu]at hj;exact hj
   subst hj0;have:=M5 l off hE i hi;simpa [bu]using this
  ·have:=hl _ (List.getElem_mem hi);exact⟨by omega,by omega⟩
theorem OE{z:Z}{w':World}{v:Value}{l:List Int}(hlt:∀b,z.X b→b<z.w.heap.size){σ:Heap}(hh:eB (ctx z z.w z.E bY) σ)(h:(ck bu).is w' [v] l)(hf:gD z.w.heap.size v)(hne:l≠[]→True):ak (ctx z w' z.E bY) (sl 1 cC l) v:=by
 obtain⟨a,cap,rfl,h2,h3⟩:=Mz h;simp only[sl,ak,List.length_map];refine⟨a,cap,rfl,h2,by decide,?_⟩;by_cases hn:l=[]
 ·left;rw[hn];rfl
 right;have hpos:0<l.length:=List.length_pos_iff.2 hn;obtain⟨b,off,rfl,c0,_⟩:=fT h hpos;refine⟨b,off,rfl,?_,?_,Nd (P:=λ_=>True) l off λk hk=>?_⟩
 ·simp only[ctx];rw[World.cell?]at c0;rcases Nat.lt_or_ge b w'.heap.size with h|h
  ·exact h
  ·rw[Array.getElem?_eq_none h]at c0;simp at c0
 ·simp only[gD]at hf;rintro(q|⟨p,hp,q⟩|⟨i,q⟩)
  ·have:=hlt _ q;omega
  ·have:=hh.lt (p:=p) hp;simp only[ctx]at this;omega
  ·cases q
 ·obtain⟨b',off',e,c1,_⟩:=fT h hk;simp only[Option.some.injEq,Addr.mk.injEq]at e;obtain⟨rfl,rfl,_⟩:=e;exact c1
theorem PN:mG=l7:=rfl
theorem qW{x:Int}(h:0≤x∧x≤65535):eF x 0 65535=true:=by simpa [eF]using h
theorem aau{c:List Int}{b g n:Int}(h:wN c b g n):Am c b g=0:=by
 obtain⟨h1,h2,h3,h4,h5,_⟩:=h;unfold Am;rw[aI (by omega),aI (by omega),aI,aI]
 ·rw[show eF b 1 9999=true by simpa [eF]using h4,show eF g 1 50=true by simpa [eF]using h5];simp
 ·rw[List.any_eq_true];rintro⟨x,hx,hb⟩;unfold sN at hb;rw[qW (h3 x hx)]at hb;cases hb
theorem Ow{c:RC}{es:List an}{b g n:Int}{vs:Array Value}(h:aC c [.agg [.sl 1 es,.int .i64 b,.int .i64 g],.int .i64 n] vs.toList)(hq:uy es b g n):∃v,vs=#[.agg #[v,.int .i64 b,.int .i64 g],.int .i64 n]∧(ck bu).is c.w [v] (oP es):=by
 obtain⟨tC,hk⟩:=hq;obtain⟨v,u,rfl,r1,r2⟩:=JE h;simp only[ak]at r1 r2;obtain⟨ws,rfl,r3,_⟩:=r1;subst r2;simp only[aC]at r3;obtain⟨v0,l0,e0,p0,v1,l1,rfl,p1,v2,l2,rfl,p2,rfl⟩:=r3;have hp1:v1=.int .i64 b:=by simpa [ak]using p1
 have hp2:v2=.int .i64 g:=by simpa [ak]using p2
 subst hp1 hp2;obtain rfl:ws=#[v0,.int .i64 b,.int .i64 g]:=jv.1 e0;refine⟨v0,rfl,?_⟩;rw[tC]at p0;have hk':=hk;obtain⟨k1,k2,k3,_⟩:=hk';rcases ZG p0 k2 k3 with q|q
 ·exact q
 ·rw[q]at k1;simp at k1
theorem U5{z:Z}{vs:Array Value}{es:List an}{b g n:Int}{σ:Heap}(e2:∀b,z.X b→b<z.w.heap.size)(hh:eB (ctx z z.w z.E bY) σ)(ha:aC (ctx z z.w z.E bY) [.agg [.sl 1 es,.int .i64 b,.int .i64 g],.int .i64 n] vs.toList)(hq:uy es b g n):
  Calls Try.prog 32 vs z.w λe w'=>∃v E',e=.returned v∧Out z w' E'∧eB (ctx z w' E' bY) σ∧ak (ctx z w' E' bY) (sl 1 cC (mG (oP es) b.toNat g.toNat n.toNat)) v:=by
 obtain⟨v,rfl,hv⟩:=Ow ha hq;obtain⟨q1,q2,q3,q4,q5,q6⟩:=hq.2;have:=VR (oP es) b.toNat g.toNat n.toNat v z.w hv (λx hx=>qW (q3 x hx)) q1 q2 (by omega) (by omega) (by omega) (by omega) (by omega);rw[Int.toNat_of_nonneg (by omega),Int.toNat_of_nonneg (by omega),Int.toNat_of_nonneg (by omega)]at this;refine this.mono ?_;rintro e w' ⟨u,rfl,hu,hf,hb⟩;have hout:Out z z.w z.E:=⟨rfl,rfl,rfl,ay _,λ_ _ _=>rfl,λi p hp=>.inr ⟨p,hp,rfl⟩,λi p hp=>⟨p,hp,.inl rfl⟩,e2,λp hp=>hh.lt hp⟩
 refine⟨_,z.E,rfl,hout.grow hb,hh.mono (pY hb) rfl (λp hp=>hb.block _ (hh.lt hp)),?_⟩;rw[PN];exact OE e2 hh hu hf (λ_=>trivial)
theorem U6{z:Z}{vs:Array Value}{es:List an}{b g n:Int}{σ:Heap}(e2:∀b,z.X b→b<z.w.heap.size)(hh:eB (ctx z z.w z.E bY) σ)(ha:aC (ctx z z.w z.E bY) [.agg [.sl 1 es,.int .i64 b,.int .i64 g],.int .i64 n] vs.toList)(hq:uy es b g n):
  Calls Try.prog 27 vs z.w λe w'=>∃v E',e=.returned v∧Out z w' E'∧eB (ctx z w' E' bY) σ∧ak (ctx z w' E' bY) (.aD [sl 1 cC (mG (oP es) b.toNat g.toNat n.toNat),.int .i64 0]) v:=by
 obtain⟨v,rfl,hv⟩:=Ow ha hq;obtain⟨q1,q2,q3,q4,q5,q6⟩:=hq.2;have:=VC (oP es) b.toNat g.toNat n.toNat v z.w hv (λx hx=>qW (q3 x hx)) q1 q2 (by omega) (by omega) (by omega) (by omega) (by omega) (by rw[Int.toNat_of_nonneg (by omega),Int.toNat_of_nonneg (by omega)];exact aau hq.2);rw[Int.toNat_of_nonneg (by omega),Int.toNat_of_nonneg (by omega),Int.toNat_of_nonneg (by omega)]at this;refine this.mono ?_;rintro e w' ⟨u,rfl,hu,hf,hb⟩;have hout:Out z z.w z.E:=⟨rfl,rfl,rfl,ay _,λ_ _ _=>rfl,λi p hp=>.inr ⟨p,hp,rfl⟩,λi p hp=>⟨p,hp,.inl rfl⟩,e2,λp hp=>hh.lt hp⟩
 refine⟨_,z.E,rfl,hout.grow hb,hh.mono (pY hb) rfl (λp hp=>hb.block _ (hh.lt hp)),?_⟩;rw[PN];simp only[ak];refine⟨_,rfl,?_⟩;simp only[aC];exact⟨_,_,rfl,OE e2 hh hu hf (λ_=>trivial),_,_,rfl,by simp [ak],rfl⟩
theorem V5:Sound Try.prog aJ 32 DO:=by
 intro args σ r σ' h;unfold DO A.dU at h;split at h
 ·simp only at h;split at h
  ·split at h
   ·rename_i hq;simp only[Option.some.injEq,Prod.mk.injEq]at h;obtain⟨rfl,rfl⟩:=h;exact .inl ⟨32,Try.call32,λz vs e1 e2 hh ha=>U5 e2 hh ha hq⟩
   ·cases h
  ·cases h
 ·cases h
theorem Ve:Sound Try.prog aJ 27 DH:=by
 intro args σ r σ' h;unfold DH A.dU at h;split at h
 ·simp only at h;split at h
  ·split at h
   ·rename_i hq;simp only[Option.some.injEq,Prod.mk.injEq]at h;obtain⟨rfl,rfl⟩:=h;exact .inl ⟨27,Try.call27,λz vs e1 e2 hh ha=>U6 e2 hh ha hq⟩
   ·cases h
  ·cases h
 ·cases h
end
section
set_option maxRecDepth 100000
open Go.RowKit
theorem Vv{P:Program}(w:World)(tS tR e:TypeId)(ht:P.underlying tS=some (.slice e))(size:Nat)(hz:∀w,(Go.sizeOf e).run P w=.ok size w)
  (a b:Addr) (la ca lb cb:Nat) (hne:a.block≠b.block) (arr qn:Array Value) (tA tB:TypeId) (fz:Nat×Nat)
  (ha:w.heap[a.block]? =some (.cells arr tA fz)) (hs:0<arr.size) (hb:w.heap[b.block]? =some (.cells qn tB (0,0))):
  (Extern.SlicesOverlaps.overlaps #[tS,tS] #[tR] #[.slice (some a) la ca,.slice (some b) lb cb]).run P w=.ok (.bool false) w:=by
 have hnb:(a.block !=b.block)=true:=by simpa using hne
 have aci:(a.block==b.block)=false:=by simpa using hne
 have hsa:w.shape? a.block=some (tA,arr.size):=by simp [World.shape?,ha]
 have hsb:w.shape? b.block=some (tB,qn.size):=by simp [World.shape?,hb]
 have hfb:w.frozen? b=false:=by simp [World.frozen?,hb]
 have ab5:w.frozen? {block:=b.block,off:=qn.size}=false:=by simp [World.frozen?,hb]
 delta Extern.SlicesOverlaps.overlaps Extern.SlicesOverlaps.overlaps.match_4 Extern.SlicesOverlaps.overlaps._sparseCasesOn_4;dsimp [Array.getLit,Array.casesOn];obtain⟨k,hk⟩:∃k,arr.size=k+1:=⟨arr.size-1,by omega⟩
 rw[hk]at hsa;by_cases h0:la=0∨lb=0∨size=0
 ·simp [run_underlying ht,hz,h0]
 ·cases hfa:w.frozen? a<;>cases hfe:w.frozen? {block:=a.block,off:=k+1}<;>simp [run_underlying ht,hz,h0,hnb,aci,frozen,noView,viewAt,mayBeOne,stringish,shape,Sem.run,hsa,hsb,hfa,hfe,hfb,ab5]
theorem Yf{w:World}{b off:Nat}{v:Value}(h:w.cell? ⟨b,off,none⟩=some v):∃arr t fz,w.heap[b]? =some (.cells arr t fz)∧0<arr.size:=by
 unfold World.cell? at h;simp only at h;split at h
 ·rename_i arr t fz hh;refine⟨arr,t,fz,hh,?_⟩;simp only[Option.isSome_none,Bool.false_eq_true,if_false]at h;have:=(nU.1 h).1;omega
 ·cases h
theorem UP {P : Program} {nm : List Nat} {f : FuncId} {fn : Func} {tS tR e : TypeId} {i : TypeInfo} (hf : P.funcs[f]? = some fn) (h1 : (fn.name == "runtime.NumGoroutine") = false) (h2 : fn.body.isNone = true) (h3 : Extern.findNext fn = none)
  (h4:Extern.find fn=some (Extern.SlicesOverlaps.overlaps #[tS,tS] #[tR])) (ht:P.underlying tS=some (.slice e)) (hi:P.info? e=some i):Sound P nm f rY:=by
 intro args σ r σ' h;unfold rY A.dU at h;split at h
 ·simp only at h;split at h
  ·rename_i sz es id g sz' off len;split at h
   ·rename_i hg0 ss es' hs;split at h
    ·rename_i hc;obtain⟨hne,rfl,tC,hl⟩:=hc;simp only[Option.some.injEq,Prod.mk.injEq]at h;obtain⟨rfl,rfl⟩:=h;refine .inr λz vs e1 e2 hh ha=>?_
     obtain⟨v,u,rfl,r1,r2⟩:=JE ha;simp only[ak]at r1 r2;obtain⟨a,cap,rfl,hcap,acr,r1⟩:=r1;obtain⟨b,lK,rfl,hb,hX,r1⟩:=r1.resolve_left hne;obtain⟨hg,p,k1,k2,a',cap',rfl,ads,rx⟩:=r2;obtain⟨j1,j2,j3,j4,⟨arr,bt,j5,j6⟩,j7,j8,j9⟩:=hh.blk id p _ k1 hs;obtain⟨q1,q2,q3⟩:=rx j1.symm;have hsz:∀w,(Go.sizeOf e).run P w=.ok i.size w:=λw=>by simp [sizeOf,pV w hi]
     have ha':a'=⟨p.b,p.base+off*p.sz,none⟩:=q2.resolve_left (by omega);have hpb:b≠p.b:=λk=>hX (.inr (.inl ⟨p,dF k1,k.symm⟩))
     have hw5:z.w.heap[p.b]? =some (.cells arr bt (0,0)):=j5
     have hcell:∃v,z.w.cell? ⟨b,lK,none⟩=some v:=by
      cases es with
      |nil=>exact absurd rfl hne
      |cons x xs=>
       simp only[aX]at r1;obtain⟨l1,l2,_⟩:=r1;cases x with
       |nil=>simp at l1;omega
       |cons y ys=>simp only[aT]at l2;obtain⟨⟨v,l3,_⟩,_⟩:=l2;exact⟨v,l3⟩
     obtain⟨v,hv⟩:=hcell;obtain⟨abD,t0,fz0,m1,m2⟩:=Yf hv;have hrun:=Vv (P:=P) z.w tS tR e ht i.size hsz ⟨b,lK,none⟩ a' es.length cap len cap' (by rw[ha'];exact hpb) abD arr t0 bt fz0 m1 m2 (by rw[ha'];exact hw5);refine⟨.bool false,z.w,z.E,?_,⟨rfl,rfl,rfl,ay _,λ_ _ _=>rfl,λi p hp=>.inr ⟨p,hp,rfl⟩,λi p hp=>⟨p,hp,.inl rfl⟩,e2,λp hp=>hh.lt hp⟩,hh,by simp [ak]⟩;rw[run_callFunc_extern hf h1 h2 h3 h4,hrun];rfl
    ·cases h
   ·cases h
  ·cases h
 ·cases h
theorem TS:Sound Try.prog aJ 85 rY:=UP Try.func85 (by kernel_rfl) (by kernel_rfl) (by kernel_rfl) (tS:=29) (tR:=4) (by kernel_rfl) (e:=37) (by kernel_rfl) rfl
end
section
set_option maxRecDepth 100000
theorem WO:Sound Try.prog aJ 106 HU:=q1 [] 35 (.s .n (.s (.s .n (.b (.l [2,7] [.exit 0,.ret] (.s .n (.s cV (.s (.b (.s .n (.s .n bZ))) .n)))))) bl)) aO.nil Try.func106 Try.call106 (λa0 σ=>by kernel_rfl) rfl rfl
theorem MO:Sound Try.prog aJ 89 Bl:=q1 [] 20 (.s .n bl) (aO.cons WO aO.nil) Try.func89 Try.call89 (λa0 σ=>by kernel_rfl) rfl rfl
theorem Bf:Sound Try.prog aJ 35 nM:=q3 [] 15 (.s .n bl) aO.nil Try.func35 Try.call35 (λa0 a1 a2 σ=>by kernel_rfl) rfl rfl
theorem Mi:Sound Try.prog aJ 90 Ba:=q1 [] 5 (.s .n bl) (aO.cons Bf aO.nil) Try.func90 Try.call90 (λa0 σ=>by kernel_rfl) rfl rfl
theorem Um:Sound Try.prog aJ 91 Gd:=q1 [5] 63 (.s .n (.s bZ (.s .n (.s (.s .n (.b (.l [2,12] [.exit 0,.ret] (.s .n (.s cV (.s (.b (.s .n (.s (.b (.s .n (.j bl (.s .n (.j bl (.s .n (.j bl bZ))))))) .n))) .n)))))) bl)))) (aO.cons Mi (aO.cons MO aO.nil)) Try.func91 Try.call91 (λa0 σ=>by kernel_rfl) rfl rfl
theorem Uh:Sound Try.prog aJ 75 Ga:=q1 [1,6] 115 (.s .n (.s (.b (.s .n (.j bl (.s .n (.j bl (.s .n (.j bl bZ))))))) (.s .n (.s (.s .n (.b (.l [1,2,33] [.exit 1,.ret] (.s .n (.s cV (.s (.b (.s .n (.s (.b (.s .n (.j bl (.s .n (.j bl (.s .n (.j bl (.s .n (.j bl bZ))))))))) (.s (.s .n bZ) (.s .n (.s .n (.c [1] .n .n))))))) .n)))))) bl)))) (aO.cons MO (aO.cons Bf (aO.cons Mi (aO.cons Um aO.nil)))) Try.func75 Try.call75 (λa0 σ=>by kernel_rfl) rfl rfl
theorem Ug:Sound Try.prog aJ 51 F9:=q1 [5] 30 (.s .n (.s bZ (.s .n (.s (.s .n (.b (.l [2,13] [.exit 0,.ret] (.s .n (.s cV (.s (.b (.s .n (.s (.s .n bZ) (.s bZ .n)))) .n)))))) bl)))) (aO.cons Uh aO.nil) Try.func51 Try.call51 (λa0 σ=>by kernel_rfl) rfl rfl
noncomputable def TU (dyn:Nat→an→Heap→az):Fx:=⟨Try.prog,aJ,A.tab (λ_ _=>none) [],dyn,[],[],19,[]⟩
theorem TT(dyn:Nat→an→Heap→az)(hd:∀f,Sound Try.prog aJ f (dyn (aJ.getD f 0))):Sound Try.prog aJ 76 (A.wrap true [(.s 3)] .k (A.dU (Ds dyn))):=
 Sound.wrap (Sound.wv (X:=TU dyn) (fn:=Try.f76) (bO:=(.s .n (.s (.s .n (.b (.l [4,8] [.exit 0,.ret] (.s .n (.s cV (.s (.b (.s .n bZ)) .n)))))) bl))) .F trivial (dB.of rfl aO.nil (hd)) Try.func76 Try.call76 (λa0 a1 σ=>by kernel_rfl)) _ _ _ rfl rfl
theorem TR(dyn:Nat→an→Heap→az)(hd:∀f,Sound Try.prog aJ f (dyn (aJ.getD f 0))):Sound Try.prog aJ 76 (Dr dyn):=TT dyn hd
theorem Me:Sound Try.prog aJ 77 A6:=q2 [2] 8 (.s .n bl) aO.nil Try.func77 Try.call77 (λa0 a1 σ=>by kernel_rfl) rfl rfl
noncomputable def Ux:Fx:=⟨Try.prog,aJ,A.tab (λ_ _=>none) [(76,Dr (A.tab (λ_ _=>none) [(64,A6)]))],(A.tab (λ_ _=>none) [(64,A6)]),[4],[],17,[]⟩
theorem Uw:Sound Try.prog aJ 52 (A.wrap true [(.s 3)] (.t [(.a [.k,.k,(.e 7 o8)]),.k]) (A.dU (DC))):=
 Sound.wrap (Sound.wv (X:=Ux) (fn:=Try.f52) (bO:=(.s .n (.s .n (.s bZ bl)))) .F trivial (dB.of rfl (aO.cons (TR _ (xq (nu.cons (xg Me (by kernel_rfl) rfl) nu.nil))) aO.nil) (xq (nu.cons (xg Me (by kernel_rfl) rfl) nu.nil))) Try.func52 Try.call52 (λa0 a1 σ=>by kernel_rfl)) _ _ _ rfl rfl
theorem Mj:Sound Try.prog aJ 52 DB:=Uw
theorem Un:Sound Try.prog aJ 53 zh:=q3 [] 32 (.s .n (.s bZ (.s (.s .n (.b (.l [6,7] [.exit 0,.ret] (.s (.s .n cV) (.s (.b bZ) .n))))) bl))) aO.nil Try.func53 Try.call53 (λa0 a1 a2 σ=>by kernel_rfl) rfl rfl
noncomputable def U1:Fx:=⟨Try.prog,aJ,A.tab (λ_ _=>none) [],(λ_ _ _=>none),[4],[15],33,[]⟩
theorem U0:Sound Try.prog aJ 54 (A.wrap false [] .k (A.oh (Bd))):=
 Sound.wrap (Sound.Fm (X:=U1) (fn:=Try.f54) (bO:=(.s .n (.s (.s .n (.c [4] .n .n)) (.s .n (.b (.l [4,6] [.exit 0] (.s (.s .n cV) (.s (.b .n) .n)))))))) .K trivial (dB.of rfl aO.nil (λ_=>Sound.none)) Try.func54 Try.call54 (λa0 a1 a2 σ=>by kernel_rfl)) _ _ _ rfl rfl
theorem UX:Sound Try.prog aJ 54 DF:=U0
theorem Mh:Sound Try.prog aJ 23 DA:=q1 [1,6,7] 91 (.s .n (.s (.s .n bZ) (.s bZ (.s .n (.s (.s .n (.b (.l [1,2,23] [.exit 0,.ret] (.s .n (.s cV (.s (.b (.s .n (.s bZ (.s bZ (.s .n (.s bZ (.s bZ (.s bZ .n)))))))) .n)))))) bl))))) (aO.cons Ug (aO.cons Bf (aO.cons Mj (aO.cons Un (aO.cons UX aO.nil))))) Try.func23 Try.call23 (λa0 σ=>by kernel_rfl) rfl rfl
noncomputable def Uk (dyn:Nat→an→Heap→az):Fx:=⟨Try.prog,aJ,A.tab (λ_ _=>none) [],dyn,[],[],19,[]⟩
theorem Uj(dyn:Nat→an→Heap→az)(hd:∀f,Sound Try.prog aJ f (dyn (aJ.getD f 0))):Sound Try.prog aJ 78 (A.wrap true [(.s 1)] .k (A.dU (Dz dyn))):=
 Sound.wrap (Sound.wv (X:=Uk dyn) (fn:=Try.f78) (bO:=(.s .n (.s (.s .n (.b (.l [4,8] [.exit 0,.ret] (.s .n (.s cV (.s (.b (.s .n bZ)) .n)))))) bl))) .F trivial (dB.of rfl aO.nil (hd)) Try.func78 Try.call78 (λa0 a1 σ=>by kernel_rfl)) _ _ _ rfl rfl
theorem Ui(dyn:Nat→an→Heap→az)(hd:∀f,Sound Try.prog aJ f (dyn (aJ.getD f 0))):Sound Try.prog aJ 78 (Dy dyn):=Uj dyn hd
noncomputable def Uf (dyn:Nat→an→Heap→az):Fx:=⟨Try.prog,aJ,A.tab (λ_ _=>none) [(78,Dy dyn)],dyn,[],[],9,[]⟩
theorem Ue(dyn:Nat→an→Heap→az)(hd:∀f,Sound Try.prog aJ f (dyn (aJ.getD f 0))):Sound Try.prog aJ 55 (A.wrap true [(.s 1)] .k (A.dU (Dx dyn))):=
 Sound.wrap (Sound.wv (X:=Uf dyn) (fn:=Try.f55) (bO:=(.s .n bl)) .F trivial (dB.of rfl (aO.cons (Ui dyn hd) aO.nil) (hd)) Try.func55 Try.call55 (λa0 a1 σ=>by kernel_rfl)) _ _ _ rfl rfl
theorem Ud(dyn:Nat→an→Heap→az)(hd:∀f,Sound Try.prog aJ f (dyn (aJ.getD f 0))):Sound Try.prog aJ 55 (Dw dyn):=Ue dyn hd
theorem UZ:Sound Try.prog aJ 37 GA:=q1 [] 5 (.s .n bl) (aO.cons Bf aO.nil) Try.func37 Try.call37 (λa0 σ=>by kernel_rfl) rfl rfl
theorem Mg:Sound Try.prog aJ 56 A9:=q1 [] 6 (.s .n bl) (aO.cons UZ aO.nil) Try.func56 Try.call56 (λa0 σ=>by kernel_rfl) rfl rfl
noncomputable def UI:Fx:=⟨Try.prog,aJ,A.tab (λ_ _=>none) [(55,Dw (A.tab (λ_ _=>none) [(11,A9)])),(35,nM)],(A.tab (λ_ _=>none) [(11,A9)]),[1],[],28,[]⟩
theorem UH:Sound Try.prog aJ 24 (A.wrap true [(.a [(.s 1),.k,.k])] .k (A.eP (DE))):=
 Sound.wrap (Sound.Cm (X:=UI) (fn:=Try.f24) (bO:=(.s .n (.s (.b (.s .n (.j bl (.s .n (.j bl (.s .n (.j bl bZ))))))) bl))) .F trivial (dB.of rfl (aO.cons (Ud _ (xq (nu.cons (xg Mg (by kernel_rfl) rfl) nu.nil))) (aO.cons Bf aO.nil)) (xq (nu.cons (xg Mg (by kernel_rfl) rfl) nu.nil))) Try.func24 Try.call24 (λa0 σ=>by kernel_rfl)) _ _ _ rfl rfl
theorem UG:Sound Try.prog aJ 24 Gw:=UH
theorem V8:Sound Try.prog aJ 25 He:=q2 [] 7 (.s .n (.s bZ bl)) aO.nil Try.func25 Try.call25 (λa0 a1 σ=>by kernel_rfl) rfl rfl
theorem Vz:Sound Try.prog aJ 22 GS:=q1 [] 15 (.s .n (.s (.s .n (.b (.l [2,7] [.exit 0,.ret] (.s .n (.s cV (.s (.b (.s .n bZ)) .n)))))) bl)) aO.nil Try.func22 Try.call22 (λa0 σ=>by kernel_rfl) rfl rfl
theorem UW:Sound Try.prog aJ 57 Gy:=q1 [1,7,8,11] 50 (.s .n (.s (.s .n bZ) (.s .n (.s (.s .n (.b (.l [1,5,20] [.exit 0] (.s .n (.s cV (.s (.b (.s .n (.s .n (.s .n (.b (.l [1,5,7,35] [.exit 2] (.s .n (.s cV (.s (.b bl) .n))))))))) .n)))))) bl)))) (aO.cons Mh (aO.cons Mj aO.nil)) Try.func57 Try.call57 (λa0 σ=>by kernel_rfl) rfl rfl
theorem V7:Sound Try.prog aJ 26 G9:=q1 [1,7] 24 (.s .n (.s .n (.s .n (.s (.s .n (.b (.l [16] [.exit 0] (.s .n (.s cV (.s (.b bl) .n)))))) bl)))) (aO.cons UW aO.nil) Try.func26 Try.call26 (λa0 σ=>by kernel_rfl) rfl rfl
theorem Vg:Sound Try.prog aJ 6 GJ:=q4 [4,7] 81 (.s .n (.s (.s .n bZ) (.s .n (.s (.s .n (.b (.l [7,8,9,38] [.exit 0,.ret] (.s .n (.s cV (.s (.b (.s .n (.s bZ (.s bZ .n)))) .n)))))) (.s .n (.s .n (.s (.s .n (.b (.l [17,63] [.exit 2] (.s .n (.s cV (.s (.b bl) .n)))))) bl))))))) (aO.cons Mh (aO.cons UG (aO.cons V8 (aO.cons Vz (aO.cons V7 (aO.cons Ve aO.nil)))))) Try.func6 Try.call6 (λa0 a1 a2 a3 σ=>by kernel_rfl) rfl rfl
theorem V1:Sound Try.prog aJ 108 G6:=q1 [] 34 (.s .n (.s (.s .n (.b (.l [2,7] [.exit 0,.ret] (.s .n (.s cV (.s (.b (.s .n (.s .n bZ))) .n)))))) bl)) aO.nil Try.func108 Try.call108 (λa0 σ=>by kernel_rfl) rfl rfl
theorem MN:Sound Try.prog aJ 94 Bk:=q1 [] 20 (.s .n bl) (aO.cons V1 aO.nil) Try.func94 Try.call94 (λa0 σ=>by kernel_rfl) rfl rfl
theorem Bn:Sound Try.prog aJ 43 pW:=q3 [] 15 (.s .n bl) aO.nil Try.func43 Try.call43 (λa0 a1 a2 σ=>by kernel_rfl) rfl rfl
theorem My:Sound Try.prog aJ 45 zo:=q1 [] 5 (.s .n bl) (aO.cons Bn aO.nil) Try.func45 Try.call45 (λa0 σ=>by kernel_rfl) rfl rfl
theorem WN:Sound Try.prog aJ 109 DW:=q1 [1] 14 (.s .n (.s bZ bl)) aO.nil Try.func109 Try.call109 (λa0 σ=>by kernel_rfl) rfl rfl
theorem Uq:Sound Try.prog aJ 64 Gj:=q2 [] 19 (.s .n (.s (.s .n (.b (.l [4,8] [.exit 0,.ret] (.s .n (.s cV (.s (.b (.s .n bZ)) .n)))))) bl)) aO.nil Try.func64 Try.call64 (λa0 a1 σ=>by kernel_rfl) rfl rfl
theorem Mf:Sound Try.prog aJ 31 A7:=q2 [] 9 (.s .n bl) (aO.cons Uq aO.nil) Try.func31 Try.call31 (λa0 a1 σ=>by kernel_rfl) rfl rfl
theorem UF:Sound Try.prog aJ 95 Gv:=q3 [3,8,10,14,16] 148 (.s .n (.s bZ (.s (.s .n (.b (.l [3,6,23] [.exit 0,.ret] (.s .n (.s cV (.s (.b (.s .n bZ)) .n)))))) (.s (.b (.s .n (.j bl (.s .n (.j bl bZ))))) (.s (.s .n (.b (.l [3,6,65] [.exit 3,.ret] (.s .n (.s cV (.s (.b (.s .n (.s .n (.b (.l [3,6,10,72] [.exit 5,.ret] (.s .n (.s cV (.s (.b (.s .n bZ)) .n)))))))) .n)))))) (.s bZ (.s (.s .n (.b (.l [3,6,89] [.exit 7,.ret] (.s .n (.s cV (.s (.b (.s .n (.s (.b (.s .n (.j bl (.s .n (.j bl bZ))))) (.s .n (.b (.l [3,6,14,137] [.exit 10,.ret] (.s .n (.s cV (.s (.b (.s .n bZ)) .n))))))))) .n)))))) bl))))))) (aO.cons MN (aO.cons Bn (aO.cons My (aO.cons WN (aO.cons Mf aO.nil))))) Try.func95 Try.call95 (λa0 a1 a2 σ=>by kernel_rfl) rfl rfl
theorem Uu:Sound Try.prog aJ 81 Gn:=q1 [1,4] 46 (.s .n (.s (.b (.s .n (.j bl (.s .n (.j bl (.s .n (.j bl bZ))))))) (.s (.s .n (.b (.l [1,2,29] [.exit 1,.ret] (.s .n (.s cV (.s (.b (.s .n (.s .n bZ))) .n)))))) bl))) (aO.cons MN (aO.cons Bn (aO.cons UF aO.nil))) Try.func81 Try.call81 (λa0 σ=>by kernel_rfl) rfl rfl
theorem Ut:Sound Try.prog aJ 59 Gm:=q1 [4,7] 38 (.s .n (.s bZ (.s (.s .n (.b (.l [2,13] [.exit 0,.ret] (.s .n (.s cV (.s (.b (.s .n (.s (.s .n bZ) (.s .n (.b (.l [2,4,27] [.exit 2,.ret] (.s .n (.s cV (.s (.b (.s .n bZ)) .n))))))))) .n)))))) bl))) (aO.cons Uu aO.nil) Try.func59 Try.call59 (λa0 σ=>by kernel_rfl) rfl rfl
theorem G1:Sound Try.prog aJ 60 Bh:=q2 [4,7] 21 (.s .n (.s (.s .n (.b (.l [4,5,10] [.exit 0,.ret] (.s .n (.s cV (.s (.b (.s .n bZ)) .n)))))) bl)) aO.nil Try.func60 Try.call60 (λa0 a1 σ=>by kernel_rfl) rfl rfl
theorem XV:Sound Try.prog aJ 61 Bv:=q2 [2,3,5] 21 (.s .n (.s .n bl)) (aO.cons G1 aO.nil) Try.func61 Try.call61 (λa0 a1 σ=>by kernel_rfl) rfl rfl
theorem Vc:Sound Try.prog aJ 28 GG:=q1 [1,5,6,9] 108 (.s .n (.s (.s .n bZ) (.s bZ (.s (.s .n (.b (.l [1,2,23] [.exit 0,.ret] (.s .n (.s cV (.s (.b (.s .n (.s .n (.s (.b (.s .n (.j bl (.s .n (.j bl (.s .n (.j bl bZ))))))) (.s .n (.b (.l [1,2,5,81] [.exit 3,.ret] (.s .n (.s cV (.s (.b (.s .n bZ)) .n)))))))))) .n)))))) bl)))) (aO.cons Ut (aO.cons G1 (aO.cons Bn (aO.cons XV aO.nil)))) Try.func28 Try.call28 (λa0 σ=>by kernel_rfl) rfl rfl
theorem Vd:Sound Try.prog aJ 29 GH:=q1 [1] 36 (.s .n (.s (.b (.s .n (.j bl bZ))) (.s (.s .n (.b (.l [1,2,18] [.exit 1,.ret] (.s .n (.s cV (.s (.b (.s .n bZ)) .n)))))) (.s bZ bl)))) (aO.cons My (aO.cons Bn aO.nil)) Try.func29 Try.call29 (λa0 σ=>by kernel_rfl) rfl rfl
theorem XW:Sound Try.prog aJ 62 Il:=q2 [2,6] 21 (.s .n (.s (.s .n (.b (.l [4,10] [.exit 0,.ret] (.s .n (.s cV (.s (.b (.s .n bZ)) .n)))))) bl)) aO.nil Try.func62 Try.call62 (λa0 a1 σ=>by kernel_rfl) rfl rfl
theorem WM:Sound Try.prog aJ 63 HJ:=q2 [2,4,7] 22 (.s .n (.s (.s .n (.b (.l [4,5,11] [.exit 0,.ret] (.s .n (.s cV (.s (.b (.s .n bZ)) .n)))))) bl)) aO.nil Try.func63 Try.call63 (λa0 a1 σ=>by kernel_rfl) rfl rfl
theorem Vy:Sound Try.prog aJ 30 GR:=q2 [2,3,4,7] 34 (.s .n (.s .n (.s bZ (.s .n bl)))) (aO.cons XW (aO.cons G1 (aO.cons WM aO.nil))) Try.func30 Try.call30 (λa0 a1 σ=>by kernel_rfl) rfl rfl
end
section
set_option maxRecDepth 100000
theorem V4:Sound Try.prog aJ 7 G8:=q4 [4,7,14] 78 (.s .n (.s (.s .n bZ) (.s (.s .n bZ) (.s bZ (.s (.s .n (.b (.l [4,7,8,9,34] [.exit 0,.ret] (.s .n (.s cV (.s (.b (.s .n (.s (.s .n bZ) bZ))) .n)))))) (.s .n (.s (.s .n (.b (.l [16,60] [.exit 2] (.s .n (.s cV (.s (.b bl) .n)))))) bl))))))) (aO.cons Vc (aO.cons Vd (aO.cons Vy (aO.cons Mf (aO.cons V5 aO.nil))))) Try.func7 Try.call7 (λa0 a1 a2 a3 σ=>by kernel_rfl) rfl rfl
theorem T6:Sound Try.prog aJ 8 Dv:=q2 [] 26 (.s .n (.s bZ (.s (.s .n (.b (.l [4,13] [.exit 0,.ret] (.s .n (.s cV (.s (.b (.s .n bZ)) .n)))))) bl))) aO.nil Try.func8 Try.call8 (λa0 a1 σ=>by kernel_rfl) rfl rfl
noncomputable def T8:Fx:=⟨Try.prog,aJ,A.tab (λ_ _=>none) [],(λ_ _ _=>none),[],[],8,[]⟩
theorem T7:Sound Try.prog aJ 38 (A.wrap true [(.s 3)] .k (A.eP (Mb))):=
 Sound.wrap (Sound.Cm (X:=T8) (fn:=Try.f38) (bO:=(.s .n (.s bZ bl))) .K trivial (dB.of rfl aO.nil (λ_=>Sound.none)) Try.func38 Try.call38 (λa0 σ=>by kernel_rfl)) _ _ _ rfl rfl
theorem T5:Sound Try.prog aJ 38 Du:=VG T7 Try.call38 Wn
noncomputable def Tt (dyn:Nat→an→Heap→az):Fx:=⟨Try.prog,aJ,A.tab (λ_ _=>none) [],dyn,[],[],53,[]⟩
theorem Ts(dyn:Nat→an→Heap→az)(hd:∀f,Sound Try.prog aJ f (dyn (aJ.getD f 0))):Sound Try.prog aJ 101 (A.wrap false [] .k (A.tr (Dm dyn))):=
 Sound.wrap (Sound.RV (X:=Tt dyn) (fn:=Try.f101) (bO:=(.s .n (.b (.l [8] [.exit 0] (.s (.s .n cV) (.s (.b (.s .n (.b (.l [9] [.exit 2] (.s (.s .n cV) (.s (.b .n) .n)))))) .n)))))) .K trivial (dB.of rfl aO.nil (hd)) Try.func101 Try.call101 (λa0 a1 a2 a3 σ=>by kernel_rfl)) _ _ _ rfl rfl
theorem Tr(dyn:Nat→an→Heap→az)(hd:∀f,Sound Try.prog aJ f (dyn (aJ.getD f 0))):Sound Try.prog aJ 101 (tK dyn):=Ts dyn hd
noncomputable def Tw:Fx:=⟨Try.prog,aJ,A.tab (λ_ _=>none) [],(λ_ _ _=>none),[],[],38,[]⟩
theorem Tv:Sound Try.prog aJ 122 (A.wrap false [] .k (A.mg (zb))):=
 Sound.wrap (Sound.Fo (X:=Tw) (fn:=Try.f122) (bO:=(.s .n (.b (.l [10] [.exit 0] (.s (.s .n cV) (.s (.b .n) .n)))))) .K trivial (dB.of rfl aO.nil (λ_=>Sound.none)) Try.func122 Try.call122 (λa0 a1 a2 a3 a4 σ=>by kernel_rfl)) _ _ _ rfl rfl
theorem Tu:Sound Try.prog aJ 122 tL:=Tv
noncomputable def TI:Fx:=⟨Try.prog,aJ,A.tab (λ_ _=>none) [(122,tL)],(λ_ _ _=>none),[],[],58,[]⟩
theorem TG:Sound Try.prog aJ 116 (A.wrap false [] .k (A.mg (zf))):=
 Sound.wrap (Sound.Fo (X:=TI) (fn:=Try.f116) (bO:=(.s .n (.s .n (.s (.b (.l [10,11] [.exit 0] (.s (.s .n cV) (.b (.s .n (.c [10,11] bl bl)))))) .n)))) .K trivial (dB.of rfl (aO.cons Tu aO.nil) (λ_=>Sound.none)) Try.func116 Try.call116 (λa0 a1 a2 a3 a4 σ=>by kernel_rfl)) _ _ _ rfl rfl
theorem TE:Sound Try.prog aJ 116 A1:=TG
noncomputable def TA (rec:Nat→an→Heap→az) (dyn:Nat→an→Heap→az):Fx:=⟨Try.prog,aJ,A.tab (λ_ _=>none) [(116,A1),(102,rec 106)],dyn,[],[],220,[]⟩
theorem Tz(rec:Nat→an→Heap→az)(dyn:Nat→an→Heap→az)(J9:∀f,Sound Try.prog aJ f (rec (aJ.getD f 0)))(hd:∀f,Sound Try.prog aJ f (dyn (aJ.getD f 0))):Sound Try.prog aJ 102 (A.wrap false [] .k (A.mg (Dn rec dyn))):=
 Sound.wrap (Sound.Fo (X:=TA rec dyn) (fn:=Try.f102) (bO:=(.s (.s .n (.j (.s .n (.s .n (.s (.b (.l [10,11] [.exit 0] (.s (.s .n cV) (.b (.s .n (.s .n (.c [10,11] .n .n))))))) (.s (.s .n (.b (.l [13] [.exit 2] (.s (.s .n cV) (.s (.b .n) .n))))) .n)))) .n)) (.s (.s .n (.j (.s .n (.s .n (.s (.b (.l [14,15] [.exit 4] (.s (.s .n cV) (.b (.s .n (.s .n (.c [14,15] .n .n))))))) (.s (.s .n (.b (.l [17] [.exit 6] (.s (.s .n cV) (.s (.b .n) .n))))) .n)))) .n)) (.s .n (.s .n (.s .n (.s (.s .n (.c [20,21] bl bl)) (.s .n (.s (.b (.l [20,21] [.exit 8] (.s (.s .n cV) (.b (.s .n (.s .n (.c [20,21] .n .n))))))) (.s .n (.s (.s .n (.c [] .n .n)) (.s (.s .n (.c [] .n .n)) (.s .n (.c [] .n .n)))))))))))))) .K trivial (dB.of rfl (aO.cons TE (aO.cons (J9 102) aO.nil)) (hd)) Try.func102 Try.call102 (λa0 a1 a2 a3 a4 σ=>by kernel_rfl)) _ _ _ rfl rfl
theorem Tx(dyn:Nat→an→Heap→az)(hd:∀f,Sound Try.prog aJ f (dyn (aJ.getD f 0))):∀n f,Sound Try.prog aJ f (fuel (zc dyn) n (aJ.getD f 0)):=
 M4 (λrec J9=>(nu.cons (xg (Tz rec dyn J9 hd) (by kernel_rfl) rfl) nu.nil))
theorem Ty(dyn:Nat→an→Heap→az)(hd:∀f,Sound Try.prog aJ f (dyn (aJ.getD f 0))):Sound Try.prog aJ 102 (rX dyn):=Tx dyn hd 2000000 102
noncomputable def TJ (dyn:Nat→an→Heap→az):Fx:=⟨Try.prog,aJ,A.tab (λ_ _=>none) [(101,tK dyn),(102,rX dyn)],dyn,[],[],63,[]⟩
theorem TH(dyn:Nat→an→Heap→az)(hd:∀f,Sound Try.prog aJ f (dyn (aJ.getD f 0))):Sound Try.prog aJ 84 (A.wrap false [] .k (A.oh (Dq dyn))):=
 Sound.wrap (Sound.Fm (X:=TJ dyn) (fn:=Try.f84) (bO:=(.s .n (.s .n (.s (.b (.l [7,8] [.exit 0] (.s (.s .n cV) (.b (.s .n bl))))) (.s .n (.b (.l [6] [.exit 2] (.s (.s .n cV) (.b (.s .n (.s (.b (.l [7,8] [.exit 4] (.s (.s .n cV) (.b (.s .n bl))))) (.s (.s .n (.s .n (.c [] .n .n))) .n)))))))))))) .K trivial (dB.of rfl (aO.cons (Tr dyn hd) (aO.cons (Ty dyn hd) aO.nil)) (hd)) Try.func84 Try.call84 (λa0 a1 a2 σ=>by kernel_rfl)) _ _ _ rfl rfl
theorem TF(dyn:Nat→an→Heap→az)(hd:∀f,Sound Try.prog aJ f (dyn (aJ.getD f 0))):Sound Try.prog aJ 84 (A2 dyn):=TH dyn hd
noncomputable def TD (dyn:Nat→an→Heap→az):Fx:=⟨Try.prog,aJ,A.tab (λ_ _=>none) [(84,A2 dyn)],dyn,[],[],9,[]⟩
theorem TC(dyn:Nat→an→Heap→az)(hd:∀f,Sound Try.prog aJ f (dyn (aJ.getD f 0))):Sound Try.prog aJ 66 (A.wrap false [] .k (A.dU (Dp dyn))):=
 Sound.wrap (Sound.wv (X:=TD dyn) (fn:=Try.f66) (bO:=.n) .K trivial (dB.of rfl (aO.cons (TF dyn hd) aO.nil) (hd)) Try.func66 Try.call66 (λa0 a1 σ=>by kernel_rfl)) _ _ _ rfl rfl
theorem TB(dyn:Nat→an→Heap→az)(hd:∀f,Sound Try.prog aJ f (dyn (aJ.getD f 0))):Sound Try.prog aJ 66 (ze dyn):=TC dyn hd
theorem UY:Sound Try.prog aJ 68 Gz:=q2 [2,3] 20 (.s .n (.s (.s .n (.j (.s bZ bl) .n)) bl)) (aO.cons Uv aO.nil) Try.func68 Try.call68 (λa0 a1 σ=>by kernel_rfl) rfl rfl
theorem Mk:Sound Try.prog aJ 67 tM:=q2 [2,3] 10 (.s .n bl) (aO.cons UY aO.nil) Try.func67 Try.call67 (λa0 a1 σ=>by kernel_rfl) rfl rfl
noncomputable def Vj:Fx:=⟨Try.prog,aJ,A.tab (λ_ _=>none) [(38,Du),(66,ze (A.tab (λ_ _=>none) [(147,tM)]))],(A.tab (λ_ _=>none) [(147,tM)]),[6],[],40,[]⟩
theorem Vi:Sound Try.prog aJ 33 (A.wrap true [(.s 3)] (.s 3) (A.eP (Be))):=
 Sound.wrap (Sound.Cm (X:=Vj) (fn:=Try.f33) (bO:=(.s .n (.s .n (.s .n (.s .n (.s (.s .n (.b (.l [4,13] [.exit 0] (.s .n (.s cV (.s (.b (.s .n (.s .n (.c [4] .n .n)))) .n)))))) bl)))))) .F trivial (dB.of rfl (aO.cons T5 (aO.cons (TB _ (xq (nu.cons (xg Mk (by kernel_rfl) rfl) nu.nil))) aO.nil)) (xq (nu.cons (xg Mk (by kernel_rfl) rfl) nu.nil))) Try.func33 Try.call33 (λa0 σ=>by kernel_rfl)) _ _ _ rfl rfl
theorem Vh:Sound Try.prog aJ 33 DI:=Vi
theorem Vf:Sound Try.prog aJ 9 GI:=q1 [] 9 (.s .n (.s bZ bl)) (aO.cons Vh aO.nil) Try.func9 Try.call9 (λa0 σ=>by kernel_rfl) rfl rfl
theorem V2:Sound Try.prog aJ 48 wV:=q2 [2,3] 24 (.s .n bl) aO.nil Try.func48 Try.call48 (λa0 a1 σ=>by kernel_rfl) rfl rfl
noncomputable def TY:Fx:=⟨Try.prog,aJ,A.tab (λ_ _=>none) [],(λ_ _ _=>none),[],[],28,[]⟩
theorem TX:Sound Try.prog aJ 117 (A.wrap false [] .k (A.eP (L9))):=
 Sound.wrap (Sound.Cm (X:=TY) (fn:=Try.f117) (bO:=(.s .n (.b (.l [2,3] [.exit 0] (.s (.s .n cV) (.s (.b .n) .n)))))) .K trivial (dB.of rfl aO.nil (λ_=>Sound.none)) Try.func117 Try.call117 (λa0 σ=>by kernel_rfl)) _ _ _ rfl rfl
theorem TW:Sound Try.prog aJ 117 A4:=TX
noncomputable def TQ:Fx:=⟨Try.prog,aJ,A.tab (λ_ _=>none) [(117,A4)],(λ_ _ _=>none),[],[],14,[]⟩
theorem TP:Sound Try.prog aJ 103 (A.wrap false [] .k (A.dU (L8))):=
 Sound.wrap (Sound.wv (X:=TQ) (fn:=Try.f103) (bO:=(.s .n bl)) .K trivial (dB.of rfl (aO.cons TW aO.nil) (λ_=>Sound.none)) Try.func103 Try.call103 (λa0 a1 σ=>by kernel_rfl)) _ _ _ rfl rfl
theorem TO:Sound Try.prog aJ 103 F6:=TP
noncomputable def TN:Fx:=⟨Try.prog,aJ,A.tab (λ_ _=>none) [(103,F6)],(λ_ _ _=>none),[],[],10,[]⟩
theorem TM:Sound Try.prog aJ 86 (A.wrap false [] .k (A.dU (L7))):=
 Sound.wrap (Sound.wv (X:=TN) (fn:=Try.f86) (bO:=.n) .K trivial (dB.of rfl (aO.cons TO aO.nil) (λ_=>Sound.none)) Try.func86 Try.call86 (λa0 a1 σ=>by kernel_rfl)) _ _ _ rfl rfl
theorem TL:Sound Try.prog aJ 86 A3:=TM
noncomputable def T4:Fx:=⟨Try.prog,aJ,A.tab (λ_ _=>none) [(85,rY),(86,A3)],(λ_ _ _=>none),[],[],95,[]⟩
theorem T0:Sound Try.prog aJ 69 (A.wrap false [] .k (A.oh (Dt))):=
 Sound.wrap (Sound.Fm (X:=T4) (fn:=Try.f69) (bO:=(.s .n (.s .n (.s .n (.s bZ (.s .n (.s bZ (.s (.s .n (.j (.s .n (.s .n (.s .n bl))) .n)) (.s .n (.s (.s .n (.j (.s .n (.s .n bl)) .n)) (.s .n (.s .n bl)))))))))))) .R trivial (dB.of rfl (aO.cons TS (aO.cons TL aO.nil)) (λ_=>Sound.none)) Try.func69 Try.call69 (λa0 a1 a2 σ=>by kernel_rfl)) _ _ _ rfl rfl
theorem TZ:Sound Try.prog aJ 69 zg:=T0
theorem V6:Sound Try.prog aJ 34 DP:=q1 [5] 54 (.s .n (.s .n (.s (.s .n (.b (.l [3,9] [.exit 0] (.s .n (.s cV (.s (.b (.s .n (.s .n (.s (.b (.l [5,6] [.exit 2] (.s (.s .n cV) (.b .n)))) (.s .n (.c [3] .n .n)))))) .n)))))) bl))) (aO.cons V2 (aO.cons TZ aO.nil)) Try.func34 Try.call34 (λa0 σ=>by kernel_rfl) rfl rfl
theorem V3:Sound Try.prog aJ 10 G7:=q1 [] 9 (.s .n (.s bZ bl)) (aO.cons V6 aO.nil) Try.func10 Try.call10 (λa0 σ=>by kernel_rfl) rfl rfl
theorem Uc:Sound Try.prog aJ 3 Mc:=q5 [5,8] 58 (.s .n (.s .n (.s .n (.s bZ (.s .n (.s .n bl)))))) (aO.cons Vg (aO.cons V4 (aO.cons T6 (aO.cons Vf (aO.cons V3 aO.nil))))) Try.func3 Try.call3 (λa0 a1 a2 a3 a4 σ=>by kernel_rfl) rfl rfl
end
section
theorem bq(s t:ByteArray):(s==t)=decide (s=t):=by obtain⟨a⟩:=s;obtain⟨b⟩:=t;show(a==b)=_;rw[lH];simp
section
variable {α β : Type}
theorem cT(t e:Option α):A.cond (.bool true) t e=t:=rfl
theorem cF(t e:Option α):A.cond (.bool false) t e=e:=rfl
theorem Sj(e d:Option α):A.guard (.bool true) true e d=e:=rfl
theorem Si(e d:Option α):A.guard (.bool true) false e d=d:=rfl
theorem Sg(e d:Option α):A.guard (.bool false) true e d=d:=rfl
theorem Sf(e d:Option α):A.guard (.bool false) false e d=e:=rfl
theorem pT(x y:AV):A.pick (.bool true) x y=some x:=rfl
theorem pF(x y:AV):A.pick (.bool false) x y=some y:=rfl
theorem jH{p:Prop}[Decidable p]{w:Bool}{e d:Option α}{f:α→Option β}:(A.guard (.bool (decide p)) w e d).bind f=if p then(A.guard (.bool true) w e d).bind f else(A.guard (.bool false) w e d).bind f:=by by_cases h:p<;>simp [h]
theorem jG{b w:Bool}{e d:Option α}{f:α→Option β}:(A.guard (.bool b) w e d).bind f=match b with|true=>(A.guard (.bool true) w e d).bind f|false=>(A.guard (.bool false) w e d).bind f:=by cases b<;>rfl
theorem jE{p:Prop}[Decidable p]{t e:Option α}:A.cond (.bool (decide p)) t e=if p then t else e:=by by_cases h:p<;>simp [h,A.cond]
theorem jx{p:Prop}[Decidable p]{t e:Option α}:A.cond (.bool (!decide p)) t e=if p then e else t:=by by_cases h:p<;>simp [h,A.cond]
theorem jD{b:Bool}{t e:Option α}:A.cond (.bool (!b)) t e=match b with|true=>e|false=>t:=by cases b<;>rfl
theorem jC{b:Bool}{t e:Option α}:A.cond (.bool b) t e=match b with|true=>t|false=>e:=by cases b<;>rfl
theorem gN(w:Bool)(e d:Option α):A.guard (.aD []) w e d=d:=rfl
theorem xN(a b:AX):(a==b)=decide (a=b):=by rw[lH];simp
end
theorem bB(b:Bool){α:Type}(x y:α):(bif b then x else y)=if b=true then x else y:=by cases b<;>rfl
section
variable (k : IntKind) (a b : Int) (p q : Prop) [Decidable p] [Decidable q] (s t : ByteArray) (x y : AV) (σ : Heap) (cs : an)
theorem B8:A.add (.ah a) (.ah b)=some (.ah (IntKind.i64.wrap (a+b))):=rfl
theorem Ff:A.sub (.ah a) (.ah b)=some (.ah (IntKind.i64.wrap (a-b))):=rfl
theorem Fe:A.mul (.ah a) (.ah b)=some (.ah (IntKind.i64.wrap (a*b))):=rfl
theorem xI:A.lss (.ah a) (.ah b)=some (.bool (decide (a<b))):=rfl
theorem JO:A.leq (.ah a) (.ah b)=some (.bool (decide (a≤b))):=rfl
theorem JN:A.gtr (.ah a) (.ah b)=some (.bool (decide (b<a))):=rfl
theorem Rh:A.geq (.ah a) (.ah b)=some (.bool (decide (b≤a))):=rfl
theorem QV:A.lss (.int .u8 a) (.int .u8 b)=some (.bool (decide (a<b))):=rfl
theorem QU:A.leq (.int .u8 a) (.int .u8 b)=some (.bool (decide (a≤b))):=rfl
theorem QS:A.gtr (.int .u8 a) (.int .u8 b)=some (.bool (decide (b<a))):=rfl
theorem QO:A.geq (.int .u8 a) (.int .u8 b)=some (.bool (decide (b≤a))):=rfl
theorem uH:A.eql .i (.int k a) (.int k b)=some (.bool (decide (a=b))):=by simp only[A.eql,A.dD,A.kU,if_true,eO];congr 2
theorem uI:A.neq .i (.int k a) (.int k b)=some (.bool (decide (¬a=b))):=by simp only[A.neq,A.dD,A.kU,if_true,eO];congr 2;rw[lH];simp
theorem Rg:A.eql .z (.str s) (.str t)=some (.bool (decide (s=t))):=by simp only[A.eql,A.dD,A.mS,eO,bq]
theorem Ri:A.neq .z (.str s) (.str t)=some (.bool (decide (¬s=t))):=by simp only[A.neq,A.dD,A.mS,eO,bq];simp
theorem Rj(b:Bool):A.not (.bool b)=some (.bool (!b)):=rfl
theorem QW:A.not (.bool (decide p))=some (.bool (decide (¬p))):=by simp [A.not]
theorem R9:A.lb (.lbx cs)=some cs:=rfl
theorem QK(l:an):A.ext 0 (.aD (x::l))=some x:=rfl
theorem QL(x0 x:AV)(l:an):A.ext 1 (.aD (x0::x::l))=some x:=rfl
theorem QM(x0 x1 x:AV)(l:an):A.ext 2 (.aD (x0::x1::x::l))=some x:=rfl
theorem QN(x0 x1 x2 x:AV)(l:an):A.ext 3 (.aD (x0::x1::x2::x::l))=some x:=rfl
theorem R7:A.deref (.rp cs) σ=some cs:=rfl
theorem R8(o:Nat):A.ia o (.rp cs)=some (.rp (cs.drop o)):=rfl
theorem QT:A.xQ (.str s)=some (.ah s.size):=rfl
theorem R5(n:Int):A.cell (.int k n)=some (.int k n):=rfl
theorem R4(b:Bool):A.cell (.bool b)=some (.bool b):=rfl
theorem R6:A.cell (.str s)=some (.str s):=rfl
theorem Re(sz:Nat)(es:List an):A.cell (.sl sz es)=some (.sl sz es):=rfl
theorem Ll(o k:Nat):A.aB o (cs.drop k)=A.aB (k+o) cs:=by simp [A.aB,List.getElem?_drop]
end
theorem Sk(a d:AV)(l:an):(a::l).getD 0 d=a:=rfl
theorem Sm(a b d:AV)(l:an):(b::a::l).getD 1 d=a:=rfl
theorem Sn(a b c d:AV)(l:an):(b::c::a::l).getD 2 d=a:=rfl
theorem Sp(a b c e d:AV)(l:an):(b::c::e::a::l).getD 3 d=a:=rfl
theorem Sq(a b c e f d:AV)(l:an):(b::c::e::f::a::l).getD 4 d=a:=rfl
theorem Sr(a b c e f g d:AV)(l:an):(b::c::e::f::g::a::l).getD 5 d=a:=rfl
theorem Ss(a b c e f g h d:AV)(l:an):(b::c::e::f::g::h::a::l).getD 6 d=a:=rfl
theorem Su(a b c e f g h i d:AV)(l:an):(b::c::e::f::g::h::i::a::l).getD 7 d=a:=rfl
theorem Sv(a b c e f g h i j d:AV)(l:an):(b::c::e::f::g::h::i::j::a::l).getD 8 d=a:=rfl
theorem dK{n:Int}(h:aZ n):IntKind.i64.wrap n=n:=IntWalk.i64_in n h
theorem wrap_eq{ro:Bool}{cW:List Sh}{dm:Sh}{r:an→Heap→az}{args:an}{σ σ':Heap}{v v':AV}(h:args.any A.own=false)(e:r (A.cN cW args) σ=some (v,σ'))(hv:A.nn dm v=v'):A.wrap ro cW dm r args σ=some (v',σ'):=by unfold A.wrap;rw[h,Bool.and_false,aV,e];simp [hv]
theorem Hv{v:AV}(n:Nat)(h:A.oR v=true):A.fresh v=true∧A.shift n v=v:=by cases v<;>first|exact⟨h,rfl⟩|cases h
theorem Nk{v:AV}(n:Nat)(h:A.xS v=true):A.tX v=true∧A.sK n v=v:=by
 have key:(∀vs,v≠.aD vs)→A.tX v=true∧A.sK n v=v:=by intro k;have:=Hv (v:=v) n;cases v<;>first|exact absurd rfl (k _)|exact this h
 by_cases ht:∃vs,v=.aD vs
 ·obtain⟨vs,rfl⟩:=ht;simp only[A.xS,nZ]at h;refine⟨by simp only[A.tX,nZ];exact λx hx=>(Hv n (h x hx)).1,?_⟩;simp only[A.sK];congr 1
  calc vs.map (A.shift n)=vs.map id:=List.map_congr_left λx hx=>(Hv n (h x hx)).2
   _=vs:=List.map_id vs
 ·exact key λvs e=>ht ⟨vs,e⟩
theorem O0{cW:List Sh}{dm:Sh}{r:an→Heap→az}{args args':an}{σ:Heap}{v:AV}(h:args.any A.own=true)(hz:A.dz σ 0 8 args=some args')(ho:args'.any A.own=false)(e:A.wrap true cW dm r args' []=some (v,[]))(hs:A.xS v=true):A.wrap true cW dm r args σ=some (v,σ):=by unfold A.wrap at e ⊢;rw[ho,Bool.and_false,aV]at e;obtain⟨⟨q1,q2⟩,e1,e2⟩:=cL.1 e;simp only[Prod.mk.injEq]at e2;obtain⟨rfl,rfl⟩:=e2;rw[h,Bool.and_self,bG,hz];simp [e1,(Nk σ.length hs).1,(Nk σ.length hs).2]
theorem ff(σ:Heap)(r:AV):A.fin σ r σ=some (r,σ):=by simp [A.fin]
theorem NH(σ:Heap)(n d:Nat){a:AV}(h:A.qj a=true):A.bP σ n d a=some a:=by
 cases a<;>simp only[A.qj]at h<;>first|(cases h;done)|skip
 case sl sz es=>cases es with
  |nil=>cases d<;>simp [A.bP,A.lF]
  |cons _ _=>simp at h
 all_goals cases d<;>simp [A.bP]
theorem M1(σ:Heap)(n d:Nat):∀{l:an},l.all A.qj=true→A.dz σ n d l=some l
 |[],_=>by simp [A.dz]
 |a::l,h=>by simp only[List.all_cons,eH]at h;simp [A.dz,NH σ n d h.1,M1 σ n d h.2]
theorem NI(σ:Heap)(n d:Nat){a:AV}(h:A.oR a=true):A.bP σ n d a=some a:=by
 unfold A.oR at h;split at h
 ·cases d<;>simp [A.bP,M1 σ n _ h]
 ·exact NH σ n d h
theorem M3(σ:Heap)(n d:Nat):∀{l:an},l.all A.oR=true→A.dz σ n d l=some l
 |[],_=>by simp [A.dz]
 |a::l,h=>by simp only[List.all_cons,eH]at h;simp [A.dz,NI σ n d h.1,M3 σ n d h.2]
theorem Yu(σ:Heap)(n d:Nat){a:AV}(h:A.xS a=true):A.bP σ n d a=some a:=by
 unfold A.xS at h;split at h
 ·cases d<;>simp [A.bP,M3 σ n _ h]
 ·exact NI σ n d h
theorem Eh(σ bs:Heap){r:AV}(h:A.xS r=true):A.fin σ r (σ++bs)=some (r,σ):=by
 unfold A.fin;split
 ·rfl
 ·rw[aK (by simp),Yu _ _ _ h];rfl
theorem IW(σ bs:Heap)(k:IntKind)(n:Int):A.fin σ (.int k n) (σ++bs)=some (.int k n,σ):=Eh σ bs rfl
theorem Ox(σ bs:Heap)(b:Bool):A.fin σ (.bool b) (σ++bs)=some (.bool b,σ):=Eh σ bs rfl
theorem Pc(σ bs:Heap)(s:ByteArray):A.fin σ (.str s) (σ++bs)=some (.str s,σ):=Eh σ bs rfl
theorem Oy(σ bs:Heap):A.fin σ (.aD []) (σ++bs)=some (.aD [],σ):=Eh σ bs rfl
theorem FI(σ bs:Heap)(j:Nat):(σ++bs)[σ.length+j]? =bs[j]? :=by rw[fV (by omega)];congr 1;omega
theorem An(σ bs:Heap):(σ++bs)[σ.length]? =bs[0]? :=by rw[fV (ay _),Nat.sub_self]
theorem nA(σ bs:Heap)(j:Nat)(b:bk):(σ++bs).set (σ.length+j) b=σ++bs.set j b:=by rw[sS _ _ (by omega)];congr 2;omega
theorem Jz(σ bs:Heap)(b:bk):(σ++bs).set σ.length b=σ++bs.set 0 b:=by rw[sS _ _ (ay _),Nat.sub_self]
section
variable {α : Type} (sz : Nat) (c : α → an) (l : List α)
theorem jc:A.br (sl sz c l)=some (.ah l.length):=by simp [sl,A.br]
theorem jr{k:Nat}{x:α}(h:l[k]? =some x):A.aM sz (sl sz c l) (.ah (k:Int))=some (.rp (c x)):=by have hk:k<l.length:=(bU.1 h).1;have hx:l[k]=x:=(bU.1 h).2;simp [A.aM,sl,A.idx,hk,hx]
theorem Xw{i:Int}{x:α}(h0:0≤i)(h:l[i.toNat]? =some x):A.aM sz (sl sz c l) (.ah i)=some (.rp (c x)):=by have:=jr sz c l h;rwa[Int.toNat_of_nonneg h0]at this
end
inductive Rd (S R : Type) where
 |go(s:S)
 |out(r:R)
def Rd.el{S R γ:Type}(x:Rd S R)(f:S→γ)(g:R→γ):γ:=match x with|.go s=>f s|.out r=>g r
theorem qd{S R γ:Type}(s:S)(f:S→γ)(g:R→γ):(Rd.go s:Rd S R).el f g=f s:=rfl
theorem p7{S R γ:Type}(r:R)(f:S→γ)(g:R→γ):(Rd.out r:Rd S R).el f g=g r:=rfl
theorem sG{S R γ:Type}{p:Prop}[Decidable p](x y:Rd S R)(f:S→γ)(g:R→γ):(if p then x else y).el f g=if p then x.el f g else y.el f g:=by split<;>rfl
def fO{α S R:Type}(body:List α→α→S→Rd S R):List α→List α→S→Rd S R
 |_,[],s=>.go s
 |pre,x::l,s=>match body pre x s with|.go s'=>fO body (pre++[x]) l s'|.out r=>.out r
theorem Xy{f:an→Heap→Option (AX×an×Heap)}{v:an}{σ:Heap}:∀{n m:Nat}{r r':AX×an×Heap},A.iter f n v σ=some r→A.iter f m v σ=some r'→r=r':=by
 intro n;induction n generalizing v σ with
 |zero=>intro m r r' h;cases h
 |succ n ih=>
  intro m r r' h1 h2;cases m with
  |zero=>cases h2
  |succ m=>
   simp only[A.iter]at h1 h2;cases hf:f v σ with
   |none=>rw[hf]at h1;cases h1
   |some q=>
    rw[hf]at h1 h2;simp only[aQ]at h1 h2;obtain⟨e,v',σ'⟩:=q;cases e with
    |normal=>exact ih h1 h2
    |exit i=>simp only at h1 h2;rw[h1]at h2;injection h2
    |ret=>simp only at h1 h2;rw[h1]at h2;injection h2
theorem Bg{f:an→Heap→Option (AX×an×Heap)}{v:an}{σ:Heap}{n:Nat}{r:AX×an×Heap}(h:A.iter f n v σ=some r):A.loop f v σ=some r:=by
 have hex:∃n r,A.iter f n v σ=some r:=⟨n,r,h⟩
 unfold A.loop;rw[dif_pos hex];exact congrArg some (Xy (Classical.choose_spec (Classical.choose_spec hex)) h)
theorem Ik{f:an→Heap→Option (AX×an×Heap)}{v v':an}{σ σ':Heap}{r:AX×an×Heap}(h:f v σ=some (.normal,v',σ'))(k:∃n,A.iter f n v' σ'=some r):∃n,A.iter f n v σ=some r:=by obtain⟨n,k⟩:=k;exact⟨n+1,by simp [A.iter,h,k]⟩
theorem vD{f:an→Heap→Option (AX×an×Heap)}{v:an}{σ:Heap}{r:AX×an×Heap}(h:f v σ=some r)(hr:r.1≠.normal):∃n,A.iter f n v σ=some r:=by obtain⟨e,v',σ'⟩:=r;refine⟨1,?_⟩;cases e<;>first|(simp [A.iter,h];done)|exact absurd rfl hr
theorem jY{α S R γ:Type}{f:an→Heap→Option (AX×an×Heap)}(l:List α)(body:List α→α→S→Rd S R)(st:List α→S→an)(hp:List α→S→Heap)
  (fin:S→AX×an×Heap) (out:List α→S→R→AX×an×Heap) (P:List α→S→Prop) (s0:S) {k:AX×an×Heap→Option γ} (K1:S→Option γ) (K2:R→Option γ)
  (hstep:∀pre x rest s,l=pre++x::rest→P pre s→f (st pre s) (hp pre s)=some ((body pre x s).el (λs'=>(.normal,st (pre++[x]) s',hp (pre++[x]) s')) (λr=>out pre s r)))
  (hend:∀s,P l s→f (st l s) (hp l s)=some (fin s)) (h0:P [] s0)
  (hP:∀pre x rest s s',l=pre++x::rest→P pre s→body pre x s=.go s'→P (pre++[x]) s')
  (hk1:∀s,P l s→k (fin s)=K1 s) (hk2:∀pre x rest s r,l=pre++x::rest→P pre s→body pre x s=.out r→k (out pre s r)=K2 r)
  (xK:∀s,(fin s).1≠.normal:=by intros;simp) (hout:∀pre s r,(out pre s r).1≠.normal:=by intros;simp) {v:an} {σ:Heap} (hv:v=st [] s0:=by rfl) (dI:σ=hp [] s0:=by rfl):
  (A.loop f v σ).bind k=(fO body [] l s0).el K1 K2:=by
 have key:∀(rest pre:List α)(s:S),l=pre++rest→P pre s→∃q,(∃n,A.iter f n (st pre s) (hp pre s)=some q)∧k q=(fO body pre rest s).el K1 K2:=by
  intro rest;induction rest with
  |nil=>intro pre s hl hp';rw[List.append_nil]at hl;subst hl;exact⟨fin s,vD (hend s hp') (xK s),by rw[fO,qd,hk1 s hp']⟩
  |cons x rest ih=>
   intro pre s hl hp';have h:=hstep pre x rest s hl hp';rw[fO];cases hb:body pre x s with
   |go s'=>rw[hb]at h;obtain⟨q,h1,h2⟩:=ih (pre++[x]) s' (by simpa using hl) (hP pre x rest s s' hl hp' hb);exact⟨q,Ik h h1,h2⟩
   |out r=>rw[hb]at h;exact⟨out pre s r,vD h (hout pre s r),by rw[p7,hk2 pre x rest s r hl hp' hb]⟩
 obtain⟨q,⟨n,h1⟩,h2⟩:=key l [] s0 rfl h0;rw[hv,dI,Bg h1,aQ,h2]
theorem vB{α:Type}{body:List α→α→Unit→Rd Unit Int}{mq:List α→List α→Int}(h0:∀pre,mq pre []=0)(h:∀pre x rest,mq pre (x::rest)=(body pre x ()).el (λ_=>mq (pre++[x]) rest) (λr=>r)) {γ:Type} (K:Int→γ):
  ∀(l pre:List α),(fO body pre l ()).el (λ_=>K 0) K=K (mq pre l)
 |[],pre=>by rw[fO,h0];rfl
 |x::l,pre=>by
  rw[fO,h];cases body pre x ()with
  |go s=>exact vB h0 h K l (pre++[x])
  |out r=>rfl
theorem kj{α:Type}{l pre rest:List α}{x:α}(h:l=pre++x::rest):l[pre.length]? =some x:=by rw[h];simp
theorem lT{α:Type}{l pre rest:List α}{x:α}(h:l=pre++x::rest):pre.length<l.length:=by rw[h];simp
theorem IG{α:Type}{l pre rest:List α}{x:α}(h:l=pre++x::rest)(h0:0<pre.length):∃y,pre.getLast? =some y∧l[pre.length-1]? =some y:=by
 cases hp:pre.getLast? with
 |none=>rw[List.getLast?_eq_none_iff]at hp;subst hp;simp at h0
 |some y=>refine⟨y,rfl,?_⟩;rw[h,fE (by omega),←hp,List.getLast?_eq_getElem?]
theorem Oh{γ:Type}{p:UInt8→Bool}{f:an→Heap→Option (AX×an×Heap)}(s:ByteArray){σ:Heap}{k:AX×an×Heap→Option γ}(K2:Option γ)
  (hstep:∀(i:Nat)(c:UInt8),i<s.size→A.o7 (.str s) (.ah (i:Int))=some (.int .u8 c.toNat)→f [.bool false,.ah (i:Int)] σ=if p c=true then some (.normal,[.bool false,.ah ((i:Int)+1)],σ)else some (.ret,[.bool false,.ah (i:Int)],σ))
  (hend:f [.bool false,.ah (s.size:Int)] σ=some (.exit 0,[.bool false,.ah (s.size:Int)],σ)) (hk2:∀i:Int,k (.ret,[.bool false,.ah i],σ)=K2):
  (A.loop f [.bool false,.ah 0] σ).bind k=if s.data.toList.all p=true then k (.exit 0,[.bool false,.ah (s.size:Int)],σ)else K2:=by
 have hsz:s.data.toList.length=s.size:=rfl
 refine(jY (S:=Unit) (R:=Unit) s.data.toList (λ_ c _=>if p c=true then .go ()else .out ()) (λpre _=>[.bool false,.ah (pre.length:Int)]) (λ_ _=>σ) (λ_=>(.exit 0,[.bool false,.ah (s.size:Int)],σ)) (λpre _ _=>(.ret,[.bool false,.ah (pre.length:Int)],σ)) (λ_ _=>True) ()
  (λ_=>k (.exit 0,[.bool false,.ah (s.size:Int)],σ)) (λ_=>K2) ?_ ?_ trivial (λ_ _ _ _ _ _ _ _=>trivial) (λ_ _=>rfl) (λ_ _ _ _ _ _ _ _=>hk2 _)).trans ?_
 ·intro pre c rest u hl _;have hlt:=lT hl;have hc:=kj hl;rw[hsz]at hlt
  have hsi:A.o7 (.str s) (.ah (pre.length:Int))=some (.int .u8 c.toNat):=by have h2:s[pre.length]=c:=(bU.1 hc).2;simp [A.o7,A.idx,hlt,h2]
  rw[hstep pre.length c hlt hsi];cases p c<;>simp [Rd.el]
 ·intro u _;rw[hsz];exact hend
 ·have key:∀(l pre:List UInt8),(fO (λ(_:List UInt8)c(_:Unit)=>if p c=true then(Rd.go ():Rd Unit Unit)else .out ()) pre l ()).el (λ_=>k (.exit 0,[.bool false,.ah (s.size:Int)],σ)) (λ_=>K2)=if l.all p=true then k (.exit 0,[.bool false,.ah (s.size:Int)],σ)else K2:=by
   intro l;induction l with
   |nil=>intro pre;simp [fO,Rd.el]
   |cons c l ih=>
    intro pre;rw[fO];cases hc:p c
    ·simp [hc,Rd.el]
    ·simp only[if_true];rw[ih];simp [hc]
  exact key s.data.toList []
section
variable {α : Type} (g : α → ByteArray) (gi : α → Int) (v : α → AV)
theorem P9(k:ByteArray):∀(l:List α),A.find .z (.str k) (l.map λx=>(AV.str (g x),v x))=some ((l.find? λx=>decide (k=g x)).map v)
 |[]=>rfl
 |x::l=>by
  simp only[fJ,A.find,A.dD,A.mS,aQ,List.find?];by_cases h:k=g x
  ·rw[bq];simp [h]
  ·rw[bq];simp [h,P9 k l]
theorem P8(kk:IntKind)(k:Int):∀(l:List α),A.find .i (.int kk k) (l.map λx=>(AV.int kk (gi x),v x))=some ((l.find? λx=>decide (k=gi x)).map v)
 |[]=>rfl
 |x::l=>by
  simp only[fJ,A.find,A.dD,A.kU,if_true,aQ,List.find?];by_cases h:k=gi x
  ·have:(k==gi x)=true:=by simpa using h
   simp [this,h]
  ·have:(k==gi x)=false:=by simpa using h
   simp [this,h,P8 kk k l]
theorem JJ{k:ByteArray}{w:AV}:∀{l:List α},(∀x∈l,g x≠k)→A.upd .z (.str k) w (l.map λx=>(AV.str (g x),v x))=some ((l.map λx=>(AV.str (g x),v x))++[(.str k,w)])
 |[],_=>rfl
 |x::l,h=>by
  have h1:(k==g x)=false:=by rw[bq];exact dL λe:k=g x=>h x (by simp) e.symm
  simp only[fJ,A.upd,A.dD,A.mS,aQ,h1,aV];rw[JJ (λy hy=>h y (by simp [hy]))];rfl
theorem JI{kk:IntKind}{k:Int}{w:AV}:∀{l:List α},(∀x∈l,gi x≠k)→A.upd .i (.int kk k) w (l.map λx=>(AV.int kk (gi x),v x))=some ((l.map λx=>(AV.int kk (gi x),v x))++[(.int kk k,w)])
 |[],_=>rfl
 |x::l,h=>by
  have h1:(k==gi x)=false:=by simpa using λe:k=gi x=>h x (by simp) e.symm
  simp only[fJ,A.upd,A.dD,A.kU,if_true,aQ,h1,aV];rw[JI (λy hy=>h y (by simp [hy]))];rfl
end
theorem vF(e:A.EK){k z:AV}{σ:Heap}{id:Nat}{es:List (AV×AV)}(hk:A.iQ e k=true)(h:σ[id]? =some (.map es)):A.look e (.om id) k z σ=(A.find e k es).map λr=>r.getD z:=by simp [A.look,hk,A.entries,h]
theorem BR(e:A.EK){k w:AV}{σ:Heap}{id:Nat}{es:List (AV×AV)}(hk:A.iQ e k=true)(h:σ[id]? =some (.map es)):A.iS e (.om id) k w σ=(A.upd e k w es).map λes=>σ.set id (.map es):=by simp [A.iS,hk,h]
theorem OG{α:Type}(l:List α)(x:α):(((l++[x]).length:Nat):Int)=(l.length:Int)+1:=by simp
theorem DV{α:Type}(sz:Nat)(c:α→an)(l:List α){k:Nat}{x:α}(h0:0<k)(h:l[k-1]? =some x):A.aM sz (sl sz c l) (.ah ((k:Int) -1))=some (.rp (c x)):=by have:=jr sz c l h;rwa[show((k-1:Nat):Int)=(k:Int) -1 by omega]at this
def jg{α:Type}(g:α→ByteArray)(l:List α):List (AV×AV):=l.map λx=>(AV.str (g x),AV.bool true)
def mP{α:Type}(g:α→Int)(l:List α):List (AV×AV):=l.map λx=>(AV.ah (g x),AV.bool true)
theorem Iv{α:Type}(p:α→Bool):∀(l:List α),((l.find? p).map λ_=>AV.bool true).getD bI=AV.bool (l.any p)
 |[]=>rfl
 |x::l=>by
  simp only[List.find?,List.any_cons];cases h:p x
  ·simpa using Iv p l
  ·rfl
theorem N3{α:Type}(g:α→ByteArray)(k:ByteArray)(l:List α):(A.find .z (.str k) (jg g l)).map (λr=>r.getD (.bool false))=some (.bool (dA k (l.map g))):=by unfold jg;rw[P9 g (λ_=>AV.bool true) k l,eO,Iv];refine congrArg some (congrArg AV.bool ?_);rw[lH,Ek];simp only[List.any_eq_true,decide_eq_true_eq,mI];exact⟨λ⟨x,h,e⟩=>⟨x,h,e.symm⟩,λ⟨x,h,e⟩=>⟨x,h,e.symm⟩⟩
theorem NZ{α:Type}(g:α→Int)(k:Int)(l:List α):(A.find .i (.ah k) (mP g l)).map (λr=>r.getD (.bool false))=some (.bool (dA k (l.map g))):=by unfold mP;rw[P8 g (λ_=>AV.bool true) .i64 k l,eO,Iv];refine congrArg some (congrArg AV.bool ?_);rw[lH,Ek];simp only[List.any_eq_true,decide_eq_true_eq,mI];exact⟨λ⟨x,h,e⟩=>⟨x,h,e.symm⟩,λ⟨x,h,e⟩=>⟨x,h,e.symm⟩⟩
section
variable {α : Type} (g : α → ByteArray) (gi : α → Int) (l : List α) (k : ByteArray) (n : Int) (σ bs : Heap) (b0 : bk)
theorem No:A.look .z (.om σ.length) (.str k) (.bool false) (σ++bk.map (jg g l)::bs)=some (.bool (dA k (l.map g))):=by rw[vF .z rfl (by rw[An];rfl),N3]
theorem Nl:A.look .i (.om σ.length) (.ah n) (.bool false) (σ++bk.map (mP gi l)::bs)=some (.bool (dA n (l.map gi))):=by rw[vF .i rfl (by rw[An];rfl),NZ]
theorem Np:A.look .z (.om (σ.length+1)) (.str k) (.bool false) (σ++b0::bk.map (jg g l)::bs)=some (.bool (dA k (l.map g))):=by rw[vF .z rfl (by rw[FI];rfl),N3]
theorem Nn:A.look .i (.om (σ.length+1)) (.ah n) (.bool false) (σ++b0::bk.map (mP gi l)::bs)=some (.bool (dA n (l.map gi))):=by rw[vF .i rfl (by rw[FI];rfl),NZ]
theorem N5(h:dA k (l.map g)=false):A.iS .z (.om σ.length) (.str k) (.bool true) (σ++bk.map (jg g l)::bs)=some (σ++bk.map (jg g l++[(.str k,.bool true)])::bs):=by rw[BR .z rfl (by rw[An];rfl),jg,JJ g _ (λx hx e=>DX.1 h (by rw[←e];exact List.mem_map_of_mem hx)),eO,Jz];rfl
theorem N1(h:dA n (l.map gi)=false):A.iS .i (.om σ.length) (.ah n) (.bool true) (σ++bk.map (mP gi l)::bs)=some (σ++bk.map (mP gi l++[(.ah n,.bool true)])::bs):=by rw[BR .i rfl (by rw[An];rfl),mP,JI gi _ (λx hx e=>DX.1 h (by rw[←e];exact List.mem_map_of_mem hx)),eO,Jz];rfl
theorem N6(h:dA k (l.map g)=false):A.iS .z (.om (σ.length+1)) (.str k) (.bool true) (σ++b0::bk.map (jg g l)::bs)=some (σ++b0::bk.map (jg g l++[(.str k,.bool true)])::bs):=by rw[BR .z rfl (by rw[FI];rfl),jg,JJ g _ (λx hx e=>DX.1 h (by rw[←e];exact List.mem_map_of_mem hx)),eO,nA];rfl
theorem N2(h:dA n (l.map gi)=false):A.iS .i (.om (σ.length+1)) (.ah n) (.bool true) (σ++b0::bk.map (mP gi l)::bs)=some (σ++b0::bk.map (mP gi l++[(.ah n,.bool true)])::bs):=by rw[BR .i rfl (by rw[FI];rfl),mP,JI gi _ (λx hx e=>DX.1 h (by rw[←e];exact List.mem_map_of_mem hx)),eO,nA];rfl
end
theorem N4{α:Type}(g:α→ByteArray)(l:List α)(x:α):jg g (l++[x])=jg g l++[(.str (g x),.bool true)]:=by simp [jg]
theorem D0(σ:Heap)(v:AV):A.quiet (some (v,σ)) σ=some v:=by simp [A.quiet]
def Fz(a:AV):Prop:=∀σ n d,A.bP σ n d a=some a
def o9(l:an):Prop:=∀σ n d,A.dz σ n d l=some l
theorem xu(k:IntKind)(n:Int):Fz (.int k n):=λ_ _ d=>by cases d<;>simp [A.bP]
theorem Zw(b:Bool):Fz (.bool b):=λ_ _ d=>by cases d<;>simp [A.bP]
theorem Qc(s:ByteArray):Fz (.str s):=λ_ _ d=>by cases d<;>simp [A.bP]
theorem Qb:Fz .aN:=λ_ _ d=>by cases d<;>simp [A.bP]
theorem aax{l:an}(h:o9 l):Fz (.agg l):=λσ n d=>by cases d<;>simp [A.bP,h σ n]
theorem Pg:o9 []:=λ_ _ _=>by simp [A.dz]
theorem BE{a:AV}{l:an}(h:Fz a)(k:o9 l):o9 (a::l):=λσ n d=>by simp [A.dz,h σ n d,k σ n d]
theorem JT{α:Type}{c:α→an}(h:∀x,o9 (c x))(l:List α)(σ:Heap)(n d:Nat):A.lF σ n d (l.map c)=some (l.map c):=by
 induction l with
 |nil=>simp [A.lF]
 |cons x l ih=>simp [A.lF,h x σ n d,ih]
def qp{α:Type}(id sz:Nat)(l:List α):AV:=if l=[]then .aN else .os id l.length sz 0 l.length
def nB{α:Type}(sz:Nat)(c:α→an)(l:List α):Heap:=if l=[]then[]else[.arr l.length sz (l.map c)]
theorem YD{α:Type}(sz:Nat)(c:α→an):nB sz c []=[]:=rfl
theorem WD{α:Type}{sz most:Nat}(c:α→an)(l:List α)(x:α)(σ:Heap)(h:l.length+1≤most):A.append sz most (qp σ.length sz l) (.sl sz [c x]) (σ++nB sz c l)=some (qp σ.length sz (l++[x]),σ++nB sz c (l++[x])):=by
 unfold qp nB;cases l with
 |nil=>
  have h1:1≤most:=by simpa using h
  simp [A.append,A.jZ,A.elems,h1]
 |cons y l=>
  have h1:l.length+1+1≤most:=by simpa using h
  simp [A.append,A.jZ,A.elems,h1,An,Jz,kQ,fF]
theorem ZV{α:Type}{sz:Nat}{c:α→an}(hc:∀x,o9 (c x))(l:List α)(σ:Heap)(d:Nat):A.bP (σ++nB sz c l) σ.length (d+1) (qp σ.length sz l)=some (if l=[]then .aN else sl sz c l):=by
 unfold qp nB;split
 ·simp [A.bP]
 ·rename_i hl;simp only[A.bP,Nat.lt_irrefl,if_false,An,List.getElem?_cons_zero];rw[aK (by simp)];have e:(List.take l.length (List.drop 0 (l.map c)))=l.map c:=by simp [fF]
  rw[e,BD,JT hc];rfl
theorem Yn{α:Type}{sz:Nat}{c:α→an}(hc:∀x,o9 (c x))(l:List α)(k:IntKind)(n:Int)(σ:Heap):A.fin σ (.aD [qp σ.length sz l,.int k n]) (σ++nB sz c l)=some (.aD [if l=[]then .aN else sl sz c l,.int k n],σ):=by
 unfold A.fin;split
 ·rename_i h;have:nB sz c l=[]:=by simpa using h
  have hl:l=[]:=by
   unfold nB at this;split at this
   ·assumption
   ·cases this
  subst hl;rfl
 ·rw[aK (by simp)]
  have:A.bP (σ++nB sz c l) σ.length 8 (.aD [qp σ.length sz l,.int k n])=some (.aD [if l=[]then .aN else sl sz c l,.int k n]):=by simp only[A.bP,A.dz,ZV hc,xu k n _ _ _,aQ,eO]
  rw[this];rfl
theorem aaP{α:Type}(sz:Nat)(c:α→an)(l:List α):A.nn (.s sz) (if l=[]then .aN else sl sz c l)=sl sz c l:=by
 split
 ·rename_i h;subst h;rfl
 ·rfl
def mL{α:Type}(p:α→Bool)(l:List α):Int:=match l.findIdx? p with|some i=>i|none=>-1
theorem Bq{α:Type}(p:α→Bool)(l:List α):(mL p l=-1∧(∀x∈l,p x=false)∧l.find? p=none)∨∃(k:Nat)(x:α),l[k]? =some x∧p x=true∧mL p l=k∧l.find? p=some x∧∀(j:Nat)(y:α),j<k→l[j]? =some y→p y=false:=by
 induction l with
 |nil=>left;exact⟨rfl,by simp,rfl⟩
 |cons x l ih=>
  cases h:p x
  ·rcases ih with⟨h1,h2,h3⟩|⟨k,y,h1,h2,h3,h4,h5⟩
   ·left;refine⟨?_,?_,?_⟩
    ·unfold mL at h1 ⊢;rw[List.findIdx?_cons,h];cases hf:l.findIdx? p with
     |none=>simp
     |some i=>rw[hf]at h1;simp at h1
    ·intro y hy;rcases eM.1 hy with rfl|hy
     ·exact h
     ·exact h2 y hy
    ·simp [List.find?,h,h3]
   ·right;refine⟨k+1,y,by simpa using h1,h2,?_,by simp [List.find?,h,h4],?_⟩
    ·unfold mL at h3 ⊢;rw[List.findIdx?_cons,h];cases hf:l.findIdx? p with
     |none=>rw[hf]at h3;simp at h3
     |some i=>rw[hf]at h3;simp at h3 ⊢;omega
    ·intro j z hj hz;cases j with
     |zero=>simp at hz;subst hz;exact h
     |succ j=>exact h5 j z (by omega) (by simpa using hz)
  ·right;refine⟨0,x,rfl,h,?_,by simp [List.find?,h],by intro j y hj;omega⟩;unfold mL;rw[List.findIdx?_cons,h];rfl
theorem BG{α:Type}{γ:Type}(p:α→Bool)(K1:Option γ)(K2:Int→Option γ):∀(l pre:List α),(∀x∈pre,p x=false)→(fO (λpre x(_:Unit)=>if p x=true then(Rd.out (pre.length:Int):Rd Unit Int)else .go ()) pre l ()).el (λ_=>K1) K2=if mL p (pre++l)=-1 then K1 else K2 (mL p (pre++l))
 |[],pre,h=>by
  have:mL p (pre++[])=-1:=by
   rcases Bq p (pre++[])with h1|⟨k,x,h1,h2,_⟩
   ·exact h1.1
   ·have:=h x (by have:=dF h1;simpa using this);rw[h2]at this;cases this
  rw[fO,qd,aK this]
 |x::l,pre,h=>by
  rw[fO];cases hx:p x
  ·simp only[Bool.false_eq_true,if_false]
   have:=BG p K1 K2 l (pre++[x]) (λy hy=>by
    rcases eN.1 hy with hy|hy
    ·exact h y hy
    ·simp at hy;subst hy;exact hx)
   simpa using this
  ·simp only[if_true,p7]
   have:mL p (pre++x::l)=pre.length:=by
    rcases Bq p (pre++x::l)with h1|⟨k,y,h1,h2,h3,_,h5⟩
    ·have:=h1.2.1 x (by simp);rw[hx]at this;cases this
    ·rw[h3];rcases Nat.lt_trichotomy k pre.length with hk|hk|hk
     ·rw[fE hk]at h1;have:=h y (dF h1);rw[h2]at this;cases this
     ·omega
     ·have:=h5 pre.length x hk (by simp);rw[hx]at this;cases this
   rw[this,aI (by omega)]
theorem OR{α R γ:Type}(p:α→Bool)(r:R)(K1:Unit→γ)(K2:R→γ):∀(l pre:List α),(fO (λ_ x(_:Unit)=>if p x=true then(Rd.out r:Rd Unit R)else .go ()) pre l ()).el K1 K2=if l.any p=true then K2 r else K1 ()
 |[],pre=>by simp [fO,Rd.el]
 |x::l,pre=>by
  rw[fO];cases h:p x
  ·simp only[Bool.false_eq_true,if_false];rw[OR p r K1 K2 l (pre++[x])];simp [h]
  ·simp [h,Rd.el]
theorem DS{α:Type}(sz:Nat)(c:α→an)(l:List α){k:Nat}(h:k≤l.length){σ:Heap}:A.cm sz (sl sz c l) none (some (.ah (k:Int))) σ=some (sl sz c (l.take k)):=by simp [A.cm,sl,A.bound,h,List.map_take]
theorem En{α:Type}{l pre rest:List α}{x:α}(h:l=pre++x::rest):l.take pre.length=pre:=by rw[h];simp
theorem N0(l:List Int)(n:Int):mP id l++[(.ah n,.bool true)]=mP id (l++[n]):=by simp [mP]
theorem XG{κ:Type}[DecidableEq κ](k x:κ)(S:List κ):dA k (S++[x])=(dA k S||decide (x=k)):=by simp [dA]
theorem acy{α:Type}{sz:Nat}{c:α→an}{sh:List Sh}(h:∀x,A.cN sh (c x)=c x)(l:List α):A.nn (.e sz sh) (sl sz c l)=sl sz c l:=by simp only[sl,A.nn,List.map_map];congr 1;exact List.map_congr_left λx _=>h x
theorem vH(sz:Nat)(sh:List Sh):A.nn (.e sz sh) .aN=.sl sz []:=by simp [A.nn]
theorem xe{α γ:Type}{f:an→Heap→Option (AX×an×Heap)}(l:List α)(p:α→Bool)(vs:Nat→an)(σ:Heap)(fin:AX×an×Heap)(ret:Nat→AX×an×Heap){k:AX×an×Heap→Option γ}(K1 K2:Option γ)
  (hstep:∀(i:Nat)(x:α),l[i]? =some x→f (vs i) σ=if p x=true then some (ret i)else some (.normal,vs (i+1),σ)) (hend:f (vs l.length) σ=some fin) (hk1:k fin=K1) (hk2:∀i,k (ret i)=K2)
  (xK:fin.1≠.normal:=by simp) (Cf:∀i,(ret i).1≠.normal:=by intros;simp) {v:an} {σ':Heap} (hv:v=vs 0:=by rfl) (dI:σ'=σ:=by rfl):
  (A.loop f v σ').bind k=if l.any p=true then K2 else K1:=by
 subst hv dI
 refine(jY (S:=Unit) (R:=Unit) l (λ_ x _=>if p x=true then .out ()else .go ()) (λpre _=>vs pre.length) (λ_ _=>σ') (λ_=>fin) (λpre _ _=>ret pre.length) (λ_ _=>True) () (λ_=>K1) (λ_=>K2)
  ?_ (λ_ _=>hend) trivial (λ_ _ _ _ _ _ _ _=>trivial) (λ_ _=>hk1) (λ_ _ _ _ _ _ _ _=>hk2 _) (λ_=>xK) (λ_ _ _=>Cf _)).trans (OR p () _ _ l [])
 intro pre x rest u hl _;rw[hstep pre.length x (kj hl)];cases p x<;>simp [Rd.el]
theorem El{α κ:Type}[DecidableEq κ](k:κ)(g:α→κ)(l:List α):dA k (l.map g)=l.any λx=>decide (g x=k):=by simp [dA,List.any_map];rfl
theorem sB{α:Type}(sz:Nat)(c:α→an){l:List α}{k:Nat}{x:α}(h:l[k]? =some x):A.aM sz (sl sz c l) (.ah (k:Int))=some (.rp (c x))∧(k:Int)<(l.length:Int)∧(l.length≤bQ→IntKind.i64.wrap ((k:Int)+1)=(k:Int)+1):=
 ⟨jr sz c l h,by have:=(bU.1 h).1;omega,λhl=>dK (by have:=(bU.1 h).1;unfold aZ;unfold bQ at hl;omega)⟩
theorem NO{α γ:Type}{f:an→Heap→Option (AX×an×Heap)}(l:List α)(p:α→Bool)(vs:Nat→an)(σ:Heap)(fin:AX×an×Heap)(ret:Nat→α→AX×an×Heap){k:AX×an×Heap→Option γ}(K1:Option γ)(K2:α→Option γ)
  (hstep:∀(i:Nat)(x:α),l[i]? =some x→f (vs i) σ=if p x=true then some (ret i x)else some (.normal,vs (i+1),σ)) (hend:f (vs l.length) σ=some fin) (hk1:k fin=K1) (hk2:∀i x,k (ret i x)=K2 x)
  (xK:fin.1≠.normal:=by simp) (Cf:∀i x,(ret i x).1≠.normal:=by intros;simp) {v:an} {σ':Heap} (hv:v=vs 0:=by rfl) (dI:σ'=σ:=by rfl):
  (A.loop f v σ').bind k=(l.find? p).elim K1 K2:=by
 subst hv dI
 have run:∀(l pre:List α),(fO (λ_ x(_:Unit)=>if p x=true then(Rd.out x:Rd Unit α)else .go ()) pre l ()).el (λ_=>K1) K2=(l.find? p).elim K1 K2:=by
  intro l;induction l with
  |nil=>intro pre;rfl
  |cons x l ih=>
   intro pre;rw[fO];cases h:p x
   ·simp only[Bool.false_eq_true,if_false];rw[ih,List.find?_cons,h]
   ·simp [h,Rd.el]
 refine(jY (S:=Unit) (R:=α) l (λ_ x _=>if p x=true then .out x else .go ()) (λpre _=>vs pre.length) (λ_ _=>σ') (λ_=>fin) (λpre _ x=>ret pre.length x) (λ_ _=>True) () (λ_=>K1) K2
  ?_ (λ_ _=>hend) trivial (λ_ _ _ _ _ _ _ _=>trivial) (λ_ _=>hk1) (λ_ _ _ _ _ _ _ _=>hk2 _ _) (λ_=>xK) (λ_ _ _=>Cf _ _)).trans (run l [])
 intro pre x rest u hl _;rw[hstep pre.length x (kj hl)];cases p x<;>simp [Rd.el]
theorem YB{α γ:Type}{f:an→Heap→Option (AX×an×Heap)}(l:List α)(p:α→Bool)(vs:Nat→an)(σ:Heap)(fin:AX×an×Heap)(ret:Nat→AX×an×Heap){k:AX×an×Heap→Option γ}(K1:Option γ)(K2:Int→Option γ)
  (hstep:∀(i:Nat)(x:α),l[i]? =some x→f (vs i) σ=if p x=true then some (ret i)else some (.normal,vs (i+1),σ)) (hend:f (vs l.length) σ=some fin) (hk1:k fin=K1) (hk2:∀i:Nat,k (ret i)=K2 i)
  (xK:fin.1≠.normal:=by simp) (Cf:∀i,(ret i).1≠.normal:=by intros;simp) {v:an} {σ':Heap} (hv:v=vs 0:=by rfl) (dI:σ'=σ:=by rfl):
  (A.loop f v σ').bind k=if mL p l=-1 then K1 else K2 (mL p l):=by
 subst hv dI
 refine(jY (S:=Unit) (R:=Int) l (λpre x _=>if p x=true then .out (pre.length:Int)else .go ()) (λpre _=>vs pre.length) (λ_ _=>σ') (λ_=>fin) (λpre _ _=>ret pre.length) (λ_ _=>True) () (λ_=>K1) K2
  ?_ (λ_ _=>hend) trivial (λ_ _ _ _ _ _ _ _=>trivial) (λ_ _=>hk1) ?_ (λ_=>xK) (λ_ _ _=>Cf _)).trans ?_
 ·intro pre x rest u hl _;rw[hstep pre.length x (kj hl)];cases p x<;>simp [Rd.el]
 ·intro pre x rest s r hl _ hb;rw[hk2];cases h:p x
  ·rw[h]at hb;cases hb
  ·rw[h]at hb;simp at hb;rw[hb]
 ·have:=BG p K1 K2 l [] (by simp);simpa using this
theorem qH{α:Type}(n:Int)(B:AV→Option α)(s:Option α):((A.lss (.ah n) (.ah n)).bind λx=>A.cond x (B x) s)=s:=by simp only[xI,Int.lt_irrefl,aQ,decide_false,cF]
section
variable {α β : Type}
theorem Xg{c c':AV}(h:c=c')(t e:Option α):A.cond c t e=A.cond c' t e:=by rw[h]
theorem Wv{c c':AV}(h:c=c')(w:Bool)(e d:Option α):A.guard c w e d=A.guard c' w e d:=by rw[h]
theorem W9{x y:Option α}(h:x=y)(f:α→Option β):x.bind f=y.bind f:=by rw[h]
attribute [congr] Xg Wv W9
end
theorem au:type_of% @aQ.{0,0}∧type_of% @eO.{0,0}∧type_of% @cT∧type_of% @cF∧type_of% @Sj∧type_of% @Si∧type_of% @Sg∧type_of% @Sf∧type_of% @gN∧type_of% @pT∧type_of% @pF∧type_of% @bG.{1}∧type_of% @aV.{1}∧type_of% @xN∧type_of% @B8∧type_of% @Ff∧type_of% @Fe∧type_of% @xI∧type_of% @JO∧type_of% @JN∧type_of% @Rh∧type_of% @QV∧type_of% @QU∧type_of% @QS∧type_of% @QO∧type_of% @uH∧type_of% @uI∧type_of% @Rg∧type_of% @Ri∧type_of% @Rj∧type_of% @QW∧type_of% @R9∧type_of% @QK∧type_of% @QL∧type_of% @QM∧type_of% @QN∧type_of% @R7∧type_of% @R8∧type_of% @QT∧type_of% @R5∧type_of% @R4∧type_of% @R6∧type_of% @Re∧type_of% @Ll∧type_of% @Sk∧type_of% @Sm∧type_of% @Sn∧type_of% @Sp∧type_of% @Sq∧type_of% @Sr∧type_of% @Ss∧type_of% @Su∧type_of% @Sv∧type_of% @ff∧type_of% @IW∧type_of% @Ox∧type_of% @Pc∧type_of% @Oy∧type_of% @jc∧type_of% @ite_true.{1}∧type_of% @ite_false.{1}∧type_of% @if_true.{1}∧type_of% @if_false.{1}∧type_of% @Bool.false_eq_true∧type_of% @not_true_eq_false∧type_of% @not_false_eq_true∧type_of% @decide_true∧type_of% @decide_false∧type_of% @Bool.not_true∧type_of% @Bool.not_false∧type_of% @kP.{0}∧type_of% @l6.{0}∧type_of% @List.nil_append.{0}∧type_of% @List.drop_zero.{0}∧type_of% @PI∧type_of% @PJ∧type_of% @OG∧type_of% @Int.natCast_add∧type_of% @Int.cast_ofNat_Int∧type_of% @D0∧type_of% @qd∧type_of% @p7∧type_of% @sG∧type_of% @No∧type_of% @Nl∧type_of% @Np∧type_of% @Nn∧type_of% @N4∧type_of% @N5∧type_of% @N1∧type_of% @N6∧type_of% @N2∧type_of% @true_and∧type_of% @and_true∧type_of% @false_and∧type_of% @and_false∧type_of% @true_or∧type_of% @or_true∧type_of% @false_or∧type_of% @or_false∧type_of% @Option.getD_some.{0}∧type_of% @Option.getD_none.{0}∧type_of% @List.length_append.{0}∧type_of% @List.length_cons.{0}∧type_of% @List.length_nil.{0}∧type_of% @Nat.zero_add∧type_of% @Nat.add_zero:=
 ⟨@aQ.{0,0},@eO.{0,0},@cT,@cF,@Sj,@Si,@Sg,@Sf,@gN,@pT,@pF,@bG.{1},@aV.{1},@xN,@B8,@Ff,@Fe,@xI,@JO,@JN,@Rh,@QV,@QU,@QS,@QO,@uH,@uI,@Rg,@Ri,@Rj,@QW,@R9,@QK,@QL,@QM,@QN,@R7,@R8,@QT,@R5,@R4,@R6,@Re,@Ll,@Sk,@Sm,@Sn,@Sp,@Sq,@Sr,@Ss,@Su,@Sv,@ff,@IW,@Ox,@Pc,@Oy,@jc,@ite_true.{1},@ite_false.{1},@if_true.{1},@if_false.{1},@Bool.false_eq_true,@not_true_eq_false,@not_false_eq_true,@decide_true,@decide_false,@Bool.not_true,@Bool.not_false,@kP.{0},@l6.{0},@List.nil_append.{0},@List.drop_zero.{0},@PI,@PJ,@OG,@Int.natCast_add,@Int.cast_ofNat_Int,@D0,@qd,@p7,@sG,@No,@Nl,@Np,@Nn,@N4,@N5,@N1,@N6,@N2,@true_and,@and_true,@false_and,@and_false,@true_or,@or_true,@false_or,@or_false,@Option.getD_some.{0},@Option.getD_none.{0},@List.length_append.{0},@List.length_cons.{0},@List.length_nil.{0},@Nat.zero_add,@Nat.add_zero⟩
end
theorem Ph(x:aS):o9 (cu x):=(BE (xu _ _) (BE (Qc _) Pg))
theorem Bj(x:aA):o9 (aH x):=(BE (xu _ _) (BE (Qc _) (BE (xu _ _) Pg)))
instance : Inhabited ByteArray := ⟨⟨#[]⟩⟩
instance : Inhabited P0 := ⟨⟨0, 0⟩⟩
instance : Inhabited Jc := ⟨⟨0, []⟩⟩
instance : Inhabited QG := ⟨⟨0, 0, 0, 0, 0, ⟨0, []⟩⟩⟩
instance : Inhabited Y5 := ⟨⟨0, 0⟩⟩
instance : Inhabited ko := ⟨⟨0, 0, ⟨#[]⟩⟩⟩
instance : Inhabited dR := ⟨⟨⟨#[]⟩, 0, 0, 0, 0, false, []⟩⟩
instance : Inhabited ct := ⟨⟨⟨#[]⟩, 0, []⟩⟩
instance : Inhabited eG := ⟨⟨0, ⟨#[]⟩, 0, 0⟩⟩
instance : Inhabited dP := ⟨⟨[], []⟩⟩
instance : Inhabited aS := ⟨⟨0, ⟨#[]⟩⟩⟩
theorem EA(a b:aS):A.dD (.s [0,2]) (.agg (cu a)) (.agg (cu b))=some (decide (a=b)):=by obtain⟨x1,x2⟩:=a;obtain⟨x101,x102⟩:=b;simp only[A.dD,cu,A.dS,A.kE,A.kU,A.rA,A.mS,if_true,aQ,eO,bq];congr 1;rw[lH];simp [and_assoc]
theorem P6(a b:aS):A.eql (.s [0,2]) (.agg (cu a)) (.agg (cu b))=some (.bool (decide (a=b))):=by rw[A.eql,EA];rfl
theorem aaL(a b:aS):A.neq (.s [0,2]) (.agg (cu a)) (.agg (cu b))=some (.bool (decide (¬(a=b)))):=by rw[A.neq,EA,eO,decide_not]
instance : Inhabited aA := ⟨⟨⟨0, ⟨#[]⟩⟩, 0⟩⟩
theorem VJ(a b:aA):A.dD (.s [0,2,0]) (.agg (aH a)) (.agg (aH b))=some (decide (a=b)):=by obtain⟨⟨x1,x2⟩,x3⟩:=a;obtain⟨⟨x101,x102⟩,wA⟩:=b;simp only[A.dD,aH,A.dS,A.kE,A.kU,A.rA,A.mS,if_true,aQ,eO,bq];congr 1;rw[lH];simp [and_assoc]
theorem WB(a b:aA):A.neq (.s [0,2,0]) (.agg (aH a)) (.agg (aH b))=some (.bool (decide (¬(a=b)))):=by rw[A.neq,VJ,eO,decide_not]
instance : Inhabited O3 := ⟨⟨0, ⟨#[]⟩, []⟩⟩
instance : Inhabited iF := ⟨⟨[], 0, 0⟩⟩
instance : Inhabited Jd := ⟨⟨0, 0⟩⟩
instance : Inhabited EU := ⟨⟨⟨0, ⟨#[]⟩⟩, ⟨0, 0⟩, false, false, 0, 0⟩⟩
instance : Inhabited uq := ⟨⟨0, ⟨#[]⟩, 0, 0, 0, 0, ⟨0, []⟩, false, 0, []⟩⟩
instance : Inhabited aai := ⟨⟨⟨0, ⟨#[]⟩⟩, ⟨0, 0⟩, 0⟩⟩
instance : Inhabited abb := ⟨⟨0, 0, 0⟩⟩
instance : Inhabited QH := ⟨⟨0, []⟩⟩
instance : Inhabited Nq := ⟨⟨0, 0, 0⟩⟩
instance : Inhabited aam := ⟨⟨⟨[], []⟩, [], [], []⟩⟩
instance : Inhabited O1 := ⟨⟨0, 0, 0, 0, 0⟩⟩
instance : Inhabited aaj := ⟨⟨0, ⟨0, 0, 0, 0, 0⟩⟩⟩
instance : Inhabited aan := ⟨⟨0, 0, 0, 0⟩⟩
instance : Inhabited Rc := ⟨⟨⟨0, ⟨#[]⟩⟩, ⟨0, 0, 0, 0, 0, ⟨0, []⟩⟩, 0, false⟩⟩
instance : Inhabited W7 := ⟨⟨0, 0, 0, false, 0, []⟩⟩
instance : Inhabited MC := ⟨⟨0, 0, 0⟩⟩
instance : Inhabited O2 := ⟨⟨0, 0, 0, 0, 0, 0, false, false, []⟩⟩
instance : Inhabited QI := ⟨⟨0, 0⟩⟩
instance : Inhabited X8 := ⟨⟨⟨0, 0, 0, 0, 0, 0, false, false, []⟩, [], 0, [], 0, 0, 0⟩⟩
end Go.Proofs.Ytjjjjbgohkklnaa
