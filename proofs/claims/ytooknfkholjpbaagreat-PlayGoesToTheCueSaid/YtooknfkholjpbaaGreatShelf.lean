/-
  DERIVED: THE SHELF's CONTRACTS AT THIS DUMP, IN PLAIN WORDS (tools/lay-plain.mjs out of 'TryzShelf.lean', which tools/lay-shelf.mjs wrote): THE SAME DECLARATIONS UNDER THE SAME NAMES: 'import', 'namespace', 'open', 'def', 'theorem' AND NOTHING ELSE: no command of the shelf's: FOR A HAND-IN. Each laying: the table of numbers ('.._ren') and one theorem, a field a fact of the dump's own or the kernel's comparison; each contract: ONE APPLICATION.
-/
import Derived.Shelf.SlSortCmp.WholeK
import Derived.Shelf.SlGeneric
import Derived.Shelf.Small.Bits
import Derived.Shelf.Small.Strs
import Derived.Shelf.Strconv.Itoa0
import Derived.Shelf.Bits.Mul64
import Derived.Test.YtooknfkholjpbaaGreatProg
namespace Go.Proofs
open Go.Shelf
def Tryz.lays128_ren : Go.Shelf.Ren := ⟨fun | 128 => 223 | n => n, fun | 51 => 301 | 3 => 3 | 4 => 4 | 46 => 259 | 5 => 5 | 9 => 9 | n => n, fun | n => n⟩
theorem Tryz.lays128 : Go.Proofs.Lays.n128 Tryz.prog Tryz.lays128_ren := {
  mixed := by kernel_rfl
  f128 := Tryz.func223.trans (congrArg some (by kernel_rfl))
  t3 := Tryz.underlying3
  a3 := Tryz.isAgg3
  z3 := Tryz.sizeOf3
  v3 := Tryz.zeroValue3
  t4 := Tryz.underlying4
  a4 := Tryz.isAgg4
  z4 := Tryz.sizeOf4
  v4 := Tryz.zeroValue4
  t5 := Tryz.underlying5
  a5 := Tryz.isAgg5
  z5 := Tryz.sizeOf5
  v5 := Tryz.zeroValue5
  t9 := Tryz.underlying9
  a9 := Tryz.isAgg9
  z9 := Tryz.sizeOf9
  v9 := Tryz.zeroValue9
  t46 := Tryz.underlying259
  a46 := Tryz.isAgg259
  z46 := Tryz.sizeOf259
  v46 := Tryz.zeroValue259
  t51 := Tryz.underlying301
  a51 := Tryz.isAgg301
  z51 := Tryz.sizeOf301
  v51 := Tryz.zeroValue301 }
/-- bits.Len32: "Len32 returns the minimum number of bits required to represent x; the result is 0 for x == 0.": IT RETURNS 'Lib.bitLen x'; the world is as it was. ('h0', 'h1': x is a uint32.) (LAID: no walk: one application.) -/
theorem Tryz.bits_Len32 (x : Int) (w : World) (h0 : 0 ≤ x) (h1 : x ≤ 4294967295) :
    Calls Tryz.prog 223 #[.int .u32 x] w fun e w' => e = .returned (.int .i64 (Lib.bitLen x.toNat)) ∧ w' = w := Any.bits_Len32 Tryz.lays128 x w h0 h1
def Tryz.lays125_ren : Go.Shelf.Ren := ⟨fun | 125 => 173 | 128 => 223 | 129 => 224 | n => n, fun | 46 => 259 | 3 => 3 | 51 => 301 | 53 => 303 | 4 => 4 | 5 => 5 | 9 => 9 | n => n, fun | n => n⟩
theorem Tryz.lays125 : Go.Proofs.Lays.n125 Tryz.prog Tryz.lays125_ren := {
  mixed := by kernel_rfl
  f125 := Tryz.func173.trans (congrArg some (by kernel_rfl))
  f128 := Tryz.func223.trans (congrArg some (by kernel_rfl))
  f129 := Tryz.func224.trans (congrArg some (by kernel_rfl))
  t3 := Tryz.underlying3
  a3 := Tryz.isAgg3
  z3 := Tryz.sizeOf3
  v3 := Tryz.zeroValue3
  t4 := Tryz.underlying4
  a4 := Tryz.isAgg4
  z4 := Tryz.sizeOf4
  v4 := Tryz.zeroValue4
  t5 := Tryz.underlying5
  a5 := Tryz.isAgg5
  z5 := Tryz.sizeOf5
  v5 := Tryz.zeroValue5
  t9 := Tryz.underlying9
  a9 := Tryz.isAgg9
  z9 := Tryz.sizeOf9
  v9 := Tryz.zeroValue9
  t46 := Tryz.underlying259
  a46 := Tryz.isAgg259
  z46 := Tryz.sizeOf259
  v46 := Tryz.zeroValue259
  t51 := Tryz.underlying301
  a51 := Tryz.isAgg301
  z51 := Tryz.sizeOf301
  v51 := Tryz.zeroValue301
  t53 := Tryz.underlying303
  a53 := Tryz.isAgg303
  z53 := Tryz.sizeOf303
  v53 := Tryz.zeroValue303 }
/-- bits.Len: "Len returns the minimum number of bits required to represent x; the result is 0 for x == 0.": IT RETURNS 'Lib.bitLen x'; the world is as it was. (A uint has 64 bits in the model.) ITS CALLEE bits.Len64 IS MET BY ITS OWN CONTRACT OFF THE SHELF (lay that first). (LAID: no walk: one application.) -/
theorem Tryz.bits_Len (x : Int) (w : World) (h0 : 0 ≤ x) (h1 : x ≤ 18446744073709551615) :
    Calls Tryz.prog 173 #[.int .u64 x] w fun e w' => e = .returned (.int .i64 (Lib.bitLen x.toNat)) ∧ w' = w := Any.bits_Len Tryz.lays125 x w h0 h1
def Tryz.lays213_ren : Go.Shelf.Ren := ⟨fun | 213 => 120 | 265 => 174 | n => n, fun | 9 => 9 | 3 => 3 | n => n, fun | n => n⟩
theorem Tryz.lays213 : Go.Proofs.Lays.n213 Tryz.prog Tryz.lays213_ren := {
  mixed := by kernel_rfl
  f213 := Tryz.func120.trans (congrArg some (by kernel_rfl))
  f265 := Tryz.func174.trans (congrArg some (by kernel_rfl))
  t3 := Tryz.underlying3
  a3 := Tryz.isAgg3
  z3 := Tryz.sizeOf3
  v3 := Tryz.zeroValue3
  t9 := Tryz.underlying9
  a9 := Tryz.isAgg9
  z9 := Tryz.sizeOf9
  v9 := Tryz.zeroValue9 }
open Go.RowKit in
/-- internal/bytealg.CompareString (what strings.Compare calls): IT RETURNS 'Lib.compareBytes a b'; the world is as it was. (LAID: no walk: one application.) -/
theorem Tryz.bytealg_CompareString (a b : ByteArray) (w : World) :
    Calls Tryz.prog 120 #[.string a, .string b] w fun e w' => e = .returned (.int .i64 (Lib.compareBytes a.data.toList b.data.toList)) ∧ w' = w := Any.bytealg_CompareString Tryz.lays213 a b w
def Tryz.lays106_ren : Go.Shelf.Ren := ⟨fun | 106 => 61 | 213 => 120 | 265 => 174 | n => n, fun | 9 => 9 | 3 => 3 | n => n, fun | n => n⟩
theorem Tryz.lays106 : Go.Proofs.Lays.n106 Tryz.prog Tryz.lays106_ren := {
  mixed := by kernel_rfl
  f106 := Tryz.func61.trans (congrArg some (by kernel_rfl))
  f213 := Tryz.func120.trans (congrArg some (by kernel_rfl))
  f265 := Tryz.func174.trans (congrArg some (by kernel_rfl))
  t3 := Tryz.underlying3
  a3 := Tryz.isAgg3
  z3 := Tryz.sizeOf3
  v3 := Tryz.zeroValue3
  t9 := Tryz.underlying9
  a9 := Tryz.isAgg9
  z9 := Tryz.sizeOf9
  v9 := Tryz.zeroValue9 }
open Go.RowKit in
/-- strings.Compare: "Compare returns an integer comparing two strings lexicographically. The result will be 0 if a == b, -1 if a < b, and +1 if a > b.": IT RETURNS 'Lib.compareBytes a b'; the world is as it was. (LAID: no walk: one application.) -/
theorem Tryz.strings_Compare (a b : ByteArray) (w : World) :
    Calls Tryz.prog 61 #[.string a, .string b] w fun e w' => e = .returned (.int .i64 (Lib.compareBytes a.data.toList b.data.toList)) ∧ w' = w := Any.strings_Compare Tryz.lays106 a b w
def Tryz.lays129_ren : Go.Shelf.Ren := ⟨fun | 129 => 224 | n => n, fun | 53 => 303 | 3 => 3 | 4 => 4 | 46 => 259 | 5 => 5 | 9 => 9 | n => n, fun | n => n⟩
theorem Tryz.lays129 : Go.Proofs.Lays.n129 Tryz.prog Tryz.lays129_ren := {
  mixed := by kernel_rfl
  f129 := Tryz.func224.trans (congrArg some (by kernel_rfl))
  t3 := Tryz.underlying3
  a3 := Tryz.isAgg3
  z3 := Tryz.sizeOf3
  v3 := Tryz.zeroValue3
  t4 := Tryz.underlying4
  a4 := Tryz.isAgg4
  z4 := Tryz.sizeOf4
  v4 := Tryz.zeroValue4
  t5 := Tryz.underlying5
  a5 := Tryz.isAgg5
  z5 := Tryz.sizeOf5
  v5 := Tryz.zeroValue5
  t9 := Tryz.underlying9
  a9 := Tryz.isAgg9
  z9 := Tryz.sizeOf9
  v9 := Tryz.zeroValue9
  t46 := Tryz.underlying259
  a46 := Tryz.isAgg259
  z46 := Tryz.sizeOf259
  v46 := Tryz.zeroValue259
  t53 := Tryz.underlying303
  a53 := Tryz.isAgg303
  z53 := Tryz.sizeOf303
  v53 := Tryz.zeroValue303 }
/-- bits.Len64: "Len64 returns the minimum number of bits required to represent x; the result is 0 for x == 0.": IT RETURNS 'Lib.bitLen x'; the world is as it was. ('h0', 'h1': x is a uint64.) (LAID: no walk: one application.) -/
theorem Tryz.bits_Len64 (x : Int) (w : World) (h0 : 0 ≤ x) (h1 : x ≤ 18446744073709551615) :
    Calls Tryz.prog 224 #[.int .u64 x] w fun e w' => e = .returned (.int .i64 (Lib.bitLen x.toNat)) ∧ w' = w := Any.bits_Len64 Tryz.lays129 x w h0 h1
def Tryz.lays264_ren : Go.Shelf.Ren := ⟨fun | 264 => 282 | n => n, fun | 53 => 303 | 46 => 259 | n => n, fun | n => n⟩
theorem Tryz.lays264 : Go.Proofs.Lays.n264 Tryz.prog Tryz.lays264_ren := {
  mixed := by kernel_rfl
  f264 := Tryz.func282.trans (congrArg some (by kernel_rfl))
  t46 := Tryz.underlying259
  a46 := Tryz.isAgg259
  z46 := Tryz.sizeOf259
  v46 := Tryz.zeroValue259
  t53 := Tryz.underlying303
  a53 := Tryz.isAgg303
  z53 := Tryz.sizeOf303
  v53 := Tryz.zeroValue303 }
open Go.RowKit Go.Lib in
theorem Tryz.bits_Mul64 (x y : Nat) (hx : x < 18446744073709551616) (hy : y < 18446744073709551616) (w : World) :
    Calls Tryz.prog 282 #[.int .u64 x, .int .u64 y] w fun e w' => e = .returned (.tuple #[.int .u64 ((x * y / 18446744073709551616 : Nat) : Int), .int .u64 ((x * y % 18446744073709551616 : Nat) : Int)]) ∧ w' = w := Any.bits_Mul64 Tryz.lays264 x y hx hy w
def Tryz.sort118_ren : Go.Shelf.Ren := ⟨fun | 6 => 118 | 15 => 173 | 14 => 172 | 28 => 223 | 29 => 224 | 20 => 215 | 21 => 216 | 22 => 217 | 23 => 218 | 24 => 219 | 25 => 220 | 26 => 221 | 27 => 222 | 46 => 247 | 47 => 248 | 48 => 249 | 49 => 250 | 50 => 251 | 57 => 269 | n => n, fun | 22 => 93 | 24 => 45 | 25 => 145 | 3 => 3 | 39 => 259 | 0 => 0 | 53 => 301 | 55 => 303 | 4 => 4 | 46 => 295 | 45 => 294 | 50 => 218 | 5 => 5 | 9 => 9 | 66 => 320 | 70 => 324 | 76 => 337 | 77 => 168 | n => n, fun | n => n⟩
theorem Tryz.sort118 : Go.Proofs.SlLaysF0.n6 Tryz.prog Tryz.sort118_ren := {
  mixed := by kernel_rfl
  f6 := ⟨Tryz.f118.name, by decide, Tryz.func118.trans (congrArg some (by kernel_rfl))⟩
  f14 := ⟨Tryz.f172.name, by decide, Tryz.func172.trans (congrArg some (by kernel_rfl))⟩
  f15 := Tryz.func173.trans (congrArg some (by kernel_rfl))
  f20 := ⟨Tryz.f215.name, by decide, Tryz.func215.trans (congrArg some (by kernel_rfl))⟩
  f21 := ⟨Tryz.f216.name, by decide, Tryz.func216.trans (congrArg some (by kernel_rfl))⟩
  f22 := ⟨Tryz.f217.name, by decide, Tryz.func217.trans (congrArg some (by kernel_rfl))⟩
  f23 := ⟨Tryz.f218.name, by decide, Tryz.func218.trans (congrArg some (by kernel_rfl))⟩
  f24 := ⟨Tryz.f219.name, by decide, Tryz.func219.trans (congrArg some (by kernel_rfl))⟩
  f25 := ⟨Tryz.f220.name, by decide, Tryz.func220.trans (congrArg some (by kernel_rfl))⟩
  f26 := ⟨Tryz.f221.name, by decide, Tryz.func221.trans (congrArg some (by kernel_rfl))⟩
  f27 := ⟨Tryz.f222.name, by decide, Tryz.func222.trans (congrArg some (by kernel_rfl))⟩
  f28 := Tryz.func223.trans (congrArg some (by kernel_rfl))
  f29 := Tryz.func224.trans (congrArg some (by kernel_rfl))
  f46 := ⟨Tryz.f247.name, by decide, Tryz.func247.trans (congrArg some (by kernel_rfl))⟩
  f47 := Tryz.func248.trans (congrArg some (by kernel_rfl))
  f48 := Tryz.func249.trans (congrArg some (by kernel_rfl))
  f49 := ⟨Tryz.f250.name, by decide, Tryz.func250.trans (congrArg some (by kernel_rfl))⟩
  f50 := ⟨Tryz.f251.name, by decide, Tryz.func251.trans (congrArg some (by kernel_rfl))⟩
  f57 := ⟨Tryz.f269.name, by decide, Tryz.func269.trans (congrArg some (by kernel_rfl))⟩
  t0 := Tryz.underlying0
  a0 := Tryz.isAgg0
  z0 := Tryz.sizeOf0
  v0 := Tryz.zeroValue0
  t3 := Tryz.underlying3
  a3 := Tryz.isAgg3
  z3 := Tryz.sizeOf3
  v3 := Tryz.zeroValue3
  t4 := Tryz.underlying4
  a4 := Tryz.isAgg4
  z4 := Tryz.sizeOf4
  v4 := Tryz.zeroValue4
  t5 := Tryz.underlying5
  a5 := Tryz.isAgg5
  z5 := Tryz.sizeOf5
  v5 := Tryz.zeroValue5
  t9 := Tryz.underlying9
  a9 := Tryz.isAgg9
  z9 := Tryz.sizeOf9
  v9 := Tryz.zeroValue9
  t22 := Tryz.underlying93
  a22 := Tryz.isAgg93
  z22 := Tryz.sizeOf93
  v22 := Tryz.zeroValue93
  t25 := Tryz.underlying145
  a25 := Tryz.isAgg145
  z25 := Tryz.sizeOf145
  v25 := Tryz.zeroValue145
  t39 := Tryz.underlying259
  a39 := Tryz.isAgg259
  z39 := Tryz.sizeOf259
  v39 := Tryz.zeroValue259
  t45 := Tryz.underlying294
  a45 := Tryz.isAgg294
  z45 := Tryz.sizeOf294
  v45 := Tryz.zeroValue294
  t46 := Tryz.underlying295
  a46 := Tryz.isAgg295
  z46 := Tryz.sizeOf295
  v46 := Tryz.zeroValue295
  t50 := Tryz.underlying218
  a50 := Tryz.isAgg218
  z50 := Tryz.sizeOf218
  v50 := Tryz.zeroValue218
  t53 := Tryz.underlying301
  a53 := Tryz.isAgg301
  z53 := Tryz.sizeOf301
  v53 := Tryz.zeroValue301
  t55 := Tryz.underlying303
  a55 := Tryz.isAgg303
  z55 := Tryz.sizeOf303
  v55 := Tryz.zeroValue303
  t66 := Tryz.underlying320
  a66 := Tryz.isAgg320
  z66 := Tryz.sizeOf320
  v66 := Tryz.zeroValue320
  t70 := Tryz.underlying324
  a70 := Tryz.isAgg324
  z70 := Tryz.sizeOf324
  v70 := Tryz.zeroValue324
  t76 := Tryz.underlying337
  a76 := Tryz.isAgg337
  z76 := Tryz.sizeOf337
  v76 := Tryz.zeroValue337
  t77 := Tryz.underlying168
  a77 := Tryz.isAgg168
  z77 := Tryz.sizeOf168
  v77 := Tryz.zeroValue168 }
def Tryz.sort201_ren : Go.Shelf.Ren := ⟨fun | 6 => 201 | 15 => 173 | 14 => 245 | 28 => 223 | 29 => 224 | 20 => 261 | 21 => 262 | 22 => 263 | 23 => 264 | 24 => 265 | 25 => 266 | 26 => 267 | 27 => 268 | 46 => 277 | 47 => 248 | 48 => 249 | 49 => 278 | 50 => 279 | 57 => 284 | n => n, fun | 22 => 157 | 24 => 221 | 25 => 284 | 3 => 3 | 39 => 259 | 0 => 0 | 53 => 301 | 55 => 303 | 4 => 4 | 46 => 295 | 45 => 294 | 50 => 218 | 5 => 5 | 9 => 9 | 66 => 320 | 70 => 324 | 76 => 337 | 77 => 168 | n => n, fun | n => n⟩
theorem Tryz.sort201 : Go.Proofs.SlLaysF0.n6 Tryz.prog Tryz.sort201_ren := {
  mixed := by kernel_rfl
  f6 := ⟨Tryz.f201.name, by decide, Tryz.func201.trans (congrArg some (by kernel_rfl))⟩
  f14 := ⟨Tryz.f245.name, by decide, Tryz.func245.trans (congrArg some (by kernel_rfl))⟩
  f15 := Tryz.func173.trans (congrArg some (by kernel_rfl))
  f20 := ⟨Tryz.f261.name, by decide, Tryz.func261.trans (congrArg some (by kernel_rfl))⟩
  f21 := ⟨Tryz.f262.name, by decide, Tryz.func262.trans (congrArg some (by kernel_rfl))⟩
  f22 := ⟨Tryz.f263.name, by decide, Tryz.func263.trans (congrArg some (by kernel_rfl))⟩
  f23 := ⟨Tryz.f264.name, by decide, Tryz.func264.trans (congrArg some (by kernel_rfl))⟩
  f24 := ⟨Tryz.f265.name, by decide, Tryz.func265.trans (congrArg some (by kernel_rfl))⟩
  f25 := ⟨Tryz.f266.name, by decide, Tryz.func266.trans (congrArg some (by kernel_rfl))⟩
  f26 := ⟨Tryz.f267.name, by decide, Tryz.func267.trans (congrArg some (by kernel_rfl))⟩
  f27 := ⟨Tryz.f268.name, by decide, Tryz.func268.trans (congrArg some (by kernel_rfl))⟩
  f28 := Tryz.func223.trans (congrArg some (by kernel_rfl))
  f29 := Tryz.func224.trans (congrArg some (by kernel_rfl))
  f46 := ⟨Tryz.f277.name, by decide, Tryz.func277.trans (congrArg some (by kernel_rfl))⟩
  f47 := Tryz.func248.trans (congrArg some (by kernel_rfl))
  f48 := Tryz.func249.trans (congrArg some (by kernel_rfl))
  f49 := ⟨Tryz.f278.name, by decide, Tryz.func278.trans (congrArg some (by kernel_rfl))⟩
  f50 := ⟨Tryz.f279.name, by decide, Tryz.func279.trans (congrArg some (by kernel_rfl))⟩
  f57 := ⟨Tryz.f284.name, by decide, Tryz.func284.trans (congrArg some (by kernel_rfl))⟩
  t0 := Tryz.underlying0
  a0 := Tryz.isAgg0
  z0 := Tryz.sizeOf0
  v0 := Tryz.zeroValue0
  t3 := Tryz.underlying3
  a3 := Tryz.isAgg3
  z3 := Tryz.sizeOf3
  v3 := Tryz.zeroValue3
  t4 := Tryz.underlying4
  a4 := Tryz.isAgg4
  z4 := Tryz.sizeOf4
  v4 := Tryz.zeroValue4
  t5 := Tryz.underlying5
  a5 := Tryz.isAgg5
  z5 := Tryz.sizeOf5
  v5 := Tryz.zeroValue5
  t9 := Tryz.underlying9
  a9 := Tryz.isAgg9
  z9 := Tryz.sizeOf9
  v9 := Tryz.zeroValue9
  t22 := Tryz.underlying157
  a22 := Tryz.isAgg157
  z22 := Tryz.sizeOf157
  v22 := Tryz.zeroValue157
  t25 := Tryz.underlying284
  a25 := Tryz.isAgg284
  z25 := Tryz.sizeOf284
  v25 := Tryz.zeroValue284
  t39 := Tryz.underlying259
  a39 := Tryz.isAgg259
  z39 := Tryz.sizeOf259
  v39 := Tryz.zeroValue259
  t45 := Tryz.underlying294
  a45 := Tryz.isAgg294
  z45 := Tryz.sizeOf294
  v45 := Tryz.zeroValue294
  t46 := Tryz.underlying295
  a46 := Tryz.isAgg295
  z46 := Tryz.sizeOf295
  v46 := Tryz.zeroValue295
  t50 := Tryz.underlying218
  a50 := Tryz.isAgg218
  z50 := Tryz.sizeOf218
  v50 := Tryz.zeroValue218
  t53 := Tryz.underlying301
  a53 := Tryz.isAgg301
  z53 := Tryz.sizeOf301
  v53 := Tryz.zeroValue301
  t55 := Tryz.underlying303
  a55 := Tryz.isAgg303
  z55 := Tryz.sizeOf303
  v55 := Tryz.zeroValue303
  t66 := Tryz.underlying320
  a66 := Tryz.isAgg320
  z66 := Tryz.sizeOf320
  v66 := Tryz.zeroValue320
  t70 := Tryz.underlying324
  a70 := Tryz.isAgg324
  z70 := Tryz.sizeOf324
  v70 := Tryz.zeroValue324
  t76 := Tryz.underlying337
  a76 := Tryz.isAgg337
  z76 := Tryz.sizeOf337
  v76 := Tryz.zeroValue337
  t77 := Tryz.underlying168
  a77 := Tryz.isAgg168
  z77 := Tryz.sizeOf168
  v77 := Tryz.zeroValue168 }
end Go.Proofs
