/-
  DERIVED: THE SHELF's CONTRACTS AT THIS DUMP, IN PLAIN WORDS (tools/lay-plain.mjs out of 'TryShelf.lean', which tools/lay-shelf.mjs wrote): THE SAME DECLARATIONS UNDER THE SAME NAMES: 'import', 'namespace', 'open', 'def', 'theorem' AND NOTHING ELSE: no command of the shelf's: FOR A HAND-IN. Each laying: the table of numbers ('.._ren') and one theorem, a field a fact of the dump's own or the kernel's comparison; each contract: ONE APPLICATION.
-/
import Derived.Shelf.Small.Bits
import Derived.Shelf.Small.Wraps
import Derived.Shelf.Strconv.Itoa0
import Derived.Ground.Names2Prog
import Derived.Shelf.Slices.SearchI
import Derived.Ground.SlsfProg
import Derived.Shelf.SlSortCmp.Insertion
import Derived.Shelf.SlSortCmp.SiftDown1
import Derived.Shelf.SlSortCmp.HeapSort1
import Derived.Shelf.SlSortCmp.Insertion1
import Derived.Shelf.SlSortCmp.Median1
import Derived.Shelf.SlSortCmp.Pivot1
import Derived.Shelf.SlSortCmp.ReverseRange1
import Derived.Shelf.SlSortCmp.PartialInsertion1
import Derived.Shelf.SlSortCmp.PartitionEqual1
import Derived.Shelf.SlSortCmp.Partition1
import Derived.Shelf.SlSortCmp.Pdq1
import Derived.Shelf.SlSortCmp.Whole1
import Derived.Shelf.SlSortCmp.NoneTotal
import Derived.Test.YtiplibgnfcdlkaaProg
namespace Go.Proofs
open Go.Shelf
def Try.lays128_ren : Go.Shelf.Ren := ⟨fun | 128 => 106 | n => n, fun | 51 => 106 | 3 => 3 | 4 => 4 | 46 => 84 | 5 => 5 | 9 => 9 | n => n, fun | n => n⟩
theorem Try.lays128 : Go.Proofs.Lays.n128 Try.prog Try.lays128_ren := {
  mixed := by kernel_rfl
  f128 := Try.func106.trans (congrArg some (by kernel_rfl))
  t3 := Try.underlying3
  a3 := Try.isAgg3
  z3 := Try.sizeOf3
  v3 := Try.zeroValue3
  t4 := Try.underlying4
  a4 := Try.isAgg4
  z4 := Try.sizeOf4
  v4 := Try.zeroValue4
  t5 := Try.underlying5
  a5 := Try.isAgg5
  z5 := Try.sizeOf5
  v5 := Try.zeroValue5
  t9 := Try.underlying9
  a9 := Try.isAgg9
  z9 := Try.sizeOf9
  v9 := Try.zeroValue9
  t46 := Try.underlying84
  a46 := Try.isAgg84
  z46 := Try.sizeOf84
  v46 := Try.zeroValue84
  t51 := Try.underlying106
  a51 := Try.isAgg106
  z51 := Try.sizeOf106
  v51 := Try.zeroValue106 }
/-- bits.Len32: "Len32 returns the minimum number of bits required to represent x; the result is 0 for x == 0.": IT RETURNS 'Lib.bitLen x'; the world is as it was. ('h0', 'h1': x is a uint32.) (LAID: no walk: one application.) -/
theorem Try.bits_Len32 (x : Int) (w : World) (h0 : 0 ≤ x) (h1 : x ≤ 4294967295) :
    Calls Try.prog 106 #[.int .u32 x] w fun e w' => e = .returned (.int .i64 (Lib.bitLen x.toNat)) ∧ w' = w := Any.bits_Len32 Try.lays128 x w h0 h1
def Try.lays125_ren : Go.Shelf.Ren := ⟨fun | 125 => 86 | 128 => 106 | 129 => 107 | n => n, fun | 46 => 84 | 3 => 3 | 51 => 106 | 53 => 108 | 4 => 4 | 5 => 5 | 9 => 9 | n => n, fun | n => n⟩
theorem Try.lays125 : Go.Proofs.Lays.n125 Try.prog Try.lays125_ren := {
  mixed := by kernel_rfl
  f125 := Try.func86.trans (congrArg some (by kernel_rfl))
  f128 := Try.func106.trans (congrArg some (by kernel_rfl))
  f129 := Try.func107.trans (congrArg some (by kernel_rfl))
  t3 := Try.underlying3
  a3 := Try.isAgg3
  z3 := Try.sizeOf3
  v3 := Try.zeroValue3
  t4 := Try.underlying4
  a4 := Try.isAgg4
  z4 := Try.sizeOf4
  v4 := Try.zeroValue4
  t5 := Try.underlying5
  a5 := Try.isAgg5
  z5 := Try.sizeOf5
  v5 := Try.zeroValue5
  t9 := Try.underlying9
  a9 := Try.isAgg9
  z9 := Try.sizeOf9
  v9 := Try.zeroValue9
  t46 := Try.underlying84
  a46 := Try.isAgg84
  z46 := Try.sizeOf84
  v46 := Try.zeroValue84
  t51 := Try.underlying106
  a51 := Try.isAgg106
  z51 := Try.sizeOf106
  v51 := Try.zeroValue106
  t53 := Try.underlying108
  a53 := Try.isAgg108
  z53 := Try.sizeOf108
  v53 := Try.zeroValue108 }
/-- bits.Len: "Len returns the minimum number of bits required to represent x; the result is 0 for x == 0.": IT RETURNS 'Lib.bitLen x'; the world is as it was. (A uint has 64 bits in the model.) ITS CALLEE bits.Len64 IS MET BY ITS OWN CONTRACT OFF THE SHELF (lay that first). (LAID: no walk: one application.) -/
theorem Try.bits_Len (x : Int) (w : World) (h0 : 0 ≤ x) (h1 : x ≤ 18446744073709551615) :
    Calls Try.prog 86 #[.int .u64 x] w fun e w' => e = .returned (.int .i64 (Lib.bitLen x.toNat)) ∧ w' = w := Any.bits_Len Try.lays125 x w h0 h1
def Try.lays215_ren : Go.Shelf.Ren := ⟨fun | 215 => 87 | n => n, fun | 3 => 3 | 4 => 4 | n => n, fun | n => n⟩
theorem Try.lays215 : Go.Proofs.Lays.n215 Try.prog Try.lays215_ren := {
  mixed := by kernel_rfl
  f215 := Try.func87.trans (congrArg some (by kernel_rfl))
  t3 := Try.underlying3
  a3 := Try.isAgg3
  z3 := Try.sizeOf3
  v3 := Try.zeroValue3
  t4 := Try.underlying4
  a4 := Try.isAgg4
  z4 := Try.sizeOf4
  v4 := Try.zeroValue4 }
open Go.RowKit in
/-- cmp.isNaN at int: 'x != x': false. (LAID: no walk: one application.) -/
theorem Try.cmp_isNaN_int (x : Int) (w : World) :
    Calls Try.prog 87 #[.int .i64 x] w fun e w' => e = .returned (.bool false) ∧ w' = w := Any.cmp_isNaN_int Try.lays215 x w
def Try.lays122_ren : Go.Shelf.Ren := ⟨fun | 122 => 61 | 215 => 87 | n => n, fun | 3 => 3 | 4 => 4 | n => n, fun | n => n⟩
theorem Try.lays122 : Go.Proofs.Lays.n122 Try.prog Try.lays122_ren := {
  mixed := by kernel_rfl
  f122 := Try.func61.trans (congrArg some (by kernel_rfl))
  f215 := Try.func87.trans (congrArg some (by kernel_rfl))
  t3 := Try.underlying3
  a3 := Try.isAgg3
  z3 := Try.sizeOf3
  v3 := Try.zeroValue3
  t4 := Try.underlying4
  a4 := Try.isAgg4
  z4 := Try.sizeOf4
  v4 := Try.zeroValue4 }
open Go.RowKit in
/-- cmp.Compare at int: "Compare returns -1 if x is less than y, 0 if x equals y, +1 if x is greater than y.": IT RETURNS 'Lib.compareInt x y'; the world is as it was. (LAID: no walk: one application.) -/
theorem Try.cmp_Compare_int (x y : Int) (w : World) :
    Calls Try.prog 61 #[.int .i64 x, .int .i64 y] w fun e w' => e = .returned (.int .i64 (Lib.compareInt x y)) ∧ w' = w := Any.cmp_Compare_int Try.lays122 x y w
def Try.lays129_ren : Go.Shelf.Ren := ⟨fun | 129 => 107 | n => n, fun | 53 => 108 | 3 => 3 | 4 => 4 | 46 => 84 | 5 => 5 | 9 => 9 | n => n, fun | n => n⟩
theorem Try.lays129 : Go.Proofs.Lays.n129 Try.prog Try.lays129_ren := {
  mixed := by kernel_rfl
  f129 := Try.func107.trans (congrArg some (by kernel_rfl))
  t3 := Try.underlying3
  a3 := Try.isAgg3
  z3 := Try.sizeOf3
  v3 := Try.zeroValue3
  t4 := Try.underlying4
  a4 := Try.isAgg4
  z4 := Try.sizeOf4
  v4 := Try.zeroValue4
  t5 := Try.underlying5
  a5 := Try.isAgg5
  z5 := Try.sizeOf5
  v5 := Try.zeroValue5
  t9 := Try.underlying9
  a9 := Try.isAgg9
  z9 := Try.sizeOf9
  v9 := Try.zeroValue9
  t46 := Try.underlying84
  a46 := Try.isAgg84
  z46 := Try.sizeOf84
  v46 := Try.zeroValue84
  t53 := Try.underlying108
  a53 := Try.isAgg108
  z53 := Try.sizeOf108
  v53 := Try.zeroValue108 }
/-- bits.Len64: "Len64 returns the minimum number of bits required to represent x; the result is 0 for x == 0.": IT RETURNS 'Lib.bitLen x'; the world is as it was. ('h0', 'h1': x is a uint64.) (LAID: no walk: one application.) -/
theorem Try.bits_Len64 (x : Int) (w : World) (h0 : 0 ≤ x) (h1 : x ≤ 18446744073709551615) :
    Calls Try.prog 107 #[.int .u64 x] w fun e w' => e = .returned (.int .i64 (Lib.bitLen x.toNat)) ∧ w' = w := Any.bits_Len64 Try.lays129 x w h0 h1
def Try.laysNm237_ren : Go.Shelf.Ren := ⟨fun | 37 => 87 | n => n, fun | 3 => 3 | 4 => 4 | n => n, fun | n => n⟩
theorem Try.laysNm237 : Go.Proofs.Lays2.n37 Try.prog Try.laysNm237_ren := {
  mixed := by kernel_rfl
  f37 := Try.func87.trans (congrArg some (by kernel_rfl))
  t3 := Try.underlying3
  a3 := Try.isAgg3
  z3 := Try.sizeOf3
  v3 := Try.zeroValue3
  t4 := Try.underlying4
  a4 := Try.isAgg4
  z4 := Try.sizeOf4
  v4 := Try.zeroValue4 }
open Go.RowKit Go.Lib in
/-- cmp.isNaN[int]: 'x != x': false. (LAID: no walk: one application.) -/
theorem Try.cmp_isNaN_int2 (x : Int) (w : World) :
    Calls Try.prog 87 #[.int .i64 x] w fun e w' => e = .returned (.bool false) ∧ w' = w := Any.cmp_isNaN_int2 Try.laysNm237 x w
def Try.laysSlF20_f98_ren : Go.Shelf.Ren := ⟨fun | 20 => 98 | n => n, fun | 24 => 3 | 22 => 25 | 3 => 3 | 25 => 66 | 4 => 4 | 0 => 0 | n => n, fun | n => n⟩
theorem Try.laysSlF20_f98 : Go.Proofs.SlLaysF.n20 Try.prog Try.laysSlF20_f98_ren := {
  mixed := by kernel_rfl
  f20 := ⟨Try.f98.name, by decide, Try.func98.trans (congrArg some (by kernel_rfl))⟩
  t0 := Try.underlying0
  a0 := Try.isAgg0
  z0 := Try.sizeOf0
  v0 := Try.zeroValue0
  t3 := Try.underlying3
  a3 := Try.isAgg3
  z3 := Try.sizeOf3
  v3 := Try.zeroValue3
  t4 := Try.underlying4
  a4 := Try.isAgg4
  z4 := Try.sizeOf4
  v4 := Try.zeroValue4
  t22 := Try.underlying25
  a22 := Try.isAgg25
  z22 := Try.sizeOf25
  v22 := Try.zeroValue25
  a24 := Try.isAgg3
  z24 := Try.sizeOf3
  t25 := Try.underlying66
  a25 := Try.isAgg66
  z25 := Try.sizeOf66
  v25 := Try.zeroValue66 }
open Go.RowKit Go.Lib Go.Sort in
theorem Try.insertionSortCmpFunc_one {α : Type} [Inhabited α] (enc : α → Value) (hO : OneCell enc) (cf : α → α → Int) (g : Nat) (cb : Array Value) (blk off cap a b : Nat) (d : Array α) (w : World) (eg : ∀ args w, (callFunc g args).run Try.prog w = .ok (.enter g args) w) (hcmp : CmpReads Try.prog g cb enc cf blk off d.size w) (hH : Holds enc w blk off d) (hab : a ≤ b) (hb : b ≤ d.size) (hsz : d.size < 4611686018427387904) :
    Calls Try.prog 98 #[.slice (some ⟨blk, off, none⟩) d.size cap, .int .i64 a, .int .i64 b, .func (.func g) #[] cb] w fun e w' =>
      e = .returned (.tuple #[]) ∧ ∃ n, w' = (putRow enc w blk off (Sort.insertionSort (ltOf cf) d a b)).drewN n := Any.insertionSortCmpFunc_one Try.laysSlF20_f98 enc hO cf g cb blk off cap a b d w eg hcmp hH hab hb hsz
def Try.laysSlF46_f108_ren : Go.Shelf.Ren := ⟨fun | 46 => 108 | n => n, fun | 24 => 3 | 22 => 25 | 3 => 3 | 25 => 66 | 4 => 4 | 0 => 0 | n => n, fun | n => n⟩
theorem Try.laysSlF46_f108 : Go.Proofs.SlLaysF.n46 Try.prog Try.laysSlF46_f108_ren := {
  mixed := by kernel_rfl
  f46 := ⟨Try.f108.name, by decide, Try.func108.trans (congrArg some (by kernel_rfl))⟩
  t0 := Try.underlying0
  a0 := Try.isAgg0
  z0 := Try.sizeOf0
  v0 := Try.zeroValue0
  t3 := Try.underlying3
  a3 := Try.isAgg3
  z3 := Try.sizeOf3
  v3 := Try.zeroValue3
  t4 := Try.underlying4
  a4 := Try.isAgg4
  z4 := Try.sizeOf4
  v4 := Try.zeroValue4
  t22 := Try.underlying25
  a22 := Try.isAgg25
  z22 := Try.sizeOf25
  v22 := Try.zeroValue25
  a24 := Try.isAgg3
  z24 := Try.sizeOf3
  t25 := Try.underlying66
  a25 := Try.isAgg66
  z25 := Try.sizeOf66
  v25 := Try.zeroValue66 }
open Go.RowKit Go.Lib Go.Sort in
/-- slices.siftDownCmpFunc at elements of one cell: from a world of the sort's to a world of the sort's. (LAID AT THE INSTANCE 'slices.siftDownCmpFunc[int]': no walk: one application.) -/
theorem Try.siftDownCmpFunc {α : Type} [Inhabited α] (enc : α → Value) (cf : α → α → Int) (g : Nat) (cb : Array Value) (blk off cap lo hi first : Nat) (d0 d : Array α) (w0 w : World) (eg : ∀ args w, (callFunc g args).run Try.prog w = .ok (.enter g args) w) (hcmp : CmpLays1 Try.prog g cb enc cf blk off d0.size w0) (R : Row1 enc w0 blk off d0) (hs : d0.size = d.size) (S : SW enc w0 blk off d w) (hlo : lo ≤ hi) (hb : first + hi ≤ d.size) (hsz : d.size < 4611686018427387904) :
    Calls Try.prog 108 #[.slice (some ⟨blk, off, none⟩) d.size cap, .int .i64 lo, .int .i64 hi, .int .i64 first, .func (.func g) #[] cb] w fun e w' =>
      e = .returned (.tuple #[]) ∧ SW enc w0 blk off (siftDown (ltOf cf) hi first lo d) w' := Any.siftDownCmpFunc Try.laysSlF46_f108 enc cf g cb blk off cap lo hi first d0 d w0 w eg hcmp R hs S hlo hb hsz
def Try.laysSlF21_f99_ren : Go.Shelf.Ren := ⟨fun | 21 => 99 | 46 => 108 | n => n, fun | 24 => 3 | 22 => 25 | 3 => 3 | 25 => 66 | 4 => 4 | 0 => 0 | n => n, fun | n => n⟩
theorem Try.laysSlF21_f99 : Go.Proofs.SlLaysF.n21 Try.prog Try.laysSlF21_f99_ren := {
  mixed := by kernel_rfl
  f21 := ⟨Try.f99.name, by decide, Try.func99.trans (congrArg some (by kernel_rfl))⟩
  f46 := ⟨Try.f108.name, by decide, Try.func108.trans (congrArg some (by kernel_rfl))⟩
  t0 := Try.underlying0
  a0 := Try.isAgg0
  z0 := Try.sizeOf0
  v0 := Try.zeroValue0
  t3 := Try.underlying3
  a3 := Try.isAgg3
  z3 := Try.sizeOf3
  v3 := Try.zeroValue3
  t4 := Try.underlying4
  a4 := Try.isAgg4
  z4 := Try.sizeOf4
  v4 := Try.zeroValue4
  t22 := Try.underlying25
  a22 := Try.isAgg25
  z22 := Try.sizeOf25
  v22 := Try.zeroValue25
  a24 := Try.isAgg3
  z24 := Try.sizeOf3
  t25 := Try.underlying66
  a25 := Try.isAgg66
  z25 := Try.sizeOf66
  v25 := Try.zeroValue66 }
open Go.RowKit Go.Lib Go.Sort in
/-- slices.heapSortCmpFunc at elements of one cell. (LAID AT THE INSTANCE 'slices.heapSortCmpFunc[int]': no walk: one application.) -/
theorem Try.heapSortCmpFunc {α : Type} [Inhabited α] (enc : α → Value) (cf : α → α → Int) (g : Nat) (cb : Array Value) (blk off cap a b : Nat) (d0 d : Array α) (w0 w : World) (eg : ∀ args w, (callFunc g args).run Try.prog w = .ok (.enter g args) w) (hcmp : CmpLays1 Try.prog g cb enc cf blk off d0.size w0) (R : Row1 enc w0 blk off d0) (hs : d0.size = d.size) (S : SW enc w0 blk off d w) (hab : a ≤ b) (hb : b ≤ d.size) (hsz : d.size < 4611686018427387904) :
    Calls Try.prog 99 #[.slice (some ⟨blk, off, none⟩) d.size cap, .int .i64 a, .int .i64 b, .func (.func g) #[] cb] w fun e w' =>
      e = .returned (.tuple #[]) ∧ SW enc w0 blk off (heapSort (ltOf cf) d a b) w' := Any.heapSortCmpFunc Try.laysSlF21_f99 enc cf g cb blk off cap a b d0 d w0 w eg hcmp R hs S hab hb hsz
open Go.RowKit Go.Lib Go.Sort in
/-- slices.insertionSortCmpFunc at elements of one cell: from a world of the sort's to a world of the sort's. (LAID AT THE INSTANCE 'slices.insertionSortCmpFunc[int]': no walk: one application.) -/
theorem Try.insertionSortCmpFunc_s {α : Type} [Inhabited α] (enc : α → Value) (cf : α → α → Int) (g : Nat) (cb : Array Value) (blk off cap a b : Nat) (d0 d : Array α) (w0 w : World) (eg : ∀ args w, (callFunc g args).run Try.prog w = .ok (.enter g args) w) (hcmp : CmpLays1 Try.prog g cb enc cf blk off d0.size w0) (R : Row1 enc w0 blk off d0) (hs : d0.size = d.size) (S : SW enc w0 blk off d w) (hab : a ≤ b) (hb : b ≤ d.size) (hsz : d.size < 4611686018427387904) :
    Calls Try.prog 98 #[.slice (some ⟨blk, off, none⟩) d.size cap, .int .i64 a, .int .i64 b, .func (.func g) #[] cb] w fun e w' => e = .returned (.tuple #[]) ∧ SW enc w0 blk off (Sort.insertionSort (ltOf cf) d a b) w' := Any.insertionSortCmpFunc_s Try.laysSlF20_f98 enc cf g cb blk off cap a b d0 d w0 w eg hcmp R hs S hab hb hsz
def Try.laysSlF57_f113_ren : Go.Shelf.Ren := ⟨fun | 57 => 113 | n => n, fun | 24 => 3 | 22 => 25 | 3 => 3 | 70 => 123 | 25 => 66 | 0 => 0 | 4 => 4 | n => n, fun | n => n⟩
theorem Try.laysSlF57_f113 : Go.Proofs.SlLaysF.n57 Try.prog Try.laysSlF57_f113_ren := {
  mixed := by kernel_rfl
  f57 := ⟨Try.f113.name, by decide, Try.func113.trans (congrArg some (by kernel_rfl))⟩
  t0 := Try.underlying0
  a0 := Try.isAgg0
  z0 := Try.sizeOf0
  v0 := Try.zeroValue0
  t3 := Try.underlying3
  a3 := Try.isAgg3
  z3 := Try.sizeOf3
  v3 := Try.zeroValue3
  t4 := Try.underlying4
  a4 := Try.isAgg4
  z4 := Try.sizeOf4
  v4 := Try.zeroValue4
  t22 := Try.underlying25
  a22 := Try.isAgg25
  z22 := Try.sizeOf25
  v22 := Try.zeroValue25
  a24 := Try.isAgg3
  z24 := Try.sizeOf3
  t25 := Try.underlying66
  a25 := Try.isAgg66
  z25 := Try.sizeOf66
  v25 := Try.zeroValue66
  t70 := Try.underlying123
  a70 := Try.isAgg123
  z70 := Try.sizeOf123
  v70 := Try.zeroValue123 }
open Go.RowKit Go.Lib Go.Sort in
/-- slices.order2CmpFunc at elements of one cell. (LAID AT THE INSTANCE 'slices.order2CmpFunc[int]': no walk: one application.) -/
theorem Try.order2CmpFunc {α : Type} [Inhabited α] (enc : α → Value) (cf : α → α → Int) (g : Nat) (cb : Array Value) (blk off cap a b c s : Nat) (d0 d : Array α) (w0 W : World) (eg : ∀ args w, (callFunc g args).run Try.prog w = .ok (.enter g args) w) (hcmp : CmpLays1 Try.prog g cb enc cf blk off d0.size w0) (R : Row1 enc w0 blk off d0) (hs : d0.size = d.size) (C : Cnt1 enc w0 blk off d c s W) (ha : a < d.size) (hb : b < d.size) (hsz : d.size < 4611686018427387904) (hss : s < 4611686018427387904) :
    Calls Try.prog 113 #[.slice (some ⟨blk, off, none⟩) d.size cap, .int .i64 a, .int .i64 b, .pointer (some ⟨c, 0, none⟩), .func (.func g) #[] cb] W fun e w' =>
      e = .returned (.tuple #[.int .i64 (order2 (ltOf cf) d a b s).1, .int .i64 (order2 (ltOf cf) d a b s).2.1]) ∧ Cnt1 enc w0 blk off d c (order2 (ltOf cf) d a b s).2.2 w' := Any.order2CmpFunc Try.laysSlF57_f113 enc cf g cb blk off cap a b c s d0 d w0 W eg hcmp R hs C ha hb hsz hss
def Try.laysSlF50_f112_ren : Go.Shelf.Ren := ⟨fun | 50 => 112 | 57 => 113 | n => n, fun | 24 => 3 | 22 => 25 | 3 => 3 | 70 => 123 | 25 => 66 | 77 => 95 | 0 => 0 | 4 => 4 | n => n, fun | n => n⟩
theorem Try.laysSlF50_f112 : Go.Proofs.SlLaysF.n50 Try.prog Try.laysSlF50_f112_ren := {
  mixed := by kernel_rfl
  f50 := ⟨Try.f112.name, by decide, Try.func112.trans (congrArg some (by kernel_rfl))⟩
  f57 := ⟨Try.f113.name, by decide, Try.func113.trans (congrArg some (by kernel_rfl))⟩
  t0 := Try.underlying0
  a0 := Try.isAgg0
  z0 := Try.sizeOf0
  v0 := Try.zeroValue0
  t3 := Try.underlying3
  a3 := Try.isAgg3
  z3 := Try.sizeOf3
  v3 := Try.zeroValue3
  t4 := Try.underlying4
  a4 := Try.isAgg4
  z4 := Try.sizeOf4
  v4 := Try.zeroValue4
  t22 := Try.underlying25
  a22 := Try.isAgg25
  z22 := Try.sizeOf25
  v22 := Try.zeroValue25
  a24 := Try.isAgg3
  z24 := Try.sizeOf3
  t25 := Try.underlying66
  a25 := Try.isAgg66
  z25 := Try.sizeOf66
  v25 := Try.zeroValue66
  t70 := Try.underlying123
  a70 := Try.isAgg123
  z70 := Try.sizeOf123
  v70 := Try.zeroValue123
  t77 := Try.underlying95
  a77 := Try.isAgg95
  z77 := Try.sizeOf95
  v77 := Try.zeroValue95 }
open Go.RowKit Go.Lib Go.Sort in
/-- slices.medianCmpFunc at elements of one cell. (LAID AT THE INSTANCE 'slices.medianCmpFunc[int]': no walk: one application.) -/
theorem Try.medianCmpFunc {α : Type} [Inhabited α] (enc : α → Value) (cf : α → α → Int) (g : Nat) (cb : Array Value) (blk off cap a b c' c s : Nat) (d0 d : Array α) (w0 W : World) (eg : ∀ args w, (callFunc g args).run Try.prog w = .ok (.enter g args) w) (hcmp : CmpLays1 Try.prog g cb enc cf blk off d0.size w0) (R : Row1 enc w0 blk off d0) (hs : d0.size = d.size) (C : Cnt1 enc w0 blk off d c s W) (ha : a < d.size) (hb : b < d.size) (hc : c' < d.size) (hsz : d.size < 4611686018427387904) (hss : s + 3 < 4611686018427387904) :
    Calls Try.prog 112 #[.slice (some ⟨blk, off, none⟩) d.size cap, .int .i64 a, .int .i64 b, .int .i64 c', .pointer (some ⟨c, 0, none⟩), .func (.func g) #[] cb] W fun e w' =>
      e = .returned (.int .i64 (median (ltOf cf) d a b c' s).1) ∧ Cnt1 enc w0 blk off d c (median (ltOf cf) d a b c' s).2 w' := Any.medianCmpFunc Try.laysSlF50_f112 enc cf g cb blk off cap a b c' c s d0 d w0 W eg hcmp R hs C ha hb hc hsz hss
def Try.laysSlF49_f111_ren : Go.Shelf.Ren := ⟨fun | 49 => 111 | 50 => 112 | 57 => 113 | n => n, fun | 24 => 3 | 22 => 25 | 3 => 3 | 70 => 123 | 25 => 66 | 77 => 95 | 0 => 0 | 4 => 4 | n => n, fun | n => n⟩
theorem Try.laysSlF49_f111 : Go.Proofs.SlLaysF.n49 Try.prog Try.laysSlF49_f111_ren := {
  mixed := by kernel_rfl
  f49 := ⟨Try.f111.name, by decide, Try.func111.trans (congrArg some (by kernel_rfl))⟩
  f50 := ⟨Try.f112.name, by decide, Try.func112.trans (congrArg some (by kernel_rfl))⟩
  f57 := ⟨Try.f113.name, by decide, Try.func113.trans (congrArg some (by kernel_rfl))⟩
  t0 := Try.underlying0
  a0 := Try.isAgg0
  z0 := Try.sizeOf0
  v0 := Try.zeroValue0
  t3 := Try.underlying3
  a3 := Try.isAgg3
  z3 := Try.sizeOf3
  v3 := Try.zeroValue3
  t4 := Try.underlying4
  a4 := Try.isAgg4
  z4 := Try.sizeOf4
  v4 := Try.zeroValue4
  t22 := Try.underlying25
  a22 := Try.isAgg25
  z22 := Try.sizeOf25
  v22 := Try.zeroValue25
  a24 := Try.isAgg3
  z24 := Try.sizeOf3
  t25 := Try.underlying66
  a25 := Try.isAgg66
  z25 := Try.sizeOf66
  v25 := Try.zeroValue66
  t70 := Try.underlying123
  a70 := Try.isAgg123
  z70 := Try.sizeOf123
  v70 := Try.zeroValue123
  t77 := Try.underlying95
  a77 := Try.isAgg95
  z77 := Try.sizeOf95
  v77 := Try.zeroValue95 }
open Go.RowKit Go.Lib Go.Sort in
/-- slices.medianAdjacentCmpFunc at elements of one cell. (LAID AT THE INSTANCE 'slices.medianAdjacentCmpFunc[int]': no walk: one application.) -/
theorem Try.medianAdjacentCmpFunc {α : Type} [Inhabited α] (enc : α → Value) (cf : α → α → Int) (g : Nat) (cb : Array Value) (blk off cap a c s : Nat) (d0 d : Array α) (w0 W : World) (eg : ∀ args w, (callFunc g args).run Try.prog w = .ok (.enter g args) w) (hcmp : CmpLays1 Try.prog g cb enc cf blk off d0.size w0) (R : Row1 enc w0 blk off d0) (hs : d0.size = d.size) (C : Cnt1 enc w0 blk off d c s W) (ha1 : 1 ≤ a) (ha2 : a + 1 < d.size) (hsz : d.size < 4611686018427387904) (hss : s + 3 < 4611686018427387904) :
    Calls Try.prog 111 #[.slice (some ⟨blk, off, none⟩) d.size cap, .int .i64 a, .pointer (some ⟨c, 0, none⟩), .func (.func g) #[] cb] W fun e w' =>
      e = .returned (.int .i64 (medianAdjacent (ltOf cf) d a s).1) ∧ Cnt1 enc w0 blk off d c (medianAdjacent (ltOf cf) d a s).2 w' := Any.medianAdjacentCmpFunc Try.laysSlF49_f111 enc cf g cb blk off cap a c s d0 d w0 W eg hcmp R hs C ha1 ha2 hsz hss
def Try.laysSlF23_f101_ren : Go.Shelf.Ren := ⟨fun | 23 => 101 | 49 => 111 | 50 => 112 | 57 => 113 | n => n, fun | 24 => 3 | 22 => 25 | 3 => 3 | 25 => 66 | 45 => 113 | 0 => 0 | 4 => 4 | 70 => 123 | 77 => 95 | n => n, fun | n => n⟩
theorem Try.laysSlF23_f101 : Go.Proofs.SlLaysF.n23 Try.prog Try.laysSlF23_f101_ren := {
  mixed := by kernel_rfl
  f23 := ⟨Try.f101.name, by decide, Try.func101.trans (congrArg some (by kernel_rfl))⟩
  f49 := ⟨Try.f111.name, by decide, Try.func111.trans (congrArg some (by kernel_rfl))⟩
  f50 := ⟨Try.f112.name, by decide, Try.func112.trans (congrArg some (by kernel_rfl))⟩
  f57 := ⟨Try.f113.name, by decide, Try.func113.trans (congrArg some (by kernel_rfl))⟩
  t0 := Try.underlying0
  a0 := Try.isAgg0
  z0 := Try.sizeOf0
  v0 := Try.zeroValue0
  t3 := Try.underlying3
  a3 := Try.isAgg3
  z3 := Try.sizeOf3
  v3 := Try.zeroValue3
  t4 := Try.underlying4
  a4 := Try.isAgg4
  z4 := Try.sizeOf4
  v4 := Try.zeroValue4
  t22 := Try.underlying25
  a22 := Try.isAgg25
  z22 := Try.sizeOf25
  v22 := Try.zeroValue25
  a24 := Try.isAgg3
  z24 := Try.sizeOf3
  t25 := Try.underlying66
  a25 := Try.isAgg66
  z25 := Try.sizeOf66
  v25 := Try.zeroValue66
  t45 := Try.underlying113
  a45 := Try.isAgg113
  z45 := Try.sizeOf113
  v45 := Try.zeroValue113
  t70 := Try.underlying123
  a70 := Try.isAgg123
  z70 := Try.sizeOf123
  v70 := Try.zeroValue123
  t77 := Try.underlying95
  a77 := Try.isAgg95
  z77 := Try.sizeOf95
  v77 := Try.zeroValue95 }
open Go.RowKit Go.Lib Go.Sort in
/-- slices.choosePivotCmpFunc at elements of one cell: THE LIBRARY's OWN TEXT COMPUTES 'Sort.choosePivot (ltOf cf) d a b'; the row is not turned. (After Derived/Shelf/SlSortFuncK/PivotK.lean, row for row; the counter's world by 'CntK'.) (LAID AT THE INSTANCE 'slices.choosePivotCmpFunc[int]': no walk: one application.) -/
theorem Try.choosePivotCmpFunc {α : Type} [Inhabited α] (enc : α → Value) (cf : α → α → Int) (g : Nat) (cb : Array Value) (blk off cap a b : Nat) (d0 d : Array α) (w0 W : World) (eg : ∀ args w, (callFunc g args).run Try.prog w = .ok (.enter g args) w) (hcmp : CmpLays1 Try.prog g cb enc cf blk off d0.size w0) (R : Row1 enc w0 blk off d0) (hs : d0.size = d.size) (S : SW enc w0 blk off d W) (hab : a < b) (hb : b ≤ d.size) (hsz : d.size < 4611686018427387904) :
    Calls Try.prog 101 #[.slice (some ⟨blk, off, none⟩) d.size cap, .int .i64 a, .int .i64 b, .func (.func g) #[] cb] W fun e w' =>
      e = .returned (.tuple #[.int .i64 (choosePivot (ltOf cf) d a b).1, .int .i64 (hintCode (choosePivot (ltOf cf) d a b).2)]) ∧ SW enc w0 blk off d w' := Any.choosePivotCmpFunc Try.laysSlF23_f101 enc cf g cb blk off cap a b d0 d w0 W eg hcmp R hs S hab hb hsz
def Try.laysSlF24_f102_ren : Go.Shelf.Ren := ⟨fun | 24 => 102 | n => n, fun | 24 => 3 | 22 => 25 | 3 => 3 | 25 => 66 | 4 => 4 | 0 => 0 | n => n, fun | n => n⟩
theorem Try.laysSlF24_f102 : Go.Proofs.SlLaysF.n24 Try.prog Try.laysSlF24_f102_ren := {
  mixed := by kernel_rfl
  f24 := ⟨Try.f102.name, by decide, Try.func102.trans (congrArg some (by kernel_rfl))⟩
  t0 := Try.underlying0
  a0 := Try.isAgg0
  z0 := Try.sizeOf0
  v0 := Try.zeroValue0
  t3 := Try.underlying3
  a3 := Try.isAgg3
  z3 := Try.sizeOf3
  v3 := Try.zeroValue3
  t4 := Try.underlying4
  a4 := Try.isAgg4
  z4 := Try.sizeOf4
  v4 := Try.zeroValue4
  t22 := Try.underlying25
  a22 := Try.isAgg25
  z22 := Try.sizeOf25
  v22 := Try.zeroValue25
  a24 := Try.isAgg3
  z24 := Try.sizeOf3
  t25 := Try.underlying66
  a25 := Try.isAgg66
  z25 := Try.sizeOf66
  v25 := Try.zeroValue66 }
open Go.RowKit Go.Lib Go.Sort in
/-- slices.reverseRangeCmpFunc at elements of one cell: it exchanges and does not compare. (LAID AT THE INSTANCE 'slices.reverseRangeCmpFunc[int]': no walk: one application.) -/
theorem Try.reverseRangeCmpFunc {α : Type} [Inhabited α] (enc : α → Value) (g : Nat) (cb : Array Value) (blk off cap a b : Nat) (d0 d : Array α) (w0 w : World) (R : Row1 enc w0 blk off d0) (hs : d0.size = d.size) (S : SW enc w0 blk off d w) (hab : a ≤ b) (hb : b ≤ d.size) (hsz : d.size < 4611686018427387904) :
    Calls Try.prog 102 #[.slice (some ⟨blk, off, none⟩) d.size cap, .int .i64 a, .int .i64 b, .func (.func g) #[] cb] w fun e w' => e = .returned (.tuple #[]) ∧ SW enc w0 blk off (reverseRange d a b) w' := Any.reverseRangeCmpFunc Try.laysSlF24_f102 enc g cb blk off cap a b d0 d w0 w R hs S hab hb hsz
def Try.laysSlF25_f103_ren : Go.Shelf.Ren := ⟨fun | 25 => 103 | n => n, fun | 24 => 3 | 22 => 25 | 3 => 3 | 25 => 66 | 4 => 4 | 0 => 0 | n => n, fun | n => n⟩
theorem Try.laysSlF25_f103 : Go.Proofs.SlLaysF.n25 Try.prog Try.laysSlF25_f103_ren := {
  mixed := by kernel_rfl
  f25 := ⟨Try.f103.name, by decide, Try.func103.trans (congrArg some (by kernel_rfl))⟩
  t0 := Try.underlying0
  a0 := Try.isAgg0
  z0 := Try.sizeOf0
  v0 := Try.zeroValue0
  t3 := Try.underlying3
  a3 := Try.isAgg3
  z3 := Try.sizeOf3
  v3 := Try.zeroValue3
  t4 := Try.underlying4
  a4 := Try.isAgg4
  z4 := Try.sizeOf4
  v4 := Try.zeroValue4
  t22 := Try.underlying25
  a22 := Try.isAgg25
  z22 := Try.sizeOf25
  v22 := Try.zeroValue25
  a24 := Try.isAgg3
  z24 := Try.sizeOf3
  t25 := Try.underlying66
  a25 := Try.isAgg66
  z25 := Try.sizeOf66
  v25 := Try.zeroValue66 }
open Go.RowKit Go.Lib Go.Sort in
/-- slices.partialInsertionSortCmpFunc at elements of one cell. (LAID AT THE INSTANCE 'slices.partialInsertionSortCmpFunc[int]': no walk: one application.) -/
theorem Try.partialInsertionSortCmpFunc {α : Type} [Inhabited α] (enc : α → Value) (cf : α → α → Int) (g : Nat) (cb : Array Value) (blk off cap a b : Nat) (d0 d : Array α) (w0 w : World) (eg : ∀ args w, (callFunc g args).run Try.prog w = .ok (.enter g args) w) (hcmp : CmpLays1 Try.prog g cb enc cf blk off d0.size w0) (R : Row1 enc w0 blk off d0) (hs : d0.size = d.size) (S : SW enc w0 blk off d w) (hab : a < b) (hb : b ≤ d.size) (hsz : d.size < 4611686018427387904) :
    Calls Try.prog 103 #[.slice (some ⟨blk, off, none⟩) d.size cap, .int .i64 a, .int .i64 b, .func (.func g) #[] cb] w fun e w' =>
      e = .returned (.bool (Sort.partialInsertionSort (ltOf cf) d a b).2) ∧ SW enc w0 blk off (Sort.partialInsertionSort (ltOf cf) d a b).1 w' := Any.partialInsertionSortCmpFunc Try.laysSlF25_f103 enc cf g cb blk off cap a b d0 d w0 w eg hcmp R hs S hab hb hsz
def Try.laysSlF26_f104_ren : Go.Shelf.Ren := ⟨fun | 26 => 104 | n => n, fun | 24 => 3 | 22 => 25 | 3 => 3 | 25 => 66 | 0 => 0 | 4 => 4 | n => n, fun | n => n⟩
theorem Try.laysSlF26_f104 : Go.Proofs.SlLaysF.n26 Try.prog Try.laysSlF26_f104_ren := {
  mixed := by kernel_rfl
  f26 := ⟨Try.f104.name, by decide, Try.func104.trans (congrArg some (by kernel_rfl))⟩
  t0 := Try.underlying0
  a0 := Try.isAgg0
  z0 := Try.sizeOf0
  v0 := Try.zeroValue0
  t3 := Try.underlying3
  a3 := Try.isAgg3
  z3 := Try.sizeOf3
  v3 := Try.zeroValue3
  t4 := Try.underlying4
  a4 := Try.isAgg4
  z4 := Try.sizeOf4
  v4 := Try.zeroValue4
  t22 := Try.underlying25
  a22 := Try.isAgg25
  z22 := Try.sizeOf25
  v22 := Try.zeroValue25
  a24 := Try.isAgg3
  z24 := Try.sizeOf3
  t25 := Try.underlying66
  a25 := Try.isAgg66
  z25 := Try.sizeOf66
  v25 := Try.zeroValue66 }
open Go.RowKit Go.Lib Go.Sort in
/-- slices.partitionEqualCmpFunc at elements of one cell. (After Derived/Shelf/SlSortFuncK/PartitionK.lean, row for row.) (LAID AT THE INSTANCE 'slices.partitionEqualCmpFunc[int]': no walk: one application.) -/
theorem Try.partitionEqualCmpFunc {α : Type} [Inhabited α] (enc : α → Value) (cf : α → α → Int) (g : Nat) (cb : Array Value) (blk off cap a b pivot : Nat) (d0 d : Array α) (w0 w : World) (eg : ∀ args w, (callFunc g args).run Try.prog w = .ok (.enter g args) w) (hcmp : CmpLays1 Try.prog g cb enc cf blk off d0.size w0) (R : Row1 enc w0 blk off d0) (hs : d0.size = d.size) (S : SW enc w0 blk off d w) (hap : a ≤ pivot) (hpb : pivot < b) (hb : b ≤ d.size) (hsz : d.size < 4611686018427387904) :
    Calls Try.prog 104 #[.slice (some ⟨blk, off, none⟩) d.size cap, .int .i64 a, .int .i64 b, .int .i64 pivot, .func (.func g) #[] cb] w fun e w' =>
      e = .returned (.int .i64 (Sort.partitionEqual (ltOf cf) d a b pivot).1) ∧ SW enc w0 blk off (Sort.partitionEqual (ltOf cf) d a b pivot).2 w' := Any.partitionEqualCmpFunc Try.laysSlF26_f104 enc cf g cb blk off cap a b pivot d0 d w0 w eg hcmp R hs S hap hpb hb hsz
def Try.laysSlF27_f105_ren : Go.Shelf.Ren := ⟨fun | 27 => 105 | n => n, fun | 24 => 3 | 22 => 25 | 3 => 3 | 25 => 66 | 4 => 4 | 0 => 0 | n => n, fun | n => n⟩
theorem Try.laysSlF27_f105 : Go.Proofs.SlLaysF.n27 Try.prog Try.laysSlF27_f105_ren := {
  mixed := by kernel_rfl
  f27 := ⟨Try.f105.name, by decide, Try.func105.trans (congrArg some (by kernel_rfl))⟩
  t0 := Try.underlying0
  a0 := Try.isAgg0
  z0 := Try.sizeOf0
  v0 := Try.zeroValue0
  t3 := Try.underlying3
  a3 := Try.isAgg3
  z3 := Try.sizeOf3
  v3 := Try.zeroValue3
  t4 := Try.underlying4
  a4 := Try.isAgg4
  z4 := Try.sizeOf4
  v4 := Try.zeroValue4
  t22 := Try.underlying25
  a22 := Try.isAgg25
  z22 := Try.sizeOf25
  v22 := Try.zeroValue25
  a24 := Try.isAgg3
  z24 := Try.sizeOf3
  t25 := Try.underlying66
  a25 := Try.isAgg66
  z25 := Try.sizeOf66
  v25 := Try.zeroValue66 }
open Go.RowKit Go.Lib Go.Sort in
/-- slices.partitionCmpFunc at elements of one cell. (After Derived/Shelf/SlSortFuncK/PartitionK.lean, row for row.) (LAID AT THE INSTANCE 'slices.partitionCmpFunc[int]': no walk: one application.) -/
theorem Try.partitionCmpFunc {α : Type} [Inhabited α] (enc : α → Value) (cf : α → α → Int) (g : Nat) (cb : Array Value) (blk off cap a b pivot : Nat) (d0 d : Array α) (w0 w : World) (eg : ∀ args w, (callFunc g args).run Try.prog w = .ok (.enter g args) w) (hcmp : CmpLays1 Try.prog g cb enc cf blk off d0.size w0) (R : Row1 enc w0 blk off d0) (hs : d0.size = d.size) (S : SW enc w0 blk off d w) (hap : a ≤ pivot) (hpb : pivot < b) (hb : b ≤ d.size) (hsz : d.size < 4611686018427387904) :
    Calls Try.prog 105 #[.slice (some ⟨blk, off, none⟩) d.size cap, .int .i64 a, .int .i64 b, .int .i64 pivot, .func (.func g) #[] cb] w fun e w' =>
      e = .returned (.tuple #[.int .i64 (Sort.partition (ltOf cf) d a b pivot).1, .bool (Sort.partition (ltOf cf) d a b pivot).2.1]) ∧ SW enc w0 blk off (Sort.partition (ltOf cf) d a b pivot).2.2 w' := Any.partitionCmpFunc Try.laysSlF27_f105 enc cf g cb blk off cap a b pivot d0 d w0 w eg hcmp R hs S hap hpb hb hsz
def Try.laysSlF14_f85_ren : Go.Shelf.Ren := ⟨fun | 14 => 85 | 20 => 98 | 21 => 99 | 22 => 100 | 23 => 101 | 24 => 102 | 25 => 103 | 26 => 104 | 27 => 105 | 46 => 108 | 47 => 109 | 48 => 110 | 49 => 111 | 50 => 112 | 15 => 86 | 57 => 113 | 28 => 106 | 29 => 107 | n => n, fun | 24 => 3 | 22 => 25 | 3 => 3 | 25 => 66 | 4 => 4 | 0 => 0 | 46 => 114 | 45 => 113 | 50 => 100 | 66 => 119 | 39 => 84 | 55 => 108 | 70 => 123 | 76 => 125 | 77 => 95 | 53 => 106 | 5 => 5 | 9 => 9 | n => n, fun | n => n⟩
theorem Try.laysSlF14_f85 : Go.Proofs.SlLaysF.n14 Try.prog Try.laysSlF14_f85_ren := {
  mixed := by kernel_rfl
  f14 := ⟨Try.f85.name, by decide, Try.func85.trans (congrArg some (by kernel_rfl))⟩
  f15 := Try.func86.trans (congrArg some (by kernel_rfl))
  f20 := ⟨Try.f98.name, by decide, Try.func98.trans (congrArg some (by kernel_rfl))⟩
  f21 := ⟨Try.f99.name, by decide, Try.func99.trans (congrArg some (by kernel_rfl))⟩
  f22 := ⟨Try.f100.name, by decide, Try.func100.trans (congrArg some (by kernel_rfl))⟩
  f23 := ⟨Try.f101.name, by decide, Try.func101.trans (congrArg some (by kernel_rfl))⟩
  f24 := ⟨Try.f102.name, by decide, Try.func102.trans (congrArg some (by kernel_rfl))⟩
  f25 := ⟨Try.f103.name, by decide, Try.func103.trans (congrArg some (by kernel_rfl))⟩
  f26 := ⟨Try.f104.name, by decide, Try.func104.trans (congrArg some (by kernel_rfl))⟩
  f27 := ⟨Try.f105.name, by decide, Try.func105.trans (congrArg some (by kernel_rfl))⟩
  f28 := Try.func106.trans (congrArg some (by kernel_rfl))
  f29 := Try.func107.trans (congrArg some (by kernel_rfl))
  f46 := ⟨Try.f108.name, by decide, Try.func108.trans (congrArg some (by kernel_rfl))⟩
  f47 := Try.func109.trans (congrArg some (by kernel_rfl))
  f48 := Try.func110.trans (congrArg some (by kernel_rfl))
  f49 := ⟨Try.f111.name, by decide, Try.func111.trans (congrArg some (by kernel_rfl))⟩
  f50 := ⟨Try.f112.name, by decide, Try.func112.trans (congrArg some (by kernel_rfl))⟩
  f57 := ⟨Try.f113.name, by decide, Try.func113.trans (congrArg some (by kernel_rfl))⟩
  t0 := Try.underlying0
  a0 := Try.isAgg0
  z0 := Try.sizeOf0
  v0 := Try.zeroValue0
  t3 := Try.underlying3
  a3 := Try.isAgg3
  z3 := Try.sizeOf3
  v3 := Try.zeroValue3
  t4 := Try.underlying4
  a4 := Try.isAgg4
  z4 := Try.sizeOf4
  v4 := Try.zeroValue4
  t5 := Try.underlying5
  a5 := Try.isAgg5
  z5 := Try.sizeOf5
  v5 := Try.zeroValue5
  t9 := Try.underlying9
  a9 := Try.isAgg9
  z9 := Try.sizeOf9
  v9 := Try.zeroValue9
  t22 := Try.underlying25
  a22 := Try.isAgg25
  z22 := Try.sizeOf25
  v22 := Try.zeroValue25
  a24 := Try.isAgg3
  z24 := Try.sizeOf3
  t25 := Try.underlying66
  a25 := Try.isAgg66
  z25 := Try.sizeOf66
  v25 := Try.zeroValue66
  t39 := Try.underlying84
  a39 := Try.isAgg84
  z39 := Try.sizeOf84
  v39 := Try.zeroValue84
  t45 := Try.underlying113
  a45 := Try.isAgg113
  z45 := Try.sizeOf113
  v45 := Try.zeroValue113
  t46 := Try.underlying114
  a46 := Try.isAgg114
  z46 := Try.sizeOf114
  v46 := Try.zeroValue114
  t50 := Try.underlying100
  a50 := Try.isAgg100
  z50 := Try.sizeOf100
  v50 := Try.zeroValue100
  t53 := Try.underlying106
  a53 := Try.isAgg106
  z53 := Try.sizeOf106
  v53 := Try.zeroValue106
  t55 := Try.underlying108
  a55 := Try.isAgg108
  z55 := Try.sizeOf108
  v55 := Try.zeroValue108
  t66 := Try.underlying119
  a66 := Try.isAgg119
  z66 := Try.sizeOf119
  v66 := Try.zeroValue119
  t70 := Try.underlying123
  a70 := Try.isAgg123
  z70 := Try.sizeOf123
  v70 := Try.zeroValue123
  t76 := Try.underlying125
  a76 := Try.isAgg125
  z76 := Try.sizeOf125
  v76 := Try.zeroValue125
  t77 := Try.underlying95
  a77 := Try.isAgg95
  z77 := Try.sizeOf95
  v77 := Try.zeroValue95 }
open Go.RowKit Go.Lib Go.Sort in
/-- slices.pdqsortCmpFunc at elements of one cell, WHOLE. (After Derived/Shelf/SlSortFuncK/PdqK.lean, row for row: the slots and the regions' numbers are this body's.) (LAID AT THE INSTANCE 'slices.pdqsortCmpFunc[int]': no walk: one application.) -/
theorem Try.pdqsortCmpFunc_all {α : Type} [Inhabited α] (enc : α → Value) (cf : α → α → Int) (g : Nat) (cb : Array Value) (hO : SWO (ltOf cf)) (blk off cap : Nat) (d0 : Array α) (w0 : World) (eg : ∀ args w, (callFunc g args).run Try.prog w = .ok (.enter g args) w) (hcmp : CmpLays1 Try.prog g cb enc cf blk off d0.size w0) (R : Row1 enc w0 blk off d0) :
    ∀ (N a b limit : Nat) (d : Array α) (w : World), b - a < N → d0.size = d.size → SW enc w0 blk off d w → a ≤ b → b ≤ d.size → d.size < 4611686018427387904 → limit < 4611686018427387904 → Below (ltOf cf) a b d →
    Calls Try.prog 85 #[.slice (some ⟨blk, off, none⟩) d.size cap, .int .i64 a, .int .i64 b, .int .i64 limit, .func (.func g) #[] cb] w fun e w' => e = .returned (.tuple #[]) ∧ SW enc w0 blk off (pdq (ltOf cf) d a b limit true true) w' := Any.pdqsortCmpFunc_all Try.laysSlF14_f85 enc cf g cb hO blk off cap d0 w0 eg hcmp R
def Try.laysSlF6_f58_ren : Go.Shelf.Ren := ⟨fun | 6 => 58 | 15 => 86 | 14 => 85 | 28 => 106 | 29 => 107 | 20 => 98 | 21 => 99 | 22 => 100 | 23 => 101 | 24 => 102 | 25 => 103 | 26 => 104 | 27 => 105 | 46 => 108 | 47 => 109 | 48 => 110 | 49 => 111 | 50 => 112 | 57 => 113 | n => n, fun | 22 => 25 | 24 => 3 | 25 => 66 | 3 => 3 | 39 => 84 | 0 => 0 | 53 => 106 | 55 => 108 | 4 => 4 | 46 => 114 | 45 => 113 | 50 => 100 | 5 => 5 | 9 => 9 | 66 => 119 | 70 => 123 | 76 => 125 | 77 => 95 | n => n, fun | n => n⟩
theorem Try.laysSlF6_f58 : Go.Proofs.SlLaysF.n6 Try.prog Try.laysSlF6_f58_ren := {
  mixed := by kernel_rfl
  f6 := ⟨Try.f58.name, by decide, Try.func58.trans (congrArg some (by kernel_rfl))⟩
  f14 := ⟨Try.f85.name, by decide, Try.func85.trans (congrArg some (by kernel_rfl))⟩
  f15 := Try.func86.trans (congrArg some (by kernel_rfl))
  f20 := ⟨Try.f98.name, by decide, Try.func98.trans (congrArg some (by kernel_rfl))⟩
  f21 := ⟨Try.f99.name, by decide, Try.func99.trans (congrArg some (by kernel_rfl))⟩
  f22 := ⟨Try.f100.name, by decide, Try.func100.trans (congrArg some (by kernel_rfl))⟩
  f23 := ⟨Try.f101.name, by decide, Try.func101.trans (congrArg some (by kernel_rfl))⟩
  f24 := ⟨Try.f102.name, by decide, Try.func102.trans (congrArg some (by kernel_rfl))⟩
  f25 := ⟨Try.f103.name, by decide, Try.func103.trans (congrArg some (by kernel_rfl))⟩
  f26 := ⟨Try.f104.name, by decide, Try.func104.trans (congrArg some (by kernel_rfl))⟩
  f27 := ⟨Try.f105.name, by decide, Try.func105.trans (congrArg some (by kernel_rfl))⟩
  f28 := Try.func106.trans (congrArg some (by kernel_rfl))
  f29 := Try.func107.trans (congrArg some (by kernel_rfl))
  f46 := ⟨Try.f108.name, by decide, Try.func108.trans (congrArg some (by kernel_rfl))⟩
  f47 := Try.func109.trans (congrArg some (by kernel_rfl))
  f48 := Try.func110.trans (congrArg some (by kernel_rfl))
  f49 := ⟨Try.f111.name, by decide, Try.func111.trans (congrArg some (by kernel_rfl))⟩
  f50 := ⟨Try.f112.name, by decide, Try.func112.trans (congrArg some (by kernel_rfl))⟩
  f57 := ⟨Try.f113.name, by decide, Try.func113.trans (congrArg some (by kernel_rfl))⟩
  t0 := Try.underlying0
  a0 := Try.isAgg0
  z0 := Try.sizeOf0
  v0 := Try.zeroValue0
  t3 := Try.underlying3
  a3 := Try.isAgg3
  z3 := Try.sizeOf3
  v3 := Try.zeroValue3
  t4 := Try.underlying4
  a4 := Try.isAgg4
  z4 := Try.sizeOf4
  v4 := Try.zeroValue4
  t5 := Try.underlying5
  a5 := Try.isAgg5
  z5 := Try.sizeOf5
  v5 := Try.zeroValue5
  t9 := Try.underlying9
  a9 := Try.isAgg9
  z9 := Try.sizeOf9
  v9 := Try.zeroValue9
  t22 := Try.underlying25
  a22 := Try.isAgg25
  z22 := Try.sizeOf25
  v22 := Try.zeroValue25
  a24 := Try.isAgg3
  z24 := Try.sizeOf3
  t25 := Try.underlying66
  a25 := Try.isAgg66
  z25 := Try.sizeOf66
  v25 := Try.zeroValue66
  t39 := Try.underlying84
  a39 := Try.isAgg84
  z39 := Try.sizeOf84
  v39 := Try.zeroValue84
  t45 := Try.underlying113
  a45 := Try.isAgg113
  z45 := Try.sizeOf113
  v45 := Try.zeroValue113
  t46 := Try.underlying114
  a46 := Try.isAgg114
  z46 := Try.sizeOf114
  v46 := Try.zeroValue114
  t50 := Try.underlying100
  a50 := Try.isAgg100
  z50 := Try.sizeOf100
  v50 := Try.zeroValue100
  t53 := Try.underlying106
  a53 := Try.isAgg106
  z53 := Try.sizeOf106
  v53 := Try.zeroValue106
  t55 := Try.underlying108
  a55 := Try.isAgg108
  z55 := Try.sizeOf108
  v55 := Try.zeroValue108
  t66 := Try.underlying119
  a66 := Try.isAgg119
  z66 := Try.sizeOf119
  v66 := Try.zeroValue119
  t70 := Try.underlying123
  a70 := Try.isAgg123
  z70 := Try.sizeOf123
  v70 := Try.zeroValue123
  t76 := Try.underlying125
  a76 := Try.isAgg125
  z76 := Try.sizeOf125
  v76 := Try.zeroValue125
  t77 := Try.underlying95
  a77 := Try.isAgg95
  z77 := Try.sizeOf95
  v77 := Try.zeroValue95 }
open Go.RowKit Go.Lib Go.Sort in
/-- **slices.SortFunc: WHAT THE ROW HOLDS, TO THE ELEMENT.** (LAID AT THE INSTANCE 'slices.SortFunc[[]int,int]': no walk: one application.) -/
theorem Try.slices_SortFunc_eq {α : Type} [Inhabited α] (enc : α → Value) (h1 : OneCell enc) (cf : α → α → Int) (hO : SWO (ltOf cf)) (g : Nat) (cb : Array Value) (blk off cap : Nat) (d : Array α) (w : World) (eg : ∀ args w, (callFunc g args).run Try.prog w = .ok (.enter g args) w) (hcmp : CmpLays1 Try.prog g cb enc cf blk off d.size w) (hH : Holds enc w blk off d) (hblk : blk < w.heap.size) (hsz : d.size < 4611686018427387904) :
    Calls Try.prog 58 #[.slice (some ⟨blk, off, none⟩) d.size cap, .func (.func g) #[] cb] w fun e w' =>
      e = .returned (.tuple #[]) ∧ ∃ n os, w' = sortWorld enc w blk off n (pdq (ltOf cf) d 0 d.size (Lib.bitLen d.size) true true) os := Any.slices_SortFunc_eq Try.laysSlF6_f58 enc h1 cf hO g cb blk off cap d w eg hcmp hH hblk hsz
open Go.RowKit Go.Lib Go.Sort in
/-- **slices.SortFunc, IN THE DOCUMENTATION's OWN TERMS: A PERMUTATION OF WHAT THE ROW HELD, SORTED BY 'cmp(a, b) < 0'.** Which of two equals comes first is left open ("The sort is not guaranteed to be stable"). (LAID AT THE INSTANCE 'slices.SortFunc[[]int,int]': no walk: one application.) -/
theorem Try.slices_SortFunc {α : Type} [Inhabited α] (enc : α → Value) (h1 : OneCell enc) (cf : α → α → Int) (hO : SWO (ltOf cf)) (g : Nat) (cb : Array Value) (blk off cap : Nat) (d : Array α) (w : World) (eg : ∀ args w, (callFunc g args).run Try.prog w = .ok (.enter g args) w) (hcmp : CmpLays1 Try.prog g cb enc cf blk off d.size w) (hH : Holds enc w blk off d) (hblk : blk < w.heap.size) (hsz : d.size < 4611686018427387904) :
    Calls Try.prog 58 #[.slice (some ⟨blk, off, none⟩) d.size cap, .func (.func g) #[] cb] w fun e w' =>
      e = .returned (.tuple #[]) ∧ ∃ d' n os, PermIn 0 d.size d d' ∧ SortedIn (ltOf cf) 0 d.size d' ∧ w' = sortWorld enc w blk off n d' os := Any.slices_SortFunc Try.laysSlF6_f58 enc h1 cf hO g cb blk off cap d w eg hcmp hH hblk hsz
def Try.laysSlF020_f98_ren : Go.Shelf.Ren := ⟨fun | 20 => 98 | n => n, fun | 24 => 3 | 22 => 25 | 3 => 3 | 25 => 66 | 4 => 4 | 0 => 0 | n => n, fun | n => n⟩
theorem Try.laysSlF020_f98 : Go.Proofs.SlLaysF0.n20 Try.prog Try.laysSlF020_f98_ren := {
  mixed := by kernel_rfl
  f20 := ⟨Try.f98.name, by decide, Try.func98.trans (congrArg some (by kernel_rfl))⟩
  t0 := Try.underlying0
  a0 := Try.isAgg0
  z0 := Try.sizeOf0
  v0 := Try.zeroValue0
  t3 := Try.underlying3
  a3 := Try.isAgg3
  z3 := Try.sizeOf3
  v3 := Try.zeroValue3
  t4 := Try.underlying4
  a4 := Try.isAgg4
  z4 := Try.sizeOf4
  v4 := Try.zeroValue4
  t22 := Try.underlying25
  a22 := Try.isAgg25
  z22 := Try.sizeOf25
  v22 := Try.zeroValue25
  t25 := Try.underlying66
  a25 := Try.isAgg66
  z25 := Try.sizeOf66
  v25 := Try.zeroValue66 }
open Go.RowKit Go.Lib Go.Sort in
theorem Try.insertionSortCmpFunc_none {α : Type} [Inhabited α] (p : Option Addr) (cap : Nat) (fv : Value) (w : World) :
    Calls Try.prog 98 #[.slice p 0 cap, .int .i64 0, .int .i64 0, fv] w fun e w' => e = .returned (.tuple #[]) ∧ w' = w := AnyF.insertionSortCmpFunc_none Try.laysSlF020_f98 p cap fv w
def Try.laysSlF014_f85_ren : Go.Shelf.Ren := ⟨fun | 14 => 85 | 20 => 98 | 21 => 99 | 22 => 100 | 23 => 101 | 24 => 102 | 25 => 103 | 26 => 104 | 27 => 105 | 46 => 108 | 47 => 109 | 48 => 110 | 49 => 111 | 50 => 112 | 15 => 86 | 57 => 113 | 28 => 106 | 29 => 107 | n => n, fun | 24 => 3 | 22 => 25 | 3 => 3 | 25 => 66 | 4 => 4 | 0 => 0 | 46 => 114 | 45 => 113 | 50 => 100 | 66 => 119 | 39 => 84 | 55 => 108 | 70 => 123 | 76 => 125 | 77 => 95 | 53 => 106 | 5 => 5 | 9 => 9 | n => n, fun | n => n⟩
theorem Try.laysSlF014_f85 : Go.Proofs.SlLaysF0.n14 Try.prog Try.laysSlF014_f85_ren := {
  mixed := by kernel_rfl
  f14 := ⟨Try.f85.name, by decide, Try.func85.trans (congrArg some (by kernel_rfl))⟩
  f15 := Try.func86.trans (congrArg some (by kernel_rfl))
  f20 := ⟨Try.f98.name, by decide, Try.func98.trans (congrArg some (by kernel_rfl))⟩
  f21 := ⟨Try.f99.name, by decide, Try.func99.trans (congrArg some (by kernel_rfl))⟩
  f22 := ⟨Try.f100.name, by decide, Try.func100.trans (congrArg some (by kernel_rfl))⟩
  f23 := ⟨Try.f101.name, by decide, Try.func101.trans (congrArg some (by kernel_rfl))⟩
  f24 := ⟨Try.f102.name, by decide, Try.func102.trans (congrArg some (by kernel_rfl))⟩
  f25 := ⟨Try.f103.name, by decide, Try.func103.trans (congrArg some (by kernel_rfl))⟩
  f26 := ⟨Try.f104.name, by decide, Try.func104.trans (congrArg some (by kernel_rfl))⟩
  f27 := ⟨Try.f105.name, by decide, Try.func105.trans (congrArg some (by kernel_rfl))⟩
  f28 := Try.func106.trans (congrArg some (by kernel_rfl))
  f29 := Try.func107.trans (congrArg some (by kernel_rfl))
  f46 := ⟨Try.f108.name, by decide, Try.func108.trans (congrArg some (by kernel_rfl))⟩
  f47 := Try.func109.trans (congrArg some (by kernel_rfl))
  f48 := Try.func110.trans (congrArg some (by kernel_rfl))
  f49 := ⟨Try.f111.name, by decide, Try.func111.trans (congrArg some (by kernel_rfl))⟩
  f50 := ⟨Try.f112.name, by decide, Try.func112.trans (congrArg some (by kernel_rfl))⟩
  f57 := ⟨Try.f113.name, by decide, Try.func113.trans (congrArg some (by kernel_rfl))⟩
  t0 := Try.underlying0
  a0 := Try.isAgg0
  z0 := Try.sizeOf0
  v0 := Try.zeroValue0
  t3 := Try.underlying3
  a3 := Try.isAgg3
  z3 := Try.sizeOf3
  v3 := Try.zeroValue3
  t4 := Try.underlying4
  a4 := Try.isAgg4
  z4 := Try.sizeOf4
  v4 := Try.zeroValue4
  t5 := Try.underlying5
  a5 := Try.isAgg5
  z5 := Try.sizeOf5
  v5 := Try.zeroValue5
  t9 := Try.underlying9
  a9 := Try.isAgg9
  z9 := Try.sizeOf9
  v9 := Try.zeroValue9
  t22 := Try.underlying25
  a22 := Try.isAgg25
  z22 := Try.sizeOf25
  v22 := Try.zeroValue25
  t25 := Try.underlying66
  a25 := Try.isAgg66
  z25 := Try.sizeOf66
  v25 := Try.zeroValue66
  t39 := Try.underlying84
  a39 := Try.isAgg84
  z39 := Try.sizeOf84
  v39 := Try.zeroValue84
  t45 := Try.underlying113
  a45 := Try.isAgg113
  z45 := Try.sizeOf113
  v45 := Try.zeroValue113
  t46 := Try.underlying114
  a46 := Try.isAgg114
  z46 := Try.sizeOf114
  v46 := Try.zeroValue114
  t50 := Try.underlying100
  a50 := Try.isAgg100
  z50 := Try.sizeOf100
  v50 := Try.zeroValue100
  t53 := Try.underlying106
  a53 := Try.isAgg106
  z53 := Try.sizeOf106
  v53 := Try.zeroValue106
  t55 := Try.underlying108
  a55 := Try.isAgg108
  z55 := Try.sizeOf108
  v55 := Try.zeroValue108
  t66 := Try.underlying119
  a66 := Try.isAgg119
  z66 := Try.sizeOf119
  v66 := Try.zeroValue119
  t70 := Try.underlying123
  a70 := Try.isAgg123
  z70 := Try.sizeOf123
  v70 := Try.zeroValue123
  t76 := Try.underlying125
  a76 := Try.isAgg125
  z76 := Try.sizeOf125
  v76 := Try.zeroValue125
  t77 := Try.underlying95
  a77 := Try.isAgg95
  z77 := Try.sizeOf95
  v77 := Try.zeroValue95 }
open Go.RowKit Go.Lib Go.Sort in
theorem Try.pdqsortCmpFunc_none {α : Type} [Inhabited α] (p : Option Addr) (cap : Nat) (lim : Int) (fv : Value) (w : World) :
    Calls Try.prog 85 #[.slice p 0 cap, .int .i64 0, .int .i64 0, .int .i64 lim, fv] w fun e w' => e = .returned (.tuple #[]) ∧ w' = w := AnyF.pdqsortCmpFunc_none Try.laysSlF014_f85 p cap lim fv w
def Try.laysSlF06_f58_ren : Go.Shelf.Ren := ⟨fun | 6 => 58 | 15 => 86 | 14 => 85 | 28 => 106 | 29 => 107 | 20 => 98 | 21 => 99 | 22 => 100 | 23 => 101 | 24 => 102 | 25 => 103 | 26 => 104 | 27 => 105 | 46 => 108 | 47 => 109 | 48 => 110 | 49 => 111 | 50 => 112 | 57 => 113 | n => n, fun | 22 => 25 | 24 => 3 | 25 => 66 | 3 => 3 | 39 => 84 | 0 => 0 | 53 => 106 | 55 => 108 | 4 => 4 | 46 => 114 | 45 => 113 | 50 => 100 | 5 => 5 | 9 => 9 | 66 => 119 | 70 => 123 | 76 => 125 | 77 => 95 | n => n, fun | n => n⟩
theorem Try.laysSlF06_f58 : Go.Proofs.SlLaysF0.n6 Try.prog Try.laysSlF06_f58_ren := {
  mixed := by kernel_rfl
  f6 := ⟨Try.f58.name, by decide, Try.func58.trans (congrArg some (by kernel_rfl))⟩
  f14 := ⟨Try.f85.name, by decide, Try.func85.trans (congrArg some (by kernel_rfl))⟩
  f15 := Try.func86.trans (congrArg some (by kernel_rfl))
  f20 := ⟨Try.f98.name, by decide, Try.func98.trans (congrArg some (by kernel_rfl))⟩
  f21 := ⟨Try.f99.name, by decide, Try.func99.trans (congrArg some (by kernel_rfl))⟩
  f22 := ⟨Try.f100.name, by decide, Try.func100.trans (congrArg some (by kernel_rfl))⟩
  f23 := ⟨Try.f101.name, by decide, Try.func101.trans (congrArg some (by kernel_rfl))⟩
  f24 := ⟨Try.f102.name, by decide, Try.func102.trans (congrArg some (by kernel_rfl))⟩
  f25 := ⟨Try.f103.name, by decide, Try.func103.trans (congrArg some (by kernel_rfl))⟩
  f26 := ⟨Try.f104.name, by decide, Try.func104.trans (congrArg some (by kernel_rfl))⟩
  f27 := ⟨Try.f105.name, by decide, Try.func105.trans (congrArg some (by kernel_rfl))⟩
  f28 := Try.func106.trans (congrArg some (by kernel_rfl))
  f29 := Try.func107.trans (congrArg some (by kernel_rfl))
  f46 := ⟨Try.f108.name, by decide, Try.func108.trans (congrArg some (by kernel_rfl))⟩
  f47 := Try.func109.trans (congrArg some (by kernel_rfl))
  f48 := Try.func110.trans (congrArg some (by kernel_rfl))
  f49 := ⟨Try.f111.name, by decide, Try.func111.trans (congrArg some (by kernel_rfl))⟩
  f50 := ⟨Try.f112.name, by decide, Try.func112.trans (congrArg some (by kernel_rfl))⟩
  f57 := ⟨Try.f113.name, by decide, Try.func113.trans (congrArg some (by kernel_rfl))⟩
  t0 := Try.underlying0
  a0 := Try.isAgg0
  z0 := Try.sizeOf0
  v0 := Try.zeroValue0
  t3 := Try.underlying3
  a3 := Try.isAgg3
  z3 := Try.sizeOf3
  v3 := Try.zeroValue3
  t4 := Try.underlying4
  a4 := Try.isAgg4
  z4 := Try.sizeOf4
  v4 := Try.zeroValue4
  t5 := Try.underlying5
  a5 := Try.isAgg5
  z5 := Try.sizeOf5
  v5 := Try.zeroValue5
  t9 := Try.underlying9
  a9 := Try.isAgg9
  z9 := Try.sizeOf9
  v9 := Try.zeroValue9
  t22 := Try.underlying25
  a22 := Try.isAgg25
  z22 := Try.sizeOf25
  v22 := Try.zeroValue25
  t25 := Try.underlying66
  a25 := Try.isAgg66
  z25 := Try.sizeOf66
  v25 := Try.zeroValue66
  t39 := Try.underlying84
  a39 := Try.isAgg84
  z39 := Try.sizeOf84
  v39 := Try.zeroValue84
  t45 := Try.underlying113
  a45 := Try.isAgg113
  z45 := Try.sizeOf113
  v45 := Try.zeroValue113
  t46 := Try.underlying114
  a46 := Try.isAgg114
  z46 := Try.sizeOf114
  v46 := Try.zeroValue114
  t50 := Try.underlying100
  a50 := Try.isAgg100
  z50 := Try.sizeOf100
  v50 := Try.zeroValue100
  t53 := Try.underlying106
  a53 := Try.isAgg106
  z53 := Try.sizeOf106
  v53 := Try.zeroValue106
  t55 := Try.underlying108
  a55 := Try.isAgg108
  z55 := Try.sizeOf108
  v55 := Try.zeroValue108
  t66 := Try.underlying119
  a66 := Try.isAgg119
  z66 := Try.sizeOf119
  v66 := Try.zeroValue119
  t70 := Try.underlying123
  a70 := Try.isAgg123
  z70 := Try.sizeOf123
  v70 := Try.zeroValue123
  t76 := Try.underlying125
  a76 := Try.isAgg125
  z76 := Try.sizeOf125
  v76 := Try.zeroValue125
  t77 := Try.underlying95
  a77 := Try.isAgg95
  z77 := Try.sizeOf95
  v77 := Try.zeroValue95 }
open Go.RowKit Go.Lib Go.Sort in
/-- **slices.SortFunc AT NO ELEMENT, A nil SLICE TOO: nothing turns.** (LAID AT THE INSTANCE 'slices.SortFunc[[]int,int]': no walk: one application.) -/
theorem Try.slices_SortFunc_none {α : Type} [Inhabited α] (p : Option Addr) (cap : Nat) (fv : Value) (w : World) :
    Calls Try.prog 58 #[.slice p 0 cap, fv] w fun e w' => e = .returned (.tuple #[]) ∧ w' = w := AnyF.slices_SortFunc_none Try.laysSlF06_f58 p cap fv w
open Go.RowKit Go.Lib Go.Sort in
/-- **slices.SortFunc AT ONE CELL, UNDER A 'cmp' THAT PARTS WHATEVER TWO THAT ARE NOT ONE: THE ROW HOLDS core's 'mergeSort'.** (LAID AT THE INSTANCE 'slices.SortFunc[[]int,int]': no walk: one application.) -/
theorem Try.slices_SortFunc_total {α : Type} [Inhabited α] (enc : α → Value) (h1 : OneCell enc) (cf : α → α → Int) (hO : SWO (ltOf cf)) (g : Nat) (cb : Array Value) (blk off cap : Nat) (d : Array α) (w : World) (eg : ∀ args w, (callFunc g args).run Try.prog w = .ok (.enter g args) w) (hcmp : CmpLays1 Try.prog g cb enc cf blk off d.size w) (hH : Holds enc w blk off d) (hblk : blk < w.heap.size) (hsz : d.size < 4611686018427387904) (hT : ∀ x y, (ltOf cf) x y = false → (ltOf cf) y x = false → x = y) :
    Calls Try.prog 58 #[.slice (some ⟨blk, off, none⟩) d.size cap, .func (.func g) #[] cb] w fun e w' =>
      e = .returned (.tuple #[]) ∧ ∃ n os, w' = sortWorld enc w blk off n (d.toList.mergeSort fun x y => !(ltOf cf) y x).toArray os := Any.slices_SortFunc_total Try.laysSlF6_f58 enc h1 cf hO g cb blk off cap d w eg hcmp hH hblk hsz hT
end Go.Proofs
