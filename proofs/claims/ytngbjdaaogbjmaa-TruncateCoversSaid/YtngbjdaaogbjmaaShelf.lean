/-
  DERIVED: THE SHELF's CONTRACTS AT THIS DUMP, IN PLAIN WORDS (tools/lay-plain.mjs out of 'TryShelf.lean', which tools/lay-shelf.mjs wrote): THE SAME DECLARATIONS UNDER THE SAME NAMES: 'import', 'namespace', 'open', 'def', 'theorem' AND NOTHING ELSE: no command of the shelf's: FOR A HAND-IN. Each laying: the table of numbers ('.._ren') and one theorem, a field a fact of the dump's own or the kernel's comparison; each contract: ONE APPLICATION.
-/
import Derived.Shelf.Small.Bits
import Derived.Shelf.Small.Wraps
import Derived.Shelf.Strconv.Itoa0
import Derived.Ground.Names2Prog
import Derived.Shelf.Slices.Clone
import Derived.Shelf.Slices.SearchI
import Derived.Ground.SlgnProg
import Derived.Shelf.SlicesE.Clone
import Derived.Ground.SlsfProg
import Derived.Shelf.SlSortCmp.Insertion
import Derived.Shelf.SlSortCmp.SiftDown1
import Derived.Shelf.SlSortCmp.HeapSort1
import Derived.Shelf.SlSortCmp.Insertion1
import Derived.Shelf.SlSortCmp.Median1
import Derived.Shelf.SlSortCmp.Pivot1
import Derived.Shelf.SlSortCmp.ReverseRange1
import Derived.Shelf.SlSortCmp.PartialInsertion1
import Derived.Shelf.SlSortCmp.PartitionEqual1
import Derived.Shelf.SlSortCmp.Partition1
import Derived.Shelf.SlSortCmp.Pdq1
import Derived.Shelf.SlSortCmp.Whole1
import Derived.Shelf.SlSortCmp.NoneTotal
import Derived.Test.YtngbjdaaogbjmaaProg
namespace Go.Proofs
open Go.Shelf
def Try.lays128_ren : Go.Shelf.Ren := ⟨fun | 128 => 140 | n => n, fun | 51 => 130 | 3 => 3 | 4 => 4 | 46 => 98 | 5 => 5 | 9 => 9 | n => n, fun | n => n⟩
theorem Try.lays128 : Go.Proofs.Lays.n128 Try.prog Try.lays128_ren := {
  mixed := by kernel_rfl
  f128 := Try.func140.trans (congrArg some (by kernel_rfl))
  t3 := Try.underlying3
  a3 := Try.isAgg3
  z3 := Try.sizeOf3
  v3 := Try.zeroValue3
  t4 := Try.underlying4
  a4 := Try.isAgg4
  z4 := Try.sizeOf4
  v4 := Try.zeroValue4
  t5 := Try.underlying5
  a5 := Try.isAgg5
  z5 := Try.sizeOf5
  v5 := Try.zeroValue5
  t9 := Try.underlying9
  a9 := Try.isAgg9
  z9 := Try.sizeOf9
  v9 := Try.zeroValue9
  t46 := Try.underlying98
  a46 := Try.isAgg98
  z46 := Try.sizeOf98
  v46 := Try.zeroValue98
  t51 := Try.underlying130
  a51 := Try.isAgg130
  z51 := Try.sizeOf130
  v51 := Try.zeroValue130 }
/-- bits.Len32: "Len32 returns the minimum number of bits required to represent x; the result is 0 for x == 0.": IT RETURNS 'Lib.bitLen x'; the world is as it was. ('h0', 'h1': x is a uint32.) (LAID: no walk: one application.) -/
theorem Try.bits_Len32 (x : Int) (w : World) (h0 : 0 ≤ x) (h1 : x ≤ 4294967295) :
    Calls Try.prog 140 #[.int .u32 x] w fun e w' => e = .returned (.int .i64 (Lib.bitLen x.toNat)) ∧ w' = w := Any.bits_Len32 Try.lays128 x w h0 h1
def Try.lays125_ren : Go.Shelf.Ren := ⟨fun | 125 => 109 | 128 => 140 | 129 => 141 | n => n, fun | 46 => 98 | 3 => 3 | 51 => 130 | 53 => 132 | 4 => 4 | 5 => 5 | 9 => 9 | n => n, fun | n => n⟩
theorem Try.lays125 : Go.Proofs.Lays.n125 Try.prog Try.lays125_ren := {
  mixed := by kernel_rfl
  f125 := Try.func109.trans (congrArg some (by kernel_rfl))
  f128 := Try.func140.trans (congrArg some (by kernel_rfl))
  f129 := Try.func141.trans (congrArg some (by kernel_rfl))
  t3 := Try.underlying3
  a3 := Try.isAgg3
  z3 := Try.sizeOf3
  v3 := Try.zeroValue3
  t4 := Try.underlying4
  a4 := Try.isAgg4
  z4 := Try.sizeOf4
  v4 := Try.zeroValue4
  t5 := Try.underlying5
  a5 := Try.isAgg5
  z5 := Try.sizeOf5
  v5 := Try.zeroValue5
  t9 := Try.underlying9
  a9 := Try.isAgg9
  z9 := Try.sizeOf9
  v9 := Try.zeroValue9
  t46 := Try.underlying98
  a46 := Try.isAgg98
  z46 := Try.sizeOf98
  v46 := Try.zeroValue98
  t51 := Try.underlying130
  a51 := Try.isAgg130
  z51 := Try.sizeOf130
  v51 := Try.zeroValue130
  t53 := Try.underlying132
  a53 := Try.isAgg132
  z53 := Try.sizeOf132
  v53 := Try.zeroValue132 }
/-- bits.Len: "Len returns the minimum number of bits required to represent x; the result is 0 for x == 0.": IT RETURNS 'Lib.bitLen x'; the world is as it was. (A uint has 64 bits in the model.) ITS CALLEE bits.Len64 IS MET BY ITS OWN CONTRACT OFF THE SHELF (lay that first). (LAID: no walk: one application.) -/
theorem Try.bits_Len (x : Int) (w : World) (h0 : 0 ≤ x) (h1 : x ≤ 18446744073709551615) :
    Calls Try.prog 109 #[.int .u64 x] w fun e w' => e = .returned (.int .i64 (Lib.bitLen x.toNat)) ∧ w' = w := Any.bits_Len Try.lays125 x w h0 h1
def Try.lays215_ren : Go.Shelf.Ren := ⟨fun | 215 => 110 | n => n, fun | 3 => 3 | 4 => 4 | n => n, fun | n => n⟩
theorem Try.lays215 : Go.Proofs.Lays.n215 Try.prog Try.lays215_ren := {
  mixed := by kernel_rfl
  f215 := Try.func110.trans (congrArg some (by kernel_rfl))
  t3 := Try.underlying3
  a3 := Try.isAgg3
  z3 := Try.sizeOf3
  v3 := Try.zeroValue3
  t4 := Try.underlying4
  a4 := Try.isAgg4
  z4 := Try.sizeOf4
  v4 := Try.zeroValue4 }
open Go.RowKit in
/-- cmp.isNaN at int: 'x != x': false. (LAID: no walk: one application.) -/
theorem Try.cmp_isNaN_int (x : Int) (w : World) :
    Calls Try.prog 110 #[.int .i64 x] w fun e w' => e = .returned (.bool false) ∧ w' = w := Any.cmp_isNaN_int Try.lays215 x w
def Try.lays122_ren : Go.Shelf.Ren := ⟨fun | 122 => 69 | 215 => 110 | n => n, fun | 3 => 3 | 4 => 4 | n => n, fun | n => n⟩
theorem Try.lays122 : Go.Proofs.Lays.n122 Try.prog Try.lays122_ren := {
  mixed := by kernel_rfl
  f122 := Try.func69.trans (congrArg some (by kernel_rfl))
  f215 := Try.func110.trans (congrArg some (by kernel_rfl))
  t3 := Try.underlying3
  a3 := Try.isAgg3
  z3 := Try.sizeOf3
  v3 := Try.zeroValue3
  t4 := Try.underlying4
  a4 := Try.isAgg4
  z4 := Try.sizeOf4
  v4 := Try.zeroValue4 }
open Go.RowKit in
/-- cmp.Compare at int: "Compare returns -1 if x is less than y, 0 if x equals y, +1 if x is greater than y.": IT RETURNS 'Lib.compareInt x y'; the world is as it was. (LAID: no walk: one application.) -/
theorem Try.cmp_Compare_int (x y : Int) (w : World) :
    Calls Try.prog 69 #[.int .i64 x, .int .i64 y] w fun e w' => e = .returned (.int .i64 (Lib.compareInt x y)) ∧ w' = w := Any.cmp_Compare_int Try.lays122 x y w
def Try.lays129_ren : Go.Shelf.Ren := ⟨fun | 129 => 141 | n => n, fun | 53 => 132 | 3 => 3 | 4 => 4 | 46 => 98 | 5 => 5 | 9 => 9 | n => n, fun | n => n⟩
theorem Try.lays129 : Go.Proofs.Lays.n129 Try.prog Try.lays129_ren := {
  mixed := by kernel_rfl
  f129 := Try.func141.trans (congrArg some (by kernel_rfl))
  t3 := Try.underlying3
  a3 := Try.isAgg3
  z3 := Try.sizeOf3
  v3 := Try.zeroValue3
  t4 := Try.underlying4
  a4 := Try.isAgg4
  z4 := Try.sizeOf4
  v4 := Try.zeroValue4
  t5 := Try.underlying5
  a5 := Try.isAgg5
  z5 := Try.sizeOf5
  v5 := Try.zeroValue5
  t9 := Try.underlying9
  a9 := Try.isAgg9
  z9 := Try.sizeOf9
  v9 := Try.zeroValue9
  t46 := Try.underlying98
  a46 := Try.isAgg98
  z46 := Try.sizeOf98
  v46 := Try.zeroValue98
  t53 := Try.underlying132
  a53 := Try.isAgg132
  z53 := Try.sizeOf132
  v53 := Try.zeroValue132 }
/-- bits.Len64: "Len64 returns the minimum number of bits required to represent x; the result is 0 for x == 0.": IT RETURNS 'Lib.bitLen x'; the world is as it was. ('h0', 'h1': x is a uint64.) (LAID: no walk: one application.) -/
theorem Try.bits_Len64 (x : Int) (w : World) (h0 : 0 ≤ x) (h1 : x ≤ 18446744073709551615) :
    Calls Try.prog 141 #[.int .u64 x] w fun e w' => e = .returned (.int .i64 (Lib.bitLen x.toNat)) ∧ w' = w := Any.bits_Len64 Try.lays129 x w h0 h1
def Try.laysNm215_ren : Go.Shelf.Ren := ⟨fun | 15 => 151 | n => n, fun | 22 => 25 | 3 => 3 | 4 => 4 | n => n, fun | n => n⟩
theorem Try.laysNm215 : Go.Proofs.Lays2.n15 Try.prog Try.laysNm215_ren := {
  mixed := by kernel_rfl
  f15 := Try.func151.trans (congrArg some (by kernel_rfl))
  t3 := Try.underlying3
  a3 := Try.isAgg3
  z3 := Try.sizeOf3
  v3 := Try.zeroValue3
  t4 := Try.underlying4
  a4 := Try.isAgg4
  z4 := Try.sizeOf4
  v4 := Try.zeroValue4
  t22 := Try.underlying25
  a22 := Try.isAgg25
  z22 := Try.sizeOf25
  v22 := Try.zeroValue25
  i3 := by kernel_rfl }
open Go.RowKit Go.Lib in
/-- slices.Clone at []int: "Clone returns a copy of the slice. The elements are copied using assignment, so this is a shallow clone. The result may have additional unused capacity. The result preserves the nilness of s.": OF A SLICE THAT IS NOT nil IT RETURNS A SLICE THAT IS NOT nil, OF THE SAME ELEMENTS, IN MEMORY OF THE CALL's OWN: in the how-to's words (6f): 'w'.ownsRow B e 1 v' n cells': v' begins at the head of a row among the blocks from B on (B: the heap's size at the call), not frozen, whose first cells are the elements · 'Below B w w'': below B all is as it was. The capacity is whatever the run-time gives. 'zs': what the cells behind the slice's address hold; 'zs.take n': its elements. (LAID: no walk: one application.) -/
theorem Try.slices_Clone_int (b off n c : Nat) (zs : List Int) (w : World) (hz : n ≤ zs.length) (hbig : n * 8 ≤ 140737488355328) (hc : ∀ j, j < zs.length → w.cell? ⟨b, off + j, none⟩ = some (.int .i64 (zs.getD j 0))) :
    Calls Try.prog 151 #[.slice (some ⟨b, off, none⟩) n c] w fun e w' => ∃ v', e = .returned v' ∧ w'.ownsRow w.heap.size 3 1 v' n ((zs.take n).map (Value.int .i64)) ∧ v' ≠ .slice none 0 0 ∧ Below w.heap.size w w' := Any.slices_Clone_int Try.laysNm215 b off n c zs w hz hbig hc
open Go.RowKit Go.Lib in
/-- The same at nil: nil comes back; the world is as it was. (LAID: no walk: one application.) -/
theorem Try.slices_Clone_int_nil (n c : Nat) (w : World) :
    Calls Try.prog 151 #[.slice none n c] w fun e w' => e = .returned (.slice none 0 0) ∧ w' = w := Any.slices_Clone_int_nil Try.laysNm215 n c w
open Go.RowKit Go.Lib in
/-- The same at a slice of length 0 that is not nil, WHATEVER ITS ADDRESS (no cell is asked for): a slice that is not nil and owns nothing comes back. (LAID: no walk: one application.) -/
theorem Try.slices_Clone_int_zero (a : Addr) (c : Nat) (w : World) :
    Calls Try.prog 151 #[.slice (some a) 0 c] w fun e w' => ∃ v', e = .returned v' ∧ w'.ownsRow w.heap.size 3 1 v' 0 [] ∧ v' ≠ .slice none 0 0 ∧ Below w.heap.size w w' := Any.slices_Clone_int_zero Try.laysNm215 a c w
def Try.laysNm237_ren : Go.Shelf.Ren := ⟨fun | 37 => 110 | n => n, fun | 3 => 3 | 4 => 4 | n => n, fun | n => n⟩
theorem Try.laysNm237 : Go.Proofs.Lays2.n37 Try.prog Try.laysNm237_ren := {
  mixed := by kernel_rfl
  f37 := Try.func110.trans (congrArg some (by kernel_rfl))
  t3 := Try.underlying3
  a3 := Try.isAgg3
  z3 := Try.sizeOf3
  v3 := Try.zeroValue3
  t4 := Try.underlying4
  a4 := Try.isAgg4
  z4 := Try.sizeOf4
  v4 := Try.zeroValue4 }
open Go.RowKit Go.Lib in
/-- cmp.isNaN[int]: 'x != x': false. (LAID: no walk: one application.) -/
theorem Try.cmp_isNaN_int2 (x : Int) (w : World) :
    Calls Try.prog 110 #[.int .i64 x] w fun e w' => e = .returned (.bool false) ∧ w' = w := Any.cmp_isNaN_int2 Try.laysNm237 x w
def Try.laysSlE041_f151_ren : Go.Shelf.Ren := ⟨fun | 41 => 151 | n => n, fun | 22 => 25 | 23 => 3 | 4 => 4 | n => n, fun | n => n⟩
theorem Try.laysSlE041_f151 : Go.Proofs.SlLaysE0.n41 Try.prog Try.laysSlE041_f151_ren := {
  mixed := by kernel_rfl
  f41 := ⟨Try.f151.name, by decide, Try.func151.trans (congrArg some (by kernel_rfl))⟩
  t4 := Try.underlying4
  a4 := Try.isAgg4
  z4 := Try.sizeOf4
  v4 := Try.zeroValue4
  t22 := Try.underlying25
  a22 := Try.isAgg25
  z22 := Try.sizeOf25
  v22 := Try.zeroValue25 }
open Go.RowKit Go.Lib in
/-- slices.Clone: "Clone returns a copy of the slice. The elements are copied using assignment, so this is a shallow clone. The result may have additional unused capacity. The result preserves the nilness of s.": OF A SLICE THAT IS NOT nil IT RETURNS A SLICE THAT IS NOT nil, OF THE SAME CELLS, IN MEMORY OF THE CALL's OWN ('ownsRow': the how-to's 6f); below the heap's size at the call all is as it was. (LAID AT THE INSTANCE 'slices.Clone[[]int,int]': no walk: one application.) -/
theorem Try.slices_Clone (i0 : TypeInfo) (z : Value) (size bytes : Nat) (hi : Try.prog.info? 3 = some i0) (hz0 : i0.zero = some z) (hz1 : i0.size = size) (hz2 : i0.bytes = bytes) (hzs : z.cells.size = size) (hsz : 0 < size) (z23 : ∀ w, (Go.sizeOf 3).run Try.prog w = .ok size w) (b off n c : Nat) (news : List Value) (w : World) (hl : news.length = n * size) (hn : n ≤ maxLen) (hbig : n * bytes ≤ 140737488355328) (hc : ∀ j u, news[j]? = some u → w.cell? ⟨b, off + j, none⟩ = some u) (h1 : ∀ u ∈ news, u.oneCell' = true) :
    Calls Try.prog 151 #[.slice (some ⟨b, off, none⟩) n c] w fun e w' => ∃ v', e = .returned v' ∧ w'.ownsRow w.heap.size 3 size v' n news ∧ v' ≠ .slice none 0 0 ∧ Below w.heap.size w w' := AnyE.slices_Clone Try.laysSlE041_f151 i0 z size bytes hi hz0 hz1 hz2 hzs hsz z23 b off n c news w hl hn hbig hc h1
open Go.RowKit Go.Lib in
/-- The same at nil: nil comes back; the world is as it was; nothing is asked of the element's type. (LAID AT THE INSTANCE 'slices.Clone[[]int,int]': no walk: one application.) -/
theorem Try.slices_Clone_nil (n c : Nat) (w : World) :
    Calls Try.prog 151 #[.slice none n c] w fun e w' => e = .returned (.slice none 0 0) ∧ w' = w := AnyE.slices_Clone_nil Try.laysSlE041_f151 n c w
def Try.laysSlF20_f132_ren : Go.Shelf.Ren := ⟨fun | 20 => 132 | n => n, fun | 24 => 3 | 22 => 25 | 3 => 3 | 25 => 80 | 4 => 4 | 0 => 0 | n => n, fun | n => n⟩
theorem Try.laysSlF20_f132 : Go.Proofs.SlLaysF.n20 Try.prog Try.laysSlF20_f132_ren := {
  mixed := by kernel_rfl
  f20 := ⟨Try.f132.name, by decide, Try.func132.trans (congrArg some (by kernel_rfl))⟩
  t0 := Try.underlying0
  a0 := Try.isAgg0
  z0 := Try.sizeOf0
  v0 := Try.zeroValue0
  t3 := Try.underlying3
  a3 := Try.isAgg3
  z3 := Try.sizeOf3
  v3 := Try.zeroValue3
  t4 := Try.underlying4
  a4 := Try.isAgg4
  z4 := Try.sizeOf4
  v4 := Try.zeroValue4
  t22 := Try.underlying25
  a22 := Try.isAgg25
  z22 := Try.sizeOf25
  v22 := Try.zeroValue25
  a24 := Try.isAgg3
  z24 := Try.sizeOf3
  t25 := Try.underlying80
  a25 := Try.isAgg80
  z25 := Try.sizeOf80
  v25 := Try.zeroValue80 }
open Go.RowKit Go.Lib Go.Sort in
theorem Try.insertionSortCmpFunc_one {α : Type} [Inhabited α] (enc : α → Value) (hO : OneCell enc) (cf : α → α → Int) (g : Nat) (cb : Array Value) (blk off cap a b : Nat) (d : Array α) (w : World) (eg : ∀ args w, (callFunc g args).run Try.prog w = .ok (.enter g args) w) (hcmp : CmpReads Try.prog g cb enc cf blk off d.size w) (hH : Holds enc w blk off d) (hab : a ≤ b) (hb : b ≤ d.size) (hsz : d.size < 4611686018427387904) :
    Calls Try.prog 132 #[.slice (some ⟨blk, off, none⟩) d.size cap, .int .i64 a, .int .i64 b, .func (.func g) #[] cb] w fun e w' =>
      e = .returned (.tuple #[]) ∧ ∃ n, w' = (putRow enc w blk off (Sort.insertionSort (ltOf cf) d a b)).drewN n := Any.insertionSortCmpFunc_one Try.laysSlF20_f132 enc hO cf g cb blk off cap a b d w eg hcmp hH hab hb hsz
def Try.laysSlF46_f154_ren : Go.Shelf.Ren := ⟨fun | 46 => 154 | n => n, fun | 24 => 3 | 22 => 25 | 3 => 3 | 25 => 80 | 4 => 4 | 0 => 0 | n => n, fun | n => n⟩
theorem Try.laysSlF46_f154 : Go.Proofs.SlLaysF.n46 Try.prog Try.laysSlF46_f154_ren := {
  mixed := by kernel_rfl
  f46 := ⟨Try.f154.name, by decide, Try.func154.trans (congrArg some (by kernel_rfl))⟩
  t0 := Try.underlying0
  a0 := Try.isAgg0
  z0 := Try.sizeOf0
  v0 := Try.zeroValue0
  t3 := Try.underlying3
  a3 := Try.isAgg3
  z3 := Try.sizeOf3
  v3 := Try.zeroValue3
  t4 := Try.underlying4
  a4 := Try.isAgg4
  z4 := Try.sizeOf4
  v4 := Try.zeroValue4
  t22 := Try.underlying25
  a22 := Try.isAgg25
  z22 := Try.sizeOf25
  v22 := Try.zeroValue25
  a24 := Try.isAgg3
  z24 := Try.sizeOf3
  t25 := Try.underlying80
  a25 := Try.isAgg80
  z25 := Try.sizeOf80
  v25 := Try.zeroValue80 }
open Go.RowKit Go.Lib Go.Sort in
/-- slices.siftDownCmpFunc at elements of one cell: from a world of the sort's to a world of the sort's. (LAID AT THE INSTANCE 'slices.siftDownCmpFunc[int]': no walk: one application.) -/
theorem Try.siftDownCmpFunc {α : Type} [Inhabited α] (enc : α → Value) (cf : α → α → Int) (g : Nat) (cb : Array Value) (blk off cap lo hi first : Nat) (d0 d : Array α) (w0 w : World) (eg : ∀ args w, (callFunc g args).run Try.prog w = .ok (.enter g args) w) (hcmp : CmpLays1 Try.prog g cb enc cf blk off d0.size w0) (R : Row1 enc w0 blk off d0) (hs : d0.size = d.size) (S : SW enc w0 blk off d w) (hlo : lo ≤ hi) (hb : first + hi ≤ d.size) (hsz : d.size < 4611686018427387904) :
    Calls Try.prog 154 #[.slice (some ⟨blk, off, none⟩) d.size cap, .int .i64 lo, .int .i64 hi, .int .i64 first, .func (.func g) #[] cb] w fun e w' =>
      e = .returned (.tuple #[]) ∧ SW enc w0 blk off (siftDown (ltOf cf) hi first lo d) w' := Any.siftDownCmpFunc Try.laysSlF46_f154 enc cf g cb blk off cap lo hi first d0 d w0 w eg hcmp R hs S hlo hb hsz
def Try.laysSlF21_f133_ren : Go.Shelf.Ren := ⟨fun | 21 => 133 | 46 => 154 | n => n, fun | 24 => 3 | 22 => 25 | 3 => 3 | 25 => 80 | 4 => 4 | 0 => 0 | n => n, fun | n => n⟩
theorem Try.laysSlF21_f133 : Go.Proofs.SlLaysF.n21 Try.prog Try.laysSlF21_f133_ren := {
  mixed := by kernel_rfl
  f21 := ⟨Try.f133.name, by decide, Try.func133.trans (congrArg some (by kernel_rfl))⟩
  f46 := ⟨Try.f154.name, by decide, Try.func154.trans (congrArg some (by kernel_rfl))⟩
  t0 := Try.underlying0
  a0 := Try.isAgg0
  z0 := Try.sizeOf0
  v0 := Try.zeroValue0
  t3 := Try.underlying3
  a3 := Try.isAgg3
  z3 := Try.sizeOf3
  v3 := Try.zeroValue3
  t4 := Try.underlying4
  a4 := Try.isAgg4
  z4 := Try.sizeOf4
  v4 := Try.zeroValue4
  t22 := Try.underlying25
  a22 := Try.isAgg25
  z22 := Try.sizeOf25
  v22 := Try.zeroValue25
  a24 := Try.isAgg3
  z24 := Try.sizeOf3
  t25 := Try.underlying80
  a25 := Try.isAgg80
  z25 := Try.sizeOf80
  v25 := Try.zeroValue80 }
open Go.RowKit Go.Lib Go.Sort in
/-- slices.heapSortCmpFunc at elements of one cell. (LAID AT THE INSTANCE 'slices.heapSortCmpFunc[int]': no walk: one application.) -/
theorem Try.heapSortCmpFunc {α : Type} [Inhabited α] (enc : α → Value) (cf : α → α → Int) (g : Nat) (cb : Array Value) (blk off cap a b : Nat) (d0 d : Array α) (w0 w : World) (eg : ∀ args w, (callFunc g args).run Try.prog w = .ok (.enter g args) w) (hcmp : CmpLays1 Try.prog g cb enc cf blk off d0.size w0) (R : Row1 enc w0 blk off d0) (hs : d0.size = d.size) (S : SW enc w0 blk off d w) (hab : a ≤ b) (hb : b ≤ d.size) (hsz : d.size < 4611686018427387904) :
    Calls Try.prog 133 #[.slice (some ⟨blk, off, none⟩) d.size cap, .int .i64 a, .int .i64 b, .func (.func g) #[] cb] w fun e w' =>
      e = .returned (.tuple #[]) ∧ SW enc w0 blk off (heapSort (ltOf cf) d a b) w' := Any.heapSortCmpFunc Try.laysSlF21_f133 enc cf g cb blk off cap a b d0 d w0 w eg hcmp R hs S hab hb hsz
open Go.RowKit Go.Lib Go.Sort in
/-- slices.insertionSortCmpFunc at elements of one cell: from a world of the sort's to a world of the sort's. (LAID AT THE INSTANCE 'slices.insertionSortCmpFunc[int]': no walk: one application.) -/
theorem Try.insertionSortCmpFunc_s {α : Type} [Inhabited α] (enc : α → Value) (cf : α → α → Int) (g : Nat) (cb : Array Value) (blk off cap a b : Nat) (d0 d : Array α) (w0 w : World) (eg : ∀ args w, (callFunc g args).run Try.prog w = .ok (.enter g args) w) (hcmp : CmpLays1 Try.prog g cb enc cf blk off d0.size w0) (R : Row1 enc w0 blk off d0) (hs : d0.size = d.size) (S : SW enc w0 blk off d w) (hab : a ≤ b) (hb : b ≤ d.size) (hsz : d.size < 4611686018427387904) :
    Calls Try.prog 132 #[.slice (some ⟨blk, off, none⟩) d.size cap, .int .i64 a, .int .i64 b, .func (.func g) #[] cb] w fun e w' => e = .returned (.tuple #[]) ∧ SW enc w0 blk off (Sort.insertionSort (ltOf cf) d a b) w' := Any.insertionSortCmpFunc_s Try.laysSlF20_f132 enc cf g cb blk off cap a b d0 d w0 w eg hcmp R hs S hab hb hsz
def Try.laysSlF57_f162_ren : Go.Shelf.Ren := ⟨fun | 57 => 162 | n => n, fun | 24 => 3 | 22 => 25 | 3 => 3 | 70 => 168 | 25 => 80 | 0 => 0 | 4 => 4 | n => n, fun | n => n⟩
theorem Try.laysSlF57_f162 : Go.Proofs.SlLaysF.n57 Try.prog Try.laysSlF57_f162_ren := {
  mixed := by kernel_rfl
  f57 := ⟨Try.f162.name, by decide, Try.func162.trans (congrArg some (by kernel_rfl))⟩
  t0 := Try.underlying0
  a0 := Try.isAgg0
  z0 := Try.sizeOf0
  v0 := Try.zeroValue0
  t3 := Try.underlying3
  a3 := Try.isAgg3
  z3 := Try.sizeOf3
  v3 := Try.zeroValue3
  t4 := Try.underlying4
  a4 := Try.isAgg4
  z4 := Try.sizeOf4
  v4 := Try.zeroValue4
  t22 := Try.underlying25
  a22 := Try.isAgg25
  z22 := Try.sizeOf25
  v22 := Try.zeroValue25
  a24 := Try.isAgg3
  z24 := Try.sizeOf3
  t25 := Try.underlying80
  a25 := Try.isAgg80
  z25 := Try.sizeOf80
  v25 := Try.zeroValue80
  t70 := Try.underlying168
  a70 := Try.isAgg168
  z70 := Try.sizeOf168
  v70 := Try.zeroValue168 }
open Go.RowKit Go.Lib Go.Sort in
/-- slices.order2CmpFunc at elements of one cell. (LAID AT THE INSTANCE 'slices.order2CmpFunc[int]': no walk: one application.) -/
theorem Try.order2CmpFunc {α : Type} [Inhabited α] (enc : α → Value) (cf : α → α → Int) (g : Nat) (cb : Array Value) (blk off cap a b c s : Nat) (d0 d : Array α) (w0 W : World) (eg : ∀ args w, (callFunc g args).run Try.prog w = .ok (.enter g args) w) (hcmp : CmpLays1 Try.prog g cb enc cf blk off d0.size w0) (R : Row1 enc w0 blk off d0) (hs : d0.size = d.size) (C : Cnt1 enc w0 blk off d c s W) (ha : a < d.size) (hb : b < d.size) (hsz : d.size < 4611686018427387904) (hss : s < 4611686018427387904) :
    Calls Try.prog 162 #[.slice (some ⟨blk, off, none⟩) d.size cap, .int .i64 a, .int .i64 b, .pointer (some ⟨c, 0, none⟩), .func (.func g) #[] cb] W fun e w' =>
      e = .returned (.tuple #[.int .i64 (order2 (ltOf cf) d a b s).1, .int .i64 (order2 (ltOf cf) d a b s).2.1]) ∧ Cnt1 enc w0 blk off d c (order2 (ltOf cf) d a b s).2.2 w' := Any.order2CmpFunc Try.laysSlF57_f162 enc cf g cb blk off cap a b c s d0 d w0 W eg hcmp R hs C ha hb hsz hss
def Try.laysSlF50_f158_ren : Go.Shelf.Ren := ⟨fun | 50 => 158 | 57 => 162 | n => n, fun | 24 => 3 | 22 => 25 | 3 => 3 | 70 => 168 | 25 => 80 | 77 => 120 | 0 => 0 | 4 => 4 | n => n, fun | n => n⟩
theorem Try.laysSlF50_f158 : Go.Proofs.SlLaysF.n50 Try.prog Try.laysSlF50_f158_ren := {
  mixed := by kernel_rfl
  f50 := ⟨Try.f158.name, by decide, Try.func158.trans (congrArg some (by kernel_rfl))⟩
  f57 := ⟨Try.f162.name, by decide, Try.func162.trans (congrArg some (by kernel_rfl))⟩
  t0 := Try.underlying0
  a0 := Try.isAgg0
  z0 := Try.sizeOf0
  v0 := Try.zeroValue0
  t3 := Try.underlying3
  a3 := Try.isAgg3
  z3 := Try.sizeOf3
  v3 := Try.zeroValue3
  t4 := Try.underlying4
  a4 := Try.isAgg4
  z4 := Try.sizeOf4
  v4 := Try.zeroValue4
  t22 := Try.underlying25
  a22 := Try.isAgg25
  z22 := Try.sizeOf25
  v22 := Try.zeroValue25
  a24 := Try.isAgg3
  z24 := Try.sizeOf3
  t25 := Try.underlying80
  a25 := Try.isAgg80
  z25 := Try.sizeOf80
  v25 := Try.zeroValue80
  t70 := Try.underlying168
  a70 := Try.isAgg168
  z70 := Try.sizeOf168
  v70 := Try.zeroValue168
  t77 := Try.underlying120
  a77 := Try.isAgg120
  z77 := Try.sizeOf120
  v77 := Try.zeroValue120 }
open Go.RowKit Go.Lib Go.Sort in
/-- slices.medianCmpFunc at elements of one cell. (LAID AT THE INSTANCE 'slices.medianCmpFunc[int]': no walk: one application.) -/
theorem Try.medianCmpFunc {α : Type} [Inhabited α] (enc : α → Value) (cf : α → α → Int) (g : Nat) (cb : Array Value) (blk off cap a b c' c s : Nat) (d0 d : Array α) (w0 W : World) (eg : ∀ args w, (callFunc g args).run Try.prog w = .ok (.enter g args) w) (hcmp : CmpLays1 Try.prog g cb enc cf blk off d0.size w0) (R : Row1 enc w0 blk off d0) (hs : d0.size = d.size) (C : Cnt1 enc w0 blk off d c s W) (ha : a < d.size) (hb : b < d.size) (hc : c' < d.size) (hsz : d.size < 4611686018427387904) (hss : s + 3 < 4611686018427387904) :
    Calls Try.prog 158 #[.slice (some ⟨blk, off, none⟩) d.size cap, .int .i64 a, .int .i64 b, .int .i64 c', .pointer (some ⟨c, 0, none⟩), .func (.func g) #[] cb] W fun e w' =>
      e = .returned (.int .i64 (median (ltOf cf) d a b c' s).1) ∧ Cnt1 enc w0 blk off d c (median (ltOf cf) d a b c' s).2 w' := Any.medianCmpFunc Try.laysSlF50_f158 enc cf g cb blk off cap a b c' c s d0 d w0 W eg hcmp R hs C ha hb hc hsz hss
def Try.laysSlF49_f157_ren : Go.Shelf.Ren := ⟨fun | 49 => 157 | 50 => 158 | 57 => 162 | n => n, fun | 24 => 3 | 22 => 25 | 3 => 3 | 70 => 168 | 25 => 80 | 77 => 120 | 0 => 0 | 4 => 4 | n => n, fun | n => n⟩
theorem Try.laysSlF49_f157 : Go.Proofs.SlLaysF.n49 Try.prog Try.laysSlF49_f157_ren := {
  mixed := by kernel_rfl
  f49 := ⟨Try.f157.name, by decide, Try.func157.trans (congrArg some (by kernel_rfl))⟩
  f50 := ⟨Try.f158.name, by decide, Try.func158.trans (congrArg some (by kernel_rfl))⟩
  f57 := ⟨Try.f162.name, by decide, Try.func162.trans (congrArg some (by kernel_rfl))⟩
  t0 := Try.underlying0
  a0 := Try.isAgg0
  z0 := Try.sizeOf0
  v0 := Try.zeroValue0
  t3 := Try.underlying3
  a3 := Try.isAgg3
  z3 := Try.sizeOf3
  v3 := Try.zeroValue3
  t4 := Try.underlying4
  a4 := Try.isAgg4
  z4 := Try.sizeOf4
  v4 := Try.zeroValue4
  t22 := Try.underlying25
  a22 := Try.isAgg25
  z22 := Try.sizeOf25
  v22 := Try.zeroValue25
  a24 := Try.isAgg3
  z24 := Try.sizeOf3
  t25 := Try.underlying80
  a25 := Try.isAgg80
  z25 := Try.sizeOf80
  v25 := Try.zeroValue80
  t70 := Try.underlying168
  a70 := Try.isAgg168
  z70 := Try.sizeOf168
  v70 := Try.zeroValue168
  t77 := Try.underlying120
  a77 := Try.isAgg120
  z77 := Try.sizeOf120
  v77 := Try.zeroValue120 }
open Go.RowKit Go.Lib Go.Sort in
/-- slices.medianAdjacentCmpFunc at elements of one cell. (LAID AT THE INSTANCE 'slices.medianAdjacentCmpFunc[int]': no walk: one application.) -/
theorem Try.medianAdjacentCmpFunc {α : Type} [Inhabited α] (enc : α → Value) (cf : α → α → Int) (g : Nat) (cb : Array Value) (blk off cap a c s : Nat) (d0 d : Array α) (w0 W : World) (eg : ∀ args w, (callFunc g args).run Try.prog w = .ok (.enter g args) w) (hcmp : CmpLays1 Try.prog g cb enc cf blk off d0.size w0) (R : Row1 enc w0 blk off d0) (hs : d0.size = d.size) (C : Cnt1 enc w0 blk off d c s W) (ha1 : 1 ≤ a) (ha2 : a + 1 < d.size) (hsz : d.size < 4611686018427387904) (hss : s + 3 < 4611686018427387904) :
    Calls Try.prog 157 #[.slice (some ⟨blk, off, none⟩) d.size cap, .int .i64 a, .pointer (some ⟨c, 0, none⟩), .func (.func g) #[] cb] W fun e w' =>
      e = .returned (.int .i64 (medianAdjacent (ltOf cf) d a s).1) ∧ Cnt1 enc w0 blk off d c (medianAdjacent (ltOf cf) d a s).2 w' := Any.medianAdjacentCmpFunc Try.laysSlF49_f157 enc cf g cb blk off cap a c s d0 d w0 W eg hcmp R hs C ha1 ha2 hsz hss
def Try.laysSlF23_f135_ren : Go.Shelf.Ren := ⟨fun | 23 => 135 | 49 => 157 | 50 => 158 | 57 => 162 | n => n, fun | 24 => 3 | 22 => 25 | 3 => 3 | 25 => 80 | 45 => 150 | 0 => 0 | 4 => 4 | 70 => 168 | 77 => 120 | n => n, fun | n => n⟩
theorem Try.laysSlF23_f135 : Go.Proofs.SlLaysF.n23 Try.prog Try.laysSlF23_f135_ren := {
  mixed := by kernel_rfl
  f23 := ⟨Try.f135.name, by decide, Try.func135.trans (congrArg some (by kernel_rfl))⟩
  f49 := ⟨Try.f157.name, by decide, Try.func157.trans (congrArg some (by kernel_rfl))⟩
  f50 := ⟨Try.f158.name, by decide, Try.func158.trans (congrArg some (by kernel_rfl))⟩
  f57 := ⟨Try.f162.name, by decide, Try.func162.trans (congrArg some (by kernel_rfl))⟩
  t0 := Try.underlying0
  a0 := Try.isAgg0
  z0 := Try.sizeOf0
  v0 := Try.zeroValue0
  t3 := Try.underlying3
  a3 := Try.isAgg3
  z3 := Try.sizeOf3
  v3 := Try.zeroValue3
  t4 := Try.underlying4
  a4 := Try.isAgg4
  z4 := Try.sizeOf4
  v4 := Try.zeroValue4
  t22 := Try.underlying25
  a22 := Try.isAgg25
  z22 := Try.sizeOf25
  v22 := Try.zeroValue25
  a24 := Try.isAgg3
  z24 := Try.sizeOf3
  t25 := Try.underlying80
  a25 := Try.isAgg80
  z25 := Try.sizeOf80
  v25 := Try.zeroValue80
  t45 := Try.underlying150
  a45 := Try.isAgg150
  z45 := Try.sizeOf150
  v45 := Try.zeroValue150
  t70 := Try.underlying168
  a70 := Try.isAgg168
  z70 := Try.sizeOf168
  v70 := Try.zeroValue168
  t77 := Try.underlying120
  a77 := Try.isAgg120
  z77 := Try.sizeOf120
  v77 := Try.zeroValue120 }
open Go.RowKit Go.Lib Go.Sort in
/-- slices.choosePivotCmpFunc at elements of one cell: THE LIBRARY's OWN TEXT COMPUTES 'Sort.choosePivot (ltOf cf) d a b'; the row is not turned. (After Derived/Shelf/SlSortFuncK/PivotK.lean, row for row; the counter's world by 'CntK'.) (LAID AT THE INSTANCE 'slices.choosePivotCmpFunc[int]': no walk: one application.) -/
theorem Try.choosePivotCmpFunc {α : Type} [Inhabited α] (enc : α → Value) (cf : α → α → Int) (g : Nat) (cb : Array Value) (blk off cap a b : Nat) (d0 d : Array α) (w0 W : World) (eg : ∀ args w, (callFunc g args).run Try.prog w = .ok (.enter g args) w) (hcmp : CmpLays1 Try.prog g cb enc cf blk off d0.size w0) (R : Row1 enc w0 blk off d0) (hs : d0.size = d.size) (S : SW enc w0 blk off d W) (hab : a < b) (hb : b ≤ d.size) (hsz : d.size < 4611686018427387904) :
    Calls Try.prog 135 #[.slice (some ⟨blk, off, none⟩) d.size cap, .int .i64 a, .int .i64 b, .func (.func g) #[] cb] W fun e w' =>
      e = .returned (.tuple #[.int .i64 (choosePivot (ltOf cf) d a b).1, .int .i64 (hintCode (choosePivot (ltOf cf) d a b).2)]) ∧ SW enc w0 blk off d w' := Any.choosePivotCmpFunc Try.laysSlF23_f135 enc cf g cb blk off cap a b d0 d w0 W eg hcmp R hs S hab hb hsz
def Try.laysSlF24_f136_ren : Go.Shelf.Ren := ⟨fun | 24 => 136 | n => n, fun | 24 => 3 | 22 => 25 | 3 => 3 | 25 => 80 | 4 => 4 | 0 => 0 | n => n, fun | n => n⟩
theorem Try.laysSlF24_f136 : Go.Proofs.SlLaysF.n24 Try.prog Try.laysSlF24_f136_ren := {
  mixed := by kernel_rfl
  f24 := ⟨Try.f136.name, by decide, Try.func136.trans (congrArg some (by kernel_rfl))⟩
  t0 := Try.underlying0
  a0 := Try.isAgg0
  z0 := Try.sizeOf0
  v0 := Try.zeroValue0
  t3 := Try.underlying3
  a3 := Try.isAgg3
  z3 := Try.sizeOf3
  v3 := Try.zeroValue3
  t4 := Try.underlying4
  a4 := Try.isAgg4
  z4 := Try.sizeOf4
  v4 := Try.zeroValue4
  t22 := Try.underlying25
  a22 := Try.isAgg25
  z22 := Try.sizeOf25
  v22 := Try.zeroValue25
  a24 := Try.isAgg3
  z24 := Try.sizeOf3
  t25 := Try.underlying80
  a25 := Try.isAgg80
  z25 := Try.sizeOf80
  v25 := Try.zeroValue80 }
open Go.RowKit Go.Lib Go.Sort in
/-- slices.reverseRangeCmpFunc at elements of one cell: it exchanges and does not compare. (LAID AT THE INSTANCE 'slices.reverseRangeCmpFunc[int]': no walk: one application.) -/
theorem Try.reverseRangeCmpFunc {α : Type} [Inhabited α] (enc : α → Value) (g : Nat) (cb : Array Value) (blk off cap a b : Nat) (d0 d : Array α) (w0 w : World) (R : Row1 enc w0 blk off d0) (hs : d0.size = d.size) (S : SW enc w0 blk off d w) (hab : a ≤ b) (hb : b ≤ d.size) (hsz : d.size < 4611686018427387904) :
    Calls Try.prog 136 #[.slice (some ⟨blk, off, none⟩) d.size cap, .int .i64 a, .int .i64 b, .func (.func g) #[] cb] w fun e w' => e = .returned (.tuple #[]) ∧ SW enc w0 blk off (reverseRange d a b) w' := Any.reverseRangeCmpFunc Try.laysSlF24_f136 enc g cb blk off cap a b d0 d w0 w R hs S hab hb hsz
def Try.laysSlF25_f137_ren : Go.Shelf.Ren := ⟨fun | 25 => 137 | n => n, fun | 24 => 3 | 22 => 25 | 3 => 3 | 25 => 80 | 4 => 4 | 0 => 0 | n => n, fun | n => n⟩
theorem Try.laysSlF25_f137 : Go.Proofs.SlLaysF.n25 Try.prog Try.laysSlF25_f137_ren := {
  mixed := by kernel_rfl
  f25 := ⟨Try.f137.name, by decide, Try.func137.trans (congrArg some (by kernel_rfl))⟩
  t0 := Try.underlying0
  a0 := Try.isAgg0
  z0 := Try.sizeOf0
  v0 := Try.zeroValue0
  t3 := Try.underlying3
  a3 := Try.isAgg3
  z3 := Try.sizeOf3
  v3 := Try.zeroValue3
  t4 := Try.underlying4
  a4 := Try.isAgg4
  z4 := Try.sizeOf4
  v4 := Try.zeroValue4
  t22 := Try.underlying25
  a22 := Try.isAgg25
  z22 := Try.sizeOf25
  v22 := Try.zeroValue25
  a24 := Try.isAgg3
  z24 := Try.sizeOf3
  t25 := Try.underlying80
  a25 := Try.isAgg80
  z25 := Try.sizeOf80
  v25 := Try.zeroValue80 }
open Go.RowKit Go.Lib Go.Sort in
/-- slices.partialInsertionSortCmpFunc at elements of one cell. (LAID AT THE INSTANCE 'slices.partialInsertionSortCmpFunc[int]': no walk: one application.) -/
theorem Try.partialInsertionSortCmpFunc {α : Type} [Inhabited α] (enc : α → Value) (cf : α → α → Int) (g : Nat) (cb : Array Value) (blk off cap a b : Nat) (d0 d : Array α) (w0 w : World) (eg : ∀ args w, (callFunc g args).run Try.prog w = .ok (.enter g args) w) (hcmp : CmpLays1 Try.prog g cb enc cf blk off d0.size w0) (R : Row1 enc w0 blk off d0) (hs : d0.size = d.size) (S : SW enc w0 blk off d w) (hab : a < b) (hb : b ≤ d.size) (hsz : d.size < 4611686018427387904) :
    Calls Try.prog 137 #[.slice (some ⟨blk, off, none⟩) d.size cap, .int .i64 a, .int .i64 b, .func (.func g) #[] cb] w fun e w' =>
      e = .returned (.bool (Sort.partialInsertionSort (ltOf cf) d a b).2) ∧ SW enc w0 blk off (Sort.partialInsertionSort (ltOf cf) d a b).1 w' := Any.partialInsertionSortCmpFunc Try.laysSlF25_f137 enc cf g cb blk off cap a b d0 d w0 w eg hcmp R hs S hab hb hsz
def Try.laysSlF26_f138_ren : Go.Shelf.Ren := ⟨fun | 26 => 138 | n => n, fun | 24 => 3 | 22 => 25 | 3 => 3 | 25 => 80 | 0 => 0 | 4 => 4 | n => n, fun | n => n⟩
theorem Try.laysSlF26_f138 : Go.Proofs.SlLaysF.n26 Try.prog Try.laysSlF26_f138_ren := {
  mixed := by kernel_rfl
  f26 := ⟨Try.f138.name, by decide, Try.func138.trans (congrArg some (by kernel_rfl))⟩
  t0 := Try.underlying0
  a0 := Try.isAgg0
  z0 := Try.sizeOf0
  v0 := Try.zeroValue0
  t3 := Try.underlying3
  a3 := Try.isAgg3
  z3 := Try.sizeOf3
  v3 := Try.zeroValue3
  t4 := Try.underlying4
  a4 := Try.isAgg4
  z4 := Try.sizeOf4
  v4 := Try.zeroValue4
  t22 := Try.underlying25
  a22 := Try.isAgg25
  z22 := Try.sizeOf25
  v22 := Try.zeroValue25
  a24 := Try.isAgg3
  z24 := Try.sizeOf3
  t25 := Try.underlying80
  a25 := Try.isAgg80
  z25 := Try.sizeOf80
  v25 := Try.zeroValue80 }
open Go.RowKit Go.Lib Go.Sort in
/-- slices.partitionEqualCmpFunc at elements of one cell. (After Derived/Shelf/SlSortFuncK/PartitionK.lean, row for row.) (LAID AT THE INSTANCE 'slices.partitionEqualCmpFunc[int]': no walk: one application.) -/
theorem Try.partitionEqualCmpFunc {α : Type} [Inhabited α] (enc : α → Value) (cf : α → α → Int) (g : Nat) (cb : Array Value) (blk off cap a b pivot : Nat) (d0 d : Array α) (w0 w : World) (eg : ∀ args w, (callFunc g args).run Try.prog w = .ok (.enter g args) w) (hcmp : CmpLays1 Try.prog g cb enc cf blk off d0.size w0) (R : Row1 enc w0 blk off d0) (hs : d0.size = d.size) (S : SW enc w0 blk off d w) (hap : a ≤ pivot) (hpb : pivot < b) (hb : b ≤ d.size) (hsz : d.size < 4611686018427387904) :
    Calls Try.prog 138 #[.slice (some ⟨blk, off, none⟩) d.size cap, .int .i64 a, .int .i64 b, .int .i64 pivot, .func (.func g) #[] cb] w fun e w' =>
      e = .returned (.int .i64 (Sort.partitionEqual (ltOf cf) d a b pivot).1) ∧ SW enc w0 blk off (Sort.partitionEqual (ltOf cf) d a b pivot).2 w' := Any.partitionEqualCmpFunc Try.laysSlF26_f138 enc cf g cb blk off cap a b pivot d0 d w0 w eg hcmp R hs S hap hpb hb hsz
def Try.laysSlF27_f139_ren : Go.Shelf.Ren := ⟨fun | 27 => 139 | n => n, fun | 24 => 3 | 22 => 25 | 3 => 3 | 25 => 80 | 4 => 4 | 0 => 0 | n => n, fun | n => n⟩
theorem Try.laysSlF27_f139 : Go.Proofs.SlLaysF.n27 Try.prog Try.laysSlF27_f139_ren := {
  mixed := by kernel_rfl
  f27 := ⟨Try.f139.name, by decide, Try.func139.trans (congrArg some (by kernel_rfl))⟩
  t0 := Try.underlying0
  a0 := Try.isAgg0
  z0 := Try.sizeOf0
  v0 := Try.zeroValue0
  t3 := Try.underlying3
  a3 := Try.isAgg3
  z3 := Try.sizeOf3
  v3 := Try.zeroValue3
  t4 := Try.underlying4
  a4 := Try.isAgg4
  z4 := Try.sizeOf4
  v4 := Try.zeroValue4
  t22 := Try.underlying25
  a22 := Try.isAgg25
  z22 := Try.sizeOf25
  v22 := Try.zeroValue25
  a24 := Try.isAgg3
  z24 := Try.sizeOf3
  t25 := Try.underlying80
  a25 := Try.isAgg80
  z25 := Try.sizeOf80
  v25 := Try.zeroValue80 }
open Go.RowKit Go.Lib Go.Sort in
/-- slices.partitionCmpFunc at elements of one cell. (After Derived/Shelf/SlSortFuncK/PartitionK.lean, row for row.) (LAID AT THE INSTANCE 'slices.partitionCmpFunc[int]': no walk: one application.) -/
theorem Try.partitionCmpFunc {α : Type} [Inhabited α] (enc : α → Value) (cf : α → α → Int) (g : Nat) (cb : Array Value) (blk off cap a b pivot : Nat) (d0 d : Array α) (w0 w : World) (eg : ∀ args w, (callFunc g args).run Try.prog w = .ok (.enter g args) w) (hcmp : CmpLays1 Try.prog g cb enc cf blk off d0.size w0) (R : Row1 enc w0 blk off d0) (hs : d0.size = d.size) (S : SW enc w0 blk off d w) (hap : a ≤ pivot) (hpb : pivot < b) (hb : b ≤ d.size) (hsz : d.size < 4611686018427387904) :
    Calls Try.prog 139 #[.slice (some ⟨blk, off, none⟩) d.size cap, .int .i64 a, .int .i64 b, .int .i64 pivot, .func (.func g) #[] cb] w fun e w' =>
      e = .returned (.tuple #[.int .i64 (Sort.partition (ltOf cf) d a b pivot).1, .bool (Sort.partition (ltOf cf) d a b pivot).2.1]) ∧ SW enc w0 blk off (Sort.partition (ltOf cf) d a b pivot).2.2 w' := Any.partitionCmpFunc Try.laysSlF27_f139 enc cf g cb blk off cap a b pivot d0 d w0 w eg hcmp R hs S hap hpb hb hsz
def Try.laysSlF14_f108_ren : Go.Shelf.Ren := ⟨fun | 14 => 108 | 20 => 132 | 21 => 133 | 22 => 134 | 23 => 135 | 24 => 136 | 25 => 137 | 26 => 138 | 27 => 139 | 46 => 154 | 47 => 155 | 48 => 156 | 49 => 157 | 50 => 158 | 15 => 109 | 57 => 162 | 28 => 140 | 29 => 141 | n => n, fun | 24 => 3 | 22 => 25 | 3 => 3 | 25 => 80 | 4 => 4 | 0 => 0 | 46 => 151 | 45 => 150 | 50 => 124 | 66 => 164 | 39 => 98 | 55 => 132 | 70 => 168 | 76 => 174 | 77 => 120 | 53 => 130 | 5 => 5 | 9 => 9 | n => n, fun | n => n⟩
theorem Try.laysSlF14_f108 : Go.Proofs.SlLaysF.n14 Try.prog Try.laysSlF14_f108_ren := {
  mixed := by kernel_rfl
  f14 := ⟨Try.f108.name, by decide, Try.func108.trans (congrArg some (by kernel_rfl))⟩
  f15 := Try.func109.trans (congrArg some (by kernel_rfl))
  f20 := ⟨Try.f132.name, by decide, Try.func132.trans (congrArg some (by kernel_rfl))⟩
  f21 := ⟨Try.f133.name, by decide, Try.func133.trans (congrArg some (by kernel_rfl))⟩
  f22 := ⟨Try.f134.name, by decide, Try.func134.trans (congrArg some (by kernel_rfl))⟩
  f23 := ⟨Try.f135.name, by decide, Try.func135.trans (congrArg some (by kernel_rfl))⟩
  f24 := ⟨Try.f136.name, by decide, Try.func136.trans (congrArg some (by kernel_rfl))⟩
  f25 := ⟨Try.f137.name, by decide, Try.func137.trans (congrArg some (by kernel_rfl))⟩
  f26 := ⟨Try.f138.name, by decide, Try.func138.trans (congrArg some (by kernel_rfl))⟩
  f27 := ⟨Try.f139.name, by decide, Try.func139.trans (congrArg some (by kernel_rfl))⟩
  f28 := Try.func140.trans (congrArg some (by kernel_rfl))
  f29 := Try.func141.trans (congrArg some (by kernel_rfl))
  f46 := ⟨Try.f154.name, by decide, Try.func154.trans (congrArg some (by kernel_rfl))⟩
  f47 := Try.func155.trans (congrArg some (by kernel_rfl))
  f48 := Try.func156.trans (congrArg some (by kernel_rfl))
  f49 := ⟨Try.f157.name, by decide, Try.func157.trans (congrArg some (by kernel_rfl))⟩
  f50 := ⟨Try.f158.name, by decide, Try.func158.trans (congrArg some (by kernel_rfl))⟩
  f57 := ⟨Try.f162.name, by decide, Try.func162.trans (congrArg some (by kernel_rfl))⟩
  t0 := Try.underlying0
  a0 := Try.isAgg0
  z0 := Try.sizeOf0
  v0 := Try.zeroValue0
  t3 := Try.underlying3
  a3 := Try.isAgg3
  z3 := Try.sizeOf3
  v3 := Try.zeroValue3
  t4 := Try.underlying4
  a4 := Try.isAgg4
  z4 := Try.sizeOf4
  v4 := Try.zeroValue4
  t5 := Try.underlying5
  a5 := Try.isAgg5
  z5 := Try.sizeOf5
  v5 := Try.zeroValue5
  t9 := Try.underlying9
  a9 := Try.isAgg9
  z9 := Try.sizeOf9
  v9 := Try.zeroValue9
  t22 := Try.underlying25
  a22 := Try.isAgg25
  z22 := Try.sizeOf25
  v22 := Try.zeroValue25
  a24 := Try.isAgg3
  z24 := Try.sizeOf3
  t25 := Try.underlying80
  a25 := Try.isAgg80
  z25 := Try.sizeOf80
  v25 := Try.zeroValue80
  t39 := Try.underlying98
  a39 := Try.isAgg98
  z39 := Try.sizeOf98
  v39 := Try.zeroValue98
  t45 := Try.underlying150
  a45 := Try.isAgg150
  z45 := Try.sizeOf150
  v45 := Try.zeroValue150
  t46 := Try.underlying151
  a46 := Try.isAgg151
  z46 := Try.sizeOf151
  v46 := Try.zeroValue151
  t50 := Try.underlying124
  a50 := Try.isAgg124
  z50 := Try.sizeOf124
  v50 := Try.zeroValue124
  t53 := Try.underlying130
  a53 := Try.isAgg130
  z53 := Try.sizeOf130
  v53 := Try.zeroValue130
  t55 := Try.underlying132
  a55 := Try.isAgg132
  z55 := Try.sizeOf132
  v55 := Try.zeroValue132
  t66 := Try.underlying164
  a66 := Try.isAgg164
  z66 := Try.sizeOf164
  v66 := Try.zeroValue164
  t70 := Try.underlying168
  a70 := Try.isAgg168
  z70 := Try.sizeOf168
  v70 := Try.zeroValue168
  t76 := Try.underlying174
  a76 := Try.isAgg174
  z76 := Try.sizeOf174
  v76 := Try.zeroValue174
  t77 := Try.underlying120
  a77 := Try.isAgg120
  z77 := Try.sizeOf120
  v77 := Try.zeroValue120 }
open Go.RowKit Go.Lib Go.Sort in
/-- slices.pdqsortCmpFunc at elements of one cell, WHOLE. (After Derived/Shelf/SlSortFuncK/PdqK.lean, row for row: the slots and the regions' numbers are this body's.) (LAID AT THE INSTANCE 'slices.pdqsortCmpFunc[int]': no walk: one application.) -/
theorem Try.pdqsortCmpFunc_all {α : Type} [Inhabited α] (enc : α → Value) (cf : α → α → Int) (g : Nat) (cb : Array Value) (hO : SWO (ltOf cf)) (blk off cap : Nat) (d0 : Array α) (w0 : World) (eg : ∀ args w, (callFunc g args).run Try.prog w = .ok (.enter g args) w) (hcmp : CmpLays1 Try.prog g cb enc cf blk off d0.size w0) (R : Row1 enc w0 blk off d0) :
    ∀ (N a b limit : Nat) (d : Array α) (w : World), b - a < N → d0.size = d.size → SW enc w0 blk off d w → a ≤ b → b ≤ d.size → d.size < 4611686018427387904 → limit < 4611686018427387904 → Below (ltOf cf) a b d →
    Calls Try.prog 108 #[.slice (some ⟨blk, off, none⟩) d.size cap, .int .i64 a, .int .i64 b, .int .i64 limit, .func (.func g) #[] cb] w fun e w' => e = .returned (.tuple #[]) ∧ SW enc w0 blk off (pdq (ltOf cf) d a b limit true true) w' := Any.pdqsortCmpFunc_all Try.laysSlF14_f108 enc cf g cb hO blk off cap d0 w0 eg hcmp R
def Try.laysSlF6_f66_ren : Go.Shelf.Ren := ⟨fun | 6 => 66 | 15 => 109 | 14 => 108 | 28 => 140 | 29 => 141 | 20 => 132 | 21 => 133 | 22 => 134 | 23 => 135 | 24 => 136 | 25 => 137 | 26 => 138 | 27 => 139 | 46 => 154 | 47 => 155 | 48 => 156 | 49 => 157 | 50 => 158 | 57 => 162 | n => n, fun | 22 => 25 | 24 => 3 | 25 => 80 | 3 => 3 | 39 => 98 | 0 => 0 | 53 => 130 | 55 => 132 | 4 => 4 | 46 => 151 | 45 => 150 | 50 => 124 | 5 => 5 | 9 => 9 | 66 => 164 | 70 => 168 | 76 => 174 | 77 => 120 | n => n, fun | n => n⟩
theorem Try.laysSlF6_f66 : Go.Proofs.SlLaysF.n6 Try.prog Try.laysSlF6_f66_ren := {
  mixed := by kernel_rfl
  f6 := ⟨Try.f66.name, by decide, Try.func66.trans (congrArg some (by kernel_rfl))⟩
  f14 := ⟨Try.f108.name, by decide, Try.func108.trans (congrArg some (by kernel_rfl))⟩
  f15 := Try.func109.trans (congrArg some (by kernel_rfl))
  f20 := ⟨Try.f132.name, by decide, Try.func132.trans (congrArg some (by kernel_rfl))⟩
  f21 := ⟨Try.f133.name, by decide, Try.func133.trans (congrArg some (by kernel_rfl))⟩
  f22 := ⟨Try.f134.name, by decide, Try.func134.trans (congrArg some (by kernel_rfl))⟩
  f23 := ⟨Try.f135.name, by decide, Try.func135.trans (congrArg some (by kernel_rfl))⟩
  f24 := ⟨Try.f136.name, by decide, Try.func136.trans (congrArg some (by kernel_rfl))⟩
  f25 := ⟨Try.f137.name, by decide, Try.func137.trans (congrArg some (by kernel_rfl))⟩
  f26 := ⟨Try.f138.name, by decide, Try.func138.trans (congrArg some (by kernel_rfl))⟩
  f27 := ⟨Try.f139.name, by decide, Try.func139.trans (congrArg some (by kernel_rfl))⟩
  f28 := Try.func140.trans (congrArg some (by kernel_rfl))
  f29 := Try.func141.trans (congrArg some (by kernel_rfl))
  f46 := ⟨Try.f154.name, by decide, Try.func154.trans (congrArg some (by kernel_rfl))⟩
  f47 := Try.func155.trans (congrArg some (by kernel_rfl))
  f48 := Try.func156.trans (congrArg some (by kernel_rfl))
  f49 := ⟨Try.f157.name, by decide, Try.func157.trans (congrArg some (by kernel_rfl))⟩
  f50 := ⟨Try.f158.name, by decide, Try.func158.trans (congrArg some (by kernel_rfl))⟩
  f57 := ⟨Try.f162.name, by decide, Try.func162.trans (congrArg some (by kernel_rfl))⟩
  t0 := Try.underlying0
  a0 := Try.isAgg0
  z0 := Try.sizeOf0
  v0 := Try.zeroValue0
  t3 := Try.underlying3
  a3 := Try.isAgg3
  z3 := Try.sizeOf3
  v3 := Try.zeroValue3
  t4 := Try.underlying4
  a4 := Try.isAgg4
  z4 := Try.sizeOf4
  v4 := Try.zeroValue4
  t5 := Try.underlying5
  a5 := Try.isAgg5
  z5 := Try.sizeOf5
  v5 := Try.zeroValue5
  t9 := Try.underlying9
  a9 := Try.isAgg9
  z9 := Try.sizeOf9
  v9 := Try.zeroValue9
  t22 := Try.underlying25
  a22 := Try.isAgg25
  z22 := Try.sizeOf25
  v22 := Try.zeroValue25
  a24 := Try.isAgg3
  z24 := Try.sizeOf3
  t25 := Try.underlying80
  a25 := Try.isAgg80
  z25 := Try.sizeOf80
  v25 := Try.zeroValue80
  t39 := Try.underlying98
  a39 := Try.isAgg98
  z39 := Try.sizeOf98
  v39 := Try.zeroValue98
  t45 := Try.underlying150
  a45 := Try.isAgg150
  z45 := Try.sizeOf150
  v45 := Try.zeroValue150
  t46 := Try.underlying151
  a46 := Try.isAgg151
  z46 := Try.sizeOf151
  v46 := Try.zeroValue151
  t50 := Try.underlying124
  a50 := Try.isAgg124
  z50 := Try.sizeOf124
  v50 := Try.zeroValue124
  t53 := Try.underlying130
  a53 := Try.isAgg130
  z53 := Try.sizeOf130
  v53 := Try.zeroValue130
  t55 := Try.underlying132
  a55 := Try.isAgg132
  z55 := Try.sizeOf132
  v55 := Try.zeroValue132
  t66 := Try.underlying164
  a66 := Try.isAgg164
  z66 := Try.sizeOf164
  v66 := Try.zeroValue164
  t70 := Try.underlying168
  a70 := Try.isAgg168
  z70 := Try.sizeOf168
  v70 := Try.zeroValue168
  t76 := Try.underlying174
  a76 := Try.isAgg174
  z76 := Try.sizeOf174
  v76 := Try.zeroValue174
  t77 := Try.underlying120
  a77 := Try.isAgg120
  z77 := Try.sizeOf120
  v77 := Try.zeroValue120 }
open Go.RowKit Go.Lib Go.Sort in
/-- **slices.SortFunc: WHAT THE ROW HOLDS, TO THE ELEMENT.** (LAID AT THE INSTANCE 'slices.SortFunc[[]int,int]': no walk: one application.) -/
theorem Try.slices_SortFunc_eq {α : Type} [Inhabited α] (enc : α → Value) (h1 : OneCell enc) (cf : α → α → Int) (hO : SWO (ltOf cf)) (g : Nat) (cb : Array Value) (blk off cap : Nat) (d : Array α) (w : World) (eg : ∀ args w, (callFunc g args).run Try.prog w = .ok (.enter g args) w) (hcmp : CmpLays1 Try.prog g cb enc cf blk off d.size w) (hH : Holds enc w blk off d) (hblk : blk < w.heap.size) (hsz : d.size < 4611686018427387904) :
    Calls Try.prog 66 #[.slice (some ⟨blk, off, none⟩) d.size cap, .func (.func g) #[] cb] w fun e w' =>
      e = .returned (.tuple #[]) ∧ ∃ n os, w' = sortWorld enc w blk off n (pdq (ltOf cf) d 0 d.size (Lib.bitLen d.size) true true) os := Any.slices_SortFunc_eq Try.laysSlF6_f66 enc h1 cf hO g cb blk off cap d w eg hcmp hH hblk hsz
open Go.RowKit Go.Lib Go.Sort in
/-- **slices.SortFunc, IN THE DOCUMENTATION's OWN TERMS: A PERMUTATION OF WHAT THE ROW HELD, SORTED BY 'cmp(a, b) < 0'.** Which of two equals comes first is left open ("The sort is not guaranteed to be stable"). (LAID AT THE INSTANCE 'slices.SortFunc[[]int,int]': no walk: one application.) -/
theorem Try.slices_SortFunc {α : Type} [Inhabited α] (enc : α → Value) (h1 : OneCell enc) (cf : α → α → Int) (hO : SWO (ltOf cf)) (g : Nat) (cb : Array Value) (blk off cap : Nat) (d : Array α) (w : World) (eg : ∀ args w, (callFunc g args).run Try.prog w = .ok (.enter g args) w) (hcmp : CmpLays1 Try.prog g cb enc cf blk off d.size w) (hH : Holds enc w blk off d) (hblk : blk < w.heap.size) (hsz : d.size < 4611686018427387904) :
    Calls Try.prog 66 #[.slice (some ⟨blk, off, none⟩) d.size cap, .func (.func g) #[] cb] w fun e w' =>
      e = .returned (.tuple #[]) ∧ ∃ d' n os, PermIn 0 d.size d d' ∧ SortedIn (ltOf cf) 0 d.size d' ∧ w' = sortWorld enc w blk off n d' os := Any.slices_SortFunc Try.laysSlF6_f66 enc h1 cf hO g cb blk off cap d w eg hcmp hH hblk hsz
def Try.laysSlF020_f132_ren : Go.Shelf.Ren := ⟨fun | 20 => 132 | n => n, fun | 24 => 3 | 22 => 25 | 3 => 3 | 25 => 80 | 4 => 4 | 0 => 0 | n => n, fun | n => n⟩
theorem Try.laysSlF020_f132 : Go.Proofs.SlLaysF0.n20 Try.prog Try.laysSlF020_f132_ren := {
  mixed := by kernel_rfl
  f20 := ⟨Try.f132.name, by decide, Try.func132.trans (congrArg some (by kernel_rfl))⟩
  t0 := Try.underlying0
  a0 := Try.isAgg0
  z0 := Try.sizeOf0
  v0 := Try.zeroValue0
  t3 := Try.underlying3
  a3 := Try.isAgg3
  z3 := Try.sizeOf3
  v3 := Try.zeroValue3
  t4 := Try.underlying4
  a4 := Try.isAgg4
  z4 := Try.sizeOf4
  v4 := Try.zeroValue4
  t22 := Try.underlying25
  a22 := Try.isAgg25
  z22 := Try.sizeOf25
  v22 := Try.zeroValue25
  t25 := Try.underlying80
  a25 := Try.isAgg80
  z25 := Try.sizeOf80
  v25 := Try.zeroValue80 }
open Go.RowKit Go.Lib Go.Sort in
theorem Try.insertionSortCmpFunc_none {α : Type} [Inhabited α] (p : Option Addr) (cap : Nat) (fv : Value) (w : World) :
    Calls Try.prog 132 #[.slice p 0 cap, .int .i64 0, .int .i64 0, fv] w fun e w' => e = .returned (.tuple #[]) ∧ w' = w := AnyF.insertionSortCmpFunc_none Try.laysSlF020_f132 p cap fv w
def Try.laysSlF014_f108_ren : Go.Shelf.Ren := ⟨fun | 14 => 108 | 20 => 132 | 21 => 133 | 22 => 134 | 23 => 135 | 24 => 136 | 25 => 137 | 26 => 138 | 27 => 139 | 46 => 154 | 47 => 155 | 48 => 156 | 49 => 157 | 50 => 158 | 15 => 109 | 57 => 162 | 28 => 140 | 29 => 141 | n => n, fun | 24 => 3 | 22 => 25 | 3 => 3 | 25 => 80 | 4 => 4 | 0 => 0 | 46 => 151 | 45 => 150 | 50 => 124 | 66 => 164 | 39 => 98 | 55 => 132 | 70 => 168 | 76 => 174 | 77 => 120 | 53 => 130 | 5 => 5 | 9 => 9 | n => n, fun | n => n⟩
theorem Try.laysSlF014_f108 : Go.Proofs.SlLaysF0.n14 Try.prog Try.laysSlF014_f108_ren := {
  mixed := by kernel_rfl
  f14 := ⟨Try.f108.name, by decide, Try.func108.trans (congrArg some (by kernel_rfl))⟩
  f15 := Try.func109.trans (congrArg some (by kernel_rfl))
  f20 := ⟨Try.f132.name, by decide, Try.func132.trans (congrArg some (by kernel_rfl))⟩
  f21 := ⟨Try.f133.name, by decide, Try.func133.trans (congrArg some (by kernel_rfl))⟩
  f22 := ⟨Try.f134.name, by decide, Try.func134.trans (congrArg some (by kernel_rfl))⟩
  f23 := ⟨Try.f135.name, by decide, Try.func135.trans (congrArg some (by kernel_rfl))⟩
  f24 := ⟨Try.f136.name, by decide, Try.func136.trans (congrArg some (by kernel_rfl))⟩
  f25 := ⟨Try.f137.name, by decide, Try.func137.trans (congrArg some (by kernel_rfl))⟩
  f26 := ⟨Try.f138.name, by decide, Try.func138.trans (congrArg some (by kernel_rfl))⟩
  f27 := ⟨Try.f139.name, by decide, Try.func139.trans (congrArg some (by kernel_rfl))⟩
  f28 := Try.func140.trans (congrArg some (by kernel_rfl))
  f29 := Try.func141.trans (congrArg some (by kernel_rfl))
  f46 := ⟨Try.f154.name, by decide, Try.func154.trans (congrArg some (by kernel_rfl))⟩
  f47 := Try.func155.trans (congrArg some (by kernel_rfl))
  f48 := Try.func156.trans (congrArg some (by kernel_rfl))
  f49 := ⟨Try.f157.name, by decide, Try.func157.trans (congrArg some (by kernel_rfl))⟩
  f50 := ⟨Try.f158.name, by decide, Try.func158.trans (congrArg some (by kernel_rfl))⟩
  f57 := ⟨Try.f162.name, by decide, Try.func162.trans (congrArg some (by kernel_rfl))⟩
  t0 := Try.underlying0
  a0 := Try.isAgg0
  z0 := Try.sizeOf0
  v0 := Try.zeroValue0
  t3 := Try.underlying3
  a3 := Try.isAgg3
  z3 := Try.sizeOf3
  v3 := Try.zeroValue3
  t4 := Try.underlying4
  a4 := Try.isAgg4
  z4 := Try.sizeOf4
  v4 := Try.zeroValue4
  t5 := Try.underlying5
  a5 := Try.isAgg5
  z5 := Try.sizeOf5
  v5 := Try.zeroValue5
  t9 := Try.underlying9
  a9 := Try.isAgg9
  z9 := Try.sizeOf9
  v9 := Try.zeroValue9
  t22 := Try.underlying25
  a22 := Try.isAgg25
  z22 := Try.sizeOf25
  v22 := Try.zeroValue25
  t25 := Try.underlying80
  a25 := Try.isAgg80
  z25 := Try.sizeOf80
  v25 := Try.zeroValue80
  t39 := Try.underlying98
  a39 := Try.isAgg98
  z39 := Try.sizeOf98
  v39 := Try.zeroValue98
  t45 := Try.underlying150
  a45 := Try.isAgg150
  z45 := Try.sizeOf150
  v45 := Try.zeroValue150
  t46 := Try.underlying151
  a46 := Try.isAgg151
  z46 := Try.sizeOf151
  v46 := Try.zeroValue151
  t50 := Try.underlying124
  a50 := Try.isAgg124
  z50 := Try.sizeOf124
  v50 := Try.zeroValue124
  t53 := Try.underlying130
  a53 := Try.isAgg130
  z53 := Try.sizeOf130
  v53 := Try.zeroValue130
  t55 := Try.underlying132
  a55 := Try.isAgg132
  z55 := Try.sizeOf132
  v55 := Try.zeroValue132
  t66 := Try.underlying164
  a66 := Try.isAgg164
  z66 := Try.sizeOf164
  v66 := Try.zeroValue164
  t70 := Try.underlying168
  a70 := Try.isAgg168
  z70 := Try.sizeOf168
  v70 := Try.zeroValue168
  t76 := Try.underlying174
  a76 := Try.isAgg174
  z76 := Try.sizeOf174
  v76 := Try.zeroValue174
  t77 := Try.underlying120
  a77 := Try.isAgg120
  z77 := Try.sizeOf120
  v77 := Try.zeroValue120 }
open Go.RowKit Go.Lib Go.Sort in
theorem Try.pdqsortCmpFunc_none {α : Type} [Inhabited α] (p : Option Addr) (cap : Nat) (lim : Int) (fv : Value) (w : World) :
    Calls Try.prog 108 #[.slice p 0 cap, .int .i64 0, .int .i64 0, .int .i64 lim, fv] w fun e w' => e = .returned (.tuple #[]) ∧ w' = w := AnyF.pdqsortCmpFunc_none Try.laysSlF014_f108 p cap lim fv w
def Try.laysSlF06_f66_ren : Go.Shelf.Ren := ⟨fun | 6 => 66 | 15 => 109 | 14 => 108 | 28 => 140 | 29 => 141 | 20 => 132 | 21 => 133 | 22 => 134 | 23 => 135 | 24 => 136 | 25 => 137 | 26 => 138 | 27 => 139 | 46 => 154 | 47 => 155 | 48 => 156 | 49 => 157 | 50 => 158 | 57 => 162 | n => n, fun | 22 => 25 | 24 => 3 | 25 => 80 | 3 => 3 | 39 => 98 | 0 => 0 | 53 => 130 | 55 => 132 | 4 => 4 | 46 => 151 | 45 => 150 | 50 => 124 | 5 => 5 | 9 => 9 | 66 => 164 | 70 => 168 | 76 => 174 | 77 => 120 | n => n, fun | n => n⟩
theorem Try.laysSlF06_f66 : Go.Proofs.SlLaysF0.n6 Try.prog Try.laysSlF06_f66_ren := {
  mixed := by kernel_rfl
  f6 := ⟨Try.f66.name, by decide, Try.func66.trans (congrArg some (by kernel_rfl))⟩
  f14 := ⟨Try.f108.name, by decide, Try.func108.trans (congrArg some (by kernel_rfl))⟩
  f15 := Try.func109.trans (congrArg some (by kernel_rfl))
  f20 := ⟨Try.f132.name, by decide, Try.func132.trans (congrArg some (by kernel_rfl))⟩
  f21 := ⟨Try.f133.name, by decide, Try.func133.trans (congrArg some (by kernel_rfl))⟩
  f22 := ⟨Try.f134.name, by decide, Try.func134.trans (congrArg some (by kernel_rfl))⟩
  f23 := ⟨Try.f135.name, by decide, Try.func135.trans (congrArg some (by kernel_rfl))⟩
  f24 := ⟨Try.f136.name, by decide, Try.func136.trans (congrArg some (by kernel_rfl))⟩
  f25 := ⟨Try.f137.name, by decide, Try.func137.trans (congrArg some (by kernel_rfl))⟩
  f26 := ⟨Try.f138.name, by decide, Try.func138.trans (congrArg some (by kernel_rfl))⟩
  f27 := ⟨Try.f139.name, by decide, Try.func139.trans (congrArg some (by kernel_rfl))⟩
  f28 := Try.func140.trans (congrArg some (by kernel_rfl))
  f29 := Try.func141.trans (congrArg some (by kernel_rfl))
  f46 := ⟨Try.f154.name, by decide, Try.func154.trans (congrArg some (by kernel_rfl))⟩
  f47 := Try.func155.trans (congrArg some (by kernel_rfl))
  f48 := Try.func156.trans (congrArg some (by kernel_rfl))
  f49 := ⟨Try.f157.name, by decide, Try.func157.trans (congrArg some (by kernel_rfl))⟩
  f50 := ⟨Try.f158.name, by decide, Try.func158.trans (congrArg some (by kernel_rfl))⟩
  f57 := ⟨Try.f162.name, by decide, Try.func162.trans (congrArg some (by kernel_rfl))⟩
  t0 := Try.underlying0
  a0 := Try.isAgg0
  z0 := Try.sizeOf0
  v0 := Try.zeroValue0
  t3 := Try.underlying3
  a3 := Try.isAgg3
  z3 := Try.sizeOf3
  v3 := Try.zeroValue3
  t4 := Try.underlying4
  a4 := Try.isAgg4
  z4 := Try.sizeOf4
  v4 := Try.zeroValue4
  t5 := Try.underlying5
  a5 := Try.isAgg5
  z5 := Try.sizeOf5
  v5 := Try.zeroValue5
  t9 := Try.underlying9
  a9 := Try.isAgg9
  z9 := Try.sizeOf9
  v9 := Try.zeroValue9
  t22 := Try.underlying25
  a22 := Try.isAgg25
  z22 := Try.sizeOf25
  v22 := Try.zeroValue25
  t25 := Try.underlying80
  a25 := Try.isAgg80
  z25 := Try.sizeOf80
  v25 := Try.zeroValue80
  t39 := Try.underlying98
  a39 := Try.isAgg98
  z39 := Try.sizeOf98
  v39 := Try.zeroValue98
  t45 := Try.underlying150
  a45 := Try.isAgg150
  z45 := Try.sizeOf150
  v45 := Try.zeroValue150
  t46 := Try.underlying151
  a46 := Try.isAgg151
  z46 := Try.sizeOf151
  v46 := Try.zeroValue151
  t50 := Try.underlying124
  a50 := Try.isAgg124
  z50 := Try.sizeOf124
  v50 := Try.zeroValue124
  t53 := Try.underlying130
  a53 := Try.isAgg130
  z53 := Try.sizeOf130
  v53 := Try.zeroValue130
  t55 := Try.underlying132
  a55 := Try.isAgg132
  z55 := Try.sizeOf132
  v55 := Try.zeroValue132
  t66 := Try.underlying164
  a66 := Try.isAgg164
  z66 := Try.sizeOf164
  v66 := Try.zeroValue164
  t70 := Try.underlying168
  a70 := Try.isAgg168
  z70 := Try.sizeOf168
  v70 := Try.zeroValue168
  t76 := Try.underlying174
  a76 := Try.isAgg174
  z76 := Try.sizeOf174
  v76 := Try.zeroValue174
  t77 := Try.underlying120
  a77 := Try.isAgg120
  z77 := Try.sizeOf120
  v77 := Try.zeroValue120 }
open Go.RowKit Go.Lib Go.Sort in
/-- **slices.SortFunc AT NO ELEMENT, A nil SLICE TOO: nothing turns.** (LAID AT THE INSTANCE 'slices.SortFunc[[]int,int]': no walk: one application.) -/
theorem Try.slices_SortFunc_none {α : Type} [Inhabited α] (p : Option Addr) (cap : Nat) (fv : Value) (w : World) :
    Calls Try.prog 66 #[.slice p 0 cap, fv] w fun e w' => e = .returned (.tuple #[]) ∧ w' = w := AnyF.slices_SortFunc_none Try.laysSlF06_f66 p cap fv w
open Go.RowKit Go.Lib Go.Sort in
/-- **slices.SortFunc AT ONE CELL, UNDER A 'cmp' THAT PARTS WHATEVER TWO THAT ARE NOT ONE: THE ROW HOLDS core's 'mergeSort'.** (LAID AT THE INSTANCE 'slices.SortFunc[[]int,int]': no walk: one application.) -/
theorem Try.slices_SortFunc_total {α : Type} [Inhabited α] (enc : α → Value) (h1 : OneCell enc) (cf : α → α → Int) (hO : SWO (ltOf cf)) (g : Nat) (cb : Array Value) (blk off cap : Nat) (d : Array α) (w : World) (eg : ∀ args w, (callFunc g args).run Try.prog w = .ok (.enter g args) w) (hcmp : CmpLays1 Try.prog g cb enc cf blk off d.size w) (hH : Holds enc w blk off d) (hblk : blk < w.heap.size) (hsz : d.size < 4611686018427387904) (hT : ∀ x y, (ltOf cf) x y = false → (ltOf cf) y x = false → x = y) :
    Calls Try.prog 66 #[.slice (some ⟨blk, off, none⟩) d.size cap, .func (.func g) #[] cb] w fun e w' =>
      e = .returned (.tuple #[]) ∧ ∃ n os, w' = sortWorld enc w blk off n (d.toList.mergeSort fun x y => !(ltOf cf) y x).toArray os := Any.slices_SortFunc_total Try.laysSlF6_f66 enc h1 cf hO g cb blk off cap d w eg hcmp hH hblk hsz hT
end Go.Proofs
