/-
  DERIVED: THE SHELF's CONTRACTS AT THIS DUMP, IN PLAIN WORDS (tools/lay-plain.mjs out of 'TryShelf.lean', which tools/lay-shelf.mjs wrote): THE SAME DECLARATIONS UNDER THE SAME NAMES: 'import', 'namespace', 'open', 'def', 'theorem' AND NOTHING ELSE: no command of the shelf's: FOR A HAND-IN. Each laying: the table of numbers ('.._ren') and one theorem, a field a fact of the dump's own or the kernel's comparison; each contract: ONE APPLICATION.
-/
import Derived.Shelf.Small.Bits
import Derived.Shelf.Small.Wraps
import Derived.Shelf.Strconv.Itoa0
import Derived.Shelf.Bits.Mul64
import Derived.Ground.Names2Prog
import Derived.Shelf.Slices.SearchI
import Derived.Ground.SlgfProg
import Derived.Shelf.SlicesE.IndexFunc
import Derived.Ground.SlsfProg
import Derived.Shelf.SlSortCmp.Insertion
import Derived.Shelf.SlSortCmp.SiftDown1
import Derived.Shelf.SlSortCmp.HeapSort1
import Derived.Shelf.SlSortCmp.Insertion1
import Derived.Shelf.SlSortCmp.Median1
import Derived.Shelf.SlSortCmp.Pivot1
import Derived.Shelf.SlSortCmp.ReverseRange1
import Derived.Shelf.SlSortCmp.PartialInsertion1
import Derived.Shelf.SlSortCmp.PartitionEqual1
import Derived.Shelf.SlSortCmp.Partition1
import Derived.Shelf.SlSortCmp.Pdq1
import Derived.Shelf.SlSortCmp.Whole1
import Derived.Shelf.SlSortCmp.NoneTotal
import Derived.Test.YtdnddikchchdkaaProg
namespace Go.Proofs
open Go.Shelf
def Try.lays134_ren : Go.Shelf.Ren := ⟨fun | 134 => 85 | 129 => 96 | n => n, fun | 53 => 73 | 3 => 3 | 4 => 4 | 46 => 96 | 5 => 5 | 9 => 9 | n => n, fun | n => n⟩
theorem Try.lays134 : Go.Proofs.Lays.n134 Try.prog Try.lays134_ren := {
  mixed := by kernel_rfl
  f129 := Try.func96.trans (congrArg some (by kernel_rfl))
  f134 := Try.func85.trans (congrArg some (by kernel_rfl))
  t3 := Try.underlying3
  a3 := Try.isAgg3
  z3 := Try.sizeOf3
  v3 := Try.zeroValue3
  t4 := Try.underlying4
  a4 := Try.isAgg4
  z4 := Try.sizeOf4
  v4 := Try.zeroValue4
  t5 := Try.underlying5
  a5 := Try.isAgg5
  z5 := Try.sizeOf5
  v5 := Try.zeroValue5
  t9 := Try.underlying9
  a9 := Try.isAgg9
  z9 := Try.sizeOf9
  v9 := Try.zeroValue9
  t46 := Try.underlying96
  a46 := Try.isAgg96
  z46 := Try.sizeOf96
  v46 := Try.zeroValue96
  t53 := Try.underlying73
  a53 := Try.isAgg73
  z53 := Try.sizeOf73
  v53 := Try.zeroValue73 }
/-- bits.LeadingZeros64: "LeadingZeros64 returns the number of leading zero bits in x; the result is 64 for x == 0.": IT RETURNS '64 - Lib.bitLen x'; the world is as it was. ITS CALLEE bits.Len64 IS MET BY ITS OWN CONTRACT OFF THE SHELF (lay that first): entered in place it sends the kernel out of memory. (LAID: no walk: one application.) -/
theorem Try.bits_LeadingZeros64 (x : Int) (w : World) (h0 : 0 ≤ x) (h1 : x ≤ 18446744073709551615) :
    Calls Try.prog 85 #[.int .u64 x] w fun e w' => e = .returned (.int .i64 (64 - (Lib.bitLen x.toNat : Int))) ∧ w' = w := Any.bits_LeadingZeros64 Try.lays134 x w h0 h1
def Try.lays122_ren : Go.Shelf.Ren := ⟨fun | 122 => 60 | 215 => 82 | n => n, fun | 3 => 3 | 4 => 4 | n => n, fun | n => n⟩
theorem Try.lays122 : Go.Proofs.Lays.n122 Try.prog Try.lays122_ren := {
  mixed := by kernel_rfl
  f122 := Try.func60.trans (congrArg some (by kernel_rfl))
  f215 := Try.func82.trans (congrArg some (by kernel_rfl))
  t3 := Try.underlying3
  a3 := Try.isAgg3
  z3 := Try.sizeOf3
  v3 := Try.zeroValue3
  t4 := Try.underlying4
  a4 := Try.isAgg4
  z4 := Try.sizeOf4
  v4 := Try.zeroValue4 }
open Go.RowKit in
/-- cmp.Compare at int: "Compare returns -1 if x is less than y, 0 if x equals y, +1 if x is greater than y.": IT RETURNS 'Lib.compareInt x y'; the world is as it was. (LAID: no walk: one application.) -/
theorem Try.cmp_Compare_int (x y : Int) (w : World) :
    Calls Try.prog 60 #[.int .i64 x, .int .i64 y] w fun e w' => e = .returned (.int .i64 (Lib.compareInt x y)) ∧ w' = w := Any.cmp_Compare_int Try.lays122 x y w
def Try.lays264_ren : Go.Shelf.Ren := ⟨fun | 264 => 54 | n => n, fun | 53 => 73 | 46 => 96 | n => n, fun | n => n⟩
theorem Try.lays264 : Go.Proofs.Lays.n264 Try.prog Try.lays264_ren := {
  mixed := by kernel_rfl
  f264 := Try.func54.trans (congrArg some (by kernel_rfl))
  t46 := Try.underlying96
  a46 := Try.isAgg96
  z46 := Try.sizeOf96
  v46 := Try.zeroValue96
  t53 := Try.underlying73
  a53 := Try.isAgg73
  z53 := Try.sizeOf73
  v53 := Try.zeroValue73 }
open Go.RowKit Go.Lib in
theorem Try.bits_Mul64 (x y : Nat) (hx : x < 18446744073709551616) (hy : y < 18446744073709551616) (w : World) :
    Calls Try.prog 54 #[.int .u64 x, .int .u64 y] w fun e w' => e = .returned (.tuple #[.int .u64 ((x * y / 18446744073709551616 : Nat) : Int), .int .u64 ((x * y % 18446744073709551616 : Nat) : Int)]) ∧ w' = w := Any.bits_Mul64 Try.lays264 x y hx hy w
def Try.laysSlH8_f55_ren : Go.Shelf.Ren := ⟨fun | 8 => 55 | 6 => 79 | n => n, fun | 22 => 22 | 23 => 3 | 25 => 66 | 4 => 4 | 3 => 3 | 0 => 0 | n => n, fun | n => n⟩
theorem Try.laysSlH8_f55 : Go.Proofs.SlLaysH.n8 Try.prog Try.laysSlH8_f55_ren := {
  mixed := by kernel_rfl
  f6 := ⟨Try.f79.name, by decide, Try.func79.trans (congrArg some (by kernel_rfl))⟩
  f8 := ⟨Try.f55.name, by decide, Try.func55.trans (congrArg some (by kernel_rfl))⟩
  t0 := Try.underlying0
  a0 := Try.isAgg0
  z0 := Try.sizeOf0
  v0 := Try.zeroValue0
  t3 := Try.underlying3
  a3 := Try.isAgg3
  z3 := Try.sizeOf3
  v3 := Try.zeroValue3
  t4 := Try.underlying4
  a4 := Try.isAgg4
  z4 := Try.sizeOf4
  v4 := Try.zeroValue4
  t22 := Try.underlying22
  a22 := Try.isAgg22
  z22 := Try.sizeOf22
  v22 := Try.zeroValue22
  a23 := Try.isAgg3
  z23 := Try.sizeOf3
  t25 := Try.underlying66
  a25 := Try.isAgg66
  z25 := Try.sizeOf66
  v25 := Try.zeroValue66 }
open Go.RowKit Go.Lib in
/-- slices.ContainsFunc: "ContainsFunc reports whether at least one element e of s satisfies f(e).": ITS CALLEE slices.IndexFunc IS MET BY ITS OWN CONTRACT. (LAID AT THE INSTANCE 'slices.ContainsFunc[[]int,int]': no walk: one application.) -/
theorem Try.slices_ContainsFunc {α : Type} [Inhabited α] (enc : α → Value) (p : α → Bool) (g : Nat) (lb : Array Value) (eg : ∀ args w, (callFunc g args).run Try.prog w = .ok (.enter g args) w) (b off n c : Nat) (zs : List α) (w : World) (hp : PredAt Try.prog g lb enc p w) (hz : n ≤ zs.length) (hbig : n ≤ 9223372036854775807) (hc : ∀ j, j < zs.length → w.cell? ⟨b, off + j, none⟩ = some (enc zs[j]!)) :
    Calls Try.prog 55 #[.slice (some ⟨b, off, none⟩) n c, .func (.func g) #[] lb] w fun e w' => e = .returned (.bool ((zs.take n).any p)) ∧ ∃ q, w' = w.drewN q := AnyE.slices_ContainsFunc Try.laysSlH8_f55 enc p g lb eg b off n c zs w hp hz hbig hc
open Go.RowKit Go.Lib in
/-- The same at a slice of length 0, a nil one too. (LAID AT THE INSTANCE 'slices.ContainsFunc[[]int,int]': no walk: one application.) -/
theorem Try.slices_ContainsFunc_empty {α : Type} [Inhabited α] (a : Option Addr) (c : Nat) (fv : Value) (w : World) :
    Calls Try.prog 55 #[.slice a 0 c, fv] w fun e w' => e = .returned (.bool false) ∧ w' = w := AnyE.slices_ContainsFunc_empty Try.laysSlH8_f55 a c fv w
def Try.laysSlF6_f57_ren : Go.Shelf.Ren := ⟨fun | 6 => 57 | 15 => 81 | 14 => 80 | 28 => 95 | 29 => 96 | 20 => 87 | 21 => 88 | 22 => 89 | 23 => 90 | 24 => 91 | 25 => 92 | 26 => 93 | 27 => 94 | 46 => 105 | 47 => 106 | 48 => 107 | 49 => 108 | 50 => 109 | 57 => 113 | n => n, fun | 22 => 22 | 24 => 3 | 25 => 27 | 3 => 3 | 39 => 96 | 0 => 0 | 53 => 115 | 55 => 73 | 4 => 4 | 46 => 108 | 45 => 107 | 50 => 112 | 5 => 5 | 9 => 9 | 66 => 121 | 70 => 125 | 76 => 129 | 77 => 67 | n => n, fun | n => n⟩
theorem Try.laysSlF6_f57 : Go.Proofs.SlLaysF.n6 Try.prog Try.laysSlF6_f57_ren := {
  mixed := by kernel_rfl
  f6 := ⟨Try.f57.name, by decide, Try.func57.trans (congrArg some (by kernel_rfl))⟩
  f14 := ⟨Try.f80.name, by decide, Try.func80.trans (congrArg some (by kernel_rfl))⟩
  f15 := Try.func81.trans (congrArg some (by kernel_rfl))
  f20 := ⟨Try.f87.name, by decide, Try.func87.trans (congrArg some (by kernel_rfl))⟩
  f21 := ⟨Try.f88.name, by decide, Try.func88.trans (congrArg some (by kernel_rfl))⟩
  f22 := ⟨Try.f89.name, by decide, Try.func89.trans (congrArg some (by kernel_rfl))⟩
  f23 := ⟨Try.f90.name, by decide, Try.func90.trans (congrArg some (by kernel_rfl))⟩
  f24 := ⟨Try.f91.name, by decide, Try.func91.trans (congrArg some (by kernel_rfl))⟩
  f25 := ⟨Try.f92.name, by decide, Try.func92.trans (congrArg some (by kernel_rfl))⟩
  f26 := ⟨Try.f93.name, by decide, Try.func93.trans (congrArg some (by kernel_rfl))⟩
  f27 := ⟨Try.f94.name, by decide, Try.func94.trans (congrArg some (by kernel_rfl))⟩
  f28 := Try.func95.trans (congrArg some (by kernel_rfl))
  f29 := Try.func96.trans (congrArg some (by kernel_rfl))
  f46 := ⟨Try.f105.name, by decide, Try.func105.trans (congrArg some (by kernel_rfl))⟩
  f47 := Try.func106.trans (congrArg some (by kernel_rfl))
  f48 := Try.func107.trans (congrArg some (by kernel_rfl))
  f49 := ⟨Try.f108.name, by decide, Try.func108.trans (congrArg some (by kernel_rfl))⟩
  f50 := ⟨Try.f109.name, by decide, Try.func109.trans (congrArg some (by kernel_rfl))⟩
  f57 := ⟨Try.f113.name, by decide, Try.func113.trans (congrArg some (by kernel_rfl))⟩
  t0 := Try.underlying0
  a0 := Try.isAgg0
  z0 := Try.sizeOf0
  v0 := Try.zeroValue0
  t3 := Try.underlying3
  a3 := Try.isAgg3
  z3 := Try.sizeOf3
  v3 := Try.zeroValue3
  t4 := Try.underlying4
  a4 := Try.isAgg4
  z4 := Try.sizeOf4
  v4 := Try.zeroValue4
  t5 := Try.underlying5
  a5 := Try.isAgg5
  z5 := Try.sizeOf5
  v5 := Try.zeroValue5
  t9 := Try.underlying9
  a9 := Try.isAgg9
  z9 := Try.sizeOf9
  v9 := Try.zeroValue9
  t22 := Try.underlying22
  a22 := Try.isAgg22
  z22 := Try.sizeOf22
  v22 := Try.zeroValue22
  a24 := Try.isAgg3
  z24 := Try.sizeOf3
  t25 := Try.underlying27
  a25 := Try.isAgg27
  z25 := Try.sizeOf27
  v25 := Try.zeroValue27
  t39 := Try.underlying96
  a39 := Try.isAgg96
  z39 := Try.sizeOf96
  v39 := Try.zeroValue96
  t45 := Try.underlying107
  a45 := Try.isAgg107
  z45 := Try.sizeOf107
  v45 := Try.zeroValue107
  t46 := Try.underlying108
  a46 := Try.isAgg108
  z46 := Try.sizeOf108
  v46 := Try.zeroValue108
  t50 := Try.underlying112
  a50 := Try.isAgg112
  z50 := Try.sizeOf112
  v50 := Try.zeroValue112
  t53 := Try.underlying115
  a53 := Try.isAgg115
  z53 := Try.sizeOf115
  v53 := Try.zeroValue115
  t55 := Try.underlying73
  a55 := Try.isAgg73
  z55 := Try.sizeOf73
  v55 := Try.zeroValue73
  t66 := Try.underlying121
  a66 := Try.isAgg121
  z66 := Try.sizeOf121
  v66 := Try.zeroValue121
  t70 := Try.underlying125
  a70 := Try.isAgg125
  z70 := Try.sizeOf125
  v70 := Try.zeroValue125
  t76 := Try.underlying129
  a76 := Try.isAgg129
  z76 := Try.sizeOf129
  v76 := Try.zeroValue129
  t77 := Try.underlying67
  a77 := Try.isAgg67
  z77 := Try.sizeOf67
  v77 := Try.zeroValue67 }
def Try.laysSlF06_f57_ren : Go.Shelf.Ren := ⟨fun | 6 => 57 | 15 => 81 | 14 => 80 | 28 => 95 | 29 => 96 | 20 => 87 | 21 => 88 | 22 => 89 | 23 => 90 | 24 => 91 | 25 => 92 | 26 => 93 | 27 => 94 | 46 => 105 | 47 => 106 | 48 => 107 | 49 => 108 | 50 => 109 | 57 => 113 | n => n, fun | 22 => 22 | 24 => 3 | 25 => 27 | 3 => 3 | 39 => 96 | 0 => 0 | 53 => 115 | 55 => 73 | 4 => 4 | 46 => 108 | 45 => 107 | 50 => 112 | 5 => 5 | 9 => 9 | 66 => 121 | 70 => 125 | 76 => 129 | 77 => 67 | n => n, fun | n => n⟩
theorem Try.laysSlF06_f57 : Go.Proofs.SlLaysF0.n6 Try.prog Try.laysSlF06_f57_ren := {
  mixed := by kernel_rfl
  f6 := ⟨Try.f57.name, by decide, Try.func57.trans (congrArg some (by kernel_rfl))⟩
  f14 := ⟨Try.f80.name, by decide, Try.func80.trans (congrArg some (by kernel_rfl))⟩
  f15 := Try.func81.trans (congrArg some (by kernel_rfl))
  f20 := ⟨Try.f87.name, by decide, Try.func87.trans (congrArg some (by kernel_rfl))⟩
  f21 := ⟨Try.f88.name, by decide, Try.func88.trans (congrArg some (by kernel_rfl))⟩
  f22 := ⟨Try.f89.name, by decide, Try.func89.trans (congrArg some (by kernel_rfl))⟩
  f23 := ⟨Try.f90.name, by decide, Try.func90.trans (congrArg some (by kernel_rfl))⟩
  f24 := ⟨Try.f91.name, by decide, Try.func91.trans (congrArg some (by kernel_rfl))⟩
  f25 := ⟨Try.f92.name, by decide, Try.func92.trans (congrArg some (by kernel_rfl))⟩
  f26 := ⟨Try.f93.name, by decide, Try.func93.trans (congrArg some (by kernel_rfl))⟩
  f27 := ⟨Try.f94.name, by decide, Try.func94.trans (congrArg some (by kernel_rfl))⟩
  f28 := Try.func95.trans (congrArg some (by kernel_rfl))
  f29 := Try.func96.trans (congrArg some (by kernel_rfl))
  f46 := ⟨Try.f105.name, by decide, Try.func105.trans (congrArg some (by kernel_rfl))⟩
  f47 := Try.func106.trans (congrArg some (by kernel_rfl))
  f48 := Try.func107.trans (congrArg some (by kernel_rfl))
  f49 := ⟨Try.f108.name, by decide, Try.func108.trans (congrArg some (by kernel_rfl))⟩
  f50 := ⟨Try.f109.name, by decide, Try.func109.trans (congrArg some (by kernel_rfl))⟩
  f57 := ⟨Try.f113.name, by decide, Try.func113.trans (congrArg some (by kernel_rfl))⟩
  t0 := Try.underlying0
  a0 := Try.isAgg0
  z0 := Try.sizeOf0
  v0 := Try.zeroValue0
  t3 := Try.underlying3
  a3 := Try.isAgg3
  z3 := Try.sizeOf3
  v3 := Try.zeroValue3
  t4 := Try.underlying4
  a4 := Try.isAgg4
  z4 := Try.sizeOf4
  v4 := Try.zeroValue4
  t5 := Try.underlying5
  a5 := Try.isAgg5
  z5 := Try.sizeOf5
  v5 := Try.zeroValue5
  t9 := Try.underlying9
  a9 := Try.isAgg9
  z9 := Try.sizeOf9
  v9 := Try.zeroValue9
  t22 := Try.underlying22
  a22 := Try.isAgg22
  z22 := Try.sizeOf22
  v22 := Try.zeroValue22
  t25 := Try.underlying27
  a25 := Try.isAgg27
  z25 := Try.sizeOf27
  v25 := Try.zeroValue27
  t39 := Try.underlying96
  a39 := Try.isAgg96
  z39 := Try.sizeOf96
  v39 := Try.zeroValue96
  t45 := Try.underlying107
  a45 := Try.isAgg107
  z45 := Try.sizeOf107
  v45 := Try.zeroValue107
  t46 := Try.underlying108
  a46 := Try.isAgg108
  z46 := Try.sizeOf108
  v46 := Try.zeroValue108
  t50 := Try.underlying112
  a50 := Try.isAgg112
  z50 := Try.sizeOf112
  v50 := Try.zeroValue112
  t53 := Try.underlying115
  a53 := Try.isAgg115
  z53 := Try.sizeOf115
  v53 := Try.zeroValue115
  t55 := Try.underlying73
  a55 := Try.isAgg73
  z55 := Try.sizeOf73
  v55 := Try.zeroValue73
  t66 := Try.underlying121
  a66 := Try.isAgg121
  z66 := Try.sizeOf121
  v66 := Try.zeroValue121
  t70 := Try.underlying125
  a70 := Try.isAgg125
  z70 := Try.sizeOf125
  v70 := Try.zeroValue125
  t76 := Try.underlying129
  a76 := Try.isAgg129
  z76 := Try.sizeOf129
  v76 := Try.zeroValue129
  t77 := Try.underlying67
  a77 := Try.isAgg67
  z77 := Try.sizeOf67
  v77 := Try.zeroValue67 }
open Go.RowKit Go.Lib Go.Sort in
/-- **slices.SortFunc AT NO ELEMENT, A nil SLICE TOO: nothing turns.** (LAID AT THE INSTANCE 'slices.SortFunc[[]int,int]': no walk: one application.) -/
theorem Try.slices_SortFunc_none {α : Type} [Inhabited α] (p : Option Addr) (cap : Nat) (fv : Value) (w : World) :
    Calls Try.prog 57 #[.slice p 0 cap, fv] w fun e w' => e = .returned (.tuple #[]) ∧ w' = w := AnyF.slices_SortFunc_none Try.laysSlF06_f57 p cap fv w
open Go.RowKit Go.Lib Go.Sort in
/-- **slices.SortFunc AT ONE CELL, UNDER A 'cmp' THAT PARTS WHATEVER TWO THAT ARE NOT ONE: THE ROW HOLDS core's 'mergeSort'.** (LAID AT THE INSTANCE 'slices.SortFunc[[]int,int]': no walk: one application.) -/
theorem Try.slices_SortFunc_total {α : Type} [Inhabited α] (enc : α → Value) (h1 : OneCell enc) (cf : α → α → Int) (hO : SWO (ltOf cf)) (g : Nat) (cb : Array Value) (blk off cap : Nat) (d : Array α) (w : World) (eg : ∀ args w, (callFunc g args).run Try.prog w = .ok (.enter g args) w) (hcmp : CmpLays1 Try.prog g cb enc cf blk off d.size w) (hH : Holds enc w blk off d) (hblk : blk < w.heap.size) (hsz : d.size < 4611686018427387904) (hT : ∀ x y, (ltOf cf) x y = false → (ltOf cf) y x = false → x = y) :
    Calls Try.prog 57 #[.slice (some ⟨blk, off, none⟩) d.size cap, .func (.func g) #[] cb] w fun e w' =>
      e = .returned (.tuple #[]) ∧ ∃ n os, w' = sortWorld enc w blk off n (d.toList.mergeSort fun x y => !(ltOf cf) y x).toArray os := Any.slices_SortFunc_total Try.laysSlF6_f57 enc h1 cf hO g cb blk off cap d w eg hcmp hH hblk hsz hT
def Try.laysSlF06_f64_ren : Go.Shelf.Ren := ⟨fun | 6 => 64 | 15 => 81 | 14 => 84 | 28 => 95 | 29 => 96 | 20 => 97 | 21 => 98 | 22 => 99 | 23 => 100 | 24 => 101 | 25 => 102 | 26 => 103 | 27 => 104 | 46 => 110 | 47 => 106 | 48 => 107 | 49 => 111 | 50 => 112 | 57 => 114 | n => n, fun | 22 => 84 | 24 => 85 | 25 => 87 | 3 => 3 | 39 => 96 | 0 => 0 | 53 => 115 | 55 => 73 | 4 => 4 | 46 => 108 | 45 => 107 | 50 => 112 | 5 => 5 | 9 => 9 | 66 => 121 | 70 => 125 | 76 => 129 | 77 => 67 | n => n, fun | n => n⟩
theorem Try.laysSlF06_f64 : Go.Proofs.SlLaysF0.n6 Try.prog Try.laysSlF06_f64_ren := {
  mixed := by kernel_rfl
  f6 := ⟨Try.f64.name, by decide, Try.func64.trans (congrArg some (by kernel_rfl))⟩
  f14 := ⟨Try.f84.name, by decide, Try.func84.trans (congrArg some (by kernel_rfl))⟩
  f15 := Try.func81.trans (congrArg some (by kernel_rfl))
  f20 := ⟨Try.f97.name, by decide, Try.func97.trans (congrArg some (by kernel_rfl))⟩
  f21 := ⟨Try.f98.name, by decide, Try.func98.trans (congrArg some (by kernel_rfl))⟩
  f22 := ⟨Try.f99.name, by decide, Try.func99.trans (congrArg some (by kernel_rfl))⟩
  f23 := ⟨Try.f100.name, by decide, Try.func100.trans (congrArg some (by kernel_rfl))⟩
  f24 := ⟨Try.f101.name, by decide, Try.func101.trans (congrArg some (by kernel_rfl))⟩
  f25 := ⟨Try.f102.name, by decide, Try.func102.trans (congrArg some (by kernel_rfl))⟩
  f26 := ⟨Try.f103.name, by decide, Try.func103.trans (congrArg some (by kernel_rfl))⟩
  f27 := ⟨Try.f104.name, by decide, Try.func104.trans (congrArg some (by kernel_rfl))⟩
  f28 := Try.func95.trans (congrArg some (by kernel_rfl))
  f29 := Try.func96.trans (congrArg some (by kernel_rfl))
  f46 := ⟨Try.f110.name, by decide, Try.func110.trans (congrArg some (by kernel_rfl))⟩
  f47 := Try.func106.trans (congrArg some (by kernel_rfl))
  f48 := Try.func107.trans (congrArg some (by kernel_rfl))
  f49 := ⟨Try.f111.name, by decide, Try.func111.trans (congrArg some (by kernel_rfl))⟩
  f50 := ⟨Try.f112.name, by decide, Try.func112.trans (congrArg some (by kernel_rfl))⟩
  f57 := ⟨Try.f114.name, by decide, Try.func114.trans (congrArg some (by kernel_rfl))⟩
  t0 := Try.underlying0
  a0 := Try.isAgg0
  z0 := Try.sizeOf0
  v0 := Try.zeroValue0
  t3 := Try.underlying3
  a3 := Try.isAgg3
  z3 := Try.sizeOf3
  v3 := Try.zeroValue3
  t4 := Try.underlying4
  a4 := Try.isAgg4
  z4 := Try.sizeOf4
  v4 := Try.zeroValue4
  t5 := Try.underlying5
  a5 := Try.isAgg5
  z5 := Try.sizeOf5
  v5 := Try.zeroValue5
  t9 := Try.underlying9
  a9 := Try.isAgg9
  z9 := Try.sizeOf9
  v9 := Try.zeroValue9
  t22 := Try.underlying84
  a22 := Try.isAgg84
  z22 := Try.sizeOf84
  v22 := Try.zeroValue84
  t25 := Try.underlying87
  a25 := Try.isAgg87
  z25 := Try.sizeOf87
  v25 := Try.zeroValue87
  t39 := Try.underlying96
  a39 := Try.isAgg96
  z39 := Try.sizeOf96
  v39 := Try.zeroValue96
  t45 := Try.underlying107
  a45 := Try.isAgg107
  z45 := Try.sizeOf107
  v45 := Try.zeroValue107
  t46 := Try.underlying108
  a46 := Try.isAgg108
  z46 := Try.sizeOf108
  v46 := Try.zeroValue108
  t50 := Try.underlying112
  a50 := Try.isAgg112
  z50 := Try.sizeOf112
  v50 := Try.zeroValue112
  t53 := Try.underlying115
  a53 := Try.isAgg115
  z53 := Try.sizeOf115
  v53 := Try.zeroValue115
  t55 := Try.underlying73
  a55 := Try.isAgg73
  z55 := Try.sizeOf73
  v55 := Try.zeroValue73
  t66 := Try.underlying121
  a66 := Try.isAgg121
  z66 := Try.sizeOf121
  v66 := Try.zeroValue121
  t70 := Try.underlying125
  a70 := Try.isAgg125
  z70 := Try.sizeOf125
  v70 := Try.zeroValue125
  t76 := Try.underlying129
  a76 := Try.isAgg129
  z76 := Try.sizeOf129
  v76 := Try.zeroValue129
  t77 := Try.underlying67
  a77 := Try.isAgg67
  z77 := Try.sizeOf67
  v77 := Try.zeroValue67 }
open Go.RowKit Go.Lib Go.Sort in
/-- **slices.SortFunc AT NO ELEMENT, A nil SLICE TOO: nothing turns.** (LAID AT THE INSTANCE 'slices.SortFunc[[]int,int]': no walk: one application.) -/
theorem Try.slices_SortFunc_none_ptr {α : Type} [Inhabited α] (p : Option Addr) (cap : Nat) (fv : Value) (w : World) :
    Calls Try.prog 64 #[.slice p 0 cap, fv] w fun e w' => e = .returned (.tuple #[]) ∧ w' = w := AnyF.slices_SortFunc_none Try.laysSlF06_f64 p cap fv w
def Try.laysSlF6_f64_ren : Go.Shelf.Ren := ⟨fun | 6 => 64 | 15 => 81 | 14 => 84 | 28 => 95 | 29 => 96 | 20 => 97 | 21 => 98 | 22 => 99 | 23 => 100 | 24 => 101 | 25 => 102 | 26 => 103 | 27 => 104 | 46 => 110 | 47 => 106 | 48 => 107 | 49 => 111 | 50 => 112 | 57 => 114 | n => n, fun | 22 => 84 | 24 => 85 | 25 => 87 | 3 => 3 | 39 => 96 | 0 => 0 | 53 => 115 | 55 => 73 | 4 => 4 | 46 => 108 | 45 => 107 | 50 => 112 | 5 => 5 | 9 => 9 | 66 => 121 | 70 => 125 | 76 => 129 | 77 => 67 | n => n, fun | n => n⟩
theorem Try.laysSlF6_f64 : Go.Proofs.SlLaysF.n6 Try.prog Try.laysSlF6_f64_ren := {
  mixed := by kernel_rfl
  f6 := ⟨Try.f64.name, by decide, Try.func64.trans (congrArg some (by kernel_rfl))⟩
  f14 := ⟨Try.f84.name, by decide, Try.func84.trans (congrArg some (by kernel_rfl))⟩
  f15 := Try.func81.trans (congrArg some (by kernel_rfl))
  f20 := ⟨Try.f97.name, by decide, Try.func97.trans (congrArg some (by kernel_rfl))⟩
  f21 := ⟨Try.f98.name, by decide, Try.func98.trans (congrArg some (by kernel_rfl))⟩
  f22 := ⟨Try.f99.name, by decide, Try.func99.trans (congrArg some (by kernel_rfl))⟩
  f23 := ⟨Try.f100.name, by decide, Try.func100.trans (congrArg some (by kernel_rfl))⟩
  f24 := ⟨Try.f101.name, by decide, Try.func101.trans (congrArg some (by kernel_rfl))⟩
  f25 := ⟨Try.f102.name, by decide, Try.func102.trans (congrArg some (by kernel_rfl))⟩
  f26 := ⟨Try.f103.name, by decide, Try.func103.trans (congrArg some (by kernel_rfl))⟩
  f27 := ⟨Try.f104.name, by decide, Try.func104.trans (congrArg some (by kernel_rfl))⟩
  f28 := Try.func95.trans (congrArg some (by kernel_rfl))
  f29 := Try.func96.trans (congrArg some (by kernel_rfl))
  f46 := ⟨Try.f110.name, by decide, Try.func110.trans (congrArg some (by kernel_rfl))⟩
  f47 := Try.func106.trans (congrArg some (by kernel_rfl))
  f48 := Try.func107.trans (congrArg some (by kernel_rfl))
  f49 := ⟨Try.f111.name, by decide, Try.func111.trans (congrArg some (by kernel_rfl))⟩
  f50 := ⟨Try.f112.name, by decide, Try.func112.trans (congrArg some (by kernel_rfl))⟩
  f57 := ⟨Try.f114.name, by decide, Try.func114.trans (congrArg some (by kernel_rfl))⟩
  t0 := Try.underlying0
  a0 := Try.isAgg0
  z0 := Try.sizeOf0
  v0 := Try.zeroValue0
  t3 := Try.underlying3
  a3 := Try.isAgg3
  z3 := Try.sizeOf3
  v3 := Try.zeroValue3
  t4 := Try.underlying4
  a4 := Try.isAgg4
  z4 := Try.sizeOf4
  v4 := Try.zeroValue4
  t5 := Try.underlying5
  a5 := Try.isAgg5
  z5 := Try.sizeOf5
  v5 := Try.zeroValue5
  t9 := Try.underlying9
  a9 := Try.isAgg9
  z9 := Try.sizeOf9
  v9 := Try.zeroValue9
  t22 := Try.underlying84
  a22 := Try.isAgg84
  z22 := Try.sizeOf84
  v22 := Try.zeroValue84
  a24 := Try.isAgg85
  z24 := Try.sizeOf85
  t25 := Try.underlying87
  a25 := Try.isAgg87
  z25 := Try.sizeOf87
  v25 := Try.zeroValue87
  t39 := Try.underlying96
  a39 := Try.isAgg96
  z39 := Try.sizeOf96
  v39 := Try.zeroValue96
  t45 := Try.underlying107
  a45 := Try.isAgg107
  z45 := Try.sizeOf107
  v45 := Try.zeroValue107
  t46 := Try.underlying108
  a46 := Try.isAgg108
  z46 := Try.sizeOf108
  v46 := Try.zeroValue108
  t50 := Try.underlying112
  a50 := Try.isAgg112
  z50 := Try.sizeOf112
  v50 := Try.zeroValue112
  t53 := Try.underlying115
  a53 := Try.isAgg115
  z53 := Try.sizeOf115
  v53 := Try.zeroValue115
  t55 := Try.underlying73
  a55 := Try.isAgg73
  z55 := Try.sizeOf73
  v55 := Try.zeroValue73
  t66 := Try.underlying121
  a66 := Try.isAgg121
  z66 := Try.sizeOf121
  v66 := Try.zeroValue121
  t70 := Try.underlying125
  a70 := Try.isAgg125
  z70 := Try.sizeOf125
  v70 := Try.zeroValue125
  t76 := Try.underlying129
  a76 := Try.isAgg129
  z76 := Try.sizeOf129
  v76 := Try.zeroValue129
  t77 := Try.underlying67
  a77 := Try.isAgg67
  z77 := Try.sizeOf67
  v77 := Try.zeroValue67 }
open Go.RowKit Go.Lib Go.Sort in
/-- **slices.SortFunc AT ONE CELL, UNDER A 'cmp' THAT PARTS WHATEVER TWO THAT ARE NOT ONE: THE ROW HOLDS core's 'mergeSort'.** (LAID AT THE INSTANCE 'slices.SortFunc[[]int,int]': no walk: one application.) -/
theorem Try.slices_SortFunc_total_ptr {α : Type} [Inhabited α] (enc : α → Value) (h1 : OneCell enc) (cf : α → α → Int) (hO : SWO (ltOf cf)) (g : Nat) (cb : Array Value) (blk off cap : Nat) (d : Array α) (w : World) (eg : ∀ args w, (callFunc g args).run Try.prog w = .ok (.enter g args) w) (hcmp : CmpLays1 Try.prog g cb enc cf blk off d.size w) (hH : Holds enc w blk off d) (hblk : blk < w.heap.size) (hsz : d.size < 4611686018427387904) (hT : ∀ x y, (ltOf cf) x y = false → (ltOf cf) y x = false → x = y) :
    Calls Try.prog 64 #[.slice (some ⟨blk, off, none⟩) d.size cap, .func (.func g) #[] cb] w fun e w' =>
      e = .returned (.tuple #[]) ∧ ∃ n os, w' = sortWorld enc w blk off n (d.toList.mergeSort fun x y => !(ltOf cf) y x).toArray os := Any.slices_SortFunc_total Try.laysSlF6_f64 enc h1 cf hO g cb blk off cap d w eg hcmp hH hblk hsz hT
end Go.Proofs
