/-
  DERIVED: THE SHELF's CONTRACTS AT THIS DUMP, IN PLAIN WORDS (tools/lay-plain.mjs out of 'YtcebjhbphcoboaaLaySoftSort.lean', which tools/lay-shelf.mjs wrote): THE SAME DECLARATIONS UNDER THE SAME NAMES: 'import', 'namespace', 'open', 'def', 'theorem' AND NOTHING ELSE: no command of the shelf's: FOR A HAND-IN. Each laying: the table of numbers ('.._ren') and one theorem, a field a fact of the dump's own or the kernel's comparison; each contract: ONE APPLICATION.
-/
import Derived.Shelf.SlSortCmp.NoneTotal
import Derived.Ground.SlsfProg
import Derived.Shelf.SlGeneric
import Derived.Test.YtcebjhbphcoboaaProg
namespace Go.Proofs
open Go.Shelf
def Try.sort_int_ren : Go.Shelf.Ren := ⟨fun | 6 => 55 | 15 => 90 | 14 => 89 | 28 => 111 | 29 => 112 | 20 => 103 | 21 => 104 | 22 => 105 | 23 => 106 | 24 => 107 | 25 => 108 | 26 => 109 | 27 => 110 | 46 => 122 | 47 => 123 | 48 => 124 | 49 => 125 | 50 => 126 | 57 => 128 | n => n, fun | 22 => 46 | 24 => 3 | 25 => 90 | 3 => 3 | 39 => 130 | 0 => 0 | 53 => 91 | 55 => 131 | 4 => 4 | 46 => 142 | 45 => 141 | 50 => 44 | 5 => 5 | 9 => 9 | 66 => 154 | 70 => 158 | 76 => 160 | 77 => 27 | n => n, fun | n => n⟩
theorem Try.sort_int : Go.Proofs.SlLaysF.n6 Try.prog Try.sort_int_ren := {
  mixed := by kernel_rfl
  f6 := ⟨Try.f55.name, by decide, Try.func55.trans (congrArg some (by kernel_rfl))⟩
  f14 := ⟨Try.f89.name, by decide, Try.func89.trans (congrArg some (by kernel_rfl))⟩
  f15 := Try.func90.trans (congrArg some (by kernel_rfl))
  f20 := ⟨Try.f103.name, by decide, Try.func103.trans (congrArg some (by kernel_rfl))⟩
  f21 := ⟨Try.f104.name, by decide, Try.func104.trans (congrArg some (by kernel_rfl))⟩
  f22 := ⟨Try.f105.name, by decide, Try.func105.trans (congrArg some (by kernel_rfl))⟩
  f23 := ⟨Try.f106.name, by decide, Try.func106.trans (congrArg some (by kernel_rfl))⟩
  f24 := ⟨Try.f107.name, by decide, Try.func107.trans (congrArg some (by kernel_rfl))⟩
  f25 := ⟨Try.f108.name, by decide, Try.func108.trans (congrArg some (by kernel_rfl))⟩
  f26 := ⟨Try.f109.name, by decide, Try.func109.trans (congrArg some (by kernel_rfl))⟩
  f27 := ⟨Try.f110.name, by decide, Try.func110.trans (congrArg some (by kernel_rfl))⟩
  f28 := Try.func111.trans (congrArg some (by kernel_rfl))
  f29 := Try.func112.trans (congrArg some (by kernel_rfl))
  f46 := ⟨Try.f122.name, by decide, Try.func122.trans (congrArg some (by kernel_rfl))⟩
  f47 := Try.func123.trans (congrArg some (by kernel_rfl))
  f48 := Try.func124.trans (congrArg some (by kernel_rfl))
  f49 := ⟨Try.f125.name, by decide, Try.func125.trans (congrArg some (by kernel_rfl))⟩
  f50 := ⟨Try.f126.name, by decide, Try.func126.trans (congrArg some (by kernel_rfl))⟩
  f57 := ⟨Try.f128.name, by decide, Try.func128.trans (congrArg some (by kernel_rfl))⟩
  t0 := Try.underlying0
  a0 := Try.isAgg0
  z0 := Try.sizeOf0
  v0 := Try.zeroValue0
  t3 := Try.underlying3
  a3 := Try.isAgg3
  z3 := Try.sizeOf3
  v3 := Try.zeroValue3
  t4 := Try.underlying4
  a4 := Try.isAgg4
  z4 := Try.sizeOf4
  v4 := Try.zeroValue4
  t5 := Try.underlying5
  a5 := Try.isAgg5
  z5 := Try.sizeOf5
  v5 := Try.zeroValue5
  t9 := Try.underlying9
  a9 := Try.isAgg9
  z9 := Try.sizeOf9
  v9 := Try.zeroValue9
  t22 := Try.underlying46
  a22 := Try.isAgg46
  z22 := Try.sizeOf46
  v22 := Try.zeroValue46
  a24 := Try.isAgg3
  z24 := Try.sizeOf3
  t25 := Try.underlying90
  a25 := Try.isAgg90
  z25 := Try.sizeOf90
  v25 := Try.zeroValue90
  t39 := Try.underlying130
  a39 := Try.isAgg130
  z39 := Try.sizeOf130
  v39 := Try.zeroValue130
  t45 := Try.underlying141
  a45 := Try.isAgg141
  z45 := Try.sizeOf141
  v45 := Try.zeroValue141
  t46 := Try.underlying142
  a46 := Try.isAgg142
  z46 := Try.sizeOf142
  v46 := Try.zeroValue142
  t50 := Try.underlying44
  a50 := Try.isAgg44
  z50 := Try.sizeOf44
  v50 := Try.zeroValue44
  t53 := Try.underlying91
  a53 := Try.isAgg91
  z53 := Try.sizeOf91
  v53 := Try.zeroValue91
  t55 := Try.underlying131
  a55 := Try.isAgg131
  z55 := Try.sizeOf131
  v55 := Try.zeroValue131
  t66 := Try.underlying154
  a66 := Try.isAgg154
  z66 := Try.sizeOf154
  v66 := Try.zeroValue154
  t70 := Try.underlying158
  a70 := Try.isAgg158
  z70 := Try.sizeOf158
  v70 := Try.zeroValue158
  t76 := Try.underlying160
  a76 := Try.isAgg160
  z76 := Try.sizeOf160
  v76 := Try.zeroValue160
  t77 := Try.underlying27
  a77 := Try.isAgg27
  z77 := Try.sizeOf27
  v77 := Try.zeroValue27 }
end Go.Proofs
