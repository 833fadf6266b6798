/-
  DERIVED: THE SHELF's CONTRACTS AT THIS DUMP, IN PLAIN WORDS (tools/lay-plain.mjs out of 'YtohgjbkiemnfnaaLaySoftIdx.lean', which tools/lay-shelf.mjs wrote): THE SAME DECLARATIONS UNDER THE SAME NAMES: 'import', 'namespace', 'open', 'def', 'theorem' AND NOTHING ELSE: no command of the shelf's: FOR A HAND-IN. Each laying: the table of numbers ('.._ren') and one theorem, a field a fact of the dump's own or the kernel's comparison; each contract: ONE APPLICATION.
-/
import Derived.Shelf.SlicesE.IndexFunc
import Derived.Ground.SlgfProg
import Derived.Shelf.SlGeneric
import Derived.Test.YtohgjbkiemnfnaaProg
namespace Go.Proofs
open Go.Shelf
def Try.index_ints_ren : Go.Shelf.Ren := ⟨fun | 6 => 88 | n => n, fun | 22 => 45 | 23 => 22 | 25 => 26 | 3 => 3 | 0 => 0 | 4 => 4 | n => n, fun | n => n⟩
theorem Try.index_ints : Go.Proofs.SlLaysH.n6 Try.prog Try.index_ints_ren := {
  mixed := by kernel_rfl
  f6 := ⟨Try.f88.name, by decide, Try.func88.trans (congrArg some (by kernel_rfl))⟩
  t0 := Try.underlying0
  a0 := Try.isAgg0
  z0 := Try.sizeOf0
  v0 := Try.zeroValue0
  t3 := Try.underlying3
  a3 := Try.isAgg3
  z3 := Try.sizeOf3
  v3 := Try.zeroValue3
  t4 := Try.underlying4
  a4 := Try.isAgg4
  z4 := Try.sizeOf4
  v4 := Try.zeroValue4
  t22 := Try.underlying45
  a22 := Try.isAgg45
  z22 := Try.sizeOf45
  v22 := Try.zeroValue45
  a23 := Try.isAgg22
  z23 := Try.sizeOf22
  t25 := Try.underlying26
  a25 := Try.isAgg26
  z25 := Try.sizeOf26
  v25 := Try.zeroValue26 }
end Go.Proofs
