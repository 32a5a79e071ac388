/-
  DERIVED: THE SHELF's CONTRACTS AT THIS DUMP, IN PLAIN WORDS (tools/lay-plain.mjs out of 'YtblgchhmcifdgaaGreatDoorLaidAddSrc.lean', which tools/lay-shelf.mjs wrote): THE SAME DECLARATIONS UNDER THE SAME NAMES: 'import', 'namespace', 'open', 'def', 'theorem' AND NOTHING ELSE: no command of the shelf's: FOR A HAND-IN. Each laying: the table of numbers ('.._ren') and one theorem, a field a fact of the dump's own or the kernel's comparison; each contract: ONE APPLICATION.
-/
import Derived.Shelf.Spec.BitsCarry
import Derived.Ground.Names7Prog
import Derived.Test.YtblgchhmcifdgaaGreatDoorProg
namespace Go.Proofs
open Go.Shelf
def Tryz.laysAdd_ren : Go.Shelf.Ren := ⟨fun | 25 => 69 | n => n, fun | 22 => 47 | n => n, fun | n => n⟩
theorem Tryz.laysAdd : Go.Proofs.Lays7.n25 Tryz.prog Tryz.laysAdd_ren := {
  mixed := by kernel_rfl
  f25 := Tryz.func69.trans (congrArg some (by kernel_rfl))
  t22 := Tryz.underlying47
  a22 := Tryz.isAgg47
  z22 := Tryz.sizeOf47
  v22 := Tryz.zeroValue47
  i22 := by kernel_rfl }
end Go.Proofs
