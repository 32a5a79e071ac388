/-
  DERIVED: THE SHELF's CONTRACTS AT THIS DUMP, IN PLAIN WORDS (tools/lay-plain.mjs out of 'YtojkamfabapcoaaGreatDoorLaidAddSrc.lean', which tools/lay-shelf.mjs wrote): THE SAME DECLARATIONS UNDER THE SAME NAMES: 'import', 'namespace', 'open', 'def', 'theorem' AND NOTHING ELSE: no command of the shelf's: FOR A HAND-IN. Each laying: the table of numbers ('.._ren') and one theorem, a field a fact of the dump's own or the kernel's comparison; each contract: ONE APPLICATION.
-/
import Derived.Shelf.Spec.BitsCarry
import Derived.Ground.Names7Prog
import Derived.Test.YtojkamfabapcoaaGreatDoorProg
namespace Go.Proofs
open Go.Shelf
def Tryz.laysAdd_ren : Go.Shelf.Ren := ⟨fun | 25 => 108 | n => n, fun | 22 => 54 | n => n, fun | n => n⟩
theorem Tryz.laysAdd : Go.Proofs.Lays7.n25 Tryz.prog Tryz.laysAdd_ren := {
  mixed := by kernel_rfl
  f25 := Tryz.func108.trans (congrArg some (by kernel_rfl))
  t22 := Tryz.underlying54
  a22 := Tryz.isAgg54
  z22 := Tryz.sizeOf54
  v22 := Tryz.zeroValue54
  i22 := by kernel_rfl }
end Go.Proofs
