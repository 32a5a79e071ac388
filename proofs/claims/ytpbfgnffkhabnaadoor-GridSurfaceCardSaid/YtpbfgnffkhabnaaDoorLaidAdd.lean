/-
  DERIVED: THE SHELF's CONTRACTS AT THIS DUMP, IN PLAIN WORDS (tools/lay-plain.mjs out of 'YtpbfgnffkhabnaaDoorLaidAddSrc.lean', which tools/lay-shelf.mjs wrote): THE SAME DECLARATIONS UNDER THE SAME NAMES: 'import', 'namespace', 'open', 'def', 'theorem' AND NOTHING ELSE: no command of the shelf's: FOR A HAND-IN. Each laying: the table of numbers ('.._ren') and one theorem, a field a fact of the dump's own or the kernel's comparison; each contract: ONE APPLICATION.
-/
import Derived.Shelf.Spec.BitsCarry
import Derived.Ground.Names7Prog
import Derived.Test.YtpbfgnffkhabnaaDoorProg
namespace Go.Proofs
open Go.Shelf
def Tryd.laysAdd_ren : Go.Shelf.Ren := ⟨fun | 25 => 67 | n => n, fun | 22 => 56 | n => n, fun | n => n⟩
theorem Tryd.laysAdd : Go.Proofs.Lays7.n25 Tryd.prog Tryd.laysAdd_ren := {
  mixed := by kernel_rfl
  f25 := Tryd.func67.trans (congrArg some (by kernel_rfl))
  t22 := Tryd.underlying56
  a22 := Tryd.isAgg56
  z22 := Tryd.sizeOf56
  v22 := Tryd.zeroValue56
  i22 := by kernel_rfl }
end Go.Proofs
