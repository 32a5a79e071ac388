/-
  No cell of these rows narrows 'for every input' (looked for: loops, veiled, ifaces, maps, wideKeys, modest, calm, conditions, laid).
  DERIVED. THE GIVEN ROWS OF THIS SEAT. 3 by the template 'for every input the law returns true; each argument reads behind the call as it read before'; 0 by the template 'total and deterministic' (their statements: YtgemfgfhdbkgfaaTotals.lean).
  GIVEN WITH THE SEED: the statements are not yours to turn. If you find one false, say at which input.
  Laid BY PROGRAM, IN A SANDBOX (cutbox-rows.mjs): the forced cells as the released guide's own fill.sh prints them over the translation f15e01191ed27cbf… (all of the seat's roots in one cut). By AI agents, Wed Nov 11 2026. No macro, syntax, notation, axiom, sorry.
-/
import Derived.Test.YtgemfgfhdbkgfaaChecked
import GoSem.Claim
import GoSem.ClaimJoined
import GoSem.ClaimMapViews
import Derived.JoinedTies
import Derived.KernelRfl
namespace Go.Proofs.Ytgemfgfhdbkgfaa
/- THE CELL 'sum', in the pinned program and in every row, IS THE sha256 OF THE DUMP (.gsa) THAT YtgemfgfhdbkgfaaProg.lean LOADS. Nothing in Lean hashes anything: it is a label: what it is worth is what the hold of that sum in a sandbox is worth. -/
noncomputable def Try.pinned : Pinned := { name := "ytgemfgfhdbkgfaa", sum := "f15e01191ed27cbfd7d12208130b25a96fad5bfcc8d62fc77ecc2ea85a22f171", checked := Try.checked }
namespace Rows
def none {H : Type} : Left H := { results := [], args := [] }

/-- 'synopticlaw24.WorkerSizes': WHATEVER THE INPUT: true; the input reads as it did. -/
def workerSizesSpec : ChangeSpec := { name := "workerSizes", fn := fun _ => fun
  | [d1, d2, d3] => { results := [.lit (.bool true)], args := [d1, d2, d3] }
  | _ => none }
def workerSizesRow : OpenClaim := { program := "ytgemfgfhdbkgfaa", sum := "f15e01191ed27cbfd7d12208130b25a96fad5bfcc8d62fc77ecc2ea85a22f171", func := "synoptic/synopticlaw24.WorkerSizes", spec := "workerSizes", apart := false }
def WorkerSizesSaid : Prop := workerSizesRow.holds Try.pinned (OpenSpec.ofChange workerSizesSpec)

/-- ITS FALSE NEIGHBOUR: 'it returns false'. Refute it at one input. -/
def workerSizesWrong : ChangeSpec := { name := "workerSizes", fn := fun _ => fun
  | [d1, d2, d3] => { results := [.lit (.bool false)], args := [d1, d2, d3] }
  | _ => none }
def WorkerSizesWrongFalsely : Prop := workerSizesRow.holds Try.pinned (OpenSpec.ofChange workerSizesWrong)

/-- 'synopticlaw26.CertificateLeast': WHATEVER THE INPUT: true; the input reads as it did. -/
def certificateLeastSpec : ChangeSpec := { name := "certificateLeast", fn := fun _ => fun
  | [d1, d2] => { results := [.lit (.bool true)], args := [d1, d2] }
  | _ => none }
def certificateLeastRow : OpenClaim := { program := "ytgemfgfhdbkgfaa", sum := "f15e01191ed27cbfd7d12208130b25a96fad5bfcc8d62fc77ecc2ea85a22f171", func := "synoptic/synopticlaw26.CertificateLeast", spec := "certificateLeast", unfollowed := true, recurses := true, apart := false }
def CertificateLeastSaid : Prop := certificateLeastRow.holds Try.pinned (OpenSpec.ofChange certificateLeastSpec)

/-- ITS FALSE NEIGHBOUR: 'it returns false'. Refute it at one input. -/
def certificateLeastWrong : ChangeSpec := { name := "certificateLeast", fn := fun _ => fun
  | [d1, d2] => { results := [.lit (.bool false)], args := [d1, d2] }
  | _ => none }
def CertificateLeastWrongFalsely : Prop := certificateLeastRow.holds Try.pinned (OpenSpec.ofChange certificateLeastWrong)

/-- 'synopticlaw24.WorkerDivides': WHATEVER THE INPUT: true; the input reads as it did. -/
def workerDividesSpec : ChangeSpec := { name := "workerDivides", fn := fun _ => fun
  | [d1, d2, d3, d4, d5] => { results := [.lit (.bool true)], args := [d1, d2, d3, d4, d5] }
  | _ => none }
def workerDividesRow : OpenClaim := { program := "ytgemfgfhdbkgfaa", sum := "f15e01191ed27cbfd7d12208130b25a96fad5bfcc8d62fc77ecc2ea85a22f171", func := "synoptic/synopticlaw24.WorkerDivides", spec := "workerDivides", unfollowed := true, recurses := true, apart := false }
def WorkerDividesSaid : Prop := workerDividesRow.holds Try.pinned (OpenSpec.ofChange workerDividesSpec)

/-- ITS FALSE NEIGHBOUR: 'it returns false'. Refute it at one input. -/
def workerDividesWrong : ChangeSpec := { name := "workerDivides", fn := fun _ => fun
  | [d1, d2, d3, d4, d5] => { results := [.lit (.bool false)], args := [d1, d2, d3, d4, d5] }
  | _ => none }
def WorkerDividesWrongFalsely : Prop := workerDividesRow.holds Try.pinned (OpenSpec.ofChange workerDividesWrong)

/- THE SECOND FORM. 'bulk': how many values and letters a reading holds, each counted each time it is reached (what is shared counts as often as it is met; a slice's spare places count too). A statement '..UptoSaid' is the law's where the arguments, and the package variables that the reading takes, are together of bulk at most 1048576: NARROWER than '..Said'. Prove '..Said' where nothing that the law and all that it calls make is longer than what came in: it says more and counts as full. Else prove '..UptoSaid'. A law counts once. -/
mutual
def uptoBulk {H : Type} : DataW H → Nat
  | .lit (.string bytes) => bytes.length + 1
  | .lit _ => 1
  | .nil => 1
  | .ptr d => uptoBulk d + 1
  | .slice elems spare => uptoBulkAll elems + uptoBulkAll spare + 1
  | .agg parts => uptoBulkAll parts + 1
  | .iface _ d => uptoBulk d + 1
  | .map entries => uptoBulkEntries entries + 1
  | .held _ => 1
def uptoBulkAll {H : Type} : List (DataW H) → Nat
  | [] => 0
  | d :: r => uptoBulk d + uptoBulkAll r
def uptoBulkEntries {H : Type} : List (Lit × DataW H) → Nat
  | [] => 0
  | x :: r => uptoBulkEntry x + uptoBulkEntries r
def uptoBulkEntry {H : Type} : Lit × DataW H → Nat
  | (.string bytes, d) => bytes.length + uptoBulk d + 1
  | (_, d) => uptoBulk d + 1
 end
def uptoSmall : (H : Type) → List (DataW H) → Bool := fun _ ds => decide (uptoBulkAll ds ≤ 1048576)
def OpenSpec.upto (s : _root_.Go.ChangeSpec) : _root_.Go.OpenSpec := { _root_.Go.OpenSpec.ofChange s with cond := some uptoSmall }

/-- 'synopticlaw24.WorkerSizes', WHERE WHAT IT READS IS OF BULK AT MOST 1048576: true; the input reads as it did. -/
def workerSizesUptoRow : OpenClaim := { program := "ytgemfgfhdbkgfaa", sum := "f15e01191ed27cbfd7d12208130b25a96fad5bfcc8d62fc77ecc2ea85a22f171", func := "synoptic/synopticlaw24.WorkerSizes", spec := "workerSizes", apart := false, narrowed := true }
def WorkerSizesUptoSaid : Prop := workerSizesUptoRow.holds Try.pinned (OpenSpec.upto workerSizesSpec)

/-- 'synopticlaw26.CertificateLeast', WHERE WHAT IT READS IS OF BULK AT MOST 1048576: true; the input reads as it did. -/
def certificateLeastUptoRow : OpenClaim := { program := "ytgemfgfhdbkgfaa", sum := "f15e01191ed27cbfd7d12208130b25a96fad5bfcc8d62fc77ecc2ea85a22f171", func := "synoptic/synopticlaw26.CertificateLeast", spec := "certificateLeast", unfollowed := true, recurses := true, apart := false, narrowed := true }
def CertificateLeastUptoSaid : Prop := certificateLeastUptoRow.holds Try.pinned (OpenSpec.upto certificateLeastSpec)

/-- 'synopticlaw24.WorkerDivides', WHERE WHAT IT READS IS OF BULK AT MOST 1048576: true; the input reads as it did. -/
def workerDividesUptoRow : OpenClaim := { program := "ytgemfgfhdbkgfaa", sum := "f15e01191ed27cbfd7d12208130b25a96fad5bfcc8d62fc77ecc2ea85a22f171", func := "synoptic/synopticlaw24.WorkerDivides", spec := "workerDivides", unfollowed := true, recurses := true, apart := false, narrowed := true }
def WorkerDividesUptoSaid : Prop := workerDividesUptoRow.holds Try.pinned (OpenSpec.upto workerDividesSpec)

end Rows
end Go.Proofs.Ytgemfgfhdbkgfaa
