/-
  No cell of these rows narrows 'for every input' (looked for: loops, veiled, ifaces, maps, wideKeys, modest, calm, conditions, laid).
  DERIVED. THE GIVEN ROWS OF THIS SEAT. 6 by the template 'for every input the law returns true; each argument reads behind the call as it read before'; 0 by the template 'total and deterministic' (their statements: YthhdcfhaldcheaaGreatTotals.lean).
  GIVEN WITH THE SEED: the statements are not yours to turn. If you find one false, say at which input.
  Laid BY PROGRAM, IN A SANDBOX (cutbox-rows.mjs): the forced cells as the released guide's own fill.sh prints them over the translation 658a39eb01ed8234… (all of the seat's roots in one cut). By AI agents, Wed Nov 11 2026. No macro, syntax, notation, axiom, sorry.
-/
import Derived.Test.YthhdcfhaldcheaaGreatChecked
import GoSem.Claim
import GoSem.ClaimJoined
import GoSem.ClaimMapViews
import Derived.JoinedTies
import Derived.KernelRfl
namespace Go.Proofs.YthhdcfhaldcheaaGreat
/- THE CELL 'sum', in the pinned program and in every row, IS THE sha256 OF THE DUMP (.gsa) THAT YthhdcfhaldcheaaGreatProg.lean LOADS. Nothing in Lean hashes anything: it is a label: what it is worth is what the hold of that sum in a sandbox is worth. -/
noncomputable def Tryz.pinned : Pinned := { name := "ythhdcfhaldcheaagreat", sum := "658a39eb01ed82346f9741252f535536ff828ae1c324c7978c60961dad8aed15", checked := Tryz.checked }
namespace Rows
def none {H : Type} : Left H := { results := [], args := [] }

/-- 'brepkernellaw07.TensorParts': WHATEVER THE INPUT: true; the input reads as it did. -/
def tensorPartsSpec : ChangeSpec := { name := "tensorParts", fn := fun _ => fun
  | [d1, d2, d3, d4] => { results := [.lit (.bool true)], args := [d1, d2, d3, d4] }
  | _ => none }
def tensorPartsRow : OpenClaim := { program := "ythhdcfhaldcheaagreat", sum := "658a39eb01ed82346f9741252f535536ff828ae1c324c7978c60961dad8aed15", func := "brepkernel/brepkernellaw07.TensorParts", spec := "tensorParts", inPlace := ["math/bits.Add64"], unfollowed := true, recurses := true, apart := false }
def TensorPartsSaid : Prop := tensorPartsRow.holds Tryz.pinned (OpenSpec.ofChange tensorPartsSpec)

/-- ITS FALSE NEIGHBOUR: 'it returns false'. Refute it at one input. -/
def tensorPartsWrong : ChangeSpec := { name := "tensorParts", fn := fun _ => fun
  | [d1, d2, d3, d4] => { results := [.lit (.bool false)], args := [d1, d2, d3, d4] }
  | _ => none }
def TensorPartsWrongFalsely : Prop := tensorPartsRow.holds Tryz.pinned (OpenSpec.ofChange tensorPartsWrong)

/-- 'brepkernellaw05.BernsteinSums': WHATEVER THE INPUT: true; the input reads as it did. -/
def bernsteinSumsSpec : ChangeSpec := { name := "bernsteinSums", fn := fun _ => fun
  | [d1, d2, d3] => { results := [.lit (.bool true)], args := [d1, d2, d3] }
  | _ => none }
def bernsteinSumsRow : OpenClaim := { program := "ythhdcfhaldcheaagreat", sum := "658a39eb01ed82346f9741252f535536ff828ae1c324c7978c60961dad8aed15", func := "brepkernel/brepkernellaw05.BernsteinSums", spec := "bernsteinSums", inPlace := ["math/bits.Add64"], unfollowed := true, recurses := true, apart := false }
def BernsteinSumsSaid : Prop := bernsteinSumsRow.holds Tryz.pinned (OpenSpec.ofChange bernsteinSumsSpec)

/-- ITS FALSE NEIGHBOUR: 'it returns false'. Refute it at one input. -/
def bernsteinSumsWrong : ChangeSpec := { name := "bernsteinSums", fn := fun _ => fun
  | [d1, d2, d3] => { results := [.lit (.bool false)], args := [d1, d2, d3] }
  | _ => none }
def BernsteinSumsWrongFalsely : Prop := bernsteinSumsRow.holds Tryz.pinned (OpenSpec.ofChange bernsteinSumsWrong)

/-- 'brepkernellaw07.TensorHull': WHATEVER THE INPUT: true; the input reads as it did. -/
def tensorHullSpec : ChangeSpec := { name := "tensorHull", fn := fun _ => fun
  | [d1, d2, d3, d4] => { results := [.lit (.bool true)], args := [d1, d2, d3, d4] }
  | _ => none }
def tensorHullRow : OpenClaim := { program := "ythhdcfhaldcheaagreat", sum := "658a39eb01ed82346f9741252f535536ff828ae1c324c7978c60961dad8aed15", func := "brepkernel/brepkernellaw07.TensorHull", spec := "tensorHull", inPlace := ["math/bits.Add64"], unfollowed := true, recurses := true, apart := false }
def TensorHullSaid : Prop := tensorHullRow.holds Tryz.pinned (OpenSpec.ofChange tensorHullSpec)

/-- ITS FALSE NEIGHBOUR: 'it returns false'. Refute it at one input. -/
def tensorHullWrong : ChangeSpec := { name := "tensorHull", fn := fun _ => fun
  | [d1, d2, d3, d4] => { results := [.lit (.bool false)], args := [d1, d2, d3, d4] }
  | _ => none }
def TensorHullWrongFalsely : Prop := tensorHullRow.holds Tryz.pinned (OpenSpec.ofChange tensorHullWrong)

/-- 'brepkernellaw07.TensorValues': WHATEVER THE INPUT: true; the input reads as it did. -/
def tensorValuesSpec : ChangeSpec := { name := "tensorValues", fn := fun _ => fun
  | [d1, d2, d3, d4] => { results := [.lit (.bool true)], args := [d1, d2, d3, d4] }
  | _ => none }
def tensorValuesRow : OpenClaim := { program := "ythhdcfhaldcheaagreat", sum := "658a39eb01ed82346f9741252f535536ff828ae1c324c7978c60961dad8aed15", func := "brepkernel/brepkernellaw07.TensorValues", spec := "tensorValues", inPlace := ["math/bits.Add64"], unfollowed := true, recurses := true, apart := false }
def TensorValuesSaid : Prop := tensorValuesRow.holds Tryz.pinned (OpenSpec.ofChange tensorValuesSpec)

/-- ITS FALSE NEIGHBOUR: 'it returns false'. Refute it at one input. -/
def tensorValuesWrong : ChangeSpec := { name := "tensorValues", fn := fun _ => fun
  | [d1, d2, d3, d4] => { results := [.lit (.bool false)], args := [d1, d2, d3, d4] }
  | _ => none }
def TensorValuesWrongFalsely : Prop := tensorValuesRow.holds Tryz.pinned (OpenSpec.ofChange tensorValuesWrong)

/-- 'brepkernellaw05.BernsteinReads': WHATEVER THE INPUT: true; the input reads as it did. -/
def bernsteinReadsSpec : ChangeSpec := { name := "bernsteinReads", fn := fun _ => fun
  | [d1, d2] => { results := [.lit (.bool true)], args := [d1, d2] }
  | _ => none }
def bernsteinReadsRow : OpenClaim := { program := "ythhdcfhaldcheaagreat", sum := "658a39eb01ed82346f9741252f535536ff828ae1c324c7978c60961dad8aed15", func := "brepkernel/brepkernellaw05.BernsteinReads", spec := "bernsteinReads", inPlace := ["math/bits.Add64"], unfollowed := true, recurses := true, apart := false }
def BernsteinReadsSaid : Prop := bernsteinReadsRow.holds Tryz.pinned (OpenSpec.ofChange bernsteinReadsSpec)

/-- ITS FALSE NEIGHBOUR: 'it returns false'. Refute it at one input. -/
def bernsteinReadsWrong : ChangeSpec := { name := "bernsteinReads", fn := fun _ => fun
  | [d1, d2] => { results := [.lit (.bool false)], args := [d1, d2] }
  | _ => none }
def BernsteinReadsWrongFalsely : Prop := bernsteinReadsRow.holds Tryz.pinned (OpenSpec.ofChange bernsteinReadsWrong)

/-- 'brepkernellaw07.TensorSums': WHATEVER THE INPUT: true; the input reads as it did. -/
def tensorSumsSpec : ChangeSpec := { name := "tensorSums", fn := fun _ => fun
  | [d1, d2, d3, d4] => { results := [.lit (.bool true)], args := [d1, d2, d3, d4] }
  | _ => none }
def tensorSumsRow : OpenClaim := { program := "ythhdcfhaldcheaagreat", sum := "658a39eb01ed82346f9741252f535536ff828ae1c324c7978c60961dad8aed15", func := "brepkernel/brepkernellaw07.TensorSums", spec := "tensorSums", inPlace := ["math/bits.Add64"], unfollowed := true, recurses := true, apart := false }
def TensorSumsSaid : Prop := tensorSumsRow.holds Tryz.pinned (OpenSpec.ofChange tensorSumsSpec)

/-- ITS FALSE NEIGHBOUR: 'it returns false'. Refute it at one input. -/
def tensorSumsWrong : ChangeSpec := { name := "tensorSums", fn := fun _ => fun
  | [d1, d2, d3, d4] => { results := [.lit (.bool false)], args := [d1, d2, d3, d4] }
  | _ => none }
def TensorSumsWrongFalsely : Prop := tensorSumsRow.holds Tryz.pinned (OpenSpec.ofChange tensorSumsWrong)

/- THE SECOND FORM. 'bulk': how many values and letters a reading holds, each counted each time it is reached (what is shared counts as often as it is met; a slice's spare places count too). A statement '..UptoSaid' is the law's where the arguments, and the package variables that the reading takes, are together of bulk at most 1048576: NARROWER than '..Said'. Prove '..Said' where nothing that the law and all that it calls make is longer than what came in: it says more and counts as full. Else prove '..UptoSaid'. A law counts once. -/
mutual
def uptoBulk {H : Type} : DataW H → Nat
  | .lit (.string bytes) => bytes.length + 1
  | .lit _ => 1
  | .nil => 1
  | .ptr d => uptoBulk d + 1
  | .slice elems spare => uptoBulkAll elems + uptoBulkAll spare + 1
  | .agg parts => uptoBulkAll parts + 1
  | .iface _ d => uptoBulk d + 1
  | .map entries => uptoBulkEntries entries + 1
  | .held _ => 1
def uptoBulkAll {H : Type} : List (DataW H) → Nat
  | [] => 0
  | d :: r => uptoBulk d + uptoBulkAll r
def uptoBulkEntries {H : Type} : List (Lit × DataW H) → Nat
  | [] => 0
  | x :: r => uptoBulkEntry x + uptoBulkEntries r
def uptoBulkEntry {H : Type} : Lit × DataW H → Nat
  | (.string bytes, d) => bytes.length + uptoBulk d + 1
  | (_, d) => uptoBulk d + 1
 end
def uptoSmall : (H : Type) → List (DataW H) → Bool := fun _ ds => decide (uptoBulkAll ds ≤ 1048576)
def OpenSpec.upto (s : _root_.Go.ChangeSpec) : _root_.Go.OpenSpec := { _root_.Go.OpenSpec.ofChange s with cond := some uptoSmall }

/-- 'brepkernellaw07.TensorParts', WHERE WHAT IT READS IS OF BULK AT MOST 1048576: true; the input reads as it did. -/
def tensorPartsUptoRow : OpenClaim := { program := "ythhdcfhaldcheaagreat", sum := "658a39eb01ed82346f9741252f535536ff828ae1c324c7978c60961dad8aed15", func := "brepkernel/brepkernellaw07.TensorParts", spec := "tensorParts", inPlace := ["math/bits.Add64"], unfollowed := true, recurses := true, apart := false, narrowed := true }
def TensorPartsUptoSaid : Prop := tensorPartsUptoRow.holds Tryz.pinned (OpenSpec.upto tensorPartsSpec)

/-- 'brepkernellaw05.BernsteinSums', WHERE WHAT IT READS IS OF BULK AT MOST 1048576: true; the input reads as it did. -/
def bernsteinSumsUptoRow : OpenClaim := { program := "ythhdcfhaldcheaagreat", sum := "658a39eb01ed82346f9741252f535536ff828ae1c324c7978c60961dad8aed15", func := "brepkernel/brepkernellaw05.BernsteinSums", spec := "bernsteinSums", inPlace := ["math/bits.Add64"], unfollowed := true, recurses := true, apart := false, narrowed := true }
def BernsteinSumsUptoSaid : Prop := bernsteinSumsUptoRow.holds Tryz.pinned (OpenSpec.upto bernsteinSumsSpec)

/-- 'brepkernellaw07.TensorHull', WHERE WHAT IT READS IS OF BULK AT MOST 1048576: true; the input reads as it did. -/
def tensorHullUptoRow : OpenClaim := { program := "ythhdcfhaldcheaagreat", sum := "658a39eb01ed82346f9741252f535536ff828ae1c324c7978c60961dad8aed15", func := "brepkernel/brepkernellaw07.TensorHull", spec := "tensorHull", inPlace := ["math/bits.Add64"], unfollowed := true, recurses := true, apart := false, narrowed := true }
def TensorHullUptoSaid : Prop := tensorHullUptoRow.holds Tryz.pinned (OpenSpec.upto tensorHullSpec)

/-- 'brepkernellaw07.TensorValues', WHERE WHAT IT READS IS OF BULK AT MOST 1048576: true; the input reads as it did. -/
def tensorValuesUptoRow : OpenClaim := { program := "ythhdcfhaldcheaagreat", sum := "658a39eb01ed82346f9741252f535536ff828ae1c324c7978c60961dad8aed15", func := "brepkernel/brepkernellaw07.TensorValues", spec := "tensorValues", inPlace := ["math/bits.Add64"], unfollowed := true, recurses := true, apart := false, narrowed := true }
def TensorValuesUptoSaid : Prop := tensorValuesUptoRow.holds Tryz.pinned (OpenSpec.upto tensorValuesSpec)

/-- 'brepkernellaw05.BernsteinReads', WHERE WHAT IT READS IS OF BULK AT MOST 1048576: true; the input reads as it did. -/
def bernsteinReadsUptoRow : OpenClaim := { program := "ythhdcfhaldcheaagreat", sum := "658a39eb01ed82346f9741252f535536ff828ae1c324c7978c60961dad8aed15", func := "brepkernel/brepkernellaw05.BernsteinReads", spec := "bernsteinReads", inPlace := ["math/bits.Add64"], unfollowed := true, recurses := true, apart := false, narrowed := true }
def BernsteinReadsUptoSaid : Prop := bernsteinReadsUptoRow.holds Tryz.pinned (OpenSpec.upto bernsteinReadsSpec)

/-- 'brepkernellaw07.TensorSums', WHERE WHAT IT READS IS OF BULK AT MOST 1048576: true; the input reads as it did. -/
def tensorSumsUptoRow : OpenClaim := { program := "ythhdcfhaldcheaagreat", sum := "658a39eb01ed82346f9741252f535536ff828ae1c324c7978c60961dad8aed15", func := "brepkernel/brepkernellaw07.TensorSums", spec := "tensorSums", inPlace := ["math/bits.Add64"], unfollowed := true, recurses := true, apart := false, narrowed := true }
def TensorSumsUptoSaid : Prop := tensorSumsUptoRow.holds Tryz.pinned (OpenSpec.upto tensorSumsSpec)

end Rows
end Go.Proofs.YthhdcfhaldcheaaGreat
