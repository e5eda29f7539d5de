/-
  No cell of these rows narrows 'for every input' (looked for: loops, veiled, ifaces, maps, wideKeys, modest, calm, conditions, laid).
  DERIVED. THE GIVEN ROWS OF THIS SEAT. 7 by the template 'for every input the law returns true; each argument reads behind the call as it read before'; 0 by the template 'total and deterministic' (their statements: YthhdcfhaldcheaaTotals.lean).
  GIVEN WITH THE SEED: the statements are not yours to turn. If you find one false, say at which input.
  Laid BY PROGRAM, IN A SANDBOX (cutbox-rows.mjs): the forced cells as the released guide's own fill.sh prints them over the translation e2e971981930f157… (all of the seat's roots in one cut). By AI agents, Wed Nov 11 2026. No macro, syntax, notation, axiom, sorry.
-/
import Derived.Test.YthhdcfhaldcheaaChecked
import GoSem.Claim
import GoSem.ClaimJoined
import GoSem.ClaimMapViews
import Derived.JoinedTies
import Derived.KernelRfl
namespace Go.Proofs.Ythhdcfhaldcheaa
/- THE CELL 'sum', in the pinned program and in every row, IS THE sha256 OF THE DUMP (.gsa) THAT YthhdcfhaldcheaaProg.lean LOADS. Nothing in Lean hashes anything: it is a label: what it is worth is what the hold of that sum in a sandbox is worth. -/
noncomputable def Try.pinned : Pinned := { name := "ythhdcfhaldcheaa", sum := "e2e971981930f157e4fc5f15a62af1ff88dbeeba48992daa2b88ea4c697e29f9", checked := Try.checked }
namespace Rows
def none {H : Type} : Left H := { results := [], args := [] }

/-- 'brepkernellaw07.TensorValid': WHATEVER THE INPUT: true; the input reads as it did. -/
def tensorValidSpec : ChangeSpec := { name := "tensorValid", fn := fun _ => fun
  | [d1, d2, d3] => { results := [.lit (.bool true)], args := [d1, d2, d3] }
  | _ => none }
def tensorValidRow : OpenClaim := { program := "ythhdcfhaldcheaa", sum := "e2e971981930f157e4fc5f15a62af1ff88dbeeba48992daa2b88ea4c697e29f9", func := "brepkernel/brepkernellaw07.TensorValid", spec := "tensorValid", inPlace := ["math/bits.Add64"], unfollowed := true, recurses := true, apart := false }
def TensorValidSaid : Prop := tensorValidRow.holds Try.pinned (OpenSpec.ofChange tensorValidSpec)

/-- ITS FALSE NEIGHBOUR: 'it returns false'. Refute it at one input. -/
def tensorValidWrong : ChangeSpec := { name := "tensorValid", fn := fun _ => fun
  | [d1, d2, d3] => { results := [.lit (.bool false)], args := [d1, d2, d3] }
  | _ => none }
def TensorValidWrongFalsely : Prop := tensorValidRow.holds Try.pinned (OpenSpec.ofChange tensorValidWrong)

/-- 'brepkernellaw05.BernsteinEvals': WHATEVER THE INPUT: true; the input reads as it did. -/
def bernsteinEvalsSpec : ChangeSpec := { name := "bernsteinEvals", fn := fun _ => fun
  | [d1, d2, d3, d4] => { results := [.lit (.bool true)], args := [d1, d2, d3, d4] }
  | _ => none }
def bernsteinEvalsRow : OpenClaim := { program := "ythhdcfhaldcheaa", sum := "e2e971981930f157e4fc5f15a62af1ff88dbeeba48992daa2b88ea4c697e29f9", func := "brepkernel/brepkernellaw05.BernsteinEvals", spec := "bernsteinEvals", inPlace := ["math/bits.Add64"], unfollowed := true, recurses := true, apart := false }
def BernsteinEvalsSaid : Prop := bernsteinEvalsRow.holds Try.pinned (OpenSpec.ofChange bernsteinEvalsSpec)

/-- ITS FALSE NEIGHBOUR: 'it returns false'. Refute it at one input. -/
def bernsteinEvalsWrong : ChangeSpec := { name := "bernsteinEvals", fn := fun _ => fun
  | [d1, d2, d3, d4] => { results := [.lit (.bool false)], args := [d1, d2, d3, d4] }
  | _ => none }
def BernsteinEvalsWrongFalsely : Prop := bernsteinEvalsRow.holds Try.pinned (OpenSpec.ofChange bernsteinEvalsWrong)

/-- 'brepkernellaw05.BernsteinLong': WHATEVER THE INPUT: true; the input reads as it did. -/
def bernsteinLongSpec : ChangeSpec := { name := "bernsteinLong", fn := fun _ => fun
  | [d1, d2] => { results := [.lit (.bool true)], args := [d1, d2] }
  | _ => none }
def bernsteinLongRow : OpenClaim := { program := "ythhdcfhaldcheaa", sum := "e2e971981930f157e4fc5f15a62af1ff88dbeeba48992daa2b88ea4c697e29f9", func := "brepkernel/brepkernellaw05.BernsteinLong", spec := "bernsteinLong", inPlace := ["math/bits.Add64"], unfollowed := true, recurses := true, apart := false }
def BernsteinLongSaid : Prop := bernsteinLongRow.holds Try.pinned (OpenSpec.ofChange bernsteinLongSpec)

/-- ITS FALSE NEIGHBOUR: 'it returns false'. Refute it at one input. -/
def bernsteinLongWrong : ChangeSpec := { name := "bernsteinLong", fn := fun _ => fun
  | [d1, d2] => { results := [.lit (.bool false)], args := [d1, d2] }
  | _ => none }
def BernsteinLongWrongFalsely : Prop := bernsteinLongRow.holds Try.pinned (OpenSpec.ofChange bernsteinLongWrong)

/-- 'brepkernellaw05.BernsteinSigns': WHATEVER THE INPUT: true; the input reads as it did. -/
def bernsteinSignsSpec : ChangeSpec := { name := "bernsteinSigns", fn := fun _ => fun
  | [d1, d2] => { results := [.lit (.bool true)], args := [d1, d2] }
  | _ => none }
def bernsteinSignsRow : OpenClaim := { program := "ythhdcfhaldcheaa", sum := "e2e971981930f157e4fc5f15a62af1ff88dbeeba48992daa2b88ea4c697e29f9", func := "brepkernel/brepkernellaw05.BernsteinSigns", spec := "bernsteinSigns", inPlace := ["math/bits.Add64"], unfollowed := true, recurses := true, apart := false }
def BernsteinSignsSaid : Prop := bernsteinSignsRow.holds Try.pinned (OpenSpec.ofChange bernsteinSignsSpec)

/-- ITS FALSE NEIGHBOUR: 'it returns false'. Refute it at one input. -/
def bernsteinSignsWrong : ChangeSpec := { name := "bernsteinSigns", fn := fun _ => fun
  | [d1, d2] => { results := [.lit (.bool false)], args := [d1, d2] }
  | _ => none }
def BernsteinSignsWrongFalsely : Prop := bernsteinSignsRow.holds Try.pinned (OpenSpec.ofChange bernsteinSignsWrong)

/-- 'brepkernellaw07.TensorLong': WHATEVER THE INPUT: true; the input reads as it did. -/
def tensorLongSpec : ChangeSpec := { name := "tensorLong", fn := fun _ => fun
  | [d1, d2] => { results := [.lit (.bool true)], args := [d1, d2] }
  | _ => none }
def tensorLongRow : OpenClaim := { program := "ythhdcfhaldcheaa", sum := "e2e971981930f157e4fc5f15a62af1ff88dbeeba48992daa2b88ea4c697e29f9", func := "brepkernel/brepkernellaw07.TensorLong", spec := "tensorLong", inPlace := ["math/bits.Add64"], unfollowed := true, recurses := true, apart := false }
def TensorLongSaid : Prop := tensorLongRow.holds Try.pinned (OpenSpec.ofChange tensorLongSpec)

/-- ITS FALSE NEIGHBOUR: 'it returns false'. Refute it at one input. -/
def tensorLongWrong : ChangeSpec := { name := "tensorLong", fn := fun _ => fun
  | [d1, d2] => { results := [.lit (.bool false)], args := [d1, d2] }
  | _ => none }
def TensorLongWrongFalsely : Prop := tensorLongRow.holds Try.pinned (OpenSpec.ofChange tensorLongWrong)

/-- 'brepkernellaw05.BernsteinHull': WHATEVER THE INPUT: true; the input reads as it did. -/
def bernsteinHullSpec : ChangeSpec := { name := "bernsteinHull", fn := fun _ => fun
  | [d1, d2, d3] => { results := [.lit (.bool true)], args := [d1, d2, d3] }
  | _ => none }
def bernsteinHullRow : OpenClaim := { program := "ythhdcfhaldcheaa", sum := "e2e971981930f157e4fc5f15a62af1ff88dbeeba48992daa2b88ea4c697e29f9", func := "brepkernel/brepkernellaw05.BernsteinHull", spec := "bernsteinHull", inPlace := ["math/bits.Add64"], unfollowed := true, recurses := true, apart := false }
def BernsteinHullSaid : Prop := bernsteinHullRow.holds Try.pinned (OpenSpec.ofChange bernsteinHullSpec)

/-- ITS FALSE NEIGHBOUR: 'it returns false'. Refute it at one input. -/
def bernsteinHullWrong : ChangeSpec := { name := "bernsteinHull", fn := fun _ => fun
  | [d1, d2, d3] => { results := [.lit (.bool false)], args := [d1, d2, d3] }
  | _ => none }
def BernsteinHullWrongFalsely : Prop := bernsteinHullRow.holds Try.pinned (OpenSpec.ofChange bernsteinHullWrong)

/-- 'brepkernellaw05.BernsteinValues': WHATEVER THE INPUT: true; the input reads as it did. -/
def bernsteinValuesSpec : ChangeSpec := { name := "bernsteinValues", fn := fun _ => fun
  | [d1, d2, d3] => { results := [.lit (.bool true)], args := [d1, d2, d3] }
  | _ => none }
def bernsteinValuesRow : OpenClaim := { program := "ythhdcfhaldcheaa", sum := "e2e971981930f157e4fc5f15a62af1ff88dbeeba48992daa2b88ea4c697e29f9", func := "brepkernel/brepkernellaw05.BernsteinValues", spec := "bernsteinValues", inPlace := ["math/bits.Add64"], unfollowed := true, recurses := true, apart := false }
def BernsteinValuesSaid : Prop := bernsteinValuesRow.holds Try.pinned (OpenSpec.ofChange bernsteinValuesSpec)

/-- ITS FALSE NEIGHBOUR: 'it returns false'. Refute it at one input. -/
def bernsteinValuesWrong : ChangeSpec := { name := "bernsteinValues", fn := fun _ => fun
  | [d1, d2, d3] => { results := [.lit (.bool false)], args := [d1, d2, d3] }
  | _ => none }
def BernsteinValuesWrongFalsely : Prop := bernsteinValuesRow.holds Try.pinned (OpenSpec.ofChange bernsteinValuesWrong)

/- THE SECOND FORM. 'bulk': how many values and letters a reading holds, each counted each time it is reached (what is shared counts as often as it is met; a slice's spare places count too). A statement '..UptoSaid' is the law's where the arguments, and the package variables that the reading takes, are together of bulk at most 1048576: NARROWER than '..Said'. Prove '..Said' where nothing that the law and all that it calls make is longer than what came in: it says more and counts as full. Else prove '..UptoSaid'. A law counts once. -/
mutual
def uptoBulk {H : Type} : DataW H → Nat
  | .lit (.string bytes) => bytes.length + 1
  | .lit _ => 1
  | .nil => 1
  | .ptr d => uptoBulk d + 1
  | .slice elems spare => uptoBulkAll elems + uptoBulkAll spare + 1
  | .agg parts => uptoBulkAll parts + 1
  | .iface _ d => uptoBulk d + 1
  | .map entries => uptoBulkEntries entries + 1
  | .held _ => 1
def uptoBulkAll {H : Type} : List (DataW H) → Nat
  | [] => 0
  | d :: r => uptoBulk d + uptoBulkAll r
def uptoBulkEntries {H : Type} : List (Lit × DataW H) → Nat
  | [] => 0
  | x :: r => uptoBulkEntry x + uptoBulkEntries r
def uptoBulkEntry {H : Type} : Lit × DataW H → Nat
  | (.string bytes, d) => bytes.length + uptoBulk d + 1
  | (_, d) => uptoBulk d + 1
 end
def uptoSmall : (H : Type) → List (DataW H) → Bool := fun _ ds => decide (uptoBulkAll ds ≤ 1048576)
def OpenSpec.upto (s : _root_.Go.ChangeSpec) : _root_.Go.OpenSpec := { _root_.Go.OpenSpec.ofChange s with cond := some uptoSmall }

/-- 'brepkernellaw07.TensorValid', WHERE WHAT IT READS IS OF BULK AT MOST 1048576: true; the input reads as it did. -/
def tensorValidUptoRow : OpenClaim := { program := "ythhdcfhaldcheaa", sum := "e2e971981930f157e4fc5f15a62af1ff88dbeeba48992daa2b88ea4c697e29f9", func := "brepkernel/brepkernellaw07.TensorValid", spec := "tensorValid", inPlace := ["math/bits.Add64"], unfollowed := true, recurses := true, apart := false, narrowed := true }
def TensorValidUptoSaid : Prop := tensorValidUptoRow.holds Try.pinned (OpenSpec.upto tensorValidSpec)

/-- 'brepkernellaw05.BernsteinEvals', WHERE WHAT IT READS IS OF BULK AT MOST 1048576: true; the input reads as it did. -/
def bernsteinEvalsUptoRow : OpenClaim := { program := "ythhdcfhaldcheaa", sum := "e2e971981930f157e4fc5f15a62af1ff88dbeeba48992daa2b88ea4c697e29f9", func := "brepkernel/brepkernellaw05.BernsteinEvals", spec := "bernsteinEvals", inPlace := ["math/bits.Add64"], unfollowed := true, recurses := true, apart := false, narrowed := true }
def BernsteinEvalsUptoSaid : Prop := bernsteinEvalsUptoRow.holds Try.pinned (OpenSpec.upto bernsteinEvalsSpec)

/-- 'brepkernellaw05.BernsteinLong', WHERE WHAT IT READS IS OF BULK AT MOST 1048576: true; the input reads as it did. -/
def bernsteinLongUptoRow : OpenClaim := { program := "ythhdcfhaldcheaa", sum := "e2e971981930f157e4fc5f15a62af1ff88dbeeba48992daa2b88ea4c697e29f9", func := "brepkernel/brepkernellaw05.BernsteinLong", spec := "bernsteinLong", inPlace := ["math/bits.Add64"], unfollowed := true, recurses := true, apart := false, narrowed := true }
def BernsteinLongUptoSaid : Prop := bernsteinLongUptoRow.holds Try.pinned (OpenSpec.upto bernsteinLongSpec)

/-- 'brepkernellaw05.BernsteinSigns', WHERE WHAT IT READS IS OF BULK AT MOST 1048576: true; the input reads as it did. -/
def bernsteinSignsUptoRow : OpenClaim := { program := "ythhdcfhaldcheaa", sum := "e2e971981930f157e4fc5f15a62af1ff88dbeeba48992daa2b88ea4c697e29f9", func := "brepkernel/brepkernellaw05.BernsteinSigns", spec := "bernsteinSigns", inPlace := ["math/bits.Add64"], unfollowed := true, recurses := true, apart := false, narrowed := true }
def BernsteinSignsUptoSaid : Prop := bernsteinSignsUptoRow.holds Try.pinned (OpenSpec.upto bernsteinSignsSpec)

/-- 'brepkernellaw07.TensorLong', WHERE WHAT IT READS IS OF BULK AT MOST 1048576: true; the input reads as it did. -/
def tensorLongUptoRow : OpenClaim := { program := "ythhdcfhaldcheaa", sum := "e2e971981930f157e4fc5f15a62af1ff88dbeeba48992daa2b88ea4c697e29f9", func := "brepkernel/brepkernellaw07.TensorLong", spec := "tensorLong", inPlace := ["math/bits.Add64"], unfollowed := true, recurses := true, apart := false, narrowed := true }
def TensorLongUptoSaid : Prop := tensorLongUptoRow.holds Try.pinned (OpenSpec.upto tensorLongSpec)

/-- 'brepkernellaw05.BernsteinHull', WHERE WHAT IT READS IS OF BULK AT MOST 1048576: true; the input reads as it did. -/
def bernsteinHullUptoRow : OpenClaim := { program := "ythhdcfhaldcheaa", sum := "e2e971981930f157e4fc5f15a62af1ff88dbeeba48992daa2b88ea4c697e29f9", func := "brepkernel/brepkernellaw05.BernsteinHull", spec := "bernsteinHull", inPlace := ["math/bits.Add64"], unfollowed := true, recurses := true, apart := false, narrowed := true }
def BernsteinHullUptoSaid : Prop := bernsteinHullUptoRow.holds Try.pinned (OpenSpec.upto bernsteinHullSpec)

/-- 'brepkernellaw05.BernsteinValues', WHERE WHAT IT READS IS OF BULK AT MOST 1048576: true; the input reads as it did. -/
def bernsteinValuesUptoRow : OpenClaim := { program := "ythhdcfhaldcheaa", sum := "e2e971981930f157e4fc5f15a62af1ff88dbeeba48992daa2b88ea4c697e29f9", func := "brepkernel/brepkernellaw05.BernsteinValues", spec := "bernsteinValues", inPlace := ["math/bits.Add64"], unfollowed := true, recurses := true, apart := false, narrowed := true }
def BernsteinValuesUptoSaid : Prop := bernsteinValuesUptoRow.holds Try.pinned (OpenSpec.upto bernsteinValuesSpec)

end Rows
end Go.Proofs.Ythhdcfhaldcheaa
