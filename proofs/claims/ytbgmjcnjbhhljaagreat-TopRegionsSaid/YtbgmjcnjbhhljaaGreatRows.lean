/-
  No cell of these rows narrows 'for every input' (looked for: loops, veiled, ifaces, maps, wideKeys, modest, calm, conditions, laid).
  DERIVED. THE GIVEN ROWS OF THIS SEAT. 4 by the template 'for every input the law returns true; each argument reads behind the call as it read before'; 0 by the template 'total and deterministic' (their statements: YtbgmjcnjbhhljaaGreatTotals.lean).
  GIVEN WITH THE SEED: the statements are not yours to turn. If you find one false, say at which input.
  Laid BY PROGRAM, IN A SANDBOX (cutbox-rows.mjs): the forced cells as the released guide's own fill.sh prints them over the translation 852781020b016a9a… (all of the seat's roots in one cut). By AI agents, Wed Nov 11 2026. No macro, syntax, notation, axiom, sorry.
-/
import Derived.Test.YtbgmjcnjbhhljaaGreatChecked
import GoSem.Claim
import GoSem.ClaimJoined
import GoSem.ClaimMapViews
import Derived.JoinedTies
import Derived.KernelRfl
namespace Go.Proofs.YtbgmjcnjbhhljaaGreat
/- THE CELL 'sum', in the pinned program and in every row, IS THE sha256 OF THE DUMP (.gsa) THAT YtbgmjcnjbhhljaaGreatProg.lean LOADS. Nothing in Lean hashes anything: it is a label: what it is worth is what the hold of that sum in a sandbox is worth. -/
noncomputable def Tryz.pinned : Pinned := { name := "ytbgmjcnjbhhljaagreat", sum := "852781020b016a9a5abdf708165f79a4c2672c202986b32cd178d6a88ab25e1f", checked := Tryz.checked }
namespace Rows
def none {H : Type} : Left H := { results := [], args := [] }

/-- 'brepkerneltop.TopRegions': WHATEVER THE INPUT: true; the input reads as it did. -/
def topRegionsSpec : ChangeSpec := { name := "topRegions", fn := fun _ => fun
  | [d1, d2, d3, d4] => { results := [.lit (.bool true)], args := [d1, d2, d3, d4] }
  | _ => none }
def topRegionsRow : OpenClaim := { program := "ytbgmjcnjbhhljaagreat", sum := "852781020b016a9a5abdf708165f79a4c2672c202986b32cd178d6a88ab25e1f", func := "brepkernel/brepkerneltop.TopRegions", spec := "topRegions", inPlace := ["math/bits.Add64", "slices.overlaps[brepkernel/api.Rat]"], unfollowed := true, recurses := true, apart := false }
def TopRegionsSaid : Prop := topRegionsRow.holds Tryz.pinned (OpenSpec.ofChange topRegionsSpec)

/-- ITS FALSE NEIGHBOUR: 'it returns false'. Refute it at one input. -/
def topRegionsWrong : ChangeSpec := { name := "topRegions", fn := fun _ => fun
  | [d1, d2, d3, d4] => { results := [.lit (.bool false)], args := [d1, d2, d3, d4] }
  | _ => none }
def TopRegionsWrongFalsely : Prop := topRegionsRow.holds Tryz.pinned (OpenSpec.ofChange topRegionsWrong)

/-- 'brepkernellaw16.SliceNets': WHATEVER THE INPUT: true; the input reads as it did. -/
def sliceNetsSpec : ChangeSpec := { name := "sliceNets", fn := fun _ => fun
  | [d1, d2] => { results := [.lit (.bool true)], args := [d1, d2] }
  | _ => none }
def sliceNetsRow : OpenClaim := { program := "ytbgmjcnjbhhljaagreat", sum := "852781020b016a9a5abdf708165f79a4c2672c202986b32cd178d6a88ab25e1f", func := "brepkernel/brepkernellaw16.SliceNets", spec := "sliceNets", inPlace := ["math/bits.Add64", "slices.overlaps[brepkernel/api.Rat]"], unfollowed := true, recurses := true, apart := false }
def SliceNetsSaid : Prop := sliceNetsRow.holds Tryz.pinned (OpenSpec.ofChange sliceNetsSpec)

/-- ITS FALSE NEIGHBOUR: 'it returns false'. Refute it at one input. -/
def sliceNetsWrong : ChangeSpec := { name := "sliceNets", fn := fun _ => fun
  | [d1, d2] => { results := [.lit (.bool false)], args := [d1, d2] }
  | _ => none }
def SliceNetsWrongFalsely : Prop := sliceNetsRow.holds Tryz.pinned (OpenSpec.ofChange sliceNetsWrong)

/-- 'brepkernellaw16.SliceSurfaces': WHATEVER THE INPUT: true; the input reads as it did. -/
def sliceSurfacesSpec : ChangeSpec := { name := "sliceSurfaces", fn := fun _ => fun
  | [d1, d2, d3, d4] => { results := [.lit (.bool true)], args := [d1, d2, d3, d4] }
  | _ => none }
def sliceSurfacesRow : OpenClaim := { program := "ytbgmjcnjbhhljaagreat", sum := "852781020b016a9a5abdf708165f79a4c2672c202986b32cd178d6a88ab25e1f", func := "brepkernel/brepkernellaw16.SliceSurfaces", spec := "sliceSurfaces", inPlace := ["math/bits.Add64", "slices.overlaps[brepkernel/api.Rat]"], unfollowed := true, recurses := true, apart := false }
def SliceSurfacesSaid : Prop := sliceSurfacesRow.holds Tryz.pinned (OpenSpec.ofChange sliceSurfacesSpec)

/-- ITS FALSE NEIGHBOUR: 'it returns false'. Refute it at one input. -/
def sliceSurfacesWrong : ChangeSpec := { name := "sliceSurfaces", fn := fun _ => fun
  | [d1, d2, d3, d4] => { results := [.lit (.bool false)], args := [d1, d2, d3, d4] }
  | _ => none }
def SliceSurfacesWrongFalsely : Prop := sliceSurfacesRow.holds Tryz.pinned (OpenSpec.ofChange sliceSurfacesWrong)

/-- 'brepkernellaw16.SliceCovers': WHATEVER THE INPUT: true; the input reads as it did. -/
def sliceCoversSpec : ChangeSpec := { name := "sliceCovers", fn := fun _ => fun
  | [d1, d2, d3, d4, d5] => { results := [.lit (.bool true)], args := [d1, d2, d3, d4, d5] }
  | _ => none }
def sliceCoversRow : OpenClaim := { program := "ytbgmjcnjbhhljaagreat", sum := "852781020b016a9a5abdf708165f79a4c2672c202986b32cd178d6a88ab25e1f", func := "brepkernel/brepkernellaw16.SliceCovers", spec := "sliceCovers", inPlace := ["math/bits.Add64", "slices.overlaps[brepkernel/api.Rat]"], unfollowed := true, recurses := true, apart := false }
def SliceCoversSaid : Prop := sliceCoversRow.holds Tryz.pinned (OpenSpec.ofChange sliceCoversSpec)

/-- ITS FALSE NEIGHBOUR: 'it returns false'. Refute it at one input. -/
def sliceCoversWrong : ChangeSpec := { name := "sliceCovers", fn := fun _ => fun
  | [d1, d2, d3, d4, d5] => { results := [.lit (.bool false)], args := [d1, d2, d3, d4, d5] }
  | _ => none }
def SliceCoversWrongFalsely : Prop := sliceCoversRow.holds Tryz.pinned (OpenSpec.ofChange sliceCoversWrong)

/- THE SECOND FORM. 'bulk': how many values and letters a reading holds, each counted each time it is reached (what is shared counts as often as it is met; a slice's spare places count too). A statement '..UptoSaid' is the law's where the arguments, and the package variables that the reading takes, are together of bulk at most 1048576: NARROWER than '..Said'. Prove '..Said' where nothing that the law and all that it calls make is longer than what came in: it says more and counts as full. Else prove '..UptoSaid'. A law counts once. -/
mutual
def uptoBulk {H : Type} : DataW H → Nat
  | .lit (.string bytes) => bytes.length + 1
  | .lit _ => 1
  | .nil => 1
  | .ptr d => uptoBulk d + 1
  | .slice elems spare => uptoBulkAll elems + uptoBulkAll spare + 1
  | .agg parts => uptoBulkAll parts + 1
  | .iface _ d => uptoBulk d + 1
  | .map entries => uptoBulkEntries entries + 1
  | .held _ => 1
def uptoBulkAll {H : Type} : List (DataW H) → Nat
  | [] => 0
  | d :: r => uptoBulk d + uptoBulkAll r
def uptoBulkEntries {H : Type} : List (Lit × DataW H) → Nat
  | [] => 0
  | x :: r => uptoBulkEntry x + uptoBulkEntries r
def uptoBulkEntry {H : Type} : Lit × DataW H → Nat
  | (.string bytes, d) => bytes.length + uptoBulk d + 1
  | (_, d) => uptoBulk d + 1
 end
def uptoSmall : (H : Type) → List (DataW H) → Bool := fun _ ds => decide (uptoBulkAll ds ≤ 1048576)
def OpenSpec.upto (s : _root_.Go.ChangeSpec) : _root_.Go.OpenSpec := { _root_.Go.OpenSpec.ofChange s with cond := some uptoSmall }

/-- 'brepkerneltop.TopRegions', WHERE WHAT IT READS IS OF BULK AT MOST 1048576: true; the input reads as it did. -/
def topRegionsUptoRow : OpenClaim := { program := "ytbgmjcnjbhhljaagreat", sum := "852781020b016a9a5abdf708165f79a4c2672c202986b32cd178d6a88ab25e1f", func := "brepkernel/brepkerneltop.TopRegions", spec := "topRegions", inPlace := ["math/bits.Add64", "slices.overlaps[brepkernel/api.Rat]"], unfollowed := true, recurses := true, apart := false, narrowed := true }
def TopRegionsUptoSaid : Prop := topRegionsUptoRow.holds Tryz.pinned (OpenSpec.upto topRegionsSpec)

/-- 'brepkernellaw16.SliceNets', WHERE WHAT IT READS IS OF BULK AT MOST 1048576: true; the input reads as it did. -/
def sliceNetsUptoRow : OpenClaim := { program := "ytbgmjcnjbhhljaagreat", sum := "852781020b016a9a5abdf708165f79a4c2672c202986b32cd178d6a88ab25e1f", func := "brepkernel/brepkernellaw16.SliceNets", spec := "sliceNets", inPlace := ["math/bits.Add64", "slices.overlaps[brepkernel/api.Rat]"], unfollowed := true, recurses := true, apart := false, narrowed := true }
def SliceNetsUptoSaid : Prop := sliceNetsUptoRow.holds Tryz.pinned (OpenSpec.upto sliceNetsSpec)

/-- 'brepkernellaw16.SliceSurfaces', WHERE WHAT IT READS IS OF BULK AT MOST 1048576: true; the input reads as it did. -/
def sliceSurfacesUptoRow : OpenClaim := { program := "ytbgmjcnjbhhljaagreat", sum := "852781020b016a9a5abdf708165f79a4c2672c202986b32cd178d6a88ab25e1f", func := "brepkernel/brepkernellaw16.SliceSurfaces", spec := "sliceSurfaces", inPlace := ["math/bits.Add64", "slices.overlaps[brepkernel/api.Rat]"], unfollowed := true, recurses := true, apart := false, narrowed := true }
def SliceSurfacesUptoSaid : Prop := sliceSurfacesUptoRow.holds Tryz.pinned (OpenSpec.upto sliceSurfacesSpec)

/-- 'brepkernellaw16.SliceCovers', WHERE WHAT IT READS IS OF BULK AT MOST 1048576: true; the input reads as it did. -/
def sliceCoversUptoRow : OpenClaim := { program := "ytbgmjcnjbhhljaagreat", sum := "852781020b016a9a5abdf708165f79a4c2672c202986b32cd178d6a88ab25e1f", func := "brepkernel/brepkernellaw16.SliceCovers", spec := "sliceCovers", inPlace := ["math/bits.Add64", "slices.overlaps[brepkernel/api.Rat]"], unfollowed := true, recurses := true, apart := false, narrowed := true }
def SliceCoversUptoSaid : Prop := sliceCoversUptoRow.holds Tryz.pinned (OpenSpec.upto sliceCoversSpec)

end Rows
end Go.Proofs.YtbgmjcnjbhhljaaGreat
