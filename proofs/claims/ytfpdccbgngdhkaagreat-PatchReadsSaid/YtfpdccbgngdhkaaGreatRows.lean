/-
  No cell of these rows narrows 'for every input' (looked for: loops, veiled, ifaces, maps, wideKeys, modest, calm, conditions, laid).
  DERIVED. THE GIVEN ROWS OF THIS SEAT. 4 by the template 'for every input the law returns true; each argument reads behind the call as it read before'; 0 by the template 'total and deterministic' (their statements: YtfpdccbgngdhkaaGreatTotals.lean).
  GIVEN WITH THE SEED: the statements are not yours to turn. If you find one false, say at which input.
  Laid BY PROGRAM, IN A SANDBOX (cutbox-rows.mjs): the forced cells as the released guide's own fill.sh prints them over the translation e37bcbcdc5afe42b… (all of the seat's roots in one cut). By AI agents, Wed Nov 11 2026. No macro, syntax, notation, axiom, sorry.
-/
import Derived.Test.YtfpdccbgngdhkaaGreatChecked
import GoSem.Claim
import GoSem.ClaimJoined
import GoSem.ClaimMapViews
import Derived.JoinedTies
import Derived.KernelRfl
namespace Go.Proofs.YtfpdccbgngdhkaaGreat
/- THE CELL 'sum', in the pinned program and in every row, IS THE sha256 OF THE DUMP (.gsa) THAT YtfpdccbgngdhkaaGreatProg.lean LOADS. Nothing in Lean hashes anything: it is a label: what it is worth is what the hold of that sum in a sandbox is worth. -/
noncomputable def Tryz.pinned : Pinned := { name := "ytfpdccbgngdhkaagreat", sum := "e37bcbcdc5afe42b95ef535d0f39b957771d464a96f1b39edd2f29fdab6f6183", checked := Tryz.checked }
namespace Rows
def none {H : Type} : Left H := { results := [], args := [] }

/-- 'brepkernellaw13.PatchTurns': WHATEVER THE INPUT: true; the input reads as it did. -/
def patchTurnsSpec : ChangeSpec := { name := "patchTurns", fn := fun _ => fun
  | [d1, d2, d3] => { results := [.lit (.bool true)], args := [d1, d2, d3] }
  | _ => none }
def patchTurnsRow : OpenClaim := { program := "ytfpdccbgngdhkaagreat", sum := "e37bcbcdc5afe42b95ef535d0f39b957771d464a96f1b39edd2f29fdab6f6183", func := "brepkernel/brepkernellaw13.PatchTurns", spec := "patchTurns", inPlace := ["math/bits.Add64"], unfollowed := true, recurses := true, apart := false }
def PatchTurnsSaid : Prop := patchTurnsRow.holds Tryz.pinned (OpenSpec.ofChange patchTurnsSpec)

/-- ITS FALSE NEIGHBOUR: 'it returns false'. Refute it at one input. -/
def patchTurnsWrong : ChangeSpec := { name := "patchTurns", fn := fun _ => fun
  | [d1, d2, d3] => { results := [.lit (.bool false)], args := [d1, d2, d3] }
  | _ => none }
def PatchTurnsWrongFalsely : Prop := patchTurnsRow.holds Tryz.pinned (OpenSpec.ofChange patchTurnsWrong)

/-- 'brepkernellaw13.PatchReads': WHATEVER THE INPUT: true; the input reads as it did. -/
def patchReadsSpec : ChangeSpec := { name := "patchReads", fn := fun _ => fun
  | [d1, d2, d3] => { results := [.lit (.bool true)], args := [d1, d2, d3] }
  | _ => none }
def patchReadsRow : OpenClaim := { program := "ytfpdccbgngdhkaagreat", sum := "e37bcbcdc5afe42b95ef535d0f39b957771d464a96f1b39edd2f29fdab6f6183", func := "brepkernel/brepkernellaw13.PatchReads", spec := "patchReads", inPlace := ["math/bits.Add64"], unfollowed := true, recurses := true, apart := false }
def PatchReadsSaid : Prop := patchReadsRow.holds Tryz.pinned (OpenSpec.ofChange patchReadsSpec)

/-- ITS FALSE NEIGHBOUR: 'it returns false'. Refute it at one input. -/
def patchReadsWrong : ChangeSpec := { name := "patchReads", fn := fun _ => fun
  | [d1, d2, d3] => { results := [.lit (.bool false)], args := [d1, d2, d3] }
  | _ => none }
def PatchReadsWrongFalsely : Prop := patchReadsRow.holds Tryz.pinned (OpenSpec.ofChange patchReadsWrong)

/-- 'brepkernellaw13.PatchDerivs': WHATEVER THE INPUT: true; the input reads as it did. -/
def patchDerivsSpec : ChangeSpec := { name := "patchDerivs", fn := fun _ => fun
  | [d1, d2, d3, d4] => { results := [.lit (.bool true)], args := [d1, d2, d3, d4] }
  | _ => none }
def patchDerivsRow : OpenClaim := { program := "ytfpdccbgngdhkaagreat", sum := "e37bcbcdc5afe42b95ef535d0f39b957771d464a96f1b39edd2f29fdab6f6183", func := "brepkernel/brepkernellaw13.PatchDerivs", spec := "patchDerivs", inPlace := ["math/bits.Add64"], unfollowed := true, recurses := true, apart := false }
def PatchDerivsSaid : Prop := patchDerivsRow.holds Tryz.pinned (OpenSpec.ofChange patchDerivsSpec)

/-- ITS FALSE NEIGHBOUR: 'it returns false'. Refute it at one input. -/
def patchDerivsWrong : ChangeSpec := { name := "patchDerivs", fn := fun _ => fun
  | [d1, d2, d3, d4] => { results := [.lit (.bool false)], args := [d1, d2, d3, d4] }
  | _ => none }
def PatchDerivsWrongFalsely : Prop := patchDerivsRow.holds Tryz.pinned (OpenSpec.ofChange patchDerivsWrong)

/-- 'brepkernellaw13.PatchInside': WHATEVER THE INPUT: true; the input reads as it did. -/
def patchInsideSpec : ChangeSpec := { name := "patchInside", fn := fun _ => fun
  | [d1, d2, d3] => { results := [.lit (.bool true)], args := [d1, d2, d3] }
  | _ => none }
def patchInsideRow : OpenClaim := { program := "ytfpdccbgngdhkaagreat", sum := "e37bcbcdc5afe42b95ef535d0f39b957771d464a96f1b39edd2f29fdab6f6183", func := "brepkernel/brepkernellaw13.PatchInside", spec := "patchInside", inPlace := ["math/bits.Add64"], unfollowed := true, recurses := true, apart := false }
def PatchInsideSaid : Prop := patchInsideRow.holds Tryz.pinned (OpenSpec.ofChange patchInsideSpec)

/-- ITS FALSE NEIGHBOUR: 'it returns false'. Refute it at one input. -/
def patchInsideWrong : ChangeSpec := { name := "patchInside", fn := fun _ => fun
  | [d1, d2, d3] => { results := [.lit (.bool false)], args := [d1, d2, d3] }
  | _ => none }
def PatchInsideWrongFalsely : Prop := patchInsideRow.holds Tryz.pinned (OpenSpec.ofChange patchInsideWrong)

/- THE SECOND FORM. 'bulk': how many values and letters a reading holds, each counted each time it is reached (what is shared counts as often as it is met; a slice's spare places count too). A statement '..UptoSaid' is the law's where the arguments, and the package variables that the reading takes, are together of bulk at most 1048576: NARROWER than '..Said'. Prove '..Said' where nothing that the law and all that it calls make is longer than what came in: it says more and counts as full. Else prove '..UptoSaid'. A law counts once. -/
mutual
def uptoBulk {H : Type} : DataW H → Nat
  | .lit (.string bytes) => bytes.length + 1
  | .lit _ => 1
  | .nil => 1
  | .ptr d => uptoBulk d + 1
  | .slice elems spare => uptoBulkAll elems + uptoBulkAll spare + 1
  | .agg parts => uptoBulkAll parts + 1
  | .iface _ d => uptoBulk d + 1
  | .map entries => uptoBulkEntries entries + 1
  | .held _ => 1
def uptoBulkAll {H : Type} : List (DataW H) → Nat
  | [] => 0
  | d :: r => uptoBulk d + uptoBulkAll r
def uptoBulkEntries {H : Type} : List (Lit × DataW H) → Nat
  | [] => 0
  | x :: r => uptoBulkEntry x + uptoBulkEntries r
def uptoBulkEntry {H : Type} : Lit × DataW H → Nat
  | (.string bytes, d) => bytes.length + uptoBulk d + 1
  | (_, d) => uptoBulk d + 1
 end
def uptoSmall : (H : Type) → List (DataW H) → Bool := fun _ ds => decide (uptoBulkAll ds ≤ 1048576)
def OpenSpec.upto (s : _root_.Go.ChangeSpec) : _root_.Go.OpenSpec := { _root_.Go.OpenSpec.ofChange s with cond := some uptoSmall }

/-- 'brepkernellaw13.PatchTurns', WHERE WHAT IT READS IS OF BULK AT MOST 1048576: true; the input reads as it did. -/
def patchTurnsUptoRow : OpenClaim := { program := "ytfpdccbgngdhkaagreat", sum := "e37bcbcdc5afe42b95ef535d0f39b957771d464a96f1b39edd2f29fdab6f6183", func := "brepkernel/brepkernellaw13.PatchTurns", spec := "patchTurns", inPlace := ["math/bits.Add64"], unfollowed := true, recurses := true, apart := false, narrowed := true }
def PatchTurnsUptoSaid : Prop := patchTurnsUptoRow.holds Tryz.pinned (OpenSpec.upto patchTurnsSpec)

/-- 'brepkernellaw13.PatchReads', WHERE WHAT IT READS IS OF BULK AT MOST 1048576: true; the input reads as it did. -/
def patchReadsUptoRow : OpenClaim := { program := "ytfpdccbgngdhkaagreat", sum := "e37bcbcdc5afe42b95ef535d0f39b957771d464a96f1b39edd2f29fdab6f6183", func := "brepkernel/brepkernellaw13.PatchReads", spec := "patchReads", inPlace := ["math/bits.Add64"], unfollowed := true, recurses := true, apart := false, narrowed := true }
def PatchReadsUptoSaid : Prop := patchReadsUptoRow.holds Tryz.pinned (OpenSpec.upto patchReadsSpec)

/-- 'brepkernellaw13.PatchDerivs', WHERE WHAT IT READS IS OF BULK AT MOST 1048576: true; the input reads as it did. -/
def patchDerivsUptoRow : OpenClaim := { program := "ytfpdccbgngdhkaagreat", sum := "e37bcbcdc5afe42b95ef535d0f39b957771d464a96f1b39edd2f29fdab6f6183", func := "brepkernel/brepkernellaw13.PatchDerivs", spec := "patchDerivs", inPlace := ["math/bits.Add64"], unfollowed := true, recurses := true, apart := false, narrowed := true }
def PatchDerivsUptoSaid : Prop := patchDerivsUptoRow.holds Tryz.pinned (OpenSpec.upto patchDerivsSpec)

/-- 'brepkernellaw13.PatchInside', WHERE WHAT IT READS IS OF BULK AT MOST 1048576: true; the input reads as it did. -/
def patchInsideUptoRow : OpenClaim := { program := "ytfpdccbgngdhkaagreat", sum := "e37bcbcdc5afe42b95ef535d0f39b957771d464a96f1b39edd2f29fdab6f6183", func := "brepkernel/brepkernellaw13.PatchInside", spec := "patchInside", inPlace := ["math/bits.Add64"], unfollowed := true, recurses := true, apart := false, narrowed := true }
def PatchInsideUptoSaid : Prop := patchInsideUptoRow.holds Tryz.pinned (OpenSpec.upto patchInsideSpec)

end Rows
end Go.Proofs.YtfpdccbgngdhkaaGreat
