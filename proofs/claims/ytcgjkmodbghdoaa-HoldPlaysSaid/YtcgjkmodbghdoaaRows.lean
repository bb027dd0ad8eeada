/-
  No cell of these rows narrows 'for every input' (looked for: loops, veiled, ifaces, maps, wideKeys, modest, calm, conditions, laid).
  DERIVED. THE GIVEN ROWS OF THIS SEAT. 5 by the template 'for every input the law returns true; each argument reads behind the call as it read before'; 0 by the template 'total and deterministic' (their statements: YtcgjkmodbghdoaaTotals.lean).
  GIVEN WITH THE SEED: the statements are not yours to turn. If you find one false, say at which input.
  Laid BY PROGRAM, IN A SANDBOX (cutbox-rows.mjs): the forced cells as the released guide's own fill.sh prints them over the translation d03fce1f3bf5757e… (all of the seat's roots in one cut). By AI agents, Wed Nov 11 2026. No macro, syntax, notation, axiom, sorry.
-/
import Derived.Test.YtcgjkmodbghdoaaChecked
import GoSem.Claim
import GoSem.ClaimJoined
import GoSem.ClaimMapViews
import Derived.JoinedTies
import Derived.KernelRfl
namespace Go.Proofs.Ytcgjkmodbghdoaa
/- THE CELL 'sum', in the pinned program and in every row, IS THE sha256 OF THE DUMP (.gsa) THAT YtcgjkmodbghdoaaProg.lean LOADS. Nothing in Lean hashes anything: it is a label: what it is worth is what the hold of that sum in a sandbox is worth. -/
noncomputable def Try.pinned : Pinned := { name := "ytcgjkmodbghdoaa", sum := "d03fce1f3bf5757e7e0bcb1e2112d3b7300db68f3fde074fc0d0b135efd6324c", checked := Try.checked }
namespace Rows
def none {H : Type} : Left H := { results := [], args := [] }

/-- 'meridianlaw09.HoldHolds': WHATEVER THE INPUT: true; the input reads as it did. -/
def holdHoldsSpec : ChangeSpec := { name := "holdHolds", fn := fun _ => fun
  | [d1, d2] => { results := [.lit (.bool true)], args := [d1, d2] }
  | _ => none }
def holdHoldsRow : OpenClaim := { program := "ytcgjkmodbghdoaa", sum := "d03fce1f3bf5757e7e0bcb1e2112d3b7300db68f3fde074fc0d0b135efd6324c", func := "meridian/meridianlaw09.HoldHolds", spec := "holdHolds", apart := false }
def HoldHoldsSaid : Prop := holdHoldsRow.holds Try.pinned (OpenSpec.ofChange holdHoldsSpec)

/-- ITS FALSE NEIGHBOUR: 'it returns false'. Refute it at one input. -/
def holdHoldsWrong : ChangeSpec := { name := "holdHolds", fn := fun _ => fun
  | [d1, d2] => { results := [.lit (.bool false)], args := [d1, d2] }
  | _ => none }
def HoldHoldsWrongFalsely : Prop := holdHoldsRow.holds Try.pinned (OpenSpec.ofChange holdHoldsWrong)

/-- 'meridianlaw09.HoldMost': WHATEVER THE INPUT: true; the input reads as it did. -/
def holdMostSpec : ChangeSpec := { name := "holdMost", fn := fun _ => fun
  | [d1, d2, d3] => { results := [.lit (.bool true)], args := [d1, d2, d3] }
  | _ => none }
def holdMostRow : OpenClaim := { program := "ytcgjkmodbghdoaa", sum := "d03fce1f3bf5757e7e0bcb1e2112d3b7300db68f3fde074fc0d0b135efd6324c", func := "meridian/meridianlaw09.HoldMost", spec := "holdMost", apart := false }
def HoldMostSaid : Prop := holdMostRow.holds Try.pinned (OpenSpec.ofChange holdMostSpec)

/-- ITS FALSE NEIGHBOUR: 'it returns false'. Refute it at one input. -/
def holdMostWrong : ChangeSpec := { name := "holdMost", fn := fun _ => fun
  | [d1, d2, d3] => { results := [.lit (.bool false)], args := [d1, d2, d3] }
  | _ => none }
def HoldMostWrongFalsely : Prop := holdMostRow.holds Try.pinned (OpenSpec.ofChange holdMostWrong)

/-- 'meridianlaw09.HoldBound': WHATEVER THE INPUT: true; the input reads as it did. -/
def holdBoundSpec : ChangeSpec := { name := "holdBound", fn := fun _ => fun
  | [d1, d2, d3] => { results := [.lit (.bool true)], args := [d1, d2, d3] }
  | _ => none }
def holdBoundRow : OpenClaim := { program := "ytcgjkmodbghdoaa", sum := "d03fce1f3bf5757e7e0bcb1e2112d3b7300db68f3fde074fc0d0b135efd6324c", func := "meridian/meridianlaw09.HoldBound", spec := "holdBound", apart := false }
def HoldBoundSaid : Prop := holdBoundRow.holds Try.pinned (OpenSpec.ofChange holdBoundSpec)

/-- ITS FALSE NEIGHBOUR: 'it returns false'. Refute it at one input. -/
def holdBoundWrong : ChangeSpec := { name := "holdBound", fn := fun _ => fun
  | [d1, d2, d3] => { results := [.lit (.bool false)], args := [d1, d2, d3] }
  | _ => none }
def HoldBoundWrongFalsely : Prop := holdBoundRow.holds Try.pinned (OpenSpec.ofChange holdBoundWrong)

/-- 'meridianlaw09.HoldPasses': WHATEVER THE INPUT: true; the input reads as it did. -/
def holdPassesSpec : ChangeSpec := { name := "holdPasses", fn := fun _ => fun
  | [d1, d2, d3] => { results := [.lit (.bool true)], args := [d1, d2, d3] }
  | _ => none }
def holdPassesRow : OpenClaim := { program := "ytcgjkmodbghdoaa", sum := "d03fce1f3bf5757e7e0bcb1e2112d3b7300db68f3fde074fc0d0b135efd6324c", func := "meridian/meridianlaw09.HoldPasses", spec := "holdPasses", recurses := true, apart := false }
def HoldPassesSaid : Prop := holdPassesRow.holds Try.pinned (OpenSpec.ofChange holdPassesSpec)

/-- ITS FALSE NEIGHBOUR: 'it returns false'. Refute it at one input. -/
def holdPassesWrong : ChangeSpec := { name := "holdPasses", fn := fun _ => fun
  | [d1, d2, d3] => { results := [.lit (.bool false)], args := [d1, d2, d3] }
  | _ => none }
def HoldPassesWrongFalsely : Prop := holdPassesRow.holds Try.pinned (OpenSpec.ofChange holdPassesWrong)

/-- 'meridianlaw09.HoldPlays': WHATEVER THE INPUT: true; the input reads as it did. -/
def holdPlaysSpec : ChangeSpec := { name := "holdPlays", fn := fun _ => fun
  | [d1, d2] => { results := [.lit (.bool true)], args := [d1, d2] }
  | _ => none }
def holdPlaysRow : OpenClaim := { program := "ytcgjkmodbghdoaa", sum := "d03fce1f3bf5757e7e0bcb1e2112d3b7300db68f3fde074fc0d0b135efd6324c", func := "meridian/meridianlaw09.HoldPlays", spec := "holdPlays", recurses := true, apart := false }
def HoldPlaysSaid : Prop := holdPlaysRow.holds Try.pinned (OpenSpec.ofChange holdPlaysSpec)

/-- ITS FALSE NEIGHBOUR: 'it returns false'. Refute it at one input. -/
def holdPlaysWrong : ChangeSpec := { name := "holdPlays", fn := fun _ => fun
  | [d1, d2] => { results := [.lit (.bool false)], args := [d1, d2] }
  | _ => none }
def HoldPlaysWrongFalsely : Prop := holdPlaysRow.holds Try.pinned (OpenSpec.ofChange holdPlaysWrong)

/- THE SECOND FORM. 'bulk': how many values and letters a reading holds, each counted each time it is reached (what is shared counts as often as it is met; a slice's spare places count too). A statement '..UptoSaid' is the law's where the arguments, and the package variables that the reading takes, are together of bulk at most 1048576: NARROWER than '..Said'. Prove '..Said' where nothing that the law and all that it calls make is longer than what came in: it says more and counts as full. Else prove '..UptoSaid'. A law counts once. -/
mutual
def uptoBulk {H : Type} : DataW H → Nat
  | .lit (.string bytes) => bytes.length + 1
  | .lit _ => 1
  | .nil => 1
  | .ptr d => uptoBulk d + 1
  | .slice elems spare => uptoBulkAll elems + uptoBulkAll spare + 1
  | .agg parts => uptoBulkAll parts + 1
  | .iface _ d => uptoBulk d + 1
  | .map entries => uptoBulkEntries entries + 1
  | .held _ => 1
def uptoBulkAll {H : Type} : List (DataW H) → Nat
  | [] => 0
  | d :: r => uptoBulk d + uptoBulkAll r
def uptoBulkEntries {H : Type} : List (Lit × DataW H) → Nat
  | [] => 0
  | x :: r => uptoBulkEntry x + uptoBulkEntries r
def uptoBulkEntry {H : Type} : Lit × DataW H → Nat
  | (.string bytes, d) => bytes.length + uptoBulk d + 1
  | (_, d) => uptoBulk d + 1
 end
def uptoSmall : (H : Type) → List (DataW H) → Bool := fun _ ds => decide (uptoBulkAll ds ≤ 1048576)
def OpenSpec.upto (s : _root_.Go.ChangeSpec) : _root_.Go.OpenSpec := { _root_.Go.OpenSpec.ofChange s with cond := some uptoSmall }

/-- 'meridianlaw09.HoldHolds', WHERE WHAT IT READS IS OF BULK AT MOST 1048576: true; the input reads as it did. -/
def holdHoldsUptoRow : OpenClaim := { program := "ytcgjkmodbghdoaa", sum := "d03fce1f3bf5757e7e0bcb1e2112d3b7300db68f3fde074fc0d0b135efd6324c", func := "meridian/meridianlaw09.HoldHolds", spec := "holdHolds", apart := false, narrowed := true }
def HoldHoldsUptoSaid : Prop := holdHoldsUptoRow.holds Try.pinned (OpenSpec.upto holdHoldsSpec)

/-- 'meridianlaw09.HoldMost', WHERE WHAT IT READS IS OF BULK AT MOST 1048576: true; the input reads as it did. -/
def holdMostUptoRow : OpenClaim := { program := "ytcgjkmodbghdoaa", sum := "d03fce1f3bf5757e7e0bcb1e2112d3b7300db68f3fde074fc0d0b135efd6324c", func := "meridian/meridianlaw09.HoldMost", spec := "holdMost", apart := false, narrowed := true }
def HoldMostUptoSaid : Prop := holdMostUptoRow.holds Try.pinned (OpenSpec.upto holdMostSpec)

/-- 'meridianlaw09.HoldBound', WHERE WHAT IT READS IS OF BULK AT MOST 1048576: true; the input reads as it did. -/
def holdBoundUptoRow : OpenClaim := { program := "ytcgjkmodbghdoaa", sum := "d03fce1f3bf5757e7e0bcb1e2112d3b7300db68f3fde074fc0d0b135efd6324c", func := "meridian/meridianlaw09.HoldBound", spec := "holdBound", apart := false, narrowed := true }
def HoldBoundUptoSaid : Prop := holdBoundUptoRow.holds Try.pinned (OpenSpec.upto holdBoundSpec)

/-- 'meridianlaw09.HoldPasses', WHERE WHAT IT READS IS OF BULK AT MOST 1048576: true; the input reads as it did. -/
def holdPassesUptoRow : OpenClaim := { program := "ytcgjkmodbghdoaa", sum := "d03fce1f3bf5757e7e0bcb1e2112d3b7300db68f3fde074fc0d0b135efd6324c", func := "meridian/meridianlaw09.HoldPasses", spec := "holdPasses", recurses := true, apart := false, narrowed := true }
def HoldPassesUptoSaid : Prop := holdPassesUptoRow.holds Try.pinned (OpenSpec.upto holdPassesSpec)

/-- 'meridianlaw09.HoldPlays', WHERE WHAT IT READS IS OF BULK AT MOST 1048576: true; the input reads as it did. -/
def holdPlaysUptoRow : OpenClaim := { program := "ytcgjkmodbghdoaa", sum := "d03fce1f3bf5757e7e0bcb1e2112d3b7300db68f3fde074fc0d0b135efd6324c", func := "meridian/meridianlaw09.HoldPlays", spec := "holdPlays", recurses := true, apart := false, narrowed := true }
def HoldPlaysUptoSaid : Prop := holdPlaysUptoRow.holds Try.pinned (OpenSpec.upto holdPlaysSpec)

end Rows
end Go.Proofs.Ytcgjkmodbghdoaa
