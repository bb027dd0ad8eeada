/-
  No cell of these rows narrows 'for every input' (looked for: loops, veiled, ifaces, maps, wideKeys, modest, calm, conditions, laid).
  DERIVED. THE GIVEN ROWS OF THIS SEAT. 5 by the template 'for every input the law returns true; each argument reads behind the call as it read before'; 0 by the template 'total and deterministic' (their statements: YtgangbkompkidaaTotals.lean).
  GIVEN WITH THE SEED: the statements are not yours to turn. If you find one false, say at which input.
  Laid BY PROGRAM, IN A SANDBOX (cutbox-rows.mjs): the forced cells as the released guide's own fill.sh prints them over the translation ca564cc483cf1275… (all of the seat's roots in one cut). By AI agents, Wed Nov 11 2026. No macro, syntax, notation, axiom, sorry.
-/
import Derived.Test.YtgangbkompkidaaChecked
import GoSem.Claim
import GoSem.ClaimJoined
import GoSem.ClaimMapViews
import Derived.JoinedTies
import Derived.KernelRfl
namespace Go.Proofs.Ytgangbkompkidaa
/- THE CELL 'sum', in the pinned program and in every row, IS THE sha256 OF THE DUMP (.gsa) THAT YtgangbkompkidaaProg.lean LOADS. Nothing in Lean hashes anything: it is a label: what it is worth is what the hold of that sum in a sandbox is worth. -/
noncomputable def Try.pinned : Pinned := { name := "ytgangbkompkidaa", sum := "ca564cc483cf12752bccd8ccb21109fa6ba3509e90c7318a6f68d0ecfb404433", checked := Try.checked }
namespace Rows
def none {H : Type} : Left H := { results := [], args := [] }

/-- 'meridianlaw08.MarkerBound': WHATEVER THE INPUT: true; the input reads as it did. -/
def markerBoundSpec : ChangeSpec := { name := "markerBound", fn := fun _ => fun
  | [d1, d2] => { results := [.lit (.bool true)], args := [d1, d2] }
  | _ => none }
def markerBoundRow : OpenClaim := { program := "ytgangbkompkidaa", sum := "ca564cc483cf12752bccd8ccb21109fa6ba3509e90c7318a6f68d0ecfb404433", func := "meridian/meridianlaw08.MarkerBound", spec := "markerBound", unfollowed := true, recurses := true, plainKeys := false, apart := false }
def MarkerBoundSaid : Prop := markerBoundRow.holds Try.pinned (OpenSpec.ofChange markerBoundSpec)

/-- ITS FALSE NEIGHBOUR: 'it returns false'. Refute it at one input. -/
def markerBoundWrong : ChangeSpec := { name := "markerBound", fn := fun _ => fun
  | [d1, d2] => { results := [.lit (.bool false)], args := [d1, d2] }
  | _ => none }
def MarkerBoundWrongFalsely : Prop := markerBoundRow.holds Try.pinned (OpenSpec.ofChange markerBoundWrong)

/-- 'meridianlaw08.MarkerOrder': WHATEVER THE INPUT: true; the input reads as it did. -/
def markerOrderSpec : ChangeSpec := { name := "markerOrder", fn := fun _ => fun
  | [d] => { results := [.lit (.bool true)], args := [d] }
  | _ => none }
def markerOrderRow : OpenClaim := { program := "ytgangbkompkidaa", sum := "ca564cc483cf12752bccd8ccb21109fa6ba3509e90c7318a6f68d0ecfb404433", func := "meridian/meridianlaw08.MarkerOrder", spec := "markerOrder", unfollowed := true, recurses := true, plainKeys := false, apart := false }
def MarkerOrderSaid : Prop := markerOrderRow.holds Try.pinned (OpenSpec.ofChange markerOrderSpec)

/-- ITS FALSE NEIGHBOUR: 'it returns false'. Refute it at one input. -/
def markerOrderWrong : ChangeSpec := { name := "markerOrder", fn := fun _ => fun
  | [d] => { results := [.lit (.bool false)], args := [d] }
  | _ => none }
def MarkerOrderWrongFalsely : Prop := markerOrderRow.holds Try.pinned (OpenSpec.ofChange markerOrderWrong)

/-- 'meridianlaw08.MarkerStays': WHATEVER THE INPUT: true; the input reads as it did. -/
def markerStaysSpec : ChangeSpec := { name := "markerStays", fn := fun _ => fun
  | [d1, d2] => { results := [.lit (.bool true)], args := [d1, d2] }
  | _ => none }
def markerStaysRow : OpenClaim := { program := "ytgangbkompkidaa", sum := "ca564cc483cf12752bccd8ccb21109fa6ba3509e90c7318a6f68d0ecfb404433", func := "meridian/meridianlaw08.MarkerStays", spec := "markerStays", unfollowed := true, recurses := true, plainKeys := false, apart := false }
def MarkerStaysSaid : Prop := markerStaysRow.holds Try.pinned (OpenSpec.ofChange markerStaysSpec)

/-- ITS FALSE NEIGHBOUR: 'it returns false'. Refute it at one input. -/
def markerStaysWrong : ChangeSpec := { name := "markerStays", fn := fun _ => fun
  | [d1, d2] => { results := [.lit (.bool false)], args := [d1, d2] }
  | _ => none }
def MarkerStaysWrongFalsely : Prop := markerStaysRow.holds Try.pinned (OpenSpec.ofChange markerStaysWrong)

/-- 'meridianlaw08.MarkerOwn': WHATEVER THE INPUT: true; the input reads as it did. -/
def markerOwnSpec : ChangeSpec := { name := "markerOwn", fn := fun _ => fun
  | [d1, d2, d3] => { results := [.lit (.bool true)], args := [d1, d2, d3] }
  | _ => none }
def markerOwnRow : OpenClaim := { program := "ytgangbkompkidaa", sum := "ca564cc483cf12752bccd8ccb21109fa6ba3509e90c7318a6f68d0ecfb404433", func := "meridian/meridianlaw08.MarkerOwn", spec := "markerOwn", unfollowed := true, recurses := true, plainKeys := false, apart := false }
def MarkerOwnSaid : Prop := markerOwnRow.holds Try.pinned (OpenSpec.ofChange markerOwnSpec)

/-- ITS FALSE NEIGHBOUR: 'it returns false'. Refute it at one input. -/
def markerOwnWrong : ChangeSpec := { name := "markerOwn", fn := fun _ => fun
  | [d1, d2, d3] => { results := [.lit (.bool false)], args := [d1, d2, d3] }
  | _ => none }
def MarkerOwnWrongFalsely : Prop := markerOwnRow.holds Try.pinned (OpenSpec.ofChange markerOwnWrong)

/-- 'meridianlaw08.MarkerPlays': WHATEVER THE INPUT: true; the input reads as it did. -/
def markerPlaysSpec : ChangeSpec := { name := "markerPlays", fn := fun _ => fun
  | [d1, d2] => { results := [.lit (.bool true)], args := [d1, d2] }
  | _ => none }
def markerPlaysRow : OpenClaim := { program := "ytgangbkompkidaa", sum := "ca564cc483cf12752bccd8ccb21109fa6ba3509e90c7318a6f68d0ecfb404433", func := "meridian/meridianlaw08.MarkerPlays", spec := "markerPlays", unfollowed := true, recurses := true, plainKeys := false, apart := false }
def MarkerPlaysSaid : Prop := markerPlaysRow.holds Try.pinned (OpenSpec.ofChange markerPlaysSpec)

/-- ITS FALSE NEIGHBOUR: 'it returns false'. Refute it at one input. -/
def markerPlaysWrong : ChangeSpec := { name := "markerPlays", fn := fun _ => fun
  | [d1, d2] => { results := [.lit (.bool false)], args := [d1, d2] }
  | _ => none }
def MarkerPlaysWrongFalsely : Prop := markerPlaysRow.holds Try.pinned (OpenSpec.ofChange markerPlaysWrong)

/- THE SECOND FORM. 'bulk': how many values and letters a reading holds, each counted each time it is reached (what is shared counts as often as it is met; a slice's spare places count too). A statement '..UptoSaid' is the law's where the arguments, and the package variables that the reading takes, are together of bulk at most 1048576: NARROWER than '..Said'. Prove '..Said' where nothing that the law and all that it calls make is longer than what came in: it says more and counts as full. Else prove '..UptoSaid'. A law counts once. -/
mutual
def uptoBulk {H : Type} : DataW H → Nat
  | .lit (.string bytes) => bytes.length + 1
  | .lit _ => 1
  | .nil => 1
  | .ptr d => uptoBulk d + 1
  | .slice elems spare => uptoBulkAll elems + uptoBulkAll spare + 1
  | .agg parts => uptoBulkAll parts + 1
  | .iface _ d => uptoBulk d + 1
  | .map entries => uptoBulkEntries entries + 1
  | .held _ => 1
def uptoBulkAll {H : Type} : List (DataW H) → Nat
  | [] => 0
  | d :: r => uptoBulk d + uptoBulkAll r
def uptoBulkEntries {H : Type} : List (Lit × DataW H) → Nat
  | [] => 0
  | x :: r => uptoBulkEntry x + uptoBulkEntries r
def uptoBulkEntry {H : Type} : Lit × DataW H → Nat
  | (.string bytes, d) => bytes.length + uptoBulk d + 1
  | (_, d) => uptoBulk d + 1
 end
def uptoSmall : (H : Type) → List (DataW H) → Bool := fun _ ds => decide (uptoBulkAll ds ≤ 1048576)
def OpenSpec.upto (s : _root_.Go.ChangeSpec) : _root_.Go.OpenSpec := { _root_.Go.OpenSpec.ofChange s with cond := some uptoSmall }

/-- 'meridianlaw08.MarkerBound', WHERE WHAT IT READS IS OF BULK AT MOST 1048576: true; the input reads as it did. -/
def markerBoundUptoRow : OpenClaim := { program := "ytgangbkompkidaa", sum := "ca564cc483cf12752bccd8ccb21109fa6ba3509e90c7318a6f68d0ecfb404433", func := "meridian/meridianlaw08.MarkerBound", spec := "markerBound", unfollowed := true, recurses := true, plainKeys := false, apart := false, narrowed := true }
def MarkerBoundUptoSaid : Prop := markerBoundUptoRow.holds Try.pinned (OpenSpec.upto markerBoundSpec)

/-- 'meridianlaw08.MarkerOrder', WHERE WHAT IT READS IS OF BULK AT MOST 1048576: true; the input reads as it did. -/
def markerOrderUptoRow : OpenClaim := { program := "ytgangbkompkidaa", sum := "ca564cc483cf12752bccd8ccb21109fa6ba3509e90c7318a6f68d0ecfb404433", func := "meridian/meridianlaw08.MarkerOrder", spec := "markerOrder", unfollowed := true, recurses := true, plainKeys := false, apart := false, narrowed := true }
def MarkerOrderUptoSaid : Prop := markerOrderUptoRow.holds Try.pinned (OpenSpec.upto markerOrderSpec)

/-- 'meridianlaw08.MarkerStays', WHERE WHAT IT READS IS OF BULK AT MOST 1048576: true; the input reads as it did. -/
def markerStaysUptoRow : OpenClaim := { program := "ytgangbkompkidaa", sum := "ca564cc483cf12752bccd8ccb21109fa6ba3509e90c7318a6f68d0ecfb404433", func := "meridian/meridianlaw08.MarkerStays", spec := "markerStays", unfollowed := true, recurses := true, plainKeys := false, apart := false, narrowed := true }
def MarkerStaysUptoSaid : Prop := markerStaysUptoRow.holds Try.pinned (OpenSpec.upto markerStaysSpec)

/-- 'meridianlaw08.MarkerOwn', WHERE WHAT IT READS IS OF BULK AT MOST 1048576: true; the input reads as it did. -/
def markerOwnUptoRow : OpenClaim := { program := "ytgangbkompkidaa", sum := "ca564cc483cf12752bccd8ccb21109fa6ba3509e90c7318a6f68d0ecfb404433", func := "meridian/meridianlaw08.MarkerOwn", spec := "markerOwn", unfollowed := true, recurses := true, plainKeys := false, apart := false, narrowed := true }
def MarkerOwnUptoSaid : Prop := markerOwnUptoRow.holds Try.pinned (OpenSpec.upto markerOwnSpec)

/-- 'meridianlaw08.MarkerPlays', WHERE WHAT IT READS IS OF BULK AT MOST 1048576: true; the input reads as it did. -/
def markerPlaysUptoRow : OpenClaim := { program := "ytgangbkompkidaa", sum := "ca564cc483cf12752bccd8ccb21109fa6ba3509e90c7318a6f68d0ecfb404433", func := "meridian/meridianlaw08.MarkerPlays", spec := "markerPlays", unfollowed := true, recurses := true, plainKeys := false, apart := false, narrowed := true }
def MarkerPlaysUptoSaid : Prop := markerPlaysUptoRow.holds Try.pinned (OpenSpec.upto markerPlaysSpec)

end Rows
end Go.Proofs.Ytgangbkompkidaa
