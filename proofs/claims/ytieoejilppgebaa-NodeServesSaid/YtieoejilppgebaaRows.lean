/-
  No cell of these rows narrows 'for every input' (looked for: loops, veiled, ifaces, maps, wideKeys, modest, calm, conditions, laid).
  DERIVED. THE GIVEN ROWS OF THIS SEAT. 3 by the template 'for every input the law returns true; each argument reads behind the call as it read before'; 0 by the template 'total and deterministic' (their statements: YtieoejilppgebaaTotals.lean).
  GIVEN WITH THE SEED: the statements are not yours to turn. If you find one false, say at which input.
  Laid BY PROGRAM, IN A SANDBOX (cutbox-rows.mjs): the forced cells as the released guide's own fill.sh prints them over the translation 489a0b4214e08698… (all of the seat's roots in one cut). By AI agents, Wed Nov 11 2026. No macro, syntax, notation, axiom, sorry.
-/
import Derived.Test.YtieoejilppgebaaChecked
import GoSem.Claim
import GoSem.ClaimJoined
import GoSem.ClaimMapViews
import Derived.JoinedTies
import Derived.KernelRfl
namespace Go.Proofs.Ytieoejilppgebaa
/- THE CELL 'sum', in the pinned program and in every row, IS THE sha256 OF THE DUMP (.gsa) THAT YtieoejilppgebaaProg.lean LOADS. Nothing in Lean hashes anything: it is a label: what it is worth is what the hold of that sum in a sandbox is worth. -/
noncomputable def Try.pinned : Pinned := { name := "ytieoejilppgebaa", sum := "489a0b4214e086985a3cd89312acf8c51a01b6be06d43d8fdcb2d217475038da", checked := Try.checked }
namespace Rows
def none {H : Type} : Left H := { results := [], args := [] }

/-- 'meridianlaw21.NodeMarked': WHATEVER THE INPUT: true; the input reads as it did. -/
def nodeMarkedSpec : ChangeSpec := { name := "nodeMarked", fn := fun _ => fun
  | [d1, d2, d3] => { results := [.lit (.bool true)], args := [d1, d2, d3] }
  | _ => none }
def nodeMarkedRow : OpenClaim := { program := "ytieoejilppgebaa", sum := "489a0b4214e086985a3cd89312acf8c51a01b6be06d43d8fdcb2d217475038da", func := "meridian/meridianlaw21.NodeMarked", spec := "nodeMarked", inPlace := ["sync/atomic.StoreInt64", "sync/atomic.AddInt64"], plainKeys := false, apart := false }
def NodeMarkedSaid : Prop := nodeMarkedRow.holds Try.pinned (OpenSpec.ofChange nodeMarkedSpec)

/-- ITS FALSE NEIGHBOUR: 'it returns false'. Refute it at one input. -/
def nodeMarkedWrong : ChangeSpec := { name := "nodeMarked", fn := fun _ => fun
  | [d1, d2, d3] => { results := [.lit (.bool false)], args := [d1, d2, d3] }
  | _ => none }
def NodeMarkedWrongFalsely : Prop := nodeMarkedRow.holds Try.pinned (OpenSpec.ofChange nodeMarkedWrong)

/-- 'meridianlaw21.NodeFlushed': WHATEVER THE INPUT: true; the input reads as it did. -/
def nodeFlushedSpec : ChangeSpec := { name := "nodeFlushed", fn := fun _ => fun
  | [d1, d2] => { results := [.lit (.bool true)], args := [d1, d2] }
  | _ => none }
def nodeFlushedRow : OpenClaim := { program := "ytieoejilppgebaa", sum := "489a0b4214e086985a3cd89312acf8c51a01b6be06d43d8fdcb2d217475038da", func := "meridian/meridianlaw21.NodeFlushed", spec := "nodeFlushed", inPlace := ["sync/atomic.StoreInt64", "sync/atomic.AddInt64"], plainKeys := false, apart := false }
def NodeFlushedSaid : Prop := nodeFlushedRow.holds Try.pinned (OpenSpec.ofChange nodeFlushedSpec)

/-- ITS FALSE NEIGHBOUR: 'it returns false'. Refute it at one input. -/
def nodeFlushedWrong : ChangeSpec := { name := "nodeFlushed", fn := fun _ => fun
  | [d1, d2] => { results := [.lit (.bool false)], args := [d1, d2] }
  | _ => none }
def NodeFlushedWrongFalsely : Prop := nodeFlushedRow.holds Try.pinned (OpenSpec.ofChange nodeFlushedWrong)

/-- 'meridianlaw21.NodeServes': WHATEVER THE INPUT: true; the input reads as it did. -/
def nodeServesSpec : ChangeSpec := { name := "nodeServes", fn := fun _ => fun
  | [d1, d2, d3] => { results := [.lit (.bool true)], args := [d1, d2, d3] }
  | _ => none }
def nodeServesRow : OpenClaim := { program := "ytieoejilppgebaa", sum := "489a0b4214e086985a3cd89312acf8c51a01b6be06d43d8fdcb2d217475038da", func := "meridian/meridianlaw21.NodeServes", spec := "nodeServes", inPlace := ["sync/atomic.StoreInt64", "sync/atomic.AddInt64"], plainKeys := false, apart := false }
def NodeServesSaid : Prop := nodeServesRow.holds Try.pinned (OpenSpec.ofChange nodeServesSpec)

/-- ITS FALSE NEIGHBOUR: 'it returns false'. Refute it at one input. -/
def nodeServesWrong : ChangeSpec := { name := "nodeServes", fn := fun _ => fun
  | [d1, d2, d3] => { results := [.lit (.bool false)], args := [d1, d2, d3] }
  | _ => none }
def NodeServesWrongFalsely : Prop := nodeServesRow.holds Try.pinned (OpenSpec.ofChange nodeServesWrong)

/- THE SECOND FORM. 'bulk': how many values and letters a reading holds, each counted each time it is reached (what is shared counts as often as it is met; a slice's spare places count too). A statement '..UptoSaid' is the law's where the arguments, and the package variables that the reading takes, are together of bulk at most 1048576: NARROWER than '..Said'. Prove '..Said' where nothing that the law and all that it calls make is longer than what came in: it says more and counts as full. Else prove '..UptoSaid'. A law counts once. -/
mutual
def uptoBulk {H : Type} : DataW H → Nat
  | .lit (.string bytes) => bytes.length + 1
  | .lit _ => 1
  | .nil => 1
  | .ptr d => uptoBulk d + 1
  | .slice elems spare => uptoBulkAll elems + uptoBulkAll spare + 1
  | .agg parts => uptoBulkAll parts + 1
  | .iface _ d => uptoBulk d + 1
  | .map entries => uptoBulkEntries entries + 1
  | .held _ => 1
def uptoBulkAll {H : Type} : List (DataW H) → Nat
  | [] => 0
  | d :: r => uptoBulk d + uptoBulkAll r
def uptoBulkEntries {H : Type} : List (Lit × DataW H) → Nat
  | [] => 0
  | x :: r => uptoBulkEntry x + uptoBulkEntries r
def uptoBulkEntry {H : Type} : Lit × DataW H → Nat
  | (.string bytes, d) => bytes.length + uptoBulk d + 1
  | (_, d) => uptoBulk d + 1
 end
def uptoSmall : (H : Type) → List (DataW H) → Bool := fun _ ds => decide (uptoBulkAll ds ≤ 1048576)
def OpenSpec.upto (s : _root_.Go.ChangeSpec) : _root_.Go.OpenSpec := { _root_.Go.OpenSpec.ofChange s with cond := some uptoSmall }

/-- 'meridianlaw21.NodeMarked', WHERE WHAT IT READS IS OF BULK AT MOST 1048576: true; the input reads as it did. -/
def nodeMarkedUptoRow : OpenClaim := { program := "ytieoejilppgebaa", sum := "489a0b4214e086985a3cd89312acf8c51a01b6be06d43d8fdcb2d217475038da", func := "meridian/meridianlaw21.NodeMarked", spec := "nodeMarked", inPlace := ["sync/atomic.StoreInt64", "sync/atomic.AddInt64"], plainKeys := false, apart := false, narrowed := true }
def NodeMarkedUptoSaid : Prop := nodeMarkedUptoRow.holds Try.pinned (OpenSpec.upto nodeMarkedSpec)

/-- 'meridianlaw21.NodeFlushed', WHERE WHAT IT READS IS OF BULK AT MOST 1048576: true; the input reads as it did. -/
def nodeFlushedUptoRow : OpenClaim := { program := "ytieoejilppgebaa", sum := "489a0b4214e086985a3cd89312acf8c51a01b6be06d43d8fdcb2d217475038da", func := "meridian/meridianlaw21.NodeFlushed", spec := "nodeFlushed", inPlace := ["sync/atomic.StoreInt64", "sync/atomic.AddInt64"], plainKeys := false, apart := false, narrowed := true }
def NodeFlushedUptoSaid : Prop := nodeFlushedUptoRow.holds Try.pinned (OpenSpec.upto nodeFlushedSpec)

/-- 'meridianlaw21.NodeServes', WHERE WHAT IT READS IS OF BULK AT MOST 1048576: true; the input reads as it did. -/
def nodeServesUptoRow : OpenClaim := { program := "ytieoejilppgebaa", sum := "489a0b4214e086985a3cd89312acf8c51a01b6be06d43d8fdcb2d217475038da", func := "meridian/meridianlaw21.NodeServes", spec := "nodeServes", inPlace := ["sync/atomic.StoreInt64", "sync/atomic.AddInt64"], plainKeys := false, apart := false, narrowed := true }
def NodeServesUptoSaid : Prop := nodeServesUptoRow.holds Try.pinned (OpenSpec.upto nodeServesSpec)

end Rows
end Go.Proofs.Ytieoejilppgebaa
