/-
  No cell of these rows narrows 'for every input' (looked for: loops, veiled, ifaces, maps, wideKeys, modest, calm, conditions, laid).
  DERIVED. THE GIVEN ROWS OF THIS SEAT. 5 by the template 'for every input the law returns true; each argument reads behind the call as it read before'; 0 by the template 'total and deterministic' (their statements: YtlglnpokfmdpaaaTotals.lean).
  GIVEN WITH THE SEED: the statements are not yours to turn. If you find one false, say at which input.
  Laid BY PROGRAM, IN A SANDBOX (cutbox-rows.mjs): the forced cells as the released guide's own fill.sh prints them over the translation e09e9401e8a60fd9… (all of the seat's roots in one cut). By AI agents, Wed Nov 11 2026. No macro, syntax, notation, axiom, sorry.
-/
import Derived.Test.YtlglnpokfmdpaaaChecked
import GoSem.Claim
import GoSem.ClaimJoined
import GoSem.ClaimMapViews
import Derived.JoinedTies
import Derived.KernelRfl
namespace Go.Proofs.Ytlglnpokfmdpaaa
/- THE CELL 'sum', in the pinned program and in every row, IS THE sha256 OF THE DUMP (.gsa) THAT YtlglnpokfmdpaaaProg.lean LOADS. Nothing in Lean hashes anything: it is a label: what it is worth is what the hold of that sum in a sandbox is worth. -/
noncomputable def Try.pinned : Pinned := { name := "ytlglnpokfmdpaaa", sum := "e09e9401e8a60fd9e8e6eade89866af949882d8d7e58701032d0b4db55456cc1", checked := Try.checked }
namespace Rows
def none {H : Type} : Left H := { results := [], args := [] }

/-- 'meridianlaw14.DedupeOwn': WHATEVER THE INPUT: true; the input reads as it did. -/
def dedupeOwnSpec : ChangeSpec := { name := "dedupeOwn", fn := fun _ => fun
  | [d1, d2] => { results := [.lit (.bool true)], args := [d1, d2] }
  | _ => none }
def dedupeOwnRow : OpenClaim := { program := "ytlglnpokfmdpaaa", sum := "e09e9401e8a60fd9e8e6eade89866af949882d8d7e58701032d0b4db55456cc1", func := "meridian/meridianlaw14.DedupeOwn", spec := "dedupeOwn", apart := false }
def DedupeOwnSaid : Prop := dedupeOwnRow.holds Try.pinned (OpenSpec.ofChange dedupeOwnSpec)

/-- ITS FALSE NEIGHBOUR: 'it returns false'. Refute it at one input. -/
def dedupeOwnWrong : ChangeSpec := { name := "dedupeOwn", fn := fun _ => fun
  | [d1, d2] => { results := [.lit (.bool false)], args := [d1, d2] }
  | _ => none }
def DedupeOwnWrongFalsely : Prop := dedupeOwnRow.holds Try.pinned (OpenSpec.ofChange dedupeOwnWrong)

/-- 'meridianlaw14.DedupeRises': WHATEVER THE INPUT: true; the input reads as it did. -/
def dedupeRisesSpec : ChangeSpec := { name := "dedupeRises", fn := fun _ => fun
  | [d1, d2] => { results := [.lit (.bool true)], args := [d1, d2] }
  | _ => none }
def dedupeRisesRow : OpenClaim := { program := "ytlglnpokfmdpaaa", sum := "e09e9401e8a60fd9e8e6eade89866af949882d8d7e58701032d0b4db55456cc1", func := "meridian/meridianlaw14.DedupeRises", spec := "dedupeRises", apart := false }
def DedupeRisesSaid : Prop := dedupeRisesRow.holds Try.pinned (OpenSpec.ofChange dedupeRisesSpec)

/-- ITS FALSE NEIGHBOUR: 'it returns false'. Refute it at one input. -/
def dedupeRisesWrong : ChangeSpec := { name := "dedupeRises", fn := fun _ => fun
  | [d1, d2] => { results := [.lit (.bool false)], args := [d1, d2] }
  | _ => none }
def DedupeRisesWrongFalsely : Prop := dedupeRisesRow.holds Try.pinned (OpenSpec.ofChange dedupeRisesWrong)

/-- 'meridianlaw14.DedupeLimit': WHATEVER THE INPUT: true; the input reads as it did. -/
def dedupeLimitSpec : ChangeSpec := { name := "dedupeLimit", fn := fun _ => fun
  | [d1, d2] => { results := [.lit (.bool true)], args := [d1, d2] }
  | _ => none }
def dedupeLimitRow : OpenClaim := { program := "ytlglnpokfmdpaaa", sum := "e09e9401e8a60fd9e8e6eade89866af949882d8d7e58701032d0b4db55456cc1", func := "meridian/meridianlaw14.DedupeLimit", spec := "dedupeLimit", unfollowed := true, recurses := true, apart := false }
def DedupeLimitSaid : Prop := dedupeLimitRow.holds Try.pinned (OpenSpec.ofChange dedupeLimitSpec)

/-- ITS FALSE NEIGHBOUR: 'it returns false'. Refute it at one input. -/
def dedupeLimitWrong : ChangeSpec := { name := "dedupeLimit", fn := fun _ => fun
  | [d1, d2] => { results := [.lit (.bool false)], args := [d1, d2] }
  | _ => none }
def DedupeLimitWrongFalsely : Prop := dedupeLimitRow.holds Try.pinned (OpenSpec.ofChange dedupeLimitWrong)

/-- 'meridianlaw14.DedupePlays': WHATEVER THE INPUT: true; the input reads as it did. -/
def dedupePlaysSpec : ChangeSpec := { name := "dedupePlays", fn := fun _ => fun
  | [d1, d2] => { results := [.lit (.bool true)], args := [d1, d2] }
  | _ => none }
def dedupePlaysRow : OpenClaim := { program := "ytlglnpokfmdpaaa", sum := "e09e9401e8a60fd9e8e6eade89866af949882d8d7e58701032d0b4db55456cc1", func := "meridian/meridianlaw14.DedupePlays", spec := "dedupePlays", unfollowed := true, recurses := true, apart := false }
def DedupePlaysSaid : Prop := dedupePlaysRow.holds Try.pinned (OpenSpec.ofChange dedupePlaysSpec)

/-- ITS FALSE NEIGHBOUR: 'it returns false'. Refute it at one input. -/
def dedupePlaysWrong : ChangeSpec := { name := "dedupePlays", fn := fun _ => fun
  | [d1, d2] => { results := [.lit (.bool false)], args := [d1, d2] }
  | _ => none }
def DedupePlaysWrongFalsely : Prop := dedupePlaysRow.holds Try.pinned (OpenSpec.ofChange dedupePlaysWrong)

/-- 'meridianlaw14.DedupeLoads': WHATEVER THE INPUT: true; the input reads as it did. -/
def dedupeLoadsSpec : ChangeSpec := { name := "dedupeLoads", fn := fun _ => fun
  | [d1, d2, d3] => { results := [.lit (.bool true)], args := [d1, d2, d3] }
  | _ => none }
def dedupeLoadsRow : OpenClaim := { program := "ytlglnpokfmdpaaa", sum := "e09e9401e8a60fd9e8e6eade89866af949882d8d7e58701032d0b4db55456cc1", func := "meridian/meridianlaw14.DedupeLoads", spec := "dedupeLoads", unfollowed := true, recurses := true, apart := false }
def DedupeLoadsSaid : Prop := dedupeLoadsRow.holds Try.pinned (OpenSpec.ofChange dedupeLoadsSpec)

/-- ITS FALSE NEIGHBOUR: 'it returns false'. Refute it at one input. -/
def dedupeLoadsWrong : ChangeSpec := { name := "dedupeLoads", fn := fun _ => fun
  | [d1, d2, d3] => { results := [.lit (.bool false)], args := [d1, d2, d3] }
  | _ => none }
def DedupeLoadsWrongFalsely : Prop := dedupeLoadsRow.holds Try.pinned (OpenSpec.ofChange dedupeLoadsWrong)

/- THE SECOND FORM. 'bulk': how many values and letters a reading holds, each counted each time it is reached (what is shared counts as often as it is met; a slice's spare places count too). A statement '..UptoSaid' is the law's where the arguments, and the package variables that the reading takes, are together of bulk at most 1048576: NARROWER than '..Said'. Prove '..Said' where nothing that the law and all that it calls make is longer than what came in: it says more and counts as full. Else prove '..UptoSaid'. A law counts once. -/
mutual
def uptoBulk {H : Type} : DataW H → Nat
  | .lit (.string bytes) => bytes.length + 1
  | .lit _ => 1
  | .nil => 1
  | .ptr d => uptoBulk d + 1
  | .slice elems spare => uptoBulkAll elems + uptoBulkAll spare + 1
  | .agg parts => uptoBulkAll parts + 1
  | .iface _ d => uptoBulk d + 1
  | .map entries => uptoBulkEntries entries + 1
  | .held _ => 1
def uptoBulkAll {H : Type} : List (DataW H) → Nat
  | [] => 0
  | d :: r => uptoBulk d + uptoBulkAll r
def uptoBulkEntries {H : Type} : List (Lit × DataW H) → Nat
  | [] => 0
  | x :: r => uptoBulkEntry x + uptoBulkEntries r
def uptoBulkEntry {H : Type} : Lit × DataW H → Nat
  | (.string bytes, d) => bytes.length + uptoBulk d + 1
  | (_, d) => uptoBulk d + 1
 end
def uptoSmall : (H : Type) → List (DataW H) → Bool := fun _ ds => decide (uptoBulkAll ds ≤ 1048576)
def OpenSpec.upto (s : _root_.Go.ChangeSpec) : _root_.Go.OpenSpec := { _root_.Go.OpenSpec.ofChange s with cond := some uptoSmall }

/-- 'meridianlaw14.DedupeOwn', WHERE WHAT IT READS IS OF BULK AT MOST 1048576: true; the input reads as it did. -/
def dedupeOwnUptoRow : OpenClaim := { program := "ytlglnpokfmdpaaa", sum := "e09e9401e8a60fd9e8e6eade89866af949882d8d7e58701032d0b4db55456cc1", func := "meridian/meridianlaw14.DedupeOwn", spec := "dedupeOwn", apart := false, narrowed := true }
def DedupeOwnUptoSaid : Prop := dedupeOwnUptoRow.holds Try.pinned (OpenSpec.upto dedupeOwnSpec)

/-- 'meridianlaw14.DedupeRises', WHERE WHAT IT READS IS OF BULK AT MOST 1048576: true; the input reads as it did. -/
def dedupeRisesUptoRow : OpenClaim := { program := "ytlglnpokfmdpaaa", sum := "e09e9401e8a60fd9e8e6eade89866af949882d8d7e58701032d0b4db55456cc1", func := "meridian/meridianlaw14.DedupeRises", spec := "dedupeRises", apart := false, narrowed := true }
def DedupeRisesUptoSaid : Prop := dedupeRisesUptoRow.holds Try.pinned (OpenSpec.upto dedupeRisesSpec)

/-- 'meridianlaw14.DedupeLimit', WHERE WHAT IT READS IS OF BULK AT MOST 1048576: true; the input reads as it did. -/
def dedupeLimitUptoRow : OpenClaim := { program := "ytlglnpokfmdpaaa", sum := "e09e9401e8a60fd9e8e6eade89866af949882d8d7e58701032d0b4db55456cc1", func := "meridian/meridianlaw14.DedupeLimit", spec := "dedupeLimit", unfollowed := true, recurses := true, apart := false, narrowed := true }
def DedupeLimitUptoSaid : Prop := dedupeLimitUptoRow.holds Try.pinned (OpenSpec.upto dedupeLimitSpec)

/-- 'meridianlaw14.DedupePlays', WHERE WHAT IT READS IS OF BULK AT MOST 1048576: true; the input reads as it did. -/
def dedupePlaysUptoRow : OpenClaim := { program := "ytlglnpokfmdpaaa", sum := "e09e9401e8a60fd9e8e6eade89866af949882d8d7e58701032d0b4db55456cc1", func := "meridian/meridianlaw14.DedupePlays", spec := "dedupePlays", unfollowed := true, recurses := true, apart := false, narrowed := true }
def DedupePlaysUptoSaid : Prop := dedupePlaysUptoRow.holds Try.pinned (OpenSpec.upto dedupePlaysSpec)

/-- 'meridianlaw14.DedupeLoads', WHERE WHAT IT READS IS OF BULK AT MOST 1048576: true; the input reads as it did. -/
def dedupeLoadsUptoRow : OpenClaim := { program := "ytlglnpokfmdpaaa", sum := "e09e9401e8a60fd9e8e6eade89866af949882d8d7e58701032d0b4db55456cc1", func := "meridian/meridianlaw14.DedupeLoads", spec := "dedupeLoads", unfollowed := true, recurses := true, apart := false, narrowed := true }
def DedupeLoadsUptoSaid : Prop := dedupeLoadsUptoRow.holds Try.pinned (OpenSpec.upto dedupeLoadsSpec)

end Rows
end Go.Proofs.Ytlglnpokfmdpaaa
