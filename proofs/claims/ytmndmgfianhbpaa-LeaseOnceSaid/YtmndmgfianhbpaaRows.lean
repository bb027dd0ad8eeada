/-
  No cell of these rows narrows 'for every input' (looked for: loops, veiled, ifaces, maps, wideKeys, modest, calm, conditions, laid).
  DERIVED. THE GIVEN ROWS OF THIS SEAT. 6 by the template 'for every input the law returns true; each argument reads behind the call as it read before'; 0 by the template 'total and deterministic' (their statements: YtmndmgfianhbpaaTotals.lean).
  GIVEN WITH THE SEED: the statements are not yours to turn. If you find one false, say at which input.
  Laid BY PROGRAM, IN A SANDBOX (cutbox-rows.mjs): the forced cells as the released guide's own fill.sh prints them over the translation b4019e97c5d0d4d9… (all of the seat's roots in one cut). By AI agents, Wed Nov 11 2026. No macro, syntax, notation, axiom, sorry.
-/
import Derived.Test.YtmndmgfianhbpaaChecked
import GoSem.Claim
import GoSem.ClaimJoined
import GoSem.ClaimMapViews
import Derived.JoinedTies
import Derived.KernelRfl
namespace Go.Proofs.Ytmndmgfianhbpaa
/- THE CELL 'sum', in the pinned program and in every row, IS THE sha256 OF THE DUMP (.gsa) THAT YtmndmgfianhbpaaProg.lean LOADS. Nothing in Lean hashes anything: it is a label: what it is worth is what the hold of that sum in a sandbox is worth. -/
noncomputable def Try.pinned : Pinned := { name := "ytmndmgfianhbpaa", sum := "b4019e97c5d0d4d9bb49ebfe6346e28388b21bad01f3c13f57a526ba03bb3084", checked := Try.checked }
namespace Rows
def none {H : Type} : Left H := { results := [], args := [] }

/-- 'meridianlaw07.LeaseAgain': WHATEVER THE INPUT: true; the input reads as it did. -/
def leaseAgainSpec : ChangeSpec := { name := "leaseAgain", fn := fun _ => fun
  | [d1, d2, d3] => { results := [.lit (.bool true)], args := [d1, d2, d3] }
  | _ => none }
def leaseAgainRow : OpenClaim := { program := "ytmndmgfianhbpaa", sum := "b4019e97c5d0d4d9bb49ebfe6346e28388b21bad01f3c13f57a526ba03bb3084", func := "meridian/meridianlaw07.LeaseAgain", spec := "leaseAgain", inPlace := ["sync/atomic.AddInt64", "sync/atomic.LoadInt64", "sync/atomic.StoreInt64"], apart := false }
def LeaseAgainSaid : Prop := leaseAgainRow.holds Try.pinned (OpenSpec.ofChange leaseAgainSpec)

/-- ITS FALSE NEIGHBOUR: 'it returns false'. Refute it at one input. -/
def leaseAgainWrong : ChangeSpec := { name := "leaseAgain", fn := fun _ => fun
  | [d1, d2, d3] => { results := [.lit (.bool false)], args := [d1, d2, d3] }
  | _ => none }
def LeaseAgainWrongFalsely : Prop := leaseAgainRow.holds Try.pinned (OpenSpec.ofChange leaseAgainWrong)

/-- 'meridianlaw07.LeaseApart': WHATEVER THE INPUT: true; the input reads as it did. -/
def leaseApartSpec : ChangeSpec := { name := "leaseApart", fn := fun _ => fun
  | [d1, d2, d3] => { results := [.lit (.bool true)], args := [d1, d2, d3] }
  | _ => none }
def leaseApartRow : OpenClaim := { program := "ytmndmgfianhbpaa", sum := "b4019e97c5d0d4d9bb49ebfe6346e28388b21bad01f3c13f57a526ba03bb3084", func := "meridian/meridianlaw07.LeaseApart", spec := "leaseApart", inPlace := ["sync/atomic.AddInt64", "sync/atomic.LoadInt64"], apart := false }
def LeaseApartSaid : Prop := leaseApartRow.holds Try.pinned (OpenSpec.ofChange leaseApartSpec)

/-- ITS FALSE NEIGHBOUR: 'it returns false'. Refute it at one input. -/
def leaseApartWrong : ChangeSpec := { name := "leaseApart", fn := fun _ => fun
  | [d1, d2, d3] => { results := [.lit (.bool false)], args := [d1, d2, d3] }
  | _ => none }
def LeaseApartWrongFalsely : Prop := leaseApartRow.holds Try.pinned (OpenSpec.ofChange leaseApartWrong)

/-- 'meridianlaw07.LeaseBound': WHATEVER THE INPUT: true; the input reads as it did. -/
def leaseBoundSpec : ChangeSpec := { name := "leaseBound", fn := fun _ => fun
  | [d1, d2, d3] => { results := [.lit (.bool true)], args := [d1, d2, d3] }
  | _ => none }
def leaseBoundRow : OpenClaim := { program := "ytmndmgfianhbpaa", sum := "b4019e97c5d0d4d9bb49ebfe6346e28388b21bad01f3c13f57a526ba03bb3084", func := "meridian/meridianlaw07.LeaseBound", spec := "leaseBound", inPlace := ["sync/atomic.AddInt64", "sync/atomic.LoadInt64"], apart := false }
def LeaseBoundSaid : Prop := leaseBoundRow.holds Try.pinned (OpenSpec.ofChange leaseBoundSpec)

/-- ITS FALSE NEIGHBOUR: 'it returns false'. Refute it at one input. -/
def leaseBoundWrong : ChangeSpec := { name := "leaseBound", fn := fun _ => fun
  | [d1, d2, d3] => { results := [.lit (.bool false)], args := [d1, d2, d3] }
  | _ => none }
def LeaseBoundWrongFalsely : Prop := leaseBoundRow.holds Try.pinned (OpenSpec.ofChange leaseBoundWrong)

/-- 'meridianlaw07.LeaseEnds': WHATEVER THE INPUT: true; the input reads as it did. -/
def leaseEndsSpec : ChangeSpec := { name := "leaseEnds", fn := fun _ => fun
  | [d1, d2] => { results := [.lit (.bool true)], args := [d1, d2] }
  | _ => none }
def leaseEndsRow : OpenClaim := { program := "ytmndmgfianhbpaa", sum := "b4019e97c5d0d4d9bb49ebfe6346e28388b21bad01f3c13f57a526ba03bb3084", func := "meridian/meridianlaw07.LeaseEnds", spec := "leaseEnds", inPlace := ["sync/atomic.AddInt64", "sync/atomic.LoadInt64"], apart := false }
def LeaseEndsSaid : Prop := leaseEndsRow.holds Try.pinned (OpenSpec.ofChange leaseEndsSpec)

/-- ITS FALSE NEIGHBOUR: 'it returns false'. Refute it at one input. -/
def leaseEndsWrong : ChangeSpec := { name := "leaseEnds", fn := fun _ => fun
  | [d1, d2] => { results := [.lit (.bool false)], args := [d1, d2] }
  | _ => none }
def LeaseEndsWrongFalsely : Prop := leaseEndsRow.holds Try.pinned (OpenSpec.ofChange leaseEndsWrong)

/-- 'meridianlaw07.LeaseOnce': WHATEVER THE INPUT: true; the input reads as it did. -/
def leaseOnceSpec : ChangeSpec := { name := "leaseOnce", fn := fun _ => fun
  | [d1, d2, d3] => { results := [.lit (.bool true)], args := [d1, d2, d3] }
  | _ => none }
def leaseOnceRow : OpenClaim := { program := "ytmndmgfianhbpaa", sum := "b4019e97c5d0d4d9bb49ebfe6346e28388b21bad01f3c13f57a526ba03bb3084", func := "meridian/meridianlaw07.LeaseOnce", spec := "leaseOnce", inPlace := ["sync/atomic.AddInt64", "sync/atomic.LoadInt64"], apart := false }
def LeaseOnceSaid : Prop := leaseOnceRow.holds Try.pinned (OpenSpec.ofChange leaseOnceSpec)

/-- ITS FALSE NEIGHBOUR: 'it returns false'. Refute it at one input. -/
def leaseOnceWrong : ChangeSpec := { name := "leaseOnce", fn := fun _ => fun
  | [d1, d2, d3] => { results := [.lit (.bool false)], args := [d1, d2, d3] }
  | _ => none }
def LeaseOnceWrongFalsely : Prop := leaseOnceRow.holds Try.pinned (OpenSpec.ofChange leaseOnceWrong)

/-- 'meridianlaw07.LeasePlays': WHATEVER THE INPUT: true; the input reads as it did. -/
def leasePlaysSpec : ChangeSpec := { name := "leasePlays", fn := fun _ => fun
  | [d1, d2, d3] => { results := [.lit (.bool true)], args := [d1, d2, d3] }
  | _ => none }
def leasePlaysRow : OpenClaim := { program := "ytmndmgfianhbpaa", sum := "b4019e97c5d0d4d9bb49ebfe6346e28388b21bad01f3c13f57a526ba03bb3084", func := "meridian/meridianlaw07.LeasePlays", spec := "leasePlays", inPlace := ["sync/atomic.AddInt64", "sync/atomic.LoadInt64"], apart := false }
def LeasePlaysSaid : Prop := leasePlaysRow.holds Try.pinned (OpenSpec.ofChange leasePlaysSpec)

/-- ITS FALSE NEIGHBOUR: 'it returns false'. Refute it at one input. -/
def leasePlaysWrong : ChangeSpec := { name := "leasePlays", fn := fun _ => fun
  | [d1, d2, d3] => { results := [.lit (.bool false)], args := [d1, d2, d3] }
  | _ => none }
def LeasePlaysWrongFalsely : Prop := leasePlaysRow.holds Try.pinned (OpenSpec.ofChange leasePlaysWrong)

/- THE SECOND FORM. 'bulk': how many values and letters a reading holds, each counted each time it is reached (what is shared counts as often as it is met; a slice's spare places count too). A statement '..UptoSaid' is the law's where the arguments, and the package variables that the reading takes, are together of bulk at most 1048576: NARROWER than '..Said'. Prove '..Said' where nothing that the law and all that it calls make is longer than what came in: it says more and counts as full. Else prove '..UptoSaid'. A law counts once. -/
mutual
def uptoBulk {H : Type} : DataW H → Nat
  | .lit (.string bytes) => bytes.length + 1
  | .lit _ => 1
  | .nil => 1
  | .ptr d => uptoBulk d + 1
  | .slice elems spare => uptoBulkAll elems + uptoBulkAll spare + 1
  | .agg parts => uptoBulkAll parts + 1
  | .iface _ d => uptoBulk d + 1
  | .map entries => uptoBulkEntries entries + 1
  | .held _ => 1
def uptoBulkAll {H : Type} : List (DataW H) → Nat
  | [] => 0
  | d :: r => uptoBulk d + uptoBulkAll r
def uptoBulkEntries {H : Type} : List (Lit × DataW H) → Nat
  | [] => 0
  | x :: r => uptoBulkEntry x + uptoBulkEntries r
def uptoBulkEntry {H : Type} : Lit × DataW H → Nat
  | (.string bytes, d) => bytes.length + uptoBulk d + 1
  | (_, d) => uptoBulk d + 1
 end
def uptoSmall : (H : Type) → List (DataW H) → Bool := fun _ ds => decide (uptoBulkAll ds ≤ 1048576)
def OpenSpec.upto (s : _root_.Go.ChangeSpec) : _root_.Go.OpenSpec := { _root_.Go.OpenSpec.ofChange s with cond := some uptoSmall }

/-- 'meridianlaw07.LeaseAgain', WHERE WHAT IT READS IS OF BULK AT MOST 1048576: true; the input reads as it did. -/
def leaseAgainUptoRow : OpenClaim := { program := "ytmndmgfianhbpaa", sum := "b4019e97c5d0d4d9bb49ebfe6346e28388b21bad01f3c13f57a526ba03bb3084", func := "meridian/meridianlaw07.LeaseAgain", spec := "leaseAgain", inPlace := ["sync/atomic.AddInt64", "sync/atomic.LoadInt64", "sync/atomic.StoreInt64"], apart := false, narrowed := true }
def LeaseAgainUptoSaid : Prop := leaseAgainUptoRow.holds Try.pinned (OpenSpec.upto leaseAgainSpec)

/-- 'meridianlaw07.LeaseApart', WHERE WHAT IT READS IS OF BULK AT MOST 1048576: true; the input reads as it did. -/
def leaseApartUptoRow : OpenClaim := { program := "ytmndmgfianhbpaa", sum := "b4019e97c5d0d4d9bb49ebfe6346e28388b21bad01f3c13f57a526ba03bb3084", func := "meridian/meridianlaw07.LeaseApart", spec := "leaseApart", inPlace := ["sync/atomic.AddInt64", "sync/atomic.LoadInt64"], apart := false, narrowed := true }
def LeaseApartUptoSaid : Prop := leaseApartUptoRow.holds Try.pinned (OpenSpec.upto leaseApartSpec)

/-- 'meridianlaw07.LeaseBound', WHERE WHAT IT READS IS OF BULK AT MOST 1048576: true; the input reads as it did. -/
def leaseBoundUptoRow : OpenClaim := { program := "ytmndmgfianhbpaa", sum := "b4019e97c5d0d4d9bb49ebfe6346e28388b21bad01f3c13f57a526ba03bb3084", func := "meridian/meridianlaw07.LeaseBound", spec := "leaseBound", inPlace := ["sync/atomic.AddInt64", "sync/atomic.LoadInt64"], apart := false, narrowed := true }
def LeaseBoundUptoSaid : Prop := leaseBoundUptoRow.holds Try.pinned (OpenSpec.upto leaseBoundSpec)

/-- 'meridianlaw07.LeaseEnds', WHERE WHAT IT READS IS OF BULK AT MOST 1048576: true; the input reads as it did. -/
def leaseEndsUptoRow : OpenClaim := { program := "ytmndmgfianhbpaa", sum := "b4019e97c5d0d4d9bb49ebfe6346e28388b21bad01f3c13f57a526ba03bb3084", func := "meridian/meridianlaw07.LeaseEnds", spec := "leaseEnds", inPlace := ["sync/atomic.AddInt64", "sync/atomic.LoadInt64"], apart := false, narrowed := true }
def LeaseEndsUptoSaid : Prop := leaseEndsUptoRow.holds Try.pinned (OpenSpec.upto leaseEndsSpec)

/-- 'meridianlaw07.LeaseOnce', WHERE WHAT IT READS IS OF BULK AT MOST 1048576: true; the input reads as it did. -/
def leaseOnceUptoRow : OpenClaim := { program := "ytmndmgfianhbpaa", sum := "b4019e97c5d0d4d9bb49ebfe6346e28388b21bad01f3c13f57a526ba03bb3084", func := "meridian/meridianlaw07.LeaseOnce", spec := "leaseOnce", inPlace := ["sync/atomic.AddInt64", "sync/atomic.LoadInt64"], apart := false, narrowed := true }
def LeaseOnceUptoSaid : Prop := leaseOnceUptoRow.holds Try.pinned (OpenSpec.upto leaseOnceSpec)

/-- 'meridianlaw07.LeasePlays', WHERE WHAT IT READS IS OF BULK AT MOST 1048576: true; the input reads as it did. -/
def leasePlaysUptoRow : OpenClaim := { program := "ytmndmgfianhbpaa", sum := "b4019e97c5d0d4d9bb49ebfe6346e28388b21bad01f3c13f57a526ba03bb3084", func := "meridian/meridianlaw07.LeasePlays", spec := "leasePlays", inPlace := ["sync/atomic.AddInt64", "sync/atomic.LoadInt64"], apart := false, narrowed := true }
def LeasePlaysUptoSaid : Prop := leasePlaysUptoRow.holds Try.pinned (OpenSpec.upto leasePlaysSpec)

end Rows
end Go.Proofs.Ytmndmgfianhbpaa
