/-
  No cell of these rows narrows 'for every input' (looked for: loops, veiled, ifaces, maps, wideKeys, modest, calm, conditions, laid).
  DERIVED. THE GIVEN ROWS OF THIS SEAT. 6 by the template 'for every input the law returns true; each argument reads behind the call as it read before'; 0 by the template 'total and deterministic' (their statements: YtgbcjnejlelndaaTotals.lean).
  GIVEN WITH THE SEED: the statements are not yours to turn. If you find one false, say at which input.
  Laid BY PROGRAM, IN A SANDBOX (cutbox-rows.mjs): the forced cells as the released guide's own fill.sh prints them over the translation 1f5e46508ff98c58… (all of the seat's roots in one cut). By AI agents, Wed Nov 11 2026. No macro, syntax, notation, axiom, sorry.
-/
import Derived.Test.YtgbcjnejlelndaaChecked
import GoSem.Claim
import GoSem.ClaimJoined
import GoSem.ClaimMapViews
import Derived.JoinedTies
import Derived.KernelRfl
namespace Go.Proofs.Ytgbcjnejlelndaa
/- THE CELL 'sum', in the pinned program and in every row, IS THE sha256 OF THE DUMP (.gsa) THAT YtgbcjnejlelndaaProg.lean LOADS. Nothing in Lean hashes anything: it is a label: what it is worth is what the hold of that sum in a sandbox is worth. -/
noncomputable def Try.pinned : Pinned := { name := "ytgbcjnejlelndaa", sum := "1f5e46508ff98c581e181194619913b6362500518841158c03c99171b9d0398d", checked := Try.checked }
namespace Rows
def none {H : Type} : Left H := { results := [], args := [] }

/-- 'meridianlaw06.LruLast': WHATEVER THE INPUT: true; the input reads as it did. -/
def lruLastSpec : ChangeSpec := { name := "lruLast", fn := fun _ => fun
  | [d1, d2, d3] => { results := [.lit (.bool true)], args := [d1, d2, d3] }
  | _ => none }
def lruLastRow : OpenClaim := { program := "ytgbcjnejlelndaa", sum := "1f5e46508ff98c581e181194619913b6362500518841158c03c99171b9d0398d", func := "meridian/meridianlaw06.LruLast", spec := "lruLast", apart := false }
def LruLastSaid : Prop := lruLastRow.holds Try.pinned (OpenSpec.ofChange lruLastSpec)

/-- ITS FALSE NEIGHBOUR: 'it returns false'. Refute it at one input. -/
def lruLastWrong : ChangeSpec := { name := "lruLast", fn := fun _ => fun
  | [d1, d2, d3] => { results := [.lit (.bool false)], args := [d1, d2, d3] }
  | _ => none }
def LruLastWrongFalsely : Prop := lruLastRow.holds Try.pinned (OpenSpec.ofChange lruLastWrong)

/-- 'meridianlaw06.LruNewest': WHATEVER THE INPUT: true; the input reads as it did. -/
def lruNewestSpec : ChangeSpec := { name := "lruNewest", fn := fun _ => fun
  | [d1, d2] => { results := [.lit (.bool true)], args := [d1, d2] }
  | _ => none }
def lruNewestRow : OpenClaim := { program := "ytgbcjnejlelndaa", sum := "1f5e46508ff98c581e181194619913b6362500518841158c03c99171b9d0398d", func := "meridian/meridianlaw06.LruNewest", spec := "lruNewest", apart := false }
def LruNewestSaid : Prop := lruNewestRow.holds Try.pinned (OpenSpec.ofChange lruNewestSpec)

/-- ITS FALSE NEIGHBOUR: 'it returns false'. Refute it at one input. -/
def lruNewestWrong : ChangeSpec := { name := "lruNewest", fn := fun _ => fun
  | [d1, d2] => { results := [.lit (.bool false)], args := [d1, d2] }
  | _ => none }
def LruNewestWrongFalsely : Prop := lruNewestRow.holds Try.pinned (OpenSpec.ofChange lruNewestWrong)

/-- 'meridianlaw06.LruBound': WHATEVER THE INPUT: true; the input reads as it did. -/
def lruBoundSpec : ChangeSpec := { name := "lruBound", fn := fun _ => fun
  | [d1, d2] => { results := [.lit (.bool true)], args := [d1, d2] }
  | _ => none }
def lruBoundRow : OpenClaim := { program := "ytgbcjnejlelndaa", sum := "1f5e46508ff98c581e181194619913b6362500518841158c03c99171b9d0398d", func := "meridian/meridianlaw06.LruBound", spec := "lruBound", apart := false }
def LruBoundSaid : Prop := lruBoundRow.holds Try.pinned (OpenSpec.ofChange lruBoundSpec)

/-- ITS FALSE NEIGHBOUR: 'it returns false'. Refute it at one input. -/
def lruBoundWrong : ChangeSpec := { name := "lruBound", fn := fun _ => fun
  | [d1, d2] => { results := [.lit (.bool false)], args := [d1, d2] }
  | _ => none }
def LruBoundWrongFalsely : Prop := lruBoundRow.holds Try.pinned (OpenSpec.ofChange lruBoundWrong)

/-- 'meridianlaw06.LruReserves': WHATEVER THE INPUT: true; the input reads as it did. -/
def lruReservesSpec : ChangeSpec := { name := "lruReserves", fn := fun _ => fun
  | [d1, d2, d3] => { results := [.lit (.bool true)], args := [d1, d2, d3] }
  | _ => none }
def lruReservesRow : OpenClaim := { program := "ytgbcjnejlelndaa", sum := "1f5e46508ff98c581e181194619913b6362500518841158c03c99171b9d0398d", func := "meridian/meridianlaw06.LruReserves", spec := "lruReserves", apart := false }
def LruReservesSaid : Prop := lruReservesRow.holds Try.pinned (OpenSpec.ofChange lruReservesSpec)

/-- ITS FALSE NEIGHBOUR: 'it returns false'. Refute it at one input. -/
def lruReservesWrong : ChangeSpec := { name := "lruReserves", fn := fun _ => fun
  | [d1, d2, d3] => { results := [.lit (.bool false)], args := [d1, d2, d3] }
  | _ => none }
def LruReservesWrongFalsely : Prop := lruReservesRow.holds Try.pinned (OpenSpec.ofChange lruReservesWrong)

/-- 'meridianlaw06.LruPlays': WHATEVER THE INPUT: true; the input reads as it did. -/
def lruPlaysSpec : ChangeSpec := { name := "lruPlays", fn := fun _ => fun
  | [d1, d2] => { results := [.lit (.bool true)], args := [d1, d2] }
  | _ => none }
def lruPlaysRow : OpenClaim := { program := "ytgbcjnejlelndaa", sum := "1f5e46508ff98c581e181194619913b6362500518841158c03c99171b9d0398d", func := "meridian/meridianlaw06.LruPlays", spec := "lruPlays", apart := false }
def LruPlaysSaid : Prop := lruPlaysRow.holds Try.pinned (OpenSpec.ofChange lruPlaysSpec)

/-- ITS FALSE NEIGHBOUR: 'it returns false'. Refute it at one input. -/
def lruPlaysWrong : ChangeSpec := { name := "lruPlays", fn := fun _ => fun
  | [d1, d2] => { results := [.lit (.bool false)], args := [d1, d2] }
  | _ => none }
def LruPlaysWrongFalsely : Prop := lruPlaysRow.holds Try.pinned (OpenSpec.ofChange lruPlaysWrong)

/-- 'meridianlaw06.LruNil': WHATEVER THE INPUT: true; the input reads as it did. -/
def lruNilSpec : ChangeSpec := { name := "lruNil", fn := fun _ => fun
  | [d1, d2] => { results := [.lit (.bool true)], args := [d1, d2] }
  | _ => none }
def lruNilRow : OpenClaim := { program := "ytgbcjnejlelndaa", sum := "1f5e46508ff98c581e181194619913b6362500518841158c03c99171b9d0398d", func := "meridian/meridianlaw06.LruNil", spec := "lruNil", apart := false }
def LruNilSaid : Prop := lruNilRow.holds Try.pinned (OpenSpec.ofChange lruNilSpec)

/-- ITS FALSE NEIGHBOUR: 'it returns false'. Refute it at one input. -/
def lruNilWrong : ChangeSpec := { name := "lruNil", fn := fun _ => fun
  | [d1, d2] => { results := [.lit (.bool false)], args := [d1, d2] }
  | _ => none }
def LruNilWrongFalsely : Prop := lruNilRow.holds Try.pinned (OpenSpec.ofChange lruNilWrong)

/- THE SECOND FORM. 'bulk': how many values and letters a reading holds, each counted each time it is reached (what is shared counts as often as it is met; a slice's spare places count too). A statement '..UptoSaid' is the law's where the arguments, and the package variables that the reading takes, are together of bulk at most 1048576: NARROWER than '..Said'. Prove '..Said' where nothing that the law and all that it calls make is longer than what came in: it says more and counts as full. Else prove '..UptoSaid'. A law counts once. -/
mutual
def uptoBulk {H : Type} : DataW H → Nat
  | .lit (.string bytes) => bytes.length + 1
  | .lit _ => 1
  | .nil => 1
  | .ptr d => uptoBulk d + 1
  | .slice elems spare => uptoBulkAll elems + uptoBulkAll spare + 1
  | .agg parts => uptoBulkAll parts + 1
  | .iface _ d => uptoBulk d + 1
  | .map entries => uptoBulkEntries entries + 1
  | .held _ => 1
def uptoBulkAll {H : Type} : List (DataW H) → Nat
  | [] => 0
  | d :: r => uptoBulk d + uptoBulkAll r
def uptoBulkEntries {H : Type} : List (Lit × DataW H) → Nat
  | [] => 0
  | x :: r => uptoBulkEntry x + uptoBulkEntries r
def uptoBulkEntry {H : Type} : Lit × DataW H → Nat
  | (.string bytes, d) => bytes.length + uptoBulk d + 1
  | (_, d) => uptoBulk d + 1
 end
def uptoSmall : (H : Type) → List (DataW H) → Bool := fun _ ds => decide (uptoBulkAll ds ≤ 1048576)
def OpenSpec.upto (s : _root_.Go.ChangeSpec) : _root_.Go.OpenSpec := { _root_.Go.OpenSpec.ofChange s with cond := some uptoSmall }

/-- 'meridianlaw06.LruLast', WHERE WHAT IT READS IS OF BULK AT MOST 1048576: true; the input reads as it did. -/
def lruLastUptoRow : OpenClaim := { program := "ytgbcjnejlelndaa", sum := "1f5e46508ff98c581e181194619913b6362500518841158c03c99171b9d0398d", func := "meridian/meridianlaw06.LruLast", spec := "lruLast", apart := false, narrowed := true }
def LruLastUptoSaid : Prop := lruLastUptoRow.holds Try.pinned (OpenSpec.upto lruLastSpec)

/-- 'meridianlaw06.LruNewest', WHERE WHAT IT READS IS OF BULK AT MOST 1048576: true; the input reads as it did. -/
def lruNewestUptoRow : OpenClaim := { program := "ytgbcjnejlelndaa", sum := "1f5e46508ff98c581e181194619913b6362500518841158c03c99171b9d0398d", func := "meridian/meridianlaw06.LruNewest", spec := "lruNewest", apart := false, narrowed := true }
def LruNewestUptoSaid : Prop := lruNewestUptoRow.holds Try.pinned (OpenSpec.upto lruNewestSpec)

/-- 'meridianlaw06.LruBound', WHERE WHAT IT READS IS OF BULK AT MOST 1048576: true; the input reads as it did. -/
def lruBoundUptoRow : OpenClaim := { program := "ytgbcjnejlelndaa", sum := "1f5e46508ff98c581e181194619913b6362500518841158c03c99171b9d0398d", func := "meridian/meridianlaw06.LruBound", spec := "lruBound", apart := false, narrowed := true }
def LruBoundUptoSaid : Prop := lruBoundUptoRow.holds Try.pinned (OpenSpec.upto lruBoundSpec)

/-- 'meridianlaw06.LruReserves', WHERE WHAT IT READS IS OF BULK AT MOST 1048576: true; the input reads as it did. -/
def lruReservesUptoRow : OpenClaim := { program := "ytgbcjnejlelndaa", sum := "1f5e46508ff98c581e181194619913b6362500518841158c03c99171b9d0398d", func := "meridian/meridianlaw06.LruReserves", spec := "lruReserves", apart := false, narrowed := true }
def LruReservesUptoSaid : Prop := lruReservesUptoRow.holds Try.pinned (OpenSpec.upto lruReservesSpec)

/-- 'meridianlaw06.LruPlays', WHERE WHAT IT READS IS OF BULK AT MOST 1048576: true; the input reads as it did. -/
def lruPlaysUptoRow : OpenClaim := { program := "ytgbcjnejlelndaa", sum := "1f5e46508ff98c581e181194619913b6362500518841158c03c99171b9d0398d", func := "meridian/meridianlaw06.LruPlays", spec := "lruPlays", apart := false, narrowed := true }
def LruPlaysUptoSaid : Prop := lruPlaysUptoRow.holds Try.pinned (OpenSpec.upto lruPlaysSpec)

/-- 'meridianlaw06.LruNil', WHERE WHAT IT READS IS OF BULK AT MOST 1048576: true; the input reads as it did. -/
def lruNilUptoRow : OpenClaim := { program := "ytgbcjnejlelndaa", sum := "1f5e46508ff98c581e181194619913b6362500518841158c03c99171b9d0398d", func := "meridian/meridianlaw06.LruNil", spec := "lruNil", apart := false, narrowed := true }
def LruNilUptoSaid : Prop := lruNilUptoRow.holds Try.pinned (OpenSpec.upto lruNilSpec)

end Rows
end Go.Proofs.Ytgbcjnejlelndaa
