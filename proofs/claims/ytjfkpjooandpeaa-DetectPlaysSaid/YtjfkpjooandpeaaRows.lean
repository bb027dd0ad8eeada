/-
  No cell of these rows narrows 'for every input' (looked for: loops, veiled, ifaces, maps, wideKeys, modest, calm, conditions, laid).
  DERIVED. THE GIVEN ROWS OF THIS SEAT. 4 by the template 'for every input the law returns true; each argument reads behind the call as it read before'; 0 by the template 'total and deterministic' (their statements: YtjfkpjooandpeaaTotals.lean).
  GIVEN WITH THE SEED: the statements are not yours to turn. If you find one false, say at which input.
  Laid BY PROGRAM, IN A SANDBOX (cutbox-rows.mjs): the forced cells as the released guide's own fill.sh prints them over the translation 5697cc324a0d5356… (all of the seat's roots in one cut). By AI agents, Wed Nov 11 2026. No macro, syntax, notation, axiom, sorry.
-/
import Derived.Test.YtjfkpjooandpeaaChecked
import GoSem.Claim
import GoSem.ClaimJoined
import GoSem.ClaimMapViews
import Derived.JoinedTies
import Derived.KernelRfl
namespace Go.Proofs.Ytjfkpjooandpeaa
/- THE CELL 'sum', in the pinned program and in every row, IS THE sha256 OF THE DUMP (.gsa) THAT YtjfkpjooandpeaaProg.lean LOADS. Nothing in Lean hashes anything: it is a label: what it is worth is what the hold of that sum in a sandbox is worth. -/
noncomputable def Try.pinned : Pinned := { name := "ytjfkpjooandpeaa", sum := "5697cc324a0d5356306eb359f8a4f6b517c5bab524bf1a6c421b1a747e185443", checked := Try.checked }
namespace Rows
def none {H : Type} : Left H := { results := [], args := [] }

/-- 'meridianlaw11.DetectTells': WHATEVER THE INPUT: true; the input reads as it did. -/
def detectTellsSpec : ChangeSpec := { name := "detectTells", fn := fun _ => fun
  | [d1, d2] => { results := [.lit (.bool true)], args := [d1, d2] }
  | _ => none }
def detectTellsRow : OpenClaim := { program := "ytjfkpjooandpeaa", sum := "5697cc324a0d5356306eb359f8a4f6b517c5bab524bf1a6c421b1a747e185443", func := "meridian/meridianlaw11.DetectTells", spec := "detectTells", inPlace := ["sync/atomic.AddInt64", "sync/atomic.LoadInt64"], recurses := true, apart := false }
def DetectTellsSaid : Prop := detectTellsRow.holds Try.pinned (OpenSpec.ofChange detectTellsSpec)

/-- ITS FALSE NEIGHBOUR: 'it returns false'. Refute it at one input. -/
def detectTellsWrong : ChangeSpec := { name := "detectTells", fn := fun _ => fun
  | [d1, d2] => { results := [.lit (.bool false)], args := [d1, d2] }
  | _ => none }
def DetectTellsWrongFalsely : Prop := detectTellsRow.holds Try.pinned (OpenSpec.ofChange detectTellsWrong)

/-- 'meridianlaw11.DetectPlays': WHATEVER THE INPUT: true; the input reads as it did. -/
def detectPlaysSpec : ChangeSpec := { name := "detectPlays", fn := fun _ => fun
  | [d1, d2, d3] => { results := [.lit (.bool true)], args := [d1, d2, d3] }
  | _ => none }
def detectPlaysRow : OpenClaim := { program := "ytjfkpjooandpeaa", sum := "5697cc324a0d5356306eb359f8a4f6b517c5bab524bf1a6c421b1a747e185443", func := "meridian/meridianlaw11.DetectPlays", spec := "detectPlays", inPlace := ["sync/atomic.AddInt64", "sync/atomic.LoadInt64"], recurses := true, apart := false }
def DetectPlaysSaid : Prop := detectPlaysRow.holds Try.pinned (OpenSpec.ofChange detectPlaysSpec)

/-- ITS FALSE NEIGHBOUR: 'it returns false'. Refute it at one input. -/
def detectPlaysWrong : ChangeSpec := { name := "detectPlays", fn := fun _ => fun
  | [d1, d2, d3] => { results := [.lit (.bool false)], args := [d1, d2, d3] }
  | _ => none }
def DetectPlaysWrongFalsely : Prop := detectPlaysRow.holds Try.pinned (OpenSpec.ofChange detectPlaysWrong)

/-- 'meridianlaw11.DetectCounts': WHATEVER THE INPUT: true; the input reads as it did. -/
def detectCountsSpec : ChangeSpec := { name := "detectCounts", fn := fun _ => fun
  | [d1, d2, d3] => { results := [.lit (.bool true)], args := [d1, d2, d3] }
  | _ => none }
def detectCountsRow : OpenClaim := { program := "ytjfkpjooandpeaa", sum := "5697cc324a0d5356306eb359f8a4f6b517c5bab524bf1a6c421b1a747e185443", func := "meridian/meridianlaw11.DetectCounts", spec := "detectCounts", inPlace := ["sync/atomic.AddInt64", "sync/atomic.LoadInt64"], recurses := true, apart := false }
def DetectCountsSaid : Prop := detectCountsRow.holds Try.pinned (OpenSpec.ofChange detectCountsSpec)

/-- ITS FALSE NEIGHBOUR: 'it returns false'. Refute it at one input. -/
def detectCountsWrong : ChangeSpec := { name := "detectCounts", fn := fun _ => fun
  | [d1, d2, d3] => { results := [.lit (.bool false)], args := [d1, d2, d3] }
  | _ => none }
def DetectCountsWrongFalsely : Prop := detectCountsRow.holds Try.pinned (OpenSpec.ofChange detectCountsWrong)

/-- 'meridianlaw11.DetectStrangers': WHATEVER THE INPUT: true; the input reads as it did. -/
def detectStrangersSpec : ChangeSpec := { name := "detectStrangers", fn := fun _ => fun
  | [d1, d2, d3] => { results := [.lit (.bool true)], args := [d1, d2, d3] }
  | _ => none }
def detectStrangersRow : OpenClaim := { program := "ytjfkpjooandpeaa", sum := "5697cc324a0d5356306eb359f8a4f6b517c5bab524bf1a6c421b1a747e185443", func := "meridian/meridianlaw11.DetectStrangers", spec := "detectStrangers", inPlace := ["sync/atomic.AddInt64", "sync/atomic.LoadInt64"], recurses := true, apart := false }
def DetectStrangersSaid : Prop := detectStrangersRow.holds Try.pinned (OpenSpec.ofChange detectStrangersSpec)

/-- ITS FALSE NEIGHBOUR: 'it returns false'. Refute it at one input. -/
def detectStrangersWrong : ChangeSpec := { name := "detectStrangers", fn := fun _ => fun
  | [d1, d2, d3] => { results := [.lit (.bool false)], args := [d1, d2, d3] }
  | _ => none }
def DetectStrangersWrongFalsely : Prop := detectStrangersRow.holds Try.pinned (OpenSpec.ofChange detectStrangersWrong)

/- THE SECOND FORM. 'bulk': how many values and letters a reading holds, each counted each time it is reached (what is shared counts as often as it is met; a slice's spare places count too). A statement '..UptoSaid' is the law's where the arguments, and the package variables that the reading takes, are together of bulk at most 1048576: NARROWER than '..Said'. Prove '..Said' where nothing that the law and all that it calls make is longer than what came in: it says more and counts as full. Else prove '..UptoSaid'. A law counts once. -/
mutual
def uptoBulk {H : Type} : DataW H → Nat
  | .lit (.string bytes) => bytes.length + 1
  | .lit _ => 1
  | .nil => 1
  | .ptr d => uptoBulk d + 1
  | .slice elems spare => uptoBulkAll elems + uptoBulkAll spare + 1
  | .agg parts => uptoBulkAll parts + 1
  | .iface _ d => uptoBulk d + 1
  | .map entries => uptoBulkEntries entries + 1
  | .held _ => 1
def uptoBulkAll {H : Type} : List (DataW H) → Nat
  | [] => 0
  | d :: r => uptoBulk d + uptoBulkAll r
def uptoBulkEntries {H : Type} : List (Lit × DataW H) → Nat
  | [] => 0
  | x :: r => uptoBulkEntry x + uptoBulkEntries r
def uptoBulkEntry {H : Type} : Lit × DataW H → Nat
  | (.string bytes, d) => bytes.length + uptoBulk d + 1
  | (_, d) => uptoBulk d + 1
 end
def uptoSmall : (H : Type) → List (DataW H) → Bool := fun _ ds => decide (uptoBulkAll ds ≤ 1048576)
def OpenSpec.upto (s : _root_.Go.ChangeSpec) : _root_.Go.OpenSpec := { _root_.Go.OpenSpec.ofChange s with cond := some uptoSmall }

/-- 'meridianlaw11.DetectTells', WHERE WHAT IT READS IS OF BULK AT MOST 1048576: true; the input reads as it did. -/
def detectTellsUptoRow : OpenClaim := { program := "ytjfkpjooandpeaa", sum := "5697cc324a0d5356306eb359f8a4f6b517c5bab524bf1a6c421b1a747e185443", func := "meridian/meridianlaw11.DetectTells", spec := "detectTells", inPlace := ["sync/atomic.AddInt64", "sync/atomic.LoadInt64"], recurses := true, apart := false, narrowed := true }
def DetectTellsUptoSaid : Prop := detectTellsUptoRow.holds Try.pinned (OpenSpec.upto detectTellsSpec)

/-- 'meridianlaw11.DetectPlays', WHERE WHAT IT READS IS OF BULK AT MOST 1048576: true; the input reads as it did. -/
def detectPlaysUptoRow : OpenClaim := { program := "ytjfkpjooandpeaa", sum := "5697cc324a0d5356306eb359f8a4f6b517c5bab524bf1a6c421b1a747e185443", func := "meridian/meridianlaw11.DetectPlays", spec := "detectPlays", inPlace := ["sync/atomic.AddInt64", "sync/atomic.LoadInt64"], recurses := true, apart := false, narrowed := true }
def DetectPlaysUptoSaid : Prop := detectPlaysUptoRow.holds Try.pinned (OpenSpec.upto detectPlaysSpec)

/-- 'meridianlaw11.DetectCounts', WHERE WHAT IT READS IS OF BULK AT MOST 1048576: true; the input reads as it did. -/
def detectCountsUptoRow : OpenClaim := { program := "ytjfkpjooandpeaa", sum := "5697cc324a0d5356306eb359f8a4f6b517c5bab524bf1a6c421b1a747e185443", func := "meridian/meridianlaw11.DetectCounts", spec := "detectCounts", inPlace := ["sync/atomic.AddInt64", "sync/atomic.LoadInt64"], recurses := true, apart := false, narrowed := true }
def DetectCountsUptoSaid : Prop := detectCountsUptoRow.holds Try.pinned (OpenSpec.upto detectCountsSpec)

/-- 'meridianlaw11.DetectStrangers', WHERE WHAT IT READS IS OF BULK AT MOST 1048576: true; the input reads as it did. -/
def detectStrangersUptoRow : OpenClaim := { program := "ytjfkpjooandpeaa", sum := "5697cc324a0d5356306eb359f8a4f6b517c5bab524bf1a6c421b1a747e185443", func := "meridian/meridianlaw11.DetectStrangers", spec := "detectStrangers", inPlace := ["sync/atomic.AddInt64", "sync/atomic.LoadInt64"], recurses := true, apart := false, narrowed := true }
def DetectStrangersUptoSaid : Prop := detectStrangersUptoRow.holds Try.pinned (OpenSpec.upto detectStrangersSpec)

end Rows
end Go.Proofs.Ytjfkpjooandpeaa
