/- The document's example, asked. -/
import Derived.Test.YtlglnpokfmdpaaaDedupeN
namespace Go.Proofs.Ytlglnpokfmdpaaa
open Go Go.RowKit Go.Maps

theorem awake_any (w : World) : Calls Try.prog 8 #[] w fun e w' => e = .returned (.bool true) ∧ Keep NoB w w' := by
  go_enter Try.func8, Try.ntmps8
  go_wp2_with fail
  refine (new_any 1 _).mono ?_
  rintro _ w1 ⟨rfl, T1, hk1, hs1⟩
  have hne : w.heap.size + 1 ≠ w.heap.size := by omega
  go_wp2_with fail
  refine (note_any _ _ 1 7 3 1 1 [] _ T1 hne (by decide) (by decide) true (by decide) [(kI 7, (3, 1, 1))] rfl).mono ?_
  rintro _ w2 ⟨rfl, T2, hk2⟩
  go_wp2_with fail
  refine (look_any _ _ 1 7 3 _ _ T2 (by decide) (2, 1, 1) (by decide)).mono ?_
  rintro _ w3 ⟨rfl, hk3⟩
  go_wp2_with fail
  go_ret
  refine ⟨rfl, ?_⟩
  have hk : Keep NoB w w3 := (hk1.trans' hk2 (fun i hi e => by have : i = w.heap.size := e; omega)).trans' hk3 (fun i hi e => e)
  exact hk.alloc _
end Go.Proofs.Ytlglnpokfmdpaaa
