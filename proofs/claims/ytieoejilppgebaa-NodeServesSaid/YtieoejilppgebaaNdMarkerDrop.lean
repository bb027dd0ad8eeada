/- What Drop of package marker comes to. -/
import Derived.Test.YtieoejilppgebaaNdMarkerV
namespace Go.Proofs.Ytieoejilppgebaa.Mk
open Go Go.RowKit Go.Maps
set_option maxRecDepth 100000

theorem drop_any (tb mb : Nat) (limit : Int) (M : List MK) (w : World) (T : Tab w tb mb limit M) :
    Calls Try.prog 41 #[.pointer (some ⟨tb, 0, none⟩)] w fun e w' => e = .returned (.tuple #[]) ∧ Tab w' tb mb limit [] ∧ Keep (OneB mb) w w' := by
  have c1 := blk_cell T.blk 1
  have hlt := blk_lt T.blk
  have hne := T.ne
  have hblk := Lib.hid T.blk
  obtain ⟨L, hm, hM⟩ := T.map
  clear T hM
  simp at c1
  go_enter Try.func41, Try.ntmps41
  go_wp2_with (first
    | (refine wpList_mclear _ rfl _ 93 rfl 97 4 Try.underlying93 encT mb L rfl hm ?_; intro w1 hm1 ht1))
  go_end0
  have hk : Keep (OneB mb) w w1 := Keep.of_turned ht1 rfl
  exact ⟨rfl, ⟨blk_keep hblk.out hk hne, [], hm1, MS.nil⟩, hk⟩
end Go.Proofs.Ytieoejilppgebaa.Mk
