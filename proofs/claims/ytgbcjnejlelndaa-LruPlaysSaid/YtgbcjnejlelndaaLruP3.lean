/- The reference's cache: Keys. -/
import Derived.Test.YtgbcjnejlelndaaLruP2
namespace Go.Proofs.Ytgbcjnejlelndaa
open Go Go.RowKit Go.Maps

set_option maxHeartbeats 2000000 in
theorem rkeys_any (rb B : Nat) (a : Option Addr) (cap : Nat) (room kept : Int) (N : List T3) (w : World) (T : RC w B rb a cap room kept N) (hN : N.length ≤ 100000) (G : List ByteArray) (hG : N.map (·.1) = G) :
    Calls Try.prog 28 #[.pointer (some ⟨rb, 0, none⟩)] w (KeysPost G w) := by
  have HG := Lib.hid hG
  have HT := Lib.hid T
  have hlt := blk_lt T.blk
  have O0 := Own.empty w (Nat.le_refl _) 9 1 cS
  have HO0 := Lib.hid O0
  clear hG T O0
  go_enter Try.func28, Try.ntmps28
  go_wp2_with fail
  go_loopw [3, 4] (fun o iv wr => ∃ (k : Nat) (M : List ByteArray) (a' : Option Addr) (c' : Nat), k ≤ N.length ∧ iv = .int .i64 (k : Int) ∧ o = .slice a' M.length c' ∧ Own wr w.heap.size 9 1 cS (.slice a' M.length c') M ∧ M.length = k ∧ (N.take k).map (·.1) = M ∧ Keep NoB w wr) (fun _ iv _ => N.length - (intOf iv).toNat)
  case atStart => exact ⟨0, [], _, 0, Nat.zero_le _, rfl, rfl, HO0.out, rfl, rfl, (Keep.refl NoB w).alloc _⟩
  case round =>
    obtain ⟨k, M, a', c', hk, rfl, rfl, O', hMk, hM, kr⟩ := hrel
    have HM := Lib.hid hM
    have HMk := Lib.hid hMk
    have Tr := HT.out.keep0 kr
    have c0 := blk_cell Tr.blk 0
    have hl := blk_lt Tr.blk
    have HTr := Lib.hid Tr
    have hsz := kr.size
    clear hM Tr hMk
    simp at c0
    by_cases hlt2 : k < N.length
    · obtain ⟨x, hx⟩ : ∃ x, N[k]? = some x := ⟨_, List.getElem?_eq_getElem hlt2⟩
      obtain ⟨g, cap', hvv, hg1, hg2, hcx⟩ := HTr.out.own.cells tCells_len hx
      cases hvv
      have hnext : (N.take (k + 1)).map (·.1) = M ++ [x.1] := by rw [ctake_one hx, List.map_append, HM.out]; rfl
      obtain ⟨xs, xt, xn⟩ := x
      have m0 := hcx 0 _ rfl
      simp only [Nat.add_zero] at m0
      simp only at hnext
      obtain ⟨M', hM'⟩ : ∃ l, M ++ [xs] = l := ⟨_, rfl⟩
      have hM'l : M'.length = k + 1 := by rw [← hM', List.length_append, HMk.out]; rfl
      rw [hM'] at hnext
      have Hnext := Lib.hid hnext
      have HM' := Lib.hid hM'
      have HM'l := Lib.hid hM'l
      have HO' := Lib.hid O'
      clear hcx hx hnext hM' hM'l O'
      go_wp2_with (first
        | (at_builtin
           refine wpList_append_one rfl (.tmp 15) (.tmp 24) 22 rfl Try.underlying22 info9' (by kernel_rfl) (by decide) (by decide) rfl (HO'.out.alloc _) cS_len xs rfl (c := #[.string xs]) (t' := 9) (f := (0, 0)) (blk_new wr _) rfl (cS_one _) (by have := HMk.out; omega) (by simp; omega) HM'.out ?_
           intro a4 c4 w4 O4 k4
           have K4 : Keep NoB w w4 := (HO'.out.alloc _).knob (kr.alloc _) k4))
      go_roundw
      case rel => exact ⟨k + 1, M', a4, c4, hlt2, by go_num, rfl, O4, HM'l.out, Hnext.out, K4⟩
      case measure => simp [intOf]; omega
    · have hd : decide ((k : Int) < (N.length : Int)) = false := decide_eq_false (by omega)
      have hMG : M = G := by rw [← HM.out, List.take_of_length_le (by omega), HG.out]
      subst hMG
      go_wp2
      go_ret
      exact ⟨a', c', rfl, O', kr⟩
end Go.Proofs.Ytgbcjnejlelndaa
