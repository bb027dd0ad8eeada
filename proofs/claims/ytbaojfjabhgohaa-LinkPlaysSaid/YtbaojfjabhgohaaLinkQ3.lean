/- The reference's Drop. -/
import Derived.Test.YtbaojfjabhgohaaLinkP
namespace Go.Proofs.Ytbaojfjabhgohaa
open Go Go.RowKit Go.Maps

theorem gtake_one {α : Type} {N : List α} {k : Nat} {x : α} (hx : N[k]? = some x) : N.take (k + 1) = N.take k ++ [x] := by
  obtain ⟨h, e⟩ := List.getElem?_eq_some_iff.1 hx
  rw [List.take_succ_eq_append_getElem h, e]
def leftR (who : Int) (N : List RP) : List RP := N.filter (fun x => x.t != who)
theorem leftR_yes {who : Int} {N : List RP} {k : Nat} {x : RP} (hx : N[k]? = some x) (h : (x.t != who) = false) : leftR who (N.take (k + 1)) = leftR who (N.take k) := by
  unfold leftR
  rw [gtake_one hx, List.filter_append]
  simp [h]
theorem leftR_no {who : Int} {N : List RP} {k : Nat} {x : RP} (hx : N[k]? = some x) (h : (x.t != who) = true) : leftR who (N.take (k + 1)) = leftR who (N.take k) ++ [x] := by
  unfold leftR
  rw [gtake_one hx, List.filter_append]
  simp [h]

structure GS (wy wr : World) (who : Int) (N : List RP) (k : Nat) (o : Value) : Prop where
  st : ∃ (W : List RP) (a' : Option Addr) (c' : Nat), o = .slice a' W.length c' ∧ Own wr wy.heap.size 50 4 pCells (.slice a' W.length c') W ∧ W.length ≤ k ∧ leftR who (N.take k) = W



set_option maxHeartbeats 4000000 in
theorem rdrop_any (rb B : Nat) (a : Option Addr) (cap : Nat) (room sent : Int) (N : List RP) (who : Int) (w : World) (T : RN w B rb a cap room sent N) (hB : B ≤ w.heap.size) (hN : N.length ≤ 1000000) (N' : List RP) (hN' : leftR who N = N') :
    Calls Try.prog 25 #[.pointer (some ⟨rb, 0, none⟩), .int .i64 who] w (RPost rb B room sent (.int .i64 ((N.length : Int) - N'.length)) N' w) := by
  have hle : N'.length ≤ N.length := by rw [← hN']; exact List.length_filter_le _ _
  have Hle := Lib.hid hle
  have HN' := Lib.hid hN'
  have HT := Lib.hid T
  have HO0 := Lib.hid (Own.empty w (Nat.le_refl _) 50 4 pCells)
  clear T hN' hle
  go_enter Try.func25, Try.ntmps25
  go_wp2_with fail
  go_loopw [5, 6] (fun o iv wr => ∃ k : Nat, k ≤ N.length ∧ iv = .int .i64 (k : Int) ∧ GS w wr who N k o ∧ Keep NoB w wr) (fun _ iv _ => N.length - (intOf iv).toNat)
  case atStart => exact ⟨0, Nat.zero_le _, rfl, ⟨⟨[], _, 0, rfl, HO0.out, Nat.le_refl _, rfl⟩⟩, (Keep.refl NoB w).alloc _⟩
  case round =>
    clear HO0
    obtain ⟨k, hk, rfl, ⟨⟨W, a', c', rfl, O', hWk, hW⟩⟩, kr⟩ := hrel
    have HO := Lib.hid O'
    have Hkr := Lib.hid kr
    clear O'
    by_cases hkn : k < N.length
    · obtain ⟨y, hy⟩ : ∃ y, N[k]? = some y := ⟨_, List.getElem?_eq_getElem hkn⟩
      cases hv : (y.t != who)
      · have HW2 := Lib.hid (show leftR who (N.take (k + 1)) = W from by rw [leftR_yes hy hv, hW])
        obtain ⟨y0, y1, y2, y3⟩ := y
        have Hy := Lib.hid hy
        clear hW hy
        have TT := HT.out.keep0 Hkr.out
        have d0 := blk_cell TT.blk 0
        have dl := blk_lt TT.blk
        have HTT := Lib.hid TT
        simp at d0
        clear TT
        obtain ⟨g, cg, hvv, hg1, hg2, hcx⟩ := HTT.out.own.cells pCells_len Hy.out
        cases hvv
        have r0 := hcx 0 _ rfl
        have r1 := hcx 1 _ rfl
        have r2 := hcx 2 _ rfl
        have r3 := hcx 3 _ rfl
        simp only [Nat.add_zero] at r0
        simp at r0 r1 r2 r3
        clear hcx
        simp only at hv
        go_wp2_with fail
        go_roundw
        case rel => exact ⟨k + 1, hkn, by go_num, ⟨⟨W, a', c', rfl, HO.out, by omega, HW2.out⟩⟩, Hkr.out⟩
        case measure => simp [intOf]; omega
      · have hW2e : leftR who (N.take (k + 1)) = W ++ [y] := by rw [leftR_no hy hv, hW]
        obtain ⟨W2, hW2⟩ : ∃ l, W ++ [y] = l := ⟨_, rfl⟩
        have HW2l := Lib.hid (show W2.length = W.length + 1 from by rw [← hW2]; simp)
        rw [hW2] at hW2e
        have HW2 := Lib.hid hW2e
        obtain ⟨y0, y1, y2, y3⟩ := y
        have HHW2 := Lib.hid hW2
        have Hy := Lib.hid hy
        clear hW hy hW2e hW2
        have TT := HT.out.keep0 Hkr.out
        have d0 := blk_cell TT.blk 0
        have dl := blk_lt TT.blk
        have HTT := Lib.hid TT
        simp at d0
        clear TT
        obtain ⟨g, cg, hvv, hg1, hg2, hcx⟩ := HTT.out.own.cells pCells_len Hy.out
        cases hvv
        have r0 := hcx 0 _ rfl
        have r1 := hcx 1 _ rfl
        have r2 := hcx 2 _ rfl
        have r3 := hcx 3 _ rfl
        simp only [Nat.add_zero] at r0
        simp at r0 r1 r2 r3
        clear hcx
        simp only at hv
        go_wp2_with (first
          | (at_builtin
             refine wpList_append_one (B := w.heap.size) rfl (.tmp 28) (.tmp 36) 45 rfl Try.underlying45 info50' (by kernel_rfl) (by decide) (by decide) rfl (HO.out.alloc _) pCells_len ⟨y0, y1, y2, y3⟩ rfl (c := #[.int .i64 y0, .int .i64 y1, .string y2, .bool y3]) (t' := 50) (f := (0, 0)) (blk_new wr _) rfl (pCells_one _) (by omega) (by have := Hkr.out.size; simp; omega) HHW2.out ?_
             intro a4 c4 w4 O4 k4
             have K4 : Keep NoB w w4 := (HO.out.alloc _).knob (Hkr.out.alloc _) k4
             have HO4 := Lib.hid O4
             have HK4 := Lib.hid K4
             clear k4 O4 K4))
        go_roundw
        case rel => exact ⟨k + 1, hkn, by go_num, ⟨⟨W2, a4, c4, rfl, HO4.out, by have := HW2l.out; omega, HW2.out⟩⟩, HK4.out⟩
        case measure => simp [intOf]; omega
    · have hd : decide ((k : Int) < (N.length : Int)) = false := decide_eq_false (by omega)
      rw [List.take_of_length_le (by omega)] at hW
      have hWN : N' = W := by rw [← HN'.out, hW]
      subst hWN
      have hle := Hle.out
      have hwr : IntKind.i64.wrap ((N.length : Int) - (N'.length : Int)) = (N.length : Int) - (N'.length : Int) := by rw [IntKind.wrap_i64]; omega
      have TT := HT.out.keep0 kr
      have d0 := blk_cell TT.blk 0
      have dl := blk_lt TT.blk
      have df := blk_free TT.blk 0
      have HTT := Lib.hid TT
      simp at d0
      clear TT hW
      go_wp2
      go_ret
      have b9 := blk_setCell (i := 0) HTT.out.blk (.slice a' N'.length c')
      have k9 : Keep (OneB rb) wr (wr.setCell ⟨rb, 0, none⟩ (.slice a' N'.length c')) := (Keep.refl (OneB rb) wr).setCell (p := ⟨rb, 0, none⟩) (Or.inr rfl) _
      have O9 := (HO.out.mono hB).keep k9 (fun g hg e => HO.out.ne HTT.out.blk (by decide) g hg e)
      simp at b9
      exact ⟨rfl, ⟨a', c', ⟨b9, O9⟩⟩, kr.none.trans k9⟩
end Go.Proofs.Ytbaojfjabhgohaa
