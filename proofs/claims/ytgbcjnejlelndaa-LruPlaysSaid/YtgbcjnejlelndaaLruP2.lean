/- The reference's cache: Drop, Keys, Release. -/
import Derived.Test.YtgbcjnejlelndaaLruP
namespace Go.Proofs.Ytgbcjnejlelndaa
open Go Go.RowKit Go.Maps


theorem rdrop_no (rb B : Nat) (a : Option Addr) (cap : Nat) (room kept : Int) (N : List T3) (s : ByteArray) (w : World) (T : RC w B rb a cap room kept N) (hN : N.length ≤ 100000) (hm : ∀ x ∈ N, x.1 ≠ s) :
    Calls Try.prog 23 #[.pointer (some ⟨rb, 0, none⟩), .string s] w fun e w' => e = .returned (.bool false) ∧ w' = w := by
  have HT := Lib.hid T
  have Hm := Lib.hid hm
  clear T hm
  go_enter Try.func23, Try.ntmps23
  go_wp2_with fail
  refine (rfind_any rb B a cap room kept N s _ HT.out hN (-1) (.miss Hm.out)).mono ?_
  rintro _ w1 ⟨rfl, rfl⟩
  go_wp2
  go_ret
  exact ⟨rfl, rfl⟩

set_option maxHeartbeats 4000000 in
theorem rdrop_yes (rb B : Nat) (a : Option Addr) (cap : Nat) (room kept : Int) (N : List T3) (s : ByteArray) (i : Nat) (x : T3) (w : World) (T : RC w B rb a cap room kept N) (hB : B ≤ w.heap.size) (hN : N.length ≤ 100000) (hx : N[i]? = some x) (he : x.1 = s) (hl : ∀ (i' : Nat) (y : T3), i' < i → N[i']? = some y → y.1 ≠ s) (N' : List T3) (hN' : N.take i ++ N.drop (i + 1) = N') :
    Calls Try.prog 23 #[.pointer (some ⟨rb, 0, none⟩), .string s] w (CPost rb B room kept (.bool true) N' w) := by
  have hi := (List.getElem?_eq_some_iff.1 hx).1
  have HF := Lib.hid (FindV.hit (N := N) (s := s) i x hx he hl)
  have HT := Lib.hid T
  obtain ⟨g, cg, hvv, hg1, hg2, hcx⟩ := T.own.cells tCells_len hx
  cases hvv
  have c0 := blk_cell T.blk 0
  have hlt := blk_lt T.blk
  have HO := Lib.hid T.own
  have Hblk := Lib.hid T.blk
  simp at c0
  have hwi : IntKind.i64.wrap ((i : Int) + 1) = ((i + 1 : Nat) : Int) := by rw [IntKind.wrap_i64]; omega
  clear T hcx hx he hl
  go_enter Try.func23, Try.ntmps23
  go_wp2_with fail
  refine (rfind_any rb B _ cap room kept N s _ HT.out hN (i : Int) HF.out).mono ?_
  rintro _ V ⟨rfl, rfl⟩
  obtain ⟨M1, hM1⟩ : ∃ l, N.take i = l := ⟨_, rfl⟩
  obtain ⟨M2, hM2⟩ : ∃ l, N.drop (i + 1) = l := ⟨_, rfl⟩
  have hM1l : M1.length = i := by rw [← hM1, List.length_take]; omega
  have hM2l : M2.length = N.length - (i + 1) := by rw [← hM2, List.length_drop]
  rw [hM1, hM2] at hN'
  have HN' := Lib.hid hN'
  have HM1 := Lib.hid hM1
  have HM2 := Lib.hid hM2
  have HM1l := Lib.hid hM1l
  have HM2l := Lib.hid hM2l
  have Hroom := Lib.hid HO.out.room
  clear hM1 hM2 hM1l hM2l hN'
  by_cases hcap : cap = i + 1
  all_goals
    have hsub1 : ∀ c, Sub V tCells (.slice _ i c) M1 := fun c => by rw [← HM1.out]; exact Own.take (i := i) HO.out tCells_len (by omega) c
    have hnc := Hroom.out.2.1
    have hcm := Hroom.out.2.2
    unfold maxLen at hcm
    have Hsub1 := Lib.hid hsub1
    clear hsub1
    go_wp2_with (first
      | (at_builtin
         (refine wpList_append_sub rfl (.tmp 12) (.tmp 18) 47 rfl Try.underlying47 info52' (by kernel_rfl) (by decide) (by decide) rfl (Own.empty V (Nat.le_refl _) 52 3 tCells) tCells_len tCells_one rfl ((Hsub1.out _).keep ((Keep.refl NoB V).alloc _)) (by rw [HM1l.out]; simp; omega) (by simp) (List.nil_append M1) ?_)
         intro a1 q1 w2 O1 k1
         have k11 : Keep NoB V w2 := (Own.empty V (Nat.le_refl _) 52 3 tCells).knob ((Keep.refl NoB V).alloc _) k1
         have s1 := k11.size
         have b1 := blk_keep Hblk.out k11 (fun h => h)
         have e0 := blk_cell b1 0
         have el := blk_lt b1
         simp at e0
         clear k1 b1
         skip)
      | (at_builtin
         (refine wpList_append_sub rfl (.tmp 21) (.tmp 28) 47 rfl Try.underlying47 info52' (by kernel_rfl) (by decide) (by decide) rfl O1 tCells_len tCells_one rfl (by first | exact Sub.nil2 (by have := HM2l.out; exact List.eq_nil_of_length_eq_zero (by omega)) (by omega) | (have h9 := (Own.drop HO.out tCells_len (i + 1) (cap - (i + 1))).keep k11; rw [HM2.out] at h9; exact h9)) (by rw [HM2l.out, HM1l.out]; omega) (by omega) HN'.out ?_)
         intro a3 q3 w3 O3 k3
         have k33 : Keep NoB V w3 := O1.knob k11 k3
         have b3 := blk_keep Hblk.out k33 (fun h => h)
         have yl := blk_lt b3
         have y0 := blk_cell b3 0
         have yf := fun j => blk_free b3 j
         have Hb3 := Lib.hid b3
         simp at y0
         clear k3 b3))
    go_ret
    have b5 := blk_setCell (i := 0) Hb3.out (.slice a3 N'.length q3)
    have k5 : Keep (OneB rb) w3 (w3.setCell ⟨rb, 0, none⟩ (.slice a3 N'.length q3)) := (Keep.refl (OneB rb) w3).setCell (p := ⟨rb, 0, none⟩) (Or.inr rfl) _
    have O5 := (O3.mono hB).keep k5 (fun g hg e => O3.ne Hb3.out (by decide) g hg e)
    simp at b5
    exact ⟨rfl, ⟨a3, q3, ⟨b5, O5⟩⟩, k33.none.trans k5⟩

/-! ### Release -/
theorem rrelease_no (rb B : Nat) (a : Option Addr) (cap : Nat) (room kept : Int) (N : List T3) (n : Int) (w : World) (T : RC w B rb a cap room kept N) (h0 : 0 ≤ kept) (hn : n ≤ 0) :
    Calls Try.prog 25 #[.pointer (some ⟨rb, 0, none⟩), .int .i64 n] w fun e w' => e = .returned (.tuple #[]) ∧ w' = w := by
  have d0 : decide (kept < n) = false := decide_eq_false (by omega)
  have d1 : decide (0 < n) = false := decide_eq_false (by omega)
  have c0 := blk_cell T.blk 0
  have c1 := blk_cell T.blk 1
  have c2 := blk_cell T.blk 2
  have hlt := blk_lt T.blk
  have HT := Lib.hid T
  clear T
  simp at c0 c1 c2
  go_enter Try.func25, Try.ntmps25
  go_wp2
  go_end0
  exact ⟨rfl, rfl⟩
theorem rrelease_yes (rb B : Nat) (a : Option Addr) (cap : Nat) (room kept : Int) (N : List T3) (n k' : Int) (w : World) (T : RC w B rb a cap room kept N) (h0 : 0 ≤ kept) (h1 : kept ≤ 9223372036854775807) (hn : 0 < n) (hk' : kept - min n kept = k') :
    Calls Try.prog 25 #[.pointer (some ⟨rb, 0, none⟩), .int .i64 n] w (CPost rb B room k' (.tuple #[]) N w) := by
  have Hblk := Lib.hid T.blk
  have HO := Lib.hid T.own
  have f2 := blk_free T.blk 2
  have c0 := blk_cell T.blk 0
  have c1 := blk_cell T.blk 1
  have c2 := blk_cell T.blk 2
  have hlt := blk_lt T.blk
  have HT := Lib.hid T
  clear T
  simp at c0 c1 c2
  by_cases hkn : kept < n
  · have d0 : decide (kept < n) = true := decide_eq_true hkn
    obtain rfl : k' = 0 := by omega
    by_cases hk0 : 0 < kept
    · have d1 : decide (0 < kept) = true := decide_eq_true hk0
      go_enter Try.func25, Try.ntmps25
      go_wp2
      go_end0
      have b5 := blk_setCell (i := 2) Hblk.out (.int .i64 0)
      have k5 : Keep (OneB rb) w (w.setCell ⟨rb, 2, none⟩ (.int .i64 0)) := (Keep.refl (OneB rb) w).setCell (p := ⟨rb, 2, none⟩) (Or.inr rfl) _
      simp at b5
      exact ⟨rfl, ⟨a, cap, ⟨b5, HO.out.keep k5 (fun g hg e => HO.out.ne Hblk.out (by decide) g hg e)⟩⟩, k5⟩
    · have d1 : decide (0 < kept) = false := decide_eq_false hk0
      obtain rfl : kept = 0 := by omega
      go_enter Try.func25, Try.ntmps25
      go_wp2
      go_end0
      exact ⟨rfl, ⟨a, cap, HT.out⟩, Keep.refl _ _⟩
  · have d0 : decide (kept < n) = false := decide_eq_false hkn
    have d1 : decide (0 < n) = true := decide_eq_true hn
    have hw : IntKind.i64.wrap (kept - n) = k' := by rw [IntKind.wrap_i64]; omega
    go_enter Try.func25, Try.ntmps25
    go_wp2
    go_end0
    have b5 := blk_setCell (i := 2) Hblk.out (.int .i64 k')
    have k5 : Keep (OneB rb) w (w.setCell ⟨rb, 2, none⟩ (.int .i64 k')) := (Keep.refl (OneB rb) w).setCell (p := ⟨rb, 2, none⟩) (Or.inr rfl) _
    simp at b5
    exact ⟨rfl, ⟨a, cap, ⟨b5, HO.out.keep k5 (fun g hg e => HO.out.ne Hblk.out (by decide) g hg e)⟩⟩, k5⟩
end Go.Proofs.Ytgbcjnejlelndaa
