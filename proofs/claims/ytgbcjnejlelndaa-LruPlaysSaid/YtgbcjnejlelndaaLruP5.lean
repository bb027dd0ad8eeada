/- The reference's cache: Reserve. -/
import Derived.Test.YtgbcjnejlelndaaLruP4
namespace Go.Proofs.Ytgbcjnejlelndaa
open Go Go.RowKit Go.Maps

theorem Own.one (w : World) {B : Nat} (hB : B ≤ w.heap.size) (x : T3) : Own (w.alloc (.cells #[.string x.1, .int .i64 x.2.1, .int .i64 x.2.2] 52)) B 52 3 tCells (.slice (Option.some ⟨w.heap.size, 0, Option.none⟩) 1 1) [x] :=
  ⟨by simp [tCells], Or.inr ⟨w.heap.size, 1, _, rfl, hB, blk_new w _, Nat.le_refl _, by decide, rfl, by simp [tCells]⟩⟩

set_option maxHeartbeats 2000000 in
theorem rreserve_no (rb B : Nat) (a : Option Addr) (cap : Nat) (room kept n : Int) (N : List T3) (w : World) (T : RC w B rb a cap room kept N) (h0 : 0 ≤ kept) (hk : kept ≤ room) (hr1 : room ≤ 9223372036854775807) (hn : n < 0 ∨ room - kept < n) :
    Calls Try.prog 24 #[.pointer (some ⟨rb, 0, none⟩), .int .i64 n] w fun e w' => e = .returned (.tuple #[.slice none 0 0, .bool false]) ∧ Keep NoB w w' := by
  have c1 := blk_cell T.blk 1
  have c2 := blk_cell T.blk 2
  have hlt := blk_lt T.blk
  have hw : IntKind.i64.wrap (room - kept) = room - kept := by rw [IntKind.wrap_i64]; omega
  simp at c1 c2
  clear T
  by_cases hn0 : n < 0
  · have d0 : decide (n < 0) = true := decide_eq_true hn0
    clear hn
    go_enter Try.func24, Try.ntmps24
    go_wp2_with fail
    go_quiet (fail)
    go_wp2
    exact bodyPost_ret (v := .tuple #[.slice none 0 0, .bool false]) (by simp [results, Try.results24, go_sem]) rfl ⟨rfl, (Keep.refl NoB w).drewN _⟩
  · have d0 : decide (n < 0) = false := decide_eq_false hn0
    have d1 : decide (room - kept < n) = true := decide_eq_true (by omega)
    clear hn
    go_enter Try.func24, Try.ntmps24
    go_wp2_with fail
    go_quiet (fail)
    go_wp2
    exact bodyPost_ret (v := .tuple #[.slice none 0 0, .bool false]) (by simp [results, Try.results24, go_sem]) rfl ⟨rfl, (Keep.refl NoB w).drewN _⟩

def RResPost (rb B : Nat) (room kept : Int) (gone : List ByteArray) (N : List T3) (w : World) (e : Ending) (w' : World) : Prop :=
  ∃ a c, e = .returned (.tuple #[.slice a gone.length c, .bool true]) ∧ Own w' w.heap.size 9 1 cS (.slice a gone.length c) gone ∧ (∃ a' cap', RC w' B rb a' cap' room kept N) ∧ Keep (OneB rb) w w'

set_option maxHeartbeats 4000000 in
theorem rreserve_yes (rb B : Nat) (a : Option Addr) (cap : Nat) (room kept n : Int) (N : List T3) (w : World) (T : RC w B rb a cap room kept N) (hB : B ≤ w.heap.size) (hN : N.length ≤ 100000) (h0 : 0 ≤ kept) (hs : ∀ x ∈ N, 0 ≤ x.2.1) (hb : kept + sum3 N ≤ 9223372036854775807) (hn : 0 ≤ n) (hr0 : 0 ≤ room) (hr1 : room ≤ 9223372036854775807) (hnr : n ≤ room - kept)
    (j0 : Nat) (hj0 : j0 ≤ N.length) (hup : ∀ j, j0 < j → j ≤ N.length → room - n < kept + sum3 (N.take j)) (hfit : j0 = 0 ∨ kept + sum3 (N.take j0) ≤ room - n) :
    Calls Try.prog 24 #[.pointer (some ⟨rb, 0, none⟩), .int .i64 n] w (RResPost rb B room (kept + n) (goneR N j0) (N.take j0) w) := by
  obtain ⟨N', hN'⟩ : ∃ q, N.take j0 = q := ⟨_, rfl⟩
  rw [hN']
  have HN' := Lib.hid hN'
  clear hN'
  have c1 := blk_cell T.blk 1
  have c2 := blk_cell T.blk 2
  have hlt := blk_lt T.blk
  have HT := Lib.hid T
  have hw : IntKind.i64.wrap (room - kept) = room - kept := by rw [IntKind.wrap_i64]; omega
  have hw2 : IntKind.i64.wrap (kept + n) = kept + n := by rw [IntKind.wrap_i64]; omega
  have d0 : decide (n < 0) = false := decide_eq_false (by omega)
  have d1 : decide (room - kept < n) = false := decide_eq_false (by omega)
  have Hs := Lib.hid hs
  have Hup := Lib.hid hup
  have Hfit := Lib.hid hfit
  simp at c1 c2
  clear T hs hup hfit
  go_enter Try.func24, Try.ntmps24
  go_wp2_with fail
  go_quiet (fail)
  have kq : Keep NoB w (w.drewN nq) := (Keep.refl NoB w).drewN nq
  have Tq := HT.out.keep0 kq
  have sq : (w.drewN nq).heap.size = w.heap.size := rfl
  generalize w.drewN nq = W at kq Tq sq ⊢
  have HTq := Lib.hid Tq
  clear Tq c1 c2 hlt
  go_wp2_with fail
  refine (rway_any rb B a cap room kept n N W HTq.out (by omega) hN h0 Hs.out hb hn hr0 hr1 hnr j0 hj0 (fun j h1 h2 => by have h9 := Hup.out j h1 h2; omega) (by have h9 := Hfit.out; omega)).mono ?_
  rintro _ w4 ⟨ga, gc, rfl, OG, ⟨ra, rc, R4⟩, k4⟩
  rw [sq] at OG
  rw [HN'.out] at R4
  have e2 := blk_cell R4.blk 2
  have el := blk_lt R4.blk
  have ef := blk_free R4.blk 2
  simp at e2
  have HR4 := Lib.hid R4
  have HOG := Lib.hid OG
  have HK4 := Lib.hid (kq.none.trans k4)
  clear R4 OG k4 kq sq
  go_wp2
  have b9 := blk_setCell (i := 2) HR4.out.blk (.int .i64 (kept + n))
  have k9 : Keep (OneB rb) w4 (w4.setCell ⟨rb, 2, none⟩ (.int .i64 (kept + n))) := (Keep.refl (OneB rb) w4).setCell (p := ⟨rb, 2, none⟩) (Or.inr rfl) _
  simp at b9
  generalize w4.setCell ⟨rb, 2, none⟩ (.int .i64 (kept + n)) = w9 at b9 k9 ⊢
  refine bodyPost_ret (v := .tuple #[.slice ga (goneR N j0).length gc, .bool true]) (by simp [results, Try.results24, go_sem]) rfl ?_
  exact ⟨ga, gc, rfl, HOG.out.keep k9 (fun q hq e => HOG.out.ne HR4.out.blk (by decide) q hq e), ⟨ra, rc, ⟨b9, HR4.out.own.keep k9 (fun q hq e => HR4.out.own.ne HR4.out.blk (by decide) q hq e)⟩⟩, HK4.out.trans k9⟩
end Go.Proofs.Ytgbcjnejlelndaa
