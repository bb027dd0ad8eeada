/- The reference's Double. -/
import Derived.Test.YtbaojfjabhgohaaLinkQ
namespace Go.Proofs.Ytbaojfjabhgohaa
open Go Go.RowKit Go.Maps






set_option maxHeartbeats 4000000 in
theorem rdouble_out (rb B : Nat) (a : Option Addr) (cap : Nat) (room sent : Int) (N : List RP) (i : Int) (w : World) (T : RN w B rb a cap room sent N) (hi : ¬ (0 ≤ i ∧ i < N.length)) :
    Calls Try.prog 22 #[.pointer (some ⟨rb, 0, none⟩), .int .i64 i] w fun e w' => e = .returned (.bool false) ∧ Keep NoB w w' := by
  have c0 := blk_cell T.blk 0
  have c1 := blk_cell T.blk 1
  have hlt := blk_lt T.blk
  have HT := Lib.hid T
  have Hi := Lib.hid hi
  simp at c0 c1
  clear T hi
  go_enter Try.func22, Try.ntmps22
  go_wp2_with fail
  refine wp_region_pl (fun u => u.cell? ⟨rb, 0, none⟩ = some (.slice a N.length cap) ∧ u.cell? ⟨rb, 1, none⟩ = some (.int .i64 room)) [] (.rd 0 (.rd 1 (.one 2 (.rd 3 (.rd 4 (.rd 5 (.rd 6 (.rd 7 (.rd 8 (.rd 9 (.rd 10 (.rd 11 (.rd 12 (.rd 13 (.rd 14 (.rd 15 .done)))))))))))))))) (by kernel_rfl) (by kernel_rfl) (by kernel_rfl) (by kernel_rfl) (by intro c b d v u h; cases d <;> exact h) ?_
  have kd0 : Keep NoB w w.drew := (Keep.refl NoB w).drew
  have HK0 := Lib.hid kd0
  have HT0 := Lib.hid (HT.out.keep0 kd0)
  have HS0 := Lib.hid (ks2 ⟨c0, c1⟩ kd0)
  clear c0 c1 hlt kd0
  first
    | refine pl_get (i := 0) rfl rfl HS0.out rfl (fun u hu => by (try dsimp only at hu); go_simp; rfl) (by simp only [List.setIfInBounds_toArray, List.set_cons_succ, List.set_cons_zero]; rfl) ?_
    | refine pl_skip (i := 0) rfl rfl HS0.out rfl (by simp only [List.setIfInBounds_toArray, List.set_cons_succ, List.set_cons_zero]; rfl) ?_
  first
    | refine pl_get (i := 1) rfl rfl HS0.out rfl (fun u hu => by (try dsimp only at hu); go_simp; rfl) (by simp only [List.setIfInBounds_toArray, List.set_cons_succ, List.set_cons_zero]; rfl) ?_
    | refine pl_skip (i := 1) rfl rfl HS0.out rfl (by simp only [List.setIfInBounds_toArray, List.set_cons_succ, List.set_cons_zero]; rfl) ?_
  refine pl_one (i := 2) rfl ?_
  go_wp2_with ((go_at_call 19; refine (rhas_any rb B a cap room sent N i _ HT0.out false (decide_eq_false Hi.out)).mono ?_; rintro _ w1 ⟨rfl, rfl⟩))
  refine pl_next (fun _ => HS0.out) ?_
  first
    | refine pl_get (i := 3) rfl rfl HS0.out rfl (fun u hu => by (try dsimp only at hu); go_simp; rfl) (by simp only [List.setIfInBounds_toArray, List.set_cons_succ, List.set_cons_zero]; rfl) ?_
    | refine pl_skip (i := 3) rfl rfl HS0.out rfl (by simp only [List.setIfInBounds_toArray, List.set_cons_succ, List.set_cons_zero]; rfl) ?_
  first
    | refine pl_get (i := 4) rfl rfl HS0.out rfl (fun u hu => by (try dsimp only at hu); go_simp; rfl) (by simp only [List.setIfInBounds_toArray, List.set_cons_succ, List.set_cons_zero]; rfl) ?_
    | refine pl_skip (i := 4) rfl rfl HS0.out rfl (by simp only [List.setIfInBounds_toArray, List.set_cons_succ, List.set_cons_zero]; rfl) ?_
  first
    | refine pl_get (i := 5) rfl rfl HS0.out rfl (fun u hu => by (try dsimp only at hu); go_simp; rfl) (by simp only [List.setIfInBounds_toArray, List.set_cons_succ, List.set_cons_zero]; rfl) ?_
    | refine pl_skip (i := 5) rfl rfl HS0.out rfl (by simp only [List.setIfInBounds_toArray, List.set_cons_succ, List.set_cons_zero]; rfl) ?_
  first
    | refine pl_get (i := 6) rfl rfl HS0.out rfl (fun u hu => by (try dsimp only at hu); go_simp; rfl) (by simp only [List.setIfInBounds_toArray, List.set_cons_succ, List.set_cons_zero]; rfl) ?_
    | refine pl_skip (i := 6) rfl rfl HS0.out rfl (by simp only [List.setIfInBounds_toArray, List.set_cons_succ, List.set_cons_zero]; rfl) ?_
  first
    | refine pl_get (i := 7) rfl rfl HS0.out rfl (fun u hu => by (try dsimp only at hu); go_simp; rfl) (by simp only [List.setIfInBounds_toArray, List.set_cons_succ, List.set_cons_zero]; rfl) ?_
    | refine pl_skip (i := 7) rfl rfl HS0.out rfl (by simp only [List.setIfInBounds_toArray, List.set_cons_succ, List.set_cons_zero]; rfl) ?_
  first
    | refine pl_get (i := 8) rfl rfl HS0.out rfl (fun u hu => by (try dsimp only at hu); go_simp; rfl) (by simp only [List.setIfInBounds_toArray, List.set_cons_succ, List.set_cons_zero]; rfl) ?_
    | refine pl_skip (i := 8) rfl rfl HS0.out rfl (by simp only [List.setIfInBounds_toArray, List.set_cons_succ, List.set_cons_zero]; rfl) ?_
  first
    | refine pl_get (i := 9) rfl rfl HS0.out rfl (fun u hu => by (try dsimp only at hu); go_simp; rfl) (by simp only [List.setIfInBounds_toArray, List.set_cons_succ, List.set_cons_zero]; rfl) ?_
    | refine pl_skip (i := 9) rfl rfl HS0.out rfl (by simp only [List.setIfInBounds_toArray, List.set_cons_succ, List.set_cons_zero]; rfl) ?_
  first
    | refine pl_get (i := 10) rfl rfl HS0.out rfl (fun u hu => by (try dsimp only at hu); go_simp; rfl) (by simp only [List.setIfInBounds_toArray, List.set_cons_succ, List.set_cons_zero]; rfl) ?_
    | refine pl_skip (i := 10) rfl rfl HS0.out rfl (by simp only [List.setIfInBounds_toArray, List.set_cons_succ, List.set_cons_zero]; rfl) ?_
  first
    | refine pl_get (i := 11) rfl rfl HS0.out rfl (fun u hu => by (try dsimp only at hu); go_simp; rfl) (by simp only [List.setIfInBounds_toArray, List.set_cons_succ, List.set_cons_zero]; rfl) ?_
    | refine pl_skip (i := 11) rfl rfl HS0.out rfl (by simp only [List.setIfInBounds_toArray, List.set_cons_succ, List.set_cons_zero]; rfl) ?_
  first
    | refine pl_get (i := 12) rfl rfl HS0.out rfl (fun u hu => by (try dsimp only at hu); go_simp; rfl) (by simp only [List.setIfInBounds_toArray, List.set_cons_succ, List.set_cons_zero]; rfl) ?_
    | refine pl_skip (i := 12) rfl rfl HS0.out rfl (by simp only [List.setIfInBounds_toArray, List.set_cons_succ, List.set_cons_zero]; rfl) ?_
  first
    | refine pl_get (i := 13) rfl rfl HS0.out rfl (fun u hu => by (try dsimp only at hu); go_simp; rfl) (by simp only [List.setIfInBounds_toArray, List.set_cons_succ, List.set_cons_zero]; rfl) ?_
    | refine pl_skip (i := 13) rfl rfl HS0.out rfl (by simp only [List.setIfInBounds_toArray, List.set_cons_succ, List.set_cons_zero]; rfl) ?_
  first
    | refine pl_get (i := 14) rfl rfl HS0.out rfl (fun u hu => by (try dsimp only at hu); go_simp; rfl) (by simp only [List.setIfInBounds_toArray, List.set_cons_succ, List.set_cons_zero]; rfl) ?_
    | refine pl_skip (i := 14) rfl rfl HS0.out rfl (by simp only [List.setIfInBounds_toArray, List.set_cons_succ, List.set_cons_zero]; rfl) ?_
  first
    | refine pl_get (i := 15) rfl rfl HS0.out rfl (fun u hu => by (try dsimp only at hu); go_simp; rfl) (by simp only [List.setIfInBounds_toArray, List.set_cons_succ, List.set_cons_zero]; rfl) ?_
    | refine pl_skip (i := 15) rfl rfl HS0.out rfl (by simp only [List.setIfInBounds_toArray, List.set_cons_succ, List.set_cons_zero]; rfl) ?_
  refine pl_done ?_
  go_wp2
  go_ret
  exact ⟨rfl, HK0.out⟩

set_option maxHeartbeats 4000000 in
theorem rdouble_full (rb B : Nat) (a : Option Addr) (cap : Nat) (room sent : Int) (N : List RP) (i : Int) (w : World) (T : RN w B rb a cap room sent N) (hi : 0 ≤ i ∧ i < N.length) (hr : room ≤ N.length) :
    Calls Try.prog 22 #[.pointer (some ⟨rb, 0, none⟩), .int .i64 i] w fun e w' => e = .returned (.bool false) ∧ Keep NoB w w' := by
  have c0 := blk_cell T.blk 0
  have c1 := blk_cell T.blk 1
  have hlt := blk_lt T.blk
  have HT := Lib.hid T
  have Hi := Lib.hid hi
  have hd : decide (room ≤ (N.length : Int)) = true := decide_eq_true hr
  simp at c0 c1
  clear T hi hr
  go_enter Try.func22, Try.ntmps22
  go_wp2_with fail
  refine wp_region_pl (fun u => u.cell? ⟨rb, 0, none⟩ = some (.slice a N.length cap) ∧ u.cell? ⟨rb, 1, none⟩ = some (.int .i64 room)) [] (.rd 0 (.rd 1 (.one 2 (.rd 3 (.rd 4 (.rd 5 (.rd 6 (.rd 7 (.rd 8 (.rd 9 (.rd 10 (.rd 11 (.rd 12 (.rd 13 (.rd 14 (.rd 15 .done)))))))))))))))) (by kernel_rfl) (by kernel_rfl) (by kernel_rfl) (by kernel_rfl) (by intro c b d v u h; cases d <;> exact h) ?_
  have kd0 : Keep NoB w w.drew := (Keep.refl NoB w).drew
  have HK0 := Lib.hid kd0
  have HT0 := Lib.hid (HT.out.keep0 kd0)
  have HS0 := Lib.hid (ks2 ⟨c0, c1⟩ kd0)
  clear c0 c1 hlt kd0
  first
    | refine pl_get (i := 0) rfl rfl HS0.out rfl (fun u hu => by (try dsimp only at hu); go_simp; rfl) (by simp only [List.setIfInBounds_toArray, List.set_cons_succ, List.set_cons_zero]; rfl) ?_
    | refine pl_skip (i := 0) rfl rfl HS0.out rfl (by simp only [List.setIfInBounds_toArray, List.set_cons_succ, List.set_cons_zero]; rfl) ?_
  first
    | refine pl_get (i := 1) rfl rfl HS0.out rfl (fun u hu => by (try dsimp only at hu); go_simp; rfl) (by simp only [List.setIfInBounds_toArray, List.set_cons_succ, List.set_cons_zero]; rfl) ?_
    | refine pl_skip (i := 1) rfl rfl HS0.out rfl (by simp only [List.setIfInBounds_toArray, List.set_cons_succ, List.set_cons_zero]; rfl) ?_
  refine pl_one (i := 2) rfl ?_
  go_wp2_with ((go_at_call 19; refine (rhas_any rb B a cap room sent N i _ HT0.out true (decide_eq_true Hi.out)).mono ?_; rintro _ w1 ⟨rfl, rfl⟩))
  refine pl_next (fun _ => HS0.out) ?_
  first
    | refine pl_get (i := 3) rfl rfl HS0.out rfl (fun u hu => by (try dsimp only at hu); go_simp; rfl) (by simp only [List.setIfInBounds_toArray, List.set_cons_succ, List.set_cons_zero]; rfl) ?_
    | refine pl_skip (i := 3) rfl rfl HS0.out rfl (by simp only [List.setIfInBounds_toArray, List.set_cons_succ, List.set_cons_zero]; rfl) ?_
  first
    | refine pl_get (i := 4) rfl rfl HS0.out rfl (fun u hu => by (try dsimp only at hu); go_simp; rfl) (by simp only [List.setIfInBounds_toArray, List.set_cons_succ, List.set_cons_zero]; rfl) ?_
    | refine pl_skip (i := 4) rfl rfl HS0.out rfl (by simp only [List.setIfInBounds_toArray, List.set_cons_succ, List.set_cons_zero]; rfl) ?_
  first
    | refine pl_get (i := 5) rfl rfl HS0.out rfl (fun u hu => by (try dsimp only at hu); go_simp; rfl) (by simp only [List.setIfInBounds_toArray, List.set_cons_succ, List.set_cons_zero]; rfl) ?_
    | refine pl_skip (i := 5) rfl rfl HS0.out rfl (by simp only [List.setIfInBounds_toArray, List.set_cons_succ, List.set_cons_zero]; rfl) ?_
  first
    | refine pl_get (i := 6) rfl rfl HS0.out rfl (fun u hu => by (try dsimp only at hu); go_simp; rfl) (by simp only [List.setIfInBounds_toArray, List.set_cons_succ, List.set_cons_zero]; rfl) ?_
    | refine pl_skip (i := 6) rfl rfl HS0.out rfl (by simp only [List.setIfInBounds_toArray, List.set_cons_succ, List.set_cons_zero]; rfl) ?_
  first
    | refine pl_get (i := 7) rfl rfl HS0.out rfl (fun u hu => by (try dsimp only at hu); go_simp; rfl) (by simp only [List.setIfInBounds_toArray, List.set_cons_succ, List.set_cons_zero]; rfl) ?_
    | refine pl_skip (i := 7) rfl rfl HS0.out rfl (by simp only [List.setIfInBounds_toArray, List.set_cons_succ, List.set_cons_zero]; rfl) ?_
  first
    | refine pl_get (i := 8) rfl rfl HS0.out rfl (fun u hu => by (try dsimp only at hu); go_simp; rfl) (by simp only [List.setIfInBounds_toArray, List.set_cons_succ, List.set_cons_zero]; rfl) ?_
    | refine pl_skip (i := 8) rfl rfl HS0.out rfl (by simp only [List.setIfInBounds_toArray, List.set_cons_succ, List.set_cons_zero]; rfl) ?_
  first
    | refine pl_get (i := 9) rfl rfl HS0.out rfl (fun u hu => by (try dsimp only at hu); go_simp; rfl) (by simp only [List.setIfInBounds_toArray, List.set_cons_succ, List.set_cons_zero]; rfl) ?_
    | refine pl_skip (i := 9) rfl rfl HS0.out rfl (by simp only [List.setIfInBounds_toArray, List.set_cons_succ, List.set_cons_zero]; rfl) ?_
  first
    | refine pl_get (i := 10) rfl rfl HS0.out rfl (fun u hu => by (try dsimp only at hu); go_simp; rfl) (by simp only [List.setIfInBounds_toArray, List.set_cons_succ, List.set_cons_zero]; rfl) ?_
    | refine pl_skip (i := 10) rfl rfl HS0.out rfl (by simp only [List.setIfInBounds_toArray, List.set_cons_succ, List.set_cons_zero]; rfl) ?_
  first
    | refine pl_get (i := 11) rfl rfl HS0.out rfl (fun u hu => by (try dsimp only at hu); go_simp; rfl) (by simp only [List.setIfInBounds_toArray, List.set_cons_succ, List.set_cons_zero]; rfl) ?_
    | refine pl_skip (i := 11) rfl rfl HS0.out rfl (by simp only [List.setIfInBounds_toArray, List.set_cons_succ, List.set_cons_zero]; rfl) ?_
  first
    | refine pl_get (i := 12) rfl rfl HS0.out rfl (fun u hu => by (try dsimp only at hu); go_simp; rfl) (by simp only [List.setIfInBounds_toArray, List.set_cons_succ, List.set_cons_zero]; rfl) ?_
    | refine pl_skip (i := 12) rfl rfl HS0.out rfl (by simp only [List.setIfInBounds_toArray, List.set_cons_succ, List.set_cons_zero]; rfl) ?_
  first
    | refine pl_get (i := 13) rfl rfl HS0.out rfl (fun u hu => by (try dsimp only at hu); go_simp; rfl) (by simp only [List.setIfInBounds_toArray, List.set_cons_succ, List.set_cons_zero]; rfl) ?_
    | refine pl_skip (i := 13) rfl rfl HS0.out rfl (by simp only [List.setIfInBounds_toArray, List.set_cons_succ, List.set_cons_zero]; rfl) ?_
  first
    | refine pl_get (i := 14) rfl rfl HS0.out rfl (fun u hu => by (try dsimp only at hu); go_simp; rfl) (by simp only [List.setIfInBounds_toArray, List.set_cons_succ, List.set_cons_zero]; rfl) ?_
    | refine pl_skip (i := 14) rfl rfl HS0.out rfl (by simp only [List.setIfInBounds_toArray, List.set_cons_succ, List.set_cons_zero]; rfl) ?_
  first
    | refine pl_get (i := 15) rfl rfl HS0.out rfl (fun u hu => by (try dsimp only at hu); go_simp; rfl) (by simp only [List.setIfInBounds_toArray, List.set_cons_succ, List.set_cons_zero]; rfl) ?_
    | refine pl_skip (i := 15) rfl rfl HS0.out rfl (by simp only [List.setIfInBounds_toArray, List.set_cons_succ, List.set_cons_zero]; rfl) ?_
  refine pl_done ?_
  go_wp2
  go_ret
  exact ⟨rfl, HK0.out⟩

set_option maxHeartbeats 8000000 in
theorem rdouble_yes (rb B : Nat) (a : Option Addr) (cap : Nat) (room sent : Int) (N : List RP) (j : Nat) (x : RP) (w : World) (T : RN w B rb a cap room sent N) (hB : B ≤ w.heap.size) (hN : N.length ≤ 1000000) (hx : N[j]? = some x) (hr : ¬ room ≤ N.length) (N' : List RP) (hN' : N ++ [x] = N') :
    Calls Try.prog 22 #[.pointer (some ⟨rb, 0, none⟩), .int .i64 (j : Int)] w (RPost rb B room sent (.bool true) N' w) := by
  have hj := (List.getElem?_eq_some_iff.1 hx).1
  obtain ⟨p0, p1, p2, p3⟩ := x
  have c0 := blk_cell T.blk 0
  have c1 := blk_cell T.blk 1
  have hlt := blk_lt T.blk
  have HT := Lib.hid T
  have HN' := Lib.hid hN'
  have Hx := Lib.hid hx
  have hd : decide (room ≤ (N.length : Int)) = false := decide_eq_false hr
  obtain ⟨i, hie⟩ : ∃ i : Int, (j : Int) = i := ⟨_, rfl⟩
  have Hi := Lib.hid (show 0 ≤ i ∧ i < (N.length : Int) from ⟨by omega, by omega⟩)
  have Hie := Lib.hid hie
  rw [hie]
  simp at c0 c1
  clear T hr hN' hx hie
  go_enter Try.func22, Try.ntmps22
  go_wp2_with fail
  refine wp_region_pl (fun u => u.cell? ⟨rb, 0, none⟩ = some (.slice a N.length cap) ∧ u.cell? ⟨rb, 1, none⟩ = some (.int .i64 room)) [] (.rd 0 (.rd 1 (.one 2 (.rd 3 (.rd 4 (.rd 5 (.rd 6 (.rd 7 (.rd 8 (.rd 9 (.rd 10 (.rd 11 (.rd 12 (.rd 13 (.rd 14 (.rd 15 .done)))))))))))))))) (by kernel_rfl) (by kernel_rfl) (by kernel_rfl) (by kernel_rfl) (by intro c b d v u h; cases d <;> exact h) ?_
  have kd0 : Keep NoB w w.drew := (Keep.refl NoB w).drew
  have HK0 := Lib.hid kd0
  have HT0 := Lib.hid (HT.out.keep0 kd0)
  have HS0 := Lib.hid (ks2 ⟨c0, c1⟩ kd0)
  clear c0 c1 hlt kd0
  first
    | refine pl_get (i := 0) rfl rfl HS0.out rfl (fun u hu => by (try dsimp only at hu); go_simp; rfl) (by simp only [List.setIfInBounds_toArray, List.set_cons_succ, List.set_cons_zero]; rfl) ?_
    | refine pl_skip (i := 0) rfl rfl HS0.out rfl (by simp only [List.setIfInBounds_toArray, List.set_cons_succ, List.set_cons_zero]; rfl) ?_
  first
    | refine pl_get (i := 1) rfl rfl HS0.out rfl (fun u hu => by (try dsimp only at hu); go_simp; rfl) (by simp only [List.setIfInBounds_toArray, List.set_cons_succ, List.set_cons_zero]; rfl) ?_
    | refine pl_skip (i := 1) rfl rfl HS0.out rfl (by simp only [List.setIfInBounds_toArray, List.set_cons_succ, List.set_cons_zero]; rfl) ?_
  refine pl_one (i := 2) rfl ?_
  go_wp2_with ((go_at_call 19; refine (rhas_any rb B a cap room sent N i _ HT0.out true (decide_eq_true Hi.out)).mono ?_; rintro _ w1 ⟨rfl, rfl⟩))
  refine pl_next (fun _ => HS0.out) ?_
  first
    | refine pl_get (i := 3) rfl rfl HS0.out rfl (fun u hu => by (try dsimp only at hu); go_simp; rfl) (by simp only [List.setIfInBounds_toArray, List.set_cons_succ, List.set_cons_zero]; rfl) ?_
    | refine pl_skip (i := 3) rfl rfl HS0.out rfl (by simp only [List.setIfInBounds_toArray, List.set_cons_succ, List.set_cons_zero]; rfl) ?_
  first
    | refine pl_get (i := 4) rfl rfl HS0.out rfl (fun u hu => by (try dsimp only at hu); go_simp; rfl) (by simp only [List.setIfInBounds_toArray, List.set_cons_succ, List.set_cons_zero]; rfl) ?_
    | refine pl_skip (i := 4) rfl rfl HS0.out rfl (by simp only [List.setIfInBounds_toArray, List.set_cons_succ, List.set_cons_zero]; rfl) ?_
  first
    | refine pl_get (i := 5) rfl rfl HS0.out rfl (fun u hu => by (try dsimp only at hu); go_simp; rfl) (by simp only [List.setIfInBounds_toArray, List.set_cons_succ, List.set_cons_zero]; rfl) ?_
    | refine pl_skip (i := 5) rfl rfl HS0.out rfl (by simp only [List.setIfInBounds_toArray, List.set_cons_succ, List.set_cons_zero]; rfl) ?_
  first
    | refine pl_get (i := 6) rfl rfl HS0.out rfl (fun u hu => by (try dsimp only at hu); go_simp; rfl) (by simp only [List.setIfInBounds_toArray, List.set_cons_succ, List.set_cons_zero]; rfl) ?_
    | refine pl_skip (i := 6) rfl rfl HS0.out rfl (by simp only [List.setIfInBounds_toArray, List.set_cons_succ, List.set_cons_zero]; rfl) ?_
  first
    | refine pl_get (i := 7) rfl rfl HS0.out rfl (fun u hu => by (try dsimp only at hu); go_simp; rfl) (by simp only [List.setIfInBounds_toArray, List.set_cons_succ, List.set_cons_zero]; rfl) ?_
    | refine pl_skip (i := 7) rfl rfl HS0.out rfl (by simp only [List.setIfInBounds_toArray, List.set_cons_succ, List.set_cons_zero]; rfl) ?_
  first
    | refine pl_get (i := 8) rfl rfl HS0.out rfl (fun u hu => by (try dsimp only at hu); go_simp; rfl) (by simp only [List.setIfInBounds_toArray, List.set_cons_succ, List.set_cons_zero]; rfl) ?_
    | refine pl_skip (i := 8) rfl rfl HS0.out rfl (by simp only [List.setIfInBounds_toArray, List.set_cons_succ, List.set_cons_zero]; rfl) ?_
  first
    | refine pl_get (i := 9) rfl rfl HS0.out rfl (fun u hu => by (try dsimp only at hu); go_simp; rfl) (by simp only [List.setIfInBounds_toArray, List.set_cons_succ, List.set_cons_zero]; rfl) ?_
    | refine pl_skip (i := 9) rfl rfl HS0.out rfl (by simp only [List.setIfInBounds_toArray, List.set_cons_succ, List.set_cons_zero]; rfl) ?_
  first
    | refine pl_get (i := 10) rfl rfl HS0.out rfl (fun u hu => by (try dsimp only at hu); go_simp; rfl) (by simp only [List.setIfInBounds_toArray, List.set_cons_succ, List.set_cons_zero]; rfl) ?_
    | refine pl_skip (i := 10) rfl rfl HS0.out rfl (by simp only [List.setIfInBounds_toArray, List.set_cons_succ, List.set_cons_zero]; rfl) ?_
  first
    | refine pl_get (i := 11) rfl rfl HS0.out rfl (fun u hu => by (try dsimp only at hu); go_simp; rfl) (by simp only [List.setIfInBounds_toArray, List.set_cons_succ, List.set_cons_zero]; rfl) ?_
    | refine pl_skip (i := 11) rfl rfl HS0.out rfl (by simp only [List.setIfInBounds_toArray, List.set_cons_succ, List.set_cons_zero]; rfl) ?_
  first
    | refine pl_get (i := 12) rfl rfl HS0.out rfl (fun u hu => by (try dsimp only at hu); go_simp; rfl) (by simp only [List.setIfInBounds_toArray, List.set_cons_succ, List.set_cons_zero]; rfl) ?_
    | refine pl_skip (i := 12) rfl rfl HS0.out rfl (by simp only [List.setIfInBounds_toArray, List.set_cons_succ, List.set_cons_zero]; rfl) ?_
  first
    | refine pl_get (i := 13) rfl rfl HS0.out rfl (fun u hu => by (try dsimp only at hu); go_simp; rfl) (by simp only [List.setIfInBounds_toArray, List.set_cons_succ, List.set_cons_zero]; rfl) ?_
    | refine pl_skip (i := 13) rfl rfl HS0.out rfl (by simp only [List.setIfInBounds_toArray, List.set_cons_succ, List.set_cons_zero]; rfl) ?_
  first
    | refine pl_get (i := 14) rfl rfl HS0.out rfl (fun u hu => by (try dsimp only at hu); go_simp; rfl) (by simp only [List.setIfInBounds_toArray, List.set_cons_succ, List.set_cons_zero]; rfl) ?_
    | refine pl_skip (i := 14) rfl rfl HS0.out rfl (by simp only [List.setIfInBounds_toArray, List.set_cons_succ, List.set_cons_zero]; rfl) ?_
  first
    | refine pl_get (i := 15) rfl rfl HS0.out rfl (fun u hu => by (try dsimp only at hu); go_simp; rfl) (by simp only [List.setIfInBounds_toArray, List.set_cons_succ, List.set_cons_zero]; rfl) ?_
    | refine pl_skip (i := 15) rfl rfl HS0.out rfl (by simp only [List.setIfInBounds_toArray, List.set_cons_succ, List.set_cons_zero]; rfl) ?_
  refine pl_done ?_
  have hie := Hie.out
  subst hie
  have T0 := HT0.out
  obtain ⟨g, cg, hvv, hg1, hg2, hcx⟩ := T0.own.cells pCells_len Hx.out
  cases hvv
  have r0 := hcx 0 _ rfl
  have r1 := hcx 1 _ rfl
  have r2 := hcx 2 _ rfl
  have r3 := hcx 3 _ rfl
  simp only [Nat.add_zero] at r0
  simp at r0 r1 r2 r3
  have d0 := blk_cell T0.blk 0
  simp at d0
  clear hcx T0 HS0
  go_wp2_with fail
  refine wp_region_pl (fun u => u.cell? ⟨rb, 0, none⟩ = some (.slice (some ⟨g, 0, none⟩) N.length cap) ∧ u.cell? ⟨g, j * 4, none⟩ = some (.int .i64 p0) ∧ u.cell? ⟨g, j * 4 + 1, none⟩ = some (.int .i64 p1) ∧ u.cell? ⟨g, j * 4 + 2, none⟩ = some (.string p2) ∧ u.cell? ⟨g, j * 4 + 3, none⟩ = some (.bool p3)) [18] (.rd 0 (.rd 2 (.rd 3 (.rd 4 (.rd 5 (.rd 7 (.rd 8 (.rd 9 (.rd 10 (.rd 11 (.rd 12 (.rd 13 (.fork 1 (.fork 6 (.one 14 (.one 15 (.one 16 (.one 17 (.one 18 .done))))) 14 (.one 6 (.one 15 (.one 16 (.one 17 (.one 18 .done)))))) 14 (.one 1 (.one 6 (.one 15 (.one 16 (.one 17 (.one 18 .done))))))))))))))))))) (by kernel_rfl) (by kernel_rfl) (by kernel_rfl) (by kernel_rfl) (by intro c b d v u h; cases d <;> exact h) ?_
  have kd0 : Keep NoB w.drew w.drew.drew := (Keep.refl NoB w.drew).drew
  have HKW := Lib.hid (HK0.out.trans kd0)
  have HTW := Lib.hid (HT0.out.keep0 kd0)
  have HS0 := Lib.hid (ks5 ⟨d0, r0, r1, r2, r3⟩ (((Keep.refl NoB w).drew).drew))
  generalize w.drew.drew = W0 at kd0 HKW HTW HS0 ⊢
  have Hblk := Lib.hid HTW.out.blk
  have Hprt := Lib.hid (show Prt W0 pCells (.slice (some ⟨g, 0, none⟩) N.length cap) N from by have h := Own.take (i := N.length) HTW.out.own pCells_len (Nat.le_refl _) cap; rw [List.take_length] at h; exact h)
  have hBW : B ≤ W0.heap.size := by have := HKW.out.size; omega
  clear r0 r1 r2 r3 d0 kd0
  first
    | refine pl_get (i := 0) rfl rfl HS0.out rfl (fun u hu => by (try dsimp only at hu); go_simp; rfl) (by simp only [List.setIfInBounds_toArray, List.set_cons_succ, List.set_cons_zero]; rfl) ?_
    | refine pl_skip (i := 0) rfl rfl HS0.out rfl (by simp only [List.setIfInBounds_toArray, List.set_cons_succ, List.set_cons_zero]; rfl) ?_
  first
    | refine pl_get (i := 2) rfl rfl HS0.out rfl (fun u hu => by (try dsimp only at hu); go_simp; rfl) (by simp only [List.setIfInBounds_toArray, List.set_cons_succ, List.set_cons_zero]; rfl) ?_
    | refine pl_skip (i := 2) rfl rfl HS0.out rfl (by simp only [List.setIfInBounds_toArray, List.set_cons_succ, List.set_cons_zero]; rfl) ?_
  first
    | refine pl_get (i := 3) rfl rfl HS0.out rfl (fun u hu => by (try dsimp only at hu); go_simp; rfl) (by simp only [List.setIfInBounds_toArray, List.set_cons_succ, List.set_cons_zero]; rfl) ?_
    | refine pl_skip (i := 3) rfl rfl HS0.out rfl (by simp only [List.setIfInBounds_toArray, List.set_cons_succ, List.set_cons_zero]; rfl) ?_
  first
    | refine pl_get (i := 4) rfl rfl HS0.out rfl (fun u hu => by (try dsimp only at hu); go_simp; rfl) (by simp only [List.setIfInBounds_toArray, List.set_cons_succ, List.set_cons_zero]; rfl) ?_
    | refine pl_skip (i := 4) rfl rfl HS0.out rfl (by simp only [List.setIfInBounds_toArray, List.set_cons_succ, List.set_cons_zero]; rfl) ?_
  first
    | refine pl_get (i := 5) rfl rfl HS0.out rfl (fun u hu => by (try dsimp only at hu); go_simp; rfl) (by simp only [List.setIfInBounds_toArray, List.set_cons_succ, List.set_cons_zero]; rfl) ?_
    | refine pl_skip (i := 5) rfl rfl HS0.out rfl (by simp only [List.setIfInBounds_toArray, List.set_cons_succ, List.set_cons_zero]; rfl) ?_
  first
    | refine pl_get (i := 7) rfl rfl HS0.out rfl (fun u hu => by (try dsimp only at hu); go_simp; rfl) (by simp only [List.setIfInBounds_toArray, List.set_cons_succ, List.set_cons_zero]; rfl) ?_
    | refine pl_skip (i := 7) rfl rfl HS0.out rfl (by simp only [List.setIfInBounds_toArray, List.set_cons_succ, List.set_cons_zero]; rfl) ?_
  first
    | refine pl_get (i := 8) rfl rfl HS0.out rfl (fun u hu => by (try dsimp only at hu); go_simp; rfl) (by simp only [List.setIfInBounds_toArray, List.set_cons_succ, List.set_cons_zero]; rfl) ?_
    | refine pl_skip (i := 8) rfl rfl HS0.out rfl (by simp only [List.setIfInBounds_toArray, List.set_cons_succ, List.set_cons_zero]; rfl) ?_
  first
    | refine pl_get (i := 9) rfl rfl HS0.out rfl (fun u hu => by (try dsimp only at hu); go_simp; rfl) (by simp only [List.setIfInBounds_toArray, List.set_cons_succ, List.set_cons_zero]; rfl) ?_
    | refine pl_skip (i := 9) rfl rfl HS0.out rfl (by simp only [List.setIfInBounds_toArray, List.set_cons_succ, List.set_cons_zero]; rfl) ?_
  first
    | refine pl_get (i := 10) rfl rfl HS0.out rfl (fun u hu => by (try dsimp only at hu); go_simp; rfl) (by simp only [List.setIfInBounds_toArray, List.set_cons_succ, List.set_cons_zero]; rfl) ?_
    | refine pl_skip (i := 10) rfl rfl HS0.out rfl (by simp only [List.setIfInBounds_toArray, List.set_cons_succ, List.set_cons_zero]; rfl) ?_
  first
    | refine pl_get (i := 11) rfl rfl HS0.out rfl (fun u hu => by (try dsimp only at hu); go_simp; rfl) (by simp only [List.setIfInBounds_toArray, List.set_cons_succ, List.set_cons_zero]; rfl) ?_
    | refine pl_skip (i := 11) rfl rfl HS0.out rfl (by simp only [List.setIfInBounds_toArray, List.set_cons_succ, List.set_cons_zero]; rfl) ?_
  first
    | refine pl_get (i := 12) rfl rfl HS0.out rfl (fun u hu => by (try dsimp only at hu); go_simp; rfl) (by simp only [List.setIfInBounds_toArray, List.set_cons_succ, List.set_cons_zero]; rfl) ?_
    | refine pl_skip (i := 12) rfl rfl HS0.out rfl (by simp only [List.setIfInBounds_toArray, List.set_cons_succ, List.set_cons_zero]; rfl) ?_
  first
    | refine pl_get (i := 13) rfl rfl HS0.out rfl (fun u hu => by (try dsimp only at hu); go_simp; rfl) (by simp only [List.setIfInBounds_toArray, List.set_cons_succ, List.set_cons_zero]; rfl) ?_
    | refine pl_skip (i := 13) rfl rfl HS0.out rfl (by simp only [List.setIfInBounds_toArray, List.set_cons_succ, List.set_cons_zero]; rfl) ?_
  refine pl_fork (i := 1) (j := 14) rfl rfl ?_ ?_
  · go_wp2_with fail
    have kE : Keep NoB W0 (W0.alloc (.cells #[] 50)) := (Keep.refl NoB W0).alloc _
    have OE := Own.empty W0 (Nat.le_refl _) 50 4 pCells
    have sE : (W0.alloc (.cells #[] 50)).heap.size = W0.heap.size + 1 := by simp
    generalize W0.alloc (.cells #[] 50) = wE at kE OE sE ⊢
    have HSE := Lib.hid (ks5 HS0.out kE)
    refine pl_next (fun _ => HSE.out) ?_
    refine pl_fork (i := 6) (j := 14) rfl rfl ?_ ?_
    · refine wpList_append_prt (B := W0.heap.size) rfl (.tmp 22) (.tmp 26) 45 rfl Try.underlying45 info50' (by kernel_rfl) (by decide) (by decide) rfl OE pCells_len pCells_one rfl (Hprt.out.keep kE) (by simp; omega) (by omega) (List.nil_append _) ?_
      intro a6 c6 w6 O6 k6
      (try simp only [Act.put, List.getElem_toArray, List.getElem_cons_succ, List.getElem_cons_zero, List.setIfInBounds_toArray, List.set_cons_succ, List.set_cons_zero])
      have K6 : Keep NoB W0 w6 := OE.knob kE k6
      have HS6 := Lib.hid (ks5 HS0.out K6)
      refine pl_next (fun _ => HS6.out) ?_
      clear k6
      refine pl_one (i := 14) rfl ?_
      go_wp2_with (fail)
      have HS8 := Lib.hid (ks5 HS6.out ((Keep.refl NoB w6).alloc (.cells #[.int .i64 p0, .int .i64 p1, .string p2, .bool p3] 50)))
      refine pl_next (fun _ => HS8.out) ?_
      refine pl_one (i := 15) rfl ?_
      refine wpList_append_one (B := W0.heap.size) rfl (.tmp 27) (.tmp 35) 45 rfl Try.underlying45 info50' (by kernel_rfl) (by decide) (by decide) rfl (O6.alloc _) pCells_len ⟨p0, p1, p2, p3⟩ rfl (c := #[.int .i64 p0, .int .i64 p1, .string p2, .bool p3]) (t' := 50) (f := (0, 0)) (blk_new w6 _) rfl (pCells_one _) (by omega) (by have := K6.size; simp; omega) HN'.out ?_
      intro a9 c9 w9 O9 k9
      have K9 : Keep NoB W0 w9 := (O6.alloc _).knob (K6.alloc _) k9
      have HS9 := Lib.hid (ks5 HS0.out K9)
      refine pl_next (fun _ => HS9.out) ?_
      refine pl_one (i := 16) rfl ?_
      go_wp2_with (fail)
      refine pl_next (fun _ => HS9.out) ?_
      refine pl_one (i := 17) rfl ?_
      go_wp2_with (fail)
      refine pl_next (fun _ => HS9.out) ?_
      clear k9 K6
      have bk := blk_keep Hblk.out K9 (fun h => h)
      have d0 := blk_cell bk 0
      have dl := blk_lt bk
      have df := blk_free bk 0
      have Hbk := Lib.hid bk
      simp at d0
      clear bk
      refine pl_one (i := 18) rfl ?_
      go_wp2_with (fail)
      refine pl_next (fun h => by cases h) ?_
      refine pl_done ?_
      have b9 := blk_setCell (i := 0) Hbk.out (.slice a9 N'.length c9)
      have k9' : Keep (OneB rb) w9 (w9.setCell ⟨rb, 0, none⟩ (.slice a9 N'.length c9)) := (Keep.refl (OneB rb) w9).setCell (p := ⟨rb, 0, none⟩) (Or.inr rfl) _
      have O9' := (O9.mono hBW).keep k9' (fun g hg e => O9.ne Hbk.out (by decide) g hg e)
      have K9' := ((HKW.out.trans K9).none).trans k9'
      simp at b9
      generalize w9.setCell ⟨rb, 0, none⟩ (.slice a9 N'.length c9) = wF at b9 k9' O9' K9' ⊢
      clear d0 dl df k9'
      go_wp2
      go_ret
      exact ⟨rfl, ⟨a9, c9, ⟨b9, O9'⟩⟩, K9'⟩
    · go_wp2_with fail
      have bB := blk_new wE (.cells #[.int .i64 p0, .int .i64 p1, .string p2, .bool p3] 50)
      rw [sE] at bB
      have kB : Keep NoB W0 (wE.alloc (.cells #[.int .i64 p0, .int .i64 p1, .string p2, .bool p3] 50)) := kE.alloc _
      have OB := OE.alloc (.cells #[.int .i64 p0, .int .i64 p1, .string p2, .bool p3] 50)
      have HS8 := Lib.hid (ks5 HS0.out kB)
      have sB := kB.size
      refine pl_next (fun _ => HS8.out) ?_
      generalize wE.alloc (.cells #[.int .i64 p0, .int .i64 p1, .string p2, .bool p3] 50) = wB at bB kB OB HS8 sB ⊢
      refine pl_one (i := 6) rfl ?_
      refine wpList_append_prt (B := W0.heap.size) rfl (.tmp 22) (.tmp 26) 45 rfl Try.underlying45 info50' (by kernel_rfl) (by decide) (by decide) rfl OB pCells_len pCells_one rfl (Hprt.out.keep kB) (by simp; omega) sB (List.nil_append _) ?_
      intro a6 c6 w6 O6 k6
      (try simp only [Act.put, List.getElem_toArray, List.getElem_cons_succ, List.getElem_cons_zero, List.setIfInBounds_toArray, List.set_cons_succ, List.set_cons_zero])
      have K6 : Keep NoB W0 w6 := OB.knob kB k6
      have b6 := blk_keep bB k6 (fun e => by have e' := Option.some.inj (show some W0.heap.size = some (W0.heap.size + 1) from e); omega)
      have HS6 := Lib.hid (ks5 HS0.out K6)
      have s6 := K6.size
      refine pl_next (fun _ => HS6.out) ?_
      clear k6
      refine pl_one (i := 15) rfl ?_
      refine wpList_append_one (B := W0.heap.size) rfl (.tmp 27) (.tmp 35) 45 rfl Try.underlying45 info50' (by kernel_rfl) (by decide) (by decide) rfl O6 pCells_len ⟨p0, p1, p2, p3⟩ rfl (c := #[.int .i64 p0, .int .i64 p1, .string p2, .bool p3]) (t' := 50) (f := (0, 0)) b6 rfl (pCells_one _) (by omega) s6 HN'.out ?_
      intro a9 c9 w9 O9 k9
      have K9 : Keep NoB W0 w9 := O6.knob K6 k9
      have HS9 := Lib.hid (ks5 HS0.out K9)
      refine pl_next (fun _ => HS9.out) ?_
      refine pl_one (i := 16) rfl ?_
      go_wp2_with (fail)
      refine pl_next (fun _ => HS9.out) ?_
      refine pl_one (i := 17) rfl ?_
      go_wp2_with (fail)
      refine pl_next (fun _ => HS9.out) ?_
      clear k9 K6
      have bk := blk_keep Hblk.out K9 (fun h => h)
      have d0 := blk_cell bk 0
      have dl := blk_lt bk
      have df := blk_free bk 0
      have Hbk := Lib.hid bk
      simp at d0
      clear bk
      refine pl_one (i := 18) rfl ?_
      go_wp2_with (fail)
      refine pl_next (fun h => by cases h) ?_
      refine pl_done ?_
      have b9 := blk_setCell (i := 0) Hbk.out (.slice a9 N'.length c9)
      have k9' : Keep (OneB rb) w9 (w9.setCell ⟨rb, 0, none⟩ (.slice a9 N'.length c9)) := (Keep.refl (OneB rb) w9).setCell (p := ⟨rb, 0, none⟩) (Or.inr rfl) _
      have O9' := (O9.mono hBW).keep k9' (fun g hg e => O9.ne Hbk.out (by decide) g hg e)
      have K9' := ((HKW.out.trans K9).none).trans k9'
      simp at b9
      generalize w9.setCell ⟨rb, 0, none⟩ (.slice a9 N'.length c9) = wF at b9 k9' O9' K9' ⊢
      clear d0 dl df k9'
      go_wp2
      go_ret
      exact ⟨rfl, ⟨a9, c9, ⟨b9, O9'⟩⟩, K9'⟩
  · go_wp2_with fail
    have bB := blk_new W0 (.cells #[.int .i64 p0, .int .i64 p1, .string p2, .bool p3] 50)
    have kB : Keep NoB W0 (W0.alloc (.cells #[.int .i64 p0, .int .i64 p1, .string p2, .bool p3] 50)) := (Keep.refl NoB W0).alloc _
    have HS8 := Lib.hid (ks5 HS0.out kB)
    have sB : (W0.alloc (.cells #[.int .i64 p0, .int .i64 p1, .string p2, .bool p3] 50)).heap.size = W0.heap.size + 1 := by simp
    refine pl_next (fun _ => HS8.out) ?_
    generalize W0.alloc (.cells #[.int .i64 p0, .int .i64 p1, .string p2, .bool p3] 50) = wB at bB kB HS8 sB ⊢
    refine pl_one (i := 1) rfl ?_
    go_wp2_with (fail)
    have kE : Keep NoB W0 (wB.alloc (.cells #[] 50)) := kB.alloc _
    have OE := (Own.empty wB (Nat.le_refl _) 50 4 pCells).mono (by omega : W0.heap.size ≤ wB.heap.size)
    rw [sB] at OE
    have bE := blk_alloc (o' := .cells #[] 50) bB
    have HSE := Lib.hid (ks5 HS0.out kE)
    have sE := kE.size
    refine pl_next (fun _ => HSE.out) ?_
    generalize wB.alloc (.cells #[] 50) = wE at kE OE bE HSE sE ⊢
    refine pl_one (i := 6) rfl ?_
    refine wpList_append_prt (B := W0.heap.size) rfl (.tmp 22) (.tmp 26) 45 rfl Try.underlying45 info50' (by kernel_rfl) (by decide) (by decide) rfl OE pCells_len pCells_one rfl (Hprt.out.keep kE) (by simp; omega) sE (List.nil_append _) ?_
    intro a6 c6 w6 O6 k6
    (try simp only [Act.put, List.getElem_toArray, List.getElem_cons_succ, List.getElem_cons_zero, List.setIfInBounds_toArray, List.set_cons_succ, List.set_cons_zero])
    have K6 : Keep NoB W0 w6 := OE.knob kE k6
    have b6 := blk_keep bE k6 (fun e => by have e' := Option.some.inj (show some (W0.heap.size + 1) = some W0.heap.size from e); omega)
    have HS6 := Lib.hid (ks5 HS0.out K6)
    have s6 := K6.size
    refine pl_next (fun _ => HS6.out) ?_
    clear k6
    refine pl_one (i := 15) rfl ?_
    refine wpList_append_one (B := W0.heap.size) rfl (.tmp 27) (.tmp 35) 45 rfl Try.underlying45 info50' (by kernel_rfl) (by decide) (by decide) rfl O6 pCells_len ⟨p0, p1, p2, p3⟩ rfl (c := #[.int .i64 p0, .int .i64 p1, .string p2, .bool p3]) (t' := 50) (f := (0, 0)) b6 rfl (pCells_one _) (by omega) s6 HN'.out ?_
    intro a9 c9 w9 O9 k9
    have K9 : Keep NoB W0 w9 := O6.knob K6 k9
    have HS9 := Lib.hid (ks5 HS0.out K9)
    refine pl_next (fun _ => HS9.out) ?_
    refine pl_one (i := 16) rfl ?_
    go_wp2_with (fail)
    refine pl_next (fun _ => HS9.out) ?_
    refine pl_one (i := 17) rfl ?_
    go_wp2_with (fail)
    refine pl_next (fun _ => HS9.out) ?_
    clear k9 K6
    have bk := blk_keep Hblk.out K9 (fun h => h)
    have d0 := blk_cell bk 0
    have dl := blk_lt bk
    have df := blk_free bk 0
    have Hbk := Lib.hid bk
    simp at d0
    clear bk
    refine pl_one (i := 18) rfl ?_
    go_wp2_with (fail)
    refine pl_next (fun h => by cases h) ?_
    refine pl_done ?_
    have b9 := blk_setCell (i := 0) Hbk.out (.slice a9 N'.length c9)
    have k9' : Keep (OneB rb) w9 (w9.setCell ⟨rb, 0, none⟩ (.slice a9 N'.length c9)) := (Keep.refl (OneB rb) w9).setCell (p := ⟨rb, 0, none⟩) (Or.inr rfl) _
    have O9' := (O9.mono hBW).keep k9' (fun g hg e => O9.ne Hbk.out (by decide) g hg e)
    have K9' := ((HKW.out.trans K9).none).trans k9'
    simp at b9
    generalize w9.setCell ⟨rb, 0, none⟩ (.slice a9 N'.length c9) = wF at b9 k9' O9' K9' ⊢
    clear d0 dl df k9'
    go_wp2
    go_ret
    exact ⟨rfl, ⟨a9, c9, ⟨b9, O9'⟩⟩, K9'⟩
end Go.Proofs.Ytbaojfjabhgohaa
