/- The reference's cache: Put, granted. -/
import Derived.Test.YtgbcjnejlelndaaLruP6
namespace Go.Proofs.Ytgbcjnejlelndaa
open Go Go.RowKit Go.Maps

set_option maxRecDepth 100000 in
set_option maxHeartbeats 8000000 in
theorem rput_yes (rb B : Nat) (a : Option Addr) (cap : Nat) (room kept : Int) (N : List T3) (s : ByteArray) (z n : Int) (w : World) (T : RC w B rb a cap room kept N) (hB : B ≤ w.heap.size) (hN : N.length ≤ 100000) (h0 : 0 ≤ kept) (hk : kept ≤ room) (hr1 : room ≤ 9223372036854775807) (M : List T3) (b : Bool) (hM : DropV N s M b) (hMl : M.length ≤ 100000) (hs : ∀ x ∈ M, 0 ≤ x.2.1) (hb : kept + sum3 M ≤ 9223372036854775807) (hz0 : 0 ≤ z) (hz1 : z ≤ room - kept)
    (j0 : Nat) (hj0 : j0 ≤ M.length) (hup : ∀ j, j0 < j → j ≤ M.length → room - z < kept + sum3 (M.take j)) (hfit : j0 = 0 ∨ kept + sum3 (M.take j0) ≤ room - z) (N' : List T3) (hN' : [((s, z, n) : T3)] ++ M.take j0 = N') :
    Calls Try.prog 21 #[.pointer (some ⟨rb, 0, none⟩), .agg #[.string s, .int .i64 z, .int .i64 n]] w (RResPost rb B room kept (goneR M j0) N' w) := by
  obtain ⟨M', hM'⟩ : ∃ q, M.take j0 = q := ⟨_, rfl⟩
  have hM'l : M'.length ≤ 100000 := by rw [← hM', List.length_take]; omega
  rw [hM'] at hN'
  have HM' := Lib.hid hM'
  have HN' := Lib.hid hN'
  have HT := Lib.hid T
  have HM := Lib.hid hM
  have Hs := Lib.hid hs
  have Hup := Lib.hid hup
  have Hfit := Lib.hid hfit
  have hrb := blk_lt T.blk
  have hw : IntKind.i64.wrap (room - kept) = room - kept := by rw [IntKind.wrap_i64]; omega
  have d0 : decide (z < 0) = false := decide_eq_false (by omega)
  have d1 : decide (room - kept < z) = false := decide_eq_false (by omega)
  clear T hM hs hup hfit hM' hN'
  go_enter Try.func21, Try.ntmps21
  have k0 : Keep NoB w (w.alloc (.cells #[.string s, .int .i64 z, .int .i64 n] 52)) := (Keep.refl NoB w).alloc _
  have b0 := blk_new w (.cells #[.string s, .int .i64 z, .int .i64 n] 52)
  go_wp2_with fail
  refine (rdrop_any rb B a cap room kept N s _ (HT.out.keep0 k0) (Nat.le_trans hB k0.size) hN M b HM.out).mono ?_
  rintro _ w2 ⟨rfl, ⟨ra, rc, R2⟩, k2⟩
  have b2 := blk_keep b0 k2 (fun e => by have e' : w.heap.size = rb := e; omega)
  obtain ⟨xb, hxb⟩ : ∃ q, w.heap.size = q := ⟨_, rfl⟩
  have hxr : xb ≠ rb := by omega
  rw [hxb] at b2 ⊢
  have x1 := blk_cell b2 1
  have xl := blk_lt b2
  have c1 := blk_cell R2.blk 1
  have c2 := blk_cell R2.blk 2
  have hlt := blk_lt R2.blk
  simp at x1 c1 c2
  have HR2 := Lib.hid R2
  have HK2 := Lib.hid (k0.none.trans k2)
  have Hb2 := Lib.hid b2
  clear R2 k0 b0 k2 b2 hxb
  go_wp2_with fail
  go_quiet (fail)
  have kq : Keep NoB w2 (w2.drewN nq) := (Keep.refl NoB w2).drewN nq
  have Rq := HR2.out.keep0 kq
  have bq := blk_keep Hb2.out kq (fun h => h)
  have HKq := Lib.hid (HK2.out.trans kq.none)
  generalize w2.drewN nq = W at Rq bq HKq ⊢
  clear x1 xl c1 c2 hlt kq
  have x1 := blk_cell bq 1
  have xl := blk_lt bq
  simp at x1
  have HRq := Lib.hid Rq
  have Hbq := Lib.hid bq
  have sW := HKq.out.size
  clear Rq bq
  go_wp2_with fail
  refine (rway_any rb B ra rc room kept z M W HRq.out (by omega) hMl h0 Hs.out hb hz0 (by omega) hr1 hz1 j0 hj0 (fun j h1 h2 => by have h9 := Hup.out j h1 h2; omega) (by have h9 := Hfit.out; omega)).mono ?_
  rintro _ w4 ⟨ga, gc, rfl, OG, ⟨ra4, rc4, R4⟩, k4⟩
  rw [HM'.out] at R4
  have b4 := blk_keep Hbq.out k4 (fun e => hxr e)
  have HOG := Lib.hid (OG.mono sW)
  have HK4 := Lib.hid (HKq.out.trans k4)
  have d4 := blk_cell R4.blk 0
  have y0 := blk_cell b4 0
  have y1 := blk_cell b4 1
  have y2 := blk_cell b4 2
  simp at d4 y0 y1 y2
  have HR4 := Lib.hid R4
  have HS4 := Lib.hid (And.intro d4 (And.intro y0 (And.intro y1 y2)))
  clear R4 OG k4 b4 d4 y0 y1 y2 x1 xl
  go_wp2_with fail
  refine wp_region_pl (fun u => u.cell? ⟨rb, 0, none⟩ = some (.slice ra4 M'.length rc4) ∧ u.cell? ⟨xb, 0, none⟩ = some (.string s) ∧ u.cell? ⟨xb, 1, none⟩ = some (.int .i64 z) ∧ u.cell? ⟨xb, 2, none⟩ = some (.int .i64 n)) [10] (.rd 0 (.rd 1 (.rd 3 (.rd 4 (.rd 5 (.rd 6 (.one 2 (.one 7 (.one 8 (.one 9 (.one 10 .done))))))))))) (by kernel_rfl) (by kernel_rfl) (by kernel_rfl) (by kernel_rfl) (by intro c b d v u h; cases d <;> exact h) ?_
  have kd : Keep NoB w4 w4.drew := (Keep.refl NoB w4).drew
  have HS5 := Lib.hid (ks4 HS4.out kd)
  have HR5 := Lib.hid (HR4.out.keep0 kd)
  have HO5 := Lib.hid (HOG.out.keep kd (fun _ _ h => h))
  have HK5 := Lib.hid (HK4.out.trans kd.none)
  clear kd HS4 HR4 HOG HK4
  generalize w4.drew = W5 at HS5 HR5 HO5 HK5 ⊢
  first
    | refine pl_get (i := 0) rfl rfl HS5.out rfl (fun u hu => by (try dsimp only at hu); go_simp; rfl) (by simp only [List.setIfInBounds_toArray, List.set_cons_succ, List.set_cons_zero]; rfl) ?_
    | refine pl_skip (i := 0) rfl rfl HS5.out rfl (by simp only [List.setIfInBounds_toArray, List.set_cons_succ, List.set_cons_zero]; rfl) ?_
  first
    | refine pl_get (i := 1) rfl rfl HS5.out rfl (fun u hu => by (try dsimp only at hu); go_simp; rfl) (by simp only [List.setIfInBounds_toArray, List.set_cons_succ, List.set_cons_zero]; rfl) ?_
    | refine pl_skip (i := 1) rfl rfl HS5.out rfl (by simp only [List.setIfInBounds_toArray, List.set_cons_succ, List.set_cons_zero]; rfl) ?_
  first
    | refine pl_get (i := 3) rfl rfl HS5.out rfl (fun u hu => by (try dsimp only at hu); go_simp; rfl) (by simp only [List.setIfInBounds_toArray, List.set_cons_succ, List.set_cons_zero]; rfl) ?_
    | refine pl_skip (i := 3) rfl rfl HS5.out rfl (by simp only [List.setIfInBounds_toArray, List.set_cons_succ, List.set_cons_zero]; rfl) ?_
  first
    | refine pl_get (i := 4) rfl rfl HS5.out rfl (fun u hu => by (try dsimp only at hu); go_simp; rfl) (by simp only [List.setIfInBounds_toArray, List.set_cons_succ, List.set_cons_zero]; rfl) ?_
    | refine pl_skip (i := 4) rfl rfl HS5.out rfl (by simp only [List.setIfInBounds_toArray, List.set_cons_succ, List.set_cons_zero]; rfl) ?_
  first
    | refine pl_get (i := 5) rfl rfl HS5.out rfl (fun u hu => by (try dsimp only at hu); go_simp; rfl) (by simp only [List.setIfInBounds_toArray, List.set_cons_succ, List.set_cons_zero]; rfl) ?_
    | refine pl_skip (i := 5) rfl rfl HS5.out rfl (by simp only [List.setIfInBounds_toArray, List.set_cons_succ, List.set_cons_zero]; rfl) ?_
  first
    | refine pl_get (i := 6) rfl rfl HS5.out rfl (fun u hu => by (try dsimp only at hu); go_simp; rfl) (by simp only [List.setIfInBounds_toArray, List.set_cons_succ, List.set_cons_zero]; rfl) ?_
    | refine pl_skip (i := 6) rfl rfl HS5.out rfl (by simp only [List.setIfInBounds_toArray, List.set_cons_succ, List.set_cons_zero]; rfl) ?_
  refine pl_one (i := 2) rfl ?_
  go_wp2_with (fail)
  have kE : Keep NoB W5 (W5.alloc (.cells #[.string s, .int .i64 z, .int .i64 n] 52)) := (Keep.refl NoB W5).alloc _
  have OE := Own.one W5 (Nat.le_refl _) ((s, z, n) : T3)
  have HS6 := Lib.hid (ks4 HS5.out kE)
  have hsub : Sub W5 tCells (.slice ra4 M'.length rc4) M' := by have h := Own.take (i := M'.length) HR5.out.own tCells_len (Nat.le_refl _) rc4; rw [List.take_length] at h; exact h
  refine pl_next (fun _ => HS6.out) ?_
  refine pl_one (i := 7) rfl ?_
  refine wpList_append_sub rfl (.tmp 34) (.tmp 38) 47 rfl Try.underlying47 info52' (by kernel_rfl) (by decide) (by decide) rfl OE tCells_len tCells_one rfl (hsub.keep kE) (by simp; omega) (by simp) HN'.out ?_
  intro a7 c7 w7 O7 k7
  have K7 : Keep NoB W5 w7 := OE.knob kE k7
  have b7 := blk_keep HR5.out.blk K7 (fun h => h)
  have HS7 := Lib.hid (ks4 HS5.out K7)
  have HOG7 := Lib.hid (HO5.out.keep K7 (fun _ _ h => h))
  have HK7 := Lib.hid (HK5.out.trans K7.none)
  have sB : B ≤ W5.heap.size := by have := HK5.out.size; omega
  have HO7 := Lib.hid (O7.mono sB)
  have e0 := blk_cell b7 0
  have el := blk_lt b7
  have ef := blk_free b7 0
  have Hb7 := Lib.hid b7
  simp at e0
  refine pl_next (fun _ => HS7.out) ?_
  clear O7 k7 K7 b7 OE kE hsub
  refine pl_one (i := 8) rfl ?_
  go_wp2_with (fail)
  refine pl_next (fun _ => HS7.out) ?_
  refine pl_one (i := 9) rfl ?_
  go_wp2_with (fail)
  refine pl_next (fun _ => HS7.out) ?_
  refine pl_one (i := 10) rfl ?_
  go_wp2_with (fail)
  refine pl_next (fun h => by cases h) ?_
  refine pl_done ?_
  have b9 := blk_setCell (i := 0) Hb7.out (.slice a7 N'.length c7)
  have k9 : Keep (OneB rb) w7 (w7.setCell ⟨rb, 0, none⟩ (.slice a7 N'.length c7)) := (Keep.refl (OneB rb) w7).setCell (p := ⟨rb, 0, none⟩) (Or.inr rfl) _
  simp at b9
  generalize w7.setCell ⟨rb, 0, none⟩ (.slice a7 N'.length c7) = w9 at b9 k9 ⊢
  go_wp2
  refine bodyPost_ret (v := .tuple #[.slice ga (goneR M j0).length gc, .bool true]) (by simp [results, Try.results21, go_sem]) rfl ?_
  exact ⟨ga, gc, rfl, HOG7.out.keep k9 (fun q hq e => HOG7.out.ne Hb7.out (by decide) q hq e), ⟨a7, c7, ⟨b9, HO7.out.keep k9 (fun q hq e => HO7.out.ne Hb7.out (by decide) q hq e)⟩⟩, HK7.out.trans k9⟩
end Go.Proofs.Ytgbcjnejlelndaa
