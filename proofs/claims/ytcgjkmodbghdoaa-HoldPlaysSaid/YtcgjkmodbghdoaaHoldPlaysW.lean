/- The walk of HoldPlays. -/
import Derived.Test.YtcgjkmodbghdoaaHoldPlaysQ
import Derived.Test.YtcgjkmodbghdoaaLibReg2
import Derived.Deep.Cut
import Derived.Deep.CutRange
import Derived.Deep.CutBlock
namespace Go.Proofs.Ytcgjkmodbghdoaa
open Go Go.RowKit Go.Maps Go.Sort


set_option maxRecDepth 100000 in
set_option maxHeartbeats 40000000 in
theorem plays_walk (limit : Int) (a0 : Option Addr) (len0 cap0 : Nat) (z : Nat → HOp) (w : World) (h0 : IsOps w a0 len0 z) :
    Calls Try.prog 7 #[.int .i64 limit, .slice a0 len0 cap0] w fun e w' => e = .returned (.bool true) ∧ Below w.heap.size w w' := by
  obtain ⟨hmax, hok, hrow⟩ := h0
  unfold maxLen at hmax
  go_enter Try.func7, Try.ntmps7
  go_wp2_with fail
  refine (awake_any _).mono ?_
  rintro _ w1 ⟨rfl, hk1⟩
  go_wp2_with fail
  refine (new_any limit _).mono ?_
  rintro _ w2 ⟨rfl, T2, hk2, hs2⟩
  have hPB : PB w (w1.heap.size + 1) w1.heap.size w2.heap.size := ⟨Nat.le_succ_of_le hk1.size, hk1.size, by omega, by omega⟩
  have k3 : Keep NoB w2 (w2.alloc (.cells #[.slice none 0 0, .int .i64 limit, .int .i64 0] 44)) := (Keep.refl NoB w2).alloc _
  have D3 : HS w (w2.alloc (.cells #[.slice none 0 0, .int .i64 limit, .int .i64 0] 44)) (w1.heap.size + 1) w1.heap.size w2.heap.size limit 0 [] 0 :=
    ⟨T2.keep k3 (fun h => h) (fun h => h), ⟨none, 0, ⟨blk_new w2 _, Own.nil _ _ _ _ _⟩⟩, List.Pairwise.nil, Nat.le_refl _, (hk1.trans hk2).trans k3⟩
  clear T2 hk1 hk2 hs2 k3
  go_wp2_with fail
  generalize World.alloc w2 (.cells #[.slice none 0 0, .int .i64 limit, .int .i64 0] 44) = w3 at D3 ⊢
  generalize w1.heap.size + 1 = tb at D3 hPB ⊢
  generalize w1.heap.size = mb at D3 hPB ⊢
  generalize w2.heap.size = rb at D3 hPB ⊢
  have hp1 := hPB.hi1
  have hp2 := hPB.hi2
  have HPB := Lib.hid hPB
  clear hPB
  go_loopw [8] (fun i wr => ∃ (k : Nat) (fl : Int) (N : List TB), k ≤ len0 ∧ k ≤ 200 ∧ i = .int .i64 k ∧ HS w wr tb mb rb limit fl N k) (fun i _ => len0 - (intOf i).toNat)
  case atStart => exact ⟨0, 0, [], Nat.zero_le _, Nat.zero_le _, rfl, D3⟩
  case round =>
    clear D3
    obtain ⟨k, fl, N, hk0, hk200, rfl, D⟩ := hrel
    by_cases hgo : k < len0 ∧ k < 200
    · obtain ⟨hlt, h200⟩ := hgo
      have h200i : decide ((k : Int) < 200) = true := by simp; omega
      rcases hrow with h | ⟨b, off, rfl, hb, hc⟩
      · omega
      have hcw := hc k hlt
      have hop := hok k hlt
      clear hc
      generalize hzk : z k = x at hcw hop
      clear hzk
      obtain ⟨kd, s, n⟩ := x
      obtain ⟨hcw0, hcw1, hcw2⟩ := hcw
      have hs : s.size ≤ maxLen := hop.2.1
      simp only at hcw0 hcw1 hcw2
      have hb0 : b < wr.heap.size := Nat.lt_of_lt_of_le hb D.hk.size
      have l00 := D.hk.some hcw0 (fun h => h)
      have l01 := D.hk.some hcw1 (fun h => h)
      have l02 := D.hk.some hcw2 (fun h => h)
      have hob : rb < wr.heap.size := D.lt
      clear hcw0 hcw1 hcw2 hop
      have hkd : kd = 0 ∨ kd = 1 ∨ kd = 2 ∨ ((kd == 0) = false ∧ (kd == 1) = false ∧ (kd == 2) = false) := by
        simp; omega
      have HD0 := Lib.hid D
      clear D
      go_upto_block 2 with fail
      have bV := blk_new wr (.cells #[.int .i64 kd, .string s, .int .i64 n] 27)
      have DV := HD0.out.keep ((Keep.refl NoB wr).alloc (.cells #[.int .i64 kd, .string s, .int .i64 n] 27))
      generalize World.alloc wr (.cells #[.int .i64 kd, .string s, .int .i64 n] 27) = V at bV DV ⊢
      generalize wr.heap.size = ob at bV hob ⊢
      have HDV := Lib.hid DV
      have HbV := Lib.hid bV
      clear HD0 l00 l01 l02 hb0 DV bV
      have hN200 : N.length ≤ 200 := by have := HDV.out.len; omega
      go_cut [9] from 17 to 130 (fun ov wx => ov = .pointer (some ⟨ob, 0, none⟩) ∧ ∃ fl' N', HS w wx tb mb rb limit fl' N' (k + 1) ∧ wx.heap[ob]? = some (.cells #[.int .i64 kd, .string s, .int .i64 n] 27 (0, 0)))
      case first =>
        have bx := HbV.out
        have x0 := blk_cell bx 0
        have x1 := blk_cell bx 1
        have x2 := blk_cell bx 2
        have xl := blk_lt bx
        simp at x0 x1 x2
        rcases hkd with rfl | rfl | rfl | ⟨e0, e1, e2⟩
        · obtain ⟨N', fl', hcase, hL, hF, hrise, hlen⟩ := note_plan (limit := limit) (floor := fl) HDV.out.rise s n
          have Hcase := Lib.hid hcase
          have HL := Lib.hid hL
          have HF := Lib.hid hF
          have Hrise := Lib.hid hrise
          obtain ⟨a, cap, R0⟩ := HDV.out.R
          have HR0 := Lib.hid R0
          clear hcase hL hF hrise R0
          go_wp2_with fail
          refine (note_any tb mb limit fl _ s n _ HDV.out.T hs (by rw [absR_len]; unfold maxLen; omega) fl' _ HF.out HL.out).mono ?_
          rintro _ w4 ⟨rfl, T4, k4⟩
          have R4 := Lib.hid (HR0.out.two HPB.out k4)
          have K4 := HDV.out.hk.trans' k4 HPB.out.two
          have b4 := blk_keep HbV.out k4 (fun e => by rcases e with e | e <;> omega)
          have s4 := k4.size
          clear x0 x1 x2 xl bx k4
          have bx := b4
          have Hb4 := Lib.hid b4
          clear b4
          have x0 := blk_cell bx 0
          have x1 := blk_cell bx 1
          have x2 := blk_cell bx 2
          have xl := blk_lt bx
          simp at x0 x1 x2
          have HT4 := Lib.hid T4
          clear T4
          go_wp2_with fail
          refine (rnote_any rb rb a cap limit fl N s n _ R4.out (by have := HDV.out.lt; omega) (by omega) N' fl' Hcase.out).mono ?_
          rintro _ w5 ⟨rfl, R5, k5⟩
          have hno : ¬ RBk rb (.slice a N.length cap) ob := fun e => by
            rcases e with e | e
            · omega
            · exact R4.out.own.ne Hb4.out (by decide) ob e rfl
          have T5 := HT4.out.own HPB.out R4.out k5
          have K5 := K4.trans' k5 (HPB.out.own R4.out)
          have b5 := blk_keep Hb4.out k5 hno
          clear x0 x1 x2 xl bx k5
          have bx := b5
          have Hb5 := Lib.hid b5
          clear b5
          have x0 := blk_cell bx 0
          have x1 := blk_cell bx 1
          have x2 := blk_cell bx 2
          have xl := blk_lt bx
          simp at x0 x1 x2
          have D5 : HS w w5 tb mb rb limit fl' N' (k + 1) := ⟨T5, R5, Hrise.out, by have := HDV.out.len; omega, K5⟩
          have HD5 := Lib.hid D5
          clear D5 T5 R5 K5 K4
          go_wp2_with fail
          refine (nnote_any s n _).mono ?_
          rintro _ w5 ⟨rfl, rfl⟩
          go_wp2_with fail
          go_meet
          exact ⟨rfl, fl', N', HD5.out, Hb5.out⟩
        · obtain ⟨fl', hfl⟩ : ∃ f : Int, (fl ≤ n ∧ f = 0) ∨ (n < fl ∧ f = fl) := by
            by_cases h : fl ≤ n
            · exact ⟨0, Or.inl ⟨h, rfl⟩⟩
            · exact ⟨fl, Or.inr ⟨by omega, rfl⟩⟩
          obtain ⟨W, hW⟩ : ∃ l, passN N n = l := ⟨_, rfl⟩
          have hWl : W.length ≤ N.length := by rw [← hW]; exact passN_len N n
          have hWr : Rise W := by rw [← hW]; exact rise_filter HDV.out.rise _
          obtain ⟨q, hq⟩ : ∃ q : Int, (N.length : Int) - (W.length : Int) = q := ⟨_, rfl⟩
          have Hq := Lib.hid hq
          have HW := Lib.hid hW
          have HWr := Lib.hid hWr
          have Hfl := Lib.hid hfl
          obtain ⟨a, cap, R0⟩ := HDV.out.R
          have HR0 := Lib.hid R0
          clear hfl hW hWr R0 hq
          go_wp2_with fail
          refine wp_region_pl (fun u => u.cell? ⟨ob, 2, none⟩ = some (.int .i64 n)) [] (.rd 0 (.rd 1 (.rd 2 (.rd 4 (.rd 5 (.rd 6 (.one 3 (.one 7 (.rd 8 (.rd 9 (.rd 10 (.rd 11 (.rd 12 (.one 13 (.rd 14 (.rd 15 .done)))))))))))))))) (by kernel_rfl) (by kernel_rfl) (by kernel_rfl) (by kernel_rfl) (by intro c b d v u h; cases d <;> exact h) ?_
          have kd0 : Keep NoB V V.drew := (Keep.refl NoB V).drew
          have HDr := Lib.hid (HDV.out.keep kd0)
          have HRr := Lib.hid (HR0.out.keep0 kd0)
          have Hbr := Lib.hid (blk_keep HbV.out kd0 (fun h => h))
          have HS0 := Lib.hid (show V.drew.cell? ⟨ob, 2, none⟩ = some (.int .i64 n) from x2)
          clear x0 x1 x2 kd0 bx
          first
            | refine pl_get (i := 0) rfl rfl HS0.out rfl (fun u hu => by (try dsimp only at hu); go_simp; rfl) (by simp only [List.setIfInBounds_toArray, List.set_cons_succ, List.set_cons_zero]; rfl) ?_
            | refine pl_skip (i := 0) rfl rfl HS0.out rfl (by simp only [List.setIfInBounds_toArray, List.set_cons_succ, List.set_cons_zero]; rfl) ?_
          first
            | refine pl_get (i := 1) rfl rfl HS0.out rfl (fun u hu => by (try dsimp only at hu); go_simp; rfl) (by simp only [List.setIfInBounds_toArray, List.set_cons_succ, List.set_cons_zero]; rfl) ?_
            | refine pl_skip (i := 1) rfl rfl HS0.out rfl (by simp only [List.setIfInBounds_toArray, List.set_cons_succ, List.set_cons_zero]; rfl) ?_
          first
            | refine pl_get (i := 2) rfl rfl HS0.out rfl (fun u hu => by (try dsimp only at hu); go_simp; rfl) (by simp only [List.setIfInBounds_toArray, List.set_cons_succ, List.set_cons_zero]; rfl) ?_
            | refine pl_skip (i := 2) rfl rfl HS0.out rfl (by simp only [List.setIfInBounds_toArray, List.set_cons_succ, List.set_cons_zero]; rfl) ?_
          first
            | refine pl_get (i := 4) rfl rfl HS0.out rfl (fun u hu => by (try dsimp only at hu); go_simp; rfl) (by simp only [List.setIfInBounds_toArray, List.set_cons_succ, List.set_cons_zero]; rfl) ?_
            | refine pl_skip (i := 4) rfl rfl HS0.out rfl (by simp only [List.setIfInBounds_toArray, List.set_cons_succ, List.set_cons_zero]; rfl) ?_
          first
            | refine pl_get (i := 5) rfl rfl HS0.out rfl (fun u hu => by (try dsimp only at hu); go_simp; rfl) (by simp only [List.setIfInBounds_toArray, List.set_cons_succ, List.set_cons_zero]; rfl) ?_
            | refine pl_skip (i := 5) rfl rfl HS0.out rfl (by simp only [List.setIfInBounds_toArray, List.set_cons_succ, List.set_cons_zero]; rfl) ?_
          first
            | refine pl_get (i := 6) rfl rfl HS0.out rfl (fun u hu => by (try dsimp only at hu); go_simp; rfl) (by simp only [List.setIfInBounds_toArray, List.set_cons_succ, List.set_cons_zero]; rfl) ?_
            | refine pl_skip (i := 6) rfl rfl HS0.out rfl (by simp only [List.setIfInBounds_toArray, List.set_cons_succ, List.set_cons_zero]; rfl) ?_
          refine pl_one (i := 3) rfl ?_
          go_wp2_with ((go_at_call 11; refine (pass_any tb mb limit fl _ n _ HDr.out.T (by rw [absR_len]; unfold maxLen; omega) fl' Hfl.out).mono ?_; rintro _ w4 ⟨rfl, T4, k4⟩))
          rw [pass_abs, HW.out] at T4
          rw [pass_abs, HW.out, absR_len, absR_len, Hq.out]
          have R4 := Lib.hid (HRr.out.two HPB.out k4)
          have K4 := HDr.out.hk.trans' k4 HPB.out.two
          have Hb4 := Lib.hid (blk_keep Hbr.out k4 (fun e => by rcases e with e | e <;> omega))
          have HS4 := Lib.hid (show w4.cell? ⟨ob, 2, none⟩ = some (.int .i64 n) from k4.some HS0.out (fun e => by have e' : ob = tb ∨ ob = mb := e; omega))
          have s4 := k4.size
          have HT4 := Lib.hid T4
          have hsr := HDr.out.lt
          refine pl_next (fun _ => HS4.out) ?_
          clear k4 T4 HS0
          refine pl_one (i := 7) rfl ?_
          go_wp2_with ((go_at_call 18; refine (rpass_any rb rb a cap limit fl N n _ R4.out (by omega) (by omega) W HW.out fl' Hfl.out).mono ?_; rintro _ w5 ⟨rfl, R5, k5⟩))
          rw [Hq.out]
          have T5 := HT4.out.one HPB.out k5
          have K5 := K4.trans' k5 HPB.out.one
          have Hb5 := Lib.hid (blk_keep Hb4.out k5 (fun e => by have e' : ob = rb := e; omega))
          have HS5 := Lib.hid (show w5.cell? ⟨ob, 2, none⟩ = some (.int .i64 n) from k5.some HS4.out (fun e => by have e' : ob = rb := e; omega))
          have HD5 := Lib.hid (show HS w w5 tb mb rb limit fl' W (k + 1) from ⟨T5, R5, HWr.out, by have := HDV.out.len; omega, K5⟩)
          refine pl_next (fun _ => HS5.out) ?_
          clear k5 T5 R5 K5 K4 HS4
          first
            | refine pl_get (i := 8) rfl rfl HS5.out rfl (fun u hu => by (try dsimp only at hu); go_simp; rfl) (by simp only [List.setIfInBounds_toArray, List.set_cons_succ, List.set_cons_zero]; rfl) ?_
            | refine pl_skip (i := 8) rfl rfl HS5.out rfl (by simp only [List.setIfInBounds_toArray, List.set_cons_succ, List.set_cons_zero]; rfl) ?_
          first
            | refine pl_get (i := 9) rfl rfl HS5.out rfl (fun u hu => by (try dsimp only at hu); go_simp; rfl) (by simp only [List.setIfInBounds_toArray, List.set_cons_succ, List.set_cons_zero]; rfl) ?_
            | refine pl_skip (i := 9) rfl rfl HS5.out rfl (by simp only [List.setIfInBounds_toArray, List.set_cons_succ, List.set_cons_zero]; rfl) ?_
          first
            | refine pl_get (i := 10) rfl rfl HS5.out rfl (fun u hu => by (try dsimp only at hu); go_simp; rfl) (by simp only [List.setIfInBounds_toArray, List.set_cons_succ, List.set_cons_zero]; rfl) ?_
            | refine pl_skip (i := 10) rfl rfl HS5.out rfl (by simp only [List.setIfInBounds_toArray, List.set_cons_succ, List.set_cons_zero]; rfl) ?_
          first
            | refine pl_get (i := 11) rfl rfl HS5.out rfl (fun u hu => by (try dsimp only at hu); go_simp; rfl) (by simp only [List.setIfInBounds_toArray, List.set_cons_succ, List.set_cons_zero]; rfl) ?_
            | refine pl_skip (i := 11) rfl rfl HS5.out rfl (by simp only [List.setIfInBounds_toArray, List.set_cons_succ, List.set_cons_zero]; rfl) ?_
          first
            | refine pl_get (i := 12) rfl rfl HS5.out rfl (fun u hu => by (try dsimp only at hu); go_simp; rfl) (by simp only [List.setIfInBounds_toArray, List.set_cons_succ, List.set_cons_zero]; rfl) ?_
            | refine pl_skip (i := 12) rfl rfl HS5.out rfl (by simp only [List.setIfInBounds_toArray, List.set_cons_succ, List.set_cons_zero]; rfl) ?_
          refine pl_one (i := 13) rfl ?_
          go_wp2_with ((go_at_call 11; refine (npass_any n _).mono ?_; rintro _ w5 ⟨rfl, rfl⟩))
          refine pl_next (fun _ => HS5.out) ?_
          first
            | refine pl_get (i := 14) rfl rfl HS5.out rfl (fun u hu => by (try dsimp only at hu); go_simp; rfl) (by simp only [List.setIfInBounds_toArray, List.set_cons_succ, List.set_cons_zero]; rfl) ?_
            | refine pl_skip (i := 14) rfl rfl HS5.out rfl (by simp only [List.setIfInBounds_toArray, List.set_cons_succ, List.set_cons_zero]; rfl) ?_
          first
            | refine pl_get (i := 15) rfl rfl HS5.out rfl (fun u hu => by (try dsimp only at hu); go_simp; rfl) (by simp only [List.setIfInBounds_toArray, List.set_cons_succ, List.set_cons_zero]; rfl) ?_
            | refine pl_skip (i := 15) rfl rfl HS5.out rfl (by simp only [List.setIfInBounds_toArray, List.set_cons_succ, List.set_cons_zero]; rfl) ?_
          refine pl_done ?_
          go_wp2_with fail
          go_meet
          exact ⟨rfl, fl', W, HD5.out, Hb5.out⟩
        · obtain ⟨a, cap, R0⟩ := HDV.out.R
          have HR0 := Lib.hid R0
          clear R0
          go_wp2_with fail
          refine (clear_any tb mb limit fl _ _ HDV.out.T).mono ?_
          rintro _ w4 ⟨rfl, T4, k4⟩
          have R4 := HR0.out.two HPB.out k4
          have r0 := blk_cell R4.blk 0
          have r2 := blk_cell R4.blk 2
          have f0 := blk_free R4.blk 0
          have f2 := blk_free R4.blk 2
          have rl := blk_lt R4.blk
          have b9 := blk_setCell (i := 2) (blk_setCell (i := 0) R4.blk (.slice none 0 0)) (.int .i64 0)
          simp at r0 r2 b9
          have k9 : Keep (OneB rb) w4 ((w4.setCell ⟨rb, 0, none⟩ (.slice none 0 0)).setCell ⟨rb, 2, none⟩ (.int .i64 0)) := ((Keep.refl (OneB rb) w4).setCell (p := ⟨rb, 0, none⟩) (Or.inr rfl) _).setCell (p := ⟨rb, 2, none⟩) (Or.inr rfl) _
          have K4 := HDV.out.hk.trans' k4 HPB.out.two
          have b4 := blk_keep HbV.out k4 (fun e => by rcases e with e | e <;> omega)
          have T9 := T4.one HPB.out k9
          have HD9 := Lib.hid (show HS w ((w4.setCell ⟨rb, 0, none⟩ (.slice none 0 0)).setCell ⟨rb, 2, none⟩ (.int .i64 0)) tb mb rb limit 0 [] (k + 1) from ⟨T9, ⟨none, 0, ⟨b9, Own.nil _ _ _ _ _⟩⟩, List.Pairwise.nil, Nat.zero_le _, K4.trans' k9 HPB.out.one⟩)
          have Hb9 := Lib.hid (blk_keep b4 k9 (fun e => by have e' : ob = rb := e; omega))
          clear b9 k9 K4 b4 T9 T4 R4 k4
          go_wp2_with fail
          refine (nclear_any _).mono ?_
          rintro _ _ ⟨rfl, rfl⟩
          go_wp2_with fail
          go_meet
          exact ⟨rfl, 0, [], HD9.out, Hb9.out⟩
        · go_wp2_with fail
          go_meet
          exact ⟨rfl, fl, N, HDV.out.later (Nat.le_succ k), HbV.out⟩
      case rest =>
        obtain ⟨rfl, fl', N', D, bx⟩ := hcut
        obtain ⟨a, cap, R⟩ := D.R
        obtain ⟨hv1, hv2⟩ := allows_plan (floor := fl') D.rise s n
        obtain ⟨v, hv⟩ : ∃ v, allowsB fl' (absR N') (kS s) n = v := ⟨_, rfl⟩
        rw [hv] at hv1 hv2
        obtain ⟨M, hM⟩ : ∃ M, N'.map (·.1) = M := ⟨_, rfl⟩
        have hlN : N'.length ≤ 201 := by have := D.len; omega
        have HM := Lib.hid hM
        have Hv := Lib.hid hv
        have Hv1 := Lib.hid hv1
        have Hv2 := Lib.hid hv2
        have HD := Lib.hid D
        have HR := Lib.hid R
        have q1 := blk_cell bx 1
        have q2 := blk_cell bx 2
        have r0 := blk_cell R.blk 0
        have r2 := blk_cell R.blk 2
        simp at q1 q2 r0 r2
        clear hM hv hv1 hv2 D R bx hkd
        as_aux_lemma =>
        go_wp2_with fail
        refine wp_region_pl (fun u => u.cell? ⟨ob, 1, none⟩ = some (.string s) ∧ u.cell? ⟨ob, 2, none⟩ = some (.int .i64 n) ∧ u.cell? ⟨rb, 0, none⟩ = some (.slice a N'.length cap) ∧ u.cell? ⟨rb, 2, none⟩ = some (.int .i64 fl')) [] (.rd 0 (.rd 1 (.rd 2 (.rd 3 (.rd 4 (.rd 6 (.rd 7 (.rd 8 (.rd 9 (.rd 10 (.one 5 (.one 11 (.rd 12 (.rd 13 (.rd 14 (.rd 15 (.rd 16 (.rd 17 (.rd 18 (.one 19 (.rd 20 (.rd 21 (.rd 22 (.rd 23 (.rd 25 (.rd 26 (.rd 27 (.rd 28 (.rd 29 (.one 24 (.rd 30 (.rd 31 (.rd 32 (.rd 33 (.rd 35 (.rd 36 (.rd 37 (.rd 38 (.one 34 (.rd 39 (.rd 40 (.rd 41 (.rd 42 (.rd 43 (.one 44 (.one 45 (.rd 46 (.rd 47 .done)))))))))))))))))))))))))))))))))))))))))))))))) (by kernel_rfl) (by kernel_rfl) (by kernel_rfl) (by kernel_rfl) (by intro c b d v u h; cases d <;> exact h) ?_
        have kd := (Keep.refl NoB wc).drew
        have HS0 := Lib.hid (ks4 ⟨q1, q2, r0, r2⟩ kd)
        have HD0 := Lib.hid (HD.out.keep kd)
        have HR0 := Lib.hid (HR.out.keep0 kd)
        clear q1 q2 r0 r2 kd
        first
          | refine pl_get (i := 0) rfl rfl HS0.out rfl (fun u hu => by (try dsimp only at hu); go_simp; rfl) (by simp only [List.setIfInBounds_toArray, List.set_cons_succ, List.set_cons_zero]; rfl) ?_
          | refine pl_skip (i := 0) rfl rfl HS0.out rfl (by simp only [List.setIfInBounds_toArray, List.set_cons_succ, List.set_cons_zero]; rfl) ?_
        first
          | refine pl_get (i := 1) rfl rfl HS0.out rfl (fun u hu => by (try dsimp only at hu); go_simp; rfl) (by simp only [List.setIfInBounds_toArray, List.set_cons_succ, List.set_cons_zero]; rfl) ?_
          | refine pl_skip (i := 1) rfl rfl HS0.out rfl (by simp only [List.setIfInBounds_toArray, List.set_cons_succ, List.set_cons_zero]; rfl) ?_
        first
          | refine pl_get (i := 2) rfl rfl HS0.out rfl (fun u hu => by (try dsimp only at hu); go_simp; rfl) (by simp only [List.setIfInBounds_toArray, List.set_cons_succ, List.set_cons_zero]; rfl) ?_
          | refine pl_skip (i := 2) rfl rfl HS0.out rfl (by simp only [List.setIfInBounds_toArray, List.set_cons_succ, List.set_cons_zero]; rfl) ?_
        first
          | refine pl_get (i := 3) rfl rfl HS0.out rfl (fun u hu => by (try dsimp only at hu); go_simp; rfl) (by simp only [List.setIfInBounds_toArray, List.set_cons_succ, List.set_cons_zero]; rfl) ?_
          | refine pl_skip (i := 3) rfl rfl HS0.out rfl (by simp only [List.setIfInBounds_toArray, List.set_cons_succ, List.set_cons_zero]; rfl) ?_
        first
          | refine pl_get (i := 4) rfl rfl HS0.out rfl (fun u hu => by (try dsimp only at hu); go_simp; rfl) (by simp only [List.setIfInBounds_toArray, List.set_cons_succ, List.set_cons_zero]; rfl) ?_
          | refine pl_skip (i := 4) rfl rfl HS0.out rfl (by simp only [List.setIfInBounds_toArray, List.set_cons_succ, List.set_cons_zero]; rfl) ?_
        first
          | refine pl_get (i := 6) rfl rfl HS0.out rfl (fun u hu => by (try dsimp only at hu); go_simp; rfl) (by simp only [List.setIfInBounds_toArray, List.set_cons_succ, List.set_cons_zero]; rfl) ?_
          | refine pl_skip (i := 6) rfl rfl HS0.out rfl (by simp only [List.setIfInBounds_toArray, List.set_cons_succ, List.set_cons_zero]; rfl) ?_
        first
          | refine pl_get (i := 7) rfl rfl HS0.out rfl (fun u hu => by (try dsimp only at hu); go_simp; rfl) (by simp only [List.setIfInBounds_toArray, List.set_cons_succ, List.set_cons_zero]; rfl) ?_
          | refine pl_skip (i := 7) rfl rfl HS0.out rfl (by simp only [List.setIfInBounds_toArray, List.set_cons_succ, List.set_cons_zero]; rfl) ?_
        first
          | refine pl_get (i := 8) rfl rfl HS0.out rfl (fun u hu => by (try dsimp only at hu); go_simp; rfl) (by simp only [List.setIfInBounds_toArray, List.set_cons_succ, List.set_cons_zero]; rfl) ?_
          | refine pl_skip (i := 8) rfl rfl HS0.out rfl (by simp only [List.setIfInBounds_toArray, List.set_cons_succ, List.set_cons_zero]; rfl) ?_
        first
          | refine pl_get (i := 9) rfl rfl HS0.out rfl (fun u hu => by (try dsimp only at hu); go_simp; rfl) (by simp only [List.setIfInBounds_toArray, List.set_cons_succ, List.set_cons_zero]; rfl) ?_
          | refine pl_skip (i := 9) rfl rfl HS0.out rfl (by simp only [List.setIfInBounds_toArray, List.set_cons_succ, List.set_cons_zero]; rfl) ?_
        first
          | refine pl_get (i := 10) rfl rfl HS0.out rfl (fun u hu => by (try dsimp only at hu); go_simp; rfl) (by simp only [List.setIfInBounds_toArray, List.set_cons_succ, List.set_cons_zero]; rfl) ?_
          | refine pl_skip (i := 10) rfl rfl HS0.out rfl (by simp only [List.setIfInBounds_toArray, List.set_cons_succ, List.set_cons_zero]; rfl) ?_
        refine pl_one (i := 5) rfl ?_
        go_wp2_with ((go_at_call 13; refine (allows_any tb mb limit fl' _ s n _ HD0.out.T hs _ Hv.out).mono ?_; rintro _ wz ⟨rfl, rfl⟩))
        refine pl_next (fun _ => HS0.out) ?_
        refine pl_one (i := 11) rfl ?_
        go_wp2_with ((go_at_call 19; refine (rallows_any rb rb a cap limit fl' N' s n _ HR0.out (by omega) _ Hv1.out Hv2.out).mono ?_; rintro _ wz ⟨rfl, rfl⟩))
        refine pl_next (fun _ => HS0.out) ?_
        first
          | refine pl_get (i := 12) rfl rfl HS0.out rfl (fun u hu => by (try dsimp only at hu); go_simp; rfl) (by simp only [List.setIfInBounds_toArray, List.set_cons_succ, List.set_cons_zero]; rfl) ?_
          | refine pl_skip (i := 12) rfl rfl HS0.out rfl (by simp only [List.setIfInBounds_toArray, List.set_cons_succ, List.set_cons_zero]; rfl) ?_
        first
          | refine pl_get (i := 13) rfl rfl HS0.out rfl (fun u hu => by (try dsimp only at hu); go_simp; rfl) (by simp only [List.setIfInBounds_toArray, List.set_cons_succ, List.set_cons_zero]; rfl) ?_
          | refine pl_skip (i := 13) rfl rfl HS0.out rfl (by simp only [List.setIfInBounds_toArray, List.set_cons_succ, List.set_cons_zero]; rfl) ?_
        first
          | refine pl_get (i := 14) rfl rfl HS0.out rfl (fun u hu => by (try dsimp only at hu); go_simp; rfl) (by simp only [List.setIfInBounds_toArray, List.set_cons_succ, List.set_cons_zero]; rfl) ?_
          | refine pl_skip (i := 14) rfl rfl HS0.out rfl (by simp only [List.setIfInBounds_toArray, List.set_cons_succ, List.set_cons_zero]; rfl) ?_
        first
          | refine pl_get (i := 15) rfl rfl HS0.out rfl (fun u hu => by (try dsimp only at hu); go_simp; rfl) (by simp only [List.setIfInBounds_toArray, List.set_cons_succ, List.set_cons_zero]; rfl) ?_
          | refine pl_skip (i := 15) rfl rfl HS0.out rfl (by simp only [List.setIfInBounds_toArray, List.set_cons_succ, List.set_cons_zero]; rfl) ?_
        first
          | refine pl_get (i := 16) rfl rfl HS0.out rfl (fun u hu => by (try dsimp only at hu); go_simp; rfl) (by simp only [List.setIfInBounds_toArray, List.set_cons_succ, List.set_cons_zero]; rfl) ?_
          | refine pl_skip (i := 16) rfl rfl HS0.out rfl (by simp only [List.setIfInBounds_toArray, List.set_cons_succ, List.set_cons_zero]; rfl) ?_
        first
          | refine pl_get (i := 17) rfl rfl HS0.out rfl (fun u hu => by (try dsimp only at hu); go_simp; rfl) (by simp only [List.setIfInBounds_toArray, List.set_cons_succ, List.set_cons_zero]; rfl) ?_
          | refine pl_skip (i := 17) rfl rfl HS0.out rfl (by simp only [List.setIfInBounds_toArray, List.set_cons_succ, List.set_cons_zero]; rfl) ?_
        first
          | refine pl_get (i := 18) rfl rfl HS0.out rfl (fun u hu => by (try dsimp only at hu); go_simp; rfl) (by simp only [List.setIfInBounds_toArray, List.set_cons_succ, List.set_cons_zero]; rfl) ?_
          | refine pl_skip (i := 18) rfl rfl HS0.out rfl (by simp only [List.setIfInBounds_toArray, List.set_cons_succ, List.set_cons_zero]; rfl) ?_
        refine pl_one (i := 19) rfl ?_
        go_wp2_with ((go_at_call 13; refine (nallows_any s n _).mono ?_; rintro _ wz ⟨rfl, rfl⟩))
        refine pl_next (fun _ => HS0.out) ?_
        first
          | refine pl_get (i := 20) rfl rfl HS0.out rfl (fun u hu => by (try dsimp only at hu); go_simp; rfl) (by simp only [List.setIfInBounds_toArray, List.set_cons_succ, List.set_cons_zero]; rfl) ?_
          | refine pl_skip (i := 20) rfl rfl HS0.out rfl (by simp only [List.setIfInBounds_toArray, List.set_cons_succ, List.set_cons_zero]; rfl) ?_
        first
          | refine pl_get (i := 21) rfl rfl HS0.out rfl (fun u hu => by (try dsimp only at hu); go_simp; rfl) (by simp only [List.setIfInBounds_toArray, List.set_cons_succ, List.set_cons_zero]; rfl) ?_
          | refine pl_skip (i := 21) rfl rfl HS0.out rfl (by simp only [List.setIfInBounds_toArray, List.set_cons_succ, List.set_cons_zero]; rfl) ?_
        first
          | refine pl_get (i := 22) rfl rfl HS0.out rfl (fun u hu => by (try dsimp only at hu); go_simp; rfl) (by simp only [List.setIfInBounds_toArray, List.set_cons_succ, List.set_cons_zero]; rfl) ?_
          | refine pl_skip (i := 22) rfl rfl HS0.out rfl (by simp only [List.setIfInBounds_toArray, List.set_cons_succ, List.set_cons_zero]; rfl) ?_
        first
          | refine pl_get (i := 23) rfl rfl HS0.out rfl (fun u hu => by (try dsimp only at hu); go_simp; rfl) (by simp only [List.setIfInBounds_toArray, List.set_cons_succ, List.set_cons_zero]; rfl) ?_
          | refine pl_skip (i := 23) rfl rfl HS0.out rfl (by simp only [List.setIfInBounds_toArray, List.set_cons_succ, List.set_cons_zero]; rfl) ?_
        first
          | refine pl_get (i := 25) rfl rfl HS0.out rfl (fun u hu => by (try dsimp only at hu); go_simp; rfl) (by simp only [List.setIfInBounds_toArray, List.set_cons_succ, List.set_cons_zero]; rfl) ?_
          | refine pl_skip (i := 25) rfl rfl HS0.out rfl (by simp only [List.setIfInBounds_toArray, List.set_cons_succ, List.set_cons_zero]; rfl) ?_
        first
          | refine pl_get (i := 26) rfl rfl HS0.out rfl (fun u hu => by (try dsimp only at hu); go_simp; rfl) (by simp only [List.setIfInBounds_toArray, List.set_cons_succ, List.set_cons_zero]; rfl) ?_
          | refine pl_skip (i := 26) rfl rfl HS0.out rfl (by simp only [List.setIfInBounds_toArray, List.set_cons_succ, List.set_cons_zero]; rfl) ?_
        first
          | refine pl_get (i := 27) rfl rfl HS0.out rfl (fun u hu => by (try dsimp only at hu); go_simp; rfl) (by simp only [List.setIfInBounds_toArray, List.set_cons_succ, List.set_cons_zero]; rfl) ?_
          | refine pl_skip (i := 27) rfl rfl HS0.out rfl (by simp only [List.setIfInBounds_toArray, List.set_cons_succ, List.set_cons_zero]; rfl) ?_
        first
          | refine pl_get (i := 28) rfl rfl HS0.out rfl (fun u hu => by (try dsimp only at hu); go_simp; rfl) (by simp only [List.setIfInBounds_toArray, List.set_cons_succ, List.set_cons_zero]; rfl) ?_
          | refine pl_skip (i := 28) rfl rfl HS0.out rfl (by simp only [List.setIfInBounds_toArray, List.set_cons_succ, List.set_cons_zero]; rfl) ?_
        first
          | refine pl_get (i := 29) rfl rfl HS0.out rfl (fun u hu => by (try dsimp only at hu); go_simp; rfl) (by simp only [List.setIfInBounds_toArray, List.set_cons_succ, List.set_cons_zero]; rfl) ?_
          | refine pl_skip (i := 29) rfl rfl HS0.out rfl (by simp only [List.setIfInBounds_toArray, List.set_cons_succ, List.set_cons_zero]; rfl) ?_
        refine pl_one (i := 24) rfl ?_
        go_wp2_with ((go_at_call 15; refine (len_any tb mb limit fl' _ _ HD0.out.T).mono ?_; rintro _ wz ⟨rfl, rfl⟩))
        rw [absR_len]
        refine pl_next (fun _ => HS0.out) ?_
        first
          | refine pl_get (i := 30) rfl rfl HS0.out rfl (fun u hu => by (try dsimp only at hu); go_simp; rfl) (by simp only [List.setIfInBounds_toArray, List.set_cons_succ, List.set_cons_zero]; rfl) ?_
          | refine pl_skip (i := 30) rfl rfl HS0.out rfl (by simp only [List.setIfInBounds_toArray, List.set_cons_succ, List.set_cons_zero]; rfl) ?_
        first
          | refine pl_get (i := 31) rfl rfl HS0.out rfl (fun u hu => by (try dsimp only at hu); go_simp; rfl) (by simp only [List.setIfInBounds_toArray, List.set_cons_succ, List.set_cons_zero]; rfl) ?_
          | refine pl_skip (i := 31) rfl rfl HS0.out rfl (by simp only [List.setIfInBounds_toArray, List.set_cons_succ, List.set_cons_zero]; rfl) ?_
        first
          | refine pl_get (i := 32) rfl rfl HS0.out rfl (fun u hu => by (try dsimp only at hu); go_simp; rfl) (by simp only [List.setIfInBounds_toArray, List.set_cons_succ, List.set_cons_zero]; rfl) ?_
          | refine pl_skip (i := 32) rfl rfl HS0.out rfl (by simp only [List.setIfInBounds_toArray, List.set_cons_succ, List.set_cons_zero]; rfl) ?_
        first
          | refine pl_get (i := 33) rfl rfl HS0.out rfl (fun u hu => by (try dsimp only at hu); go_simp; rfl) (by simp only [List.setIfInBounds_toArray, List.set_cons_succ, List.set_cons_zero]; rfl) ?_
          | refine pl_skip (i := 33) rfl rfl HS0.out rfl (by simp only [List.setIfInBounds_toArray, List.set_cons_succ, List.set_cons_zero]; rfl) ?_
        first
          | refine pl_get (i := 35) rfl rfl HS0.out rfl (fun u hu => by (try dsimp only at hu); go_simp; rfl) (by simp only [List.setIfInBounds_toArray, List.set_cons_succ, List.set_cons_zero]; rfl) ?_
          | refine pl_skip (i := 35) rfl rfl HS0.out rfl (by simp only [List.setIfInBounds_toArray, List.set_cons_succ, List.set_cons_zero]; rfl) ?_
        first
          | refine pl_get (i := 36) rfl rfl HS0.out rfl (fun u hu => by (try dsimp only at hu); go_simp; rfl) (by simp only [List.setIfInBounds_toArray, List.set_cons_succ, List.set_cons_zero]; rfl) ?_
          | refine pl_skip (i := 36) rfl rfl HS0.out rfl (by simp only [List.setIfInBounds_toArray, List.set_cons_succ, List.set_cons_zero]; rfl) ?_
        first
          | refine pl_get (i := 37) rfl rfl HS0.out rfl (fun u hu => by (try dsimp only at hu); go_simp; rfl) (by simp only [List.setIfInBounds_toArray, List.set_cons_succ, List.set_cons_zero]; rfl) ?_
          | refine pl_skip (i := 37) rfl rfl HS0.out rfl (by simp only [List.setIfInBounds_toArray, List.set_cons_succ, List.set_cons_zero]; rfl) ?_
        first
          | refine pl_get (i := 38) rfl rfl HS0.out rfl (fun u hu => by (try dsimp only at hu); go_simp; rfl) (by simp only [List.setIfInBounds_toArray, List.set_cons_succ, List.set_cons_zero]; rfl) ?_
          | refine pl_skip (i := 38) rfl rfl HS0.out rfl (by simp only [List.setIfInBounds_toArray, List.set_cons_succ, List.set_cons_zero]; rfl) ?_
        refine pl_one (i := 34) rfl ?_
        go_wp2_with ((go_at_call 14; refine (floor_any tb mb limit fl' _ _ HD0.out.T).mono ?_; rintro _ wz ⟨rfl, rfl⟩))
        refine pl_next (fun _ => HS0.out) ?_
        first
          | refine pl_get (i := 39) rfl rfl HS0.out rfl (fun u hu => by (try dsimp only at hu); go_simp; rfl) (by simp only [List.setIfInBounds_toArray, List.set_cons_succ, List.set_cons_zero]; rfl) ?_
          | refine pl_skip (i := 39) rfl rfl HS0.out rfl (by simp only [List.setIfInBounds_toArray, List.set_cons_succ, List.set_cons_zero]; rfl) ?_
        first
          | refine pl_get (i := 40) rfl rfl HS0.out rfl (fun u hu => by (try dsimp only at hu); go_simp; rfl) (by simp only [List.setIfInBounds_toArray, List.set_cons_succ, List.set_cons_zero]; rfl) ?_
          | refine pl_skip (i := 40) rfl rfl HS0.out rfl (by simp only [List.setIfInBounds_toArray, List.set_cons_succ, List.set_cons_zero]; rfl) ?_
        first
          | refine pl_get (i := 41) rfl rfl HS0.out rfl (fun u hu => by (try dsimp only at hu); go_simp; rfl) (by simp only [List.setIfInBounds_toArray, List.set_cons_succ, List.set_cons_zero]; rfl) ?_
          | refine pl_skip (i := 41) rfl rfl HS0.out rfl (by simp only [List.setIfInBounds_toArray, List.set_cons_succ, List.set_cons_zero]; rfl) ?_
        first
          | refine pl_get (i := 42) rfl rfl HS0.out rfl (fun u hu => by (try dsimp only at hu); go_simp; rfl) (by simp only [List.setIfInBounds_toArray, List.set_cons_succ, List.set_cons_zero]; rfl) ?_
          | refine pl_skip (i := 42) rfl rfl HS0.out rfl (by simp only [List.setIfInBounds_toArray, List.set_cons_succ, List.set_cons_zero]; rfl) ?_
        first
          | refine pl_get (i := 43) rfl rfl HS0.out rfl (fun u hu => by (try dsimp only at hu); go_simp; rfl) (by simp only [List.setIfInBounds_toArray, List.set_cons_succ, List.set_cons_zero]; rfl) ?_
          | refine pl_skip (i := 43) rfl rfl HS0.out rfl (by simp only [List.setIfInBounds_toArray, List.set_cons_succ, List.set_cons_zero]; rfl) ?_
        refine pl_one (i := 44) rfl ?_
        go_wp2_with ((go_at_call 16; refine (keys_any tb mb limit fl' _ _ HD0.out.T (by rw [absR_len]; omega) M (by rw [keysOf_absR, HM.out])).mono ?_; rintro _ w3 ⟨a3, c3, rfl, O3, k3⟩))
        have HS3 := Lib.hid (ks4 HS0.out k3)
        refine pl_next (fun _ => HS3.out) ?_
        refine pl_one (i := 45) rfl ?_
        go_wp2_with ((go_at_call 20; refine (rsame_any rb rb _ a cap limit fl' N' M HM.out a3 c3 _ (HR0.out.keep0 k3) O3 (by omega)).mono ?_; rintro _ w4 ⟨rfl, k4⟩))
        have HS4 := Lib.hid (ks4 HS3.out k4)
        have HD4 := Lib.hid (HD0.out.keep (k3.trans k4))
        refine pl_next (fun _ => HS4.out) ?_
        first
          | refine pl_get (i := 46) rfl rfl HS4.out rfl (fun u hu => by (try dsimp only at hu); go_simp; rfl) (by simp only [List.setIfInBounds_toArray, List.set_cons_succ, List.set_cons_zero]; rfl) ?_
          | refine pl_skip (i := 46) rfl rfl HS4.out rfl (by simp only [List.setIfInBounds_toArray, List.set_cons_succ, List.set_cons_zero]; rfl) ?_
        first
          | refine pl_get (i := 47) rfl rfl HS4.out rfl (fun u hu => by (try dsimp only at hu); go_simp; rfl) (by simp only [List.setIfInBounds_toArray, List.set_cons_succ, List.set_cons_zero]; rfl) ?_
          | refine pl_skip (i := 47) rfl rfl HS4.out rfl (by simp only [List.setIfInBounds_toArray, List.set_cons_succ, List.set_cons_zero]; rfl) ?_
        refine pl_done ?_
        go_wp2_with fail
        go_roundw
        case rel => exact ⟨k + 1, fl', N', hlt, h200, by go_num, HD4.out⟩
        case measure => simp [intOf]; omega
    · have hout : (¬ k < len0 ∧ decide ((k : Int) < (len0 : Int)) = false) ∨ (k < len0 ∧ ¬ k < 200 ∧ decide ((k : Int) < 200) = false) := by
        by_cases h1 : k < len0
        · right
          have : ¬ k < 200 := fun h => hgo ⟨h1, h⟩
          exact ⟨h1, this, by simp; omega⟩
        · left
          exact ⟨h1, by simp; omega⟩
      have Hk := D.hk
      clear hgo D
      rcases hout with ⟨h1, hd⟩ | ⟨h1, h2, hd⟩
      all_goals
        go_wp2_with fail
        refine (nlen_any _).mono ?_
        rintro _ _ ⟨rfl, rfl⟩
        go_wp2_with fail
        refine (nfloor_any _).mono ?_
        rintro _ _ ⟨rfl, rfl⟩
        go_wp2_with fail
        refine (nkeys_any _).mono ?_
        rintro _ _ ⟨rfl, rfl⟩
        go_wp2
        go_ret
        exact ⟨rfl, Hk.below (fun _ _ h => h)⟩
end Go.Proofs.Ytcgjkmodbghdoaa
