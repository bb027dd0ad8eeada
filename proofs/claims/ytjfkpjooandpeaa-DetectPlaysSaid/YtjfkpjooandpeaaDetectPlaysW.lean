/- The walk of DetectPlays. -/
import Derived.Test.YtjfkpjooandpeaaDetectPlaysQ
import Derived.Test.YtjfkpjooandpeaaLibReg2
namespace Go.Proofs.Ytjfkpjooandpeaa
open Go Go.RowKit Go.Maps Go.Sort





set_option maxRecDepth 100000 in
set_option maxHeartbeats 40000000 in
theorem plays_walk (patience : Int) (hpw : patience ≤ 9223372036854775807) (a1 : Option Addr) (len1 cap1 : Nat) (z1 : Nat → ByteArray) (a2 : Option Addr) (len2 cap2 : Nat) (z2 : Nat → DOp) (w : World) (h1 : IsStr w a1 len1 z1) (h2 : IsDOp w a2 len2 z2) :
    Calls Try.prog 4 #[.int .i64 patience, .slice a1 len1 cap1, .slice a2 len2 cap2] w fun e w' => e = .returned (.bool true) ∧ Below w.heap.size w w' := by
  have hmax1 : len1 ≤ maxLen := h1.1
  have hmax2 : len2 ≤ maxLen := h2.1
  unfold maxLen at hmax1 hmax2
  have H1 := Lib.hid h1
  have H2 := Lib.hid h2
  clear h1 h2
  obtain ⟨p, hp⟩ : ∃ p : Int, max patience 1 = p := ⟨_, rfl⟩
  have hp1 : 1 ≤ p ∧ p ≤ 9223372036854775807 := by omega
  have Hp := Lib.hid hp
  have Hp1 := Lib.hid hp1
  clear hp hp1
  go_enter Try.func4, Try.ntmps4
  go_wp2_with fail
  refine (awake_any _).mono ?_
  rintro _ w1 ⟨rfl, k1⟩
  by_cases h50 : len1 ≤ 200
  case neg =>
    have hd : decide ((200 : Int) < (len1 : Int)) = true := by simp; omega
    go_wp2
    go_ret
    exact ⟨rfl, k1.below (fun _ _ h => h)⟩
  case pos =>
  have hd : decide ((200 : Int) < (len1 : Int)) = false := by simp; omega
  go_wp2_with fail
  refine (new_any patience p a1 len1 cap1 z1 _ (H1.out.keep k1) (by omega) Hp.out).mono ?_
  rintro _ w2 ⟨rfl, T0, k2, hl0⟩
  go_wp2_with fail
  refine (rnew_any patience p a1 len1 cap1 z1 _ (H1.out.keep (k1.trans k2)) (by omega) Hp.out).mono ?_
  rintro _ w3 ⟨rfl, ⟨N0, R0⟩, k3⟩
  have hbT := blk_lt T0.blk
  have hbM := T0.map.lt
  have T0' := T0.keep k3 (fun h => h) (fun h => h)
  have D0 : PS w w3 (w1.heap.size + 1) w1.heap.size w2.heap.size w2.heap.size p 0 0 N0 0 := by
    obtain ⟨⟨a, cap, R, _⟩, hm, hr, hz, hl⟩ := R0
    refine ⟨?_, ⟨a, cap, R⟩, hr, ?_, by omega, by omega, by omega, by omega, by omega, k3.size, (k1.trans k2).trans k3⟩
    · rw [← abs_start Hp1.out.1 hz, ← hm]
      exact T0'
    · intro x hx
      rw [hz x hx]
      exact ⟨Int.le_refl _, Int.le_refl _⟩
  have hPB : PB w (w1.heap.size + 1) w1.heap.size w2.heap.size w2.heap.size := ⟨Nat.le_succ_of_le k1.size, k1.size, hbT, hbM, Nat.le_refl _⟩
  clear T0 T0' R0 hl0 k3 k2 k1 hbT hbM
  generalize w1.heap.size + 1 = tb at D0 hPB ⊢
  generalize w1.heap.size = mb at D0 hPB ⊢
  generalize w2.heap.size = rb at D0 hPB ⊢
  have hfx := Lib.hid (show ∀ i, i < w.heap.size → TwoB tb mb i → NoB i from fun i hi e => by have := hPB.lo1; have := hPB.lo2; rcases e with e | e <;> omega)
  have hfr := Lib.hid (show ∀ i, i < w.heap.size → OneB rb i → NoB i from fun i hi e => by have := hPB.lo1; have := hPB.hi1; have e' : i = rb := e; omega)
  obtain ⟨hp1, hp2⟩ := hPB.hi1, hPB.hi2
  have hne1 : tb ≠ rb := by have := hPB.hi1; omega
  have hne2 : mb ≠ rb := by have := hPB.hi2; omega
  have HPB := Lib.hid hPB
  clear hPB
  go_wp2_with fail
  go_loopw [10] (fun i wr => ∃ (k : Nat) (now ch : Int) (N : List RN), k ≤ len2 ∧ k ≤ 200 ∧ i = .int .i64 k ∧ PS w wr tb mb rb rb p now ch N k) (fun i _ => len2 - (intOf i).toNat)
  case atStart => exact ⟨0, 0, 0, N0, Nat.zero_le _, Nat.zero_le _, rfl, D0⟩
  case round =>
    clear D0
    obtain ⟨k, now, ch, N, hk, hk200, rfl, D⟩ := hrel
    by_cases hgo : k < len2 ∧ k < 200
    · obtain ⟨hlt, h200⟩ := hgo
      have h200i : decide ((k : Int) < 200) = true := by simp; omega
      obtain ⟨_, hzs, hrow⟩ := H2.out
      rcases hrow with h | ⟨b, off, rfl, hb, hc⟩
      · omega
      obtain ⟨hc0, hc1⟩ := hc k hlt
      have hs := hzs k hlt
      clear hc hzs
      generalize z2 k = x at hc0 hc1 hs
      obtain ⟨kd, s⟩ := x
      simp only at hc0 hc1 hs
      have l0 := D.hk.some hc0 (fun h => h)
      have l1 := D.hk.some hc1 (fun h => h)
      have hbw := Nat.lt_of_lt_of_le hb D.hk.size
      have hob : rb < wr.heap.size := by obtain ⟨a, cap, R⟩ := D.R; exact blk_lt R.blk
      clear hc0 hc1
      have HD0 := Lib.hid D
      clear D
      by_cases hkd : kd = 0
      · subst hkd
        go_wp2_with fail
        have kV : Keep NoB wr (wr.alloc (.cells #[.int .i64 0, .string s] 34)) := (Keep.refl NoB wr).alloc _
        have bV := blk_new wr (.cells #[.int .i64 0, .string s] 34)
        have DV := HD0.out.keep kV
        generalize World.alloc wr (.cells #[.int .i64 0, .string s] 34) = V at kV bV DV ⊢
        generalize wr.heap.size = ob at bV hob ⊢
        have hN := DV.len
        have hc0 := DV.ch0
        have hc1 := DV.ch1
        have hn0 := DV.now0
        have hn1 := DV.now1
        have hBV := DV.hB
        have HDV := Lib.hid DV
        have HbV := Lib.hid bV
        clear kV HD0 l0 l1 hbw DV bV
        obtain ⟨M, hM⟩ : ∃ M, rdies p now N = M := ⟨_, rfl⟩
        have hMl : M.length ≤ 200 := by have := rdies_len p now N; rw [hM] at this; omega
        have HM := Lib.hid hM
        clear hM
        refine (tick_ps HDV.out HPB.out Hp1.out hk200 M HM.out).mono ?_
        rintro _ w4 ⟨a4, c4, rfl, O4, T4, ⟨a, cap, R4⟩, k4⟩
        have K4 : Keep NoB w w4 := HDV.out.hk.trans' k4 hfx.out
        have b4 := blk_keep HbV.out k4 (fun e => by rcases e with e | e <;> omega)
        have s4 := k4.size
        have HT4 := Lib.hid T4
        have HR4 := Lib.hid R4
        have Hb4 := Lib.hid b4
        clear T4 R4 k4 b4
        go_wp2_with fail
        refine (rtick_any rb rb a cap p now ch N _ HR4.out (Nat.le_refl _) (by omega) (by omega) HDV.out.rv (by omega) (by omega) M HM.out).mono ?_
        rintro _ w5 ⟨⟨a5, c5, rfl, O5⟩, R5, k5⟩
        have K5 : Keep NoB w w5 := K4.trans' k5 hfr.out
        have T5 := HT4.out.keep k5 hne1 hne2
        have O4' := O4.keep k5 (fun g hg e => O4.ne HR4.out.blk (by decide) g hg e)
        have b5 := blk_keep Hb4.out k5 (fun e => by have e' : ob = rb := e; omega)
        have s5 := k5.size
        have HT5 := Lib.hid T5
        have HR5 := Lib.hid R5
        have Hb5 := Lib.hid b5
        clear T5 R5 k5 b5 K4 Hb4 HT4 HR4 O4
        go_wp2_with fail
        refine (same_any _ _ a4 a5 c4 c5 M _ O4' O5 (by omega)).mono ?_
        rintro _ w6 ⟨rfl, k6⟩
        obtain ⟨nw, hnw⟩ : ∃ n, now + 1 = n := ⟨_, rfl⟩
        obtain ⟨cz, hcz⟩ : ∃ n, ch + (M.length : Int) = n := ⟨_, rfl⟩
        have DZ : PS w w6 tb mb rb rb p nw cz N (k + 1) := by
          obtain ⟨a7, c7, R7⟩ := HR5.out
          rw [← hnw, ← hcz]
          exact ⟨HT5.out.keep k6 (fun h => h) (fun h => h), ⟨a7, c7, R7.keep0 k6⟩, HDV.out.rise, rv_tick HDV.out.rv, hN, by omega, by omega, by omega, by omega, by have := k6.size; omega, K5.trans k6⟩
        have bz := blk_keep Hb5.out k6 (fun h => h)
        clear hnw hcz k6 O4' O5 HT5 HR5 Hb5 K5 HDV HbV
        go_wp2_with fail
        refine (ntick_any _).mono ?_
        rintro _ w6 ⟨rfl, rfl⟩
        generalize N = NZ at DZ
        generalize w6 = wz0 at DZ bz ⊢
        obtain ⟨va, hva, hcase⟩ := alive_case (p := p) (now := nw) DZ.rise s
        obtain ⟨V, hV⟩ : ∃ V, rlive p nw NZ = V := ⟨_, rfl⟩
        obtain ⟨f, hf⟩ : ∃ f, rfind NZ s 0 = f := ⟨_, rfl⟩
        obtain ⟨a, cap, RZ⟩ := DZ.R
        have hVl : V.length ≤ 200 := by have := rlive_len p nw NZ; have := DZ.len; rw [← hV]; omega
        rw [hf] at hcase
        have Hva := Lib.hid hva
        have HV := Lib.hid hV
        have Hf := Lib.hid hf
        have HD := Lib.hid DZ
        have HR := Lib.hid RZ
        have q1 := blk_cell bz 1
        have ql := blk_lt bz
        have hlen := DZ.len
        have hnw := DZ.now0
        have hnw1 := DZ.now1
        simp at q1
        clear hva hV hf DZ RZ bz
        rcases hcase with ⟨rfl, rfl⟩ | ⟨i, x, rfl, hx, hl⟩
        · as_aux_lemma =>
          go_wp2_with fail
          refine (find_any rb rb a cap p nw cz NZ s _ HR.out (by omega) _ Hf.out).mono ?_
          rintro _ wz ⟨rfl, rfl⟩
          go_wp2_with fail
          have r2 := blk_cell HR.out.blk 2
          have r3 := blk_cell HR.out.blk 3
          simp at r2 r3
          refine wp_region_pl (fun u => u.cell? ⟨ob, 1, none⟩ = some (.string s) ∧ u.cell? ⟨rb, 2, none⟩ = some (.int .i64 nw) ∧ u.cell? ⟨rb, 3, none⟩ = some (.int .i64 cz)) [] (.rd 0 (.rd 2 (.one 1 (.one 3 (.one 4 (.rd 5 (.rd 6 (.rd 7 (.rd 8 (.rd 9 (.rd 11 (.rd 12 (.one 10 (.rd 13 (.rd 14 (.rd 15 (.rd 16 (.rd 17 (.rd 18 (.rd 19 (.one 20 (.rd 21 (.rd 22 (.rd 23 (.rd 24 (.rd 25 (.rd 27 (.rd 28 (.rd 29 (.rd 30 (.one 26 (.rd 31 (.rd 32 .done))))))))))))))))))))))))))))))))) (by kernel_rfl) (by kernel_rfl) (by kernel_rfl) (by kernel_rfl) (by intro c b d v u h; cases d <;> exact h) ?_
          have kd := (Keep.refl NoB wz).drew
          have HS := Lib.hid (show wz.drew.cell? ⟨ob, 1, none⟩ = some (.string s) ∧ wz.drew.cell? ⟨rb, 2, none⟩ = some (.int .i64 nw) ∧ wz.drew.cell? ⟨rb, 3, none⟩ = some (.int .i64 cz) from ⟨q1, r2, r3⟩)
          clear q1 r2 r3 ql
          first
            | refine pl_get (i := 0) rfl rfl HS.out rfl (fun u hu => by (try dsimp only at hu); go_simp; rfl) (by simp only [List.setIfInBounds_toArray, List.set_cons_succ, List.set_cons_zero]; rfl) ?_
            | refine pl_skip (i := 0) rfl rfl HS.out rfl (by simp only [List.setIfInBounds_toArray, List.set_cons_succ, List.set_cons_zero]; rfl) ?_
          first
            | refine pl_get (i := 2) rfl rfl HS.out rfl (fun u hu => by (try dsimp only at hu); go_simp; rfl) (by simp only [List.setIfInBounds_toArray, List.set_cons_succ, List.set_cons_zero]; rfl) ?_
            | refine pl_skip (i := 2) rfl rfl HS.out rfl (by simp only [List.setIfInBounds_toArray, List.set_cons_succ, List.set_cons_zero]; rfl) ?_
          refine pl_one (i := 1) rfl ?_
          go_wp2_with ((go_at_call 17; refine (live_any tb mb p cz (absL p nw NZ) _ (HD.out.T.keep kd (fun h => h) (fun h => h)) (by rw [absL_length]; omega) V (by rw [abs_live, HV.out])).mono ?_; rintro _ w3 ⟨a3, c3, rfl, O3, k3⟩))
          have K3 := kd.trans k3
          have HS3 := Lib.hid (show w3.cell? ⟨ob, 1, none⟩ = some (.string s) ∧ w3.cell? ⟨rb, 2, none⟩ = some (.int .i64 nw) ∧ w3.cell? ⟨rb, 3, none⟩ = some (.int .i64 cz) from ⟨k3.some HS.out.1 (fun h => h), k3.some HS.out.2.1 (fun h => h), k3.some HS.out.2.2 (fun h => h)⟩)
          refine pl_next (fun _ => HS3.out) ?_
          clear kd k3
          refine pl_one (i := 3) rfl ?_
          go_wp2_with ((go_at_call 18; refine (rlive_any rb rb a cap p nw cz NZ _ (HR.out.keep0 K3) (by omega) HD.out.rv (by omega) V HV.out).mono ?_; rintro _ w4 ⟨⟨a4, c4, rfl, O4⟩, k4⟩))
          have K4 := K3.trans k4
          have O3' := O3.keep k4 (fun _ _ h => h)
          have HS4 := Lib.hid (show w4.cell? ⟨ob, 1, none⟩ = some (.string s) ∧ w4.cell? ⟨rb, 2, none⟩ = some (.int .i64 nw) ∧ w4.cell? ⟨rb, 3, none⟩ = some (.int .i64 cz) from ⟨k4.some HS3.out.1 (fun h => h), k4.some HS3.out.2.1 (fun h => h), k4.some HS3.out.2.2 (fun h => h)⟩)
          refine pl_next (fun _ => HS4.out) ?_
          clear K3 k4 O3 HS3 HS
          refine pl_one (i := 4) rfl ?_
          go_wp2_with ((go_at_call 13; refine (same_any _ _ a3 a4 c3 c4 V _ O3' O4 (by omega)).mono ?_; rintro _ w5 ⟨rfl, k5⟩))
          have K5 := K4.trans k5
          have HS5 := Lib.hid (show w5.cell? ⟨ob, 1, none⟩ = some (.string s) ∧ w5.cell? ⟨rb, 2, none⟩ = some (.int .i64 nw) ∧ w5.cell? ⟨rb, 3, none⟩ = some (.int .i64 cz) from ⟨k5.some HS4.out.1 (fun h => h), k5.some HS4.out.2.1 (fun h => h), k5.some HS4.out.2.2 (fun h => h)⟩)
          refine pl_next (fun _ => HS5.out) ?_
          clear K4 k5 O3' O4 HS4
          first
            | refine pl_get (i := 5) rfl rfl HS5.out rfl (fun u hu => by (try dsimp only at hu); go_simp; rfl) (by simp only [List.setIfInBounds_toArray, List.set_cons_succ, List.set_cons_zero]; rfl) ?_
            | refine pl_skip (i := 5) rfl rfl HS5.out rfl (by simp only [List.setIfInBounds_toArray, List.set_cons_succ, List.set_cons_zero]; rfl) ?_
          first
            | refine pl_get (i := 6) rfl rfl HS5.out rfl (fun u hu => by (try dsimp only at hu); go_simp; rfl) (by simp only [List.setIfInBounds_toArray, List.set_cons_succ, List.set_cons_zero]; rfl) ?_
            | refine pl_skip (i := 6) rfl rfl HS5.out rfl (by simp only [List.setIfInBounds_toArray, List.set_cons_succ, List.set_cons_zero]; rfl) ?_
          first
            | refine pl_get (i := 7) rfl rfl HS5.out rfl (fun u hu => by (try dsimp only at hu); go_simp; rfl) (by simp only [List.setIfInBounds_toArray, List.set_cons_succ, List.set_cons_zero]; rfl) ?_
            | refine pl_skip (i := 7) rfl rfl HS5.out rfl (by simp only [List.setIfInBounds_toArray, List.set_cons_succ, List.set_cons_zero]; rfl) ?_
          first
            | refine pl_get (i := 8) rfl rfl HS5.out rfl (fun u hu => by (try dsimp only at hu); go_simp; rfl) (by simp only [List.setIfInBounds_toArray, List.set_cons_succ, List.set_cons_zero]; rfl) ?_
            | refine pl_skip (i := 8) rfl rfl HS5.out rfl (by simp only [List.setIfInBounds_toArray, List.set_cons_succ, List.set_cons_zero]; rfl) ?_
          first
            | refine pl_get (i := 9) rfl rfl HS5.out rfl (fun u hu => by (try dsimp only at hu); go_simp; rfl) (by simp only [List.setIfInBounds_toArray, List.set_cons_succ, List.set_cons_zero]; rfl) ?_
            | refine pl_skip (i := 9) rfl rfl HS5.out rfl (by simp only [List.setIfInBounds_toArray, List.set_cons_succ, List.set_cons_zero]; rfl) ?_
          first
            | refine pl_get (i := 11) rfl rfl HS5.out rfl (fun u hu => by (try dsimp only at hu); go_simp; rfl) (by simp only [List.setIfInBounds_toArray, List.set_cons_succ, List.set_cons_zero]; rfl) ?_
            | refine pl_skip (i := 11) rfl rfl HS5.out rfl (by simp only [List.setIfInBounds_toArray, List.set_cons_succ, List.set_cons_zero]; rfl) ?_
          first
            | refine pl_get (i := 12) rfl rfl HS5.out rfl (fun u hu => by (try dsimp only at hu); go_simp; rfl) (by simp only [List.setIfInBounds_toArray, List.set_cons_succ, List.set_cons_zero]; rfl) ?_
            | refine pl_skip (i := 12) rfl rfl HS5.out rfl (by simp only [List.setIfInBounds_toArray, List.set_cons_succ, List.set_cons_zero]; rfl) ?_
          have HD5 := Lib.hid (HD.out.keep K5)
          refine pl_one (i := 10) rfl ?_
          go_wp2_with ((go_at_call 10; refine (alive_any tb mb p cz (absL p nw NZ) s _ HD5.out.T hs _ Hva.out).mono ?_; rintro _ w5 ⟨rfl, rfl⟩))
          refine pl_next (fun _ => HS5.out) ?_
          first
            | refine pl_get (i := 13) rfl rfl HS5.out rfl (fun u hu => by (try dsimp only at hu); go_simp; rfl) (by simp only [List.setIfInBounds_toArray, List.set_cons_succ, List.set_cons_zero]; rfl) ?_
            | refine pl_skip (i := 13) rfl rfl HS5.out rfl (by simp only [List.setIfInBounds_toArray, List.set_cons_succ, List.set_cons_zero]; rfl) ?_
          first
            | refine pl_get (i := 14) rfl rfl HS5.out rfl (fun u hu => by (try dsimp only at hu); go_simp; rfl) (by simp only [List.setIfInBounds_toArray, List.set_cons_succ, List.set_cons_zero]; rfl) ?_
            | refine pl_skip (i := 14) rfl rfl HS5.out rfl (by simp only [List.setIfInBounds_toArray, List.set_cons_succ, List.set_cons_zero]; rfl) ?_
          first
            | refine pl_get (i := 15) rfl rfl HS5.out rfl (fun u hu => by (try dsimp only at hu); go_simp; rfl) (by simp only [List.setIfInBounds_toArray, List.set_cons_succ, List.set_cons_zero]; rfl) ?_
            | refine pl_skip (i := 15) rfl rfl HS5.out rfl (by simp only [List.setIfInBounds_toArray, List.set_cons_succ, List.set_cons_zero]; rfl) ?_
          first
            | refine pl_get (i := 16) rfl rfl HS5.out rfl (fun u hu => by (try dsimp only at hu); go_simp; rfl) (by simp only [List.setIfInBounds_toArray, List.set_cons_succ, List.set_cons_zero]; rfl) ?_
            | refine pl_skip (i := 16) rfl rfl HS5.out rfl (by simp only [List.setIfInBounds_toArray, List.set_cons_succ, List.set_cons_zero]; rfl) ?_
          first
            | refine pl_get (i := 17) rfl rfl HS5.out rfl (fun u hu => by (try dsimp only at hu); go_simp; rfl) (by simp only [List.setIfInBounds_toArray, List.set_cons_succ, List.set_cons_zero]; rfl) ?_
            | refine pl_skip (i := 17) rfl rfl HS5.out rfl (by simp only [List.setIfInBounds_toArray, List.set_cons_succ, List.set_cons_zero]; rfl) ?_
          first
            | refine pl_get (i := 18) rfl rfl HS5.out rfl (fun u hu => by (try dsimp only at hu); go_simp; rfl) (by simp only [List.setIfInBounds_toArray, List.set_cons_succ, List.set_cons_zero]; rfl) ?_
            | refine pl_skip (i := 18) rfl rfl HS5.out rfl (by simp only [List.setIfInBounds_toArray, List.set_cons_succ, List.set_cons_zero]; rfl) ?_
          first
            | refine pl_get (i := 19) rfl rfl HS5.out rfl (fun u hu => by (try dsimp only at hu); go_simp; rfl) (by simp only [List.setIfInBounds_toArray, List.set_cons_succ, List.set_cons_zero]; rfl) ?_
            | refine pl_skip (i := 19) rfl rfl HS5.out rfl (by simp only [List.setIfInBounds_toArray, List.set_cons_succ, List.set_cons_zero]; rfl) ?_
          refine pl_one (i := 20) rfl ?_
          go_wp2_with (fail)
          refine pl_next (fun _ => HS5.out) ?_
          first
            | refine pl_get (i := 21) rfl rfl HS5.out rfl (fun u hu => by (try dsimp only at hu); go_simp; rfl) (by simp only [List.setIfInBounds_toArray, List.set_cons_succ, List.set_cons_zero]; rfl) ?_
            | refine pl_skip (i := 21) rfl rfl HS5.out rfl (by simp only [List.setIfInBounds_toArray, List.set_cons_succ, List.set_cons_zero]; rfl) ?_
          first
            | refine pl_get (i := 22) rfl rfl HS5.out rfl (fun u hu => by (try dsimp only at hu); go_simp; rfl) (by simp only [List.setIfInBounds_toArray, List.set_cons_succ, List.set_cons_zero]; rfl) ?_
            | refine pl_skip (i := 22) rfl rfl HS5.out rfl (by simp only [List.setIfInBounds_toArray, List.set_cons_succ, List.set_cons_zero]; rfl) ?_
          first
            | refine pl_get (i := 23) rfl rfl HS5.out rfl (fun u hu => by (try dsimp only at hu); go_simp; rfl) (by simp only [List.setIfInBounds_toArray, List.set_cons_succ, List.set_cons_zero]; rfl) ?_
            | refine pl_skip (i := 23) rfl rfl HS5.out rfl (by simp only [List.setIfInBounds_toArray, List.set_cons_succ, List.set_cons_zero]; rfl) ?_
          first
            | refine pl_get (i := 24) rfl rfl HS5.out rfl (fun u hu => by (try dsimp only at hu); go_simp; rfl) (by simp only [List.setIfInBounds_toArray, List.set_cons_succ, List.set_cons_zero]; rfl) ?_
            | refine pl_skip (i := 24) rfl rfl HS5.out rfl (by simp only [List.setIfInBounds_toArray, List.set_cons_succ, List.set_cons_zero]; rfl) ?_
          first
            | refine pl_get (i := 25) rfl rfl HS5.out rfl (fun u hu => by (try dsimp only at hu); go_simp; rfl) (by simp only [List.setIfInBounds_toArray, List.set_cons_succ, List.set_cons_zero]; rfl) ?_
            | refine pl_skip (i := 25) rfl rfl HS5.out rfl (by simp only [List.setIfInBounds_toArray, List.set_cons_succ, List.set_cons_zero]; rfl) ?_
          first
            | refine pl_get (i := 27) rfl rfl HS5.out rfl (fun u hu => by (try dsimp only at hu); go_simp; rfl) (by simp only [List.setIfInBounds_toArray, List.set_cons_succ, List.set_cons_zero]; rfl) ?_
            | refine pl_skip (i := 27) rfl rfl HS5.out rfl (by simp only [List.setIfInBounds_toArray, List.set_cons_succ, List.set_cons_zero]; rfl) ?_
          first
            | refine pl_get (i := 28) rfl rfl HS5.out rfl (fun u hu => by (try dsimp only at hu); go_simp; rfl) (by simp only [List.setIfInBounds_toArray, List.set_cons_succ, List.set_cons_zero]; rfl) ?_
            | refine pl_skip (i := 28) rfl rfl HS5.out rfl (by simp only [List.setIfInBounds_toArray, List.set_cons_succ, List.set_cons_zero]; rfl) ?_
          first
            | refine pl_get (i := 29) rfl rfl HS5.out rfl (fun u hu => by (try dsimp only at hu); go_simp; rfl) (by simp only [List.setIfInBounds_toArray, List.set_cons_succ, List.set_cons_zero]; rfl) ?_
            | refine pl_skip (i := 29) rfl rfl HS5.out rfl (by simp only [List.setIfInBounds_toArray, List.set_cons_succ, List.set_cons_zero]; rfl) ?_
          first
            | refine pl_get (i := 30) rfl rfl HS5.out rfl (fun u hu => by (try dsimp only at hu); go_simp; rfl) (by simp only [List.setIfInBounds_toArray, List.set_cons_succ, List.set_cons_zero]; rfl) ?_
            | refine pl_skip (i := 30) rfl rfl HS5.out rfl (by simp only [List.setIfInBounds_toArray, List.set_cons_succ, List.set_cons_zero]; rfl) ?_
          refine pl_one (i := 26) rfl ?_
          go_wp2_with ((go_at_call 20; refine (changes_any tb mb p cz (absL p nw NZ) _ HD5.out.T).mono ?_; rintro _ _ ⟨rfl, rfl⟩))
          refine pl_next (fun _ => HS5.out) ?_
          first
            | refine pl_get (i := 31) rfl rfl HS5.out rfl (fun u hu => by (try dsimp only at hu); go_simp; rfl) (by simp only [List.setIfInBounds_toArray, List.set_cons_succ, List.set_cons_zero]; rfl) ?_
            | refine pl_skip (i := 31) rfl rfl HS5.out rfl (by simp only [List.setIfInBounds_toArray, List.set_cons_succ, List.set_cons_zero]; rfl) ?_
          first
            | refine pl_get (i := 32) rfl rfl HS5.out rfl (fun u hu => by (try dsimp only at hu); go_simp; rfl) (by simp only [List.setIfInBounds_toArray, List.set_cons_succ, List.set_cons_zero]; rfl) ?_
            | refine pl_skip (i := 32) rfl rfl HS5.out rfl (by simp only [List.setIfInBounds_toArray, List.set_cons_succ, List.set_cons_zero]; rfl) ?_
          refine pl_done ?_
          go_wp2_with fail
          go_roundw
          case rel => exact ⟨k + 1, nw, cz, NZ, hlt, h200, by go_num, HD5.out⟩
          case measure => simp [intOf]; omega
        · have Hx := Lib.hid hx
          have Hl := Lib.hid hl
          clear hx hl
          cases va
          all_goals
            as_aux_lemma =>
            go_wp2_with fail
            refine (find_any rb rb a cap p nw cz NZ s _ HR.out (by omega) _ Hf.out).mono ?_
            rintro _ wz ⟨rfl, rfl⟩
            go_wp2_with fail
            have r2 := blk_cell HR.out.blk 2
            have r3 := blk_cell HR.out.blk 3
            simp at r2 r3
            refine wp_region_pl (fun u => u.cell? ⟨ob, 1, none⟩ = some (.string s) ∧ u.cell? ⟨rb, 2, none⟩ = some (.int .i64 nw) ∧ u.cell? ⟨rb, 3, none⟩ = some (.int .i64 cz)) [] (.rd 0 (.rd 2 (.one 1 (.one 3 (.one 4 (.rd 5 (.rd 6 (.rd 7 (.rd 8 (.rd 9 (.rd 11 (.rd 12 (.one 10 (.rd 13 (.rd 14 (.rd 15 (.rd 16 (.rd 17 (.rd 18 (.rd 19 (.one 20 (.rd 21 (.rd 22 (.rd 23 (.rd 24 (.rd 25 (.rd 27 (.rd 28 (.rd 29 (.rd 30 (.one 26 (.rd 31 (.rd 32 .done))))))))))))))))))))))))))))))))) (by kernel_rfl) (by kernel_rfl) (by kernel_rfl) (by kernel_rfl) (by intro c b d v u h; cases d <;> exact h) ?_
            have kd := (Keep.refl NoB wz).drew
            have HS := Lib.hid (show wz.drew.cell? ⟨ob, 1, none⟩ = some (.string s) ∧ wz.drew.cell? ⟨rb, 2, none⟩ = some (.int .i64 nw) ∧ wz.drew.cell? ⟨rb, 3, none⟩ = some (.int .i64 cz) from ⟨q1, r2, r3⟩)
            clear q1 r2 r3 ql
            first
              | refine pl_get (i := 0) rfl rfl HS.out rfl (fun u hu => by (try dsimp only at hu); go_simp; rfl) (by simp only [List.setIfInBounds_toArray, List.set_cons_succ, List.set_cons_zero]; rfl) ?_
              | refine pl_skip (i := 0) rfl rfl HS.out rfl (by simp only [List.setIfInBounds_toArray, List.set_cons_succ, List.set_cons_zero]; rfl) ?_
            first
              | refine pl_get (i := 2) rfl rfl HS.out rfl (fun u hu => by (try dsimp only at hu); go_simp; rfl) (by simp only [List.setIfInBounds_toArray, List.set_cons_succ, List.set_cons_zero]; rfl) ?_
              | refine pl_skip (i := 2) rfl rfl HS.out rfl (by simp only [List.setIfInBounds_toArray, List.set_cons_succ, List.set_cons_zero]; rfl) ?_
            refine pl_one (i := 1) rfl ?_
            go_wp2_with ((go_at_call 17; refine (live_any tb mb p cz (absL p nw NZ) _ (HD.out.T.keep kd (fun h => h) (fun h => h)) (by rw [absL_length]; omega) V (by rw [abs_live, HV.out])).mono ?_; rintro _ w3 ⟨a3, c3, rfl, O3, k3⟩))
            have K3 := kd.trans k3
            have HS3 := Lib.hid (show w3.cell? ⟨ob, 1, none⟩ = some (.string s) ∧ w3.cell? ⟨rb, 2, none⟩ = some (.int .i64 nw) ∧ w3.cell? ⟨rb, 3, none⟩ = some (.int .i64 cz) from ⟨k3.some HS.out.1 (fun h => h), k3.some HS.out.2.1 (fun h => h), k3.some HS.out.2.2 (fun h => h)⟩)
            refine pl_next (fun _ => HS3.out) ?_
            clear kd k3
            refine pl_one (i := 3) rfl ?_
            go_wp2_with ((go_at_call 18; refine (rlive_any rb rb a cap p nw cz NZ _ (HR.out.keep0 K3) (by omega) HD.out.rv (by omega) V HV.out).mono ?_; rintro _ w4 ⟨⟨a4, c4, rfl, O4⟩, k4⟩))
            have K4 := K3.trans k4
            have O3' := O3.keep k4 (fun _ _ h => h)
            have HS4 := Lib.hid (show w4.cell? ⟨ob, 1, none⟩ = some (.string s) ∧ w4.cell? ⟨rb, 2, none⟩ = some (.int .i64 nw) ∧ w4.cell? ⟨rb, 3, none⟩ = some (.int .i64 cz) from ⟨k4.some HS3.out.1 (fun h => h), k4.some HS3.out.2.1 (fun h => h), k4.some HS3.out.2.2 (fun h => h)⟩)
            refine pl_next (fun _ => HS4.out) ?_
            clear K3 k4 O3 HS3 HS
            refine pl_one (i := 4) rfl ?_
            go_wp2_with ((go_at_call 13; refine (same_any _ _ a3 a4 c3 c4 V _ O3' O4 (by omega)).mono ?_; rintro _ w5 ⟨rfl, k5⟩))
            have K5 := K4.trans k5
            have HS5 := Lib.hid (show w5.cell? ⟨ob, 1, none⟩ = some (.string s) ∧ w5.cell? ⟨rb, 2, none⟩ = some (.int .i64 nw) ∧ w5.cell? ⟨rb, 3, none⟩ = some (.int .i64 cz) from ⟨k5.some HS4.out.1 (fun h => h), k5.some HS4.out.2.1 (fun h => h), k5.some HS4.out.2.2 (fun h => h)⟩)
            refine pl_next (fun _ => HS5.out) ?_
            clear K4 k5 O3' O4 HS4
            first
              | refine pl_get (i := 5) rfl rfl HS5.out rfl (fun u hu => by (try dsimp only at hu); go_simp; rfl) (by simp only [List.setIfInBounds_toArray, List.set_cons_succ, List.set_cons_zero]; rfl) ?_
              | refine pl_skip (i := 5) rfl rfl HS5.out rfl (by simp only [List.setIfInBounds_toArray, List.set_cons_succ, List.set_cons_zero]; rfl) ?_
            first
              | refine pl_get (i := 6) rfl rfl HS5.out rfl (fun u hu => by (try dsimp only at hu); go_simp; rfl) (by simp only [List.setIfInBounds_toArray, List.set_cons_succ, List.set_cons_zero]; rfl) ?_
              | refine pl_skip (i := 6) rfl rfl HS5.out rfl (by simp only [List.setIfInBounds_toArray, List.set_cons_succ, List.set_cons_zero]; rfl) ?_
            first
              | refine pl_get (i := 7) rfl rfl HS5.out rfl (fun u hu => by (try dsimp only at hu); go_simp; rfl) (by simp only [List.setIfInBounds_toArray, List.set_cons_succ, List.set_cons_zero]; rfl) ?_
              | refine pl_skip (i := 7) rfl rfl HS5.out rfl (by simp only [List.setIfInBounds_toArray, List.set_cons_succ, List.set_cons_zero]; rfl) ?_
            first
              | refine pl_get (i := 8) rfl rfl HS5.out rfl (fun u hu => by (try dsimp only at hu); go_simp; rfl) (by simp only [List.setIfInBounds_toArray, List.set_cons_succ, List.set_cons_zero]; rfl) ?_
              | refine pl_skip (i := 8) rfl rfl HS5.out rfl (by simp only [List.setIfInBounds_toArray, List.set_cons_succ, List.set_cons_zero]; rfl) ?_
            first
              | refine pl_get (i := 9) rfl rfl HS5.out rfl (fun u hu => by (try dsimp only at hu); go_simp; rfl) (by simp only [List.setIfInBounds_toArray, List.set_cons_succ, List.set_cons_zero]; rfl) ?_
              | refine pl_skip (i := 9) rfl rfl HS5.out rfl (by simp only [List.setIfInBounds_toArray, List.set_cons_succ, List.set_cons_zero]; rfl) ?_
            first
              | refine pl_get (i := 11) rfl rfl HS5.out rfl (fun u hu => by (try dsimp only at hu); go_simp; rfl) (by simp only [List.setIfInBounds_toArray, List.set_cons_succ, List.set_cons_zero]; rfl) ?_
              | refine pl_skip (i := 11) rfl rfl HS5.out rfl (by simp only [List.setIfInBounds_toArray, List.set_cons_succ, List.set_cons_zero]; rfl) ?_
            first
              | refine pl_get (i := 12) rfl rfl HS5.out rfl (fun u hu => by (try dsimp only at hu); go_simp; rfl) (by simp only [List.setIfInBounds_toArray, List.set_cons_succ, List.set_cons_zero]; rfl) ?_
              | refine pl_skip (i := 12) rfl rfl HS5.out rfl (by simp only [List.setIfInBounds_toArray, List.set_cons_succ, List.set_cons_zero]; rfl) ?_
            have HD5 := Lib.hid (HD.out.keep K5)
            refine pl_one (i := 10) rfl ?_
            go_wp2_with ((go_at_call 10; refine (alive_any tb mb p cz (absL p nw NZ) s _ HD5.out.T hs _ Hva.out).mono ?_; rintro _ w5 ⟨rfl, rfl⟩))
            refine pl_next (fun _ => HS5.out) ?_
            first
              | refine pl_get (i := 13) rfl rfl HS5.out rfl (fun u hu => by (try dsimp only at hu); go_simp; rfl) (by simp only [List.setIfInBounds_toArray, List.set_cons_succ, List.set_cons_zero]; rfl) ?_
              | refine pl_skip (i := 13) rfl rfl HS5.out rfl (by simp only [List.setIfInBounds_toArray, List.set_cons_succ, List.set_cons_zero]; rfl) ?_
            first
              | refine pl_get (i := 14) rfl rfl HS5.out rfl (fun u hu => by (try dsimp only at hu); go_simp; rfl) (by simp only [List.setIfInBounds_toArray, List.set_cons_succ, List.set_cons_zero]; rfl) ?_
              | refine pl_skip (i := 14) rfl rfl HS5.out rfl (by simp only [List.setIfInBounds_toArray, List.set_cons_succ, List.set_cons_zero]; rfl) ?_
            first
              | refine pl_get (i := 15) rfl rfl HS5.out rfl (fun u hu => by (try dsimp only at hu); go_simp; rfl) (by simp only [List.setIfInBounds_toArray, List.set_cons_succ, List.set_cons_zero]; rfl) ?_
              | refine pl_skip (i := 15) rfl rfl HS5.out rfl (by simp only [List.setIfInBounds_toArray, List.set_cons_succ, List.set_cons_zero]; rfl) ?_
            first
              | refine pl_get (i := 16) rfl rfl HS5.out rfl (fun u hu => by (try dsimp only at hu); go_simp; rfl) (by simp only [List.setIfInBounds_toArray, List.set_cons_succ, List.set_cons_zero]; rfl) ?_
              | refine pl_skip (i := 16) rfl rfl HS5.out rfl (by simp only [List.setIfInBounds_toArray, List.set_cons_succ, List.set_cons_zero]; rfl) ?_
            first
              | refine pl_get (i := 17) rfl rfl HS5.out rfl (fun u hu => by (try dsimp only at hu); go_simp; rfl) (by simp only [List.setIfInBounds_toArray, List.set_cons_succ, List.set_cons_zero]; rfl) ?_
              | refine pl_skip (i := 17) rfl rfl HS5.out rfl (by simp only [List.setIfInBounds_toArray, List.set_cons_succ, List.set_cons_zero]; rfl) ?_
            first
              | refine pl_get (i := 18) rfl rfl HS5.out rfl (fun u hu => by (try dsimp only at hu); go_simp; rfl) (by simp only [List.setIfInBounds_toArray, List.set_cons_succ, List.set_cons_zero]; rfl) ?_
              | refine pl_skip (i := 18) rfl rfl HS5.out rfl (by simp only [List.setIfInBounds_toArray, List.set_cons_succ, List.set_cons_zero]; rfl) ?_
            first
              | refine pl_get (i := 19) rfl rfl HS5.out rfl (fun u hu => by (try dsimp only at hu); go_simp; rfl) (by simp only [List.setIfInBounds_toArray, List.set_cons_succ, List.set_cons_zero]; rfl) ?_
              | refine pl_skip (i := 19) rfl rfl HS5.out rfl (by simp only [List.setIfInBounds_toArray, List.set_cons_succ, List.set_cons_zero]; rfl) ?_
            refine pl_one (i := 20) rfl ?_
            go_wp2_with ((go_at_call 19; refine (lives_any rb rb a cap p nw cz NZ i nw _ (HR.out.keep0 K5) (by omega) x Hx.out (by have := HD.out.rv x (List.mem_of_getElem? Hx.out); omega) _ Hl.out).mono ?_; rintro _ w6 ⟨rfl, k6⟩))
            have HS6 := Lib.hid (show w6.cell? ⟨ob, 1, none⟩ = some (.string s) ∧ w6.cell? ⟨rb, 2, none⟩ = some (.int .i64 nw) ∧ w6.cell? ⟨rb, 3, none⟩ = some (.int .i64 cz) from ⟨k6.some HS5.out.1 (fun h => h), k6.some HS5.out.2.1 (fun h => h), k6.some HS5.out.2.2 (fun h => h)⟩)
            refine pl_next (fun _ => HS6.out) ?_
            have HD6 := Lib.hid (HD5.out.keep k6)
            clear HS5 HD5
            have HS5 := HS6
            have HD5 := HD6
            clear HS6 HD6
            first
              | refine pl_get (i := 21) rfl rfl HS5.out rfl (fun u hu => by (try dsimp only at hu); go_simp; rfl) (by simp only [List.setIfInBounds_toArray, List.set_cons_succ, List.set_cons_zero]; rfl) ?_
              | refine pl_skip (i := 21) rfl rfl HS5.out rfl (by simp only [List.setIfInBounds_toArray, List.set_cons_succ, List.set_cons_zero]; rfl) ?_
            first
              | refine pl_get (i := 22) rfl rfl HS5.out rfl (fun u hu => by (try dsimp only at hu); go_simp; rfl) (by simp only [List.setIfInBounds_toArray, List.set_cons_succ, List.set_cons_zero]; rfl) ?_
              | refine pl_skip (i := 22) rfl rfl HS5.out rfl (by simp only [List.setIfInBounds_toArray, List.set_cons_succ, List.set_cons_zero]; rfl) ?_
            first
              | refine pl_get (i := 23) rfl rfl HS5.out rfl (fun u hu => by (try dsimp only at hu); go_simp; rfl) (by simp only [List.setIfInBounds_toArray, List.set_cons_succ, List.set_cons_zero]; rfl) ?_
              | refine pl_skip (i := 23) rfl rfl HS5.out rfl (by simp only [List.setIfInBounds_toArray, List.set_cons_succ, List.set_cons_zero]; rfl) ?_
            first
              | refine pl_get (i := 24) rfl rfl HS5.out rfl (fun u hu => by (try dsimp only at hu); go_simp; rfl) (by simp only [List.setIfInBounds_toArray, List.set_cons_succ, List.set_cons_zero]; rfl) ?_
              | refine pl_skip (i := 24) rfl rfl HS5.out rfl (by simp only [List.setIfInBounds_toArray, List.set_cons_succ, List.set_cons_zero]; rfl) ?_
            first
              | refine pl_get (i := 25) rfl rfl HS5.out rfl (fun u hu => by (try dsimp only at hu); go_simp; rfl) (by simp only [List.setIfInBounds_toArray, List.set_cons_succ, List.set_cons_zero]; rfl) ?_
              | refine pl_skip (i := 25) rfl rfl HS5.out rfl (by simp only [List.setIfInBounds_toArray, List.set_cons_succ, List.set_cons_zero]; rfl) ?_
            first
              | refine pl_get (i := 27) rfl rfl HS5.out rfl (fun u hu => by (try dsimp only at hu); go_simp; rfl) (by simp only [List.setIfInBounds_toArray, List.set_cons_succ, List.set_cons_zero]; rfl) ?_
              | refine pl_skip (i := 27) rfl rfl HS5.out rfl (by simp only [List.setIfInBounds_toArray, List.set_cons_succ, List.set_cons_zero]; rfl) ?_
            first
              | refine pl_get (i := 28) rfl rfl HS5.out rfl (fun u hu => by (try dsimp only at hu); go_simp; rfl) (by simp only [List.setIfInBounds_toArray, List.set_cons_succ, List.set_cons_zero]; rfl) ?_
              | refine pl_skip (i := 28) rfl rfl HS5.out rfl (by simp only [List.setIfInBounds_toArray, List.set_cons_succ, List.set_cons_zero]; rfl) ?_
            first
              | refine pl_get (i := 29) rfl rfl HS5.out rfl (fun u hu => by (try dsimp only at hu); go_simp; rfl) (by simp only [List.setIfInBounds_toArray, List.set_cons_succ, List.set_cons_zero]; rfl) ?_
              | refine pl_skip (i := 29) rfl rfl HS5.out rfl (by simp only [List.setIfInBounds_toArray, List.set_cons_succ, List.set_cons_zero]; rfl) ?_
            first
              | refine pl_get (i := 30) rfl rfl HS5.out rfl (fun u hu => by (try dsimp only at hu); go_simp; rfl) (by simp only [List.setIfInBounds_toArray, List.set_cons_succ, List.set_cons_zero]; rfl) ?_
              | refine pl_skip (i := 30) rfl rfl HS5.out rfl (by simp only [List.setIfInBounds_toArray, List.set_cons_succ, List.set_cons_zero]; rfl) ?_
            refine pl_one (i := 26) rfl ?_
            go_wp2_with ((go_at_call 20; refine (changes_any tb mb p cz (absL p nw NZ) _ HD5.out.T).mono ?_; rintro _ _ ⟨rfl, rfl⟩))
            refine pl_next (fun _ => HS5.out) ?_
            first
              | refine pl_get (i := 31) rfl rfl HS5.out rfl (fun u hu => by (try dsimp only at hu); go_simp; rfl) (by simp only [List.setIfInBounds_toArray, List.set_cons_succ, List.set_cons_zero]; rfl) ?_
              | refine pl_skip (i := 31) rfl rfl HS5.out rfl (by simp only [List.setIfInBounds_toArray, List.set_cons_succ, List.set_cons_zero]; rfl) ?_
            first
              | refine pl_get (i := 32) rfl rfl HS5.out rfl (fun u hu => by (try dsimp only at hu); go_simp; rfl) (by simp only [List.setIfInBounds_toArray, List.set_cons_succ, List.set_cons_zero]; rfl) ?_
              | refine pl_skip (i := 32) rfl rfl HS5.out rfl (by simp only [List.setIfInBounds_toArray, List.set_cons_succ, List.set_cons_zero]; rfl) ?_
            refine pl_done ?_
            go_wp2_with fail
            go_roundw
            case rel => exact ⟨k + 1, nw, cz, NZ, hlt, h200, by go_num, HD5.out⟩
            case measure => simp [intOf]; omega
      · have hkd' : (kd == 0) = false := by simpa using hkd
        clear hkd
        go_wp2_with fail
        have kV : Keep NoB wr (wr.alloc (.cells #[.int .i64 kd, .string s] 34)) := (Keep.refl NoB wr).alloc _
        have bV := blk_new wr (.cells #[.int .i64 kd, .string s] 34)
        have DV := HD0.out.keep kV
        generalize World.alloc wr (.cells #[.int .i64 kd, .string s] 34) = V at kV bV DV ⊢
        generalize wr.heap.size = ob at bV hob ⊢
        have hN := DV.len
        have hc0 := DV.ch0
        have hc1 := DV.ch1
        have hn0 := DV.now0
        have hn1 := DV.now1
        have hBV := DV.hB
        have HDV := Lib.hid DV
        have HbV := Lib.hid bV
        clear kV HD0 l0 l1 hbw DV bV
        obtain ⟨r, cz, NZ, S⟩ := beat_step Hp1.out.1 hn0 HDV.out.rise HDV.out.rv ch s
        have hlo := S.lo
        have hhi := S.hi
        have HSt := Lib.hid S
        have q1 := blk_cell HbV.out 1
        have ql := blk_lt HbV.out
        simp at q1
        clear S
        cases r
        all_goals
          refine wp_region_pl (fun u => u.cell? ⟨ob, 1, none⟩ = some (.string s)) [] (.rd 0 (.rd 1 (.rd 2 (.rd 4 (.rd 5 (.rd 6 (.one 3 (.one 7 (.rd 8 (.rd 9 (.rd 10 (.rd 11 (.rd 12 (.one 13 (.rd 14 .done))))))))))))))) (by kernel_rfl) (by kernel_rfl) (by kernel_rfl) (by kernel_rfl) (by intro c b d v u h; cases d <;> exact h) ?_
          have kd0 := (Keep.refl NoB V).drew
          have HS := Lib.hid (show V.drew.cell? ⟨ob, 1, none⟩ = some (.string s) from q1)
          have HDr := Lib.hid (HDV.out.keep kd0)
          have Hbr := Lib.hid (blk_drew HbV.out)
          clear kd0 q1
          first
            | refine pl_get (i := 0) rfl rfl HS.out rfl (fun u hu => by (try dsimp only at hu); go_simp; rfl) (by simp only [List.setIfInBounds_toArray, List.set_cons_succ, List.set_cons_zero]; rfl) ?_
            | refine pl_skip (i := 0) rfl rfl HS.out rfl (by simp only [List.setIfInBounds_toArray, List.set_cons_succ, List.set_cons_zero]; rfl) ?_
          first
            | refine pl_get (i := 1) rfl rfl HS.out rfl (fun u hu => by (try dsimp only at hu); go_simp; rfl) (by simp only [List.setIfInBounds_toArray, List.set_cons_succ, List.set_cons_zero]; rfl) ?_
            | refine pl_skip (i := 1) rfl rfl HS.out rfl (by simp only [List.setIfInBounds_toArray, List.set_cons_succ, List.set_cons_zero]; rfl) ?_
          first
            | refine pl_get (i := 2) rfl rfl HS.out rfl (fun u hu => by (try dsimp only at hu); go_simp; rfl) (by simp only [List.setIfInBounds_toArray, List.set_cons_succ, List.set_cons_zero]; rfl) ?_
            | refine pl_skip (i := 2) rfl rfl HS.out rfl (by simp only [List.setIfInBounds_toArray, List.set_cons_succ, List.set_cons_zero]; rfl) ?_
          first
            | refine pl_get (i := 4) rfl rfl HS.out rfl (fun u hu => by (try dsimp only at hu); go_simp; rfl) (by simp only [List.setIfInBounds_toArray, List.set_cons_succ, List.set_cons_zero]; rfl) ?_
            | refine pl_skip (i := 4) rfl rfl HS.out rfl (by simp only [List.setIfInBounds_toArray, List.set_cons_succ, List.set_cons_zero]; rfl) ?_
          first
            | refine pl_get (i := 5) rfl rfl HS.out rfl (fun u hu => by (try dsimp only at hu); go_simp; rfl) (by simp only [List.setIfInBounds_toArray, List.set_cons_succ, List.set_cons_zero]; rfl) ?_
            | refine pl_skip (i := 5) rfl rfl HS.out rfl (by simp only [List.setIfInBounds_toArray, List.set_cons_succ, List.set_cons_zero]; rfl) ?_
          first
            | refine pl_get (i := 6) rfl rfl HS.out rfl (fun u hu => by (try dsimp only at hu); go_simp; rfl) (by simp only [List.setIfInBounds_toArray, List.set_cons_succ, List.set_cons_zero]; rfl) ?_
            | refine pl_skip (i := 6) rfl rfl HS.out rfl (by simp only [List.setIfInBounds_toArray, List.set_cons_succ, List.set_cons_zero]; rfl) ?_
          refine pl_one (i := 3) rfl ?_
          go_wp2_with ((go_at_call 11; refine (dbeat_any HSt.out HDr.out.T hs (by omega) (by omega)).mono ?_; rintro _ w4 ⟨rfl, T4, k4⟩))
          have HS4 := Lib.hid (show w4.cell? ⟨ob, 1, none⟩ = some (.string s) from k4.some HS.out (fun e => by have e' : ob = tb ∨ ob = mb := e; omega))
          have K4 : Keep NoB w w4 := HDr.out.hk.trans' k4 hfx.out
          have b4 := Lib.hid (blk_keep Hbr.out k4 (fun e => by rcases e with e | e <;> omega))
          obtain ⟨a, cap, R3⟩ := HDr.out.R
          have R4 := Lib.hid (R3.keep k4 (fun e => by rcases e with e | e <;> omega) (fun g hg e => by have := R3.own.fresh g hg; rcases e with e | e <;> omega))
          have HT4 := Lib.hid T4
          have s4 := k4.size
          refine pl_next (fun _ => HS4.out) ?_
          clear k4 T4 R3 HS
          refine pl_one (i := 7) rfl ?_
          go_wp2_with ((go_at_call 15; refine (rbeat_any HSt.out R4.out (Nat.le_refl _) (by omega) HDr.out.rv (by omega) (by omega)).mono ?_; rintro _ w5 ⟨rfl, R5, k5⟩))
          have hobk : ¬ RBk rb (.slice a N.length cap) ob := fun e => by
            rcases e with e | e
            · omega
            · exact R4.out.own.ne b4.out (by decide) ob e rfl
          have HS5 := Lib.hid (show w5.cell? ⟨ob, 1, none⟩ = some (.string s) from k5.some HS4.out hobk)
          have K5 : Keep NoB w w5 := K4.trans' k5 (fun i hi e => by
            have := HPB.out.lo1
            rcases e with e | e
            · omega
            · have := R4.out.own.fresh i e; omega)
          have T5 := HT4.out.keep k5 (fun e => by rcases e with e | e; omega; have := R4.out.own.fresh _ e; omega) (fun e => by rcases e with e | e; omega; have := R4.out.own.fresh _ e; omega)
          have bz := blk_keep b4.out k5 hobk
          have DZ : PS w w5 tb mb rb rb p now cz NZ (k + 1) := ⟨T5, R5, HSt.out.rise, HSt.out.rv, by have := HSt.out.len; omega, hn0, by omega, by omega, by omega, by have := k5.size; have := HDr.out.hB; omega, K5⟩
          refine pl_next (fun _ => HS5.out) ?_
          clear k5 T5 R5 K5 K4 R4 HS4 b4 HT4 hobk
          first
            | refine pl_get (i := 8) rfl rfl HS5.out rfl (fun u hu => by (try dsimp only at hu); go_simp; rfl) (by simp only [List.setIfInBounds_toArray, List.set_cons_succ, List.set_cons_zero]; rfl) ?_
            | refine pl_skip (i := 8) rfl rfl HS5.out rfl (by simp only [List.setIfInBounds_toArray, List.set_cons_succ, List.set_cons_zero]; rfl) ?_
          first
            | refine pl_get (i := 9) rfl rfl HS5.out rfl (fun u hu => by (try dsimp only at hu); go_simp; rfl) (by simp only [List.setIfInBounds_toArray, List.set_cons_succ, List.set_cons_zero]; rfl) ?_
            | refine pl_skip (i := 9) rfl rfl HS5.out rfl (by simp only [List.setIfInBounds_toArray, List.set_cons_succ, List.set_cons_zero]; rfl) ?_
          first
            | refine pl_get (i := 10) rfl rfl HS5.out rfl (fun u hu => by (try dsimp only at hu); go_simp; rfl) (by simp only [List.setIfInBounds_toArray, List.set_cons_succ, List.set_cons_zero]; rfl) ?_
            | refine pl_skip (i := 10) rfl rfl HS5.out rfl (by simp only [List.setIfInBounds_toArray, List.set_cons_succ, List.set_cons_zero]; rfl) ?_
          first
            | refine pl_get (i := 11) rfl rfl HS5.out rfl (fun u hu => by (try dsimp only at hu); go_simp; rfl) (by simp only [List.setIfInBounds_toArray, List.set_cons_succ, List.set_cons_zero]; rfl) ?_
            | refine pl_skip (i := 11) rfl rfl HS5.out rfl (by simp only [List.setIfInBounds_toArray, List.set_cons_succ, List.set_cons_zero]; rfl) ?_
          first
            | refine pl_get (i := 12) rfl rfl HS5.out rfl (fun u hu => by (try dsimp only at hu); go_simp; rfl) (by simp only [List.setIfInBounds_toArray, List.set_cons_succ, List.set_cons_zero]; rfl) ?_
            | refine pl_skip (i := 12) rfl rfl HS5.out rfl (by simp only [List.setIfInBounds_toArray, List.set_cons_succ, List.set_cons_zero]; rfl) ?_
          refine pl_one (i := 13) rfl ?_
          go_wp2_with ((go_at_call 11; refine (nbeat_any s _).mono ?_; rintro _ w5 ⟨rfl, rfl⟩))
          refine pl_next (fun _ => HS5.out) ?_
          first
            | refine pl_get (i := 14) rfl rfl HS5.out rfl (fun u hu => by (try dsimp only at hu); go_simp; rfl) (by simp only [List.setIfInBounds_toArray, List.set_cons_succ, List.set_cons_zero]; rfl) ?_
            | refine pl_skip (i := 14) rfl rfl HS5.out rfl (by simp only [List.setIfInBounds_toArray, List.set_cons_succ, List.set_cons_zero]; rfl) ?_
          refine pl_done ?_
          clear HS5 HDr Hbr HDV HbV HSt ql
          generalize hnw : now = nw at DZ
          clear hnw
          generalize w5 = wz0 at DZ bz ⊢
          obtain ⟨va, hva, hcase⟩ := alive_case (p := p) (now := nw) DZ.rise s
          obtain ⟨V, hV⟩ : ∃ V, rlive p nw NZ = V := ⟨_, rfl⟩
          obtain ⟨f, hf⟩ : ∃ f, rfind NZ s 0 = f := ⟨_, rfl⟩
          obtain ⟨a, cap, RZ⟩ := DZ.R
          have hVl : V.length ≤ 200 := by have := rlive_len p nw NZ; have := DZ.len; rw [← hV]; omega
          rw [hf] at hcase
          have Hva := Lib.hid hva
          have HV := Lib.hid hV
          have Hf := Lib.hid hf
          have HD := Lib.hid DZ
          have HR := Lib.hid RZ
          have q1 := blk_cell bz 1
          have ql := blk_lt bz
          have hlen := DZ.len
          have hnw := DZ.now0
          have hnw1 := DZ.now1
          simp at q1
          clear hva hV hf DZ RZ bz
          rcases hcase with ⟨rfl, rfl⟩ | ⟨i, x, rfl, hx, hl⟩
          · as_aux_lemma =>
            go_wp2_with fail
            refine (find_any rb rb a cap p nw cz NZ s _ HR.out (by omega) _ Hf.out).mono ?_
            rintro _ wz ⟨rfl, rfl⟩
            go_wp2_with fail
            have r2 := blk_cell HR.out.blk 2
            have r3 := blk_cell HR.out.blk 3
            simp at r2 r3
            refine wp_region_pl (fun u => u.cell? ⟨ob, 1, none⟩ = some (.string s) ∧ u.cell? ⟨rb, 2, none⟩ = some (.int .i64 nw) ∧ u.cell? ⟨rb, 3, none⟩ = some (.int .i64 cz)) [] (.rd 0 (.rd 2 (.one 1 (.one 3 (.one 4 (.rd 5 (.rd 6 (.rd 7 (.rd 8 (.rd 9 (.rd 11 (.rd 12 (.one 10 (.rd 13 (.rd 14 (.rd 15 (.rd 16 (.rd 17 (.rd 18 (.rd 19 (.one 20 (.rd 21 (.rd 22 (.rd 23 (.rd 24 (.rd 25 (.rd 27 (.rd 28 (.rd 29 (.rd 30 (.one 26 (.rd 31 (.rd 32 .done))))))))))))))))))))))))))))))))) (by kernel_rfl) (by kernel_rfl) (by kernel_rfl) (by kernel_rfl) (by intro c b d v u h; cases d <;> exact h) ?_
            have kd := (Keep.refl NoB wz).drew
            have HS := Lib.hid (show wz.drew.cell? ⟨ob, 1, none⟩ = some (.string s) ∧ wz.drew.cell? ⟨rb, 2, none⟩ = some (.int .i64 nw) ∧ wz.drew.cell? ⟨rb, 3, none⟩ = some (.int .i64 cz) from ⟨q1, r2, r3⟩)
            clear q1 r2 r3 ql
            first
              | refine pl_get (i := 0) rfl rfl HS.out rfl (fun u hu => by (try dsimp only at hu); go_simp; rfl) (by simp only [List.setIfInBounds_toArray, List.set_cons_succ, List.set_cons_zero]; rfl) ?_
              | refine pl_skip (i := 0) rfl rfl HS.out rfl (by simp only [List.setIfInBounds_toArray, List.set_cons_succ, List.set_cons_zero]; rfl) ?_
            first
              | refine pl_get (i := 2) rfl rfl HS.out rfl (fun u hu => by (try dsimp only at hu); go_simp; rfl) (by simp only [List.setIfInBounds_toArray, List.set_cons_succ, List.set_cons_zero]; rfl) ?_
              | refine pl_skip (i := 2) rfl rfl HS.out rfl (by simp only [List.setIfInBounds_toArray, List.set_cons_succ, List.set_cons_zero]; rfl) ?_
            refine pl_one (i := 1) rfl ?_
            go_wp2_with ((go_at_call 17; refine (live_any tb mb p cz (absL p nw NZ) _ (HD.out.T.keep kd (fun h => h) (fun h => h)) (by rw [absL_length]; omega) V (by rw [abs_live, HV.out])).mono ?_; rintro _ w3 ⟨a3, c3, rfl, O3, k3⟩))
            have K3 := kd.trans k3
            have HS3 := Lib.hid (show w3.cell? ⟨ob, 1, none⟩ = some (.string s) ∧ w3.cell? ⟨rb, 2, none⟩ = some (.int .i64 nw) ∧ w3.cell? ⟨rb, 3, none⟩ = some (.int .i64 cz) from ⟨k3.some HS.out.1 (fun h => h), k3.some HS.out.2.1 (fun h => h), k3.some HS.out.2.2 (fun h => h)⟩)
            refine pl_next (fun _ => HS3.out) ?_
            clear kd k3
            refine pl_one (i := 3) rfl ?_
            go_wp2_with ((go_at_call 18; refine (rlive_any rb rb a cap p nw cz NZ _ (HR.out.keep0 K3) (by omega) HD.out.rv (by omega) V HV.out).mono ?_; rintro _ w4 ⟨⟨a4, c4, rfl, O4⟩, k4⟩))
            have K4 := K3.trans k4
            have O3' := O3.keep k4 (fun _ _ h => h)
            have HS4 := Lib.hid (show w4.cell? ⟨ob, 1, none⟩ = some (.string s) ∧ w4.cell? ⟨rb, 2, none⟩ = some (.int .i64 nw) ∧ w4.cell? ⟨rb, 3, none⟩ = some (.int .i64 cz) from ⟨k4.some HS3.out.1 (fun h => h), k4.some HS3.out.2.1 (fun h => h), k4.some HS3.out.2.2 (fun h => h)⟩)
            refine pl_next (fun _ => HS4.out) ?_
            clear K3 k4 O3 HS3 HS
            refine pl_one (i := 4) rfl ?_
            go_wp2_with ((go_at_call 13; refine (same_any _ _ a3 a4 c3 c4 V _ O3' O4 (by omega)).mono ?_; rintro _ w5 ⟨rfl, k5⟩))
            have K5 := K4.trans k5
            have HS5 := Lib.hid (show w5.cell? ⟨ob, 1, none⟩ = some (.string s) ∧ w5.cell? ⟨rb, 2, none⟩ = some (.int .i64 nw) ∧ w5.cell? ⟨rb, 3, none⟩ = some (.int .i64 cz) from ⟨k5.some HS4.out.1 (fun h => h), k5.some HS4.out.2.1 (fun h => h), k5.some HS4.out.2.2 (fun h => h)⟩)
            refine pl_next (fun _ => HS5.out) ?_
            clear K4 k5 O3' O4 HS4
            first
              | refine pl_get (i := 5) rfl rfl HS5.out rfl (fun u hu => by (try dsimp only at hu); go_simp; rfl) (by simp only [List.setIfInBounds_toArray, List.set_cons_succ, List.set_cons_zero]; rfl) ?_
              | refine pl_skip (i := 5) rfl rfl HS5.out rfl (by simp only [List.setIfInBounds_toArray, List.set_cons_succ, List.set_cons_zero]; rfl) ?_
            first
              | refine pl_get (i := 6) rfl rfl HS5.out rfl (fun u hu => by (try dsimp only at hu); go_simp; rfl) (by simp only [List.setIfInBounds_toArray, List.set_cons_succ, List.set_cons_zero]; rfl) ?_
              | refine pl_skip (i := 6) rfl rfl HS5.out rfl (by simp only [List.setIfInBounds_toArray, List.set_cons_succ, List.set_cons_zero]; rfl) ?_
            first
              | refine pl_get (i := 7) rfl rfl HS5.out rfl (fun u hu => by (try dsimp only at hu); go_simp; rfl) (by simp only [List.setIfInBounds_toArray, List.set_cons_succ, List.set_cons_zero]; rfl) ?_
              | refine pl_skip (i := 7) rfl rfl HS5.out rfl (by simp only [List.setIfInBounds_toArray, List.set_cons_succ, List.set_cons_zero]; rfl) ?_
            first
              | refine pl_get (i := 8) rfl rfl HS5.out rfl (fun u hu => by (try dsimp only at hu); go_simp; rfl) (by simp only [List.setIfInBounds_toArray, List.set_cons_succ, List.set_cons_zero]; rfl) ?_
              | refine pl_skip (i := 8) rfl rfl HS5.out rfl (by simp only [List.setIfInBounds_toArray, List.set_cons_succ, List.set_cons_zero]; rfl) ?_
            first
              | refine pl_get (i := 9) rfl rfl HS5.out rfl (fun u hu => by (try dsimp only at hu); go_simp; rfl) (by simp only [List.setIfInBounds_toArray, List.set_cons_succ, List.set_cons_zero]; rfl) ?_
              | refine pl_skip (i := 9) rfl rfl HS5.out rfl (by simp only [List.setIfInBounds_toArray, List.set_cons_succ, List.set_cons_zero]; rfl) ?_
            first
              | refine pl_get (i := 11) rfl rfl HS5.out rfl (fun u hu => by (try dsimp only at hu); go_simp; rfl) (by simp only [List.setIfInBounds_toArray, List.set_cons_succ, List.set_cons_zero]; rfl) ?_
              | refine pl_skip (i := 11) rfl rfl HS5.out rfl (by simp only [List.setIfInBounds_toArray, List.set_cons_succ, List.set_cons_zero]; rfl) ?_
            first
              | refine pl_get (i := 12) rfl rfl HS5.out rfl (fun u hu => by (try dsimp only at hu); go_simp; rfl) (by simp only [List.setIfInBounds_toArray, List.set_cons_succ, List.set_cons_zero]; rfl) ?_
              | refine pl_skip (i := 12) rfl rfl HS5.out rfl (by simp only [List.setIfInBounds_toArray, List.set_cons_succ, List.set_cons_zero]; rfl) ?_
            have HD5 := Lib.hid (HD.out.keep K5)
            refine pl_one (i := 10) rfl ?_
            go_wp2_with ((go_at_call 10; refine (alive_any tb mb p cz (absL p nw NZ) s _ HD5.out.T hs _ Hva.out).mono ?_; rintro _ w5 ⟨rfl, rfl⟩))
            refine pl_next (fun _ => HS5.out) ?_
            first
              | refine pl_get (i := 13) rfl rfl HS5.out rfl (fun u hu => by (try dsimp only at hu); go_simp; rfl) (by simp only [List.setIfInBounds_toArray, List.set_cons_succ, List.set_cons_zero]; rfl) ?_
              | refine pl_skip (i := 13) rfl rfl HS5.out rfl (by simp only [List.setIfInBounds_toArray, List.set_cons_succ, List.set_cons_zero]; rfl) ?_
            first
              | refine pl_get (i := 14) rfl rfl HS5.out rfl (fun u hu => by (try dsimp only at hu); go_simp; rfl) (by simp only [List.setIfInBounds_toArray, List.set_cons_succ, List.set_cons_zero]; rfl) ?_
              | refine pl_skip (i := 14) rfl rfl HS5.out rfl (by simp only [List.setIfInBounds_toArray, List.set_cons_succ, List.set_cons_zero]; rfl) ?_
            first
              | refine pl_get (i := 15) rfl rfl HS5.out rfl (fun u hu => by (try dsimp only at hu); go_simp; rfl) (by simp only [List.setIfInBounds_toArray, List.set_cons_succ, List.set_cons_zero]; rfl) ?_
              | refine pl_skip (i := 15) rfl rfl HS5.out rfl (by simp only [List.setIfInBounds_toArray, List.set_cons_succ, List.set_cons_zero]; rfl) ?_
            first
              | refine pl_get (i := 16) rfl rfl HS5.out rfl (fun u hu => by (try dsimp only at hu); go_simp; rfl) (by simp only [List.setIfInBounds_toArray, List.set_cons_succ, List.set_cons_zero]; rfl) ?_
              | refine pl_skip (i := 16) rfl rfl HS5.out rfl (by simp only [List.setIfInBounds_toArray, List.set_cons_succ, List.set_cons_zero]; rfl) ?_
            first
              | refine pl_get (i := 17) rfl rfl HS5.out rfl (fun u hu => by (try dsimp only at hu); go_simp; rfl) (by simp only [List.setIfInBounds_toArray, List.set_cons_succ, List.set_cons_zero]; rfl) ?_
              | refine pl_skip (i := 17) rfl rfl HS5.out rfl (by simp only [List.setIfInBounds_toArray, List.set_cons_succ, List.set_cons_zero]; rfl) ?_
            first
              | refine pl_get (i := 18) rfl rfl HS5.out rfl (fun u hu => by (try dsimp only at hu); go_simp; rfl) (by simp only [List.setIfInBounds_toArray, List.set_cons_succ, List.set_cons_zero]; rfl) ?_
              | refine pl_skip (i := 18) rfl rfl HS5.out rfl (by simp only [List.setIfInBounds_toArray, List.set_cons_succ, List.set_cons_zero]; rfl) ?_
            first
              | refine pl_get (i := 19) rfl rfl HS5.out rfl (fun u hu => by (try dsimp only at hu); go_simp; rfl) (by simp only [List.setIfInBounds_toArray, List.set_cons_succ, List.set_cons_zero]; rfl) ?_
              | refine pl_skip (i := 19) rfl rfl HS5.out rfl (by simp only [List.setIfInBounds_toArray, List.set_cons_succ, List.set_cons_zero]; rfl) ?_
            refine pl_one (i := 20) rfl ?_
            go_wp2_with (fail)
            refine pl_next (fun _ => HS5.out) ?_
            first
              | refine pl_get (i := 21) rfl rfl HS5.out rfl (fun u hu => by (try dsimp only at hu); go_simp; rfl) (by simp only [List.setIfInBounds_toArray, List.set_cons_succ, List.set_cons_zero]; rfl) ?_
              | refine pl_skip (i := 21) rfl rfl HS5.out rfl (by simp only [List.setIfInBounds_toArray, List.set_cons_succ, List.set_cons_zero]; rfl) ?_
            first
              | refine pl_get (i := 22) rfl rfl HS5.out rfl (fun u hu => by (try dsimp only at hu); go_simp; rfl) (by simp only [List.setIfInBounds_toArray, List.set_cons_succ, List.set_cons_zero]; rfl) ?_
              | refine pl_skip (i := 22) rfl rfl HS5.out rfl (by simp only [List.setIfInBounds_toArray, List.set_cons_succ, List.set_cons_zero]; rfl) ?_
            first
              | refine pl_get (i := 23) rfl rfl HS5.out rfl (fun u hu => by (try dsimp only at hu); go_simp; rfl) (by simp only [List.setIfInBounds_toArray, List.set_cons_succ, List.set_cons_zero]; rfl) ?_
              | refine pl_skip (i := 23) rfl rfl HS5.out rfl (by simp only [List.setIfInBounds_toArray, List.set_cons_succ, List.set_cons_zero]; rfl) ?_
            first
              | refine pl_get (i := 24) rfl rfl HS5.out rfl (fun u hu => by (try dsimp only at hu); go_simp; rfl) (by simp only [List.setIfInBounds_toArray, List.set_cons_succ, List.set_cons_zero]; rfl) ?_
              | refine pl_skip (i := 24) rfl rfl HS5.out rfl (by simp only [List.setIfInBounds_toArray, List.set_cons_succ, List.set_cons_zero]; rfl) ?_
            first
              | refine pl_get (i := 25) rfl rfl HS5.out rfl (fun u hu => by (try dsimp only at hu); go_simp; rfl) (by simp only [List.setIfInBounds_toArray, List.set_cons_succ, List.set_cons_zero]; rfl) ?_
              | refine pl_skip (i := 25) rfl rfl HS5.out rfl (by simp only [List.setIfInBounds_toArray, List.set_cons_succ, List.set_cons_zero]; rfl) ?_
            first
              | refine pl_get (i := 27) rfl rfl HS5.out rfl (fun u hu => by (try dsimp only at hu); go_simp; rfl) (by simp only [List.setIfInBounds_toArray, List.set_cons_succ, List.set_cons_zero]; rfl) ?_
              | refine pl_skip (i := 27) rfl rfl HS5.out rfl (by simp only [List.setIfInBounds_toArray, List.set_cons_succ, List.set_cons_zero]; rfl) ?_
            first
              | refine pl_get (i := 28) rfl rfl HS5.out rfl (fun u hu => by (try dsimp only at hu); go_simp; rfl) (by simp only [List.setIfInBounds_toArray, List.set_cons_succ, List.set_cons_zero]; rfl) ?_
              | refine pl_skip (i := 28) rfl rfl HS5.out rfl (by simp only [List.setIfInBounds_toArray, List.set_cons_succ, List.set_cons_zero]; rfl) ?_
            first
              | refine pl_get (i := 29) rfl rfl HS5.out rfl (fun u hu => by (try dsimp only at hu); go_simp; rfl) (by simp only [List.setIfInBounds_toArray, List.set_cons_succ, List.set_cons_zero]; rfl) ?_
              | refine pl_skip (i := 29) rfl rfl HS5.out rfl (by simp only [List.setIfInBounds_toArray, List.set_cons_succ, List.set_cons_zero]; rfl) ?_
            first
              | refine pl_get (i := 30) rfl rfl HS5.out rfl (fun u hu => by (try dsimp only at hu); go_simp; rfl) (by simp only [List.setIfInBounds_toArray, List.set_cons_succ, List.set_cons_zero]; rfl) ?_
              | refine pl_skip (i := 30) rfl rfl HS5.out rfl (by simp only [List.setIfInBounds_toArray, List.set_cons_succ, List.set_cons_zero]; rfl) ?_
            refine pl_one (i := 26) rfl ?_
            go_wp2_with ((go_at_call 20; refine (changes_any tb mb p cz (absL p nw NZ) _ HD5.out.T).mono ?_; rintro _ _ ⟨rfl, rfl⟩))
            refine pl_next (fun _ => HS5.out) ?_
            first
              | refine pl_get (i := 31) rfl rfl HS5.out rfl (fun u hu => by (try dsimp only at hu); go_simp; rfl) (by simp only [List.setIfInBounds_toArray, List.set_cons_succ, List.set_cons_zero]; rfl) ?_
              | refine pl_skip (i := 31) rfl rfl HS5.out rfl (by simp only [List.setIfInBounds_toArray, List.set_cons_succ, List.set_cons_zero]; rfl) ?_
            first
              | refine pl_get (i := 32) rfl rfl HS5.out rfl (fun u hu => by (try dsimp only at hu); go_simp; rfl) (by simp only [List.setIfInBounds_toArray, List.set_cons_succ, List.set_cons_zero]; rfl) ?_
              | refine pl_skip (i := 32) rfl rfl HS5.out rfl (by simp only [List.setIfInBounds_toArray, List.set_cons_succ, List.set_cons_zero]; rfl) ?_
            refine pl_done ?_
            go_wp2_with fail
            go_roundw
            case rel => exact ⟨k + 1, nw, cz, NZ, hlt, h200, by go_num, HD5.out⟩
            case measure => simp [intOf]; omega
          · have Hx := Lib.hid hx
            have Hl := Lib.hid hl
            clear hx hl
            cases va
            all_goals
              as_aux_lemma =>
              go_wp2_with fail
              refine (find_any rb rb a cap p nw cz NZ s _ HR.out (by omega) _ Hf.out).mono ?_
              rintro _ wz ⟨rfl, rfl⟩
              go_wp2_with fail
              have r2 := blk_cell HR.out.blk 2
              have r3 := blk_cell HR.out.blk 3
              simp at r2 r3
              refine wp_region_pl (fun u => u.cell? ⟨ob, 1, none⟩ = some (.string s) ∧ u.cell? ⟨rb, 2, none⟩ = some (.int .i64 nw) ∧ u.cell? ⟨rb, 3, none⟩ = some (.int .i64 cz)) [] (.rd 0 (.rd 2 (.one 1 (.one 3 (.one 4 (.rd 5 (.rd 6 (.rd 7 (.rd 8 (.rd 9 (.rd 11 (.rd 12 (.one 10 (.rd 13 (.rd 14 (.rd 15 (.rd 16 (.rd 17 (.rd 18 (.rd 19 (.one 20 (.rd 21 (.rd 22 (.rd 23 (.rd 24 (.rd 25 (.rd 27 (.rd 28 (.rd 29 (.rd 30 (.one 26 (.rd 31 (.rd 32 .done))))))))))))))))))))))))))))))))) (by kernel_rfl) (by kernel_rfl) (by kernel_rfl) (by kernel_rfl) (by intro c b d v u h; cases d <;> exact h) ?_
              have kd := (Keep.refl NoB wz).drew
              have HS := Lib.hid (show wz.drew.cell? ⟨ob, 1, none⟩ = some (.string s) ∧ wz.drew.cell? ⟨rb, 2, none⟩ = some (.int .i64 nw) ∧ wz.drew.cell? ⟨rb, 3, none⟩ = some (.int .i64 cz) from ⟨q1, r2, r3⟩)
              clear q1 r2 r3 ql
              first
                | refine pl_get (i := 0) rfl rfl HS.out rfl (fun u hu => by (try dsimp only at hu); go_simp; rfl) (by simp only [List.setIfInBounds_toArray, List.set_cons_succ, List.set_cons_zero]; rfl) ?_
                | refine pl_skip (i := 0) rfl rfl HS.out rfl (by simp only [List.setIfInBounds_toArray, List.set_cons_succ, List.set_cons_zero]; rfl) ?_
              first
                | refine pl_get (i := 2) rfl rfl HS.out rfl (fun u hu => by (try dsimp only at hu); go_simp; rfl) (by simp only [List.setIfInBounds_toArray, List.set_cons_succ, List.set_cons_zero]; rfl) ?_
                | refine pl_skip (i := 2) rfl rfl HS.out rfl (by simp only [List.setIfInBounds_toArray, List.set_cons_succ, List.set_cons_zero]; rfl) ?_
              refine pl_one (i := 1) rfl ?_
              go_wp2_with ((go_at_call 17; refine (live_any tb mb p cz (absL p nw NZ) _ (HD.out.T.keep kd (fun h => h) (fun h => h)) (by rw [absL_length]; omega) V (by rw [abs_live, HV.out])).mono ?_; rintro _ w3 ⟨a3, c3, rfl, O3, k3⟩))
              have K3 := kd.trans k3
              have HS3 := Lib.hid (show w3.cell? ⟨ob, 1, none⟩ = some (.string s) ∧ w3.cell? ⟨rb, 2, none⟩ = some (.int .i64 nw) ∧ w3.cell? ⟨rb, 3, none⟩ = some (.int .i64 cz) from ⟨k3.some HS.out.1 (fun h => h), k3.some HS.out.2.1 (fun h => h), k3.some HS.out.2.2 (fun h => h)⟩)
              refine pl_next (fun _ => HS3.out) ?_
              clear kd k3
              refine pl_one (i := 3) rfl ?_
              go_wp2_with ((go_at_call 18; refine (rlive_any rb rb a cap p nw cz NZ _ (HR.out.keep0 K3) (by omega) HD.out.rv (by omega) V HV.out).mono ?_; rintro _ w4 ⟨⟨a4, c4, rfl, O4⟩, k4⟩))
              have K4 := K3.trans k4
              have O3' := O3.keep k4 (fun _ _ h => h)
              have HS4 := Lib.hid (show w4.cell? ⟨ob, 1, none⟩ = some (.string s) ∧ w4.cell? ⟨rb, 2, none⟩ = some (.int .i64 nw) ∧ w4.cell? ⟨rb, 3, none⟩ = some (.int .i64 cz) from ⟨k4.some HS3.out.1 (fun h => h), k4.some HS3.out.2.1 (fun h => h), k4.some HS3.out.2.2 (fun h => h)⟩)
              refine pl_next (fun _ => HS4.out) ?_
              clear K3 k4 O3 HS3 HS
              refine pl_one (i := 4) rfl ?_
              go_wp2_with ((go_at_call 13; refine (same_any _ _ a3 a4 c3 c4 V _ O3' O4 (by omega)).mono ?_; rintro _ w5 ⟨rfl, k5⟩))
              have K5 := K4.trans k5
              have HS5 := Lib.hid (show w5.cell? ⟨ob, 1, none⟩ = some (.string s) ∧ w5.cell? ⟨rb, 2, none⟩ = some (.int .i64 nw) ∧ w5.cell? ⟨rb, 3, none⟩ = some (.int .i64 cz) from ⟨k5.some HS4.out.1 (fun h => h), k5.some HS4.out.2.1 (fun h => h), k5.some HS4.out.2.2 (fun h => h)⟩)
              refine pl_next (fun _ => HS5.out) ?_
              clear K4 k5 O3' O4 HS4
              first
                | refine pl_get (i := 5) rfl rfl HS5.out rfl (fun u hu => by (try dsimp only at hu); go_simp; rfl) (by simp only [List.setIfInBounds_toArray, List.set_cons_succ, List.set_cons_zero]; rfl) ?_
                | refine pl_skip (i := 5) rfl rfl HS5.out rfl (by simp only [List.setIfInBounds_toArray, List.set_cons_succ, List.set_cons_zero]; rfl) ?_
              first
                | refine pl_get (i := 6) rfl rfl HS5.out rfl (fun u hu => by (try dsimp only at hu); go_simp; rfl) (by simp only [List.setIfInBounds_toArray, List.set_cons_succ, List.set_cons_zero]; rfl) ?_
                | refine pl_skip (i := 6) rfl rfl HS5.out rfl (by simp only [List.setIfInBounds_toArray, List.set_cons_succ, List.set_cons_zero]; rfl) ?_
              first
                | refine pl_get (i := 7) rfl rfl HS5.out rfl (fun u hu => by (try dsimp only at hu); go_simp; rfl) (by simp only [List.setIfInBounds_toArray, List.set_cons_succ, List.set_cons_zero]; rfl) ?_
                | refine pl_skip (i := 7) rfl rfl HS5.out rfl (by simp only [List.setIfInBounds_toArray, List.set_cons_succ, List.set_cons_zero]; rfl) ?_
              first
                | refine pl_get (i := 8) rfl rfl HS5.out rfl (fun u hu => by (try dsimp only at hu); go_simp; rfl) (by simp only [List.setIfInBounds_toArray, List.set_cons_succ, List.set_cons_zero]; rfl) ?_
                | refine pl_skip (i := 8) rfl rfl HS5.out rfl (by simp only [List.setIfInBounds_toArray, List.set_cons_succ, List.set_cons_zero]; rfl) ?_
              first
                | refine pl_get (i := 9) rfl rfl HS5.out rfl (fun u hu => by (try dsimp only at hu); go_simp; rfl) (by simp only [List.setIfInBounds_toArray, List.set_cons_succ, List.set_cons_zero]; rfl) ?_
                | refine pl_skip (i := 9) rfl rfl HS5.out rfl (by simp only [List.setIfInBounds_toArray, List.set_cons_succ, List.set_cons_zero]; rfl) ?_
              first
                | refine pl_get (i := 11) rfl rfl HS5.out rfl (fun u hu => by (try dsimp only at hu); go_simp; rfl) (by simp only [List.setIfInBounds_toArray, List.set_cons_succ, List.set_cons_zero]; rfl) ?_
                | refine pl_skip (i := 11) rfl rfl HS5.out rfl (by simp only [List.setIfInBounds_toArray, List.set_cons_succ, List.set_cons_zero]; rfl) ?_
              first
                | refine pl_get (i := 12) rfl rfl HS5.out rfl (fun u hu => by (try dsimp only at hu); go_simp; rfl) (by simp only [List.setIfInBounds_toArray, List.set_cons_succ, List.set_cons_zero]; rfl) ?_
                | refine pl_skip (i := 12) rfl rfl HS5.out rfl (by simp only [List.setIfInBounds_toArray, List.set_cons_succ, List.set_cons_zero]; rfl) ?_
              have HD5 := Lib.hid (HD.out.keep K5)
              refine pl_one (i := 10) rfl ?_
              go_wp2_with ((go_at_call 10; refine (alive_any tb mb p cz (absL p nw NZ) s _ HD5.out.T hs _ Hva.out).mono ?_; rintro _ w5 ⟨rfl, rfl⟩))
              refine pl_next (fun _ => HS5.out) ?_
              first
                | refine pl_get (i := 13) rfl rfl HS5.out rfl (fun u hu => by (try dsimp only at hu); go_simp; rfl) (by simp only [List.setIfInBounds_toArray, List.set_cons_succ, List.set_cons_zero]; rfl) ?_
                | refine pl_skip (i := 13) rfl rfl HS5.out rfl (by simp only [List.setIfInBounds_toArray, List.set_cons_succ, List.set_cons_zero]; rfl) ?_
              first
                | refine pl_get (i := 14) rfl rfl HS5.out rfl (fun u hu => by (try dsimp only at hu); go_simp; rfl) (by simp only [List.setIfInBounds_toArray, List.set_cons_succ, List.set_cons_zero]; rfl) ?_
                | refine pl_skip (i := 14) rfl rfl HS5.out rfl (by simp only [List.setIfInBounds_toArray, List.set_cons_succ, List.set_cons_zero]; rfl) ?_
              first
                | refine pl_get (i := 15) rfl rfl HS5.out rfl (fun u hu => by (try dsimp only at hu); go_simp; rfl) (by simp only [List.setIfInBounds_toArray, List.set_cons_succ, List.set_cons_zero]; rfl) ?_
                | refine pl_skip (i := 15) rfl rfl HS5.out rfl (by simp only [List.setIfInBounds_toArray, List.set_cons_succ, List.set_cons_zero]; rfl) ?_
              first
                | refine pl_get (i := 16) rfl rfl HS5.out rfl (fun u hu => by (try dsimp only at hu); go_simp; rfl) (by simp only [List.setIfInBounds_toArray, List.set_cons_succ, List.set_cons_zero]; rfl) ?_
                | refine pl_skip (i := 16) rfl rfl HS5.out rfl (by simp only [List.setIfInBounds_toArray, List.set_cons_succ, List.set_cons_zero]; rfl) ?_
              first
                | refine pl_get (i := 17) rfl rfl HS5.out rfl (fun u hu => by (try dsimp only at hu); go_simp; rfl) (by simp only [List.setIfInBounds_toArray, List.set_cons_succ, List.set_cons_zero]; rfl) ?_
                | refine pl_skip (i := 17) rfl rfl HS5.out rfl (by simp only [List.setIfInBounds_toArray, List.set_cons_succ, List.set_cons_zero]; rfl) ?_
              first
                | refine pl_get (i := 18) rfl rfl HS5.out rfl (fun u hu => by (try dsimp only at hu); go_simp; rfl) (by simp only [List.setIfInBounds_toArray, List.set_cons_succ, List.set_cons_zero]; rfl) ?_
                | refine pl_skip (i := 18) rfl rfl HS5.out rfl (by simp only [List.setIfInBounds_toArray, List.set_cons_succ, List.set_cons_zero]; rfl) ?_
              first
                | refine pl_get (i := 19) rfl rfl HS5.out rfl (fun u hu => by (try dsimp only at hu); go_simp; rfl) (by simp only [List.setIfInBounds_toArray, List.set_cons_succ, List.set_cons_zero]; rfl) ?_
                | refine pl_skip (i := 19) rfl rfl HS5.out rfl (by simp only [List.setIfInBounds_toArray, List.set_cons_succ, List.set_cons_zero]; rfl) ?_
              refine pl_one (i := 20) rfl ?_
              go_wp2_with ((go_at_call 19; refine (lives_any rb rb a cap p nw cz NZ i nw _ (HR.out.keep0 K5) (by omega) x Hx.out (by have := HD.out.rv x (List.mem_of_getElem? Hx.out); omega) _ Hl.out).mono ?_; rintro _ w6 ⟨rfl, k6⟩))
              have HS6 := Lib.hid (show w6.cell? ⟨ob, 1, none⟩ = some (.string s) ∧ w6.cell? ⟨rb, 2, none⟩ = some (.int .i64 nw) ∧ w6.cell? ⟨rb, 3, none⟩ = some (.int .i64 cz) from ⟨k6.some HS5.out.1 (fun h => h), k6.some HS5.out.2.1 (fun h => h), k6.some HS5.out.2.2 (fun h => h)⟩)
              refine pl_next (fun _ => HS6.out) ?_
              have HD6 := Lib.hid (HD5.out.keep k6)
              clear HS5 HD5
              have HS5 := HS6
              have HD5 := HD6
              clear HS6 HD6
              first
                | refine pl_get (i := 21) rfl rfl HS5.out rfl (fun u hu => by (try dsimp only at hu); go_simp; rfl) (by simp only [List.setIfInBounds_toArray, List.set_cons_succ, List.set_cons_zero]; rfl) ?_
                | refine pl_skip (i := 21) rfl rfl HS5.out rfl (by simp only [List.setIfInBounds_toArray, List.set_cons_succ, List.set_cons_zero]; rfl) ?_
              first
                | refine pl_get (i := 22) rfl rfl HS5.out rfl (fun u hu => by (try dsimp only at hu); go_simp; rfl) (by simp only [List.setIfInBounds_toArray, List.set_cons_succ, List.set_cons_zero]; rfl) ?_
                | refine pl_skip (i := 22) rfl rfl HS5.out rfl (by simp only [List.setIfInBounds_toArray, List.set_cons_succ, List.set_cons_zero]; rfl) ?_
              first
                | refine pl_get (i := 23) rfl rfl HS5.out rfl (fun u hu => by (try dsimp only at hu); go_simp; rfl) (by simp only [List.setIfInBounds_toArray, List.set_cons_succ, List.set_cons_zero]; rfl) ?_
                | refine pl_skip (i := 23) rfl rfl HS5.out rfl (by simp only [List.setIfInBounds_toArray, List.set_cons_succ, List.set_cons_zero]; rfl) ?_
              first
                | refine pl_get (i := 24) rfl rfl HS5.out rfl (fun u hu => by (try dsimp only at hu); go_simp; rfl) (by simp only [List.setIfInBounds_toArray, List.set_cons_succ, List.set_cons_zero]; rfl) ?_
                | refine pl_skip (i := 24) rfl rfl HS5.out rfl (by simp only [List.setIfInBounds_toArray, List.set_cons_succ, List.set_cons_zero]; rfl) ?_
              first
                | refine pl_get (i := 25) rfl rfl HS5.out rfl (fun u hu => by (try dsimp only at hu); go_simp; rfl) (by simp only [List.setIfInBounds_toArray, List.set_cons_succ, List.set_cons_zero]; rfl) ?_
                | refine pl_skip (i := 25) rfl rfl HS5.out rfl (by simp only [List.setIfInBounds_toArray, List.set_cons_succ, List.set_cons_zero]; rfl) ?_
              first
                | refine pl_get (i := 27) rfl rfl HS5.out rfl (fun u hu => by (try dsimp only at hu); go_simp; rfl) (by simp only [List.setIfInBounds_toArray, List.set_cons_succ, List.set_cons_zero]; rfl) ?_
                | refine pl_skip (i := 27) rfl rfl HS5.out rfl (by simp only [List.setIfInBounds_toArray, List.set_cons_succ, List.set_cons_zero]; rfl) ?_
              first
                | refine pl_get (i := 28) rfl rfl HS5.out rfl (fun u hu => by (try dsimp only at hu); go_simp; rfl) (by simp only [List.setIfInBounds_toArray, List.set_cons_succ, List.set_cons_zero]; rfl) ?_
                | refine pl_skip (i := 28) rfl rfl HS5.out rfl (by simp only [List.setIfInBounds_toArray, List.set_cons_succ, List.set_cons_zero]; rfl) ?_
              first
                | refine pl_get (i := 29) rfl rfl HS5.out rfl (fun u hu => by (try dsimp only at hu); go_simp; rfl) (by simp only [List.setIfInBounds_toArray, List.set_cons_succ, List.set_cons_zero]; rfl) ?_
                | refine pl_skip (i := 29) rfl rfl HS5.out rfl (by simp only [List.setIfInBounds_toArray, List.set_cons_succ, List.set_cons_zero]; rfl) ?_
              first
                | refine pl_get (i := 30) rfl rfl HS5.out rfl (fun u hu => by (try dsimp only at hu); go_simp; rfl) (by simp only [List.setIfInBounds_toArray, List.set_cons_succ, List.set_cons_zero]; rfl) ?_
                | refine pl_skip (i := 30) rfl rfl HS5.out rfl (by simp only [List.setIfInBounds_toArray, List.set_cons_succ, List.set_cons_zero]; rfl) ?_
              refine pl_one (i := 26) rfl ?_
              go_wp2_with ((go_at_call 20; refine (changes_any tb mb p cz (absL p nw NZ) _ HD5.out.T).mono ?_; rintro _ _ ⟨rfl, rfl⟩))
              refine pl_next (fun _ => HS5.out) ?_
              first
                | refine pl_get (i := 31) rfl rfl HS5.out rfl (fun u hu => by (try dsimp only at hu); go_simp; rfl) (by simp only [List.setIfInBounds_toArray, List.set_cons_succ, List.set_cons_zero]; rfl) ?_
                | refine pl_skip (i := 31) rfl rfl HS5.out rfl (by simp only [List.setIfInBounds_toArray, List.set_cons_succ, List.set_cons_zero]; rfl) ?_
              first
                | refine pl_get (i := 32) rfl rfl HS5.out rfl (fun u hu => by (try dsimp only at hu); go_simp; rfl) (by simp only [List.setIfInBounds_toArray, List.set_cons_succ, List.set_cons_zero]; rfl) ?_
                | refine pl_skip (i := 32) rfl rfl HS5.out rfl (by simp only [List.setIfInBounds_toArray, List.set_cons_succ, List.set_cons_zero]; rfl) ?_
              refine pl_done ?_
              go_wp2_with fail
              go_roundw
              case rel => exact ⟨k + 1, nw, cz, NZ, hlt, h200, by go_num, HD5.out⟩
              case measure => simp [intOf]; omega
    · have hout : (¬ k < len2 ∧ decide ((k : Int) < (len2 : Int)) = false) ∨ (k < len2 ∧ ¬ k < 200 ∧ decide ((k : Int) < 200) = false) := by
        by_cases h1 : k < len2
        · right
          have : ¬ k < 200 := fun h => hgo ⟨h1, h⟩
          exact ⟨h1, this, by simp; omega⟩
        · left
          exact ⟨h1, by simp; omega⟩
      have Hk := D.hk
      clear hgo D
      rcases hout with ⟨h1, hd⟩ | ⟨h1, h2, hd⟩
      all_goals
        go_wp2_with fail
        refine (nlive_any _).mono ?_
        rintro _ _ ⟨rfl, rfl⟩
        go_wp2_with fail
        refine (nalive_any sA _).mono ?_
        rintro _ _ ⟨rfl, rfl⟩
        go_wp2_with fail
        refine (nchanges_any _).mono ?_
        rintro _ _ ⟨rfl, rfl⟩
        go_wp2
        go_ret
        exact ⟨rfl, Hk.below (fun _ _ h => h)⟩
end Go.Proofs.Ytjfkpjooandpeaa
