/- The walk of LruNewest. -/
import Derived.Test.YtgbcjnejlelndaaLruReservesW
import Derived.Test.YtgbcjnejlelndaaLibReg
namespace Go.Proofs.Ytgbcjnejlelndaa
open Go Go.RowKit Go.Maps

theorem fnd_cons_self (x : TH) (M : List TH) : fnd (x :: M) x.k = some x := by simp [fnd]




set_option maxRecDepth 100000 in
set_option maxHeartbeats 4000000 in
theorem newest_walk (room : Int) (hroom : room ≤ 9223372036854775807) (a0 : Option Addr) (len0 cap0 : Nat) (z : Nat → LTh) (w : World) (h0 : IsTh w a0 len0 z) :
    Calls Try.prog 4 #[.int .i64 room, .slice a0 len0 cap0] w fun e w' => e = .returned (.bool true) ∧ Below w.heap.size w w' := by
  obtain ⟨hmax, hok, hrow⟩ := h0
  unfold maxLen at hmax
  obtain ⟨r, hr⟩ : ∃ r, max room 0 = r := ⟨_, rfl⟩
  have hr1 : r ≤ 9223372036854775807 := by omega
  have hr3 : 0 ≤ r := by omega
  have Hr := Lib.hid hr
  clear hr
  go_enter Try.func4, Try.ntmps4
  go_wp2_with fail
  refine (awake_any _).mono ?_
  rintro _ w1 ⟨rfl, k1⟩
  go_wp2_with fail
  refine (new_any room r _ Hr.out hr1).mono ?_
  rintro _ w2 ⟨rfl, T2, k2, s2⟩
  have S2 := st_new k1 T2 k2
  generalize w1.heap.size + 1 = cb at *
  generalize w1.heap.size = mb at *
  clear T2 k1 k2 s2
  go_wp2_with fail
  go_loopw [6] (fun i wr => ∃ (k : Nat) (N : List TH), k ≤ len0 ∧ k ≤ 200 ∧ i = .int .i64 k ∧ St w wr cb mb r 0 N k) (fun i _ => len0 - (intOf i).toNat)
  case atStart => exact ⟨0, [], Nat.zero_le _, Nat.zero_le _, rfl, S2⟩
  case round =>
    clear S2
    obtain ⟨k, N, hk0, hk200, rfl, S⟩ := hrel
    by_cases hgo : k < len0 ∧ k < 200
    · obtain ⟨hlt, h200⟩ := hgo
      have h200i : decide ((k : Int) < 200) = true := by simp; omega
      rcases hrow with h | ⟨b, off, rfl, hb, hc⟩
      · omega
      have hcw := hc k hlt
      have hop := hok k hlt
      have hcl := hc (len0 - 1) (by omega)
      have hol := (hok (len0 - 1) (by omega)).1
      clear hc
      generalize hzk : z k = x at hcw hop
      clear hzk
      obtain ⟨key, s, g⟩ := x
      generalize z (len0 - 1) = x2 at hcl hol
      obtain ⟨key2, s2, g2⟩ := x2
      have l0 := S.hk.some (hcw 0 (by omega)) (fun h => h)
      have l1 := S.hk.some (hcw 1 (by omega)) (fun h => h)
      have l2 := S.hk.some (hcw 2 (by omega)) (fun h => h)
      have q0 := hcl 0 (by omega)
      simp only [Nat.add_zero, thCells, List.getElem?_cons_zero] at l0 l1 l2 q0
      have Hq0 := Lib.hid q0
      have hb0 : b < wr.heap.size := Nat.lt_of_lt_of_le hb S.hk.size
      obtain ⟨hkey, hs0⟩ := hop
      simp only at hkey hol
      clear hcw hcl q0 hs0
      have HS := Lib.hid S
      clear S
      go_wp2_with fail
      have SV := HS.out.keep ((Keep.refl NoB wr).alloc (.cells #[.string key, .int .i64 s, .bool g] 35))
      have BV := blk_new wr (.cells #[.string key, .int .i64 s, .bool g] 35)
      generalize World.alloc wr (.cells #[.string key, .int .i64 s, .bool g] 35) = V at SV BV ⊢
      generalize wr.heap.size = ob at BV ⊢
      clear l0 l1 l2 hb0
      have hmx : (if room < 0 then 0 else room) = r := by have := Hr.out; split <;> omega
      by_cases hp : 0 ≤ s ∧ s ≤ r - 0
      · obtain ⟨hp1, hp2⟩ := hp
        obtain ⟨M, hM⟩ : ∃ l, (dropK N key).take (wayJ (r - s - 0) (dropK N key) (dropK N key).length) = l := ⟨_, rfl⟩
        obtain ⟨gone, hg⟩ : ∃ l, goneK (dropK N key) (wayJ (r - s - 0) (dropK N key) (dropK N key).length) = l := ⟨_, rfl⟩
        have HM := Lib.hid hM
        have Hg := Lib.hid hg
        clear hM hg
        refine (put_st SV key s k hkey hp1 hp2 (by omega) M gone HM.out Hg.out).mono ?_
        rintro _ w6 ⟨a6, c6, b6, rfl, _, S6, o6⟩
        have B6 := o6 _ _ _ _ BV (by decide) (by decide)
        have HB6 := Lib.hid B6
        have HS6 := Lib.hid S6
        have d1 : decide (0 ≤ s) = true := by simpa using hp1
        have d2 : decide (s ≤ r) = true := by simp; omega
        have y0 := blk_cell B6 0
        have y1 := blk_cell B6 1
        have y2 := blk_cell B6 2
        have yl := blk_lt B6
        simp at y0 y1 y2
        clear SV BV o6 B6 S6 HS
        go_wp2_with fail
        refine (peek_st HS6.out key hkey (k : Int) (getV_some (fnd_cons_self ⟨b6, key, k, s⟩ M)) true (by rw [fnd_cons_self ⟨b6, key, k, s⟩ M]; rfl)).mono ?_
        rintro _ w6 ⟨rfl, rfl⟩
        obtain ⟨G, hG⟩ : ∃ l, (⟨b6, key, k, s⟩ :: M : List TH).map (·.k) = l := ⟨_, rfl⟩
        have HG := Lib.hid hG
        have hG0 : G[0]? = some key := by rw [← hG]; rfl
        have HG0 := Lib.hid hG0
        have hGl : 0 < G.length := by rw [← hG]; simp
        have hkl : k + 1 ≤ 100000 := by omega
        clear hG hG0
        go_wp2_with fail
        refine wp_region_plan (fun u => u.cell? ⟨ob, 0, none⟩ = some (.string key)) [] [(true, 0), (true, 1), (true, 2), (true, 3), (true, 4), (true, 5), (true, 6), (true, 7), (true, 8), (true, 12), (true, 13), (false, 9), (false, 10), (false, 11), (false, 14), (false, 15)] (by kernel_rfl) (by kernel_rfl) (by kernel_rfl) (by kernel_rfl) (by intro c b d v u h; cases d <;> exact h) ?_
        have HSS := Lib.hid (show w6.drew.cell? ⟨ob, 0, none⟩ = some (.string key) from y0)
        have hxd := (Keep.refl NoB w6).drew
        clear y0 y1 y2 yl
        refine plan_get (i := 0) rfl rfl HSS.out rfl (fun u hu => by (try dsimp only at hu); go_simp; rfl) (by simp only [List.setIfInBounds_toArray, List.set_cons_succ, List.set_cons_zero]; rfl) ?_
        refine plan_get (i := 1) rfl rfl HSS.out rfl (fun u hu => by (try dsimp only at hu); go_simp; rfl) (by simp only [List.setIfInBounds_toArray, List.set_cons_succ, List.set_cons_zero]; rfl) ?_
        refine plan_get (i := 2) rfl rfl HSS.out rfl (fun u hu => by (try dsimp only at hu); go_simp; rfl) (by simp only [List.setIfInBounds_toArray, List.set_cons_succ, List.set_cons_zero]; rfl) ?_
        refine plan_get (i := 3) rfl rfl HSS.out rfl (fun u hu => by (try dsimp only at hu); go_simp; rfl) (by simp only [List.setIfInBounds_toArray, List.set_cons_succ, List.set_cons_zero]; rfl) ?_
        refine plan_get (i := 4) rfl rfl HSS.out rfl (fun u hu => by (try dsimp only at hu); go_simp; rfl) (by simp only [List.setIfInBounds_toArray, List.set_cons_succ, List.set_cons_zero]; rfl) ?_
        refine plan_get (i := 5) rfl rfl HSS.out rfl (fun u hu => by (try dsimp only at hu); go_simp; rfl) (by simp only [List.setIfInBounds_toArray, List.set_cons_succ, List.set_cons_zero]; rfl) ?_
        refine plan_get (i := 6) rfl rfl HSS.out rfl (fun u hu => by (try dsimp only at hu); go_simp; rfl) (by simp only [List.setIfInBounds_toArray, List.set_cons_succ, List.set_cons_zero]; rfl) ?_
        refine plan_get (i := 7) rfl rfl HSS.out rfl (fun u hu => by (try dsimp only at hu); go_simp; rfl) (by simp only [List.setIfInBounds_toArray, List.set_cons_succ, List.set_cons_zero]; rfl) ?_
        refine plan_get (i := 8) rfl rfl HSS.out rfl (fun u hu => by (try dsimp only at hu); go_simp; rfl) (by simp only [List.setIfInBounds_toArray, List.set_cons_succ, List.set_cons_zero]; rfl) ?_
        refine plan_get (i := 12) rfl rfl HSS.out rfl (fun u hu => by (try dsimp only at hu); go_simp; rfl) (by simp only [List.setIfInBounds_toArray, List.set_cons_succ, List.set_cons_zero]; rfl) ?_
        refine plan_get (i := 13) rfl rfl HSS.out rfl (fun u hu => by (try dsimp only at hu); go_simp; rfl) (by simp only [List.setIfInBounds_toArray, List.set_cons_succ, List.set_cons_zero]; rfl) ?_
        refine plan_one (i := 9) rfl ?_
        go_wp2_with ((go_at_call 14; refine (keys_st (HS6.out.keep hxd) hkl G HG.out).mono ?_; rintro _ w7 ⟨a7, c7, rfl, O7, k7⟩))
        have S7 := (HS6.out.keep hxd).keep k7
        have HSS7 := Lib.hid (k7.some HSS.out (fun h => h))
        have HB7 := Lib.hid (blk_keep (blk_drew HB6.out) k7 (fun h => h))
        obtain ⟨g7, hv7, _, hl7, m7, _⟩ := O7.cell1 cS_len HG0.out rfl
        cases hv7
        have HS7 := Lib.hid S7
        clear S7 O7 k7 hxd HS6 HB6
        refine after_next (fun _ => HSS7.out) ?_
        refine plan_one (i := 10) rfl ?_
        go_wp2_with (fail)
        refine after_next (fun _ => HSS7.out) ?_
        refine plan_one (i := 11) rfl ?_
        go_wp2_with (fail)
        refine after_next (fun _ => HSS7.out) ?_
        refine plan_one (i := 14) rfl ?_
        go_wp2_with (fail)
        refine after_next (fun _ => HSS7.out) ?_
        refine plan_one (i := 15) rfl ?_
        go_wp2_with (fail)
        refine after_next (fun _ => HSS7.out) ?_
        refine plan_done ?_
        have e3 : ((len0 : Int) - 1).toNat = len0 - 1 := by omega
        have e4 : (1 : Int) ≤ (len0 : Int) := by omega
        have e5 : (0 : Int) ≤ (len0 : Int) - 1 := by omega
        have e6 : (len0 : Int) - 1 < (len0 : Int) := by omega
        have t0 := HS7.out.hk.some Hq0.out (fun h => h)
        have tl : b < w7.heap.size := Nat.lt_of_lt_of_le hb HS7.out.hk.size
        have B7 := HB7.out
        have y0 := blk_cell B7 0
        have y1 := blk_cell B7 1
        have y2 := blk_cell B7 2
        have yl := blk_lt B7
        simp at y0 y1 y2
        clear B7 m7 hl7
        cases g
        · go_wp2_with fail
          go_roundw
          case rel => exact ⟨k + 1, _, hlt, h200, by go_num, HS7.out⟩
          case measure => simp [intOf]; omega
        · obtain ⟨v2, hv2⟩ : ∃ v, getV (⟨b6, key, k, s⟩ :: M) key2 = v := ⟨_, rfl⟩
          have Hv2 := Lib.hid hv2
          clear hv2
          cases hb2 : (fnd (⟨b6, key, k, s⟩ :: M) key2) with
          | none =>
            have Hb2 := Lib.hid hb2
            clear hb2
            go_wp2_with fail
            refine (get_st HS7.out key2 hol v2 Hv2.out false (by rw [Hb2.out]; rfl)).mono ?_
            rintro _ w8 ⟨rfl, S8, _⟩
            have HS8 := Lib.hid S8
            clear y0 y1 y2 yl
            clear S8 t0 tl
            go_wp2_with fail
            go_roundw
            case rel => exact ⟨k + 1, _, hlt, h200, by go_num, HS8.out⟩
            case measure => simp [intOf]; omega
          | some x3 =>
            have Hb2 := Lib.hid hb2
            clear hb2
            obtain ⟨G2, hG2⟩ : ∃ l, (getN (⟨b6, key, k, s⟩ :: M) key2).map (·.k) = l := ⟨_, rfl⟩
            have HG2 := Lib.hid hG2
            have hG20 : G2[0]? = some key2 := by rw [← hG2, getN_some Hb2.out, ← (fnd_split Hb2.out).1]; rfl
            have HG20 := Lib.hid hG20
            have hG2l : 0 < G2.length := (List.getElem?_eq_some_iff.1 hG20).1
            clear hG2 hG20
            go_wp2_with fail
            refine (get_st HS7.out key2 hol v2 Hv2.out true (by rw [Hb2.out]; rfl)).mono ?_
            rintro _ w8 ⟨rfl, S8, _⟩
            have HS8 := Lib.hid S8
            clear y0 y1 y2 yl
            clear S8 t0 tl
            go_wp2_with (first
              | (go_at_call 14
                 refine (keys_st HS8.out hkl G2 HG2.out).mono ?_
                 rintro _ w9 ⟨a9, c9, rfl, O9, k9⟩
                 obtain ⟨g9, hv9, _, hl9, m9, _⟩ := O9.cell1 cS_len HG20.out rfl
                 cases hv9
                 have HS9 := Lib.hid (HS8.out.keep k9)
                 clear O9 k9))
            go_roundw
            case rel => exact ⟨k + 1, _, hlt, h200, by go_num, HS9.out⟩
            case measure => simp [intOf]; omega
      · refine (putno_st SV key s k hkey (by omega)).mono ?_
        rintro _ w6 ⟨rfl, S6, o6⟩
        have B6 := o6 _ _ _ _ BV (by decide) (by decide)
        have HS6 := Lib.hid S6
        have y0 := blk_cell B6 0
        have y1 := blk_cell B6 1
        have y2 := blk_cell B6 2
        have yl := blk_lt B6
        simp at y0 y1 y2
        clear SV BV o6 B6 S6 HS
        have hno : (decide (0 ≤ s) = false ∧ s < 0) ∨ (decide (0 ≤ s) = true ∧ decide (s ≤ r) = false ∧ r < s) := by
          by_cases h0 : 0 ≤ s
          · right; simp; omega
          · left; simp; omega
        clear hp
        rcases hno with ⟨d1, hn1⟩ | ⟨d1, d2, hn1⟩
        all_goals
          go_wp2_with fail
          go_roundw
          case rel => exact ⟨k + 1, _, hlt, h200, by go_num, HS6.out.le (by omega)⟩
          case measure => simp [intOf]; omega
    · have hout : (¬ k < len0 ∧ decide ((k : Int) < (len0 : Int)) = false) ∨ (k < len0 ∧ ¬ k < 200 ∧ decide ((k : Int) < 200) = false) := by
        by_cases h1 : k < len0
        · right
          have : ¬ k < 200 := fun h => hgo ⟨h1, h⟩
          exact ⟨h1, this, by simp; omega⟩
        · left
          exact ⟨h1, by simp; omega⟩
      have HS := Lib.hid S
      clear hgo S
      rcases hout with ⟨h1, hd⟩ | ⟨h1, h2, hd⟩
      all_goals
        go_wp2_with fail
        go_ret
        exact ⟨rfl, HS.out.hk.below (fun _ _ h => h)⟩
end Go.Proofs.Ytgbcjnejlelndaa
