/- The walk of LruBound. -/
import Derived.Test.YtgbcjnejlelndaaLruQ
import Derived.OpenShut
namespace Go.Proofs.Ytgbcjnejlelndaa
open Go Go.RowKit Go.Maps




set_option maxRecDepth 100000 in
set_option maxHeartbeats 4000000 in
theorem bound_walk (room : Int) (hroom : room ≤ 9223372036854775807) (hroom2 : -9223372036854775808 ≤ room) (a0 : Option Addr) (len0 cap0 : Nat) (z : Nat → LOp) (w : World) (h0 : IsL w a0 len0 z) :
    Calls Try.prog 5 #[.int .i64 room, .slice a0 len0 cap0] w fun e w' => e = .returned (.bool true) ∧ Below w.heap.size w w' := by
  obtain ⟨hmax, hok, hrow⟩ := h0
  unfold maxLen at hmax
  obtain ⟨r, hr⟩ : ∃ r, max room 0 = r := ⟨_, rfl⟩
  have hr1 : r ≤ 9223372036854775807 := by omega
  have hr2 : room = r ∨ (r = 0 ∧ room < 0) := by omega
  have hr3 : 0 ≤ r := by omega
  have Hr := Lib.hid hr
  have Hr2 := Lib.hid hr2
  clear hr hr2
  go_enter Try.func5, Try.ntmps5
  go_wp2_with fail
  refine (awake_any _).mono ?_
  rintro _ w1 ⟨rfl, k1⟩
  go_wp2_with fail
  refine (new_any room r _ Hr.out hr1).mono ?_
  rintro _ w2 ⟨rfl, T2, k2, s2⟩
  have S2 := st_new k1 T2 k2
  generalize w1.heap.size + 1 = cb at *
  generalize w1.heap.size = mb at *
  clear T2 k1 k2 s2
  go_wp2_with fail
  go_loopw [6] (fun i wr => ∃ (k : Nat) (kept : Int) (N : List TH), k ≤ len0 ∧ k ≤ 200 ∧ i = .int .i64 k ∧ St w wr cb mb r kept N (2 * k)) (fun i _ => len0 - (intOf i).toNat)
  case atStart => exact ⟨0, 0, [], Nat.zero_le _, Nat.zero_le _, rfl, S2⟩
  case round =>
    clear S2
    obtain ⟨k, kept, N, hk0, hk200, rfl, S⟩ := hrel
    by_cases hgo : k < len0 ∧ k < 200
    · obtain ⟨hlt, h200⟩ := hgo
      have h200i : decide ((k : Int) < 200) = true := by simp; omega
      rcases hrow with h | ⟨b, off, rfl, hb, hc⟩
      · omega
      have hcw := hc k hlt
      have hop := hok k hlt
      clear hc
      generalize hzk : z k = x at hcw hop
      clear hzk
      obtain ⟨kd, key, s, n⟩ := x
      have l0 := S.hk.some (hcw 0 (by omega)) (fun h => h)
      have l1 := S.hk.some (hcw 1 (by omega)) (fun h => h)
      have l2 := S.hk.some (hcw 2 (by omega)) (fun h => h)
      have l3 := S.hk.some (hcw 3 (by omega)) (fun h => h)
      simp only [Nat.add_zero] at l0 l1 l2 l3
      have hb0 : b < wr.heap.size := Nat.lt_of_lt_of_le hb S.hk.size
      obtain ⟨_, hkey, hs0, _⟩ := hop
      simp only at hkey hs0
      have hs := bounds_i64 hs0
      clear hcw hs0
      have hk1 : 2 * k ≤ 1000 := by omega
      have HS := Lib.hid S
      clear S
      obtain ⟨u0, hu0⟩ : ∃ u, sumS N + kept = u := ⟨_, rfl⟩
      obtain ⟨v0, hv0⟩ : ∃ v, getV N key = v := ⟨_, rfl⟩
      obtain ⟨b0, hb00⟩ : ∃ b, (fnd N key).isSome = b := ⟨_, rfl⟩
      have Hu0 := Lib.hid hu0
      have Hv0 := Lib.hid hv0
      have Hb00 := Lib.hid hb00
      clear hu0 hv0 hb00
      go_wp2_with fail
      have SV := HS.out.keep ((Keep.refl NoB wr).alloc (.cells #[.int .i64 kd, .string key, .int .i64 s, .int .i64 n] 39))
      have BV := blk_new wr (.cells #[.int .i64 kd, .string key, .int .i64 s, .int .i64 n] 39)
      generalize World.alloc wr (.cells #[.int .i64 kd, .string key, .int .i64 s, .int .i64 n] 39) = V at SV BV ⊢
      generalize wr.heap.size = ob at BV ⊢
      clear l0 l1 l2 l3 hb0
      refine (used_st SV u0 Hu0.out).mono ?_
      rintro _ w3 ⟨rfl, S3, k3⟩
      have B3 := blk_keep BV k3 (fun h => h)
      have HB3 := Lib.hid B3
      have HS3 := Lib.hid S3
      have y0 := blk_cell B3 0
      have y1 := blk_cell B3 1
      have y2 := blk_cell B3 2
      have y3 := blk_cell B3 3
      have yl := blk_lt B3
      simp at y0 y1 y2 y3
      clear SV BV k3 B3 S3 HS
      go_wp2_with fail
      refine (peek_st HS3.out key hkey v0 Hv0.out b0 Hb00.out).mono ?_
      rintro _ w3 ⟨rfl, rfl⟩
      have hkd : kd = 0 ∨ kd = 1 ∨ kd = 3 ∨ kd = 4 ∨ kd = 5 ∨ ((kd == 0) = false ∧ (kd == 1) = false ∧ (kd == 3) = false ∧ (kd == 4) = false ∧ (kd == 5) = false) := by simp; omega
      rcases hkd with rfl | rfl | rfl | rfl | rfl | ⟨e0, e1, e3, e4, e5⟩
      · cases b0
        · -- a key that is not there
          as_aux_lemma =>
          have HD : Hid (dropK N key = N) := Lib.hid (dropK_none (fnd_none (by have := Hb00.out; simpa using this)))
          go_wp2_with fail
          have Sx := HS3.out
          have Bx := HB3.out
          clear y0 y1 y2 y3 yl
          by_cases hp : 0 ≤ s ∧ s ≤ r - kept
          · obtain ⟨hp1, hp2⟩ := hp
            obtain ⟨M, hM⟩ : ∃ l, (dropK N key).take (wayJ (r - s - kept) (dropK N key) (dropK N key).length) = l := ⟨_, rfl⟩
            obtain ⟨gone, hg⟩ : ∃ l, goneK (dropK N key) (wayJ (r - s - kept) (dropK N key) (dropK N key).length) = l := ⟨_, rfl⟩
            have HM := Lib.hid hM
            have Hg := Lib.hid hg
            clear hM hg
            refine (put_st Sx key s n hkey hp1 hp2 (by omega) M gone HM.out Hg.out).mono ?_
            rintro _ w6 ⟨a6, c6, b6, rfl, _, S6, o6⟩
            have B6 := o6 _ _ _ _ Bx (by decide) (by decide)
            by_cases hgl : 0 < gone.length
            · have hd9 : decide (0 < gone.length) = true := by simpa using hgl
              have hlim := gone_lim Hg.out (by omega)
              have hfit : sumS (dropK N key) ≤ r - kept := by have hT := Sx.T; have := sumS_drop hT.pos key; have := hT.fits; omega
              have hroomr : room = r := by have := Hr2.out; have hT := Sx.T; have := sumS_pos (N := dropK N key) (fun y hy => hT.pos y (dropK_mem hy).1); have := hT.kept0; omega
              have hw9 : IntKind.i64.wrap (room - s) = room - s := IntWalk.i64_in _ (by omega)
              have hUU : sumS N + kept = u0 := Hu0.out
              have hMM : sumS (dropK N key) = sumS N := by (first | rfl | rw [dropK_cons_self rfl, dropK_idem] | rw [HD.out])
              have dC : decide (u0 ≤ room - s) = false := by simp; omega
              clear hlim hfit hroomr hUU hMM Bx Sx o6
              obtain ⟨u9, hu9⟩ : ∃ u, sumS (⟨b6, key, n, s⟩ :: M) + kept = u := ⟨_, rfl⟩
              have hT := S6.T
              have h1 := hT.fits
              have h2 := sumS_pos hT.pos
              have h3 := hT.kept0
              have dA : decide (r < u9) = false := by simp; omega
              have dB : decide (u9 < kept) = false := by simp; omega
              have Hu9 := Lib.hid hu9
              have HSS := Lib.hid S6
              have HBB := Lib.hid B6
              clear hT h1 h2 h3 hu9 S6 B6
              go_wp2_with fail
              refine (used_st HSS.out u9 Hu9.out).mono ?_
              rintro _ wa ⟨rfl, Sa, ka⟩
              have HSa := Lib.hid Sa
              have Ba := Lib.hid (blk_keep HBB.out ka (fun h => h))
              clear Sa ka
              go_wp2_with (refine wpList_max2 _ rfl _ _ _ _ rfl _ _ rfl rfl r Hr.out ?_)
              refine (used_st HSa.out u9 Hu9.out).mono ?_
              rintro _ wb ⟨rfl, Sb, kb⟩
              have HSb := Lib.hid Sb
              have Bb := blk_keep Ba.out kb (fun h => h)
              have y0 := blk_cell Bb 0
              have y1 := blk_cell Bb 1
              have y2 := blk_cell Bb 2
              have y3 := blk_cell Bb 3
              have yl := blk_lt Bb
              simp at y0 y1 y2 y3
              clear Sb kb Bb
              go_wp2_with fail
              refine (reserved_any cb mb r kept (⟨b6, key, n, s⟩ :: M) _ HSb.out.T).mono ?_
              rintro _ wb ⟨rfl, rfl⟩
              go_wp2_with fail
              go_roundw
              case rel => exact ⟨k + 1, kept, (⟨b6, key, n, s⟩ :: M), hlt, h200, by go_num, HSb.out.le (by omega)⟩
              case measure => simp [intOf]; omega
            · have hd9 : decide (0 < gone.length) = false := by simpa using hgl
              clear Bx Sx o6
              obtain ⟨u9, hu9⟩ : ∃ u, sumS (⟨b6, key, n, s⟩ :: M) + kept = u := ⟨_, rfl⟩
              have hT := S6.T
              have h1 := hT.fits
              have h2 := sumS_pos hT.pos
              have h3 := hT.kept0
              have dA : decide (r < u9) = false := by simp; omega
              have dB : decide (u9 < kept) = false := by simp; omega
              have Hu9 := Lib.hid hu9
              have HSS := Lib.hid S6
              have HBB := Lib.hid B6
              clear hT h1 h2 h3 hu9 S6 B6
              go_wp2_with fail
              refine (used_st HSS.out u9 Hu9.out).mono ?_
              rintro _ wa ⟨rfl, Sa, ka⟩
              have HSa := Lib.hid Sa
              have Ba := Lib.hid (blk_keep HBB.out ka (fun h => h))
              clear Sa ka
              go_wp2_with (refine wpList_max2 _ rfl _ _ _ _ rfl _ _ rfl rfl r Hr.out ?_)
              refine (used_st HSa.out u9 Hu9.out).mono ?_
              rintro _ wb ⟨rfl, Sb, kb⟩
              have HSb := Lib.hid Sb
              have Bb := blk_keep Ba.out kb (fun h => h)
              have y0 := blk_cell Bb 0
              have y1 := blk_cell Bb 1
              have y2 := blk_cell Bb 2
              have y3 := blk_cell Bb 3
              have yl := blk_lt Bb
              simp at y0 y1 y2 y3
              clear Sb kb Bb
              go_wp2_with fail
              refine (reserved_any cb mb r kept (⟨b6, key, n, s⟩ :: M) _ HSb.out.T).mono ?_
              rintro _ wb ⟨rfl, rfl⟩
              go_wp2_with fail
              go_roundw
              case rel => exact ⟨k + 1, kept, (⟨b6, key, n, s⟩ :: M), hlt, h200, by go_num, HSb.out.le (by omega)⟩
              case measure => simp [intOf]; omega
          · refine (putno_st Sx key s n hkey (by omega)).mono ?_
            rintro _ w6 ⟨rfl, S6, o6⟩
            have B6 := o6 _ _ _ _ Bx (by decide) (by decide)
            clear Bx Sx o6 hp
            obtain ⟨u9, hu9⟩ : ∃ u, sumS (dropK N key) + kept = u := ⟨_, rfl⟩
            have hT := S6.T
            have h1 := hT.fits
            have h2 := sumS_pos hT.pos
            have h3 := hT.kept0
            have dA : decide (r < u9) = false := by simp; omega
            have dB : decide (u9 < kept) = false := by simp; omega
            have Hu9 := Lib.hid hu9
            have HSS := Lib.hid S6
            have HBB := Lib.hid B6
            clear hT h1 h2 h3 hu9 S6 B6
            go_wp2_with fail
            refine (used_st HSS.out u9 Hu9.out).mono ?_
            rintro _ wa ⟨rfl, Sa, ka⟩
            have HSa := Lib.hid Sa
            have Ba := Lib.hid (blk_keep HBB.out ka (fun h => h))
            clear Sa ka
            go_wp2_with (refine wpList_max2 _ rfl _ _ _ _ rfl _ _ rfl rfl r Hr.out ?_)
            refine (used_st HSa.out u9 Hu9.out).mono ?_
            rintro _ wb ⟨rfl, Sb, kb⟩
            have HSb := Lib.hid Sb
            have Bb := blk_keep Ba.out kb (fun h => h)
            have y0 := blk_cell Bb 0
            have y1 := blk_cell Bb 1
            have y2 := blk_cell Bb 2
            have y3 := blk_cell Bb 3
            have yl := blk_lt Bb
            simp at y0 y1 y2 y3
            clear Sb kb Bb
            go_wp2_with fail
            refine (reserved_any cb mb r kept (dropK N key) _ HSb.out.T).mono ?_
            rintro _ wb ⟨rfl, rfl⟩
            go_wp2_with fail
            go_roundw
            case rel => exact ⟨k + 1, kept, (dropK N key), hlt, h200, by go_num, HSb.out.le (by omega)⟩
            case measure => simp [intOf]; omega
        · as_aux_lemma =>
          go_wp2_with fail
          refine (drop_st HS3.out key hkey true Hb00.out).mono ?_
          rintro _ w4 ⟨rfl, S4, o4⟩
          have B4 := o4 _ _ _ _ HB3.out (by decide) (by decide)
          obtain ⟨u1, hu1⟩ : ∃ u, sumS (dropK N key) + kept = u := ⟨_, rfl⟩
          have Hu1 := Lib.hid hu1
          have HB4 := Lib.hid B4
          have HS4 := Lib.hid S4
          clear y0 y1 y2 y3 yl
          clear hu1 B4 S4 o4 HS3 HB3
          go_wp2_with fail
          refine (used_st HS4.out u1 Hu1.out).mono ?_
          rintro _ w5 ⟨rfl, S5, k5⟩
          have B5 := blk_keep HB4.out k5 (fun h => h)
          have HB5 := Lib.hid B5
          have HS5 := Lib.hid S5
          have hf5 : sumS (dropK N key) ≤ r - 0 - kept := by have := S5.T.fits; omega
          have Hf5 := Lib.hid hf5
          have hq5 : 0 ≤ r - kept := by have hT := S5.T; have := hT.fits; have := sumS_pos hT.pos; omega
          have y0 := blk_cell B5 0
          have y1 := blk_cell B5 1
          have y2 := blk_cell B5 2
          have y3 := blk_cell B5 3
          have yl := blk_lt B5
          simp at y0 y1 y2 y3
          clear S5 k5 B5 HB4 HS4 hf5
          go_wp2_with fail
          refine (put_st HS5.out key 0 v0 hkey (by omega) hq5 (by omega) (dropK N key) [] (by rw [dropK_idem, wayJ_all Hf5.out, List.take_length]) (by rw [dropK_idem, wayJ_all Hf5.out, goneK_all])).mono ?_
          rintro _ w7 ⟨a7, c7, b7, rfl, _, S7, o7⟩
          have B7 := o7 _ _ _ _ HB5.out (by decide) (by decide)
          have HB7 := Lib.hid B7
          have HS7 := Lib.hid S7
          clear y0 y1 y2 y3 yl
          have y0 := blk_cell B7 0
          have y1 := blk_cell B7 1
          have y2 := blk_cell B7 2
          have y3 := blk_cell B7 3
          have yl := blk_lt B7
          simp at y0 y1 y2 y3
          clear S7 o7 B7 HB5 HS5
          go_wp2_with fail
          have Sx := HS7.out
          have Bx := HB7.out
          clear y0 y1 y2 y3 yl
          by_cases hp : 0 ≤ s ∧ s ≤ r - kept
          · obtain ⟨hp1, hp2⟩ := hp
            obtain ⟨M, hM⟩ : ∃ l, (dropK (⟨b7, key, v0, 0⟩ :: dropK N key) key).take (wayJ (r - s - kept) (dropK (⟨b7, key, v0, 0⟩ :: dropK N key) key) (dropK (⟨b7, key, v0, 0⟩ :: dropK N key) key).length) = l := ⟨_, rfl⟩
            obtain ⟨gone, hg⟩ : ∃ l, goneK (dropK (⟨b7, key, v0, 0⟩ :: dropK N key) key) (wayJ (r - s - kept) (dropK (⟨b7, key, v0, 0⟩ :: dropK N key) key) (dropK (⟨b7, key, v0, 0⟩ :: dropK N key) key).length) = l := ⟨_, rfl⟩
            have HM := Lib.hid hM
            have Hg := Lib.hid hg
            clear hM hg
            refine (put_st Sx key s n hkey hp1 hp2 (by omega) M gone HM.out Hg.out).mono ?_
            rintro _ w6 ⟨a6, c6, b6, rfl, _, S6, o6⟩
            have B6 := o6 _ _ _ _ Bx (by decide) (by decide)
            by_cases hgl : 0 < gone.length
            · have hd9 : decide (0 < gone.length) = true := by simpa using hgl
              have hlim := gone_lim Hg.out (by omega)
              have hfit : sumS (dropK (⟨b7, key, v0, 0⟩ :: dropK N key) key) ≤ r - kept := by have hT := Sx.T; have := sumS_drop hT.pos key; have := hT.fits; omega
              have hroomr : room = r := by have := Hr2.out; have hT := Sx.T; have := sumS_pos (N := dropK (⟨b7, key, v0, 0⟩ :: dropK N key) key) (fun y hy => hT.pos y (dropK_mem hy).1); have := hT.kept0; omega
              have hw9 : IntKind.i64.wrap (room - s) = room - s := IntWalk.i64_in _ (by omega)
              have hUU : sumS (dropK N key) + kept = u1 := Hu1.out
              have hMM : sumS (dropK (⟨b7, key, v0, 0⟩ :: dropK N key) key) = sumS (dropK N key) := by (first | rfl | rw [dropK_cons_self rfl, dropK_idem] | rw [HD.out])
              have dC : decide (u1 ≤ room - s) = false := by simp; omega
              clear hlim hfit hroomr hUU hMM Bx Sx o6
              obtain ⟨u9, hu9⟩ : ∃ u, sumS (⟨b6, key, n, s⟩ :: M) + kept = u := ⟨_, rfl⟩
              have hT := S6.T
              have h1 := hT.fits
              have h2 := sumS_pos hT.pos
              have h3 := hT.kept0
              have dA : decide (r < u9) = false := by simp; omega
              have dB : decide (u9 < kept) = false := by simp; omega
              have Hu9 := Lib.hid hu9
              have HSS := Lib.hid S6
              have HBB := Lib.hid B6
              clear hT h1 h2 h3 hu9 S6 B6
              go_wp2_with fail
              refine (used_st HSS.out u9 Hu9.out).mono ?_
              rintro _ wa ⟨rfl, Sa, ka⟩
              have HSa := Lib.hid Sa
              have Ba := Lib.hid (blk_keep HBB.out ka (fun h => h))
              clear Sa ka
              go_wp2_with (refine wpList_max2 _ rfl _ _ _ _ rfl _ _ rfl rfl r Hr.out ?_)
              refine (used_st HSa.out u9 Hu9.out).mono ?_
              rintro _ wb ⟨rfl, Sb, kb⟩
              have HSb := Lib.hid Sb
              have Bb := blk_keep Ba.out kb (fun h => h)
              have y0 := blk_cell Bb 0
              have y1 := blk_cell Bb 1
              have y2 := blk_cell Bb 2
              have y3 := blk_cell Bb 3
              have yl := blk_lt Bb
              simp at y0 y1 y2 y3
              clear Sb kb Bb
              go_wp2_with fail
              refine (reserved_any cb mb r kept (⟨b6, key, n, s⟩ :: M) _ HSb.out.T).mono ?_
              rintro _ wb ⟨rfl, rfl⟩
              go_wp2_with fail
              go_roundw
              case rel => exact ⟨k + 1, kept, (⟨b6, key, n, s⟩ :: M), hlt, h200, by go_num, HSb.out.le (by omega)⟩
              case measure => simp [intOf]; omega
            · have hd9 : decide (0 < gone.length) = false := by simpa using hgl
              clear Bx Sx o6
              obtain ⟨u9, hu9⟩ : ∃ u, sumS (⟨b6, key, n, s⟩ :: M) + kept = u := ⟨_, rfl⟩
              have hT := S6.T
              have h1 := hT.fits
              have h2 := sumS_pos hT.pos
              have h3 := hT.kept0
              have dA : decide (r < u9) = false := by simp; omega
              have dB : decide (u9 < kept) = false := by simp; omega
              have Hu9 := Lib.hid hu9
              have HSS := Lib.hid S6
              have HBB := Lib.hid B6
              clear hT h1 h2 h3 hu9 S6 B6
              go_wp2_with fail
              refine (used_st HSS.out u9 Hu9.out).mono ?_
              rintro _ wa ⟨rfl, Sa, ka⟩
              have HSa := Lib.hid Sa
              have Ba := Lib.hid (blk_keep HBB.out ka (fun h => h))
              clear Sa ka
              go_wp2_with (refine wpList_max2 _ rfl _ _ _ _ rfl _ _ rfl rfl r Hr.out ?_)
              refine (used_st HSa.out u9 Hu9.out).mono ?_
              rintro _ wb ⟨rfl, Sb, kb⟩
              have HSb := Lib.hid Sb
              have Bb := blk_keep Ba.out kb (fun h => h)
              have y0 := blk_cell Bb 0
              have y1 := blk_cell Bb 1
              have y2 := blk_cell Bb 2
              have y3 := blk_cell Bb 3
              have yl := blk_lt Bb
              simp at y0 y1 y2 y3
              clear Sb kb Bb
              go_wp2_with fail
              refine (reserved_any cb mb r kept (⟨b6, key, n, s⟩ :: M) _ HSb.out.T).mono ?_
              rintro _ wb ⟨rfl, rfl⟩
              go_wp2_with fail
              go_roundw
              case rel => exact ⟨k + 1, kept, (⟨b6, key, n, s⟩ :: M), hlt, h200, by go_num, HSb.out.le (by omega)⟩
              case measure => simp [intOf]; omega
          · refine (putno_st Sx key s n hkey (by omega)).mono ?_
            rintro _ w6 ⟨rfl, S6, o6⟩
            have B6 := o6 _ _ _ _ Bx (by decide) (by decide)
            clear Bx Sx o6 hp
            obtain ⟨u9, hu9⟩ : ∃ u, sumS (dropK (⟨b7, key, v0, 0⟩ :: dropK N key) key) + kept = u := ⟨_, rfl⟩
            have hT := S6.T
            have h1 := hT.fits
            have h2 := sumS_pos hT.pos
            have h3 := hT.kept0
            have dA : decide (r < u9) = false := by simp; omega
            have dB : decide (u9 < kept) = false := by simp; omega
            have Hu9 := Lib.hid hu9
            have HSS := Lib.hid S6
            have HBB := Lib.hid B6
            clear hT h1 h2 h3 hu9 S6 B6
            go_wp2_with fail
            refine (used_st HSS.out u9 Hu9.out).mono ?_
            rintro _ wa ⟨rfl, Sa, ka⟩
            have HSa := Lib.hid Sa
            have Ba := Lib.hid (blk_keep HBB.out ka (fun h => h))
            clear Sa ka
            go_wp2_with (refine wpList_max2 _ rfl _ _ _ _ rfl _ _ rfl rfl r Hr.out ?_)
            refine (used_st HSa.out u9 Hu9.out).mono ?_
            rintro _ wb ⟨rfl, Sb, kb⟩
            have HSb := Lib.hid Sb
            have Bb := blk_keep Ba.out kb (fun h => h)
            have y0 := blk_cell Bb 0
            have y1 := blk_cell Bb 1
            have y2 := blk_cell Bb 2
            have y3 := blk_cell Bb 3
            have yl := blk_lt Bb
            simp at y0 y1 y2 y3
            clear Sb kb Bb
            go_wp2_with fail
            refine (reserved_any cb mb r kept (dropK (⟨b7, key, v0, 0⟩ :: dropK N key) key) _ HSb.out.T).mono ?_
            rintro _ wb ⟨rfl, rfl⟩
            go_wp2_with fail
            go_roundw
            case rel => exact ⟨k + 1, kept, (dropK (⟨b7, key, v0, 0⟩ :: dropK N key) key), hlt, h200, by go_num, HSb.out.le (by omega)⟩
            case measure => simp [intOf]; omega
      · cases b0
        all_goals
          as_aux_lemma =>
          go_wp2_with fail
          refine (get_st HS3.out key hkey v0 Hv0.out _ Hb00.out).mono ?_
          rintro _ w6 ⟨rfl, S6, o6⟩
          have B6 := o6 _ _ _ _ HB3.out (by decide) (by decide)
          clear y0 y1 y2 y3 yl
          clear o6 HB3 HS3
          obtain ⟨u9, hu9⟩ : ∃ u, sumS (getN N key) + kept = u := ⟨_, rfl⟩
          have hT := S6.T
          have h1 := hT.fits
          have h2 := sumS_pos hT.pos
          have h3 := hT.kept0
          have dA : decide (r < u9) = false := by simp; omega
          have dB : decide (u9 < kept) = false := by simp; omega
          have Hu9 := Lib.hid hu9
          have HSS := Lib.hid S6
          have HBB := Lib.hid B6
          clear hT h1 h2 h3 hu9 S6 B6
          go_wp2_with fail
          refine (used_st HSS.out u9 Hu9.out).mono ?_
          rintro _ wa ⟨rfl, Sa, ka⟩
          have HSa := Lib.hid Sa
          have Ba := Lib.hid (blk_keep HBB.out ka (fun h => h))
          clear Sa ka
          go_wp2_with (refine wpList_max2 _ rfl _ _ _ _ rfl _ _ rfl rfl r Hr.out ?_)
          refine (used_st HSa.out u9 Hu9.out).mono ?_
          rintro _ wb ⟨rfl, Sb, kb⟩
          have HSb := Lib.hid Sb
          have Bb := blk_keep Ba.out kb (fun h => h)
          have y0 := blk_cell Bb 0
          have y1 := blk_cell Bb 1
          have y2 := blk_cell Bb 2
          have y3 := blk_cell Bb 3
          have yl := blk_lt Bb
          simp at y0 y1 y2 y3
          clear Sb kb Bb
          go_wp2_with fail
          refine (reserved_any cb mb r kept (getN N key) _ HSb.out.T).mono ?_
          rintro _ wb ⟨rfl, rfl⟩
          go_wp2_with fail
          go_roundw
          case rel => exact ⟨k + 1, kept, (getN N key), hlt, h200, by go_num, HSb.out.le (by omega)⟩
          case measure => simp [intOf]; omega
      · cases b0
        all_goals
          as_aux_lemma =>
          go_wp2_with fail
          refine (drop_st HS3.out key hkey _ Hb00.out).mono ?_
          rintro _ w6 ⟨rfl, S6, o6⟩
          have B6 := o6 _ _ _ _ HB3.out (by decide) (by decide)
          clear y0 y1 y2 y3 yl
          clear o6 HB3 HS3
          obtain ⟨u9, hu9⟩ : ∃ u, sumS (dropK N key) + kept = u := ⟨_, rfl⟩
          have hT := S6.T
          have h1 := hT.fits
          have h2 := sumS_pos hT.pos
          have h3 := hT.kept0
          have dA : decide (r < u9) = false := by simp; omega
          have dB : decide (u9 < kept) = false := by simp; omega
          have Hu9 := Lib.hid hu9
          have HSS := Lib.hid S6
          have HBB := Lib.hid B6
          clear hT h1 h2 h3 hu9 S6 B6
          go_wp2_with fail
          refine (used_st HSS.out u9 Hu9.out).mono ?_
          rintro _ wa ⟨rfl, Sa, ka⟩
          have HSa := Lib.hid Sa
          have Ba := Lib.hid (blk_keep HBB.out ka (fun h => h))
          clear Sa ka
          go_wp2_with (refine wpList_max2 _ rfl _ _ _ _ rfl _ _ rfl rfl r Hr.out ?_)
          refine (used_st HSa.out u9 Hu9.out).mono ?_
          rintro _ wb ⟨rfl, Sb, kb⟩
          have HSb := Lib.hid Sb
          have Bb := blk_keep Ba.out kb (fun h => h)
          have y0 := blk_cell Bb 0
          have y1 := blk_cell Bb 1
          have y2 := blk_cell Bb 2
          have y3 := blk_cell Bb 3
          have yl := blk_lt Bb
          simp at y0 y1 y2 y3
          clear Sb kb Bb
          go_wp2_with fail
          refine (reserved_any cb mb r kept (dropK N key) _ HSb.out.T).mono ?_
          rintro _ wb ⟨rfl, rfl⟩
          go_wp2_with fail
          go_roundw
          case rel => exact ⟨k + 1, kept, (dropK N key), hlt, h200, by go_num, HSb.out.le (by omega)⟩
          case measure => simp [intOf]; omega
      · cases b0
        all_goals
          as_aux_lemma =>
          by_cases hp : 0 ≤ s ∧ s ≤ r - kept
          · obtain ⟨hp1, hp2⟩ := hp
            obtain ⟨M, hM⟩ : ∃ l, N.take (wayJ (r - s - kept) N N.length) = l := ⟨_, rfl⟩
            obtain ⟨gone, hg⟩ : ∃ l, goneK N (wayJ (r - s - kept) N N.length) = l := ⟨_, rfl⟩
            have HM := Lib.hid hM
            have Hg := Lib.hid hg
            clear hM hg
            go_wp2_with fail
            refine (res_st HS3.out s hp1 hp2 (by omega) M gone HM.out Hg.out).mono ?_
            rintro _ w6 ⟨a6, c6, rfl, _, S6, o6⟩
            have B6 := o6 _ _ _ _ HB3.out (by decide) (by decide)
            by_cases hgl : 0 < gone.length
            · have hd9 : decide (0 < gone.length) = true := by simpa using hgl
              have hlim := gone_lim Hg.out (by omega)
              have hfit : sumS N ≤ r - kept := by have := HS3.out.T.fits; omega
              have hroomr : room = r := by have := Hr2.out; have hT := HS3.out.T; have := sumS_pos hT.pos; have := hT.kept0; omega
              have hw9 : IntKind.i64.wrap (room - s) = room - s := IntWalk.i64_in _ (by omega)
              have hUU := Hu0.out
              have dC : decide (u0 ≤ room - s) = false := by simp; omega
              clear y0 y1 y2 y3 yl
              clear hlim hfit hroomr hUU o6 HB3 HS3
              obtain ⟨u9, hu9⟩ : ∃ u, sumS M + (kept + s) = u := ⟨_, rfl⟩
              have hT := S6.T
              have h1 := hT.fits
              have h2 := sumS_pos hT.pos
              have h3 := hT.kept0
              have dA : decide (r < u9) = false := by simp; omega
              have dB : decide (u9 < (kept + s)) = false := by simp; omega
              have Hu9 := Lib.hid hu9
              have HSS := Lib.hid S6
              have HBB := Lib.hid B6
              clear hT h1 h2 h3 hu9 S6 B6
              go_wp2_with fail
              refine (used_st HSS.out u9 Hu9.out).mono ?_
              rintro _ wa ⟨rfl, Sa, ka⟩
              have HSa := Lib.hid Sa
              have Ba := Lib.hid (blk_keep HBB.out ka (fun h => h))
              clear Sa ka
              go_wp2_with (refine wpList_max2 _ rfl _ _ _ _ rfl _ _ rfl rfl r Hr.out ?_)
              refine (used_st HSa.out u9 Hu9.out).mono ?_
              rintro _ wb ⟨rfl, Sb, kb⟩
              have HSb := Lib.hid Sb
              have Bb := blk_keep Ba.out kb (fun h => h)
              have y0 := blk_cell Bb 0
              have y1 := blk_cell Bb 1
              have y2 := blk_cell Bb 2
              have y3 := blk_cell Bb 3
              have yl := blk_lt Bb
              simp at y0 y1 y2 y3
              clear Sb kb Bb
              go_wp2_with fail
              refine (reserved_any cb mb r (kept + s) M _ HSb.out.T).mono ?_
              rintro _ wb ⟨rfl, rfl⟩
              go_wp2_with fail
              go_roundw
              case rel => exact ⟨k + 1, (kept + s), M, hlt, h200, by go_num, HSb.out.le (by omega)⟩
              case measure => simp [intOf]; omega
            · have hd9 : decide (0 < gone.length) = false := by simpa using hgl
              clear y0 y1 y2 y3 yl
              clear o6 HB3 HS3
              obtain ⟨u9, hu9⟩ : ∃ u, sumS M + (kept + s) = u := ⟨_, rfl⟩
              have hT := S6.T
              have h1 := hT.fits
              have h2 := sumS_pos hT.pos
              have h3 := hT.kept0
              have dA : decide (r < u9) = false := by simp; omega
              have dB : decide (u9 < (kept + s)) = false := by simp; omega
              have Hu9 := Lib.hid hu9
              have HSS := Lib.hid S6
              have HBB := Lib.hid B6
              clear hT h1 h2 h3 hu9 S6 B6
              go_wp2_with fail
              refine (used_st HSS.out u9 Hu9.out).mono ?_
              rintro _ wa ⟨rfl, Sa, ka⟩
              have HSa := Lib.hid Sa
              have Ba := Lib.hid (blk_keep HBB.out ka (fun h => h))
              clear Sa ka
              go_wp2_with (refine wpList_max2 _ rfl _ _ _ _ rfl _ _ rfl rfl r Hr.out ?_)
              refine (used_st HSa.out u9 Hu9.out).mono ?_
              rintro _ wb ⟨rfl, Sb, kb⟩
              have HSb := Lib.hid Sb
              have Bb := blk_keep Ba.out kb (fun h => h)
              have y0 := blk_cell Bb 0
              have y1 := blk_cell Bb 1
              have y2 := blk_cell Bb 2
              have y3 := blk_cell Bb 3
              have yl := blk_lt Bb
              simp at y0 y1 y2 y3
              clear Sb kb Bb
              go_wp2_with fail
              refine (reserved_any cb mb r (kept + s) M _ HSb.out.T).mono ?_
              rintro _ wb ⟨rfl, rfl⟩
              go_wp2_with fail
              go_roundw
              case rel => exact ⟨k + 1, (kept + s), M, hlt, h200, by go_num, HSb.out.le (by omega)⟩
              case measure => simp [intOf]; omega
          · go_wp2_with fail
            refine (resno_st HS3.out s (by omega)).mono ?_
            rintro _ w6 ⟨rfl, S6, o6⟩
            have B6 := o6 _ _ _ _ HB3.out (by decide) (by decide)
            clear y0 y1 y2 y3 yl
            clear o6 HB3 HS3 hp
            obtain ⟨u9, hu9⟩ : ∃ u, sumS N + kept = u := ⟨_, rfl⟩
            have hT := S6.T
            have h1 := hT.fits
            have h2 := sumS_pos hT.pos
            have h3 := hT.kept0
            have dA : decide (r < u9) = false := by simp; omega
            have dB : decide (u9 < kept) = false := by simp; omega
            have Hu9 := Lib.hid hu9
            have HSS := Lib.hid S6
            have HBB := Lib.hid B6
            clear hT h1 h2 h3 hu9 S6 B6
            go_wp2_with fail
            refine (used_st HSS.out u9 Hu9.out).mono ?_
            rintro _ wa ⟨rfl, Sa, ka⟩
            have HSa := Lib.hid Sa
            have Ba := Lib.hid (blk_keep HBB.out ka (fun h => h))
            clear Sa ka
            go_wp2_with (refine wpList_max2 _ rfl _ _ _ _ rfl _ _ rfl rfl r Hr.out ?_)
            refine (used_st HSa.out u9 Hu9.out).mono ?_
            rintro _ wb ⟨rfl, Sb, kb⟩
            have HSb := Lib.hid Sb
            have Bb := blk_keep Ba.out kb (fun h => h)
            have y0 := blk_cell Bb 0
            have y1 := blk_cell Bb 1
            have y2 := blk_cell Bb 2
            have y3 := blk_cell Bb 3
            have yl := blk_lt Bb
            simp at y0 y1 y2 y3
            clear Sb kb Bb
            go_wp2_with fail
            refine (reserved_any cb mb r kept N _ HSb.out.T).mono ?_
            rintro _ wb ⟨rfl, rfl⟩
            go_wp2_with fail
            go_roundw
            case rel => exact ⟨k + 1, kept, N, hlt, h200, by go_num, HSb.out.le (by omega)⟩
            case measure => simp [intOf]; omega
      · cases b0
        all_goals
          as_aux_lemma =>
          obtain ⟨k', hk'⟩ : ∃ k', kept - (if 0 < s then min s kept else 0) = k' := ⟨_, rfl⟩
          have Hk' := Lib.hid hk'
          clear hk'
          go_wp2_with fail
          refine (rel_st HS3.out s k' Hk'.out).mono ?_
          rintro _ w6 ⟨rfl, S6, o6⟩
          have B6 := o6 _ _ _ _ HB3.out (by decide) (by decide)
          clear y0 y1 y2 y3 yl
          clear o6 HB3 HS3
          obtain ⟨u9, hu9⟩ : ∃ u, sumS N + k' = u := ⟨_, rfl⟩
          have hT := S6.T
          have h1 := hT.fits
          have h2 := sumS_pos hT.pos
          have h3 := hT.kept0
          have dA : decide (r < u9) = false := by simp; omega
          have dB : decide (u9 < k') = false := by simp; omega
          have Hu9 := Lib.hid hu9
          have HSS := Lib.hid S6
          have HBB := Lib.hid B6
          clear hT h1 h2 h3 hu9 S6 B6
          go_wp2_with fail
          refine (used_st HSS.out u9 Hu9.out).mono ?_
          rintro _ wa ⟨rfl, Sa, ka⟩
          have HSa := Lib.hid Sa
          have Ba := Lib.hid (blk_keep HBB.out ka (fun h => h))
          clear Sa ka
          go_wp2_with (refine wpList_max2 _ rfl _ _ _ _ rfl _ _ rfl rfl r Hr.out ?_)
          refine (used_st HSa.out u9 Hu9.out).mono ?_
          rintro _ wb ⟨rfl, Sb, kb⟩
          have HSb := Lib.hid Sb
          have Bb := blk_keep Ba.out kb (fun h => h)
          have y0 := blk_cell Bb 0
          have y1 := blk_cell Bb 1
          have y2 := blk_cell Bb 2
          have y3 := blk_cell Bb 3
          have yl := blk_lt Bb
          simp at y0 y1 y2 y3
          clear Sb kb Bb
          go_wp2_with fail
          refine (reserved_any cb mb r k' N _ HSb.out.T).mono ?_
          rintro _ wb ⟨rfl, rfl⟩
          go_wp2_with fail
          go_roundw
          case rel => exact ⟨k + 1, k', N, hlt, h200, by go_num, HSb.out.le (by omega)⟩
          case measure => simp [intOf]; omega
      · cases b0
        all_goals
          as_aux_lemma =>
          have S6 := HS3.out
          have B6 := HB3.out
          clear HB3 HS3
          obtain ⟨u9, hu9⟩ : ∃ u, sumS N + kept = u := ⟨_, rfl⟩
          have hT := S6.T
          have h1 := hT.fits
          have h2 := sumS_pos hT.pos
          have h3 := hT.kept0
          have dA : decide (r < u9) = false := by simp; omega
          have dB : decide (u9 < kept) = false := by simp; omega
          have Hu9 := Lib.hid hu9
          have HSS := Lib.hid S6
          have HBB := Lib.hid B6
          clear hT h1 h2 h3 hu9 S6 B6
          go_wp2_with fail
          refine (used_st HSS.out u9 Hu9.out).mono ?_
          rintro _ wa ⟨rfl, Sa, ka⟩
          have HSa := Lib.hid Sa
          have Ba := Lib.hid (blk_keep HBB.out ka (fun h => h))
          clear Sa ka
          go_wp2_with (refine wpList_max2 _ rfl _ _ _ _ rfl _ _ rfl rfl r Hr.out ?_)
          refine (used_st HSa.out u9 Hu9.out).mono ?_
          rintro _ wb ⟨rfl, Sb, kb⟩
          have HSb := Lib.hid Sb
          have Bb := blk_keep Ba.out kb (fun h => h)
          have y0 := blk_cell Bb 0
          have y1 := blk_cell Bb 1
          have y2 := blk_cell Bb 2
          have y3 := blk_cell Bb 3
          have yl := blk_lt Bb
          simp at y0 y1 y2 y3
          clear Sb kb Bb
          go_wp2_with fail
          refine (reserved_any cb mb r kept N _ HSb.out.T).mono ?_
          rintro _ wb ⟨rfl, rfl⟩
          go_wp2_with fail
          go_roundw
          case rel => exact ⟨k + 1, kept, N, hlt, h200, by go_num, HSb.out.le (by omega)⟩
          case measure => simp [intOf]; omega
    · have hout : (¬ k < len0 ∧ decide ((k : Int) < (len0 : Int)) = false) ∨ (k < len0 ∧ ¬ k < 200 ∧ decide ((k : Int) < 200) = false) := by
        by_cases h1 : k < len0
        · right
          have : ¬ k < 200 := fun h => hgo ⟨h1, h⟩
          exact ⟨h1, this, by simp; omega⟩
        · left
          exact ⟨h1, by simp; omega⟩
      have hK := Lib.hid S.hk
      clear hgo S
      rcases hout with ⟨h1, hd⟩ | ⟨h1, h2, hd⟩
      all_goals
        go_wp2_with fail
        go_ret
        exact ⟨rfl, hK.out.below (fun _ _ h => h)⟩
end Go.Proofs.Ytgbcjnejlelndaa
