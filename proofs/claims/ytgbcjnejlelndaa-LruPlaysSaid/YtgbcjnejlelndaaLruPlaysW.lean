/- The walk of LruPlays. -/
import Derived.Test.YtgbcjnejlelndaaLruPlaysQ
import Derived.OpenShut
import Derived.Deep.Cut
import Derived.Deep.CutRange
import Derived.Deep.CutBlock
namespace Go.Proofs.Ytgbcjnejlelndaa
open Go Go.RowKit Go.Maps








set_option maxRecDepth 100000 in
set_option maxHeartbeats 40000000 in
theorem plays_walk (room : Int) (hroom : room ≤ 9223372036854775807) (hroom2 : -9223372036854775808 ≤ room) (a0 : Option Addr) (len0 cap0 : Nat) (z : Nat → LOp) (w : World) (h0 : IsL w a0 len0 z) :
    Calls Try.prog 7 #[.int .i64 room, .slice a0 len0 cap0] w fun e w' => e = .returned (.bool true) ∧ Below w.heap.size w w' := by
  obtain ⟨hmax, hok, hrow⟩ := h0
  unfold maxLen at hmax
  obtain ⟨r, hr⟩ : ∃ r, max room 0 = r := ⟨_, rfl⟩
  have hr1 : r ≤ 9223372036854775807 := by omega
  have Hr := Lib.hid hr
  have Hok := Lib.hid hok
  have Hrow := Lib.hid hrow
  clear hr hok hrow
  go_enter Try.func7, Try.ntmps7
  go_wp2_with fail
  refine (awake_any _).mono ?_
  rintro _ w1 ⟨rfl, k1⟩
  go_wp2_with fail
  refine (new_any room r _ Hr.out hr1).mono ?_
  rintro _ w2 ⟨rfl, T2, k2, s2⟩
  have S2 := st_new k1 T2 k2
  generalize w1.heap.size + 1 = cb at *
  generalize w1.heap.size = mb at *
  clear T2 k1 k2 s2
  have k3 : Keep NoB w2 (w2.alloc (.cells #[.slice none 0 0, .int .i64 r, .int .i64 0] 49)) := (Keep.refl NoB w2).alloc _
  have D3 : HS w (w2.alloc (.cells #[.slice none 0 0, .int .i64 r, .int .i64 0] 49)) cb mb w2.heap.size r 0 [] 0 :=
    ⟨S2.keep k3, ⟨none, 0, ⟨blk_new w2 _, Own.nil _ _ _ _ _⟩⟩, S2.hk.size⟩
  clear S2 k3
  go_wp2_with (refine wpList_max2 _ rfl _ _ _ _ rfl _ _ rfl rfl r Hr.out ?_)
  generalize World.alloc w2 (.cells #[.slice none 0 0, .int .i64 r, .int .i64 0] 49) = w3 at D3 ⊢
  generalize w2.heap.size = rb at D3 ⊢
  have hlo := D3.lo
  have HD3 := Lib.hid D3
  clear D3
  go_loopw [7] (fun i wr => ∃ (k : Nat) (kept : Int) (N : List TH), k ≤ len0 ∧ k ≤ 200 ∧ i = .int .i64 k ∧ HS w wr cb mb rb r kept N k) (fun i _ => len0 - (intOf i).toNat)
  case atStart => exact ⟨0, 0, [], Nat.zero_le _, Nat.zero_le _, rfl, HD3.out⟩
  case round =>
    clear HD3
    obtain ⟨k, kept, N, hk0, hk200, rfl, D⟩ := hrel
    by_cases hgo : k < len0 ∧ k < 200
    · obtain ⟨hlt, h200⟩ := hgo
      have h200i : decide ((k : Int) < 200) = true := by simp; omega
      rcases Hrow.out with h | ⟨b, off, rfl, hb, hc⟩
      · omega
      have hcw := hc k hlt
      have hop := Hok.out k hlt
      clear hc
      generalize hzk : z k = x at hcw hop
      clear hzk
      obtain ⟨kd, key, s, n⟩ := x
      have l0 := D.S.hk.some (hcw 0 (by omega)) (fun h => h)
      have l1 := D.S.hk.some (hcw 1 (by omega)) (fun h => h)
      have l2 := D.S.hk.some (hcw 2 (by omega)) (fun h => h)
      have l3 := D.S.hk.some (hcw 3 (by omega)) (fun h => h)
      simp only [Nat.add_zero] at l0 l1 l2 l3
      have hb0 : b < wr.heap.size := Nat.lt_of_lt_of_le hb D.S.hk.size
      have hob : rb < wr.heap.size := D.R.lt
      obtain ⟨_, hkey, hs0, _⟩ := hop
      simp only at hkey hs0
      have hs := bounds_i64 hs0
      clear hcw hs0
      have HD0 := Lib.hid D
      clear D
      have hkd : kd = 0 ∨ kd = 1 ∨ kd = 2 ∨ kd = 3 ∨ kd = 4 ∨ kd = 5 ∨ kd = 6 ∨ ((kd == 0) = false ∧ (kd == 1) = false ∧ (kd == 2) = false ∧ (kd == 3) = false ∧ (kd == 4) = false ∧ (kd == 5) = false ∧ (kd == 6) = false) := by
        simp; omega
      go_upto_block 2 with fail
      have bV := blk_new wr (.cells #[.int .i64 kd, .string key, .int .i64 s, .int .i64 n] 39)
      have DV := HD0.out.keep ((Keep.refl NoB wr).alloc (.cells #[.int .i64 kd, .string key, .int .i64 s, .int .i64 n] 39))
      generalize World.alloc wr (.cells #[.int .i64 kd, .string key, .int .i64 s, .int .i64 n] 39) = V at bV DV ⊢
      generalize wr.heap.size = ob at bV hob ⊢
      have HDV := Lib.hid DV
      have HbV := Lib.hid bV
      have hVo := blk_lt bV
      have HPF := Lib.hid (DV.S.pf (by omega))
      clear HD0 l0 l1 l2 l3 hb0 DV bV
      have hN200 : N.length ≤ 200 := by have := HDV.out.S.len; omega
      have hnr := Lib.hid (show ob ≠ rb from by omega)
      go_cut [8, 9, 10, 11, 12, 13, 14, 15, 16, 17, 18, 19, 20, 21] from 30 to 194 (fun ov okv _ _ _ _ _ _ _ _ _ _ _ _ wx => ov = .pointer (some ⟨ob, 0, none⟩) ∧ okv = .bool true ∧ ∃ kept' N', HS w wx cb mb rb r kept' N' (k + 1))
      case first =>
        have bx := HbV.out
        have x0 := blk_cell bx 0
        have x1 := blk_cell bx 1
        have x2 := blk_cell bx 2
        have x3 := blk_cell bx 3
        have xl := blk_lt bx
        simp at x0 x1 x2 x3
        clear bx
        rcases hkd with rfl | rfl | rfl | rfl | rfl | rfl | rfl | ⟨e0, e1, e2, e3, e4, e5, e6⟩
        · -- Put
          as_aux_lemma =>
          by_cases hp : 0 ≤ s ∧ s ≤ r - kept
          · obtain ⟨hp1, hp2⟩ := hp
            obtain ⟨M, hM⟩ : ∃ l, (dropK N key).take (wayJ (r - s - kept) (dropK N key) (dropK N key).length) = l := ⟨_, rfl⟩
            obtain ⟨gone, hg⟩ : ∃ l, goneK (dropK N key) (wayJ (r - s - kept) (dropK N key) (dropK N key).length) = l := ⟨_, rfl⟩
            have HM := Lib.hid hM
            have Hg := Lib.hid hg
            have Hgl := Lib.hid (show gone.length ≤ 1000 from by rw [← hg, goneK_length]; have := dropK_len (N := N) (key := key); omega)
            clear hM hg
            go_wp2_with fail
            refine (put_st HDV.out.S key s n hkey hp1 hp2 (by omega) M gone HM.out Hg.out).mono ?_
            rintro _ w4 ⟨a4, c4, b4, rfl, O4, S4, o4⟩
            have HR4 := Lib.hid (HDV.out.R.oth o4)
            have HB4 := Lib.hid (o4 _ _ _ _ HbV.out (by decide) (by decide))
            have HS4 := Lib.hid S4
            have hV4 := S4.hk.size
            clear o4 S4
            clear x0 x1 x2 x3 xl
            have bx := HB4.out
            have x0 := blk_cell bx 0
            have x1 := blk_cell bx 1
            have x2 := blk_cell bx 2
            have x3 := blk_cell bx 3
            have xl := blk_lt bx
            simp at x0 x1 x2 x3
            clear bx
            have HO4 := Lib.hid O4
            clear O4
            go_wp2_with fail
            refine (rput_q HR4.out HPF.out b4 key s n hp1 hp2 M gone HM.out Hg.out).mono ?_
            rintro _ w5 ⟨a5, c5, rfl, O5, R5, k5⟩
            have HD5 := Lib.hid (show HS w w5 cb mb rb r kept _ (k + 1) from ⟨HS4.out.one HR4.out hlo k5, R5, hlo⟩)
            have HO45 := Lib.hid (HO4.out.keep k5 (fun g hg e => by have := HO4.out.fresh g hg; have e' : g = rb := e; omega))
            have HO5 := Lib.hid O5
            clear O5 R5 k5
            clear x0 x1 x2 x3 xl
            go_wp2_with fail
            refine (same3 _ _ gone _ HO45.out.rd3 HO5.out.rd3 (by have := Hgl.out; omega)).mono ?_
            rintro _ w6 ⟨rfl, k6⟩
            have HD6 := Lib.hid (HD5.out.keep k6)
            clear k6
            go_wp2_with fail
            go_meet
            exact ⟨rfl, rfl, _, _, HD6.out⟩
          · go_wp2_with fail
            refine (putno_st HDV.out.S key s n hkey (by omega)).mono ?_
            rintro _ w4 ⟨rfl, S4, o4⟩
            have HR4 := Lib.hid (HDV.out.R.oth o4)
            have HB4 := Lib.hid (o4 _ _ _ _ HbV.out (by decide) (by decide))
            have HS4 := Lib.hid S4
            have hV4 := S4.hk.size
            clear o4 S4
            clear x0 x1 x2 x3 xl
            have bx := HB4.out
            have x0 := blk_cell bx 0
            have x1 := blk_cell bx 1
            have x2 := blk_cell bx 2
            have x3 := blk_cell bx 3
            have xl := blk_lt bx
            simp at x0 x1 x2 x3
            clear bx
            go_wp2_with fail
            refine (rputno_q HR4.out HPF.out key s n (by omega) (dropK N key) rfl).mono ?_
            rintro _ w5 ⟨rfl, R5, k5⟩
            have HD5 := Lib.hid (show HS w w5 cb mb rb r kept _ (k + 1) from ⟨(HS4.out.one HR4.out hlo k5).le (Nat.le_succ k), R5, hlo⟩)
            clear R5 k5
            clear x0 x1 x2 x3 xl
            go_wp2_with fail
            refine (same3 (.slice none 0 0) (.slice none 0 0) [] _ (rd3_nil _) (rd3_nil _) (by simp)).mono ?_
            rintro _ w6 ⟨rfl, k6⟩
            have HD6 := Lib.hid (HD5.out.keep k6)
            clear k6
            go_wp2_with fail
            go_meet
            exact ⟨rfl, rfl, _, _, HD6.out⟩
        · -- Get
          as_aux_lemma =>
          obtain ⟨v, hv⟩ : ∃ v, getV N key = v := ⟨_, rfl⟩
          obtain ⟨b0, hb0⟩ : ∃ b, (fnd N key).isSome = b := ⟨_, rfl⟩
          have Hv := Lib.hid hv
          have Hb0 := Lib.hid hb0
          clear hv hb0
          go_wp2_with fail
          refine (peek_st HDV.out.S key hkey v Hv.out b0 Hb0.out).mono ?_
          rintro _ w3 ⟨rfl, rfl⟩
          go_wp2_with fail
          refine (get_st HDV.out.S key hkey v Hv.out b0 Hb0.out).mono ?_
          rintro _ w4 ⟨rfl, S4, o4⟩
          have HR4 := Lib.hid (HDV.out.R.oth o4)
          have HB4 := Lib.hid (o4 _ _ _ _ HbV.out (by decide) (by decide))
          have HS4 := Lib.hid S4
          have hV4 := S4.hk.size
          clear o4 S4
          clear x0 x1 x2 x3 xl
          have bx := HB4.out
          have x0 := blk_cell bx 0
          have x1 := blk_cell bx 1
          have x2 := blk_cell bx 2
          have x3 := blk_cell bx 3
          have xl := blk_lt bx
          simp at x0 x1 x2 x3
          clear bx
          go_wp2_with fail
          refine (rget_q HR4.out HPF.out key true v Hv.out b0 Hb0.out (getN N key) rfl).mono ?_
          rintro _ w5 ⟨rfl, R5, k5⟩
          have HD5 := Lib.hid (show HS w w5 cb mb rb r kept _ (k + 1) from ⟨(HS4.out.one HR4.out hlo k5).le (Nat.le_succ k), R5, hlo⟩)
          clear R5 k5
          clear x0 x1 x2 x3 xl
          go_wp2_with fail
          go_meet
          exact ⟨rfl, rfl, _, _, HD5.out⟩
        · -- Peek
          as_aux_lemma =>
          obtain ⟨v, hv⟩ : ∃ v, getV N key = v := ⟨_, rfl⟩
          obtain ⟨b0, hb0⟩ : ∃ b, (fnd N key).isSome = b := ⟨_, rfl⟩
          have Hv := Lib.hid hv
          have Hb0 := Lib.hid hb0
          clear hv hb0
          go_wp2_with fail
          refine (peek_st HDV.out.S key hkey v Hv.out b0 Hb0.out).mono ?_
          rintro _ w3 ⟨rfl, rfl⟩
          go_wp2_with fail
          refine (rget_q HDV.out.R HPF.out key false v Hv.out b0 Hb0.out N rfl).mono ?_
          rintro _ w5 ⟨rfl, R5, k5⟩
          have HD5 := Lib.hid (show HS w w5 cb mb rb r kept _ (k + 1) from ⟨(HDV.out.S.one HDV.out.R hlo k5).le (Nat.le_succ k), R5, hlo⟩)
          clear R5 k5
          clear x0 x1 x2 x3 xl
          go_wp2_with fail
          go_meet
          exact ⟨rfl, rfl, _, _, HD5.out⟩
        · -- Drop
          as_aux_lemma =>
          obtain ⟨b0, hb0⟩ : ∃ b, (fnd N key).isSome = b := ⟨_, rfl⟩
          have Hb0 := Lib.hid hb0
          clear hb0
          go_wp2_with fail
          refine wp_region_pl (fun u => u.cell? ⟨ob, 1, none⟩ = some (.string key)) [] (.rd 0 (.rd 1 (.rd 2 (.rd 4 (.rd 5 (.rd 6 (.one 3 (.one 7 (.rd 8 (.one 9 .done)))))))))) (by kernel_rfl) (by kernel_rfl) (by kernel_rfl) (by kernel_rfl) (by intro c b d v u h; cases d <;> exact h) ?_
          have kd0 : Keep NoB V V.drew := (Keep.refl NoB V).drew
          have HDr := Lib.hid (HDV.out.keep kd0)
          have HSx := Lib.hid (kd0.some x1 (fun h => h))
          have HbVr := Lib.hid (blk_keep HbV.out kd0 (fun h => h))
          clear kd0
          clear x0 x1 x2 x3 xl
          first
            | refine pl_get (i := 0) rfl rfl HSx.out rfl (fun u hu => by (try dsimp only at hu); go_simp; rfl) (by simp only [List.setIfInBounds_toArray, List.set_cons_succ, List.set_cons_zero]; rfl) ?_
            | refine pl_skip (i := 0) rfl rfl HSx.out rfl (by simp only [List.setIfInBounds_toArray, List.set_cons_succ, List.set_cons_zero]; rfl) ?_
          first
            | refine pl_get (i := 1) rfl rfl HSx.out rfl (fun u hu => by (try dsimp only at hu); go_simp; rfl) (by simp only [List.setIfInBounds_toArray, List.set_cons_succ, List.set_cons_zero]; rfl) ?_
            | refine pl_skip (i := 1) rfl rfl HSx.out rfl (by simp only [List.setIfInBounds_toArray, List.set_cons_succ, List.set_cons_zero]; rfl) ?_
          first
            | refine pl_get (i := 2) rfl rfl HSx.out rfl (fun u hu => by (try dsimp only at hu); go_simp; rfl) (by simp only [List.setIfInBounds_toArray, List.set_cons_succ, List.set_cons_zero]; rfl) ?_
            | refine pl_skip (i := 2) rfl rfl HSx.out rfl (by simp only [List.setIfInBounds_toArray, List.set_cons_succ, List.set_cons_zero]; rfl) ?_
          first
            | refine pl_get (i := 4) rfl rfl HSx.out rfl (fun u hu => by (try dsimp only at hu); go_simp; rfl) (by simp only [List.setIfInBounds_toArray, List.set_cons_succ, List.set_cons_zero]; rfl) ?_
            | refine pl_skip (i := 4) rfl rfl HSx.out rfl (by simp only [List.setIfInBounds_toArray, List.set_cons_succ, List.set_cons_zero]; rfl) ?_
          first
            | refine pl_get (i := 5) rfl rfl HSx.out rfl (fun u hu => by (try dsimp only at hu); go_simp; rfl) (by simp only [List.setIfInBounds_toArray, List.set_cons_succ, List.set_cons_zero]; rfl) ?_
            | refine pl_skip (i := 5) rfl rfl HSx.out rfl (by simp only [List.setIfInBounds_toArray, List.set_cons_succ, List.set_cons_zero]; rfl) ?_
          first
            | refine pl_get (i := 6) rfl rfl HSx.out rfl (fun u hu => by (try dsimp only at hu); go_simp; rfl) (by simp only [List.setIfInBounds_toArray, List.set_cons_succ, List.set_cons_zero]; rfl) ?_
            | refine pl_skip (i := 6) rfl rfl HSx.out rfl (by simp only [List.setIfInBounds_toArray, List.set_cons_succ, List.set_cons_zero]; rfl) ?_
          refine pl_one (i := 3) rfl ?_
          go_wp2_with ((go_at_call 17; refine (drop_st HDr.out.S key hkey b0 Hb0.out).mono ?_; rintro _ w4 ⟨rfl, S4, o4⟩))
          have HR4 := Lib.hid (HDr.out.R.oth o4)
          have HS4 := Lib.hid S4
          have HS4x := Lib.hid (show w4.cell? ⟨ob, 1, none⟩ = some (.string key) from by have hb := blk_cell (o4 _ _ _ _ HbVr.out (by decide) (by decide)) 1; simpa using hb)
          clear S4 o4
          refine pl_next (fun _ => HS4x.out) ?_
          refine pl_one (i := 7) rfl ?_
          go_wp2_with ((go_at_call 23; refine (rdrop_q HR4.out HPF.out key b0 Hb0.out (dropK N key) rfl).mono ?_; rintro _ w5 ⟨rfl, R5, k5⟩))
          have HD5 := Lib.hid (show HS w w5 cb mb rb r kept _ (k + 1) from ⟨(HS4.out.one HR4.out hlo k5).le (Nat.le_succ k), R5, hlo⟩)
          have HS5x := Lib.hid (k5.some HS4x.out (fun e => hnr.out e))
          clear R5 k5
          refine pl_next (fun _ => HS5x.out) ?_
          first
            | refine pl_get (i := 8) rfl rfl HS5x.out rfl (fun u hu => by (try dsimp only at hu); go_simp; rfl) (by simp only [List.setIfInBounds_toArray, List.set_cons_succ, List.set_cons_zero]; rfl) ?_
            | refine pl_skip (i := 8) rfl rfl HS5x.out rfl (by simp only [List.setIfInBounds_toArray, List.set_cons_succ, List.set_cons_zero]; rfl) ?_
          refine pl_one (i := 9) rfl ?_
          go_wp2_with (fail)
          refine pl_next (fun _ => HS5x.out) ?_
          refine pl_done ?_
          go_wp2_with fail
          go_meet
          exact ⟨rfl, rfl, _, _, HD5.out⟩
        · -- Reserve
          as_aux_lemma =>
          by_cases hp : 0 ≤ s ∧ s ≤ r - kept
          · obtain ⟨hp1, hp2⟩ := hp
            obtain ⟨M, hM⟩ : ∃ l, N.take (wayJ (r - s - kept) N N.length) = l := ⟨_, rfl⟩
            obtain ⟨gone, hg⟩ : ∃ l, goneK N (wayJ (r - s - kept) N N.length) = l := ⟨_, rfl⟩
            have HM := Lib.hid hM
            have Hg := Lib.hid hg
            have Hgl := Lib.hid (show gone.length ≤ 1000 from by rw [← hg, goneK_length]; omega)
            clear hM hg
            go_wp2_with fail
            refine (res_st HDV.out.S s hp1 hp2 (by omega) M gone HM.out Hg.out).mono ?_
            rintro _ w4 ⟨a4, c4, rfl, O4, S4, o4⟩
            have HR4 := Lib.hid (HDV.out.R.oth o4)
            have HB4 := Lib.hid (o4 _ _ _ _ HbV.out (by decide) (by decide))
            have HS4 := Lib.hid S4
            have hV4 := S4.hk.size
            clear o4 S4
            clear x0 x1 x2 x3 xl
            have bx := HB4.out
            have x0 := blk_cell bx 0
            have x1 := blk_cell bx 1
            have x2 := blk_cell bx 2
            have x3 := blk_cell bx 3
            have xl := blk_lt bx
            simp at x0 x1 x2 x3
            clear bx
            have HO4 := Lib.hid O4
            clear O4
            go_wp2_with fail
            refine (rres_q HR4.out HPF.out s hp1 hp2 M gone HM.out Hg.out).mono ?_
            rintro _ w5 ⟨a5, c5, rfl, O5, R5, k5⟩
            have HD5 := Lib.hid (show HS w w5 cb mb rb r (kept + s) _ (k + 1) from ⟨(HS4.out.one HR4.out hlo k5).le (Nat.le_succ k), R5, hlo⟩)
            have HO45 := Lib.hid (HO4.out.keep k5 (fun g hg e => by have := HO4.out.fresh g hg; have e' : g = rb := e; omega))
            have HO5 := Lib.hid O5
            clear O5 R5 k5
            clear x0 x1 x2 x3 xl
            go_wp2_with fail
            refine (same3 _ _ gone _ HO45.out.rd3 HO5.out.rd3 (by have := Hgl.out; omega)).mono ?_
            rintro _ w6 ⟨rfl, k6⟩
            have HD6 := Lib.hid (HD5.out.keep k6)
            clear k6
            go_wp2_with fail
            go_meet
            exact ⟨rfl, rfl, _, _, HD6.out⟩
          · go_wp2_with fail
            refine (resno_st HDV.out.S s (by omega)).mono ?_
            rintro _ w4 ⟨rfl, S4, o4⟩
            have HR4 := Lib.hid (HDV.out.R.oth o4)
            have HB4 := Lib.hid (o4 _ _ _ _ HbV.out (by decide) (by decide))
            have HS4 := Lib.hid S4
            have hV4 := S4.hk.size
            clear o4 S4
            clear x0 x1 x2 x3 xl
            have bx := HB4.out
            have x0 := blk_cell bx 0
            have x1 := blk_cell bx 1
            have x2 := blk_cell bx 2
            have x3 := blk_cell bx 3
            have xl := blk_lt bx
            simp at x0 x1 x2 x3
            clear bx
            go_wp2_with fail
            refine (rresno_q HR4.out HPF.out s (by omega)).mono ?_
            rintro _ w5 ⟨rfl, R5, k5⟩
            have HD5 := Lib.hid (show HS w w5 cb mb rb r kept _ (k + 1) from ⟨(HS4.out.one HR4.out hlo k5).le (Nat.le_succ k), R5, hlo⟩)
            clear R5 k5
            clear x0 x1 x2 x3 xl
            go_wp2_with fail
            refine (same3 (.slice none 0 0) (.slice none 0 0) [] _ (rd3_nil _) (rd3_nil _) (by simp)).mono ?_
            rintro _ w6 ⟨rfl, k6⟩
            have HD6 := Lib.hid (HD5.out.keep k6)
            clear k6
            go_wp2_with fail
            go_meet
            exact ⟨rfl, rfl, _, _, HD6.out⟩
        · -- Release
          as_aux_lemma =>
          obtain ⟨k', hk'⟩ : ∃ q, kept - (if 0 < s then min s kept else 0) = q := ⟨_, rfl⟩
          have Hk' := Lib.hid hk'
          clear hk'
          go_wp2_with fail
          refine (rel_st HDV.out.S s k' Hk'.out).mono ?_
          rintro _ w4 ⟨rfl, S4, o4⟩
          have HR4 := Lib.hid (HDV.out.R.oth o4)
          have HB4 := Lib.hid (o4 _ _ _ _ HbV.out (by decide) (by decide))
          have HS4 := Lib.hid S4
          have hV4 := S4.hk.size
          clear o4 S4
          clear x0 x1 x2 x3 xl
          have bx := HB4.out
          have x0 := blk_cell bx 0
          have x1 := blk_cell bx 1
          have x2 := blk_cell bx 2
          have x3 := blk_cell bx 3
          have xl := blk_lt bx
          simp at x0 x1 x2 x3
          clear bx
          go_wp2_with fail
          refine (rrel_q HR4.out HPF.out s k' Hk'.out).mono ?_
          rintro _ w5 ⟨rfl, R5, k5⟩
          have HD5 := Lib.hid (show HS w w5 cb mb rb r k' _ (k + 1) from ⟨(HS4.out.one HR4.out hlo k5).le (Nat.le_succ k), R5, hlo⟩)
          clear R5 k5
          clear x0 x1 x2 x3 xl
          go_wp2_with fail
          go_meet
          exact ⟨rfl, rfl, _, _, HD5.out⟩
        · -- Clear
          as_aux_lemma =>
          go_wp2_with fail
          refine (clear_any cb mb r kept N _ HDV.out.S.T).mono ?_
          rintro _ w4 ⟨rfl, T4, k4⟩
          have S4 := HDV.out.S.post T4 k4 (fun x hx => by simp at hx) (Nat.zero_le k)
          have o4 := Oth.of HDV.out.S.T k4
          have HS4 := Lib.hid S4
          obtain ⟨ra, rc, R4⟩ := HDV.out.R.oth o4
          have HR4 := Lib.hid (show RQ w4 rb r kept N from ⟨ra, rc, R4⟩)
          have HRb := Lib.hid R4.blk
          have d0 := blk_cell R4.blk 0
          have dl := blk_lt R4.blk
          have df := blk_free R4.blk 0
          simp at d0
          clear T4 k4 S4 o4 R4
          clear x0 x1 x2 x3 xl
          go_wp2_with fail
          have b9 := blk_setCell (i := 0) HRb.out (.slice none 0 0)
          have k9 : Keep (OneB rb) w4 (w4.setCell ⟨rb, 0, none⟩ (.slice none 0 0)) := (Keep.refl (OneB rb) w4).setCell (p := ⟨rb, 0, none⟩) (Or.inr rfl) _
          simp at b9
          generalize w4.setCell ⟨rb, 0, none⟩ (.slice none 0 0) = w5 at b9 k9 ⊢
          have HD5 := Lib.hid (show HS w w5 cb mb rb r kept [] (k + 1) from ⟨(HS4.out.one HR4.out hlo k9).le (Nat.le_succ k), ⟨none, 0, ⟨b9, Own.nil _ _ _ _ _⟩⟩, hlo⟩)
          clear b9 k9 df dl d0 HRb
          go_wp2_with fail
          go_meet
          exact ⟨rfl, rfl, _, _, HD5.out⟩
        · have HD5 := Lib.hid (HDV.out.le (Nat.le_succ k))
          go_wp2_with fail
          go_meet
          exact ⟨rfl, rfl, _, _, HD5.out⟩
      case rest =>
        obtain ⟨rfl, rfl, kept', N', D⟩ := hcut
        obtain ⟨ra, rc, R⟩ := D.R
        have q2 := blk_cell R.blk 2
        simp at q2
        have HD := Lib.hid D
        have HP := Lib.hid (D.S.pf (by omega))
        obtain ⟨u, hu⟩ : ∃ u, sumS N' + kept' = u := ⟨_, rfl⟩
        obtain ⟨G, hG⟩ : ∃ G, N'.map (·.k) = G := ⟨_, rfl⟩
        have hGl : G.length ≤ 1000000 := by rw [← hG, List.length_map]; have := D.S.len; omega
        have Hu := Lib.hid hu
        have HG := Lib.hid hG
        have HQ := Lib.hid q2
        have HGl := Lib.hid hGl
        clear D R q2 hkd hu hG hGl
        as_aux_lemma =>
        go_wp2_with fail
        refine wp_region_pl (fun u => u.cell? ⟨rb, 2, none⟩ = some (.int .i64 kept')) [] (.rd 0 (.rd 1 (.rd 2 (.rd 3 (.rd 5 (.one 4 (.one 6 (.rd 7 (.rd 8 (.rd 9 (.rd 10 (.rd 12 (.rd 13 (.rd 14 (.rd 15 (.one 11 (.rd 16 (.rd 17 (.rd 18 (.rd 19 (.rd 21 (.one 20 (.one 22 (.one 23 (.rd 24 (.rd 25 .done)))))))))))))))))))))))))) (by kernel_rfl) (by kernel_rfl) (by kernel_rfl) (by kernel_rfl) (by intro c b d v u h; cases d <;> exact h) ?_
        have kd0 : Keep NoB wc wc.drew := (Keep.refl NoB wc).drew
        have HD0 := Lib.hid (HD.out.keep kd0)
        have HS0 := Lib.hid (kd0.some HQ.out (fun h => h))
        clear kd0 HQ HD
        first
          | refine pl_get (i := 0) rfl rfl HS0.out rfl (fun u hu => by (try dsimp only at hu); go_simp; rfl) (by simp only [List.setIfInBounds_toArray, List.set_cons_succ, List.set_cons_zero]; rfl) ?_
          | refine pl_skip (i := 0) rfl rfl HS0.out rfl (by simp only [List.setIfInBounds_toArray, List.set_cons_succ, List.set_cons_zero]; rfl) ?_
        first
          | refine pl_get (i := 1) rfl rfl HS0.out rfl (fun u hu => by (try dsimp only at hu); go_simp; rfl) (by simp only [List.setIfInBounds_toArray, List.set_cons_succ, List.set_cons_zero]; rfl) ?_
          | refine pl_skip (i := 1) rfl rfl HS0.out rfl (by simp only [List.setIfInBounds_toArray, List.set_cons_succ, List.set_cons_zero]; rfl) ?_
        first
          | refine pl_get (i := 2) rfl rfl HS0.out rfl (fun u hu => by (try dsimp only at hu); go_simp; rfl) (by simp only [List.setIfInBounds_toArray, List.set_cons_succ, List.set_cons_zero]; rfl) ?_
          | refine pl_skip (i := 2) rfl rfl HS0.out rfl (by simp only [List.setIfInBounds_toArray, List.set_cons_succ, List.set_cons_zero]; rfl) ?_
        first
          | refine pl_get (i := 3) rfl rfl HS0.out rfl (fun u hu => by (try dsimp only at hu); go_simp; rfl) (by simp only [List.setIfInBounds_toArray, List.set_cons_succ, List.set_cons_zero]; rfl) ?_
          | refine pl_skip (i := 3) rfl rfl HS0.out rfl (by simp only [List.setIfInBounds_toArray, List.set_cons_succ, List.set_cons_zero]; rfl) ?_
        first
          | refine pl_get (i := 5) rfl rfl HS0.out rfl (fun u hu => by (try dsimp only at hu); go_simp; rfl) (by simp only [List.setIfInBounds_toArray, List.set_cons_succ, List.set_cons_zero]; rfl) ?_
          | refine pl_skip (i := 5) rfl rfl HS0.out rfl (by simp only [List.setIfInBounds_toArray, List.set_cons_succ, List.set_cons_zero]; rfl) ?_
        refine pl_one (i := 4) rfl ?_
        go_wp2_with ((go_at_call 16; refine (used_st HD0.out.S u Hu.out).mono ?_; rintro _ w3 ⟨rfl, S3, k3⟩))
        have HD1 := Lib.hid (HD0.out.keep k3)
        have HS1 := Lib.hid (k3.some HS0.out (fun h => h))
        clear S3 k3 HD0 HS0
        refine pl_next (fun _ => HS1.out) ?_
        refine pl_one (i := 6) rfl ?_
        go_wp2_with ((go_at_call 27; refine (rused_q HD1.out.R HP.out u Hu.out).mono ?_; rintro _ w4 ⟨rfl, rfl⟩))
        refine pl_next (fun _ => HS1.out) ?_
        first
          | refine pl_get (i := 7) rfl rfl HS1.out rfl (fun u hu => by (try dsimp only at hu); go_simp; rfl) (by simp only [List.setIfInBounds_toArray, List.set_cons_succ, List.set_cons_zero]; rfl) ?_
          | refine pl_skip (i := 7) rfl rfl HS1.out rfl (by simp only [List.setIfInBounds_toArray, List.set_cons_succ, List.set_cons_zero]; rfl) ?_
        first
          | refine pl_get (i := 8) rfl rfl HS1.out rfl (fun u hu => by (try dsimp only at hu); go_simp; rfl) (by simp only [List.setIfInBounds_toArray, List.set_cons_succ, List.set_cons_zero]; rfl) ?_
          | refine pl_skip (i := 8) rfl rfl HS1.out rfl (by simp only [List.setIfInBounds_toArray, List.set_cons_succ, List.set_cons_zero]; rfl) ?_
        first
          | refine pl_get (i := 9) rfl rfl HS1.out rfl (fun u hu => by (try dsimp only at hu); go_simp; rfl) (by simp only [List.setIfInBounds_toArray, List.set_cons_succ, List.set_cons_zero]; rfl) ?_
          | refine pl_skip (i := 9) rfl rfl HS1.out rfl (by simp only [List.setIfInBounds_toArray, List.set_cons_succ, List.set_cons_zero]; rfl) ?_
        first
          | refine pl_get (i := 10) rfl rfl HS1.out rfl (fun u hu => by (try dsimp only at hu); go_simp; rfl) (by simp only [List.setIfInBounds_toArray, List.set_cons_succ, List.set_cons_zero]; rfl) ?_
          | refine pl_skip (i := 10) rfl rfl HS1.out rfl (by simp only [List.setIfInBounds_toArray, List.set_cons_succ, List.set_cons_zero]; rfl) ?_
        first
          | refine pl_get (i := 12) rfl rfl HS1.out rfl (fun u hu => by (try dsimp only at hu); go_simp; rfl) (by simp only [List.setIfInBounds_toArray, List.set_cons_succ, List.set_cons_zero]; rfl) ?_
          | refine pl_skip (i := 12) rfl rfl HS1.out rfl (by simp only [List.setIfInBounds_toArray, List.set_cons_succ, List.set_cons_zero]; rfl) ?_
        first
          | refine pl_get (i := 13) rfl rfl HS1.out rfl (fun u hu => by (try dsimp only at hu); go_simp; rfl) (by simp only [List.setIfInBounds_toArray, List.set_cons_succ, List.set_cons_zero]; rfl) ?_
          | refine pl_skip (i := 13) rfl rfl HS1.out rfl (by simp only [List.setIfInBounds_toArray, List.set_cons_succ, List.set_cons_zero]; rfl) ?_
        first
          | refine pl_get (i := 14) rfl rfl HS1.out rfl (fun u hu => by (try dsimp only at hu); go_simp; rfl) (by simp only [List.setIfInBounds_toArray, List.set_cons_succ, List.set_cons_zero]; rfl) ?_
          | refine pl_skip (i := 14) rfl rfl HS1.out rfl (by simp only [List.setIfInBounds_toArray, List.set_cons_succ, List.set_cons_zero]; rfl) ?_
        first
          | refine pl_get (i := 15) rfl rfl HS1.out rfl (fun u hu => by (try dsimp only at hu); go_simp; rfl) (by simp only [List.setIfInBounds_toArray, List.set_cons_succ, List.set_cons_zero]; rfl) ?_
          | refine pl_skip (i := 15) rfl rfl HS1.out rfl (by simp only [List.setIfInBounds_toArray, List.set_cons_succ, List.set_cons_zero]; rfl) ?_
        refine pl_one (i := 11) rfl ?_
        go_wp2_with ((go_at_call 20; refine (reserved_any cb mb r kept' N' _ HD1.out.S.T).mono ?_; rintro _ w5 ⟨rfl, rfl⟩))
        refine pl_next (fun _ => HS1.out) ?_
        first
          | refine pl_get (i := 16) rfl rfl HS1.out rfl (fun u hu => by (try dsimp only at hu); go_simp; rfl) (by simp only [List.setIfInBounds_toArray, List.set_cons_succ, List.set_cons_zero]; rfl) ?_
          | refine pl_skip (i := 16) rfl rfl HS1.out rfl (by simp only [List.setIfInBounds_toArray, List.set_cons_succ, List.set_cons_zero]; rfl) ?_
        first
          | refine pl_get (i := 17) rfl rfl HS1.out rfl (fun u hu => by (try dsimp only at hu); go_simp; rfl) (by simp only [List.setIfInBounds_toArray, List.set_cons_succ, List.set_cons_zero]; rfl) ?_
          | refine pl_skip (i := 17) rfl rfl HS1.out rfl (by simp only [List.setIfInBounds_toArray, List.set_cons_succ, List.set_cons_zero]; rfl) ?_
        first
          | refine pl_get (i := 18) rfl rfl HS1.out rfl (fun u hu => by (try dsimp only at hu); go_simp; rfl) (by simp only [List.setIfInBounds_toArray, List.set_cons_succ, List.set_cons_zero]; rfl) ?_
          | refine pl_skip (i := 18) rfl rfl HS1.out rfl (by simp only [List.setIfInBounds_toArray, List.set_cons_succ, List.set_cons_zero]; rfl) ?_
        first
          | refine pl_get (i := 19) rfl rfl HS1.out rfl (fun u hu => by (try dsimp only at hu); go_simp; rfl) (by simp only [List.setIfInBounds_toArray, List.set_cons_succ, List.set_cons_zero]; rfl) ?_
          | refine pl_skip (i := 19) rfl rfl HS1.out rfl (by simp only [List.setIfInBounds_toArray, List.set_cons_succ, List.set_cons_zero]; rfl) ?_
        first
          | refine pl_get (i := 21) rfl rfl HS1.out rfl (fun u hu => by (try dsimp only at hu); go_simp; rfl) (by simp only [List.setIfInBounds_toArray, List.set_cons_succ, List.set_cons_zero]; rfl) ?_
          | refine pl_skip (i := 21) rfl rfl HS1.out rfl (by simp only [List.setIfInBounds_toArray, List.set_cons_succ, List.set_cons_zero]; rfl) ?_
        refine pl_one (i := 20) rfl ?_
        go_wp2_with ((go_at_call 14; refine (keys_st HD1.out.S (by omega) G HG.out).mono ?_; rintro _ w6 ⟨a6, c6, rfl, O6, k6⟩))
        have HD2 := Lib.hid (HD1.out.keep k6)
        have HS2 := Lib.hid (k6.some HS1.out (fun h => h))
        have HO6 := Lib.hid O6
        clear k6 O6 HD1 HS1
        refine pl_next (fun _ => HS2.out) ?_
        refine pl_one (i := 22) rfl ?_
        go_wp2_with ((go_at_call 28; refine (rkeys_q HD2.out.R HP.out G HG.out).mono ?_; rintro _ w7 ⟨a7, c7, rfl, O7, k7⟩))
        have HD3 := Lib.hid (HD2.out.keep k7)
        have HS3 := Lib.hid (k7.some HS2.out (fun h => h))
        have HO67 := Lib.hid (HO6.out.keep k7 (fun _ _ h => h))
        have HO7 := Lib.hid O7
        clear k7 O7 HD2 HS2 HO6
        refine pl_next (fun _ => HS3.out) ?_
        refine pl_one (i := 23) rfl ?_
        go_wp2_with ((go_at_call 13; refine (same3 _ _ G _ HO67.out.rd3 HO7.out.rd3 HGl.out).mono ?_; rintro _ w8 ⟨rfl, k8⟩))
        have HD4 := Lib.hid (HD3.out.keep k8)
        have HS4 := Lib.hid (k8.some HS3.out (fun h => h))
        clear k8 HO67 HO7
        refine pl_next (fun _ => HS4.out) ?_
        first
          | refine pl_get (i := 24) rfl rfl HS4.out rfl (fun u hu => by (try dsimp only at hu); go_simp; rfl) (by simp only [List.setIfInBounds_toArray, List.set_cons_succ, List.set_cons_zero]; rfl) ?_
          | refine pl_skip (i := 24) rfl rfl HS4.out rfl (by simp only [List.setIfInBounds_toArray, List.set_cons_succ, List.set_cons_zero]; rfl) ?_
        first
          | refine pl_get (i := 25) rfl rfl HS4.out rfl (fun u hu => by (try dsimp only at hu); go_simp; rfl) (by simp only [List.setIfInBounds_toArray, List.set_cons_succ, List.set_cons_zero]; rfl) ?_
          | refine pl_skip (i := 25) rfl rfl HS4.out rfl (by simp only [List.setIfInBounds_toArray, List.set_cons_succ, List.set_cons_zero]; rfl) ?_
        refine pl_done ?_
        go_wp2_with fail
        go_roundw
        case rel => exact ⟨k + 1, kept', N', hlt, h200, by go_num, HD4.out⟩
        case measure => simp [intOf]; omega
    · have hout : (¬ k < len0 ∧ decide ((k : Int) < (len0 : Int)) = false) ∨ (k < len0 ∧ ¬ k < 200 ∧ decide ((k : Int) < 200) = false) := by
        by_cases h1 : k < len0
        · right
          have : ¬ k < 200 := fun h => hgo ⟨h1, h⟩
          exact ⟨h1, this, by simp; omega⟩
        · left
          exact ⟨h1, by simp; omega⟩
      have Hk := Lib.hid D.S.hk
      clear hgo D
      rcases hout with ⟨h1, hd⟩ | ⟨h1, h2, hd⟩
      all_goals
        go_wp2_with fail
        go_ret
        exact ⟨rfl, Hk.out.below (fun _ _ h => h)⟩
end Go.Proofs.Ytgbcjnejlelndaa
