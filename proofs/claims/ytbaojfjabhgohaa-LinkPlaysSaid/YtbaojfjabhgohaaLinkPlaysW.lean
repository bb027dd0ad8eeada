/- The walk of LinkPlays. -/
import Derived.Test.YtbaojfjabhgohaaLinkX
import Derived.Test.YtbaojfjabhgohaaLinkTrueW
namespace Go.Proofs.Ytbaojfjabhgohaa
open Go Go.RowKit Go.Maps

theorem ks8 {w w' : World} {p1 p2 p3 p4 p5 p6 p7 p8 : Addr} {v1 v2 v3 v4 v5 v6 v7 v8 : Value} (h : w.cell? p1 = some v1 ∧ w.cell? p2 = some v2 ∧ w.cell? p3 = some v3 ∧ w.cell? p4 = some v4 ∧ w.cell? p5 = some v5 ∧ w.cell? p6 = some v6 ∧ w.cell? p7 = some v7 ∧ w.cell? p8 = some v8) (k : Keep NoB w w') : w'.cell? p1 = some v1 ∧ w'.cell? p2 = some v2 ∧ w'.cell? p3 = some v3 ∧ w'.cell? p4 = some v4 ∧ w'.cell? p5 = some v5 ∧ w'.cell? p6 = some v6 ∧ w'.cell? p7 = some v7 ∧ w'.cell? p8 = some v8 :=
  ⟨ks1 h.1 k, ks1 h.2.1 k, ks6 h.2.2 k⟩
theorem map_p_one (N : List HE) (x : HE) : (N ++ [x]).map HE.p = N.map HE.p ++ [x.p] := by simp

theorem s15k {S : Nat → Prop} {w w' : World} {ob : Nat} {v1 v2 v3 : Value} {l : List UInt8} (h : w.cell? ⟨ob, 1, none⟩ = some v1 ∧ w.cell? ⟨ob, 2, none⟩ = some v2 ∧ w.cell? ⟨ob, 6, none⟩ = some v3 ∧ Rd w v3 l) (k : Keep S w w') (ho : ¬ S ob) (hr : Rd w' v3 l) : w'.cell? ⟨ob, 1, none⟩ = some v1 ∧ w'.cell? ⟨ob, 2, none⟩ = some v2 ∧ w'.cell? ⟨ob, 6, none⟩ = some v3 ∧ Rd w' v3 l :=
  ⟨k.some h.1 ho, k.some h.2.1 ho, k.some h.2.2.1 ho, hr⟩
theorem s3k {S : Nat → Prop} {w w' : World} {ob : Nat} {v1 v2 v3 : Value} (h : w.cell? ⟨ob, 3, none⟩ = some v1 ∧ w.cell? ⟨ob, 4, none⟩ = some v2 ∧ w.cell? ⟨ob, 5, none⟩ = some v3) (k : Keep S w w') (ho : ¬ S ob) : w'.cell? ⟨ob, 3, none⟩ = some v1 ∧ w'.cell? ⟨ob, 4, none⟩ = some v2 ∧ w'.cell? ⟨ob, 5, none⟩ = some v3 :=
  ⟨k.some h.1 ho, k.some h.2.1 ho, k.some h.2.2 ho⟩
theorem HS.fresh {w w9 w' : World} {nb rb : Nat} {room : Int} {N : List HE} {k B' : Nat} {v : Value} {l : List UInt8} (D : HS w w9 nb rb room N k) (hv : Row w9 B' 5 1 cU v l) (hB : w.heap.size ≤ B') (hne : ∀ x ∈ N, ∀ g, x.v.ownBlock = some g → v.ownBlock ≠ some g) (hk : Keep (SIn v) w9 w') : HS w w' nb rb room N k := by
  obtain ⟨a, cap, a', cap', sent, T, R, h1, h2⟩ := D.st
  exact ⟨⟨a, cap, a', cap', sent, T.fresh hv hne hk, R.fresh hv hk, h1, h2⟩, D.len, D.hk.trans' hk (fun q hq e => by have := hv.fresh q e; omega)⟩








set_option maxRecDepth 100000 in
set_option maxHeartbeats 40000000 in
theorem plays_walk (room : Int) (a0 : Option Addr) (len0 cap0 : Nat) (z : Nat → LkOp) (w : World) (h0 : IsLk w a0 len0 z) :
    Calls Try.prog 5 #[.int .i64 room, .slice a0 len0 cap0] w fun e w' => e = .returned (.bool true) ∧ Below w.heap.size w w' := by
  obtain ⟨hmax, hok, hrow⟩ := h0
  unfold maxLen at hmax
  have Hok0 := Lib.hid hok
  have Hrow := Lib.hid hrow
  clear hok hrow
  go_enter Try.func5, Try.ntmps5
  go_wp2_with fail
  refine (awake_any _).mono ?_
  rintro _ w1 ⟨rfl, hk1⟩
  go_wp2_with fail
  refine (new_any room _ hk1.size).mono ?_
  rintro _ w2 ⟨rfl, T2, hk2, hs2⟩
  have hPB : PB w w1.heap.size w2.heap.size := ⟨hk1.size, by omega⟩
  have k3 : Keep NoB w2 (w2.alloc (.cells #[.slice none 0 0, .int .i64 room, .int .i64 0] 47)) := (Keep.refl NoB w2).alloc _
  have D3 : HS w (w2.alloc (.cells #[.slice none 0 0, .int .i64 room, .int .i64 0] 47)) w1.heap.size w2.heap.size room [] 0 :=
    ⟨⟨none, 0, none, 0, 0, T2.keep0 k3, ⟨blk_new w2 _, Own.nil _ _ _ _ _⟩, by omega, by omega⟩, Nat.zero_le _, (hk1.trans hk2).trans k3⟩
  clear T2 hk1 hk2 hs2 k3
  go_wp2_with fail
  generalize World.alloc w2 (.cells #[.slice none 0 0, .int .i64 room, .int .i64 0] 47) = w3 at D3 ⊢
  generalize w1.heap.size = nb at D3 hPB ⊢
  generalize w2.heap.size = rb at D3 hPB ⊢
  have HPB := Lib.hid hPB
  have HD3 := Lib.hid D3
  clear hPB D3
  go_loopw [8] (fun i wr => ∃ (k : Nat) (N : List HE), k ≤ len0 ∧ k ≤ 200 ∧ i = .int .i64 k ∧ HS w wr nb rb room N k) (fun i _ => len0 - (intOf i).toNat)
  case atStart => exact ⟨0, [], Nat.zero_le _, Nat.zero_le _, rfl, HD3.out⟩
  case round =>
    clear HD3
    obtain ⟨k, N, hk0, hk200, rfl, D⟩ := hrel
    by_cases hgo : k < len0 ∧ k < 200
    · obtain ⟨hlt, h200⟩ := hgo
      have h200i : decide ((k : Int) < 200) = true := by simp; omega
      rcases Hrow.out with h | ⟨b, off, rfl, hb, hc⟩
      · omega
      have hcw := hc k hlt
      have hop := Hok0.out k hlt
      clear hc
      generalize hzk : z k = x at hcw hop
      clear hzk
      obtain ⟨kd, f, t, i, j, c, oa, oc, ol⟩ := x
      obtain ⟨_, _, _, hwi, hwj, hwc, hrd, _⟩ := hop
      simp only [LkOp.v] at hwi hwj hwc hrd
      have l00 : w.cell? ⟨b, off + k * 7, none⟩ = some (.int .i64 kd) := hcw 0 (by decide)
      have l01 : w.cell? ⟨b, off + k * 7 + 1, none⟩ = some (.int .i64 f) := hcw 1 (by decide)
      have l02 : w.cell? ⟨b, off + k * 7 + 2, none⟩ = some (.int .i64 t) := hcw 2 (by decide)
      have l03 : w.cell? ⟨b, off + k * 7 + 3, none⟩ = some (.int .i64 i) := hcw 3 (by decide)
      have l04 : w.cell? ⟨b, off + k * 7 + 4, none⟩ = some (.int .i64 j) := hcw 4 (by decide)
      have l05 : w.cell? ⟨b, off + k * 7 + 5, none⟩ = some (.int .u8 c) := hcw 5 (by decide)
      have l06 : w.cell? ⟨b, off + k * 7 + 6, none⟩ = some (.slice oa ol.length oc) := hcw 6 (by decide)
      replace l00 := D.hk.some l00 (fun h => h)
      replace l01 := D.hk.some l01 (fun h => h)
      replace l02 := D.hk.some l02 (fun h => h)
      replace l03 := D.hk.some l03 (fun h => h)
      replace l04 := D.hk.some l04 (fun h => h)
      replace l05 := D.hk.some l05 (fun h => h)
      replace l06 := D.hk.some l06 (fun h => h)
      have hb0 : b < wr.heap.size := Nat.lt_of_lt_of_le hb D.hk.size
      have hws : w.heap.size ≤ wr.heap.size := D.hk.size
      have Hrd := Lib.hid hrd
      have Hwc := Lib.hid hwc
      have Hwi := Lib.hid (show -9223372036854775808 ≤ i ∧ i ≤ 9223372036854775807 from bounds_i64 hwi)
      have Hwj := Lib.hid (show -9223372036854775808 ≤ j ∧ j ≤ 9223372036854775807 from bounds_i64 hwj)
      have hob : nb < wr.heap.size ∧ rb < wr.heap.size := by
        obtain ⟨_, _, _, _, _, T, R, _, _⟩ := D.st
        exact ⟨blk_lt T.blk, blk_lt R.blk⟩
      have HD0 := Lib.hid D
      clear hcw hrd D hwc hwi hwj
      by_cases hbig : ol.length ≤ 10000
      · have hd1 : decide (10000 < (ol.length : Int)) = false := decide_eq_false (by omega)
        have hkd : kd = 0 ∨ kd = 1 ∨ kd = 2 ∨ kd = 3 ∨ kd = 4 ∨ kd = 5 ∨ ((kd == 0) = false ∧ (kd == 1) = false ∧ (kd == 2) = false ∧ (kd == 3) = false ∧ (kd == 4) = false ∧ (kd == 5) = false) := by
          simp; omega
        go_upto_block 2 with fail
        have bV := blk_new wr (.cells #[.int .i64 kd, .int .i64 f, .int .i64 t, .int .i64 i, .int .i64 j, .int .u8 c, .slice oa ol.length oc] 29)
        have DV := HD0.out.keep ((Keep.refl NoB wr).alloc (.cells #[.int .i64 kd, .int .i64 f, .int .i64 t, .int .i64 i, .int .i64 j, .int .u8 c, .slice oa ol.length oc] 29))
        generalize World.alloc wr (.cells #[.int .i64 kd, .int .i64 f, .int .i64 t, .int .i64 i, .int .i64 j, .int .u8 c, .slice oa ol.length oc] 29) = V at bV DV ⊢
        generalize wr.heap.size = ob at bV hob hws ⊢
        have HDV := Lib.hid DV
        have HbV := Lib.hid bV
        have hVo := blk_lt bV
        clear HD0 l00 l01 l02 l03 l04 l05 l06 hb0 DV bV hd1
        have hN200 : N.length ≤ 200 := by have := HDV.out.len; omega
        go_cut [9, 10, 11, 12, 13, 14, 15, 16, 17, 18, 19, 20, 21, 22] from 33 to 261 (fun ov okv _ _ _ _ _ _ _ _ _ _ _ _ wx => ov = .pointer (some ⟨ob, 0, none⟩) ∧ okv = .bool true ∧ ∃ N', HS w wx nb rb room N' (k + 1))
        case first =>
          have bx := HbV.out
          have x0 := blk_cell bx 0
          have x1 := blk_cell bx 1
          have x2 := blk_cell bx 2
          have x3 := blk_cell bx 3
          have x4 := blk_cell bx 4
          have x5 := blk_cell bx 5
          have x6 := blk_cell bx 6
          have xl := blk_lt bx
          simp at x0 x1 x2 x3 x4 x5 x6
          clear bx
          obtain ⟨na, ncap, ra, rcap, sent, T0, R0, hs1, hs2⟩ := HDV.out.st
          have HT := Lib.hid T0
          have HR := Lib.hid R0
          have hnob : ob ≠ nb := by omega
          have hrob : ob ≠ rb := by omega
          clear T0 R0
          rcases hkd with rfl | rfl | rfl | rfl | rfl | rfl | ⟨e0, e1, e2, e3, e4, e5⟩
          · -- Send
            have hrdV := Hrd.out.keep HDV.out.hk (fun _ _ _ _ h => h)
            have HrdV := Lib.hid hrdV
            clear hrdV
            have RE := (Own.empty V (Nat.le_refl _) 5 1 cU).row
            have HRE := Lib.hid RE
            clear RE
            go_wp2_with (first
              | (at_builtin
                 refine wpList_row_rd rfl (.tmp 55) (.tmp 57) rfl rfl HRE.out rfl (HrdV.out.keep ((Keep.refl NoB V).alloc _) (fun _ _ _ _ h => h)) (by simp; omega) (by simp) (List.nil_append ol) ?_
                 intro a6 c6 w6 R6 k6
                 have K6 : Keep NoB V w6 := ((Keep.refl NoB V).alloc _).trans' k6 (fun q hq e => by have h1 : V.heap.size = q := Option.some.inj e; omega)
                 have HR6 := Lib.hid R6
                 have HK6 := Lib.hid K6
                 clear k6 K6 R6 x0 x1 x2 x3 x4 x5 x6 xl))
            have Hb6 := Lib.hid (blk_keep HbV.out HK6.out (fun h => h))
            have HT6 := Lib.hid (HT.out.keep0 HK6.out)
            have HR26 := Lib.hid (HR.out.keep0 HK6.out)
            have HKw6 := Lib.hid (HDV.out.hk.trans HK6.out)
            have bx := Hb6.out
            have x0 := blk_cell bx 0
            have x1 := blk_cell bx 1
            have x2 := blk_cell bx 2
            have x3 := blk_cell bx 3
            have x4 := blk_cell bx 4
            have x5 := blk_cell bx 5
            have x6 := blk_cell bx 6
            have xl := blk_lt bx
            simp at x0 x1 x2 x3 x4 x5 x6
            clear bx
            have HVw := Lib.hid (show w.heap.size ≤ V.heap.size from HDV.out.hk.size)
            by_cases hr : room ≤ N.length
            · have Hr := Lib.hid hr
              have HNE := Lib.hid (show ∀ x ∈ N, ∀ g, x.v.ownBlock = some g → (Value.slice a6 ol.length c6).ownBlock ≠ some g from fun x hx g hg e => by have h1 := (HT.out.each x hx).1.lt g hg; have h2 := HR6.out.fresh g e; omega)
              as_aux_lemma =>
              go_wp2_with fail
              refine wp_region_pl (fun u => u.cell? ⟨ob, 1, none⟩ = some (.int .i64 f) ∧ u.cell? ⟨ob, 2, none⟩ = some (.int .i64 t) ∧ u.cell? ⟨ob, 6, none⟩ = some (.slice oa ol.length oc) ∧ Rd u (.slice oa ol.length oc) ol) [] (.rd 0 (.rd 1 (.rd 2 (.rd 3 (.rd 4 (.rd 5 (.rd 7 (.rd 8 (.rd 9 (.rd 10 (.rd 11 (.rd 12 (.rd 13 (.rd 14 (.rd 15 (.one 6 (.one 16 (.rd 17 (.rd 18 (.rd 19 (.rd 20 (.rd 21 (.rd 22 (.rd 23 (.rd 24 (.one 25 (.rd 26 (.rd 27 (.one 28 .done))))))))))))))))))))))))))))) (by kernel_rfl) (by kernel_rfl) (by kernel_rfl) (by kernel_rfl) (by intro c b d v u h; cases d <;> exact h) ?_
              have kd0 : Keep NoB w6 w6.drew := (Keep.refl NoB w6).drew
              have HKw0 := Lib.hid (HKw6.out.trans kd0)
              have HS0 := Lib.hid (s15k ⟨x1, x2, x6, Hrd.out.keep HKw6.out (fun _ _ _ _ h => h)⟩ kd0 (fun h => h) (Hrd.out.keep HKw0.out (fun _ _ _ _ h => h)))
              have HT0 := Lib.hid (HT6.out.keep0 kd0)
              have HR0 := Lib.hid (HR26.out.keep0 kd0)
              have HB0 := Lib.hid (blk_keep Hb6.out kd0 (fun h => h))
              have HRw0 := Lib.hid (HR6.out.keep kd0 (fun _ _ h => h))
              clear x0 x1 x2 x3 x4 x5 x6 xl kd0
              first
                | refine pl_get (i := 0) rfl rfl HS0.out rfl (fun u hu => by (try dsimp only at hu); go_simp; rfl) (by simp only [List.setIfInBounds_toArray, List.set_cons_succ, List.set_cons_zero]; rfl) ?_
                | refine pl_skip (i := 0) rfl rfl HS0.out rfl (by simp only [List.setIfInBounds_toArray, List.set_cons_succ, List.set_cons_zero]; rfl) ?_
              first
                | refine pl_get (i := 1) rfl rfl HS0.out rfl (fun u hu => by (try dsimp only at hu); go_simp; rfl) (by simp only [List.setIfInBounds_toArray, List.set_cons_succ, List.set_cons_zero]; rfl) ?_
                | refine pl_skip (i := 1) rfl rfl HS0.out rfl (by simp only [List.setIfInBounds_toArray, List.set_cons_succ, List.set_cons_zero]; rfl) ?_
              first
                | refine pl_get (i := 2) rfl rfl HS0.out rfl (fun u hu => by (try dsimp only at hu); go_simp; rfl) (by simp only [List.setIfInBounds_toArray, List.set_cons_succ, List.set_cons_zero]; rfl) ?_
                | refine pl_skip (i := 2) rfl rfl HS0.out rfl (by simp only [List.setIfInBounds_toArray, List.set_cons_succ, List.set_cons_zero]; rfl) ?_
              first
                | refine pl_get (i := 3) rfl rfl HS0.out rfl (fun u hu => by (try dsimp only at hu); go_simp; rfl) (by simp only [List.setIfInBounds_toArray, List.set_cons_succ, List.set_cons_zero]; rfl) ?_
                | refine pl_skip (i := 3) rfl rfl HS0.out rfl (by simp only [List.setIfInBounds_toArray, List.set_cons_succ, List.set_cons_zero]; rfl) ?_
              first
                | refine pl_get (i := 4) rfl rfl HS0.out rfl (fun u hu => by (try dsimp only at hu); go_simp; rfl) (by simp only [List.setIfInBounds_toArray, List.set_cons_succ, List.set_cons_zero]; rfl) ?_
                | refine pl_skip (i := 4) rfl rfl HS0.out rfl (by simp only [List.setIfInBounds_toArray, List.set_cons_succ, List.set_cons_zero]; rfl) ?_
              first
                | refine pl_get (i := 5) rfl rfl HS0.out rfl (fun u hu => by (try dsimp only at hu); go_simp; rfl) (by simp only [List.setIfInBounds_toArray, List.set_cons_succ, List.set_cons_zero]; rfl) ?_
                | refine pl_skip (i := 5) rfl rfl HS0.out rfl (by simp only [List.setIfInBounds_toArray, List.set_cons_succ, List.set_cons_zero]; rfl) ?_
              first
                | refine pl_get (i := 7) rfl rfl HS0.out rfl (fun u hu => by (try dsimp only at hu); go_simp; rfl) (by simp only [List.setIfInBounds_toArray, List.set_cons_succ, List.set_cons_zero]; rfl) ?_
                | refine pl_skip (i := 7) rfl rfl HS0.out rfl (by simp only [List.setIfInBounds_toArray, List.set_cons_succ, List.set_cons_zero]; rfl) ?_
              first
                | refine pl_get (i := 8) rfl rfl HS0.out rfl (fun u hu => by (try dsimp only at hu); go_simp; rfl) (by simp only [List.setIfInBounds_toArray, List.set_cons_succ, List.set_cons_zero]; rfl) ?_
                | refine pl_skip (i := 8) rfl rfl HS0.out rfl (by simp only [List.setIfInBounds_toArray, List.set_cons_succ, List.set_cons_zero]; rfl) ?_
              first
                | refine pl_get (i := 9) rfl rfl HS0.out rfl (fun u hu => by (try dsimp only at hu); go_simp; rfl) (by simp only [List.setIfInBounds_toArray, List.set_cons_succ, List.set_cons_zero]; rfl) ?_
                | refine pl_skip (i := 9) rfl rfl HS0.out rfl (by simp only [List.setIfInBounds_toArray, List.set_cons_succ, List.set_cons_zero]; rfl) ?_
              first
                | refine pl_get (i := 10) rfl rfl HS0.out rfl (fun u hu => by (try dsimp only at hu); go_simp; rfl) (by simp only [List.setIfInBounds_toArray, List.set_cons_succ, List.set_cons_zero]; rfl) ?_
                | refine pl_skip (i := 10) rfl rfl HS0.out rfl (by simp only [List.setIfInBounds_toArray, List.set_cons_succ, List.set_cons_zero]; rfl) ?_
              first
                | refine pl_get (i := 11) rfl rfl HS0.out rfl (fun u hu => by (try dsimp only at hu); go_simp; rfl) (by simp only [List.setIfInBounds_toArray, List.set_cons_succ, List.set_cons_zero]; rfl) ?_
                | refine pl_skip (i := 11) rfl rfl HS0.out rfl (by simp only [List.setIfInBounds_toArray, List.set_cons_succ, List.set_cons_zero]; rfl) ?_
              first
                | refine pl_get (i := 12) rfl rfl HS0.out rfl (fun u hu => by (try dsimp only at hu); go_simp; rfl) (by simp only [List.setIfInBounds_toArray, List.set_cons_succ, List.set_cons_zero]; rfl) ?_
                | refine pl_skip (i := 12) rfl rfl HS0.out rfl (by simp only [List.setIfInBounds_toArray, List.set_cons_succ, List.set_cons_zero]; rfl) ?_
              first
                | refine pl_get (i := 13) rfl rfl HS0.out rfl (fun u hu => by (try dsimp only at hu); go_simp; rfl) (by simp only [List.setIfInBounds_toArray, List.set_cons_succ, List.set_cons_zero]; rfl) ?_
                | refine pl_skip (i := 13) rfl rfl HS0.out rfl (by simp only [List.setIfInBounds_toArray, List.set_cons_succ, List.set_cons_zero]; rfl) ?_
              refine pl_get (i := 14) rfl rfl HS0.out rfl (v := .string ⟨ol.toArray⟩) (fun u hu => by
                have hc := hu.2.2.2.str
                show (execOp _ _).run Try.prog u = _
                simp [execOp, Act.eval]
                simp [hc, Result.andThen]) (by simp only [List.setIfInBounds_toArray, List.set_cons_succ, List.set_cons_zero]; rfl) ?_
              first
                | refine pl_get (i := 15) rfl rfl HS0.out rfl (fun u hu => by (try dsimp only at hu); go_simp; rfl) (by simp only [List.setIfInBounds_toArray, List.set_cons_succ, List.set_cons_zero]; rfl) ?_
                | refine pl_skip (i := 15) rfl rfl HS0.out rfl (by simp only [List.setIfInBounds_toArray, List.set_cons_succ, List.set_cons_zero]; rfl) ?_
              refine pl_one (i := 6) rfl ?_
              go_wp2_with ((go_at_call 9; refine (send_full w.heap.size nb na ncap room sent N f t _ _ HT0.out Hr.out).mono ?_; rintro _ w7 ⟨rfl, k7⟩))
              have HKw7 := Lib.hid (HKw0.out.trans k7)
              have HS7 := Lib.hid (s15k HS0.out k7 (fun h => h) (Hrd.out.keep HKw7.out (fun _ _ _ _ h => h)))
              have HT7 := Lib.hid (HT0.out.keep0 k7)
              have HR7 := Lib.hid (HR0.out.keep0 k7)
              have HRw7 := Lib.hid (HRw0.out.keep k7 (fun _ _ h => h))
              clear k7
              refine pl_next (fun _ => HS7.out) ?_
              refine pl_one (i := 16) rfl ?_
              go_wp2_with ((go_at_call 18; refine (rsend_no rb w.heap.size ra rcap room sent (N.map HE.p) ⟨f, t, ⟨ol.toArray⟩, false⟩ _ HR7.out (by rw [List.length_map]; exact Hr.out)).mono ?_; rintro _ w8 ⟨rfl, k8⟩))
              have HD8 := Lib.hid (show HS w w8 nb rb room N (k + 1) from ⟨⟨na, ncap, ra, rcap, sent, HT7.out.keep0 k8, HR7.out.keep0 k8, hs1, by omega⟩, by have := HDV.out.len; omega, HKw7.out.trans k8⟩)
              have HS8 := Lib.hid (s15k HS7.out k8 (fun h => h) (Hrd.out.keep HD8.out.hk (fun _ _ _ _ h => h)))
              have HRw8 := Lib.hid (HRw7.out.keep k8 (fun _ _ h => h))
              clear k8
              refine pl_next (fun _ => HS8.out) ?_
              first
                | refine pl_get (i := 17) rfl rfl HS8.out rfl (fun u hu => by (try dsimp only at hu); go_simp; rfl) (by simp only [List.setIfInBounds_toArray, List.set_cons_succ, List.set_cons_zero]; rfl) ?_
                | refine pl_skip (i := 17) rfl rfl HS8.out rfl (by simp only [List.setIfInBounds_toArray, List.set_cons_succ, List.set_cons_zero]; rfl) ?_
              first
                | refine pl_get (i := 18) rfl rfl HS8.out rfl (fun u hu => by (try dsimp only at hu); go_simp; rfl) (by simp only [List.setIfInBounds_toArray, List.set_cons_succ, List.set_cons_zero]; rfl) ?_
                | refine pl_skip (i := 18) rfl rfl HS8.out rfl (by simp only [List.setIfInBounds_toArray, List.set_cons_succ, List.set_cons_zero]; rfl) ?_
              first
                | refine pl_get (i := 19) rfl rfl HS8.out rfl (fun u hu => by (try dsimp only at hu); go_simp; rfl) (by simp only [List.setIfInBounds_toArray, List.set_cons_succ, List.set_cons_zero]; rfl) ?_
                | refine pl_skip (i := 19) rfl rfl HS8.out rfl (by simp only [List.setIfInBounds_toArray, List.set_cons_succ, List.set_cons_zero]; rfl) ?_
              first
                | refine pl_get (i := 20) rfl rfl HS8.out rfl (fun u hu => by (try dsimp only at hu); go_simp; rfl) (by simp only [List.setIfInBounds_toArray, List.set_cons_succ, List.set_cons_zero]; rfl) ?_
                | refine pl_skip (i := 20) rfl rfl HS8.out rfl (by simp only [List.setIfInBounds_toArray, List.set_cons_succ, List.set_cons_zero]; rfl) ?_
              first
                | refine pl_get (i := 21) rfl rfl HS8.out rfl (fun u hu => by (try dsimp only at hu); go_simp; rfl) (by simp only [List.setIfInBounds_toArray, List.set_cons_succ, List.set_cons_zero]; rfl) ?_
                | refine pl_skip (i := 21) rfl rfl HS8.out rfl (by simp only [List.setIfInBounds_toArray, List.set_cons_succ, List.set_cons_zero]; rfl) ?_
              first
                | refine pl_get (i := 22) rfl rfl HS8.out rfl (fun u hu => by (try dsimp only at hu); go_simp; rfl) (by simp only [List.setIfInBounds_toArray, List.set_cons_succ, List.set_cons_zero]; rfl) ?_
                | refine pl_skip (i := 22) rfl rfl HS8.out rfl (by simp only [List.setIfInBounds_toArray, List.set_cons_succ, List.set_cons_zero]; rfl) ?_
              first
                | refine pl_get (i := 23) rfl rfl HS8.out rfl (fun u hu => by (try dsimp only at hu); go_simp; rfl) (by simp only [List.setIfInBounds_toArray, List.set_cons_succ, List.set_cons_zero]; rfl) ?_
                | refine pl_skip (i := 23) rfl rfl HS8.out rfl (by simp only [List.setIfInBounds_toArray, List.set_cons_succ, List.set_cons_zero]; rfl) ?_
              first
                | refine pl_get (i := 24) rfl rfl HS8.out rfl (fun u hu => by (try dsimp only at hu); go_simp; rfl) (by simp only [List.setIfInBounds_toArray, List.set_cons_succ, List.set_cons_zero]; rfl) ?_
                | refine pl_skip (i := 24) rfl rfl HS8.out rfl (by simp only [List.setIfInBounds_toArray, List.set_cons_succ, List.set_cons_zero]; rfl) ?_
              refine pl_one (i := 25) rfl ?_
              go_wp2_with ((go_at_call 9; refine (nsend_any f t _ _).mono ?_; rintro _ w9 ⟨rfl, k9⟩))
              have HD9 := Lib.hid (HD8.out.keep k9)
              have HS9 := Lib.hid (s15k HS8.out k9 (fun h => h) (Hrd.out.keep HD9.out.hk (fun _ _ _ _ h => h)))
              have HRw9 := Lib.hid (HRw8.out.keep k9 (fun _ _ h => h))
              clear k9
              refine pl_next (fun _ => HS9.out) ?_
              first
                | refine pl_get (i := 26) rfl rfl HS9.out rfl (fun u hu => by (try dsimp only at hu); go_simp; rfl) (by simp only [List.setIfInBounds_toArray, List.set_cons_succ, List.set_cons_zero]; rfl) ?_
                | refine pl_skip (i := 26) rfl rfl HS9.out rfl (by simp only [List.setIfInBounds_toArray, List.set_cons_succ, List.set_cons_zero]; rfl) ?_
              first
                | refine pl_get (i := 27) rfl rfl HS9.out rfl (fun u hu => by (try dsimp only at hu); go_simp; rfl) (by simp only [List.setIfInBounds_toArray, List.set_cons_succ, List.set_cons_zero]; rfl) ?_
                | refine pl_skip (i := 27) rfl rfl HS9.out rfl (by simp only [List.setIfInBounds_toArray, List.set_cons_succ, List.set_cons_zero]; rfl) ?_
              refine pl_one (i := 28) rfl ?_
              go_wp2_with (fail)
              refine pl_next (fun _ => HS9.out) ?_
              refine pl_done ?_
              have Hib := Lib.hid (IB.of_row HRw9.out)
              go_wp2_with fail
              go_loopw [89] (fun iv wr => ∃ m : Nat, m ≤ ol.length ∧ iv = .int .i64 (m : Int) ∧ IB wr a6 ol.length ∧ Keep (SIn (.slice a6 ol.length c6)) w9 wr) (fun iv _ => ol.length - (intOf iv).toNat)
              case atStart => exact ⟨0, Nat.zero_le _, rfl, Hib.out, Keep.refl _ _⟩
              case round =>
                obtain ⟨m, hm, rfl, ib, km⟩ := hrel
                have Hkm := Lib.hid km
                have Hibm := Lib.hid ib
                by_cases hmn : m < ol.length
                · obtain ⟨g6, cc, hga, hgb, hgc⟩ : ∃ g c, a6 = some ⟨g, 0, none⟩ ∧ wr.heap[g]? = some (.cells c 5 (0, 0)) ∧ ∀ j, j < ol.length → ∃ v : Int, c[j]? = some (.int .u8 v) := by
                    rcases ib.st with h0 | h0
                    · omega
                    · exact h0
                  obtain ⟨v6, hv6⟩ := hgc m hmn
                  have m0 := blk_cell hgb m
                  rw [hv6] at m0
                  have mf := blk_free hgb m
                  have ml := blk_lt hgb
                  clear ib km hgb hgc hv6
                  subst hga
                  go_wp2_with fail
                  go_roundw
                  case rel => exact ⟨m + 1, hmn, by go_num, Hibm.out.set m _, Hkm.out.setCell (p := ⟨g6, m, none⟩) (Or.inr rfl) _⟩
                  case measure => simp [intOf]; omega
                · have hd9 : decide ((m : Int) < (ol.length : Int)) = false := decide_eq_false (by omega)
                  clear ib km
                  go_wp2_with fail
                  go_meet
                  exact ⟨rfl, rfl, _, HD9.out.fresh HRw9.out HVw.out HNE.out Hkm.out⟩
            · have Hr := Lib.hid hr
              clear hr
              as_aux_lemma =>
              go_wp2_with fail
              refine wp_region_pl (fun u => u.cell? ⟨ob, 1, none⟩ = some (.int .i64 f) ∧ u.cell? ⟨ob, 2, none⟩ = some (.int .i64 t) ∧ u.cell? ⟨ob, 6, none⟩ = some (.slice oa ol.length oc) ∧ Rd u (.slice oa ol.length oc) ol) [] (.rd 0 (.rd 1 (.rd 2 (.rd 3 (.rd 4 (.rd 5 (.rd 7 (.rd 8 (.rd 9 (.rd 10 (.rd 11 (.rd 12 (.rd 13 (.rd 14 (.rd 15 (.one 6 (.one 16 (.rd 17 (.rd 18 (.rd 19 (.rd 20 (.rd 21 (.rd 22 (.rd 23 (.rd 24 (.one 25 (.rd 26 (.rd 27 (.one 28 .done))))))))))))))))))))))))))))) (by kernel_rfl) (by kernel_rfl) (by kernel_rfl) (by kernel_rfl) (by intro c b d v u h; cases d <;> exact h) ?_
              have kd0 : Keep NoB w6 w6.drew := (Keep.refl NoB w6).drew
              have HKw0 := Lib.hid (HKw6.out.trans kd0)
              have HS0 := Lib.hid (s15k ⟨x1, x2, x6, Hrd.out.keep HKw6.out (fun _ _ _ _ h => h)⟩ kd0 (fun h => h) (Hrd.out.keep HKw0.out (fun _ _ _ _ h => h)))
              have HT0 := Lib.hid (HT6.out.keep0 kd0)
              have HR0 := Lib.hid (HR26.out.keep0 kd0)
              have HB0 := Lib.hid (blk_keep Hb6.out kd0 (fun h => h))
              have HRw0 := Lib.hid (HR6.out.keep kd0 (fun _ _ h => h))
              clear x0 x1 x2 x3 x4 x5 x6 xl kd0
              first
                | refine pl_get (i := 0) rfl rfl HS0.out rfl (fun u hu => by (try dsimp only at hu); go_simp; rfl) (by simp only [List.setIfInBounds_toArray, List.set_cons_succ, List.set_cons_zero]; rfl) ?_
                | refine pl_skip (i := 0) rfl rfl HS0.out rfl (by simp only [List.setIfInBounds_toArray, List.set_cons_succ, List.set_cons_zero]; rfl) ?_
              first
                | refine pl_get (i := 1) rfl rfl HS0.out rfl (fun u hu => by (try dsimp only at hu); go_simp; rfl) (by simp only [List.setIfInBounds_toArray, List.set_cons_succ, List.set_cons_zero]; rfl) ?_
                | refine pl_skip (i := 1) rfl rfl HS0.out rfl (by simp only [List.setIfInBounds_toArray, List.set_cons_succ, List.set_cons_zero]; rfl) ?_
              first
                | refine pl_get (i := 2) rfl rfl HS0.out rfl (fun u hu => by (try dsimp only at hu); go_simp; rfl) (by simp only [List.setIfInBounds_toArray, List.set_cons_succ, List.set_cons_zero]; rfl) ?_
                | refine pl_skip (i := 2) rfl rfl HS0.out rfl (by simp only [List.setIfInBounds_toArray, List.set_cons_succ, List.set_cons_zero]; rfl) ?_
              first
                | refine pl_get (i := 3) rfl rfl HS0.out rfl (fun u hu => by (try dsimp only at hu); go_simp; rfl) (by simp only [List.setIfInBounds_toArray, List.set_cons_succ, List.set_cons_zero]; rfl) ?_
                | refine pl_skip (i := 3) rfl rfl HS0.out rfl (by simp only [List.setIfInBounds_toArray, List.set_cons_succ, List.set_cons_zero]; rfl) ?_
              first
                | refine pl_get (i := 4) rfl rfl HS0.out rfl (fun u hu => by (try dsimp only at hu); go_simp; rfl) (by simp only [List.setIfInBounds_toArray, List.set_cons_succ, List.set_cons_zero]; rfl) ?_
                | refine pl_skip (i := 4) rfl rfl HS0.out rfl (by simp only [List.setIfInBounds_toArray, List.set_cons_succ, List.set_cons_zero]; rfl) ?_
              first
                | refine pl_get (i := 5) rfl rfl HS0.out rfl (fun u hu => by (try dsimp only at hu); go_simp; rfl) (by simp only [List.setIfInBounds_toArray, List.set_cons_succ, List.set_cons_zero]; rfl) ?_
                | refine pl_skip (i := 5) rfl rfl HS0.out rfl (by simp only [List.setIfInBounds_toArray, List.set_cons_succ, List.set_cons_zero]; rfl) ?_
              first
                | refine pl_get (i := 7) rfl rfl HS0.out rfl (fun u hu => by (try dsimp only at hu); go_simp; rfl) (by simp only [List.setIfInBounds_toArray, List.set_cons_succ, List.set_cons_zero]; rfl) ?_
                | refine pl_skip (i := 7) rfl rfl HS0.out rfl (by simp only [List.setIfInBounds_toArray, List.set_cons_succ, List.set_cons_zero]; rfl) ?_
              first
                | refine pl_get (i := 8) rfl rfl HS0.out rfl (fun u hu => by (try dsimp only at hu); go_simp; rfl) (by simp only [List.setIfInBounds_toArray, List.set_cons_succ, List.set_cons_zero]; rfl) ?_
                | refine pl_skip (i := 8) rfl rfl HS0.out rfl (by simp only [List.setIfInBounds_toArray, List.set_cons_succ, List.set_cons_zero]; rfl) ?_
              first
                | refine pl_get (i := 9) rfl rfl HS0.out rfl (fun u hu => by (try dsimp only at hu); go_simp; rfl) (by simp only [List.setIfInBounds_toArray, List.set_cons_succ, List.set_cons_zero]; rfl) ?_
                | refine pl_skip (i := 9) rfl rfl HS0.out rfl (by simp only [List.setIfInBounds_toArray, List.set_cons_succ, List.set_cons_zero]; rfl) ?_
              first
                | refine pl_get (i := 10) rfl rfl HS0.out rfl (fun u hu => by (try dsimp only at hu); go_simp; rfl) (by simp only [List.setIfInBounds_toArray, List.set_cons_succ, List.set_cons_zero]; rfl) ?_
                | refine pl_skip (i := 10) rfl rfl HS0.out rfl (by simp only [List.setIfInBounds_toArray, List.set_cons_succ, List.set_cons_zero]; rfl) ?_
              first
                | refine pl_get (i := 11) rfl rfl HS0.out rfl (fun u hu => by (try dsimp only at hu); go_simp; rfl) (by simp only [List.setIfInBounds_toArray, List.set_cons_succ, List.set_cons_zero]; rfl) ?_
                | refine pl_skip (i := 11) rfl rfl HS0.out rfl (by simp only [List.setIfInBounds_toArray, List.set_cons_succ, List.set_cons_zero]; rfl) ?_
              first
                | refine pl_get (i := 12) rfl rfl HS0.out rfl (fun u hu => by (try dsimp only at hu); go_simp; rfl) (by simp only [List.setIfInBounds_toArray, List.set_cons_succ, List.set_cons_zero]; rfl) ?_
                | refine pl_skip (i := 12) rfl rfl HS0.out rfl (by simp only [List.setIfInBounds_toArray, List.set_cons_succ, List.set_cons_zero]; rfl) ?_
              first
                | refine pl_get (i := 13) rfl rfl HS0.out rfl (fun u hu => by (try dsimp only at hu); go_simp; rfl) (by simp only [List.setIfInBounds_toArray, List.set_cons_succ, List.set_cons_zero]; rfl) ?_
                | refine pl_skip (i := 13) rfl rfl HS0.out rfl (by simp only [List.setIfInBounds_toArray, List.set_cons_succ, List.set_cons_zero]; rfl) ?_
              refine pl_get (i := 14) rfl rfl HS0.out rfl (v := .string ⟨ol.toArray⟩) (fun u hu => by
                have hc := hu.2.2.2.str
                show (execOp _ _).run Try.prog u = _
                simp [execOp, Act.eval]
                simp [hc, Result.andThen]) (by simp only [List.setIfInBounds_toArray, List.set_cons_succ, List.set_cons_zero]; rfl) ?_
              first
                | refine pl_get (i := 15) rfl rfl HS0.out rfl (fun u hu => by (try dsimp only at hu); go_simp; rfl) (by simp only [List.setIfInBounds_toArray, List.set_cons_succ, List.set_cons_zero]; rfl) ?_
                | refine pl_skip (i := 15) rfl rfl HS0.out rfl (by simp only [List.setIfInBounds_toArray, List.set_cons_succ, List.set_cons_zero]; rfl) ?_
              have sz0 : w6.heap.size = w6.drew.heap.size := rfl
              refine pl_one (i := 6) rfl ?_
              go_wp2_with ((go_at_call 9; refine (send_ok2 w.heap.size nb na ncap room sent N f t _ ol _ HT0.out HKw0.out.size HRw0.out.rd (by omega) (by have h9 := Hr.out; omega) (by omega) hs1 (by omega)).mono ?_; rintro _ w7 ⟨a7, c7, g7, rfl, hg7, T7, k7⟩))
              have hso : ¬ SN nb (.slice na N.length ncap) ob := fun e => e.elim (fun e => hnob e) (fun e => HT0.out.row.ne HB0.out (by decide) ob e rfl)
              have HKw7 := Lib.hid (HKw0.out.trans' k7 (HPB.out.sn HT0.out))
              have HS7 := Lib.hid (s15k HS0.out k7 hso (Hrd.out.keep HKw7.out (fun _ _ _ _ h => h)))
              have HT7 := Lib.hid T7
              have HR7 := Lib.hid (HR0.out.sn HT0.out k7 HPB.out.ne)
              have HRw7 := Lib.hid (HRw0.out.keep k7 (fun g hg e => e.elim (fun e => HRw0.out.ne HT0.out.blk (by decide) g hg e) (fun e => HT0.out.row.ne_own HRw0.out (by decide) g e hg)))
              obtain ⟨N', hN'⟩ : ∃ q, N ++ [⟨f, t, some ⟨g7, 0, none⟩, ol.length, false, ol⟩] = q := ⟨_, rfl⟩
              have HN' := Lib.hid (show N.map HE.p ++ [⟨f, t, ⟨ol.toArray⟩, false⟩] = N'.map HE.p from by rw [← hN', map_p_one]; rfl)
              have HNE := Lib.hid (show ∀ x ∈ N', ∀ g, x.v.ownBlock = some g → (Value.slice a6 ol.length c6).ownBlock ≠ some g from fun x hx g hg e => by
                rw [← hN'] at hx
                have h2 := HR6.out.fresh g e
                have h3 := HR6.out.lt g e
                rcases List.mem_append.1 hx with hx | hx
                · have h1 := (HT.out.each x hx).1.lt g hg
                  omega
                · rw [List.mem_singleton.1 hx] at hg
                  have h4 : g7 = g := Option.some.inj hg
                  rw [← sz0] at hg7
                  omega)
              rw [hN'] at HT7
              have HN'l := Lib.hid (show N'.length = N.length + 1 from by rw [← hN']; simp)
              clear k7 T7 hso hN' hg7 sz0
              refine pl_next (fun _ => HS7.out) ?_
              refine pl_one (i := 16) rfl ?_
              go_wp2_with ((go_at_call 18; refine (rsend_yes rb w.heap.size ra rcap room sent (N.map HE.p) ⟨f, t, ⟨ol.toArray⟩, false⟩ _ HR7.out HKw7.out.size (by rw [List.length_map]; omega) (by rw [List.length_map]; have h9 := Hr.out; omega) hs1 (by omega) _ HN'.out).mono ?_; rintro _ w8 ⟨rfl, ⟨ra8, rc8, R8⟩, k8⟩))
              have HD8 := Lib.hid (show HS w w8 nb rb room N' (k + 1) from ⟨⟨_, _, _, _, sent + 1, HT7.out.one HR7.out k8 HPB.out.ne, R8, by omega, by omega⟩, by have := HDV.out.len; have := HN'l.out; omega, HKw7.out.trans' k8 HPB.out.r⟩)
              have HS8 := Lib.hid (s15k HS7.out k8 (fun e => hrob e) (Hrd.out.keep HD8.out.hk (fun _ _ _ _ h => h)))
              have HRw8 := Lib.hid (HRw7.out.keep k8 (fun g hg e => HRw7.out.ne HR7.out.blk (by decide) g hg e))
              clear k8 R8
              refine pl_next (fun _ => HS8.out) ?_
              first
                | refine pl_get (i := 17) rfl rfl HS8.out rfl (fun u hu => by (try dsimp only at hu); go_simp; rfl) (by simp only [List.setIfInBounds_toArray, List.set_cons_succ, List.set_cons_zero]; rfl) ?_
                | refine pl_skip (i := 17) rfl rfl HS8.out rfl (by simp only [List.setIfInBounds_toArray, List.set_cons_succ, List.set_cons_zero]; rfl) ?_
              first
                | refine pl_get (i := 18) rfl rfl HS8.out rfl (fun u hu => by (try dsimp only at hu); go_simp; rfl) (by simp only [List.setIfInBounds_toArray, List.set_cons_succ, List.set_cons_zero]; rfl) ?_
                | refine pl_skip (i := 18) rfl rfl HS8.out rfl (by simp only [List.setIfInBounds_toArray, List.set_cons_succ, List.set_cons_zero]; rfl) ?_
              first
                | refine pl_get (i := 19) rfl rfl HS8.out rfl (fun u hu => by (try dsimp only at hu); go_simp; rfl) (by simp only [List.setIfInBounds_toArray, List.set_cons_succ, List.set_cons_zero]; rfl) ?_
                | refine pl_skip (i := 19) rfl rfl HS8.out rfl (by simp only [List.setIfInBounds_toArray, List.set_cons_succ, List.set_cons_zero]; rfl) ?_
              first
                | refine pl_get (i := 20) rfl rfl HS8.out rfl (fun u hu => by (try dsimp only at hu); go_simp; rfl) (by simp only [List.setIfInBounds_toArray, List.set_cons_succ, List.set_cons_zero]; rfl) ?_
                | refine pl_skip (i := 20) rfl rfl HS8.out rfl (by simp only [List.setIfInBounds_toArray, List.set_cons_succ, List.set_cons_zero]; rfl) ?_
              first
                | refine pl_get (i := 21) rfl rfl HS8.out rfl (fun u hu => by (try dsimp only at hu); go_simp; rfl) (by simp only [List.setIfInBounds_toArray, List.set_cons_succ, List.set_cons_zero]; rfl) ?_
                | refine pl_skip (i := 21) rfl rfl HS8.out rfl (by simp only [List.setIfInBounds_toArray, List.set_cons_succ, List.set_cons_zero]; rfl) ?_
              first
                | refine pl_get (i := 22) rfl rfl HS8.out rfl (fun u hu => by (try dsimp only at hu); go_simp; rfl) (by simp only [List.setIfInBounds_toArray, List.set_cons_succ, List.set_cons_zero]; rfl) ?_
                | refine pl_skip (i := 22) rfl rfl HS8.out rfl (by simp only [List.setIfInBounds_toArray, List.set_cons_succ, List.set_cons_zero]; rfl) ?_
              first
                | refine pl_get (i := 23) rfl rfl HS8.out rfl (fun u hu => by (try dsimp only at hu); go_simp; rfl) (by simp only [List.setIfInBounds_toArray, List.set_cons_succ, List.set_cons_zero]; rfl) ?_
                | refine pl_skip (i := 23) rfl rfl HS8.out rfl (by simp only [List.setIfInBounds_toArray, List.set_cons_succ, List.set_cons_zero]; rfl) ?_
              first
                | refine pl_get (i := 24) rfl rfl HS8.out rfl (fun u hu => by (try dsimp only at hu); go_simp; rfl) (by simp only [List.setIfInBounds_toArray, List.set_cons_succ, List.set_cons_zero]; rfl) ?_
                | refine pl_skip (i := 24) rfl rfl HS8.out rfl (by simp only [List.setIfInBounds_toArray, List.set_cons_succ, List.set_cons_zero]; rfl) ?_
              refine pl_one (i := 25) rfl ?_
              go_wp2_with ((go_at_call 9; refine (nsend_any f t _ _).mono ?_; rintro _ w9 ⟨rfl, k9⟩))
              have HD9 := Lib.hid (HD8.out.keep k9)
              have HS9 := Lib.hid (s15k HS8.out k9 (fun h => h) (Hrd.out.keep HD9.out.hk (fun _ _ _ _ h => h)))
              have HRw9 := Lib.hid (HRw8.out.keep k9 (fun _ _ h => h))
              clear k9
              refine pl_next (fun _ => HS9.out) ?_
              first
                | refine pl_get (i := 26) rfl rfl HS9.out rfl (fun u hu => by (try dsimp only at hu); go_simp; rfl) (by simp only [List.setIfInBounds_toArray, List.set_cons_succ, List.set_cons_zero]; rfl) ?_
                | refine pl_skip (i := 26) rfl rfl HS9.out rfl (by simp only [List.setIfInBounds_toArray, List.set_cons_succ, List.set_cons_zero]; rfl) ?_
              first
                | refine pl_get (i := 27) rfl rfl HS9.out rfl (fun u hu => by (try dsimp only at hu); go_simp; rfl) (by simp only [List.setIfInBounds_toArray, List.set_cons_succ, List.set_cons_zero]; rfl) ?_
                | refine pl_skip (i := 27) rfl rfl HS9.out rfl (by simp only [List.setIfInBounds_toArray, List.set_cons_succ, List.set_cons_zero]; rfl) ?_
              refine pl_one (i := 28) rfl ?_
              go_wp2_with (fail)
              refine pl_next (fun _ => HS9.out) ?_
              refine pl_done ?_
              have Hib := Lib.hid (IB.of_row HRw9.out)
              go_wp2_with fail
              go_loopw [89] (fun iv wr => ∃ m : Nat, m ≤ ol.length ∧ iv = .int .i64 (m : Int) ∧ IB wr a6 ol.length ∧ Keep (SIn (.slice a6 ol.length c6)) w9 wr) (fun iv _ => ol.length - (intOf iv).toNat)
              case atStart => exact ⟨0, Nat.zero_le _, rfl, Hib.out, Keep.refl _ _⟩
              case round =>
                obtain ⟨m, hm, rfl, ib, km⟩ := hrel
                have Hkm := Lib.hid km
                have Hibm := Lib.hid ib
                by_cases hmn : m < ol.length
                · obtain ⟨g6, cc, hga, hgb, hgc⟩ : ∃ g c, a6 = some ⟨g, 0, none⟩ ∧ wr.heap[g]? = some (.cells c 5 (0, 0)) ∧ ∀ j, j < ol.length → ∃ v : Int, c[j]? = some (.int .u8 v) := by
                    rcases ib.st with h0 | h0
                    · omega
                    · exact h0
                  obtain ⟨v6, hv6⟩ := hgc m hmn
                  have m0 := blk_cell hgb m
                  rw [hv6] at m0
                  have mf := blk_free hgb m
                  have ml := blk_lt hgb
                  clear ib km hgb hgc hv6
                  subst hga
                  go_wp2_with fail
                  go_roundw
                  case rel => exact ⟨m + 1, hmn, by go_num, Hibm.out.set m _, Hkm.out.setCell (p := ⟨g6, m, none⟩) (Or.inr rfl) _⟩
                  case measure => simp [intOf]; omega
                · have hd9 : decide ((m : Int) < (ol.length : Int)) = false := decide_eq_false (by omega)
                  clear ib km
                  go_wp2_with fail
                  go_meet
                  exact ⟨rfl, rfl, _, HD9.out.fresh HRw9.out HVw.out HNE.out Hkm.out⟩
          · -- Look
            as_aux_lemma =>
            by_cases hin : 0 ≤ i ∧ i < N.length
            · obtain ⟨n, rfl⟩ : ∃ n : Nat, i = (n : Int) := ⟨i.toNat, by omega⟩
              have hnl : n < N.length := by omega
              obtain ⟨x, hx⟩ : ∃ x, N[n]? = some x := ⟨_, List.getElem?_eq_getElem hnl⟩
              have Hx := Lib.hid hx
              have Hxp := Lib.hid (show (N.map HE.p)[n]? = some x.p from by rw [List.getElem?_map, hx]; rfl)
              have hxl : x.l.length ≤ 1000000 := (HT.out.each x (List.mem_of_getElem? hx)).2
              have Hin := Lib.hid hin
              clear hx hin
              go_wp2_with fail
              refine (look_in w.heap.size nb na ncap room sent N n x _ HT.out Hx.out).mono ?_
              rintro _ w4 ⟨g4, rfl, hg4, Rw4, k4⟩
              have HD4 := Lib.hid (HDV.out.keep k4)
              have HR4 := Lib.hid (HR.out.keep0 k4)
              have Hb4 := Lib.hid (blk_keep HbV.out k4 (fun h => h))
              have s4 := k4.size
              have hrb4 := blk_lt HR4.out.blk
              have HRw4 := Lib.hid Rw4
              have HVw := Lib.hid (show w.heap.size ≤ V.heap.size from HDV.out.hk.size)
              have HNE := Lib.hid (show ∀ y ∈ N, ∀ g, y.v.ownBlock = some g → (Value.slice (some ⟨g4, 0, none⟩) x.l.length x.l.length).ownBlock ≠ some g from fun y hy g hg e => by have h1 := (HT.out.each y hy).1.lt g hg; have h2 := Rw4.fresh g e; omega)
              have hg4l := Rw4.lt g4 rfl
              clear Rw4
              clear k4 x0 x1 x2 x3 x4 x5 x6 xl
              have bx := Hb4.out
              have x0 := blk_cell bx 0
              have x1 := blk_cell bx 1
              have x2 := blk_cell bx 2
              have x3 := blk_cell bx 3
              have x4 := blk_cell bx 4
              have x5 := blk_cell bx 5
              have x6 := blk_cell bx 6
              have xl := blk_lt bx
              simp at x0 x1 x2 x3 x4 x5 x6
              clear bx
              go_wp2_with fail
              have kA : Keep NoB w4 ((w4.alloc (.cells #[.int .i64 x.f, .int .i64 x.t, .slice (some ⟨g4, 0, none⟩) x.l.length x.l.length] 32)).alloc (.cells #[.int .i64 0, .int .i64 0, .string ⟨#[]⟩, .bool false] 50)) := ((Keep.refl NoB w4).alloc _).alloc _
              have bP := blk_alloc (o' := (.cells #[.int .i64 0, .int .i64 0, .string ⟨#[]⟩, .bool false] 50)) (blk_new w4 (.cells #[.int .i64 x.f, .int .i64 x.t, .slice (some ⟨g4, 0, none⟩) x.l.length x.l.length] 32))
              have bQ := blk_new (w4.alloc (.cells #[.int .i64 x.f, .int .i64 x.t, .slice (some ⟨g4, 0, none⟩) x.l.length x.l.length] 32)) (.cells #[.int .i64 0, .int .i64 0, .string ⟨#[]⟩, .bool false] 50)
              have e2 : (w4.alloc (.cells #[.int .i64 x.f, .int .i64 x.t, .slice (some ⟨g4, 0, none⟩) x.l.length x.l.length] 32)).heap.size = w4.heap.size + 1 := by simp
              rw [e2] at bQ
              generalize World.alloc (World.alloc w4 (.cells #[.int .i64 x.f, .int .i64 x.t, .slice (some ⟨g4, 0, none⟩) x.l.length x.l.length] 32)) (.cells #[.int .i64 0, .int .i64 0, .string ⟨#[]⟩, .bool false] 50) = w5 at kA bP bQ ⊢
              obtain ⟨pb, hpb⟩ : ∃ q, w4.heap.size = q := ⟨_, rfl⟩
              rw [hpb] at bP bQ s4 hrb4 hg4l ⊢
              have Hpb := Lib.hid hpb
              clear e2 hpb x0 x1 x2 x3 x4 x5 x6 xl
              refine (rhas_any rb w.heap.size _ rcap room sent (N.map HE.p) (n : Int) _ (HR4.out.keep0 kA) true (decide_eq_true (by rw [List.length_map]; exact ⟨by omega, by omega⟩))).mono ?_
              rintro _ w6 ⟨rfl, rfl⟩
              have R6 := HR4.out.keep0 kA
              have B6 := blk_keep Hb4.out kA (fun h => h)
              obtain ⟨gr, cgr, hvv, hg1, hg2, hcx⟩ := R6.own.cells pCells_len (x := ⟨x.f, x.t, ⟨x.l.toArray⟩, x.tn⟩) Hxp.out
              cases hvv
              have q0 := hcx 0 _ rfl
              have q1 := hcx 1 _ rfl
              have q2 := hcx 2 _ rfl
              have q3 := hcx 3 _ rfl
              simp only [Nat.add_zero] at q0
              have d0 := blk_cell R6.blk 0
              have dl := blk_lt R6.blk
              have o3 := blk_cell B6 3
              have ol' := blk_lt B6
              have z0 := blk_cell bQ 0
              have z1 := blk_cell bQ 1
              have z2 := blk_cell bQ 2
              have z3 := blk_cell bQ 3
              have zf := fun j => blk_free bQ j
              have zl := blk_lt bQ
              simp at d0 o3 q0 q1 q2 q3 z0 z1 z2 z3
              have HS6 := Lib.hid (And.intro d0 (And.intro o3 (And.intro q0 (And.intro q1 (And.intro q2 q3)))))
              have HkA := Lib.hid kA
              have HP6 := Lib.hid bP
              have HQ6 := Lib.hid bQ
              clear hcx R6 B6 kA bP bQ
              go_wp2_with fail
              refine wp_region_pl (fun u => u.cell? ⟨rb, 0, none⟩ = some (.slice (some ⟨gr, 0, none⟩) N.length rcap) ∧ u.cell? ⟨ob, 3, none⟩ = some (.int .i64 (n : Int)) ∧ u.cell? ⟨gr, n * 4, none⟩ = some (.int .i64 x.f) ∧ u.cell? ⟨gr, n * 4 + 1, none⟩ = some (.int .i64 x.t) ∧ u.cell? ⟨gr, n * 4 + 2, none⟩ = some (.string ⟨x.l.toArray⟩) ∧ u.cell? ⟨gr, n * 4 + 3, none⟩ = some (.bool x.tn)) [8] (.rd 0 (.rd 1 (.rd 2 (.rd 3 (.rd 4 (.rd 5 (.rd 6 (.rd 7 (.one 8 .done))))))))) (by kernel_rfl) (by kernel_rfl) (by kernel_rfl) (by kernel_rfl) (by intro c b d v u h; cases d <;> exact h) ?_
              have kd0 : Keep NoB w6 w6.drew := (Keep.refl NoB w6).drew
              have HS0 := Lib.hid (ks6 HS6.out kd0)
              have HkB := Lib.hid (HkA.out.trans kd0)
              have HP0 := Lib.hid (blk_keep HP6.out kd0 (fun h => h))
              have HQ0 := Lib.hid (blk_keep HQ6.out kd0 (fun h => h))
              clear kd0 d0 o3 q0 q1 q2 q3 z0 z1 z2 z3 zf zl dl ol' HS6
              generalize w6.drew = wB at HS0 HkB HP0 HQ0 ⊢
              first
                | refine pl_get (i := 0) rfl rfl HS0.out rfl (fun u hu => by (try dsimp only at hu); go_simp; rfl) (by simp only [List.setIfInBounds_toArray, List.set_cons_succ, List.set_cons_zero]; rfl) ?_
                | refine pl_skip (i := 0) rfl rfl HS0.out rfl (by simp only [List.setIfInBounds_toArray, List.set_cons_succ, List.set_cons_zero]; rfl) ?_
              first
                | refine pl_get (i := 1) rfl rfl HS0.out rfl (fun u hu => by (try dsimp only at hu); go_simp; rfl) (by simp only [List.setIfInBounds_toArray, List.set_cons_succ, List.set_cons_zero]; rfl) ?_
                | refine pl_skip (i := 1) rfl rfl HS0.out rfl (by simp only [List.setIfInBounds_toArray, List.set_cons_succ, List.set_cons_zero]; rfl) ?_
              first
                | refine pl_get (i := 2) rfl rfl HS0.out rfl (fun u hu => by (try dsimp only at hu); go_simp; rfl) (by simp only [List.setIfInBounds_toArray, List.set_cons_succ, List.set_cons_zero]; rfl) ?_
                | refine pl_skip (i := 2) rfl rfl HS0.out rfl (by simp only [List.setIfInBounds_toArray, List.set_cons_succ, List.set_cons_zero]; rfl) ?_
              first
                | refine pl_get (i := 3) rfl rfl HS0.out rfl (fun u hu => by (try dsimp only at hu); go_simp; rfl) (by simp only [List.setIfInBounds_toArray, List.set_cons_succ, List.set_cons_zero]; rfl) ?_
                | refine pl_skip (i := 3) rfl rfl HS0.out rfl (by simp only [List.setIfInBounds_toArray, List.set_cons_succ, List.set_cons_zero]; rfl) ?_
              first
                | refine pl_get (i := 4) rfl rfl HS0.out rfl (fun u hu => by (try dsimp only at hu); go_simp; rfl) (by simp only [List.setIfInBounds_toArray, List.set_cons_succ, List.set_cons_zero]; rfl) ?_
                | refine pl_skip (i := 4) rfl rfl HS0.out rfl (by simp only [List.setIfInBounds_toArray, List.set_cons_succ, List.set_cons_zero]; rfl) ?_
              first
                | refine pl_get (i := 5) rfl rfl HS0.out rfl (fun u hu => by (try dsimp only at hu); go_simp; rfl) (by simp only [List.setIfInBounds_toArray, List.set_cons_succ, List.set_cons_zero]; rfl) ?_
                | refine pl_skip (i := 5) rfl rfl HS0.out rfl (by simp only [List.setIfInBounds_toArray, List.set_cons_succ, List.set_cons_zero]; rfl) ?_
              first
                | refine pl_get (i := 6) rfl rfl HS0.out rfl (fun u hu => by (try dsimp only at hu); go_simp; rfl) (by simp only [List.setIfInBounds_toArray, List.set_cons_succ, List.set_cons_zero]; rfl) ?_
                | refine pl_skip (i := 6) rfl rfl HS0.out rfl (by simp only [List.setIfInBounds_toArray, List.set_cons_succ, List.set_cons_zero]; rfl) ?_
              first
                | refine pl_get (i := 7) rfl rfl HS0.out rfl (fun u hu => by (try dsimp only at hu); go_simp; rfl) (by simp only [List.setIfInBounds_toArray, List.set_cons_succ, List.set_cons_zero]; rfl) ?_
                | refine pl_skip (i := 7) rfl rfl HS0.out rfl (by simp only [List.setIfInBounds_toArray, List.set_cons_succ, List.set_cons_zero]; rfl) ?_
              have z0 := blk_cell HQ0.out 0
              have z1 := blk_cell HQ0.out 1
              have z2 := blk_cell HQ0.out 2
              have z3 := blk_cell HQ0.out 3
              have zf := fun j => blk_free HQ0.out j
              have zl := blk_lt HQ0.out
              simp at z0 z1 z2 z3
              refine pl_one (i := 8) rfl ?_
              go_wp2_with (fail)
              refine pl_next (fun h => by cases h) ?_
              refine pl_done ?_
              have bq9 := blk_setCell (i := 3) (blk_setCell (i := 2) (blk_setCell (i := 1) (blk_setCell (i := 0) HQ0.out (.int .i64 x.f)) (.int .i64 x.t)) (.string ⟨x.l.toArray⟩)) (.bool x.tn)
              have k9 : Keep (OneB (pb + 1)) wB _ := ((((Keep.refl (OneB (pb + 1)) wB).setCell (p := ⟨pb + 1, 0, none⟩) (Or.inr rfl) (.int .i64 x.f)).setCell (p := ⟨pb + 1, 1, none⟩) (Or.inr rfl) (.int .i64 x.t)).setCell (p := ⟨pb + 1, 2, none⟩) (Or.inr rfl) (.string ⟨x.l.toArray⟩)).setCell (p := ⟨pb + 1, 3, none⟩) (Or.inr rfl) (.bool x.tn)
              generalize World.setCell _ _ _ = w7 at bq9 k9 ⊢
              have K7 := HkB.out.trans' k9 (fun i hi e => by have e' : i = pb + 1 := e; have := Hpb.out; omega)
              have HP7 := Lib.hid (blk_keep HP0.out k9 (fun e => by have e' : pb = pb + 1 := e; omega))
              have HQ7 := Lib.hid (show w7.heap[pb + 1]? = some (.cells #[.int .i64 x.f, .int .i64 x.t, .string ⟨x.l.toArray⟩, .bool x.tn] 50 (0, 0)) from by simpa using bq9)
              have HD7 := Lib.hid (HD4.out.keep K7)
              have HR7 := Lib.hid (HR4.out.keep0 K7)
              have Hb7 := Lib.hid (blk_keep Hb4.out K7 (fun h => h))
              have HRw7 := Lib.hid (HRw4.out.keep K7 (fun _ _ h => h))
              clear bq9 k9 K7 z0 z1 z2 z3 zf zl HS0 HkB HP0 HQ0
              have y0 := blk_cell HP7.out 0
              have y1 := blk_cell HP7.out 1
              have y2 := blk_cell HP7.out 2
              have z0 := blk_cell HQ7.out 0
              have z1 := blk_cell HQ7.out 1
              have z2 := blk_cell HQ7.out 2
              have z3 := blk_cell HQ7.out 3
              have o3 := blk_cell Hb7.out 3
              simp at y0 y1 y2 z0 z1 z2 z3 o3
              have HS7 := Lib.hid (And.intro y0 (And.intro y1 (And.intro y2 (And.intro z0 (And.intro z1 (And.intro z2 (And.intro z3 o3)))))))
              clear y0 y1 y2 z0 z1 z2 z3 o3
              go_wp2_with fail
              refine wp_region_pl (fun u => u.cell? ⟨pb, 0, none⟩ = some (.int .i64 x.f) ∧ u.cell? ⟨pb, 1, none⟩ = some (.int .i64 x.t) ∧ u.cell? ⟨pb, 2, none⟩ = some (.slice (some ⟨g4, 0, none⟩) x.l.length x.l.length) ∧ u.cell? ⟨pb + 1, 0, none⟩ = some (.int .i64 x.f) ∧ u.cell? ⟨pb + 1, 1, none⟩ = some (.int .i64 x.t) ∧ u.cell? ⟨pb + 1, 2, none⟩ = some (.string ⟨x.l.toArray⟩) ∧ u.cell? ⟨pb + 1, 3, none⟩ = some (.bool x.tn) ∧ u.cell? ⟨ob, 3, none⟩ = some (.int .i64 (n : Int))) [] (.rd 0 (.rd 1 (.rd 2 (.rd 3 (.rd 4 (.rd 5 (.one 6 (.one 7 (.one 8 .done))))))))) (by kernel_rfl) (by kernel_rfl) (by kernel_rfl) (by kernel_rfl) (by intro c b d v u h; cases d <;> exact h) ?_
              have kd1 : Keep NoB w7 w7.drew := (Keep.refl NoB w7).drew
              have HS8 := Lib.hid (ks8 HS7.out kd1)
              have HD8 := Lib.hid (HD7.out.keep kd1)
              have HR8 := Lib.hid (HR7.out.keep0 kd1)
              have HP8 := Lib.hid (blk_keep HP7.out kd1 (fun h => h))
              have HRw8 := Lib.hid (HRw7.out.keep kd1 (fun _ _ h => h))
              clear kd1 HS7
              first
                | refine pl_get (i := 0) rfl rfl HS8.out rfl (fun u hu => by (try dsimp only at hu); go_simp; rfl) (by simp only [List.setIfInBounds_toArray, List.set_cons_succ, List.set_cons_zero]; rfl) ?_
                | refine pl_skip (i := 0) rfl rfl HS8.out rfl (by simp only [List.setIfInBounds_toArray, List.set_cons_succ, List.set_cons_zero]; rfl) ?_
              first
                | refine pl_get (i := 1) rfl rfl HS8.out rfl (fun u hu => by (try dsimp only at hu); go_simp; rfl) (by simp only [List.setIfInBounds_toArray, List.set_cons_succ, List.set_cons_zero]; rfl) ?_
                | refine pl_skip (i := 1) rfl rfl HS8.out rfl (by simp only [List.setIfInBounds_toArray, List.set_cons_succ, List.set_cons_zero]; rfl) ?_
              first
                | refine pl_get (i := 2) rfl rfl HS8.out rfl (fun u hu => by (try dsimp only at hu); go_simp; rfl) (by simp only [List.setIfInBounds_toArray, List.set_cons_succ, List.set_cons_zero]; rfl) ?_
                | refine pl_skip (i := 2) rfl rfl HS8.out rfl (by simp only [List.setIfInBounds_toArray, List.set_cons_succ, List.set_cons_zero]; rfl) ?_
              first
                | refine pl_get (i := 3) rfl rfl HS8.out rfl (fun u hu => by (try dsimp only at hu); go_simp; rfl) (by simp only [List.setIfInBounds_toArray, List.set_cons_succ, List.set_cons_zero]; rfl) ?_
                | refine pl_skip (i := 3) rfl rfl HS8.out rfl (by simp only [List.setIfInBounds_toArray, List.set_cons_succ, List.set_cons_zero]; rfl) ?_
              first
                | refine pl_get (i := 4) rfl rfl HS8.out rfl (fun u hu => by (try dsimp only at hu); go_simp; rfl) (by simp only [List.setIfInBounds_toArray, List.set_cons_succ, List.set_cons_zero]; rfl) ?_
                | refine pl_skip (i := 4) rfl rfl HS8.out rfl (by simp only [List.setIfInBounds_toArray, List.set_cons_succ, List.set_cons_zero]; rfl) ?_
              first
                | refine pl_get (i := 5) rfl rfl HS8.out rfl (fun u hu => by (try dsimp only at hu); go_simp; rfl) (by simp only [List.setIfInBounds_toArray, List.set_cons_succ, List.set_cons_zero]; rfl) ?_
                | refine pl_skip (i := 5) rfl rfl HS8.out rfl (by simp only [List.setIfInBounds_toArray, List.set_cons_succ, List.set_cons_zero]; rfl) ?_
              refine pl_one (i := 6) rfl ?_
              go_wp2_with ((go_at_call 19; refine (rhas_any rb w.heap.size _ rcap room sent (N.map HE.p) (n : Int) _ HR8.out true (decide_eq_true (by rw [List.length_map]; exact ⟨by omega, by omega⟩))).mono ?_; rintro _ w8 ⟨rfl, rfl⟩))
              refine pl_next (fun _ => HS8.out) ?_
              refine pl_one (i := 7) rfl ?_
              go_wp2_with ((go_at_call 20; refine (same_yes (.slice (some ⟨g4, 0, none⟩) x.l.length x.l.length) x.l x.f x.t x.tn true _ HRw8.out.rd).mono ?_; rintro _ w9 ⟨rfl, k9⟩))
              have HS9 := Lib.hid (ks8 HS8.out k9)
              have HD9 := Lib.hid ((HD8.out.keep k9).later (Nat.le_succ k))
              have HP9 := Lib.hid (blk_keep HP8.out k9 (fun h => h))
              have HRw9 := Lib.hid (HRw8.out.keep k9 (fun _ _ h => h))
              clear k9
              refine pl_next (fun _ => HS9.out) ?_
              refine pl_one (i := 8) rfl ?_
              go_wp2_with (fail)
              refine pl_next (fun _ => HS9.out) ?_
              refine pl_done ?_
              have y2 := blk_cell HP9.out 2
              have yl := blk_lt HP9.out
              simp at y2
              have Hib := Lib.hid (IB.of_row HRw9.out)
              go_wp2_with fail
              clear y2 yl
              go_loopw [132] (fun iv wr => ∃ m : Nat, m ≤ x.l.length ∧ iv = .int .i64 (m : Int) ∧ IB wr (some ⟨g4, 0, none⟩) x.l.length ∧ Keep (SIn (.slice (some ⟨g4, 0, none⟩) x.l.length x.l.length)) w9 wr) (fun iv _ => x.l.length - (intOf iv).toNat)
              case atStart => exact ⟨0, Nat.zero_le _, rfl, Hib.out, Keep.refl _ _⟩
              case round =>
                obtain ⟨m, hm, rfl, ib, km⟩ := hrel
                have Hkm := Lib.hid km
                have Hibm := Lib.hid ib
                by_cases hmn : m < x.l.length
                · obtain ⟨g6, cc, hga, hgb, hgc⟩ : ∃ g c, (some ⟨g4, 0, none⟩ : Option Addr) = some ⟨g, 0, none⟩ ∧ wr.heap[g]? = some (.cells c 5 (0, 0)) ∧ ∀ j, j < x.l.length → ∃ v : Int, c[j]? = some (.int .u8 v) := by
                    rcases ib.st with h0 | h0
                    · omega
                    · exact h0
                  have hg64 : g4 = g6 := by cases hga; rfl
                  subst hg64
                  obtain ⟨v6, hv6⟩ := hgc m hmn
                  have m0 := blk_cell hgb m
                  rw [hv6] at m0
                  have mf := blk_free hgb m
                  have ml := blk_lt hgb
                  have bp := blk_keep HP9.out km (fun e => by have e' : some g4 = some pb := e; have e2 := Option.some.inj e'; omega)
                  have y2 := blk_cell bp 2
                  have yl := blk_lt bp
                  simp at y2
                  clear ib km hgb hgc hv6 hga bp
                  go_wp2_with fail
                  go_roundw
                  case rel => exact ⟨m + 1, hmn, by go_num, Hibm.out.set m _, Hkm.out.setCell (p := ⟨g4, m, none⟩) (Or.inr rfl) _⟩
                  case measure => simp [intOf]; omega
                · have hd9 : decide ((m : Int) < (x.l.length : Int)) = false := decide_eq_false (by omega)
                  clear ib km
                  go_wp2_with fail
                  go_meet
                  exact ⟨rfl, rfl, _, HD9.out.fresh HRw9.out HVw.out HNE.out Hkm.out⟩
            · have Hout := Lib.hid (show i < 0 ∨ (N.length : Int) ≤ i from by omega)
              have Houtp := Lib.hid (show ¬ (0 ≤ i ∧ i < ((N.map HE.p).length : Int)) from by rw [List.length_map]; exact hin)
              clear hin
              go_wp2_with fail
              refine (look_out w.heap.size nb na ncap room sent N i _ HT.out (by have h9 := Hout.out; omega)).mono ?_
              rintro _ w4 ⟨rfl, k4⟩
              have HD4 := Lib.hid (HDV.out.keep k4)
              have HR4 := Lib.hid (HR.out.keep0 k4)
              have Hb4 := Lib.hid (blk_keep HbV.out k4 (fun h => h))
              have s4 := k4.size
              have hrb4 := blk_lt HR4.out.blk
              clear k4 x0 x1 x2 x3 x4 x5 x6 xl
              have bx := Hb4.out
              have x0 := blk_cell bx 0
              have x1 := blk_cell bx 1
              have x2 := blk_cell bx 2
              have x3 := blk_cell bx 3
              have x4 := blk_cell bx 4
              have x5 := blk_cell bx 5
              have x6 := blk_cell bx 6
              have xl := blk_lt bx
              simp at x0 x1 x2 x3 x4 x5 x6
              clear bx
              go_wp2_with fail
              have kA : Keep NoB w4 ((w4.alloc (.cells #[.int .i64 0, .int .i64 0, .slice none 0 0] 32)).alloc (.cells #[.int .i64 0, .int .i64 0, .string ⟨#[]⟩, .bool false] 50)) := ((Keep.refl NoB w4).alloc _).alloc _
              have bP := blk_alloc (o' := (.cells #[.int .i64 0, .int .i64 0, .string ⟨#[]⟩, .bool false] 50)) (blk_new w4 (.cells #[.int .i64 0, .int .i64 0, .slice none 0 0] 32))
              have bQ := blk_new (w4.alloc (.cells #[.int .i64 0, .int .i64 0, .slice none 0 0] 32)) (.cells #[.int .i64 0, .int .i64 0, .string ⟨#[]⟩, .bool false] 50)
              have e2 : (w4.alloc (.cells #[.int .i64 0, .int .i64 0, .slice none 0 0] 32)).heap.size = w4.heap.size + 1 := by simp
              rw [e2] at bQ
              generalize World.alloc (World.alloc w4 (.cells #[.int .i64 0, .int .i64 0, .slice none 0 0] 32)) (.cells #[.int .i64 0, .int .i64 0, .string ⟨#[]⟩, .bool false] 50) = w5 at kA bP bQ ⊢
              obtain ⟨pb, hpb⟩ : ∃ q, w4.heap.size = q := ⟨_, rfl⟩
              rw [hpb] at bP bQ s4 hrb4 ⊢
              have Hpb := Lib.hid hpb
              clear e2 hpb x0 x1 x2 x3 x4 x5 x6 xl
              refine (rhas_any rb w.heap.size _ rcap room sent (N.map HE.p) i _ (HR4.out.keep0 kA) false (decide_eq_false (by rw [List.length_map]; have h9 := Hout.out; omega))).mono ?_
              rintro _ w6 ⟨rfl, rfl⟩
              have HP7 := Lib.hid bP
              have HQ7 := Lib.hid bQ
              have HD7 := Lib.hid (HD4.out.keep kA)
              have HR7 := Lib.hid (HR4.out.keep0 kA)
              have Hb7 := Lib.hid (blk_keep Hb4.out kA (fun h => h))
              clear kA bP bQ
              have y0 := blk_cell HP7.out 0
              have y1 := blk_cell HP7.out 1
              have y2 := blk_cell HP7.out 2
              have z0 := blk_cell HQ7.out 0
              have z1 := blk_cell HQ7.out 1
              have z2 := blk_cell HQ7.out 2
              have z3 := blk_cell HQ7.out 3
              have o3 := blk_cell Hb7.out 3
              simp at y0 y1 y2 z0 z1 z2 z3 o3
              have HS7 := Lib.hid (And.intro y0 (And.intro y1 (And.intro y2 (And.intro z0 (And.intro z1 (And.intro z2 (And.intro z3 o3)))))))
              clear y0 y1 y2 z0 z1 z2 z3 o3
              go_wp2_with fail
              refine wp_region_pl (fun u => u.cell? ⟨pb, 0, none⟩ = some (.int .i64 0) ∧ u.cell? ⟨pb, 1, none⟩ = some (.int .i64 0) ∧ u.cell? ⟨pb, 2, none⟩ = some (.slice none 0 0) ∧ u.cell? ⟨pb + 1, 0, none⟩ = some (.int .i64 0) ∧ u.cell? ⟨pb + 1, 1, none⟩ = some (.int .i64 0) ∧ u.cell? ⟨pb + 1, 2, none⟩ = some (.string ⟨#[]⟩) ∧ u.cell? ⟨pb + 1, 3, none⟩ = some (.bool false) ∧ u.cell? ⟨ob, 3, none⟩ = some (.int .i64 i)) [] (.rd 0 (.rd 1 (.rd 2 (.rd 3 (.rd 4 (.rd 5 (.one 6 (.one 7 (.one 8 .done))))))))) (by kernel_rfl) (by kernel_rfl) (by kernel_rfl) (by kernel_rfl) (by intro c b d v u h; cases d <;> exact h) ?_
              have kd1 : Keep NoB w6 w6.drew := (Keep.refl NoB w6).drew
              have HS8 := Lib.hid (ks8 HS7.out kd1)
              have HD8 := Lib.hid (HD7.out.keep kd1)
              have HR8 := Lib.hid (HR7.out.keep0 kd1)
              have HP8 := Lib.hid (blk_keep HP7.out kd1 (fun h => h))
              clear kd1 HS7
              first
                | refine pl_get (i := 0) rfl rfl HS8.out rfl (fun u hu => by (try dsimp only at hu); go_simp; rfl) (by simp only [List.setIfInBounds_toArray, List.set_cons_succ, List.set_cons_zero]; rfl) ?_
                | refine pl_skip (i := 0) rfl rfl HS8.out rfl (by simp only [List.setIfInBounds_toArray, List.set_cons_succ, List.set_cons_zero]; rfl) ?_
              first
                | refine pl_get (i := 1) rfl rfl HS8.out rfl (fun u hu => by (try dsimp only at hu); go_simp; rfl) (by simp only [List.setIfInBounds_toArray, List.set_cons_succ, List.set_cons_zero]; rfl) ?_
                | refine pl_skip (i := 1) rfl rfl HS8.out rfl (by simp only [List.setIfInBounds_toArray, List.set_cons_succ, List.set_cons_zero]; rfl) ?_
              first
                | refine pl_get (i := 2) rfl rfl HS8.out rfl (fun u hu => by (try dsimp only at hu); go_simp; rfl) (by simp only [List.setIfInBounds_toArray, List.set_cons_succ, List.set_cons_zero]; rfl) ?_
                | refine pl_skip (i := 2) rfl rfl HS8.out rfl (by simp only [List.setIfInBounds_toArray, List.set_cons_succ, List.set_cons_zero]; rfl) ?_
              first
                | refine pl_get (i := 3) rfl rfl HS8.out rfl (fun u hu => by (try dsimp only at hu); go_simp; rfl) (by simp only [List.setIfInBounds_toArray, List.set_cons_succ, List.set_cons_zero]; rfl) ?_
                | refine pl_skip (i := 3) rfl rfl HS8.out rfl (by simp only [List.setIfInBounds_toArray, List.set_cons_succ, List.set_cons_zero]; rfl) ?_
              first
                | refine pl_get (i := 4) rfl rfl HS8.out rfl (fun u hu => by (try dsimp only at hu); go_simp; rfl) (by simp only [List.setIfInBounds_toArray, List.set_cons_succ, List.set_cons_zero]; rfl) ?_
                | refine pl_skip (i := 4) rfl rfl HS8.out rfl (by simp only [List.setIfInBounds_toArray, List.set_cons_succ, List.set_cons_zero]; rfl) ?_
              first
                | refine pl_get (i := 5) rfl rfl HS8.out rfl (fun u hu => by (try dsimp only at hu); go_simp; rfl) (by simp only [List.setIfInBounds_toArray, List.set_cons_succ, List.set_cons_zero]; rfl) ?_
                | refine pl_skip (i := 5) rfl rfl HS8.out rfl (by simp only [List.setIfInBounds_toArray, List.set_cons_succ, List.set_cons_zero]; rfl) ?_
              refine pl_one (i := 6) rfl ?_
              go_wp2_with ((go_at_call 19; refine (rhas_any rb w.heap.size _ rcap room sent (N.map HE.p) i _ HR8.out false (decide_eq_false (by rw [List.length_map]; have h9 := Hout.out; omega))).mono ?_; rintro _ w8 ⟨rfl, rfl⟩))
              refine pl_next (fun _ => HS8.out) ?_
              refine pl_one (i := 7) rfl ?_
              go_wp2_with ((go_at_call 20; refine (same_yes (.slice none 0 0) [] 0 0 false false _ (Rd.nil _)).mono ?_; rintro _ w9 ⟨rfl, k9⟩))
              have HS9 := Lib.hid (ks8 HS8.out k9)
              have HD9 := Lib.hid ((HD8.out.keep k9).later (Nat.le_succ k))
              have HP9 := Lib.hid (blk_keep HP8.out k9 (fun h => h))
              clear k9
              refine pl_next (fun _ => HS9.out) ?_
              refine pl_one (i := 8) rfl ?_
              go_wp2_with (fail)
              refine pl_next (fun _ => HS9.out) ?_
              refine pl_done ?_
              have y2 := blk_cell HP9.out 2
              have yl := blk_lt HP9.out
              simp at y2
              go_wp2_with fail
              clear y2 yl
              go_loopw [132] (fun iv wr => iv = .int .i64 0 ∧ wr = w9) (fun _ _ => 0)
              case atStart => exact ⟨rfl, rfl⟩
              case round =>
                obtain ⟨rfl, rfl⟩ := hrel
                go_wp2_with fail
                go_meet
                exact ⟨rfl, rfl, _, HD9.out⟩
          · -- Take
            as_aux_lemma =>
            by_cases hin : 0 ≤ i ∧ i < N.length
            · obtain ⟨n, rfl⟩ : ∃ n : Nat, i = (n : Int) := ⟨i.toNat, by omega⟩
              have hnl : n < N.length := by omega
              obtain ⟨x, hx⟩ : ∃ x, N[n]? = some x := ⟨_, List.getElem?_eq_getElem hnl⟩
              have Hx := Lib.hid hx
              have Hxp := Lib.hid (show (N.map HE.p)[n]? = some x.p from by rw [List.getElem?_map, hx]; rfl)
              have hxl : x.l.length ≤ 1000000 := (HT.out.each x (List.mem_of_getElem? hx)).2
              have Hin := Lib.hid hin
              clear hx hin
              have HC2 := Lib.hid (fun (u : World) (R : RN u w.heap.size rb ra rcap room sent (N.map HE.p)) (h : w.heap.size ≤ u.heap.size) => (show Calls Try.prog 21 #[.pointer (some ⟨rb, 0, none⟩), .int .i64 (n : Int)] u (RPost rb w.heap.size room sent (.tuple #[.agg #[.int .i64 x.f, .int .i64 x.t, .string ⟨x.l.toArray⟩, .bool x.tn], .bool true]) ((N.map HE.p).take n ++ (N.map HE.p).drop (n + 1)) u) from rtake_in rb w.heap.size ra rcap room sent (N.map HE.p) n x.p u R h (by rw [List.length_map]; omega) Hxp.out _ rfl))
              obtain ⟨N', hN'⟩ : ∃ q, N.take n ++ N.drop (n + 1) = q := ⟨_, rfl⟩
              have hNp : (N.map HE.p).take n ++ (N.map HE.p).drop (n + 1) = N'.map HE.p := by rw [← hN']; simp [List.map_take, List.map_drop]
              rw [hNp] at HC2
              have Hle := Lib.hid (show N'.length ≤ N.length from by rw [← hN']; exact (sub_erase N n).length_le)
              go_wp2_with fail
              refine (take_in w.heap.size nb na ncap room sent N n x _ HT.out HDV.out.hk.size Hx.out (by omega)).mono ?_
              rintro _ w4 ⟨a4, c4, g4, rfl, hg4, Rw4, T4, k4⟩
              have hso : ¬ SN nb (.slice na N.length ncap) ob := fun e => e.elim (fun e => hnob e) (fun e => HT.out.row.ne HbV.out (by decide) ob e rfl)
              have HKw4 := Lib.hid (HDV.out.hk.trans' k4 (HPB.out.sn HT.out))
              have HR4 := Lib.hid (HR.out.sn HT.out k4 HPB.out.ne)
              have Hb4 := Lib.hid (blk_keep HbV.out k4 hso)
              have s4 := k4.size
              rw [hN'] at T4
              have HT4 := Lib.hid T4
              have HRw4 := Lib.hid Rw4
              clear k4 T4 Rw4 hso hNp hN' x0 x1 x2 x3 x4 x5 x6 xl
              obtain ⟨xf, xt, xa, xc, xn, xl'⟩ := x
              simp only at HC2 HRw4 ⊢
              have bx := Hb4.out
              have x0 := blk_cell bx 0
              have x1 := blk_cell bx 1
              have x2 := blk_cell bx 2
              have x3 := blk_cell bx 3
              have x4 := blk_cell bx 4
              have x5 := blk_cell bx 5
              have x6 := blk_cell bx 6
              have xl := blk_lt bx
              simp at x0 x1 x2 x3 x4 x5 x6
              clear bx
              go_wp2_with fail
              have kA : Keep NoB w4 (w4.alloc (.cells #[.int .i64 xf, .int .i64 xt, .slice (some ⟨g4, 0, none⟩) xl'.length xl'.length] 32)) := (Keep.refl NoB w4).alloc _
              have bA := blk_new w4 (.cells #[.int .i64 xf, .int .i64 xt, .slice (some ⟨g4, 0, none⟩) xl'.length xl'.length] 32)
              have HTA := Lib.hid (HT4.out.keep0 kA)
              have HRA := Lib.hid (HR4.out.keep0 kA)
              have HRwA := Lib.hid (HRw4.out.keep kA (fun _ _ h => h))
              have HKwA := Lib.hid (HKw4.out.trans kA)
              have HbA := Lib.hid (blk_keep Hb4.out kA (fun h => h))
              generalize World.alloc w4 (.cells #[.int .i64 xf, .int .i64 xt, .slice (some ⟨g4, 0, none⟩) xl'.length xl'.length] 32) = wA at kA bA HTA HRA HRwA HKwA HbA ⊢
              obtain ⟨pb, hpb⟩ : ∃ q, w4.heap.size = q := ⟨_, rfl⟩
              rw [hpb] at bA s4 ⊢
              have hpr : pb ≠ rb := by omega
              have HpA := Lib.hid bA
              clear bA kA hpb
              refine (HC2.out _ HRA.out HKwA.out.size).mono ?_
              rintro _ w5 ⟨rfl, ⟨ra5, rc5, R5⟩, k5⟩
              have HT5 := Lib.hid (HTA.out.one HRA.out k5 HPB.out.ne)
              have HKw5 := Lib.hid (HKwA.out.trans' k5 HPB.out.r)
              have Hb5 := Lib.hid (blk_keep HbA.out k5 (fun e => hrob e))
              have Hp5 := Lib.hid (blk_keep HpA.out k5 (fun e => hpr e))
              have HRw5 := Lib.hid (HRwA.out.keep k5 (fun g hg e => HRwA.out.ne HRA.out.blk (by decide) g hg e))
              have HD5 := Lib.hid (show HS w w5 nb rb room N' (k + 1) from ⟨⟨_, _, _, _, sent, HT5.out, R5, by omega, by omega⟩, by have := HDV.out.len; have := Hle.out; omega, HKw5.out⟩)
              clear k5 R5 x0 x1 x2 x3 x4 x5 x6 xl
              have bx := Hb5.out
              have x0 := blk_cell bx 0
              have x1 := blk_cell bx 1
              have x2 := blk_cell bx 2
              have x3 := blk_cell bx 3
              have x4 := blk_cell bx 4
              have x5 := blk_cell bx 5
              have x6 := blk_cell bx 6
              have xl := blk_lt bx
              simp at x0 x1 x2 x3 x4 x5 x6
              clear bx
              go_wp2_with fail
              have kB : Keep NoB w5 (w5.alloc (.cells #[.int .i64 xf, .int .i64 xt, .string ⟨xl'.toArray⟩, .bool xn] 50)) := (Keep.refl NoB w5).alloc _
              have bB := blk_new w5 (.cells #[.int .i64 xf, .int .i64 xt, .string ⟨xl'.toArray⟩, .bool xn] 50)
              refine (ntake_any (n : Int) _).mono ?_
              rintro _ w6 ⟨rfl, k6⟩
              have K6 := kB.trans k6
              have HD6 := Lib.hid (HD5.out.keep K6)
              have HRw6 := Lib.hid (HRw5.out.keep K6 (fun _ _ h => h))
              have Hp6 := Lib.hid (blk_keep Hp5.out K6 (fun h => h))
              have Hq6 := Lib.hid (blk_keep bB k6 (fun h => h))
              clear kB bB k6 K6 x0 x1 x2 x3 x4 x5 x6 xl
              have y0 := blk_cell Hp6.out 0
              have y1 := blk_cell Hp6.out 1
              have y2 := blk_cell Hp6.out 2
              have yl := blk_lt Hp6.out
              have z0 := blk_cell Hq6.out 0
              have z1 := blk_cell Hq6.out 1
              have z2 := blk_cell Hq6.out 2
              have z3 := blk_cell Hq6.out 3
              have zl := blk_lt Hq6.out
              simp at y0 y1 y2 z0 z1 z2 z3
              go_wp2_with fail
              have kC : Keep NoB w6 (w6.alloc (.cells #[.int .i64 0, .int .i64 0, .slice none 0 0] 32)) := (Keep.refl NoB w6).alloc _
              refine (same_yes (.slice (some ⟨g4, 0, none⟩) xl'.length xl'.length) xl' xf xt xn true _ (HRw6.out.rd.keep kC (fun _ _ _ _ h => h))).mono ?_
              rintro _ w7 ⟨rfl, k7⟩
              have HD7 := Lib.hid (HD6.out.keep (kC.trans k7))
              clear kC k7
              go_wp2_with fail
              go_meet
              exact ⟨rfl, rfl, N', HD7.out⟩
            · have Hout := Lib.hid (show i < 0 ∨ (N.length : Int) ≤ i from by omega)
              have Houtp := Lib.hid (show ¬ (0 ≤ i ∧ i < ((N.map HE.p).length : Int)) from by rw [List.length_map]; exact hin)
              clear hin
              go_wp2_with fail
              refine (take_out w.heap.size nb na ncap room sent N i _ HT.out (by have h9 := Hout.out; omega)).mono ?_
              rintro _ w4 ⟨rfl, k4⟩
              have Hb4 := Lib.hid (blk_keep HbV.out k4 (fun h => h))
              have HD4 := Lib.hid (HDV.out.keep k4)
              have HR4 := Lib.hid (HR.out.keep0 k4)
              clear k4 x0 x1 x2 x3 x4 x5 x6 xl
              have bx := Hb4.out
              have x0 := blk_cell bx 0
              have x1 := blk_cell bx 1
              have x2 := blk_cell bx 2
              have x3 := blk_cell bx 3
              have x4 := blk_cell bx 4
              have x5 := blk_cell bx 5
              have x6 := blk_cell bx 6
              have xl := blk_lt bx
              simp at x0 x1 x2 x3 x4 x5 x6
              clear bx
              go_wp2_with fail
              have kA : Keep NoB w4 (w4.alloc (.cells #[.int .i64 0, .int .i64 0, .slice none 0 0] 32)) := (Keep.refl NoB w4).alloc _
              have bA := blk_new w4 (.cells #[.int .i64 0, .int .i64 0, .slice none 0 0] 32)
              refine (rtake_out rb w.heap.size ra rcap room sent (N.map HE.p) i _ (HR4.out.keep0 kA) (by rw [List.length_map]; have h9 := Hout.out; omega)).mono ?_
              rintro _ w5 ⟨rfl, k5⟩
              have K5 := kA.trans k5
              have Hp5 := Lib.hid (blk_keep bA k5 (fun h => h))
              have Hb5 := Lib.hid (blk_keep Hb4.out K5 (fun h => h))
              have HD5 := Lib.hid (HD4.out.keep K5)
              clear kA bA k5 K5 x0 x1 x2 x3 x4 x5 x6 xl
              have bx := Hb5.out
              have x0 := blk_cell bx 0
              have x1 := blk_cell bx 1
              have x2 := blk_cell bx 2
              have x3 := blk_cell bx 3
              have x4 := blk_cell bx 4
              have x5 := blk_cell bx 5
              have x6 := blk_cell bx 6
              have xl := blk_lt bx
              simp at x0 x1 x2 x3 x4 x5 x6
              clear bx
              go_wp2_with fail
              have kB : Keep NoB w5 (w5.alloc (.cells #[.int .i64 0, .int .i64 0, .string ⟨#[]⟩, .bool false] 50)) := (Keep.refl NoB w5).alloc _
              have bB := blk_new w5 (.cells #[.int .i64 0, .int .i64 0, .string ⟨#[]⟩, .bool false] 50)
              refine (ntake_any i _).mono ?_
              rintro _ w6 ⟨rfl, k6⟩
              have K6 := kB.trans k6
              have HD6 := Lib.hid (HD5.out.keep K6)
              have Hp6 := Lib.hid (blk_keep Hp5.out K6 (fun h => h))
              have Hq6 := Lib.hid (blk_keep bB k6 (fun h => h))
              clear kB bB k6 K6 x0 x1 x2 x3 x4 x5 x6 xl
              have y0 := blk_cell Hp6.out 0
              have y1 := blk_cell Hp6.out 1
              have y2 := blk_cell Hp6.out 2
              have yl := blk_lt Hp6.out
              have z0 := blk_cell Hq6.out 0
              have z1 := blk_cell Hq6.out 1
              have z2 := blk_cell Hq6.out 2
              have z3 := blk_cell Hq6.out 3
              have zl := blk_lt Hq6.out
              simp at y0 y1 y2 z0 z1 z2 z3
              go_wp2_with fail
              have kC : Keep NoB w6 (w6.alloc (.cells #[.int .i64 0, .int .i64 0, .slice none 0 0] 32)) := (Keep.refl NoB w6).alloc _
              refine (same_yes (.slice none 0 0) [] 0 0 false false _ (Rd.nil _)).mono ?_
              rintro _ w7 ⟨rfl, k7⟩
              have HD7 := Lib.hid (HD6.out.keep (kC.trans k7))
              clear kC k7
              go_wp2_with fail
              go_meet
              exact ⟨rfl, rfl, N, HD7.out.later (Nat.le_succ k)⟩
          · -- Double
            by_cases hin : 0 ≤ i ∧ i < N.length
            · obtain ⟨n, rfl⟩ : ∃ n : Nat, i = (n : Int) := ⟨i.toNat, by omega⟩
              have hnl : n < N.length := by omega
              obtain ⟨x, hx⟩ : ∃ x, N[n]? = some x := ⟨_, List.getElem?_eq_getElem hnl⟩
              have Hx := Lib.hid hx
              have Hxp := Lib.hid (show (N.map HE.p)[n]? = some x.p from by rw [List.getElem?_map, hx]; rfl)
              have hxl : x.l.length ≤ 1000000 := (HT.out.each x (List.mem_of_getElem? hx)).2
              have Hin := Lib.hid hin
              clear hx hin
              by_cases hr : room ≤ N.length
              · have Hr := Lib.hid hr
                have Hrp := Lib.hid (show room ≤ ((N.map HE.p).length : Int) from by rw [List.length_map]; exact hr)
                clear hr
                as_aux_lemma =>
                go_wp2_with fail
                refine wp_region_pl (fun u => u.cell? ⟨ob, 3, none⟩ = some (.int .i64 (n : Int)) ∧ u.cell? ⟨ob, 4, none⟩ = some (.int .i64 j) ∧ u.cell? ⟨ob, 5, none⟩ = some (.int .u8 c)) [] (.rd 0 (.rd 1 (.rd 2 (.rd 4 (.rd 5 (.rd 6 (.one 3 (.one 7 (.rd 8 (.rd 9 (.rd 10 (.rd 11 (.rd 12 (.one 13 (.rd 14 (.rd 15 (.one 16 .done))))))))))))))))) (by kernel_rfl) (by kernel_rfl) (by kernel_rfl) (by kernel_rfl) (by intro c b d v u h; cases d <;> exact h) ?_
                have kd0 : Keep NoB V V.drew := (Keep.refl NoB V).drew
                have HKw0 := Lib.hid (HDV.out.hk.trans kd0)
                have HS0 := Lib.hid (ks3 ⟨x3, x4, x5⟩ kd0)
                have HT0 := Lib.hid (HT.out.keep0 kd0)
                have HR0 := Lib.hid (HR.out.keep0 kd0)
                have HB0 := Lib.hid (blk_keep HbV.out kd0 (fun h => h))
                clear x0 x1 x2 x3 x4 x5 x6 xl kd0
                first
                  | refine pl_get (i := 0) rfl rfl HS0.out rfl (fun u hu => by (try dsimp only at hu); go_simp; rfl) (by simp only [List.setIfInBounds_toArray, List.set_cons_succ, List.set_cons_zero]; rfl) ?_
                  | refine pl_skip (i := 0) rfl rfl HS0.out rfl (by simp only [List.setIfInBounds_toArray, List.set_cons_succ, List.set_cons_zero]; rfl) ?_
                first
                  | refine pl_get (i := 1) rfl rfl HS0.out rfl (fun u hu => by (try dsimp only at hu); go_simp; rfl) (by simp only [List.setIfInBounds_toArray, List.set_cons_succ, List.set_cons_zero]; rfl) ?_
                  | refine pl_skip (i := 1) rfl rfl HS0.out rfl (by simp only [List.setIfInBounds_toArray, List.set_cons_succ, List.set_cons_zero]; rfl) ?_
                first
                  | refine pl_get (i := 2) rfl rfl HS0.out rfl (fun u hu => by (try dsimp only at hu); go_simp; rfl) (by simp only [List.setIfInBounds_toArray, List.set_cons_succ, List.set_cons_zero]; rfl) ?_
                  | refine pl_skip (i := 2) rfl rfl HS0.out rfl (by simp only [List.setIfInBounds_toArray, List.set_cons_succ, List.set_cons_zero]; rfl) ?_
                first
                  | refine pl_get (i := 4) rfl rfl HS0.out rfl (fun u hu => by (try dsimp only at hu); go_simp; rfl) (by simp only [List.setIfInBounds_toArray, List.set_cons_succ, List.set_cons_zero]; rfl) ?_
                  | refine pl_skip (i := 4) rfl rfl HS0.out rfl (by simp only [List.setIfInBounds_toArray, List.set_cons_succ, List.set_cons_zero]; rfl) ?_
                first
                  | refine pl_get (i := 5) rfl rfl HS0.out rfl (fun u hu => by (try dsimp only at hu); go_simp; rfl) (by simp only [List.setIfInBounds_toArray, List.set_cons_succ, List.set_cons_zero]; rfl) ?_
                  | refine pl_skip (i := 5) rfl rfl HS0.out rfl (by simp only [List.setIfInBounds_toArray, List.set_cons_succ, List.set_cons_zero]; rfl) ?_
                first
                  | refine pl_get (i := 6) rfl rfl HS0.out rfl (fun u hu => by (try dsimp only at hu); go_simp; rfl) (by simp only [List.setIfInBounds_toArray, List.set_cons_succ, List.set_cons_zero]; rfl) ?_
                  | refine pl_skip (i := 6) rfl rfl HS0.out rfl (by simp only [List.setIfInBounds_toArray, List.set_cons_succ, List.set_cons_zero]; rfl) ?_
                refine pl_one (i := 3) rfl ?_
                go_wp2_with ((go_at_call 15; refine (double_full w.heap.size nb na ncap room sent N n x _ HT0.out Hx.out Hr.out).mono ?_; rintro _ w4 ⟨rfl, k4⟩))
                have HKw4 := Lib.hid (HKw0.out.trans k4)
                have HS4 := Lib.hid (s3k HS0.out k4 (fun h => h))
                have HT4 := Lib.hid (HT0.out.keep0 k4)
                have HR4 := Lib.hid (HR0.out.keep0 k4)
                clear k4
                refine pl_next (fun _ => HS4.out) ?_
                refine pl_one (i := 7) rfl ?_
                go_wp2_with ((go_at_call 22; refine (rdouble_full rb w.heap.size ra rcap room sent (N.map HE.p) (n : Int) _ HR4.out (by rw [List.length_map]; exact ⟨by omega, by omega⟩) Hrp.out).mono ?_; rintro _ w5 ⟨rfl, k5⟩))
                have HD5 := Lib.hid (show HS w w5 nb rb room N (k + 1) from ⟨⟨_, _, _, _, sent, HT4.out.keep0 k5, HR4.out.keep0 k5, by omega, by omega⟩, by have := HDV.out.len; omega, HKw4.out.trans k5⟩)
                have HS5 := Lib.hid (s3k HS4.out k5 (fun h => h))
                clear k5
                refine pl_next (fun _ => HS5.out) ?_
                first
                  | refine pl_get (i := 8) rfl rfl HS5.out rfl (fun u hu => by (try dsimp only at hu); go_simp; rfl) (by simp only [List.setIfInBounds_toArray, List.set_cons_succ, List.set_cons_zero]; rfl) ?_
                  | refine pl_skip (i := 8) rfl rfl HS5.out rfl (by simp only [List.setIfInBounds_toArray, List.set_cons_succ, List.set_cons_zero]; rfl) ?_
                first
                  | refine pl_get (i := 9) rfl rfl HS5.out rfl (fun u hu => by (try dsimp only at hu); go_simp; rfl) (by simp only [List.setIfInBounds_toArray, List.set_cons_succ, List.set_cons_zero]; rfl) ?_
                  | refine pl_skip (i := 9) rfl rfl HS5.out rfl (by simp only [List.setIfInBounds_toArray, List.set_cons_succ, List.set_cons_zero]; rfl) ?_
                first
                  | refine pl_get (i := 10) rfl rfl HS5.out rfl (fun u hu => by (try dsimp only at hu); go_simp; rfl) (by simp only [List.setIfInBounds_toArray, List.set_cons_succ, List.set_cons_zero]; rfl) ?_
                  | refine pl_skip (i := 10) rfl rfl HS5.out rfl (by simp only [List.setIfInBounds_toArray, List.set_cons_succ, List.set_cons_zero]; rfl) ?_
                first
                  | refine pl_get (i := 11) rfl rfl HS5.out rfl (fun u hu => by (try dsimp only at hu); go_simp; rfl) (by simp only [List.setIfInBounds_toArray, List.set_cons_succ, List.set_cons_zero]; rfl) ?_
                  | refine pl_skip (i := 11) rfl rfl HS5.out rfl (by simp only [List.setIfInBounds_toArray, List.set_cons_succ, List.set_cons_zero]; rfl) ?_
                first
                  | refine pl_get (i := 12) rfl rfl HS5.out rfl (fun u hu => by (try dsimp only at hu); go_simp; rfl) (by simp only [List.setIfInBounds_toArray, List.set_cons_succ, List.set_cons_zero]; rfl) ?_
                  | refine pl_skip (i := 12) rfl rfl HS5.out rfl (by simp only [List.setIfInBounds_toArray, List.set_cons_succ, List.set_cons_zero]; rfl) ?_
                refine pl_one (i := 13) rfl ?_
                go_wp2_with ((go_at_call 15; refine (ndouble_any (n : Int) _).mono ?_; rintro _ w6 ⟨rfl, k6⟩))
                have HD6 := Lib.hid (HD5.out.keep k6)
                have HS6 := Lib.hid (s3k HS5.out k6 (fun h => h))
                clear k6
                refine pl_next (fun _ => HS6.out) ?_
                first
                  | refine pl_get (i := 14) rfl rfl HS6.out rfl (fun u hu => by (try dsimp only at hu); go_simp; rfl) (by simp only [List.setIfInBounds_toArray, List.set_cons_succ, List.set_cons_zero]; rfl) ?_
                  | refine pl_skip (i := 14) rfl rfl HS6.out rfl (by simp only [List.setIfInBounds_toArray, List.set_cons_succ, List.set_cons_zero]; rfl) ?_
                first
                  | refine pl_get (i := 15) rfl rfl HS6.out rfl (fun u hu => by (try dsimp only at hu); go_simp; rfl) (by simp only [List.setIfInBounds_toArray, List.set_cons_succ, List.set_cons_zero]; rfl) ?_
                  | refine pl_skip (i := 15) rfl rfl HS6.out rfl (by simp only [List.setIfInBounds_toArray, List.set_cons_succ, List.set_cons_zero]; rfl) ?_
                refine pl_one (i := 16) rfl ?_
                go_wp2_with (fail)
                refine pl_next (fun _ => HS6.out) ?_
                refine pl_done ?_
                go_wp2_with fail
                go_meet
                exact ⟨rfl, rfl, _, HD6.out⟩
              · have Hr := Lib.hid hr
                have Hrp := Lib.hid (show ¬ room ≤ ((N.map HE.p).length : Int) from by rw [List.length_map]; exact hr)
                clear hr
                as_aux_lemma =>
                go_wp2_with fail
                refine wp_region_pl (fun u => u.cell? ⟨ob, 3, none⟩ = some (.int .i64 (n : Int)) ∧ u.cell? ⟨ob, 4, none⟩ = some (.int .i64 j) ∧ u.cell? ⟨ob, 5, none⟩ = some (.int .u8 c)) [] (.rd 0 (.rd 1 (.rd 2 (.rd 4 (.rd 5 (.rd 6 (.one 3 (.one 7 (.rd 8 (.rd 9 (.rd 10 (.rd 11 (.rd 12 (.one 13 (.rd 14 (.rd 15 (.one 16 .done))))))))))))))))) (by kernel_rfl) (by kernel_rfl) (by kernel_rfl) (by kernel_rfl) (by intro c b d v u h; cases d <;> exact h) ?_
                have kd0 : Keep NoB V V.drew := (Keep.refl NoB V).drew
                have HKw0 := Lib.hid (HDV.out.hk.trans kd0)
                have HS0 := Lib.hid (ks3 ⟨x3, x4, x5⟩ kd0)
                have HT0 := Lib.hid (HT.out.keep0 kd0)
                have HR0 := Lib.hid (HR.out.keep0 kd0)
                have HB0 := Lib.hid (blk_keep HbV.out kd0 (fun h => h))
                clear x0 x1 x2 x3 x4 x5 x6 xl kd0
                first
                  | refine pl_get (i := 0) rfl rfl HS0.out rfl (fun u hu => by (try dsimp only at hu); go_simp; rfl) (by simp only [List.setIfInBounds_toArray, List.set_cons_succ, List.set_cons_zero]; rfl) ?_
                  | refine pl_skip (i := 0) rfl rfl HS0.out rfl (by simp only [List.setIfInBounds_toArray, List.set_cons_succ, List.set_cons_zero]; rfl) ?_
                first
                  | refine pl_get (i := 1) rfl rfl HS0.out rfl (fun u hu => by (try dsimp only at hu); go_simp; rfl) (by simp only [List.setIfInBounds_toArray, List.set_cons_succ, List.set_cons_zero]; rfl) ?_
                  | refine pl_skip (i := 1) rfl rfl HS0.out rfl (by simp only [List.setIfInBounds_toArray, List.set_cons_succ, List.set_cons_zero]; rfl) ?_
                first
                  | refine pl_get (i := 2) rfl rfl HS0.out rfl (fun u hu => by (try dsimp only at hu); go_simp; rfl) (by simp only [List.setIfInBounds_toArray, List.set_cons_succ, List.set_cons_zero]; rfl) ?_
                  | refine pl_skip (i := 2) rfl rfl HS0.out rfl (by simp only [List.setIfInBounds_toArray, List.set_cons_succ, List.set_cons_zero]; rfl) ?_
                first
                  | refine pl_get (i := 4) rfl rfl HS0.out rfl (fun u hu => by (try dsimp only at hu); go_simp; rfl) (by simp only [List.setIfInBounds_toArray, List.set_cons_succ, List.set_cons_zero]; rfl) ?_
                  | refine pl_skip (i := 4) rfl rfl HS0.out rfl (by simp only [List.setIfInBounds_toArray, List.set_cons_succ, List.set_cons_zero]; rfl) ?_
                first
                  | refine pl_get (i := 5) rfl rfl HS0.out rfl (fun u hu => by (try dsimp only at hu); go_simp; rfl) (by simp only [List.setIfInBounds_toArray, List.set_cons_succ, List.set_cons_zero]; rfl) ?_
                  | refine pl_skip (i := 5) rfl rfl HS0.out rfl (by simp only [List.setIfInBounds_toArray, List.set_cons_succ, List.set_cons_zero]; rfl) ?_
                first
                  | refine pl_get (i := 6) rfl rfl HS0.out rfl (fun u hu => by (try dsimp only at hu); go_simp; rfl) (by simp only [List.setIfInBounds_toArray, List.set_cons_succ, List.set_cons_zero]; rfl) ?_
                  | refine pl_skip (i := 6) rfl rfl HS0.out rfl (by simp only [List.setIfInBounds_toArray, List.set_cons_succ, List.set_cons_zero]; rfl) ?_
                refine pl_one (i := 3) rfl ?_
                go_wp2_with ((go_at_call 15; refine (double_ok w.heap.size nb na ncap room sent N n x _ HT0.out HKw0.out.size Hx.out (by have h9 := Hr.out; omega) (by omega)).mono ?_; rintro _ w4 ⟨a4, c4, g4, rfl, T4, k4⟩))
                have hso : ¬ SN nb (.slice na N.length ncap) ob := fun e => e.elim (fun e => hnob e) (fun e => HT0.out.row.ne HB0.out (by decide) ob e rfl)
                have HKw4 := Lib.hid (HKw0.out.trans' k4 (HPB.out.sn HT0.out))
                have HS4 := Lib.hid (s3k HS0.out k4 hso)
                have HR4 := Lib.hid (HR0.out.sn HT0.out k4 HPB.out.ne)
                obtain ⟨N', hN'⟩ : ∃ q, N ++ [⟨x.f, x.t, some ⟨g4, 0, none⟩, x.l.length, x.tn, x.l⟩] = q := ⟨_, rfl⟩
                have HN' := Lib.hid (show N.map HE.p ++ [x.p] = N'.map HE.p from by rw [← hN', map_p_one]; rfl)
                have HN'l := Lib.hid (show N'.length = N.length + 1 from by rw [← hN']; simp)
                rw [hN'] at T4
                clear hN'
                have HT4 := Lib.hid T4
                clear k4 T4 hso
                refine pl_next (fun _ => HS4.out) ?_
                refine pl_one (i := 7) rfl ?_
                go_wp2_with ((go_at_call 22; refine (rdouble_yes rb w.heap.size ra rcap room sent (N.map HE.p) n x.p _ HR4.out HKw4.out.size (by rw [List.length_map]; omega) Hxp.out (by have h9 := Hrp.out; omega) _ HN'.out).mono ?_; rintro _ w5 ⟨rfl, ⟨a5, c5, R5⟩, k5⟩))
                have HD5 := Lib.hid (show HS w w5 nb rb room N' (k + 1) from ⟨⟨_, _, _, _, sent, HT4.out.one HR4.out k5 HPB.out.ne, R5, by omega, by omega⟩, by have := HDV.out.len; have := HN'l.out; omega, HKw4.out.trans' k5 HPB.out.r⟩)
                have HS5 := Lib.hid (s3k HS4.out k5 (fun e => hrob e))
                clear k5 R5
                refine pl_next (fun _ => HS5.out) ?_
                first
                  | refine pl_get (i := 8) rfl rfl HS5.out rfl (fun u hu => by (try dsimp only at hu); go_simp; rfl) (by simp only [List.setIfInBounds_toArray, List.set_cons_succ, List.set_cons_zero]; rfl) ?_
                  | refine pl_skip (i := 8) rfl rfl HS5.out rfl (by simp only [List.setIfInBounds_toArray, List.set_cons_succ, List.set_cons_zero]; rfl) ?_
                first
                  | refine pl_get (i := 9) rfl rfl HS5.out rfl (fun u hu => by (try dsimp only at hu); go_simp; rfl) (by simp only [List.setIfInBounds_toArray, List.set_cons_succ, List.set_cons_zero]; rfl) ?_
                  | refine pl_skip (i := 9) rfl rfl HS5.out rfl (by simp only [List.setIfInBounds_toArray, List.set_cons_succ, List.set_cons_zero]; rfl) ?_
                first
                  | refine pl_get (i := 10) rfl rfl HS5.out rfl (fun u hu => by (try dsimp only at hu); go_simp; rfl) (by simp only [List.setIfInBounds_toArray, List.set_cons_succ, List.set_cons_zero]; rfl) ?_
                  | refine pl_skip (i := 10) rfl rfl HS5.out rfl (by simp only [List.setIfInBounds_toArray, List.set_cons_succ, List.set_cons_zero]; rfl) ?_
                first
                  | refine pl_get (i := 11) rfl rfl HS5.out rfl (fun u hu => by (try dsimp only at hu); go_simp; rfl) (by simp only [List.setIfInBounds_toArray, List.set_cons_succ, List.set_cons_zero]; rfl) ?_
                  | refine pl_skip (i := 11) rfl rfl HS5.out rfl (by simp only [List.setIfInBounds_toArray, List.set_cons_succ, List.set_cons_zero]; rfl) ?_
                first
                  | refine pl_get (i := 12) rfl rfl HS5.out rfl (fun u hu => by (try dsimp only at hu); go_simp; rfl) (by simp only [List.setIfInBounds_toArray, List.set_cons_succ, List.set_cons_zero]; rfl) ?_
                  | refine pl_skip (i := 12) rfl rfl HS5.out rfl (by simp only [List.setIfInBounds_toArray, List.set_cons_succ, List.set_cons_zero]; rfl) ?_
                refine pl_one (i := 13) rfl ?_
                go_wp2_with ((go_at_call 15; refine (ndouble_any (n : Int) _).mono ?_; rintro _ w6 ⟨rfl, k6⟩))
                have HD6 := Lib.hid (HD5.out.keep k6)
                have HS6 := Lib.hid (s3k HS5.out k6 (fun h => h))
                clear k6
                refine pl_next (fun _ => HS6.out) ?_
                first
                  | refine pl_get (i := 14) rfl rfl HS6.out rfl (fun u hu => by (try dsimp only at hu); go_simp; rfl) (by simp only [List.setIfInBounds_toArray, List.set_cons_succ, List.set_cons_zero]; rfl) ?_
                  | refine pl_skip (i := 14) rfl rfl HS6.out rfl (by simp only [List.setIfInBounds_toArray, List.set_cons_succ, List.set_cons_zero]; rfl) ?_
                first
                  | refine pl_get (i := 15) rfl rfl HS6.out rfl (fun u hu => by (try dsimp only at hu); go_simp; rfl) (by simp only [List.setIfInBounds_toArray, List.set_cons_succ, List.set_cons_zero]; rfl) ?_
                  | refine pl_skip (i := 15) rfl rfl HS6.out rfl (by simp only [List.setIfInBounds_toArray, List.set_cons_succ, List.set_cons_zero]; rfl) ?_
                refine pl_one (i := 16) rfl ?_
                go_wp2_with (fail)
                refine pl_next (fun _ => HS6.out) ?_
                refine pl_done ?_
                go_wp2_with fail
                go_meet
                exact ⟨rfl, rfl, _, HD6.out⟩
            · have Hout := Lib.hid (show i < 0 ∨ (N.length : Int) ≤ i from by omega)
              have Houtp := Lib.hid (show ¬ (0 ≤ i ∧ i < ((N.map HE.p).length : Int)) from by rw [List.length_map]; exact hin)
              clear hin
              as_aux_lemma =>
              go_wp2_with fail
              refine wp_region_pl (fun u => u.cell? ⟨ob, 3, none⟩ = some (.int .i64 i) ∧ u.cell? ⟨ob, 4, none⟩ = some (.int .i64 j) ∧ u.cell? ⟨ob, 5, none⟩ = some (.int .u8 c)) [] (.rd 0 (.rd 1 (.rd 2 (.rd 4 (.rd 5 (.rd 6 (.one 3 (.one 7 (.rd 8 (.rd 9 (.rd 10 (.rd 11 (.rd 12 (.one 13 (.rd 14 (.rd 15 (.one 16 .done))))))))))))))))) (by kernel_rfl) (by kernel_rfl) (by kernel_rfl) (by kernel_rfl) (by intro c b d v u h; cases d <;> exact h) ?_
              have kd0 : Keep NoB V V.drew := (Keep.refl NoB V).drew
              have HKw0 := Lib.hid (HDV.out.hk.trans kd0)
              have HS0 := Lib.hid (ks3 ⟨x3, x4, x5⟩ kd0)
              have HT0 := Lib.hid (HT.out.keep0 kd0)
              have HR0 := Lib.hid (HR.out.keep0 kd0)
              have HB0 := Lib.hid (blk_keep HbV.out kd0 (fun h => h))
              clear x0 x1 x2 x3 x4 x5 x6 xl kd0
              first
                | refine pl_get (i := 0) rfl rfl HS0.out rfl (fun u hu => by (try dsimp only at hu); go_simp; rfl) (by simp only [List.setIfInBounds_toArray, List.set_cons_succ, List.set_cons_zero]; rfl) ?_
                | refine pl_skip (i := 0) rfl rfl HS0.out rfl (by simp only [List.setIfInBounds_toArray, List.set_cons_succ, List.set_cons_zero]; rfl) ?_
              first
                | refine pl_get (i := 1) rfl rfl HS0.out rfl (fun u hu => by (try dsimp only at hu); go_simp; rfl) (by simp only [List.setIfInBounds_toArray, List.set_cons_succ, List.set_cons_zero]; rfl) ?_
                | refine pl_skip (i := 1) rfl rfl HS0.out rfl (by simp only [List.setIfInBounds_toArray, List.set_cons_succ, List.set_cons_zero]; rfl) ?_
              first
                | refine pl_get (i := 2) rfl rfl HS0.out rfl (fun u hu => by (try dsimp only at hu); go_simp; rfl) (by simp only [List.setIfInBounds_toArray, List.set_cons_succ, List.set_cons_zero]; rfl) ?_
                | refine pl_skip (i := 2) rfl rfl HS0.out rfl (by simp only [List.setIfInBounds_toArray, List.set_cons_succ, List.set_cons_zero]; rfl) ?_
              first
                | refine pl_get (i := 4) rfl rfl HS0.out rfl (fun u hu => by (try dsimp only at hu); go_simp; rfl) (by simp only [List.setIfInBounds_toArray, List.set_cons_succ, List.set_cons_zero]; rfl) ?_
                | refine pl_skip (i := 4) rfl rfl HS0.out rfl (by simp only [List.setIfInBounds_toArray, List.set_cons_succ, List.set_cons_zero]; rfl) ?_
              first
                | refine pl_get (i := 5) rfl rfl HS0.out rfl (fun u hu => by (try dsimp only at hu); go_simp; rfl) (by simp only [List.setIfInBounds_toArray, List.set_cons_succ, List.set_cons_zero]; rfl) ?_
                | refine pl_skip (i := 5) rfl rfl HS0.out rfl (by simp only [List.setIfInBounds_toArray, List.set_cons_succ, List.set_cons_zero]; rfl) ?_
              first
                | refine pl_get (i := 6) rfl rfl HS0.out rfl (fun u hu => by (try dsimp only at hu); go_simp; rfl) (by simp only [List.setIfInBounds_toArray, List.set_cons_succ, List.set_cons_zero]; rfl) ?_
                | refine pl_skip (i := 6) rfl rfl HS0.out rfl (by simp only [List.setIfInBounds_toArray, List.set_cons_succ, List.set_cons_zero]; rfl) ?_
              refine pl_one (i := 3) rfl ?_
              go_wp2_with ((go_at_call 15; refine (double_out w.heap.size nb na ncap room sent N i _ HT0.out (by have h9 := Hout.out; omega)).mono ?_; rintro _ w4 ⟨rfl, k4⟩))
              have HKw4 := Lib.hid (HKw0.out.trans k4)
              have HS4 := Lib.hid (s3k HS0.out k4 (fun h => h))
              have HT4 := Lib.hid (HT0.out.keep0 k4)
              have HR4 := Lib.hid (HR0.out.keep0 k4)
              clear k4
              refine pl_next (fun _ => HS4.out) ?_
              refine pl_one (i := 7) rfl ?_
              go_wp2_with ((go_at_call 22; refine (rdouble_out rb w.heap.size ra rcap room sent (N.map HE.p) i _ HR4.out (by rw [List.length_map]; have h9 := Hout.out; omega)).mono ?_; rintro _ w5 ⟨rfl, k5⟩))
              have HD5 := Lib.hid (show HS w w5 nb rb room N (k + 1) from ⟨⟨_, _, _, _, sent, HT4.out.keep0 k5, HR4.out.keep0 k5, by omega, by omega⟩, by have := HDV.out.len; omega, HKw4.out.trans k5⟩)
              have HS5 := Lib.hid (s3k HS4.out k5 (fun h => h))
              clear k5
              refine pl_next (fun _ => HS5.out) ?_
              first
                | refine pl_get (i := 8) rfl rfl HS5.out rfl (fun u hu => by (try dsimp only at hu); go_simp; rfl) (by simp only [List.setIfInBounds_toArray, List.set_cons_succ, List.set_cons_zero]; rfl) ?_
                | refine pl_skip (i := 8) rfl rfl HS5.out rfl (by simp only [List.setIfInBounds_toArray, List.set_cons_succ, List.set_cons_zero]; rfl) ?_
              first
                | refine pl_get (i := 9) rfl rfl HS5.out rfl (fun u hu => by (try dsimp only at hu); go_simp; rfl) (by simp only [List.setIfInBounds_toArray, List.set_cons_succ, List.set_cons_zero]; rfl) ?_
                | refine pl_skip (i := 9) rfl rfl HS5.out rfl (by simp only [List.setIfInBounds_toArray, List.set_cons_succ, List.set_cons_zero]; rfl) ?_
              first
                | refine pl_get (i := 10) rfl rfl HS5.out rfl (fun u hu => by (try dsimp only at hu); go_simp; rfl) (by simp only [List.setIfInBounds_toArray, List.set_cons_succ, List.set_cons_zero]; rfl) ?_
                | refine pl_skip (i := 10) rfl rfl HS5.out rfl (by simp only [List.setIfInBounds_toArray, List.set_cons_succ, List.set_cons_zero]; rfl) ?_
              first
                | refine pl_get (i := 11) rfl rfl HS5.out rfl (fun u hu => by (try dsimp only at hu); go_simp; rfl) (by simp only [List.setIfInBounds_toArray, List.set_cons_succ, List.set_cons_zero]; rfl) ?_
                | refine pl_skip (i := 11) rfl rfl HS5.out rfl (by simp only [List.setIfInBounds_toArray, List.set_cons_succ, List.set_cons_zero]; rfl) ?_
              first
                | refine pl_get (i := 12) rfl rfl HS5.out rfl (fun u hu => by (try dsimp only at hu); go_simp; rfl) (by simp only [List.setIfInBounds_toArray, List.set_cons_succ, List.set_cons_zero]; rfl) ?_
                | refine pl_skip (i := 12) rfl rfl HS5.out rfl (by simp only [List.setIfInBounds_toArray, List.set_cons_succ, List.set_cons_zero]; rfl) ?_
              refine pl_one (i := 13) rfl ?_
              go_wp2_with ((go_at_call 15; refine (ndouble_any i _).mono ?_; rintro _ w6 ⟨rfl, k6⟩))
              have HD6 := Lib.hid (HD5.out.keep k6)
              have HS6 := Lib.hid (s3k HS5.out k6 (fun h => h))
              clear k6
              refine pl_next (fun _ => HS6.out) ?_
              first
                | refine pl_get (i := 14) rfl rfl HS6.out rfl (fun u hu => by (try dsimp only at hu); go_simp; rfl) (by simp only [List.setIfInBounds_toArray, List.set_cons_succ, List.set_cons_zero]; rfl) ?_
                | refine pl_skip (i := 14) rfl rfl HS6.out rfl (by simp only [List.setIfInBounds_toArray, List.set_cons_succ, List.set_cons_zero]; rfl) ?_
              first
                | refine pl_get (i := 15) rfl rfl HS6.out rfl (fun u hu => by (try dsimp only at hu); go_simp; rfl) (by simp only [List.setIfInBounds_toArray, List.set_cons_succ, List.set_cons_zero]; rfl) ?_
                | refine pl_skip (i := 15) rfl rfl HS6.out rfl (by simp only [List.setIfInBounds_toArray, List.set_cons_succ, List.set_cons_zero]; rfl) ?_
              refine pl_one (i := 16) rfl ?_
              go_wp2_with (fail)
              refine pl_next (fun _ => HS6.out) ?_
              refine pl_done ?_
              go_wp2_with fail
              go_meet
              exact ⟨rfl, rfl, _, HD6.out⟩
          · -- Turn
            obtain ⟨cu, rfl⟩ : ∃ cu : UInt8, c = (cu.toNat : Int) := by
              have hb := bounds_u8 Hwc.out
              exact ⟨UInt8.ofNat c.toNat, by simp; omega⟩
            by_cases hin : 0 ≤ i ∧ i < N.length
            · obtain ⟨n, rfl⟩ : ∃ n : Nat, i = (n : Int) := ⟨i.toNat, by omega⟩
              have hnl : n < N.length := by omega
              obtain ⟨x, hx⟩ : ∃ x, N[n]? = some x := ⟨_, List.getElem?_eq_getElem hnl⟩
              have Hx := Lib.hid hx
              have Hxp := Lib.hid (show (N.map HE.p)[n]? = some x.p from by rw [List.getElem?_map, hx]; rfl)
              have hxl : x.l.length ≤ 1000000 := (HT.out.each x (List.mem_of_getElem? hx)).2
              have Hin := Lib.hid hin
              clear hx hin
              by_cases hno : j < 0 ∨ (x.l.length : Int) ≤ j ∨ x.tn = true
              · have Hno := Lib.hid hno
                have Hnop := Lib.hid (show j < 0 ∨ (x.p.x.size : Int) ≤ j ∨ x.p.tn = true from by
                  rw [show x.p.x.size = x.l.length from by show x.l.toArray.size = _; simp]
                  exact hno)
                clear hno
                as_aux_lemma =>
                go_wp2_with fail
                refine wp_region_pl (fun u => u.cell? ⟨ob, 3, none⟩ = some (.int .i64 (n : Int)) ∧ u.cell? ⟨ob, 4, none⟩ = some (.int .i64 j) ∧ u.cell? ⟨ob, 5, none⟩ = some (.int .u8 (cu.toNat : Int))) [] (.rd 0 (.rd 1 (.rd 2 (.rd 3 (.rd 4 (.rd 5 (.rd 6 (.rd 8 (.rd 9 (.rd 10 (.rd 11 (.rd 12 (.rd 13 (.rd 14 (.one 7 (.one 15 (.rd 16 (.rd 17 (.rd 18 (.rd 19 (.rd 20 (.rd 21 (.rd 22 (.rd 23 (.rd 24 (.one 25 (.rd 26 (.rd 27 (.one 28 .done))))))))))))))))))))))))))))) (by kernel_rfl) (by kernel_rfl) (by kernel_rfl) (by kernel_rfl) (by intro c b d v u h; cases d <;> exact h) ?_
                have kd0 : Keep NoB V V.drew := (Keep.refl NoB V).drew
                have HKw0 := Lib.hid (HDV.out.hk.trans kd0)
                have HS0 := Lib.hid (ks3 ⟨x3, x4, x5⟩ kd0)
                have HT0 := Lib.hid (HT.out.keep0 kd0)
                have HR0 := Lib.hid (HR.out.keep0 kd0)
                have HB0 := Lib.hid (blk_keep HbV.out kd0 (fun h => h))
                clear x0 x1 x2 x3 x4 x5 x6 xl kd0
                first
                  | refine pl_get (i := 0) rfl rfl HS0.out rfl (fun u hu => by (try dsimp only at hu); go_simp; rfl) (by simp only [List.setIfInBounds_toArray, List.set_cons_succ, List.set_cons_zero]; rfl) ?_
                  | refine pl_skip (i := 0) rfl rfl HS0.out rfl (by simp only [List.setIfInBounds_toArray, List.set_cons_succ, List.set_cons_zero]; rfl) ?_
                first
                  | refine pl_get (i := 1) rfl rfl HS0.out rfl (fun u hu => by (try dsimp only at hu); go_simp; rfl) (by simp only [List.setIfInBounds_toArray, List.set_cons_succ, List.set_cons_zero]; rfl) ?_
                  | refine pl_skip (i := 1) rfl rfl HS0.out rfl (by simp only [List.setIfInBounds_toArray, List.set_cons_succ, List.set_cons_zero]; rfl) ?_
                first
                  | refine pl_get (i := 2) rfl rfl HS0.out rfl (fun u hu => by (try dsimp only at hu); go_simp; rfl) (by simp only [List.setIfInBounds_toArray, List.set_cons_succ, List.set_cons_zero]; rfl) ?_
                  | refine pl_skip (i := 2) rfl rfl HS0.out rfl (by simp only [List.setIfInBounds_toArray, List.set_cons_succ, List.set_cons_zero]; rfl) ?_
                first
                  | refine pl_get (i := 3) rfl rfl HS0.out rfl (fun u hu => by (try dsimp only at hu); go_simp; rfl) (by simp only [List.setIfInBounds_toArray, List.set_cons_succ, List.set_cons_zero]; rfl) ?_
                  | refine pl_skip (i := 3) rfl rfl HS0.out rfl (by simp only [List.setIfInBounds_toArray, List.set_cons_succ, List.set_cons_zero]; rfl) ?_
                first
                  | refine pl_get (i := 4) rfl rfl HS0.out rfl (fun u hu => by (try dsimp only at hu); go_simp; rfl) (by simp only [List.setIfInBounds_toArray, List.set_cons_succ, List.set_cons_zero]; rfl) ?_
                  | refine pl_skip (i := 4) rfl rfl HS0.out rfl (by simp only [List.setIfInBounds_toArray, List.set_cons_succ, List.set_cons_zero]; rfl) ?_
                first
                  | refine pl_get (i := 5) rfl rfl HS0.out rfl (fun u hu => by (try dsimp only at hu); go_simp; rfl) (by simp only [List.setIfInBounds_toArray, List.set_cons_succ, List.set_cons_zero]; rfl) ?_
                  | refine pl_skip (i := 5) rfl rfl HS0.out rfl (by simp only [List.setIfInBounds_toArray, List.set_cons_succ, List.set_cons_zero]; rfl) ?_
                first
                  | refine pl_get (i := 6) rfl rfl HS0.out rfl (fun u hu => by (try dsimp only at hu); go_simp; rfl) (by simp only [List.setIfInBounds_toArray, List.set_cons_succ, List.set_cons_zero]; rfl) ?_
                  | refine pl_skip (i := 6) rfl rfl HS0.out rfl (by simp only [List.setIfInBounds_toArray, List.set_cons_succ, List.set_cons_zero]; rfl) ?_
                first
                  | refine pl_get (i := 8) rfl rfl HS0.out rfl (fun u hu => by (try dsimp only at hu); go_simp; rfl) (by simp only [List.setIfInBounds_toArray, List.set_cons_succ, List.set_cons_zero]; rfl) ?_
                  | refine pl_skip (i := 8) rfl rfl HS0.out rfl (by simp only [List.setIfInBounds_toArray, List.set_cons_succ, List.set_cons_zero]; rfl) ?_
                first
                  | refine pl_get (i := 9) rfl rfl HS0.out rfl (fun u hu => by (try dsimp only at hu); go_simp; rfl) (by simp only [List.setIfInBounds_toArray, List.set_cons_succ, List.set_cons_zero]; rfl) ?_
                  | refine pl_skip (i := 9) rfl rfl HS0.out rfl (by simp only [List.setIfInBounds_toArray, List.set_cons_succ, List.set_cons_zero]; rfl) ?_
                first
                  | refine pl_get (i := 10) rfl rfl HS0.out rfl (fun u hu => by (try dsimp only at hu); go_simp; rfl) (by simp only [List.setIfInBounds_toArray, List.set_cons_succ, List.set_cons_zero]; rfl) ?_
                  | refine pl_skip (i := 10) rfl rfl HS0.out rfl (by simp only [List.setIfInBounds_toArray, List.set_cons_succ, List.set_cons_zero]; rfl) ?_
                first
                  | refine pl_get (i := 11) rfl rfl HS0.out rfl (fun u hu => by (try dsimp only at hu); go_simp; rfl) (by simp only [List.setIfInBounds_toArray, List.set_cons_succ, List.set_cons_zero]; rfl) ?_
                  | refine pl_skip (i := 11) rfl rfl HS0.out rfl (by simp only [List.setIfInBounds_toArray, List.set_cons_succ, List.set_cons_zero]; rfl) ?_
                first
                  | refine pl_get (i := 12) rfl rfl HS0.out rfl (fun u hu => by (try dsimp only at hu); go_simp; rfl) (by simp only [List.setIfInBounds_toArray, List.set_cons_succ, List.set_cons_zero]; rfl) ?_
                  | refine pl_skip (i := 12) rfl rfl HS0.out rfl (by simp only [List.setIfInBounds_toArray, List.set_cons_succ, List.set_cons_zero]; rfl) ?_
                first
                  | refine pl_get (i := 13) rfl rfl HS0.out rfl (fun u hu => by (try dsimp only at hu); go_simp; rfl) (by simp only [List.setIfInBounds_toArray, List.set_cons_succ, List.set_cons_zero]; rfl) ?_
                  | refine pl_skip (i := 13) rfl rfl HS0.out rfl (by simp only [List.setIfInBounds_toArray, List.set_cons_succ, List.set_cons_zero]; rfl) ?_
                first
                  | refine pl_get (i := 14) rfl rfl HS0.out rfl (fun u hu => by (try dsimp only at hu); go_simp; rfl) (by simp only [List.setIfInBounds_toArray, List.set_cons_succ, List.set_cons_zero]; rfl) ?_
                  | refine pl_skip (i := 14) rfl rfl HS0.out rfl (by simp only [List.setIfInBounds_toArray, List.set_cons_succ, List.set_cons_zero]; rfl) ?_
                refine pl_one (i := 7) rfl ?_
                go_wp2_with ((go_at_call 23; refine (turn_no w.heap.size nb na ncap room sent N n j cu x _ HT0.out Hx.out Hno.out).mono ?_; rintro _ w4 ⟨rfl, k4⟩))
                have HKw4 := Lib.hid (HKw0.out.trans k4)
                have HS4 := Lib.hid (s3k HS0.out k4 (fun h => h))
                have HT4 := Lib.hid (HT0.out.keep0 k4)
                have HR4 := Lib.hid (HR0.out.keep0 k4)
                clear k4
                refine pl_next (fun _ => HS4.out) ?_
                refine pl_one (i := 15) rfl ?_
                go_wp2_with ((go_at_call 24; refine (rturn_no rb w.heap.size ra rcap room sent (N.map HE.p) n x.p j (cu.toNat : Int) _ HR4.out Hxp.out (by rw [List.length_map]; omega) Hnop.out).mono ?_; rintro _ w5 ⟨rfl, rfl⟩))
                have HD5 := Lib.hid (show HS w w5 nb rb room N (k + 1) from ⟨⟨_, _, _, _, sent, HT4.out, HR4.out, by omega, by omega⟩, by have := HDV.out.len; omega, HKw4.out⟩)
                have HS5 := Lib.hid HS4.out
                refine pl_next (fun _ => HS5.out) ?_
                first
                  | refine pl_get (i := 16) rfl rfl HS5.out rfl (fun u hu => by (try dsimp only at hu); go_simp; rfl) (by simp only [List.setIfInBounds_toArray, List.set_cons_succ, List.set_cons_zero]; rfl) ?_
                  | refine pl_skip (i := 16) rfl rfl HS5.out rfl (by simp only [List.setIfInBounds_toArray, List.set_cons_succ, List.set_cons_zero]; rfl) ?_
                first
                  | refine pl_get (i := 17) rfl rfl HS5.out rfl (fun u hu => by (try dsimp only at hu); go_simp; rfl) (by simp only [List.setIfInBounds_toArray, List.set_cons_succ, List.set_cons_zero]; rfl) ?_
                  | refine pl_skip (i := 17) rfl rfl HS5.out rfl (by simp only [List.setIfInBounds_toArray, List.set_cons_succ, List.set_cons_zero]; rfl) ?_
                first
                  | refine pl_get (i := 18) rfl rfl HS5.out rfl (fun u hu => by (try dsimp only at hu); go_simp; rfl) (by simp only [List.setIfInBounds_toArray, List.set_cons_succ, List.set_cons_zero]; rfl) ?_
                  | refine pl_skip (i := 18) rfl rfl HS5.out rfl (by simp only [List.setIfInBounds_toArray, List.set_cons_succ, List.set_cons_zero]; rfl) ?_
                first
                  | refine pl_get (i := 19) rfl rfl HS5.out rfl (fun u hu => by (try dsimp only at hu); go_simp; rfl) (by simp only [List.setIfInBounds_toArray, List.set_cons_succ, List.set_cons_zero]; rfl) ?_
                  | refine pl_skip (i := 19) rfl rfl HS5.out rfl (by simp only [List.setIfInBounds_toArray, List.set_cons_succ, List.set_cons_zero]; rfl) ?_
                first
                  | refine pl_get (i := 20) rfl rfl HS5.out rfl (fun u hu => by (try dsimp only at hu); go_simp; rfl) (by simp only [List.setIfInBounds_toArray, List.set_cons_succ, List.set_cons_zero]; rfl) ?_
                  | refine pl_skip (i := 20) rfl rfl HS5.out rfl (by simp only [List.setIfInBounds_toArray, List.set_cons_succ, List.set_cons_zero]; rfl) ?_
                first
                  | refine pl_get (i := 21) rfl rfl HS5.out rfl (fun u hu => by (try dsimp only at hu); go_simp; rfl) (by simp only [List.setIfInBounds_toArray, List.set_cons_succ, List.set_cons_zero]; rfl) ?_
                  | refine pl_skip (i := 21) rfl rfl HS5.out rfl (by simp only [List.setIfInBounds_toArray, List.set_cons_succ, List.set_cons_zero]; rfl) ?_
                first
                  | refine pl_get (i := 22) rfl rfl HS5.out rfl (fun u hu => by (try dsimp only at hu); go_simp; rfl) (by simp only [List.setIfInBounds_toArray, List.set_cons_succ, List.set_cons_zero]; rfl) ?_
                  | refine pl_skip (i := 22) rfl rfl HS5.out rfl (by simp only [List.setIfInBounds_toArray, List.set_cons_succ, List.set_cons_zero]; rfl) ?_
                first
                  | refine pl_get (i := 23) rfl rfl HS5.out rfl (fun u hu => by (try dsimp only at hu); go_simp; rfl) (by simp only [List.setIfInBounds_toArray, List.set_cons_succ, List.set_cons_zero]; rfl) ?_
                  | refine pl_skip (i := 23) rfl rfl HS5.out rfl (by simp only [List.setIfInBounds_toArray, List.set_cons_succ, List.set_cons_zero]; rfl) ?_
                first
                  | refine pl_get (i := 24) rfl rfl HS5.out rfl (fun u hu => by (try dsimp only at hu); go_simp; rfl) (by simp only [List.setIfInBounds_toArray, List.set_cons_succ, List.set_cons_zero]; rfl) ?_
                  | refine pl_skip (i := 24) rfl rfl HS5.out rfl (by simp only [List.setIfInBounds_toArray, List.set_cons_succ, List.set_cons_zero]; rfl) ?_
                refine pl_one (i := 25) rfl ?_
                go_wp2_with ((go_at_call 23; refine (nturn_any (n : Int) j (cu.toNat : Int) _).mono ?_; rintro _ w6 ⟨rfl, rfl⟩))
                have HD6 := Lib.hid HD5.out
                have HS6 := Lib.hid HS5.out
                refine pl_next (fun _ => HS6.out) ?_
                first
                  | refine pl_get (i := 26) rfl rfl HS6.out rfl (fun u hu => by (try dsimp only at hu); go_simp; rfl) (by simp only [List.setIfInBounds_toArray, List.set_cons_succ, List.set_cons_zero]; rfl) ?_
                  | refine pl_skip (i := 26) rfl rfl HS6.out rfl (by simp only [List.setIfInBounds_toArray, List.set_cons_succ, List.set_cons_zero]; rfl) ?_
                first
                  | refine pl_get (i := 27) rfl rfl HS6.out rfl (fun u hu => by (try dsimp only at hu); go_simp; rfl) (by simp only [List.setIfInBounds_toArray, List.set_cons_succ, List.set_cons_zero]; rfl) ?_
                  | refine pl_skip (i := 27) rfl rfl HS6.out rfl (by simp only [List.setIfInBounds_toArray, List.set_cons_succ, List.set_cons_zero]; rfl) ?_
                refine pl_one (i := 28) rfl ?_
                go_wp2_with (fail)
                refine pl_next (fun _ => HS6.out) ?_
                refine pl_done ?_
                go_wp2_with fail
                go_meet
                exact ⟨rfl, rfl, _, HD6.out⟩
              · obtain ⟨m, rfl⟩ : ∃ m : Nat, j = (m : Int) := ⟨j.toNat, by omega⟩
                have hml : m < x.l.length := by omega
                obtain ⟨bb, hbb⟩ : ∃ b, x.l[m]? = some b := ⟨_, List.getElem?_eq_getElem hml⟩
                have Hbb := Lib.hid hbb
                have Htn := Lib.hid (show x.tn = false from by cases h : x.tn with | false => rfl | true => exact absurd (Or.inr (Or.inr h)) hno)
                have Hxp2 := Lib.hid (show (N.map HE.p)[n]? = some ⟨x.f, x.t, ⟨x.l.toArray⟩, false⟩ from by rw [Hxp.out, ← Htn.out]; rfl)
                obtain ⟨N', hN'⟩ : ∃ q, N.set n (x.turned m (bb ^^^ cu)) = q := ⟨_, rfl⟩
                have HNp := Lib.hid (show (N.map HE.p).set n ⟨x.f, x.t, ⟨(x.l.set m (bb ^^^ cu)).toArray⟩, true⟩ = N'.map HE.p from by rw [← hN', List.map_set]; rfl)
                have HN'l := Lib.hid (show N'.length = N.length from by rw [← hN']; simp)
                have HC1 := Lib.hid (fun (u : World) (T : Net u w.heap.size nb na ncap room sent N) => turn_ok w.heap.size nb na ncap room sent N n m cu bb x u T Hx.out Hbb.out Htn.out)
                have HC2 := Lib.hid (fun (u : World) (R : RN u w.heap.size rb ra rcap room sent (N.map HE.p)) (h : w.heap.size ≤ u.heap.size) => rturn_yes rb w.heap.size ra rcap room sent (N.map HE.p) n m x.f x.t x.l cu bb u R h Hxp2.out (by rw [List.length_map]; omega) hxl Hbb.out)
                rw [hN'] at HC1
                rw [HNp.out] at HC2
                clear hno hbb hN'
                as_aux_lemma =>
                go_wp2_with fail
                refine wp_region_pl (fun u => u.cell? ⟨ob, 3, none⟩ = some (.int .i64 (n : Int)) ∧ u.cell? ⟨ob, 4, none⟩ = some (.int .i64 (m : Int)) ∧ u.cell? ⟨ob, 5, none⟩ = some (.int .u8 (cu.toNat : Int))) [] (.rd 0 (.rd 1 (.rd 2 (.rd 3 (.rd 4 (.rd 5 (.rd 6 (.rd 8 (.rd 9 (.rd 10 (.rd 11 (.rd 12 (.rd 13 (.rd 14 (.one 7 (.one 15 (.rd 16 (.rd 17 (.rd 18 (.rd 19 (.rd 20 (.rd 21 (.rd 22 (.rd 23 (.rd 24 (.one 25 (.rd 26 (.rd 27 (.one 28 .done))))))))))))))))))))))))))))) (by kernel_rfl) (by kernel_rfl) (by kernel_rfl) (by kernel_rfl) (by intro c b d v u h; cases d <;> exact h) ?_
                have kd0 : Keep NoB V V.drew := (Keep.refl NoB V).drew
                have HKw0 := Lib.hid (HDV.out.hk.trans kd0)
                have HS0 := Lib.hid (ks3 ⟨x3, x4, x5⟩ kd0)
                have HT0 := Lib.hid (HT.out.keep0 kd0)
                have HR0 := Lib.hid (HR.out.keep0 kd0)
                have HB0 := Lib.hid (blk_keep HbV.out kd0 (fun h => h))
                clear x0 x1 x2 x3 x4 x5 x6 xl kd0
                first
                  | refine pl_get (i := 0) rfl rfl HS0.out rfl (fun u hu => by (try dsimp only at hu); go_simp; rfl) (by simp only [List.setIfInBounds_toArray, List.set_cons_succ, List.set_cons_zero]; rfl) ?_
                  | refine pl_skip (i := 0) rfl rfl HS0.out rfl (by simp only [List.setIfInBounds_toArray, List.set_cons_succ, List.set_cons_zero]; rfl) ?_
                first
                  | refine pl_get (i := 1) rfl rfl HS0.out rfl (fun u hu => by (try dsimp only at hu); go_simp; rfl) (by simp only [List.setIfInBounds_toArray, List.set_cons_succ, List.set_cons_zero]; rfl) ?_
                  | refine pl_skip (i := 1) rfl rfl HS0.out rfl (by simp only [List.setIfInBounds_toArray, List.set_cons_succ, List.set_cons_zero]; rfl) ?_
                first
                  | refine pl_get (i := 2) rfl rfl HS0.out rfl (fun u hu => by (try dsimp only at hu); go_simp; rfl) (by simp only [List.setIfInBounds_toArray, List.set_cons_succ, List.set_cons_zero]; rfl) ?_
                  | refine pl_skip (i := 2) rfl rfl HS0.out rfl (by simp only [List.setIfInBounds_toArray, List.set_cons_succ, List.set_cons_zero]; rfl) ?_
                first
                  | refine pl_get (i := 3) rfl rfl HS0.out rfl (fun u hu => by (try dsimp only at hu); go_simp; rfl) (by simp only [List.setIfInBounds_toArray, List.set_cons_succ, List.set_cons_zero]; rfl) ?_
                  | refine pl_skip (i := 3) rfl rfl HS0.out rfl (by simp only [List.setIfInBounds_toArray, List.set_cons_succ, List.set_cons_zero]; rfl) ?_
                first
                  | refine pl_get (i := 4) rfl rfl HS0.out rfl (fun u hu => by (try dsimp only at hu); go_simp; rfl) (by simp only [List.setIfInBounds_toArray, List.set_cons_succ, List.set_cons_zero]; rfl) ?_
                  | refine pl_skip (i := 4) rfl rfl HS0.out rfl (by simp only [List.setIfInBounds_toArray, List.set_cons_succ, List.set_cons_zero]; rfl) ?_
                first
                  | refine pl_get (i := 5) rfl rfl HS0.out rfl (fun u hu => by (try dsimp only at hu); go_simp; rfl) (by simp only [List.setIfInBounds_toArray, List.set_cons_succ, List.set_cons_zero]; rfl) ?_
                  | refine pl_skip (i := 5) rfl rfl HS0.out rfl (by simp only [List.setIfInBounds_toArray, List.set_cons_succ, List.set_cons_zero]; rfl) ?_
                first
                  | refine pl_get (i := 6) rfl rfl HS0.out rfl (fun u hu => by (try dsimp only at hu); go_simp; rfl) (by simp only [List.setIfInBounds_toArray, List.set_cons_succ, List.set_cons_zero]; rfl) ?_
                  | refine pl_skip (i := 6) rfl rfl HS0.out rfl (by simp only [List.setIfInBounds_toArray, List.set_cons_succ, List.set_cons_zero]; rfl) ?_
                first
                  | refine pl_get (i := 8) rfl rfl HS0.out rfl (fun u hu => by (try dsimp only at hu); go_simp; rfl) (by simp only [List.setIfInBounds_toArray, List.set_cons_succ, List.set_cons_zero]; rfl) ?_
                  | refine pl_skip (i := 8) rfl rfl HS0.out rfl (by simp only [List.setIfInBounds_toArray, List.set_cons_succ, List.set_cons_zero]; rfl) ?_
                first
                  | refine pl_get (i := 9) rfl rfl HS0.out rfl (fun u hu => by (try dsimp only at hu); go_simp; rfl) (by simp only [List.setIfInBounds_toArray, List.set_cons_succ, List.set_cons_zero]; rfl) ?_
                  | refine pl_skip (i := 9) rfl rfl HS0.out rfl (by simp only [List.setIfInBounds_toArray, List.set_cons_succ, List.set_cons_zero]; rfl) ?_
                first
                  | refine pl_get (i := 10) rfl rfl HS0.out rfl (fun u hu => by (try dsimp only at hu); go_simp; rfl) (by simp only [List.setIfInBounds_toArray, List.set_cons_succ, List.set_cons_zero]; rfl) ?_
                  | refine pl_skip (i := 10) rfl rfl HS0.out rfl (by simp only [List.setIfInBounds_toArray, List.set_cons_succ, List.set_cons_zero]; rfl) ?_
                first
                  | refine pl_get (i := 11) rfl rfl HS0.out rfl (fun u hu => by (try dsimp only at hu); go_simp; rfl) (by simp only [List.setIfInBounds_toArray, List.set_cons_succ, List.set_cons_zero]; rfl) ?_
                  | refine pl_skip (i := 11) rfl rfl HS0.out rfl (by simp only [List.setIfInBounds_toArray, List.set_cons_succ, List.set_cons_zero]; rfl) ?_
                first
                  | refine pl_get (i := 12) rfl rfl HS0.out rfl (fun u hu => by (try dsimp only at hu); go_simp; rfl) (by simp only [List.setIfInBounds_toArray, List.set_cons_succ, List.set_cons_zero]; rfl) ?_
                  | refine pl_skip (i := 12) rfl rfl HS0.out rfl (by simp only [List.setIfInBounds_toArray, List.set_cons_succ, List.set_cons_zero]; rfl) ?_
                first
                  | refine pl_get (i := 13) rfl rfl HS0.out rfl (fun u hu => by (try dsimp only at hu); go_simp; rfl) (by simp only [List.setIfInBounds_toArray, List.set_cons_succ, List.set_cons_zero]; rfl) ?_
                  | refine pl_skip (i := 13) rfl rfl HS0.out rfl (by simp only [List.setIfInBounds_toArray, List.set_cons_succ, List.set_cons_zero]; rfl) ?_
                first
                  | refine pl_get (i := 14) rfl rfl HS0.out rfl (fun u hu => by (try dsimp only at hu); go_simp; rfl) (by simp only [List.setIfInBounds_toArray, List.set_cons_succ, List.set_cons_zero]; rfl) ?_
                  | refine pl_skip (i := 14) rfl rfl HS0.out rfl (by simp only [List.setIfInBounds_toArray, List.set_cons_succ, List.set_cons_zero]; rfl) ?_
                refine pl_one (i := 7) rfl ?_
                go_wp2_with ((go_at_call 23; refine (HC1.out _ HT0.out).mono ?_; rintro _ w4 ⟨rfl, T4, k4⟩))
                have hso : ¬ ((Value.slice na N.length ncap).ownBlock = some ob ∨ x.v.ownBlock = some ob) := fun e => e.elim (fun e => HT0.out.row.ne HB0.out (by decide) ob e rfl) (fun e => (HT0.out.each x (List.mem_of_getElem? Hx.out)).1.ne HB0.out (by decide) ob e rfl)
                have HKw4 := Lib.hid (HKw0.out.trans' k4 (fun q hq e => e.elim (fun e => by have := HT0.out.row.fresh q e; omega) (fun e => by have := (HT0.out.each x (List.mem_of_getElem? Hx.out)).1.fresh q e; omega)))
                have HS4 := Lib.hid (s3k HS0.out k4 hso)
                have HR4 := Lib.hid (HR0.out.turn HT0.out (List.mem_of_getElem? Hx.out) k4)
                have HB4 := Lib.hid (blk_keep HB0.out k4 hso)
                have HT4 := Lib.hid T4
                clear k4 T4 hso
                refine pl_next (fun _ => HS4.out) ?_
                refine pl_one (i := 15) rfl ?_
                go_wp2_with ((go_at_call 24; refine (HC2.out _ HR4.out HKw4.out.size).mono ?_; rintro _ w5 ⟨rfl, R5, k5⟩))

                have hsr : ¬ ((Value.slice ra (N.map HE.p).length rcap).ownBlock = some ob) := fun e => HR4.out.own.ne HB4.out (by decide) ob e rfl
                have HD5 := Lib.hid (show HS w w5 nb rb room N' (k + 1) from ⟨⟨_, _, _, _, sent, HT4.out.rown HR4.out k5, R5, by omega, by omega⟩, by have := HDV.out.len; have := HN'l.out; omega, HKw4.out.trans' k5 (fun q hq e => by have := HR4.out.own.fresh q e; omega)⟩)
                have HS5 := Lib.hid (s3k HS4.out k5 hsr)
                clear k5 R5 hsr
                refine pl_next (fun _ => HS5.out) ?_
                first
                  | refine pl_get (i := 16) rfl rfl HS5.out rfl (fun u hu => by (try dsimp only at hu); go_simp; rfl) (by simp only [List.setIfInBounds_toArray, List.set_cons_succ, List.set_cons_zero]; rfl) ?_
                  | refine pl_skip (i := 16) rfl rfl HS5.out rfl (by simp only [List.setIfInBounds_toArray, List.set_cons_succ, List.set_cons_zero]; rfl) ?_
                first
                  | refine pl_get (i := 17) rfl rfl HS5.out rfl (fun u hu => by (try dsimp only at hu); go_simp; rfl) (by simp only [List.setIfInBounds_toArray, List.set_cons_succ, List.set_cons_zero]; rfl) ?_
                  | refine pl_skip (i := 17) rfl rfl HS5.out rfl (by simp only [List.setIfInBounds_toArray, List.set_cons_succ, List.set_cons_zero]; rfl) ?_
                first
                  | refine pl_get (i := 18) rfl rfl HS5.out rfl (fun u hu => by (try dsimp only at hu); go_simp; rfl) (by simp only [List.setIfInBounds_toArray, List.set_cons_succ, List.set_cons_zero]; rfl) ?_
                  | refine pl_skip (i := 18) rfl rfl HS5.out rfl (by simp only [List.setIfInBounds_toArray, List.set_cons_succ, List.set_cons_zero]; rfl) ?_
                first
                  | refine pl_get (i := 19) rfl rfl HS5.out rfl (fun u hu => by (try dsimp only at hu); go_simp; rfl) (by simp only [List.setIfInBounds_toArray, List.set_cons_succ, List.set_cons_zero]; rfl) ?_
                  | refine pl_skip (i := 19) rfl rfl HS5.out rfl (by simp only [List.setIfInBounds_toArray, List.set_cons_succ, List.set_cons_zero]; rfl) ?_
                first
                  | refine pl_get (i := 20) rfl rfl HS5.out rfl (fun u hu => by (try dsimp only at hu); go_simp; rfl) (by simp only [List.setIfInBounds_toArray, List.set_cons_succ, List.set_cons_zero]; rfl) ?_
                  | refine pl_skip (i := 20) rfl rfl HS5.out rfl (by simp only [List.setIfInBounds_toArray, List.set_cons_succ, List.set_cons_zero]; rfl) ?_
                first
                  | refine pl_get (i := 21) rfl rfl HS5.out rfl (fun u hu => by (try dsimp only at hu); go_simp; rfl) (by simp only [List.setIfInBounds_toArray, List.set_cons_succ, List.set_cons_zero]; rfl) ?_
                  | refine pl_skip (i := 21) rfl rfl HS5.out rfl (by simp only [List.setIfInBounds_toArray, List.set_cons_succ, List.set_cons_zero]; rfl) ?_
                first
                  | refine pl_get (i := 22) rfl rfl HS5.out rfl (fun u hu => by (try dsimp only at hu); go_simp; rfl) (by simp only [List.setIfInBounds_toArray, List.set_cons_succ, List.set_cons_zero]; rfl) ?_
                  | refine pl_skip (i := 22) rfl rfl HS5.out rfl (by simp only [List.setIfInBounds_toArray, List.set_cons_succ, List.set_cons_zero]; rfl) ?_
                first
                  | refine pl_get (i := 23) rfl rfl HS5.out rfl (fun u hu => by (try dsimp only at hu); go_simp; rfl) (by simp only [List.setIfInBounds_toArray, List.set_cons_succ, List.set_cons_zero]; rfl) ?_
                  | refine pl_skip (i := 23) rfl rfl HS5.out rfl (by simp only [List.setIfInBounds_toArray, List.set_cons_succ, List.set_cons_zero]; rfl) ?_
                first
                  | refine pl_get (i := 24) rfl rfl HS5.out rfl (fun u hu => by (try dsimp only at hu); go_simp; rfl) (by simp only [List.setIfInBounds_toArray, List.set_cons_succ, List.set_cons_zero]; rfl) ?_
                  | refine pl_skip (i := 24) rfl rfl HS5.out rfl (by simp only [List.setIfInBounds_toArray, List.set_cons_succ, List.set_cons_zero]; rfl) ?_
                refine pl_one (i := 25) rfl ?_
                go_wp2_with ((go_at_call 23; refine (nturn_any (n : Int) (m : Int) (cu.toNat : Int) _).mono ?_; rintro _ w6 ⟨rfl, rfl⟩))
                have HD6 := Lib.hid HD5.out
                have HS6 := Lib.hid HS5.out
                refine pl_next (fun _ => HS6.out) ?_
                first
                  | refine pl_get (i := 26) rfl rfl HS6.out rfl (fun u hu => by (try dsimp only at hu); go_simp; rfl) (by simp only [List.setIfInBounds_toArray, List.set_cons_succ, List.set_cons_zero]; rfl) ?_
                  | refine pl_skip (i := 26) rfl rfl HS6.out rfl (by simp only [List.setIfInBounds_toArray, List.set_cons_succ, List.set_cons_zero]; rfl) ?_
                first
                  | refine pl_get (i := 27) rfl rfl HS6.out rfl (fun u hu => by (try dsimp only at hu); go_simp; rfl) (by simp only [List.setIfInBounds_toArray, List.set_cons_succ, List.set_cons_zero]; rfl) ?_
                  | refine pl_skip (i := 27) rfl rfl HS6.out rfl (by simp only [List.setIfInBounds_toArray, List.set_cons_succ, List.set_cons_zero]; rfl) ?_
                refine pl_one (i := 28) rfl ?_
                go_wp2_with (fail)
                refine pl_next (fun _ => HS6.out) ?_
                refine pl_done ?_
                go_wp2_with fail
                go_meet
                exact ⟨rfl, rfl, _, HD6.out⟩
            · have Hout := Lib.hid (show i < 0 ∨ (N.length : Int) ≤ i from by omega)
              have Houtp := Lib.hid (show ¬ (0 ≤ i ∧ i < ((N.map HE.p).length : Int)) from by rw [List.length_map]; exact hin)
              clear hin
              as_aux_lemma =>
              go_wp2_with fail
              refine wp_region_pl (fun u => u.cell? ⟨ob, 3, none⟩ = some (.int .i64 i) ∧ u.cell? ⟨ob, 4, none⟩ = some (.int .i64 j) ∧ u.cell? ⟨ob, 5, none⟩ = some (.int .u8 (cu.toNat : Int))) [] (.rd 0 (.rd 1 (.rd 2 (.rd 3 (.rd 4 (.rd 5 (.rd 6 (.rd 8 (.rd 9 (.rd 10 (.rd 11 (.rd 12 (.rd 13 (.rd 14 (.one 7 (.one 15 (.rd 16 (.rd 17 (.rd 18 (.rd 19 (.rd 20 (.rd 21 (.rd 22 (.rd 23 (.rd 24 (.one 25 (.rd 26 (.rd 27 (.one 28 .done))))))))))))))))))))))))))))) (by kernel_rfl) (by kernel_rfl) (by kernel_rfl) (by kernel_rfl) (by intro c b d v u h; cases d <;> exact h) ?_
              have kd0 : Keep NoB V V.drew := (Keep.refl NoB V).drew
              have HKw0 := Lib.hid (HDV.out.hk.trans kd0)
              have HS0 := Lib.hid (ks3 ⟨x3, x4, x5⟩ kd0)
              have HT0 := Lib.hid (HT.out.keep0 kd0)
              have HR0 := Lib.hid (HR.out.keep0 kd0)
              have HB0 := Lib.hid (blk_keep HbV.out kd0 (fun h => h))
              clear x0 x1 x2 x3 x4 x5 x6 xl kd0
              first
                | refine pl_get (i := 0) rfl rfl HS0.out rfl (fun u hu => by (try dsimp only at hu); go_simp; rfl) (by simp only [List.setIfInBounds_toArray, List.set_cons_succ, List.set_cons_zero]; rfl) ?_
                | refine pl_skip (i := 0) rfl rfl HS0.out rfl (by simp only [List.setIfInBounds_toArray, List.set_cons_succ, List.set_cons_zero]; rfl) ?_
              first
                | refine pl_get (i := 1) rfl rfl HS0.out rfl (fun u hu => by (try dsimp only at hu); go_simp; rfl) (by simp only [List.setIfInBounds_toArray, List.set_cons_succ, List.set_cons_zero]; rfl) ?_
                | refine pl_skip (i := 1) rfl rfl HS0.out rfl (by simp only [List.setIfInBounds_toArray, List.set_cons_succ, List.set_cons_zero]; rfl) ?_
              first
                | refine pl_get (i := 2) rfl rfl HS0.out rfl (fun u hu => by (try dsimp only at hu); go_simp; rfl) (by simp only [List.setIfInBounds_toArray, List.set_cons_succ, List.set_cons_zero]; rfl) ?_
                | refine pl_skip (i := 2) rfl rfl HS0.out rfl (by simp only [List.setIfInBounds_toArray, List.set_cons_succ, List.set_cons_zero]; rfl) ?_
              first
                | refine pl_get (i := 3) rfl rfl HS0.out rfl (fun u hu => by (try dsimp only at hu); go_simp; rfl) (by simp only [List.setIfInBounds_toArray, List.set_cons_succ, List.set_cons_zero]; rfl) ?_
                | refine pl_skip (i := 3) rfl rfl HS0.out rfl (by simp only [List.setIfInBounds_toArray, List.set_cons_succ, List.set_cons_zero]; rfl) ?_
              first
                | refine pl_get (i := 4) rfl rfl HS0.out rfl (fun u hu => by (try dsimp only at hu); go_simp; rfl) (by simp only [List.setIfInBounds_toArray, List.set_cons_succ, List.set_cons_zero]; rfl) ?_
                | refine pl_skip (i := 4) rfl rfl HS0.out rfl (by simp only [List.setIfInBounds_toArray, List.set_cons_succ, List.set_cons_zero]; rfl) ?_
              first
                | refine pl_get (i := 5) rfl rfl HS0.out rfl (fun u hu => by (try dsimp only at hu); go_simp; rfl) (by simp only [List.setIfInBounds_toArray, List.set_cons_succ, List.set_cons_zero]; rfl) ?_
                | refine pl_skip (i := 5) rfl rfl HS0.out rfl (by simp only [List.setIfInBounds_toArray, List.set_cons_succ, List.set_cons_zero]; rfl) ?_
              first
                | refine pl_get (i := 6) rfl rfl HS0.out rfl (fun u hu => by (try dsimp only at hu); go_simp; rfl) (by simp only [List.setIfInBounds_toArray, List.set_cons_succ, List.set_cons_zero]; rfl) ?_
                | refine pl_skip (i := 6) rfl rfl HS0.out rfl (by simp only [List.setIfInBounds_toArray, List.set_cons_succ, List.set_cons_zero]; rfl) ?_
              first
                | refine pl_get (i := 8) rfl rfl HS0.out rfl (fun u hu => by (try dsimp only at hu); go_simp; rfl) (by simp only [List.setIfInBounds_toArray, List.set_cons_succ, List.set_cons_zero]; rfl) ?_
                | refine pl_skip (i := 8) rfl rfl HS0.out rfl (by simp only [List.setIfInBounds_toArray, List.set_cons_succ, List.set_cons_zero]; rfl) ?_
              first
                | refine pl_get (i := 9) rfl rfl HS0.out rfl (fun u hu => by (try dsimp only at hu); go_simp; rfl) (by simp only [List.setIfInBounds_toArray, List.set_cons_succ, List.set_cons_zero]; rfl) ?_
                | refine pl_skip (i := 9) rfl rfl HS0.out rfl (by simp only [List.setIfInBounds_toArray, List.set_cons_succ, List.set_cons_zero]; rfl) ?_
              first
                | refine pl_get (i := 10) rfl rfl HS0.out rfl (fun u hu => by (try dsimp only at hu); go_simp; rfl) (by simp only [List.setIfInBounds_toArray, List.set_cons_succ, List.set_cons_zero]; rfl) ?_
                | refine pl_skip (i := 10) rfl rfl HS0.out rfl (by simp only [List.setIfInBounds_toArray, List.set_cons_succ, List.set_cons_zero]; rfl) ?_
              first
                | refine pl_get (i := 11) rfl rfl HS0.out rfl (fun u hu => by (try dsimp only at hu); go_simp; rfl) (by simp only [List.setIfInBounds_toArray, List.set_cons_succ, List.set_cons_zero]; rfl) ?_
                | refine pl_skip (i := 11) rfl rfl HS0.out rfl (by simp only [List.setIfInBounds_toArray, List.set_cons_succ, List.set_cons_zero]; rfl) ?_
              first
                | refine pl_get (i := 12) rfl rfl HS0.out rfl (fun u hu => by (try dsimp only at hu); go_simp; rfl) (by simp only [List.setIfInBounds_toArray, List.set_cons_succ, List.set_cons_zero]; rfl) ?_
                | refine pl_skip (i := 12) rfl rfl HS0.out rfl (by simp only [List.setIfInBounds_toArray, List.set_cons_succ, List.set_cons_zero]; rfl) ?_
              first
                | refine pl_get (i := 13) rfl rfl HS0.out rfl (fun u hu => by (try dsimp only at hu); go_simp; rfl) (by simp only [List.setIfInBounds_toArray, List.set_cons_succ, List.set_cons_zero]; rfl) ?_
                | refine pl_skip (i := 13) rfl rfl HS0.out rfl (by simp only [List.setIfInBounds_toArray, List.set_cons_succ, List.set_cons_zero]; rfl) ?_
              first
                | refine pl_get (i := 14) rfl rfl HS0.out rfl (fun u hu => by (try dsimp only at hu); go_simp; rfl) (by simp only [List.setIfInBounds_toArray, List.set_cons_succ, List.set_cons_zero]; rfl) ?_
                | refine pl_skip (i := 14) rfl rfl HS0.out rfl (by simp only [List.setIfInBounds_toArray, List.set_cons_succ, List.set_cons_zero]; rfl) ?_
              refine pl_one (i := 7) rfl ?_
              go_wp2_with ((go_at_call 23; refine (turn_out w.heap.size nb na ncap room sent N i j cu _ HT0.out (by have h9 := Hout.out; omega)).mono ?_; rintro _ w4 ⟨rfl, k4⟩))
              have HKw4 := Lib.hid (HKw0.out.trans k4)
              have HS4 := Lib.hid (s3k HS0.out k4 (fun h => h))
              have HT4 := Lib.hid (HT0.out.keep0 k4)
              have HR4 := Lib.hid (HR0.out.keep0 k4)
              clear k4
              refine pl_next (fun _ => HS4.out) ?_
              refine pl_one (i := 15) rfl ?_
              go_wp2_with ((go_at_call 24; refine (rturn_out rb w.heap.size ra rcap room sent (N.map HE.p) i j (cu.toNat : Int) _ HR4.out (by rw [List.length_map]; have h9 := Hout.out; omega)).mono ?_; rintro _ w5 ⟨rfl, rfl⟩))
              have HD5 := Lib.hid (show HS w w5 nb rb room N (k + 1) from ⟨⟨_, _, _, _, sent, HT4.out, HR4.out, by omega, by omega⟩, by have := HDV.out.len; omega, HKw4.out⟩)
              have HS5 := Lib.hid HS4.out
              refine pl_next (fun _ => HS5.out) ?_
              first
                | refine pl_get (i := 16) rfl rfl HS5.out rfl (fun u hu => by (try dsimp only at hu); go_simp; rfl) (by simp only [List.setIfInBounds_toArray, List.set_cons_succ, List.set_cons_zero]; rfl) ?_
                | refine pl_skip (i := 16) rfl rfl HS5.out rfl (by simp only [List.setIfInBounds_toArray, List.set_cons_succ, List.set_cons_zero]; rfl) ?_
              first
                | refine pl_get (i := 17) rfl rfl HS5.out rfl (fun u hu => by (try dsimp only at hu); go_simp; rfl) (by simp only [List.setIfInBounds_toArray, List.set_cons_succ, List.set_cons_zero]; rfl) ?_
                | refine pl_skip (i := 17) rfl rfl HS5.out rfl (by simp only [List.setIfInBounds_toArray, List.set_cons_succ, List.set_cons_zero]; rfl) ?_
              first
                | refine pl_get (i := 18) rfl rfl HS5.out rfl (fun u hu => by (try dsimp only at hu); go_simp; rfl) (by simp only [List.setIfInBounds_toArray, List.set_cons_succ, List.set_cons_zero]; rfl) ?_
                | refine pl_skip (i := 18) rfl rfl HS5.out rfl (by simp only [List.setIfInBounds_toArray, List.set_cons_succ, List.set_cons_zero]; rfl) ?_
              first
                | refine pl_get (i := 19) rfl rfl HS5.out rfl (fun u hu => by (try dsimp only at hu); go_simp; rfl) (by simp only [List.setIfInBounds_toArray, List.set_cons_succ, List.set_cons_zero]; rfl) ?_
                | refine pl_skip (i := 19) rfl rfl HS5.out rfl (by simp only [List.setIfInBounds_toArray, List.set_cons_succ, List.set_cons_zero]; rfl) ?_
              first
                | refine pl_get (i := 20) rfl rfl HS5.out rfl (fun u hu => by (try dsimp only at hu); go_simp; rfl) (by simp only [List.setIfInBounds_toArray, List.set_cons_succ, List.set_cons_zero]; rfl) ?_
                | refine pl_skip (i := 20) rfl rfl HS5.out rfl (by simp only [List.setIfInBounds_toArray, List.set_cons_succ, List.set_cons_zero]; rfl) ?_
              first
                | refine pl_get (i := 21) rfl rfl HS5.out rfl (fun u hu => by (try dsimp only at hu); go_simp; rfl) (by simp only [List.setIfInBounds_toArray, List.set_cons_succ, List.set_cons_zero]; rfl) ?_
                | refine pl_skip (i := 21) rfl rfl HS5.out rfl (by simp only [List.setIfInBounds_toArray, List.set_cons_succ, List.set_cons_zero]; rfl) ?_
              first
                | refine pl_get (i := 22) rfl rfl HS5.out rfl (fun u hu => by (try dsimp only at hu); go_simp; rfl) (by simp only [List.setIfInBounds_toArray, List.set_cons_succ, List.set_cons_zero]; rfl) ?_
                | refine pl_skip (i := 22) rfl rfl HS5.out rfl (by simp only [List.setIfInBounds_toArray, List.set_cons_succ, List.set_cons_zero]; rfl) ?_
              first
                | refine pl_get (i := 23) rfl rfl HS5.out rfl (fun u hu => by (try dsimp only at hu); go_simp; rfl) (by simp only [List.setIfInBounds_toArray, List.set_cons_succ, List.set_cons_zero]; rfl) ?_
                | refine pl_skip (i := 23) rfl rfl HS5.out rfl (by simp only [List.setIfInBounds_toArray, List.set_cons_succ, List.set_cons_zero]; rfl) ?_
              first
                | refine pl_get (i := 24) rfl rfl HS5.out rfl (fun u hu => by (try dsimp only at hu); go_simp; rfl) (by simp only [List.setIfInBounds_toArray, List.set_cons_succ, List.set_cons_zero]; rfl) ?_
                | refine pl_skip (i := 24) rfl rfl HS5.out rfl (by simp only [List.setIfInBounds_toArray, List.set_cons_succ, List.set_cons_zero]; rfl) ?_
              refine pl_one (i := 25) rfl ?_
              go_wp2_with ((go_at_call 23; refine (nturn_any i j (cu.toNat : Int) _).mono ?_; rintro _ w6 ⟨rfl, rfl⟩))
              have HD6 := Lib.hid HD5.out
              have HS6 := Lib.hid HS5.out
              refine pl_next (fun _ => HS6.out) ?_
              first
                | refine pl_get (i := 26) rfl rfl HS6.out rfl (fun u hu => by (try dsimp only at hu); go_simp; rfl) (by simp only [List.setIfInBounds_toArray, List.set_cons_succ, List.set_cons_zero]; rfl) ?_
                | refine pl_skip (i := 26) rfl rfl HS6.out rfl (by simp only [List.setIfInBounds_toArray, List.set_cons_succ, List.set_cons_zero]; rfl) ?_
              first
                | refine pl_get (i := 27) rfl rfl HS6.out rfl (fun u hu => by (try dsimp only at hu); go_simp; rfl) (by simp only [List.setIfInBounds_toArray, List.set_cons_succ, List.set_cons_zero]; rfl) ?_
                | refine pl_skip (i := 27) rfl rfl HS6.out rfl (by simp only [List.setIfInBounds_toArray, List.set_cons_succ, List.set_cons_zero]; rfl) ?_
              refine pl_one (i := 28) rfl ?_
              go_wp2_with (fail)
              refine pl_next (fun _ => HS6.out) ?_
              refine pl_done ?_
              go_wp2_with fail
              go_meet
              exact ⟨rfl, rfl, _, HD6.out⟩
          · -- Drop
            obtain ⟨N', hN'⟩ : ∃ q, N.filter (keepP i) = q := ⟨_, rfl⟩
            have hNp : leftR i (N.map HE.p) = N'.map HE.p := by rw [← hN']; unfold leftR keepP; rw [List.filter_map]; rfl
            have Hle := Lib.hid (show N'.length ≤ N.length from by rw [← hN']; exact List.length_filter_le _ _)
            obtain ⟨q, hq⟩ : ∃ q, (N.length : Int) - (N'.length : Int) = q := ⟨_, rfl⟩
            have HC1 := Lib.hid (fun (u : World) (T : Net u w.heap.size nb na ncap room sent N) (h : w.heap.size ≤ u.heap.size) => drop_any w.heap.size nb na ncap room sent N i u T h (by omega) q (by rw [hN']; exact hq))
            have HC2 := Lib.hid (fun (u : World) (R : RN u w.heap.size rb ra rcap room sent (N.map HE.p)) (h : w.heap.size ≤ u.heap.size) => rdrop_any rb w.heap.size ra rcap room sent (N.map HE.p) i u R h (by rw [List.length_map]; omega) (N'.map HE.p) hNp)
            rw [hN'] at HC1
            simp only [List.length_map, hq] at HC2
            clear hN' hNp hq
            as_aux_lemma =>
            go_wp2_with fail
            refine wp_region_pl (fun u => u.cell? ⟨ob, 3, none⟩ = some (.int .i64 i) ∧ u.cell? ⟨ob, 4, none⟩ = some (.int .i64 j) ∧ u.cell? ⟨ob, 5, none⟩ = some (.int .u8 c)) [] (.rd 0 (.rd 1 (.rd 2 (.rd 4 (.rd 5 (.rd 6 (.one 3 (.one 7 (.rd 8 (.rd 9 (.rd 10 (.rd 11 (.rd 12 (.one 13 (.rd 14 (.rd 15 (.one 16 .done))))))))))))))))) (by kernel_rfl) (by kernel_rfl) (by kernel_rfl) (by kernel_rfl) (by intro c b d v u h; cases d <;> exact h) ?_
            have kd0 : Keep NoB V V.drew := (Keep.refl NoB V).drew
            have HKw0 := Lib.hid (HDV.out.hk.trans kd0)
            have HS0 := Lib.hid (ks3 ⟨x3, x4, x5⟩ kd0)
            have HT0 := Lib.hid (HT.out.keep0 kd0)
            have HR0 := Lib.hid (HR.out.keep0 kd0)
            have HB0 := Lib.hid (blk_keep HbV.out kd0 (fun h => h))
            clear x0 x1 x2 x3 x4 x5 x6 xl kd0
            first
              | refine pl_get (i := 0) rfl rfl HS0.out rfl (fun u hu => by (try dsimp only at hu); go_simp; rfl) (by simp only [List.setIfInBounds_toArray, List.set_cons_succ, List.set_cons_zero]; rfl) ?_
              | refine pl_skip (i := 0) rfl rfl HS0.out rfl (by simp only [List.setIfInBounds_toArray, List.set_cons_succ, List.set_cons_zero]; rfl) ?_
            first
              | refine pl_get (i := 1) rfl rfl HS0.out rfl (fun u hu => by (try dsimp only at hu); go_simp; rfl) (by simp only [List.setIfInBounds_toArray, List.set_cons_succ, List.set_cons_zero]; rfl) ?_
              | refine pl_skip (i := 1) rfl rfl HS0.out rfl (by simp only [List.setIfInBounds_toArray, List.set_cons_succ, List.set_cons_zero]; rfl) ?_
            first
              | refine pl_get (i := 2) rfl rfl HS0.out rfl (fun u hu => by (try dsimp only at hu); go_simp; rfl) (by simp only [List.setIfInBounds_toArray, List.set_cons_succ, List.set_cons_zero]; rfl) ?_
              | refine pl_skip (i := 2) rfl rfl HS0.out rfl (by simp only [List.setIfInBounds_toArray, List.set_cons_succ, List.set_cons_zero]; rfl) ?_
            first
              | refine pl_get (i := 4) rfl rfl HS0.out rfl (fun u hu => by (try dsimp only at hu); go_simp; rfl) (by simp only [List.setIfInBounds_toArray, List.set_cons_succ, List.set_cons_zero]; rfl) ?_
              | refine pl_skip (i := 4) rfl rfl HS0.out rfl (by simp only [List.setIfInBounds_toArray, List.set_cons_succ, List.set_cons_zero]; rfl) ?_
            first
              | refine pl_get (i := 5) rfl rfl HS0.out rfl (fun u hu => by (try dsimp only at hu); go_simp; rfl) (by simp only [List.setIfInBounds_toArray, List.set_cons_succ, List.set_cons_zero]; rfl) ?_
              | refine pl_skip (i := 5) rfl rfl HS0.out rfl (by simp only [List.setIfInBounds_toArray, List.set_cons_succ, List.set_cons_zero]; rfl) ?_
            first
              | refine pl_get (i := 6) rfl rfl HS0.out rfl (fun u hu => by (try dsimp only at hu); go_simp; rfl) (by simp only [List.setIfInBounds_toArray, List.set_cons_succ, List.set_cons_zero]; rfl) ?_
              | refine pl_skip (i := 6) rfl rfl HS0.out rfl (by simp only [List.setIfInBounds_toArray, List.set_cons_succ, List.set_cons_zero]; rfl) ?_
            refine pl_one (i := 3) rfl ?_
            go_wp2_with ((go_at_call 10; refine (HC1.out _ HT0.out HKw0.out.size).mono ?_; rintro _ w4 ⟨a4, c4, rfl, T4, k4⟩))
            have HKw4 := Lib.hid (HKw0.out.trans' k4 HPB.out.n)
            have HS4 := Lib.hid (s3k HS0.out k4 (fun e => hnob e))
            have HR4 := Lib.hid (HR0.out.oneN HT0.out k4 HPB.out.ne)

            have HT4 := Lib.hid T4
            clear k4 T4
            refine pl_next (fun _ => HS4.out) ?_
            refine pl_one (i := 7) rfl ?_
            go_wp2_with ((go_at_call 25; refine (HC2.out _ HR4.out HKw4.out.size).mono ?_; rintro _ w5 ⟨rfl, ⟨a5, c5, R5⟩, k5⟩))
            have HD5 := Lib.hid (show HS w w5 nb rb room N' (k + 1) from ⟨⟨_, _, _, _, sent, HT4.out.one HR4.out k5 HPB.out.ne, R5, by omega, by omega⟩, by have := HDV.out.len; have := Hle.out; omega, HKw4.out.trans' k5 HPB.out.r⟩)
            have HS5 := Lib.hid (s3k HS4.out k5 (fun e => hrob e))
            clear k5 R5
            refine pl_next (fun _ => HS5.out) ?_
            first
              | refine pl_get (i := 8) rfl rfl HS5.out rfl (fun u hu => by (try dsimp only at hu); go_simp; rfl) (by simp only [List.setIfInBounds_toArray, List.set_cons_succ, List.set_cons_zero]; rfl) ?_
              | refine pl_skip (i := 8) rfl rfl HS5.out rfl (by simp only [List.setIfInBounds_toArray, List.set_cons_succ, List.set_cons_zero]; rfl) ?_
            first
              | refine pl_get (i := 9) rfl rfl HS5.out rfl (fun u hu => by (try dsimp only at hu); go_simp; rfl) (by simp only [List.setIfInBounds_toArray, List.set_cons_succ, List.set_cons_zero]; rfl) ?_
              | refine pl_skip (i := 9) rfl rfl HS5.out rfl (by simp only [List.setIfInBounds_toArray, List.set_cons_succ, List.set_cons_zero]; rfl) ?_
            first
              | refine pl_get (i := 10) rfl rfl HS5.out rfl (fun u hu => by (try dsimp only at hu); go_simp; rfl) (by simp only [List.setIfInBounds_toArray, List.set_cons_succ, List.set_cons_zero]; rfl) ?_
              | refine pl_skip (i := 10) rfl rfl HS5.out rfl (by simp only [List.setIfInBounds_toArray, List.set_cons_succ, List.set_cons_zero]; rfl) ?_
            first
              | refine pl_get (i := 11) rfl rfl HS5.out rfl (fun u hu => by (try dsimp only at hu); go_simp; rfl) (by simp only [List.setIfInBounds_toArray, List.set_cons_succ, List.set_cons_zero]; rfl) ?_
              | refine pl_skip (i := 11) rfl rfl HS5.out rfl (by simp only [List.setIfInBounds_toArray, List.set_cons_succ, List.set_cons_zero]; rfl) ?_
            first
              | refine pl_get (i := 12) rfl rfl HS5.out rfl (fun u hu => by (try dsimp only at hu); go_simp; rfl) (by simp only [List.setIfInBounds_toArray, List.set_cons_succ, List.set_cons_zero]; rfl) ?_
              | refine pl_skip (i := 12) rfl rfl HS5.out rfl (by simp only [List.setIfInBounds_toArray, List.set_cons_succ, List.set_cons_zero]; rfl) ?_
            refine pl_one (i := 13) rfl ?_
            go_wp2_with ((go_at_call 10; refine (ndrop_any i _).mono ?_; rintro _ w6 ⟨rfl, k6⟩))
            have HD6 := Lib.hid (HD5.out.keep k6)
            have HS6 := Lib.hid (s3k HS5.out k6 (fun h => h))
            clear k6
            refine pl_next (fun _ => HS6.out) ?_
            first
              | refine pl_get (i := 14) rfl rfl HS6.out rfl (fun u hu => by (try dsimp only at hu); go_simp; rfl) (by simp only [List.setIfInBounds_toArray, List.set_cons_succ, List.set_cons_zero]; rfl) ?_
              | refine pl_skip (i := 14) rfl rfl HS6.out rfl (by simp only [List.setIfInBounds_toArray, List.set_cons_succ, List.set_cons_zero]; rfl) ?_
            first
              | refine pl_get (i := 15) rfl rfl HS6.out rfl (fun u hu => by (try dsimp only at hu); go_simp; rfl) (by simp only [List.setIfInBounds_toArray, List.set_cons_succ, List.set_cons_zero]; rfl) ?_
              | refine pl_skip (i := 15) rfl rfl HS6.out rfl (by simp only [List.setIfInBounds_toArray, List.set_cons_succ, List.set_cons_zero]; rfl) ?_
            refine pl_one (i := 16) rfl ?_
            go_wp2_with (fail)
            refine pl_next (fun _ => HS6.out) ?_
            refine pl_done ?_
            go_wp2_with fail
            go_meet
            exact ⟨rfl, rfl, _, HD6.out⟩
          · go_wp2_with fail
            go_meet
            exact ⟨rfl, rfl, N, HDV.out.later (Nat.le_succ k)⟩
        case rest =>
          obtain ⟨rfl, rfl, N', D⟩ := hcut
          obtain ⟨na, ncap, ra, rcap, sent, T, R, hs1, hs2⟩ := D.st
          have hlN : N'.length ≤ 201 := by have := D.len; omega
          have r0 := blk_cell R.blk 0
          have r2 := blk_cell R.blk 2
          simp at r0 r2
          have HQ := Lib.hid (show wc.cell? ⟨rb, 0, none⟩ = some (.slice ra N'.length rcap) ∧ wc.cell? ⟨rb, 2, none⟩ = some (.int .i64 sent) from ⟨r0, r2⟩)
          have HD := Lib.hid D
          have HT := Lib.hid T
          clear D T R r0 r2 hkd
          as_aux_lemma =>
          go_wp2_with fail
          refine wp_region_pl (fun u => u.cell? ⟨rb, 0, none⟩ = some (.slice ra N'.length rcap) ∧ u.cell? ⟨rb, 2, none⟩ = some (.int .i64 sent)) [] (.rd 0 (.rd 1 (.rd 2 (.rd 3 (.rd 5 (.rd 6 (.rd 7 (.rd 8 (.rd 9 (.one 4 (.rd 10 (.rd 11 (.rd 12 (.rd 13 (.rd 15 (.rd 16 (.rd 17 (.rd 18 (.one 14 (.rd 19 (.rd 20 .done))))))))))))))))))))) (by kernel_rfl) (by kernel_rfl) (by kernel_rfl) (by kernel_rfl) (by intro c b d v u h; cases d <;> exact h) ?_
          have kd0 : Keep NoB wc wc.drew := (Keep.refl NoB wc).drew
          have HD0 := Lib.hid (HD.out.keep kd0)
          have HT0 := Lib.hid (HT.out.keep0 kd0)
          have HS0 := Lib.hid (ks2 HQ.out kd0)
          clear kd0 HQ HD HT
          first
            | refine pl_get (i := 0) rfl rfl HS0.out rfl (fun u hu => by (try dsimp only at hu); go_simp; rfl) (by simp only [List.setIfInBounds_toArray, List.set_cons_succ, List.set_cons_zero]; rfl) ?_
            | refine pl_skip (i := 0) rfl rfl HS0.out rfl (by simp only [List.setIfInBounds_toArray, List.set_cons_succ, List.set_cons_zero]; rfl) ?_
          first
            | refine pl_get (i := 1) rfl rfl HS0.out rfl (fun u hu => by (try dsimp only at hu); go_simp; rfl) (by simp only [List.setIfInBounds_toArray, List.set_cons_succ, List.set_cons_zero]; rfl) ?_
            | refine pl_skip (i := 1) rfl rfl HS0.out rfl (by simp only [List.setIfInBounds_toArray, List.set_cons_succ, List.set_cons_zero]; rfl) ?_
          first
            | refine pl_get (i := 2) rfl rfl HS0.out rfl (fun u hu => by (try dsimp only at hu); go_simp; rfl) (by simp only [List.setIfInBounds_toArray, List.set_cons_succ, List.set_cons_zero]; rfl) ?_
            | refine pl_skip (i := 2) rfl rfl HS0.out rfl (by simp only [List.setIfInBounds_toArray, List.set_cons_succ, List.set_cons_zero]; rfl) ?_
          first
            | refine pl_get (i := 3) rfl rfl HS0.out rfl (fun u hu => by (try dsimp only at hu); go_simp; rfl) (by simp only [List.setIfInBounds_toArray, List.set_cons_succ, List.set_cons_zero]; rfl) ?_
            | refine pl_skip (i := 3) rfl rfl HS0.out rfl (by simp only [List.setIfInBounds_toArray, List.set_cons_succ, List.set_cons_zero]; rfl) ?_
          first
            | refine pl_get (i := 5) rfl rfl HS0.out rfl (fun u hu => by (try dsimp only at hu); go_simp; rfl) (by simp only [List.setIfInBounds_toArray, List.set_cons_succ, List.set_cons_zero]; rfl) ?_
            | refine pl_skip (i := 5) rfl rfl HS0.out rfl (by simp only [List.setIfInBounds_toArray, List.set_cons_succ, List.set_cons_zero]; rfl) ?_
          first
            | refine pl_get (i := 6) rfl rfl HS0.out rfl (fun u hu => by (try dsimp only at hu); go_simp; rfl) (by simp only [List.setIfInBounds_toArray, List.set_cons_succ, List.set_cons_zero]; rfl) ?_
            | refine pl_skip (i := 6) rfl rfl HS0.out rfl (by simp only [List.setIfInBounds_toArray, List.set_cons_succ, List.set_cons_zero]; rfl) ?_
          first
            | refine pl_get (i := 7) rfl rfl HS0.out rfl (fun u hu => by (try dsimp only at hu); go_simp; rfl) (by simp only [List.setIfInBounds_toArray, List.set_cons_succ, List.set_cons_zero]; rfl) ?_
            | refine pl_skip (i := 7) rfl rfl HS0.out rfl (by simp only [List.setIfInBounds_toArray, List.set_cons_succ, List.set_cons_zero]; rfl) ?_
          first
            | refine pl_get (i := 8) rfl rfl HS0.out rfl (fun u hu => by (try dsimp only at hu); go_simp; rfl) (by simp only [List.setIfInBounds_toArray, List.set_cons_succ, List.set_cons_zero]; rfl) ?_
            | refine pl_skip (i := 8) rfl rfl HS0.out rfl (by simp only [List.setIfInBounds_toArray, List.set_cons_succ, List.set_cons_zero]; rfl) ?_
          first
            | refine pl_get (i := 9) rfl rfl HS0.out rfl (fun u hu => by (try dsimp only at hu); go_simp; rfl) (by simp only [List.setIfInBounds_toArray, List.set_cons_succ, List.set_cons_zero]; rfl) ?_
            | refine pl_skip (i := 9) rfl rfl HS0.out rfl (by simp only [List.setIfInBounds_toArray, List.set_cons_succ, List.set_cons_zero]; rfl) ?_
          refine pl_one (i := 4) rfl ?_
          go_wp2_with ((go_at_call 12; refine (len_any w.heap.size nb na ncap room sent N' _ HT0.out).mono ?_; rintro _ w3 ⟨rfl, rfl⟩))
          refine pl_next (fun _ => HS0.out) ?_
          first
            | refine pl_get (i := 10) rfl rfl HS0.out rfl (fun u hu => by (try dsimp only at hu); go_simp; rfl) (by simp only [List.setIfInBounds_toArray, List.set_cons_succ, List.set_cons_zero]; rfl) ?_
            | refine pl_skip (i := 10) rfl rfl HS0.out rfl (by simp only [List.setIfInBounds_toArray, List.set_cons_succ, List.set_cons_zero]; rfl) ?_
          first
            | refine pl_get (i := 11) rfl rfl HS0.out rfl (fun u hu => by (try dsimp only at hu); go_simp; rfl) (by simp only [List.setIfInBounds_toArray, List.set_cons_succ, List.set_cons_zero]; rfl) ?_
            | refine pl_skip (i := 11) rfl rfl HS0.out rfl (by simp only [List.setIfInBounds_toArray, List.set_cons_succ, List.set_cons_zero]; rfl) ?_
          first
            | refine pl_get (i := 12) rfl rfl HS0.out rfl (fun u hu => by (try dsimp only at hu); go_simp; rfl) (by simp only [List.setIfInBounds_toArray, List.set_cons_succ, List.set_cons_zero]; rfl) ?_
            | refine pl_skip (i := 12) rfl rfl HS0.out rfl (by simp only [List.setIfInBounds_toArray, List.set_cons_succ, List.set_cons_zero]; rfl) ?_
          first
            | refine pl_get (i := 13) rfl rfl HS0.out rfl (fun u hu => by (try dsimp only at hu); go_simp; rfl) (by simp only [List.setIfInBounds_toArray, List.set_cons_succ, List.set_cons_zero]; rfl) ?_
            | refine pl_skip (i := 13) rfl rfl HS0.out rfl (by simp only [List.setIfInBounds_toArray, List.set_cons_succ, List.set_cons_zero]; rfl) ?_
          first
            | refine pl_get (i := 15) rfl rfl HS0.out rfl (fun u hu => by (try dsimp only at hu); go_simp; rfl) (by simp only [List.setIfInBounds_toArray, List.set_cons_succ, List.set_cons_zero]; rfl) ?_
            | refine pl_skip (i := 15) rfl rfl HS0.out rfl (by simp only [List.setIfInBounds_toArray, List.set_cons_succ, List.set_cons_zero]; rfl) ?_
          first
            | refine pl_get (i := 16) rfl rfl HS0.out rfl (fun u hu => by (try dsimp only at hu); go_simp; rfl) (by simp only [List.setIfInBounds_toArray, List.set_cons_succ, List.set_cons_zero]; rfl) ?_
            | refine pl_skip (i := 16) rfl rfl HS0.out rfl (by simp only [List.setIfInBounds_toArray, List.set_cons_succ, List.set_cons_zero]; rfl) ?_
          first
            | refine pl_get (i := 17) rfl rfl HS0.out rfl (fun u hu => by (try dsimp only at hu); go_simp; rfl) (by simp only [List.setIfInBounds_toArray, List.set_cons_succ, List.set_cons_zero]; rfl) ?_
            | refine pl_skip (i := 17) rfl rfl HS0.out rfl (by simp only [List.setIfInBounds_toArray, List.set_cons_succ, List.set_cons_zero]; rfl) ?_
          first
            | refine pl_get (i := 18) rfl rfl HS0.out rfl (fun u hu => by (try dsimp only at hu); go_simp; rfl) (by simp only [List.setIfInBounds_toArray, List.set_cons_succ, List.set_cons_zero]; rfl) ?_
            | refine pl_skip (i := 18) rfl rfl HS0.out rfl (by simp only [List.setIfInBounds_toArray, List.set_cons_succ, List.set_cons_zero]; rfl) ?_
          refine pl_one (i := 14) rfl ?_
          go_wp2_with ((go_at_call 17; refine (sent_any w.heap.size nb na ncap room sent N' _ HT0.out).mono ?_; rintro _ w4 ⟨rfl, rfl⟩))
          refine pl_next (fun _ => HS0.out) ?_
          first
            | refine pl_get (i := 19) rfl rfl HS0.out rfl (fun u hu => by (try dsimp only at hu); go_simp; rfl) (by simp only [List.setIfInBounds_toArray, List.set_cons_succ, List.set_cons_zero]; rfl) ?_
            | refine pl_skip (i := 19) rfl rfl HS0.out rfl (by simp only [List.setIfInBounds_toArray, List.set_cons_succ, List.set_cons_zero]; rfl) ?_
          first
            | refine pl_get (i := 20) rfl rfl HS0.out rfl (fun u hu => by (try dsimp only at hu); go_simp; rfl) (by simp only [List.setIfInBounds_toArray, List.set_cons_succ, List.set_cons_zero]; rfl) ?_
            | refine pl_skip (i := 20) rfl rfl HS0.out rfl (by simp only [List.setIfInBounds_toArray, List.set_cons_succ, List.set_cons_zero]; rfl) ?_
          refine pl_done ?_
          go_wp2_with fail
          go_roundw
          case rel => exact ⟨k + 1, N', hlt, h200, by go_num, HD0.out⟩
          case measure => simp [intOf]; omega
      · have hd1 : decide (10000 < (ol.length : Int)) = true := decide_eq_true (by omega)
        have Hk := Lib.hid HD0.out.hk
        go_wp2
        go_ret
        exact ⟨rfl, (Hk.out.alloc _).below (fun _ _ h => h)⟩
    · -- end
      have hout : (¬ k < len0 ∧ decide ((k : Int) < (len0 : Int)) = false) ∨ (k < len0 ∧ ¬ k < 200 ∧ decide ((k : Int) < 200) = false) := by
        by_cases h1 : k < len0
        · right
          have : ¬ k < 200 := fun h => hgo ⟨h1, h⟩
          exact ⟨h1, this, by simp; omega⟩
        · left
          exact ⟨h1, by simp; omega⟩
      obtain ⟨na, ncap, ra, rcap, sent, T, R, hs1, hs2⟩ := D.st
      have hlN : N.length ≤ 201 := by have := D.len; omega
      have r0 := blk_cell R.blk 0
      have rl := blk_lt R.blk
      simp at r0
      have HD := Lib.hid D
      have HT := Lib.hid T
      have HR := Lib.hid R
      clear hgo D T R
      rcases hout with ⟨h1, hd⟩ | ⟨h1, h2, hd⟩
      all_goals
        go_wp2_with fail
        go_loopw [267] (fun iv wx => ∃ m : Nat, m ≤ N.length ∧ iv = .int .i64 (m : Int) ∧ Keep NoB wr wx) (fun iv _ => N.length - (intOf iv).toNat)
        case atStart => exact ⟨0, Nat.zero_le _, rfl, Keep.refl _ _⟩
        case round =>
          obtain ⟨m, hm, rfl, km⟩ := hrel
          have Hkm := Lib.hid km
          clear r0 rl
          by_cases hmn : m < N.length
          · obtain ⟨x, hx⟩ : ∃ x, N[m]? = some x := ⟨_, List.getElem?_eq_getElem hmn⟩
            have Hx := Lib.hid hx
            have Hxp := Lib.hid (show (N.map HE.p)[m]? = some ⟨x.f, x.t, ⟨x.l.toArray⟩, x.tn⟩ from by rw [List.getElem?_map, hx]; rfl)
            clear hx
            go_wp2_with fail
            refine (look_in w.heap.size nb na ncap room sent N m x _ (HT.out.keep0 km) Hx.out).mono ?_
            rintro _ w4 ⟨g4, rfl, hg4, Rw4, k4⟩
            have kA : Keep NoB w4 (w4.alloc (.cells #[.int .i64 x.f, .int .i64 x.t, .slice (some ⟨g4, 0, none⟩) x.l.length x.l.length] 32)) := (Keep.refl NoB w4).alloc _
            have bA := blk_new w4 (.cells #[.int .i64 x.f, .int .i64 x.t, .slice (some ⟨g4, 0, none⟩) x.l.length x.l.length] 32)
            have KA := (km.trans k4).trans kA
            have RA := HR.out.keep0 KA
            have HRwA := Lib.hid (Rw4.keep kA (fun _ _ h => h))
            obtain ⟨gr, cgr, hvv, hg1, hg2, hcx⟩ := RA.own.cells pCells_len Hxp.out
            cases hvv
            have q0 := hcx 0 _ rfl
            have q1 := hcx 1 _ rfl
            have q2 := hcx 2 _ rfl
            have q3 := hcx 3 _ rfl
            simp only [Nat.add_zero] at q0
            have d0 := blk_cell RA.blk 0
            have y0 : (w4.alloc (.cells #[.int .i64 x.f, .int .i64 x.t, .slice (some ⟨g4, 0, none⟩) x.l.length x.l.length] 32)).cell? ⟨w4.heap.size, 0, none⟩ = some (.int .i64 x.f) := by rw [blk_cell bA]; rfl
            have y1 : (w4.alloc (.cells #[.int .i64 x.f, .int .i64 x.t, .slice (some ⟨g4, 0, none⟩) x.l.length x.l.length] 32)).cell? ⟨w4.heap.size, 1, none⟩ = some (.int .i64 x.t) := by rw [blk_cell bA]; rfl
            have y2 : (w4.alloc (.cells #[.int .i64 x.f, .int .i64 x.t, .slice (some ⟨g4, 0, none⟩) x.l.length x.l.length] 32)).cell? ⟨w4.heap.size, 2, none⟩ = some (.slice (some ⟨g4, 0, none⟩) x.l.length x.l.length) := by rw [blk_cell bA]; rfl
            simp at d0 q0 q1 q2 q3
            have HKA := Lib.hid KA
            clear hcx RA bA KA km k4 Rw4 kA
            have HSA := Lib.hid (And.intro d0 (And.intro y0 (And.intro y1 (And.intro y2 (And.intro q0 (And.intro q1 (And.intro q2 q3)))))))
            clear d0 y0 y1 y2 q0 q1 q2 q3
            go_wp2_with fail
            generalize World.alloc w4 (.cells #[.int .i64 x.f, .int .i64 x.t, .slice (some ⟨g4, 0, none⟩) x.l.length x.l.length] 32) = wA at HSA HKA HRwA ⊢
            generalize w4.heap.size = pb at HSA ⊢
            refine wp_region_pl (fun u => u.cell? ⟨rb, 0, none⟩ = some (.slice (some ⟨gr, 0, none⟩) N.length rcap) ∧ u.cell? ⟨pb, 0, none⟩ = some (.int .i64 x.f) ∧ u.cell? ⟨pb, 1, none⟩ = some (.int .i64 x.t) ∧ u.cell? ⟨pb, 2, none⟩ = some (.slice (some ⟨g4, 0, none⟩) x.l.length x.l.length) ∧ u.cell? ⟨gr, m * 4, none⟩ = some (.int .i64 x.f) ∧ u.cell? ⟨gr, m * 4 + 1, none⟩ = some (.int .i64 x.t) ∧ u.cell? ⟨gr, m * 4 + 2, none⟩ = some (.string ⟨x.l.toArray⟩) ∧ u.cell? ⟨gr, m * 4 + 3, none⟩ = some (.bool x.tn)) [] (.rd 0 (.rd 1 (.rd 2 (.rd 3 (.rd 4 (.rd 5 (.rd 6 (.rd 7 (.rd 8 (.one 9 (.rd 10 .done))))))))))) (by kernel_rfl) (by kernel_rfl) (by kernel_rfl) (by kernel_rfl) (by intro c b d v u h; cases d <;> exact h) ?_
            have kd0 : Keep NoB wA wA.drew := (Keep.refl NoB wA).drew
            have HS0 := Lib.hid (ks8 HSA.out kd0)
            have HRw0 := Lib.hid (HRwA.out.keep kd0 (fun _ _ h => h))
            have HK0 := Lib.hid (HKA.out.trans kd0)
            clear kd0 HSA HRwA
            first
              | refine pl_get (i := 0) rfl rfl HS0.out rfl (fun u hu => by (try dsimp only at hu); go_simp; rfl) (by simp only [List.setIfInBounds_toArray, List.set_cons_succ, List.set_cons_zero]; rfl) ?_
              | refine pl_skip (i := 0) rfl rfl HS0.out rfl (by simp only [List.setIfInBounds_toArray, List.set_cons_succ, List.set_cons_zero]; rfl) ?_
            first
              | refine pl_get (i := 1) rfl rfl HS0.out rfl (fun u hu => by (try dsimp only at hu); go_simp; rfl) (by simp only [List.setIfInBounds_toArray, List.set_cons_succ, List.set_cons_zero]; rfl) ?_
              | refine pl_skip (i := 1) rfl rfl HS0.out rfl (by simp only [List.setIfInBounds_toArray, List.set_cons_succ, List.set_cons_zero]; rfl) ?_
            first
              | refine pl_get (i := 2) rfl rfl HS0.out rfl (fun u hu => by (try dsimp only at hu); go_simp; rfl) (by simp only [List.setIfInBounds_toArray, List.set_cons_succ, List.set_cons_zero]; rfl) ?_
              | refine pl_skip (i := 2) rfl rfl HS0.out rfl (by simp only [List.setIfInBounds_toArray, List.set_cons_succ, List.set_cons_zero]; rfl) ?_
            first
              | refine pl_get (i := 3) rfl rfl HS0.out rfl (fun u hu => by (try dsimp only at hu); go_simp; rfl) (by simp only [List.setIfInBounds_toArray, List.set_cons_succ, List.set_cons_zero]; rfl) ?_
              | refine pl_skip (i := 3) rfl rfl HS0.out rfl (by simp only [List.setIfInBounds_toArray, List.set_cons_succ, List.set_cons_zero]; rfl) ?_
            first
              | refine pl_get (i := 4) rfl rfl HS0.out rfl (fun u hu => by (try dsimp only at hu); go_simp; rfl) (by simp only [List.setIfInBounds_toArray, List.set_cons_succ, List.set_cons_zero]; rfl) ?_
              | refine pl_skip (i := 4) rfl rfl HS0.out rfl (by simp only [List.setIfInBounds_toArray, List.set_cons_succ, List.set_cons_zero]; rfl) ?_
            first
              | refine pl_get (i := 5) rfl rfl HS0.out rfl (fun u hu => by (try dsimp only at hu); go_simp; rfl) (by simp only [List.setIfInBounds_toArray, List.set_cons_succ, List.set_cons_zero]; rfl) ?_
              | refine pl_skip (i := 5) rfl rfl HS0.out rfl (by simp only [List.setIfInBounds_toArray, List.set_cons_succ, List.set_cons_zero]; rfl) ?_
            first
              | refine pl_get (i := 6) rfl rfl HS0.out rfl (fun u hu => by (try dsimp only at hu); go_simp; rfl) (by simp only [List.setIfInBounds_toArray, List.set_cons_succ, List.set_cons_zero]; rfl) ?_
              | refine pl_skip (i := 6) rfl rfl HS0.out rfl (by simp only [List.setIfInBounds_toArray, List.set_cons_succ, List.set_cons_zero]; rfl) ?_
            first
              | refine pl_get (i := 7) rfl rfl HS0.out rfl (fun u hu => by (try dsimp only at hu); go_simp; rfl) (by simp only [List.setIfInBounds_toArray, List.set_cons_succ, List.set_cons_zero]; rfl) ?_
              | refine pl_skip (i := 7) rfl rfl HS0.out rfl (by simp only [List.setIfInBounds_toArray, List.set_cons_succ, List.set_cons_zero]; rfl) ?_
            first
              | refine pl_get (i := 8) rfl rfl HS0.out rfl (fun u hu => by (try dsimp only at hu); go_simp; rfl) (by simp only [List.setIfInBounds_toArray, List.set_cons_succ, List.set_cons_zero]; rfl) ?_
              | refine pl_skip (i := 8) rfl rfl HS0.out rfl (by simp only [List.setIfInBounds_toArray, List.set_cons_succ, List.set_cons_zero]; rfl) ?_
            refine pl_one (i := 9) rfl ?_
            go_wp2_with ((go_at_call 20; refine (same_yes (.slice (some ⟨g4, 0, none⟩) x.l.length x.l.length) x.l x.f x.t x.tn true _ HRw0.out.rd).mono ?_; rintro _ w6 ⟨rfl, k6⟩))
            have HS6 := Lib.hid (ks8 HS0.out k6)
            have HK6 := Lib.hid (HK0.out.trans k6)
            clear k6
            refine pl_next (fun _ => HS6.out) ?_
            first
              | refine pl_get (i := 10) rfl rfl HS6.out rfl (fun u hu => by (try dsimp only at hu); go_simp; rfl) (by simp only [List.setIfInBounds_toArray, List.set_cons_succ, List.set_cons_zero]; rfl) ?_
              | refine pl_skip (i := 10) rfl rfl HS6.out rfl (by simp only [List.setIfInBounds_toArray, List.set_cons_succ, List.set_cons_zero]; rfl) ?_
            refine pl_done ?_
            go_wp2_with fail
            go_roundw
            case rel => exact ⟨m + 1, hmn, by go_num, HK6.out⟩
            case measure => simp [intOf]; omega
          · have hd9 : decide ((m : Int) < (N.length : Int)) = false := decide_eq_false (by omega)
            clear km
            go_wp2_with fail
            refine (nlen_any _).mono ?_
            rintro _ w7 ⟨rfl, rfl⟩
            go_wp2_with fail
            refine (nsent_any _).mono ?_
            rintro _ w8 ⟨rfl, rfl⟩
            go_wp2
            go_ret
            exact ⟨rfl, (HD.out.hk.trans Hkm.out).below (fun _ _ h => h)⟩
end Go.Proofs.Ytbaojfjabhgohaa
