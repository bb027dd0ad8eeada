/- What the reference's Decode comes to. -/
import Derived.Test.YtijllpjddbonjaaDoorScriptW
namespace Go.Proofs.YtijllpjddbonjaaDoor
open Go Go.RowKit Go.Maps


set_option maxHeartbeats 4000000 in
theorem rdec_any (a : Option Addr) (n cap : Nat) (z : Nat → UInt8) (w : World) (hn : n ≤ cap) (hcap : cap ≤ maxLen) (h : BA w a n z) (hl : n ≤ 4000000) (V : List SOp) (hV : decK z (n / 4) = V) :
    Calls Tryd.prog 9 #[.slice a n cap] w (DecPost 30 V w) := by
  unfold maxLen at hcap
  have HV := Lib.hid hV
  have HB := Lib.hid h
  have O0 := Own.empty w (Nat.le_refl _) 30 4 encOp
  have HO0 := Lib.hid O0
  clear hV h O0
  go_enter Tryd.func9, Tryd.ntmps9
  go_wp2_with fail
  go_loopw [3, 4] (fun o iv wr => ∃ (k i : Nat) (M : List SOp) (a' : Option Addr) (c' : Nat), i = 4 * k ∧ i ≤ n ∧ iv = .int .i64 (i : Int) ∧ o = .slice a' M.length c' ∧ Own wr w.heap.size 30 4 encOp (.slice a' M.length c') M ∧ decK z k = M ∧ Keep NoB w wr) (fun _ iv _ => n - (intOf iv).toNat)
  case atStart => exact ⟨0, 0, [], _, 0, rfl, Nat.zero_le _, rfl, rfl, HO0.out, rfl, (Keep.refl NoB w).alloc _⟩
  case round =>
    obtain ⟨k, i, M, a', c', hik, hin, rfl, rfl, O, hM, kr⟩ := hrel
    have HMl := Lib.hid (show M.length = k by rw [← hM, decK_len])
    have HM := Lib.hid hM
    have Hik := Lib.hid hik
    clear hM hik
    by_cases hgo : i + 3 < n
    · rcases HB.out with h0 | ⟨b, off, rfl, hb, hc⟩
      · omega
      have m0 := hc i (by omega)
      have m1 := hc (i + 1) (by omega)
      have m2 := hc (i + 2) (by omega)
      have m3 := hc (i + 3) (by omega)
      have hop : opAt z k = (((z i).toNat : Int) % 26, ((z (i + 1)).toNat : Int), ((z (i + 2)).toNat : Int), ((z (i + 3)).toNat : Int)) := by rw [Hik.out]; rfl
      generalize z i = x0 at m0 hop
      generalize z (i + 1) = x1 at m1 hop
      generalize z (i + 2) = x2 at m2 hop
      generalize z (i + 3) = x3 at m3 hop
      have w0 : IntKind.i64.wrap (x0.toNat : Int) = x0.toNat := by rw [IntKind.wrap_i64]; have := x0.toNat_lt; omega
      have w1 : IntKind.i64.wrap (x1.toNat : Int) = x1.toNat := by rw [IntKind.wrap_i64]; have := x1.toNat_lt; omega
      have w2 : IntKind.i64.wrap (x2.toNat : Int) = x2.toNat := by rw [IntKind.wrap_i64]; have := x2.toNat_lt; omega
      have w3 : IntKind.i64.wrap (x3.toNat : Int) = x3.toNat := by rw [IntKind.wrap_i64]; have := x3.toNat_lt; omega
      have hbw := Nat.lt_of_lt_of_le hb kr.size
      have HS0 := Lib.hid (⟨m0, m1, m2, m3⟩ : w.cell? ⟨b, off + i, none⟩ = some (.int .u8 x0.toNat) ∧ w.cell? ⟨b, off + (i + 1), none⟩ = some (.int .u8 x1.toNat) ∧ w.cell? ⟨b, off + (i + 2), none⟩ = some (.int .u8 x2.toNat) ∧ w.cell? ⟨b, off + (i + 3), none⟩ = some (.int .u8 x3.toNat))
      have l0 := ks1 m0 kr
      clear hc m0 m1 m2 m3
      have hlen : M.length + 1 ≤ 1000001 := by have := HMl.out; have := Hik.out; omega
      obtain ⟨M', hM'⟩ : ∃ l, M ++ [opAt z k] = l := ⟨_, rfl⟩
      have HM' := Lib.hid hM'
      rw [hop] at hM'
      have hM'l : M'.length = M.length + 1 := by rw [← hM']; simp
      have HMl' := Lib.hid hM'l
      have HMx := Lib.hid hM'
      have hMM : decK z (k + 1) = M' := by rw [decK_succ, HM.out, HM'.out]
      have HMM := Lib.hid hMM
      clear hM' hM'l hMM hop
      go_wp2_with fail
      go_loopw [5] (fun kv wx => ∃ y : Nat, y ≤ 255 ∧ kv = .int .i64 (y : Int) ∧ (y : Int) % 26 = (x0.toNat : Int) % 26 ∧ wx = wr) (fun kv _ => (intOf kv).toNat)
      case atStart => exact ⟨x0.toNat, by have := x0.toNat_lt; omega, rfl, rfl, rfl⟩
      case round =>
        obtain ⟨y, hy, rfl, hym, rfl⟩ := hrel
        have Hym := Lib.hid hym
        clear hym
        by_cases h26 : 26 ≤ y
        · go_wp2_with fail
          go_roundw
          case rel => exact ⟨y - 26, by omega, by congr 1; omega, by rw [← Hym.out]; omega, trivial⟩
          case measure => simp [intOf]; omega
        · have Hyx := Lib.hid (show (x0.toNat : Int) % 26 = (y : Int) by rw [← Hym.out]; omega)
          have HMy := HMx.out
          rw [Hyx.out] at HMy
          have HMz := Lib.hid HMy
          clear HMy
          go_wp2_with fail
          refine wp_region_pl (fun u => u.cell? ⟨b, off + i, none⟩ = some (.int .u8 x0.toNat) ∧ u.cell? ⟨b, off + (i + 1), none⟩ = some (.int .u8 x1.toNat) ∧ u.cell? ⟨b, off + (i + 2), none⟩ = some (.int .u8 x2.toNat) ∧ u.cell? ⟨b, off + (i + 3), none⟩ = some (.int .u8 x3.toNat)) [] (.rd 0 (.rd 1 (.rd 2 (.rd 3 (.rd 4 (.rd 5 (.rd 6 (.rd 7 (.rd 8 (.rd 9 (.rd 10 (.rd 11 (.rd 12 (.rd 13 (.rd 14 (.rd 15 (.rd 16 (.rd 17 (.rd 18 (.rd 19 (.rd 20 (.one 21 (.one 22 (.one 23 .done)))))))))))))))))))))))) (by kernel_rfl) (by kernel_rfl) (by kernel_rfl) (by kernel_rfl) (by intro c b d v u h; cases d <;> exact h) ?_
          have ky : Keep NoB wr wr.drew := (Keep.refl NoB wr).drew
          generalize wr.drew = wy at ky ⊢
          have Oy := O.keep ky (fun _ _ h => h)
          have Ky := kr.trans ky
          have HS := Lib.hid (ks4 HS0.out Ky)
          have p11 : IntKind.i64.wrap ((i : Int) + 1) = (i : Int) + 1 := by rw [IntKind.wrap_i64]; omega
          have p12 : (0 : Int) ≤ (i : Int) + 1 := by omega
          have p13 : (i : Int) + 1 < (n : Int) := by omega
          have p14 : ((i : Int) + 1).toNat = i + 1 := by omega
          have p21 : IntKind.i64.wrap ((i : Int) + 2) = (i : Int) + 2 := by rw [IntKind.wrap_i64]; omega
          have p22 : (0 : Int) ≤ (i : Int) + 2 := by omega
          have p23 : (i : Int) + 2 < (n : Int) := by omega
          have p24 : ((i : Int) + 2).toNat = i + 2 := by omega
          have p31 : IntKind.i64.wrap ((i : Int) + 3) = (i : Int) + 3 := by rw [IntKind.wrap_i64]; omega
          have p32 : (0 : Int) ≤ (i : Int) + 3 := by omega
          have p33 : (i : Int) + 3 < (n : Int) := by omega
          have p34 : ((i : Int) + 3).toNat = i + 3 := by omega
          have hsz := Ky.size
          have hby := Nat.lt_of_lt_of_le hb hsz
          clear O kr l0 hbw
          first
            | refine pl_get (i := 0) rfl rfl HS.out rfl (fun u hu => by (try dsimp only at hu); go_simp; rfl) (by simp only [List.setIfInBounds_toArray, List.set_cons_succ, List.set_cons_zero]; rfl) ?_
            | refine pl_skip (i := 0) rfl rfl HS.out rfl (by simp only [List.setIfInBounds_toArray, List.set_cons_succ, List.set_cons_zero]; rfl) ?_
          first
            | refine pl_get (i := 1) rfl rfl HS.out rfl (fun u hu => by (try dsimp only at hu); go_simp; rfl) (by simp only [List.setIfInBounds_toArray, List.set_cons_succ, List.set_cons_zero]; rfl) ?_
            | refine pl_skip (i := 1) rfl rfl HS.out rfl (by simp only [List.setIfInBounds_toArray, List.set_cons_succ, List.set_cons_zero]; rfl) ?_
          first
            | refine pl_get (i := 2) rfl rfl HS.out rfl (fun u hu => by (try dsimp only at hu); go_simp; rfl) (by simp only [List.setIfInBounds_toArray, List.set_cons_succ, List.set_cons_zero]; rfl) ?_
            | refine pl_skip (i := 2) rfl rfl HS.out rfl (by simp only [List.setIfInBounds_toArray, List.set_cons_succ, List.set_cons_zero]; rfl) ?_
          first
            | refine pl_get (i := 3) rfl rfl HS.out rfl (fun u hu => by (try dsimp only at hu); go_simp; rfl) (by simp only [List.setIfInBounds_toArray, List.set_cons_succ, List.set_cons_zero]; rfl) ?_
            | refine pl_skip (i := 3) rfl rfl HS.out rfl (by simp only [List.setIfInBounds_toArray, List.set_cons_succ, List.set_cons_zero]; rfl) ?_
          first
            | refine pl_get (i := 4) rfl rfl HS.out rfl (fun u hu => by (try dsimp only at hu); go_simp; rfl) (by simp only [List.setIfInBounds_toArray, List.set_cons_succ, List.set_cons_zero]; rfl) ?_
            | refine pl_skip (i := 4) rfl rfl HS.out rfl (by simp only [List.setIfInBounds_toArray, List.set_cons_succ, List.set_cons_zero]; rfl) ?_
          first
            | refine pl_get (i := 5) rfl rfl HS.out rfl (fun u hu => by (try dsimp only at hu); go_simp; rfl) (by simp only [List.setIfInBounds_toArray, List.set_cons_succ, List.set_cons_zero]; rfl) ?_
            | refine pl_skip (i := 5) rfl rfl HS.out rfl (by simp only [List.setIfInBounds_toArray, List.set_cons_succ, List.set_cons_zero]; rfl) ?_
          first
            | refine pl_get (i := 6) rfl rfl HS.out rfl (fun u hu => by (try dsimp only at hu); go_simp; rfl) (by simp only [List.setIfInBounds_toArray, List.set_cons_succ, List.set_cons_zero]; rfl) ?_
            | refine pl_skip (i := 6) rfl rfl HS.out rfl (by simp only [List.setIfInBounds_toArray, List.set_cons_succ, List.set_cons_zero]; rfl) ?_
          first
            | refine pl_get (i := 7) rfl rfl HS.out rfl (fun u hu => by (try dsimp only at hu); go_simp; rfl) (by simp only [List.setIfInBounds_toArray, List.set_cons_succ, List.set_cons_zero]; rfl) ?_
            | refine pl_skip (i := 7) rfl rfl HS.out rfl (by simp only [List.setIfInBounds_toArray, List.set_cons_succ, List.set_cons_zero]; rfl) ?_
          first
            | refine pl_get (i := 8) rfl rfl HS.out rfl (fun u hu => by (try dsimp only at hu); go_simp; rfl) (by simp only [List.setIfInBounds_toArray, List.set_cons_succ, List.set_cons_zero]; rfl) ?_
            | refine pl_skip (i := 8) rfl rfl HS.out rfl (by simp only [List.setIfInBounds_toArray, List.set_cons_succ, List.set_cons_zero]; rfl) ?_
          first
            | refine pl_get (i := 9) rfl rfl HS.out rfl (fun u hu => by (try dsimp only at hu); go_simp; rfl) (by simp only [List.setIfInBounds_toArray, List.set_cons_succ, List.set_cons_zero]; rfl) ?_
            | refine pl_skip (i := 9) rfl rfl HS.out rfl (by simp only [List.setIfInBounds_toArray, List.set_cons_succ, List.set_cons_zero]; rfl) ?_
          first
            | refine pl_get (i := 10) rfl rfl HS.out rfl (fun u hu => by (try dsimp only at hu); go_simp; rfl) (by simp only [List.setIfInBounds_toArray, List.set_cons_succ, List.set_cons_zero]; rfl) ?_
            | refine pl_skip (i := 10) rfl rfl HS.out rfl (by simp only [List.setIfInBounds_toArray, List.set_cons_succ, List.set_cons_zero]; rfl) ?_
          first
            | refine pl_get (i := 11) rfl rfl HS.out rfl (fun u hu => by (try dsimp only at hu); go_simp; rfl) (by simp only [List.setIfInBounds_toArray, List.set_cons_succ, List.set_cons_zero]; rfl) ?_
            | refine pl_skip (i := 11) rfl rfl HS.out rfl (by simp only [List.setIfInBounds_toArray, List.set_cons_succ, List.set_cons_zero]; rfl) ?_
          first
            | refine pl_get (i := 12) rfl rfl HS.out rfl (fun u hu => by (try dsimp only at hu); go_simp; rfl) (by simp only [List.setIfInBounds_toArray, List.set_cons_succ, List.set_cons_zero]; rfl) ?_
            | refine pl_skip (i := 12) rfl rfl HS.out rfl (by simp only [List.setIfInBounds_toArray, List.set_cons_succ, List.set_cons_zero]; rfl) ?_
          first
            | refine pl_get (i := 13) rfl rfl HS.out rfl (fun u hu => by (try dsimp only at hu); go_simp; rfl) (by simp only [List.setIfInBounds_toArray, List.set_cons_succ, List.set_cons_zero]; rfl) ?_
            | refine pl_skip (i := 13) rfl rfl HS.out rfl (by simp only [List.setIfInBounds_toArray, List.set_cons_succ, List.set_cons_zero]; rfl) ?_
          first
            | refine pl_get (i := 14) rfl rfl HS.out rfl (fun u hu => by (try dsimp only at hu); go_simp; rfl) (by simp only [List.setIfInBounds_toArray, List.set_cons_succ, List.set_cons_zero]; rfl) ?_
            | refine pl_skip (i := 14) rfl rfl HS.out rfl (by simp only [List.setIfInBounds_toArray, List.set_cons_succ, List.set_cons_zero]; rfl) ?_
          first
            | refine pl_get (i := 15) rfl rfl HS.out rfl (fun u hu => by (try dsimp only at hu); go_simp; rfl) (by simp only [List.setIfInBounds_toArray, List.set_cons_succ, List.set_cons_zero]; rfl) ?_
            | refine pl_skip (i := 15) rfl rfl HS.out rfl (by simp only [List.setIfInBounds_toArray, List.set_cons_succ, List.set_cons_zero]; rfl) ?_
          first
            | refine pl_get (i := 16) rfl rfl HS.out rfl (fun u hu => by (try dsimp only at hu); go_simp; rfl) (by simp only [List.setIfInBounds_toArray, List.set_cons_succ, List.set_cons_zero]; rfl) ?_
            | refine pl_skip (i := 16) rfl rfl HS.out rfl (by simp only [List.setIfInBounds_toArray, List.set_cons_succ, List.set_cons_zero]; rfl) ?_
          first
            | refine pl_get (i := 17) rfl rfl HS.out rfl (fun u hu => by (try dsimp only at hu); go_simp; rfl) (by simp only [List.setIfInBounds_toArray, List.set_cons_succ, List.set_cons_zero]; rfl) ?_
            | refine pl_skip (i := 17) rfl rfl HS.out rfl (by simp only [List.setIfInBounds_toArray, List.set_cons_succ, List.set_cons_zero]; rfl) ?_
          first
            | refine pl_get (i := 18) rfl rfl HS.out rfl (fun u hu => by (try dsimp only at hu); go_simp; rfl) (by simp only [List.setIfInBounds_toArray, List.set_cons_succ, List.set_cons_zero]; rfl) ?_
            | refine pl_skip (i := 18) rfl rfl HS.out rfl (by simp only [List.setIfInBounds_toArray, List.set_cons_succ, List.set_cons_zero]; rfl) ?_
          first
            | refine pl_get (i := 19) rfl rfl HS.out rfl (fun u hu => by (try dsimp only at hu); go_simp; rfl) (by simp only [List.setIfInBounds_toArray, List.set_cons_succ, List.set_cons_zero]; rfl) ?_
            | refine pl_skip (i := 19) rfl rfl HS.out rfl (by simp only [List.setIfInBounds_toArray, List.set_cons_succ, List.set_cons_zero]; rfl) ?_
          first
            | refine pl_get (i := 20) rfl rfl HS.out rfl (fun u hu => by (try dsimp only at hu); go_simp; rfl) (by simp only [List.setIfInBounds_toArray, List.set_cons_succ, List.set_cons_zero]; rfl) ?_
            | refine pl_skip (i := 20) rfl rfl HS.out rfl (by simp only [List.setIfInBounds_toArray, List.set_cons_succ, List.set_cons_zero]; rfl) ?_
          clear p11 p12 p13 p14 p21 p22 p23 p24 p31 p32 p33 p34
          refine pl_one (i := 21) rfl ?_
          go_wp2_with (fail)
          have kz := (Keep.refl NoB wy).alloc (.cells #[.int .i64 (y : Int), .int .i64 x1.toNat, .int .i64 x2.toNat, .int .i64 x3.toNat] 30)
          have bz := blk_new wy (.cells #[.int .i64 (y : Int), .int .i64 x1.toNat, .int .i64 x2.toNat, .int .i64 x3.toNat] 30)
          generalize World.alloc wy _ = wz at kz bz ⊢
          generalize wy.heap.size = nb at bz ⊢
          have Kz := Ky.trans kz
          have HS2 := Lib.hid (ks4 HS0.out Kz)
          refine pl_next (fun _ => HS2.out) ?_
          have sz := Kz.size
          have Oz := Oy.keep kz (fun _ _ h => h)
          refine pl_one (i := 22) rfl ?_
          refine wpList_append_one rfl (.tmp 23) (.tmp 44) 26 rfl Tryd.underlying26 info30' (by kernel_rfl) (by decide) (by decide) rfl Oz encOp_len ((y : Int), (x1.toNat : Int), (x2.toNat : Int), (x3.toNat : Int)) rfl bz rfl (encOp_one _) (by omega) (by omega) HMz.out ?_
          intro a4 c4 w4 O4 k4
          have K4 := Oz.knob Kz k4
          have HS3 := Lib.hid (ks4 HS0.out K4)
          refine pl_next (fun _ => HS3.out) ?_
          clear k4 Oz Kz HS2 HS Oy Ky bz kz ky
          refine pl_one (i := 23) rfl ?_
          go_wp2_with (fail)
          refine pl_next (fun _ => HS3.out) ?_
          refine pl_done ?_
          go_wp2_with fail
          go_roundw
          case rel => exact ⟨k + 1, i + 4, M', a4, c4, by have := Hik.out; omega, by omega, by go_num, rfl, O4, HMM.out, K4⟩
          case measure => simp [intOf]; omega
    · have hMV : M = V := by rw [← HV.out, ← HM.out, show n / 4 = k by (have := Hik.out; omega)]
      subst hMV
      go_wp2
      go_ret
      exact ⟨a', c', rfl, O, kr⟩
end Go.Proofs.YtijllpjddbonjaaDoor
