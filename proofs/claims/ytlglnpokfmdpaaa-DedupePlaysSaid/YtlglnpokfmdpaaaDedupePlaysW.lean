/- The walk of DedupePlays. -/
import Derived.Test.YtlglnpokfmdpaaaDedupePlaysQ
import Derived.Test.YtlglnpokfmdpaaaLibReg2
import Derived.Deep.Cut
import Derived.Deep.CutRange
import Derived.Deep.CutBlock
namespace Go.Proofs.Ytlglnpokfmdpaaa
open Go Go.RowKit Go.Maps Go.Sort

def SIn (v : Value) (g : Nat) : Prop := v.ownBlock = some g
theorem own_lt {α : Type} {w : World} {B : Nat} {e : TypeId} {size : Nat} {enc : α → List Value} {v : Value} {N : List α} (h : Own w B e size enc v N) {g : Nat} (hg : v.ownBlock = some g) : g < w.heap.size := by
  rcases h.2 with ⟨h', hn⟩ | ⟨g', cap', cur, h', hb, hg', _⟩
  · subst h'
    cases hg
  · subst h'
    cases hg
    exact blk_lt hg'
theorem ks7 {w w' : World} {p1 p2 p3 p4 p5 p6 p7 : Addr} {v1 v2 v3 v4 v5 v6 v7 : Value} (h : w.cell? p1 = some v1 ∧ w.cell? p2 = some v2 ∧ w.cell? p3 = some v3 ∧ w.cell? p4 = some v4 ∧ w.cell? p5 = some v5 ∧ w.cell? p6 = some v6 ∧ w.cell? p7 = some v7) (k : Keep NoB w w') : w'.cell? p1 = some v1 ∧ w'.cell? p2 = some v2 ∧ w'.cell? p3 = some v3 ∧ w'.cell? p4 = some v4 ∧ w'.cell? p5 = some v5 ∧ w'.cell? p6 = some v6 ∧ w'.cell? p7 = some v7 := ⟨ks1 h.1 k, ks6 h.2 k⟩



set_option maxRecDepth 100000 in
set_option maxHeartbeats 40000000 in
theorem plays_walk (limit : Int) (a0 : Option Addr) (len0 cap0 : Nat) (z : Nat → DOp) (w : World) (h0 : IsD w a0 len0 z) :
    Calls Try.prog 6 #[.int .i64 limit, .slice a0 len0 cap0] w fun e w' => e = .returned (.bool true) ∧ Below w.heap.size w w' := by
  obtain ⟨hmax, hok, hrow⟩ := h0
  unfold maxLen at hmax
  have Hok0 := Lib.hid hok
  have Hrow := Lib.hid hrow
  clear hok hrow
  go_enter Try.func6, Try.ntmps6
  go_wp2_with fail
  refine (awake_any _).mono ?_
  rintro _ w1 ⟨rfl, hk1⟩
  go_wp2_with fail
  refine (new_any limit _).mono ?_
  rintro _ w2 ⟨rfl, T2, hk2, hs2⟩
  have hPB : PB w (w1.heap.size + 1) w1.heap.size w2.heap.size := ⟨Nat.le_succ_of_le hk1.size, hk1.size, by omega, by omega, by omega⟩
  have k3 : Keep NoB w2 (w2.alloc (.cells #[.slice none 0 0, .int .i64 limit] 46)) := (Keep.refl NoB w2).alloc _
  have D3 : HS w (w2.alloc (.cells #[.slice none 0 0, .int .i64 limit] 46)) (w1.heap.size + 1) w1.heap.size w2.heap.size limit [] 0 :=
    ⟨T2.keep k3 (fun h => h) (fun h => h), ⟨none, 0, ⟨blk_new w2 _, Own.nil _ _ _ _ _⟩⟩, List.Pairwise.nil, Nat.zero_le _, (hk1.trans hk2).trans k3⟩
  clear T2 hk1 hk2 hs2 k3
  go_wp2_with fail
  generalize World.alloc w2 (.cells #[.slice none 0 0, .int .i64 limit] 46) = w3 at D3 ⊢
  generalize w1.heap.size + 1 = tb at D3 hPB ⊢
  generalize w1.heap.size = mb at D3 hPB ⊢
  generalize w2.heap.size = rb at D3 hPB ⊢
  have hp1 := hPB.hi1
  have hp2 := hPB.hi2
  have HPB := Lib.hid hPB
  have HD3 := Lib.hid D3
  clear hPB D3
  go_loopw [8] (fun i wr => ∃ (k : Nat) (N : List SE), k ≤ len0 ∧ k ≤ 200 ∧ i = .int .i64 k ∧ HS w wr tb mb rb limit N k) (fun i _ => len0 - (intOf i).toNat)
  case atStart => exact ⟨0, [], Nat.zero_le _, Nat.zero_le _, rfl, HD3.out⟩
  case round =>
    clear HD3
    obtain ⟨k, N, hk0, hk200, rfl, D⟩ := hrel
    by_cases hgo : k < len0 ∧ k < 200
    · obtain ⟨hlt, h200⟩ := hgo
      have h200i : decide ((k : Int) < 200) = true := by simp; omega
      rcases Hrow.out with h | ⟨b, off, rfl, hb, hc⟩
      · omega
      have hcw := hc k hlt
      have hop := Hok0.out k hlt
      clear hc
      generalize hzk : z k = x at hcw hop
      clear hzk
      obtain ⟨kd, s, r, e, i, oa, on, oc, oz⟩ := x
      obtain ⟨hs, hse⟩ := hop
      simp only at hs hse
      have l00 : w.cell? ⟨b, off + k * 6, none⟩ = some (.int .i64 kd) := hcw 0 (by decide)
      have l01 : w.cell? ⟨b, off + k * 6 + 1, none⟩ = some (.int .i64 s) := hcw 1 (by decide)
      have l02 : w.cell? ⟨b, off + k * 6 + 2, none⟩ = some (.int .i64 r) := hcw 2 (by decide)
      have l03 : w.cell? ⟨b, off + k * 6 + 3, none⟩ = some (.int .i64 e) := hcw 3 (by decide)
      have l04 : w.cell? ⟨b, off + k * 6 + 4, none⟩ = some (.int .i64 i) := hcw 4 (by decide)
      have l05 : w.cell? ⟨b, off + k * 6 + 5, none⟩ = some (.slice oa on oc) := hcw 5 (by decide)
      replace l00 := D.hk.some l00 (fun h => h)
      replace l01 := D.hk.some l01 (fun h => h)
      replace l02 := D.hk.some l02 (fun h => h)
      replace l03 := D.hk.some l03 (fun h => h)
      replace l04 := D.hk.some l04 (fun h => h)
      replace l05 := D.hk.some l05 (fun h => h)
      have hb0 : b < wr.heap.size := Nat.lt_of_lt_of_le hb D.hk.size
      have hob : rb < wr.heap.size := D.lt
      have Hs := Lib.hid hs
      have Hse := Lib.hid hse
      have HD0 := Lib.hid D
      clear hcw hs hse D
      by_cases hbig : on ≤ 1000
      · have hd1 : decide (1000 < (on : Int)) = false := decide_eq_false (by omega)
        have hkd : kd = 0 ∨ kd = 2 ∨ ((kd == 0) = false ∧ (kd == 2) = false) := by
          simp; omega
        go_upto_block 2 with fail
        have bV := blk_new wr (.cells #[.int .i64 kd, .int .i64 s, .int .i64 r, .int .i64 e, .int .i64 i, .slice oa on oc] 48)
        have DV := HD0.out.keep ((Keep.refl NoB wr).alloc (.cells #[.int .i64 kd, .int .i64 s, .int .i64 r, .int .i64 e, .int .i64 i, .slice oa on oc] 48))
        generalize World.alloc wr (.cells #[.int .i64 kd, .int .i64 s, .int .i64 r, .int .i64 e, .int .i64 i, .slice oa on oc] 48) = V at bV DV ⊢
        generalize wr.heap.size = ob at bV hob ⊢
        have HDV := Lib.hid DV
        have HbV := Lib.hid bV
        have hVo := blk_lt bV
        have hVr := DV.lt
        clear HD0 l00 l01 l02 l03 l04 l05 hb0 DV bV hd1
        have hN200 : N.length ≤ 1200 := by have := HDV.out.len; omega
        go_cut [9, 10, 11, 12] from 26 to 188 (fun ov _ _ _ wx => ov = .pointer (some ⟨ob, 0, none⟩) ∧ ∃ N', HS w wx tb mb rb limit N' (k + 1) ∧ wx.heap[ob]? = some (.cells #[.int .i64 kd, .int .i64 s, .int .i64 r, .int .i64 e, .int .i64 i, .slice oa on oc] 48 (0, 0)))
        case first =>
          have bx := HbV.out
          have x0 := blk_cell bx 0
          have x1 := blk_cell bx 1
          have x2 := blk_cell bx 2
          have x3 := blk_cell bx 3
          have x4 := blk_cell bx 4
          have x5 := blk_cell bx 5
          have xl := blk_lt bx
          simp at x0 x1 x2 x3 x4 x5
          rcases hkd with rfl | rfl | ⟨e0, e1⟩
          · obtain ⟨N', hN', hL, hrise, hlen⟩ := note_plan (limit := limit) HDV.out.rise s r e i
            obtain ⟨ok, hok⟩ : ∃ v, decide ((lookF limit (absD N) s r).1 = 1) = v := ⟨_, rfl⟩
            have HN' := Lib.hid hN'
            have HL := Lib.hid hL
            have Hrise := Lib.hid hrise
            have Hok := Lib.hid hok
            obtain ⟨a, cap, R0⟩ := HDV.out.R
            have HR0 := Lib.hid R0
            clear hN' hL hrise R0 hok
            go_wp2_with fail
            refine wp_region_pl (fun u => u.cell? ⟨ob, 1, none⟩ = some (.int .i64 s) ∧ u.cell? ⟨ob, 2, none⟩ = some (.int .i64 r) ∧ u.cell? ⟨ob, 3, none⟩ = some (.int .i64 e) ∧ u.cell? ⟨ob, 4, none⟩ = some (.int .i64 i)) [] (.rd 0 (.rd 1 (.rd 2 (.rd 3 (.rd 4 (.rd 5 (.rd 6 (.rd 7 (.rd 8 (.rd 9 (.rd 11 (.rd 12 (.rd 13 (.one 10 (.one 14 (.rd 15 (.rd 16 (.rd 17 (.rd 18 (.rd 19 (.rd 20 (.rd 21 (.rd 22 (.rd 23 (.rd 24 (.rd 25 (.rd 26 (.one 27 (.rd 28 .done))))))))))))))))))))))))))))) (by kernel_rfl) (by kernel_rfl) (by kernel_rfl) (by kernel_rfl) (by intro c b d v u h; cases d <;> exact h) ?_
            have kd0 : Keep NoB V V.drew := (Keep.refl NoB V).drew
            have HDr := Lib.hid (HDV.out.keep kd0)
            have HRr := Lib.hid (HR0.out.keep0 kd0)
            have Hbr := Lib.hid (blk_keep HbV.out kd0 (fun h => h))
            have HS0 := Lib.hid (ks4 ⟨x1, x2, x3, x4⟩ kd0)
            clear x0 x1 x2 x3 x4 x5 kd0 bx
            first
              | refine pl_get (i := 0) rfl rfl HS0.out rfl (fun u hu => by (try dsimp only at hu); go_simp; rfl) (by simp only [List.setIfInBounds_toArray, List.set_cons_succ, List.set_cons_zero]; rfl) ?_
              | refine pl_skip (i := 0) rfl rfl HS0.out rfl (by simp only [List.setIfInBounds_toArray, List.set_cons_succ, List.set_cons_zero]; rfl) ?_
            first
              | refine pl_get (i := 1) rfl rfl HS0.out rfl (fun u hu => by (try dsimp only at hu); go_simp; rfl) (by simp only [List.setIfInBounds_toArray, List.set_cons_succ, List.set_cons_zero]; rfl) ?_
              | refine pl_skip (i := 1) rfl rfl HS0.out rfl (by simp only [List.setIfInBounds_toArray, List.set_cons_succ, List.set_cons_zero]; rfl) ?_
            first
              | refine pl_get (i := 2) rfl rfl HS0.out rfl (fun u hu => by (try dsimp only at hu); go_simp; rfl) (by simp only [List.setIfInBounds_toArray, List.set_cons_succ, List.set_cons_zero]; rfl) ?_
              | refine pl_skip (i := 2) rfl rfl HS0.out rfl (by simp only [List.setIfInBounds_toArray, List.set_cons_succ, List.set_cons_zero]; rfl) ?_
            first
              | refine pl_get (i := 3) rfl rfl HS0.out rfl (fun u hu => by (try dsimp only at hu); go_simp; rfl) (by simp only [List.setIfInBounds_toArray, List.set_cons_succ, List.set_cons_zero]; rfl) ?_
              | refine pl_skip (i := 3) rfl rfl HS0.out rfl (by simp only [List.setIfInBounds_toArray, List.set_cons_succ, List.set_cons_zero]; rfl) ?_
            first
              | refine pl_get (i := 4) rfl rfl HS0.out rfl (fun u hu => by (try dsimp only at hu); go_simp; rfl) (by simp only [List.setIfInBounds_toArray, List.set_cons_succ, List.set_cons_zero]; rfl) ?_
              | refine pl_skip (i := 4) rfl rfl HS0.out rfl (by simp only [List.setIfInBounds_toArray, List.set_cons_succ, List.set_cons_zero]; rfl) ?_
            first
              | refine pl_get (i := 5) rfl rfl HS0.out rfl (fun u hu => by (try dsimp only at hu); go_simp; rfl) (by simp only [List.setIfInBounds_toArray, List.set_cons_succ, List.set_cons_zero]; rfl) ?_
              | refine pl_skip (i := 5) rfl rfl HS0.out rfl (by simp only [List.setIfInBounds_toArray, List.set_cons_succ, List.set_cons_zero]; rfl) ?_
            first
              | refine pl_get (i := 6) rfl rfl HS0.out rfl (fun u hu => by (try dsimp only at hu); go_simp; rfl) (by simp only [List.setIfInBounds_toArray, List.set_cons_succ, List.set_cons_zero]; rfl) ?_
              | refine pl_skip (i := 6) rfl rfl HS0.out rfl (by simp only [List.setIfInBounds_toArray, List.set_cons_succ, List.set_cons_zero]; rfl) ?_
            first
              | refine pl_get (i := 7) rfl rfl HS0.out rfl (fun u hu => by (try dsimp only at hu); go_simp; rfl) (by simp only [List.setIfInBounds_toArray, List.set_cons_succ, List.set_cons_zero]; rfl) ?_
              | refine pl_skip (i := 7) rfl rfl HS0.out rfl (by simp only [List.setIfInBounds_toArray, List.set_cons_succ, List.set_cons_zero]; rfl) ?_
            first
              | refine pl_get (i := 8) rfl rfl HS0.out rfl (fun u hu => by (try dsimp only at hu); go_simp; rfl) (by simp only [List.setIfInBounds_toArray, List.set_cons_succ, List.set_cons_zero]; rfl) ?_
              | refine pl_skip (i := 8) rfl rfl HS0.out rfl (by simp only [List.setIfInBounds_toArray, List.set_cons_succ, List.set_cons_zero]; rfl) ?_
            first
              | refine pl_get (i := 9) rfl rfl HS0.out rfl (fun u hu => by (try dsimp only at hu); go_simp; rfl) (by simp only [List.setIfInBounds_toArray, List.set_cons_succ, List.set_cons_zero]; rfl) ?_
              | refine pl_skip (i := 9) rfl rfl HS0.out rfl (by simp only [List.setIfInBounds_toArray, List.set_cons_succ, List.set_cons_zero]; rfl) ?_
            first
              | refine pl_get (i := 11) rfl rfl HS0.out rfl (fun u hu => by (try dsimp only at hu); go_simp; rfl) (by simp only [List.setIfInBounds_toArray, List.set_cons_succ, List.set_cons_zero]; rfl) ?_
              | refine pl_skip (i := 11) rfl rfl HS0.out rfl (by simp only [List.setIfInBounds_toArray, List.set_cons_succ, List.set_cons_zero]; rfl) ?_
            first
              | refine pl_get (i := 12) rfl rfl HS0.out rfl (fun u hu => by (try dsimp only at hu); go_simp; rfl) (by simp only [List.setIfInBounds_toArray, List.set_cons_succ, List.set_cons_zero]; rfl) ?_
              | refine pl_skip (i := 12) rfl rfl HS0.out rfl (by simp only [List.setIfInBounds_toArray, List.set_cons_succ, List.set_cons_zero]; rfl) ?_
            first
              | refine pl_get (i := 13) rfl rfl HS0.out rfl (fun u hu => by (try dsimp only at hu); go_simp; rfl) (by simp only [List.setIfInBounds_toArray, List.set_cons_succ, List.set_cons_zero]; rfl) ?_
              | refine pl_skip (i := 13) rfl rfl HS0.out rfl (by simp only [List.setIfInBounds_toArray, List.set_cons_succ, List.set_cons_zero]; rfl) ?_
            refine pl_one (i := 10) rfl ?_
            go_wp2_with ((go_at_call 11; refine (note_any tb mb limit s r e i _ _ HDr.out.T HPB.out.ne Hs.out (by rw [absD_len]; unfold maxLen; omega) ok Hok.out _ HL.out).mono ?_; rintro _ w4 ⟨rfl, T4, k4⟩))
            have R4 := Lib.hid (HRr.out.map HPB.out k4)
            have K4 := HDr.out.hk.trans' k4 HPB.out.map
            have hnm : ¬ OneB mb ob := fun e => by have e' : ob = mb := e; omega
            have Hb4 := Lib.hid (blk_keep Hbr.out k4 hnm)
            have HS4 := Lib.hid (show w4.cell? ⟨ob, 1, none⟩ = some (.int .i64 s) ∧ w4.cell? ⟨ob, 2, none⟩ = some (.int .i64 r) ∧ w4.cell? ⟨ob, 3, none⟩ = some (.int .i64 e) ∧ w4.cell? ⟨ob, 4, none⟩ = some (.int .i64 i) from ⟨k4.some HS0.out.1 hnm, k4.some HS0.out.2.1 hnm, k4.some HS0.out.2.2.1 hnm, k4.some HS0.out.2.2.2 hnm⟩)
            have s4 := k4.size
            have HT4 := Lib.hid T4
            have hsr := HDr.out.lt
            refine pl_next (fun _ => HS4.out) ?_
            clear k4 T4 HS0 hnm
            refine pl_one (i := 14) rfl ?_
            go_wp2_with ((go_at_call 15; refine (rnote_any rb rb a cap limit s r e i N _ R4.out (by omega) (by omega) HDV.out.rise ok Hok.out N' HN'.out).mono ?_; rintro _ w5 ⟨rfl, R5, k5⟩))
            have hnr : ¬ OneB rb ob := fun e => by have e' : ob = rb := e; omega
            have T5 := HT4.out.one HPB.out k5
            have K5 := K4.trans' k5 HPB.out.one
            have Hb5 := Lib.hid (blk_keep Hb4.out k5 hnr)
            have HS5 := Lib.hid (show w5.cell? ⟨ob, 1, none⟩ = some (.int .i64 s) ∧ w5.cell? ⟨ob, 2, none⟩ = some (.int .i64 r) ∧ w5.cell? ⟨ob, 3, none⟩ = some (.int .i64 e) ∧ w5.cell? ⟨ob, 4, none⟩ = some (.int .i64 i) from ⟨k5.some HS4.out.1 hnr, k5.some HS4.out.2.1 hnr, k5.some HS4.out.2.2.1 hnr, k5.some HS4.out.2.2.2 hnr⟩)
            have HD5 := Lib.hid (show HS w w5 tb mb rb limit N' (k + 1) from ⟨T5, R5, Hrise.out, by have := HDV.out.len; omega, K5⟩)
            refine pl_next (fun _ => HS5.out) ?_
            clear k5 T5 R5 K5 K4 HS4 hnr
            first
              | refine pl_get (i := 15) rfl rfl HS5.out rfl (fun u hu => by (try dsimp only at hu); go_simp; rfl) (by simp only [List.setIfInBounds_toArray, List.set_cons_succ, List.set_cons_zero]; rfl) ?_
              | refine pl_skip (i := 15) rfl rfl HS5.out rfl (by simp only [List.setIfInBounds_toArray, List.set_cons_succ, List.set_cons_zero]; rfl) ?_
            first
              | refine pl_get (i := 16) rfl rfl HS5.out rfl (fun u hu => by (try dsimp only at hu); go_simp; rfl) (by simp only [List.setIfInBounds_toArray, List.set_cons_succ, List.set_cons_zero]; rfl) ?_
              | refine pl_skip (i := 16) rfl rfl HS5.out rfl (by simp only [List.setIfInBounds_toArray, List.set_cons_succ, List.set_cons_zero]; rfl) ?_
            first
              | refine pl_get (i := 17) rfl rfl HS5.out rfl (fun u hu => by (try dsimp only at hu); go_simp; rfl) (by simp only [List.setIfInBounds_toArray, List.set_cons_succ, List.set_cons_zero]; rfl) ?_
              | refine pl_skip (i := 17) rfl rfl HS5.out rfl (by simp only [List.setIfInBounds_toArray, List.set_cons_succ, List.set_cons_zero]; rfl) ?_
            first
              | refine pl_get (i := 18) rfl rfl HS5.out rfl (fun u hu => by (try dsimp only at hu); go_simp; rfl) (by simp only [List.setIfInBounds_toArray, List.set_cons_succ, List.set_cons_zero]; rfl) ?_
              | refine pl_skip (i := 18) rfl rfl HS5.out rfl (by simp only [List.setIfInBounds_toArray, List.set_cons_succ, List.set_cons_zero]; rfl) ?_
            first
              | refine pl_get (i := 19) rfl rfl HS5.out rfl (fun u hu => by (try dsimp only at hu); go_simp; rfl) (by simp only [List.setIfInBounds_toArray, List.set_cons_succ, List.set_cons_zero]; rfl) ?_
              | refine pl_skip (i := 19) rfl rfl HS5.out rfl (by simp only [List.setIfInBounds_toArray, List.set_cons_succ, List.set_cons_zero]; rfl) ?_
            first
              | refine pl_get (i := 20) rfl rfl HS5.out rfl (fun u hu => by (try dsimp only at hu); go_simp; rfl) (by simp only [List.setIfInBounds_toArray, List.set_cons_succ, List.set_cons_zero]; rfl) ?_
              | refine pl_skip (i := 20) rfl rfl HS5.out rfl (by simp only [List.setIfInBounds_toArray, List.set_cons_succ, List.set_cons_zero]; rfl) ?_
            first
              | refine pl_get (i := 21) rfl rfl HS5.out rfl (fun u hu => by (try dsimp only at hu); go_simp; rfl) (by simp only [List.setIfInBounds_toArray, List.set_cons_succ, List.set_cons_zero]; rfl) ?_
              | refine pl_skip (i := 21) rfl rfl HS5.out rfl (by simp only [List.setIfInBounds_toArray, List.set_cons_succ, List.set_cons_zero]; rfl) ?_
            first
              | refine pl_get (i := 22) rfl rfl HS5.out rfl (fun u hu => by (try dsimp only at hu); go_simp; rfl) (by simp only [List.setIfInBounds_toArray, List.set_cons_succ, List.set_cons_zero]; rfl) ?_
              | refine pl_skip (i := 22) rfl rfl HS5.out rfl (by simp only [List.setIfInBounds_toArray, List.set_cons_succ, List.set_cons_zero]; rfl) ?_
            first
              | refine pl_get (i := 23) rfl rfl HS5.out rfl (fun u hu => by (try dsimp only at hu); go_simp; rfl) (by simp only [List.setIfInBounds_toArray, List.set_cons_succ, List.set_cons_zero]; rfl) ?_
              | refine pl_skip (i := 23) rfl rfl HS5.out rfl (by simp only [List.setIfInBounds_toArray, List.set_cons_succ, List.set_cons_zero]; rfl) ?_
            first
              | refine pl_get (i := 24) rfl rfl HS5.out rfl (fun u hu => by (try dsimp only at hu); go_simp; rfl) (by simp only [List.setIfInBounds_toArray, List.set_cons_succ, List.set_cons_zero]; rfl) ?_
              | refine pl_skip (i := 24) rfl rfl HS5.out rfl (by simp only [List.setIfInBounds_toArray, List.set_cons_succ, List.set_cons_zero]; rfl) ?_
            first
              | refine pl_get (i := 25) rfl rfl HS5.out rfl (fun u hu => by (try dsimp only at hu); go_simp; rfl) (by simp only [List.setIfInBounds_toArray, List.set_cons_succ, List.set_cons_zero]; rfl) ?_
              | refine pl_skip (i := 25) rfl rfl HS5.out rfl (by simp only [List.setIfInBounds_toArray, List.set_cons_succ, List.set_cons_zero]; rfl) ?_
            first
              | refine pl_get (i := 26) rfl rfl HS5.out rfl (fun u hu => by (try dsimp only at hu); go_simp; rfl) (by simp only [List.setIfInBounds_toArray, List.set_cons_succ, List.set_cons_zero]; rfl) ?_
              | refine pl_skip (i := 26) rfl rfl HS5.out rfl (by simp only [List.setIfInBounds_toArray, List.set_cons_succ, List.set_cons_zero]; rfl) ?_
            refine pl_one (i := 27) rfl ?_
            go_wp2_with ((go_at_call 11; refine (nnote_any s r e i _).mono ?_; rintro _ w6 ⟨rfl, k6⟩))
            have HS6 := Lib.hid (ks4 HS5.out k6)
            have HD6 := Lib.hid (HD5.out.keep k6)
            have Hb6 := Lib.hid (blk_keep Hb5.out k6 (fun h => h))
            clear k6
            refine pl_next (fun _ => HS6.out) ?_
            first
              | refine pl_get (i := 28) rfl rfl HS6.out rfl (fun u hu => by (try dsimp only at hu); go_simp; rfl) (by simp only [List.setIfInBounds_toArray, List.set_cons_succ, List.set_cons_zero]; rfl) ?_
              | refine pl_skip (i := 28) rfl rfl HS6.out rfl (by simp only [List.setIfInBounds_toArray, List.set_cons_succ, List.set_cons_zero]; rfl) ?_
            refine pl_done ?_
            go_wp2_with fail
            go_meet
            exact ⟨rfl, N', HD6.out, Hb6.out⟩
          · obtain ⟨v, hv⟩ := load_case limit oz on
            have HV := Lib.hid hv
            obtain ⟨a, cap, R0⟩ := HDV.out.R
            have HR0 := Lib.hid R0
            have HsubV := Lib.hid ((Hse.out.keep HDV.out.hk).sub (c := oc))
            clear hv R0
            go_wp2_with (first
              | (at_builtin
                 refine wpList_append_sub rfl (.tmp 79) (.tmp 81) 38 rfl Try.underlying38 info41' (by kernel_rfl) (by decide) (by decide) rfl (Own.empty V (Nat.le_refl _) 41 4 encSeen) encSeen_len encSeen_one rfl (HsubV.out.keep ((Keep.refl NoB V).alloc _)) (by rw [seL_len]; simp; omega) (by simp) (List.nil_append _) ?_
                 intro a4 c4 w4 O4 k4
                 have k44 : Keep NoB V w4 := (Own.empty V (Nat.le_refl _) 41 4 encSeen).knob ((Keep.refl NoB V).alloc _) k4
                 rw [seL_len] at O4 ⊢
                 have HO4 := Lib.hid O4
                 clear k4 O4))
            have HD4 := Lib.hid (HDV.out.keep k44)
            have Hb4 := Lib.hid (blk_keep HbV.out k44 (fun h => h))
            have HR4 := Lib.hid (HR0.out.keep0 k44)
            have HseO := Lib.hid (seA_own HO4.out Hse.out.1)
            have hmb4 : ∀ b off, a4 = some ⟨b, off, none⟩ → b ≠ mb := by
              intro b off e
              subst e
              exact HO4.out.ne_map HD4.out.T.map b rfl
            obtain ⟨L', hL'⟩ : ∃ L', (if v = true then absD (seL oz on) else absD N) = L' := ⟨_, rfl⟩
            have HL' := Lib.hid hL'
            clear hL' k44 x0 x1 x2 x3 x4 x5 xl bx
            refine (load_all tb mb limit (absD N) a4 on c4 oz _ HD4.out.T HPB.out.ne HseO.out hmb4 (by omega) v HV.out L' HL'.out).mono ?_
            rintro _ w5 ⟨rfl, T5, k5⟩
            have HT5 := Lib.hid T5
            have HR5 := Lib.hid (HR4.out.map HPB.out k5)
            have HK5 := Lib.hid (HD4.out.hk.trans' k5 HPB.out.map)
            have Hb5 := Lib.hid (blk_keep Hb4.out k5 (fun e => by have e' : ob = mb := e; omega))
            have HO5 := Lib.hid (HO4.out.keep k5 (fun g hg e => by have := HO4.out.fresh g hg; have e' : g = mb := e; omega))
            have Hse5 := Lib.hid (Hse.out.keep HK5.out)
            have bx := Hb5.out
            have x0 := blk_cell bx 0
            have x1 := blk_cell bx 1
            have x2 := blk_cell bx 2
            have x3 := blk_cell bx 3
            have x4 := blk_cell bx 4
            have x5 := blk_cell bx 5
            have xl := blk_lt bx
            simp at x0 x1 x2 x3 x4 x5
            clear T5 k5 hmb4 bx HO4 Hb4 HR4 HD4 HseO
            cases v
            · obtain rfl : absD N = L' := HL'.out
              go_wp2_with fail
              refine (may_all rb rb a cap limit N oa on oc oz _ HR5.out Hse5.out (by omega) false HV.out).mono ?_
              rintro _ w8o ⟨rfl, k6⟩
              go_wp2_with fail
              refine (nload_any a4 on c4 _).mono ?_
              rintro _ w8 ⟨rfl, rfl⟩
              have HT8 := Lib.hid (HT5.out.keep k6 (fun h => h) (fun h => h))
              have HR8 := Lib.hid (HR5.out.keep0 k6)
              have HK8 := Lib.hid (HK5.out.trans k6)
              have Hb8 := Lib.hid (blk_keep Hb5.out k6 (fun h => h))
              have HO8 := Lib.hid (HO5.out.keep k6 (fun _ _ h => h))
              have Hdis := Lib.hid (show ∀ g, (Value.slice a N.length cap).ownBlock = some g → ¬ (Value.slice a4 on c4).ownBlock = some g from fun g h1 h2 => by have := own_lt HR0.out.own h1; have := HO5.out.fresh g h2; omega)
              obtain ⟨NR, hNR⟩ : ∃ l, N = l := ⟨_, rfl⟩
              have HNR := Lib.hid (show RiseD NR ∧ NR.length ≤ 1000 + (k + 1) from by rw [← hNR]; exact ⟨HDV.out.rise, by have := HDV.out.len; omega⟩)
              rw [hNR] at HT8 HR8 Hdis
              clear x0 x1 x2 x3 x4 x5 xl k6 hNR
              go_wp2_with fail
              go_loopw [107] (fun iv wr => ∃ (m : Nat) (M : List SE), m ≤ on ∧ iv = .int .i64 (m : Int) ∧ M.length = on ∧ Own wr V.heap.size 41 4 encSeen (.slice a4 on c4) M ∧ Keep (SIn (.slice a4 on c4)) w8 wr) (fun iv _ => on - (intOf iv).toNat)
              case atStart => exact ⟨0, seL oz on, Nat.zero_le _, rfl, seL_len _ _, HO8.out, Keep.refl _ _⟩
              case round =>
                obtain ⟨m, M, hm, rfl, hMl, Om, km⟩ := hrel
                have Hkm := Lib.hid km
                have HMl := Lib.hid hMl
                have Om' : Own wr V.heap.size 41 4 encSeen (.slice a4 M.length c4) M := by rw [hMl]; exact Om
                have HOm := Lib.hid Om'
                clear Om
                by_cases hmn : m < on
                · obtain ⟨x, hx⟩ : ∃ x, M[m]? = some x := ⟨_, List.getElem?_eq_getElem (by omega)⟩
                  obtain ⟨g, cap', hvv, hg1, hg2, hcx⟩ := Om'.cells encSeen_len hx
                  have Hvv := Lib.hid hvv
                  have Hx := Lib.hid hx
                  have m1 := hcx 1 _ rfl
                  obtain ⟨y0, y1, y2, y3⟩ := x
                  obtain rfl : a4 = some ⟨g, 0, none⟩ := by cases hvv; rfl
                  have fg : wr.frozen? ⟨g, m * 4 + 1, none⟩ = false := HOm.out.free rfl
                  simp at m1
                  clear hcx hx hvv Om' hMl km
                  go_wp2_with fail
                  go_roundw
                  case rel =>
                    have O3 := (World.ownsRow.stored HOm.out (m * 4 + 1) (.int .i64 (wrap64 (y1 + 1)))).1
                    rw [inc_set _ M m (y0, y1, y2, y3) Hx.out] at O3
                    have O4 : Own (wr.setCell ⟨g, m * 4 + 1, none⟩ (.int .i64 (wrap64 (y1 + 1)))) V.heap.size 41 4 encSeen (.slice (some ⟨g, 0, none⟩) on c4) (M.set m (y0, wrap64 (y1 + 1), y2, y3)) := by
                      unfold Own
                      rw [List.length_set, ← HMl.out]
                      exact O3
                    exact ⟨m + 1, M.set m (y0, wrap64 (y1 + 1), y2, y3), hmn, by go_num, by rw [List.length_set]; exact HMl.out, O4, Hkm.out.setCell (p := ⟨g, m * 4 + 1, none⟩) (Or.inr rfl) _⟩
                  case measure => simp [intOf]; omega
                · have hd9 : decide ((m : Int) < (on : Int)) = false := decide_eq_false (by omega)
                  clear hMl Om' km
                  go_wp2_with fail
                  go_meet
                  have hno : ∀ j, j < V.heap.size → ¬ SIn (.slice a4 on c4) j := fun j hj e => by have := HO8.out.fresh j e; omega
                  have h1 := HPB.out.hi1
                  have h2 := HPB.out.hi2
                  exact ⟨rfl, NR, ⟨HT8.out.keep Hkm.out (hno tb (by omega)) (hno mb (by omega)), ⟨_, _, HR8.out.keep Hkm.out (hno rb (by omega)) (fun g hg e => Hdis.out g hg e)⟩, HNR.out.1, HNR.out.2, HK8.out.trans' Hkm.out (fun j hj e => by have := HO8.out.fresh j e; have := HDV.out.hk.size; omega)⟩, blk_keep Hb8.out Hkm.out (hno ob (by omega))⟩
            · obtain rfl : absD (seL oz on) = L' := HL'.out
              go_wp2_with fail
              refine (may_all rb rb a cap limit N oa on oc oz _ HR5.out Hse5.out (by omega) true HV.out).mono ?_
              rintro _ w6o ⟨rfl, k6⟩
              go_wp2_with fail
              refine (nload_any a4 on c4 _).mono ?_
              rintro _ w6 ⟨rfl, rfl⟩
              have HT6 := Lib.hid (HT5.out.keep k6 (fun h => h) (fun h => h))
              have HR6 := Lib.hid (HR5.out.keep0 k6)
              have HK6 := Lib.hid (HK5.out.trans k6)
              have Hb6 := Lib.hid (blk_keep Hb5.out k6 (fun h => h))
              have HO6 := Lib.hid (HO5.out.keep k6 (fun _ _ h => h))
              have Hsub6 := Lib.hid ((Hse5.out.keep k6).sub (c := oc))
              clear x0 x1 x2 x3 x4 x5 xl k6
              have bx := Hb6.out
              have x0 := blk_cell bx 0
              have x1 := blk_cell bx 1
              have x2 := blk_cell bx 2
              have x3 := blk_cell bx 3
              have x4 := blk_cell bx 4
              have x5 := blk_cell bx 5
              have xl := blk_lt bx
              simp at x0 x1 x2 x3 x4 x5
              clear bx
              go_wp2_with (first
                | (at_builtin
                   refine wpList_append_sub rfl (.tmp 99) (.tmp 101) 38 rfl Try.underlying38 info41' (by kernel_rfl) (by decide) (by decide) rfl (Own.empty w6 (Nat.le_refl _) 41 4 encSeen) encSeen_len encSeen_one rfl (Hsub6.out.keep ((Keep.refl NoB w6).alloc _)) (by rw [seL_len]; simp; omega) (by simp) (List.nil_append _) ?_
                   intro a7 c7 w7 O7 k7
                   have k77 : Keep NoB w6 w7 := (Own.empty w6 (Nat.le_refl _) 41 4 encSeen).knob ((Keep.refl NoB w6).alloc _) k7
                   have HO7 := Lib.hid O7
                   have R7 := HR6.out.keep0 k77
                   have d0 := blk_cell R7.blk 0
                   have dl := blk_lt R7.blk
                   have df := blk_free R7.blk 0
                   have HR7 := Lib.hid R7
                   simp at d0
                   clear k7 O7 R7 x0 x1 x2 x3 x4 x5 xl))
              have b9 := blk_setCell (i := 0) HR7.out.blk (.slice a7 (seL oz on).length c7)
              have k9 : Keep (OneB rb) w7 (w7.setCell ⟨rb, 0, none⟩ (.slice a7 (seL oz on).length c7)) := (Keep.refl (OneB rb) w7).setCell (p := ⟨rb, 0, none⟩) (Or.inr rfl) _
              have hle6 : rb ≤ w6.heap.size := by have := blk_lt HR6.out.blk; omega
              have O9 := (HO7.out.mono hle6).keep k9 (fun g hg e => HO7.out.ne HR7.out.blk (by decide) g hg e)
              simp at b9
              generalize w7.setCell ⟨rb, 0, none⟩ (.slice a7 (seL oz on).length c7) = w8 at b9 k9 O9 ⊢
              have HR8 := Lib.hid (show RT w8 rb rb a7 c7 limit (seL oz on) from ⟨b9, O9⟩)
              have HT8 := Lib.hid ((HT6.out.keep k77 (fun h => h) (fun h => h)).one HPB.out k9)
              have HK8 := Lib.hid ((HK6.out.trans k77).trans' k9 HPB.out.one)
              have Hb8 := Lib.hid (blk_keep (blk_keep Hb6.out k77 (fun h => h)) k9 (fun e => by have e' : ob = rb := e; omega))
              have HO8 := Lib.hid ((HO6.out.keep k77 (fun _ _ h => h)).keep k9 (fun g hg e => by have := HO6.out.fresh g hg; have e' : g = rb := e; omega))
              have Hdis := Lib.hid (show ∀ g, (Value.slice a7 (seL oz on).length c7).ownBlock = some g → ¬ (Value.slice a4 on c4).ownBlock = some g from fun g h1 h2 => by have := own_lt HO6.out h2; have := HO7.out.fresh g h1; omega)
              have hri : RiseD (seL oz on) := by
                have := HV.out
                cases this with
                | yes hl hr => exact seL_rise hr
              obtain ⟨NR, hNR⟩ : ∃ l, seL oz on = l := ⟨_, rfl⟩
              have HNR := Lib.hid (show RiseD NR ∧ NR.length ≤ 1000 + (k + 1) from by rw [← hNR, seL_len]; exact ⟨hri, by omega⟩)
              rw [hNR] at HT8 HR8 Hdis
              clear hri hNR b9 k9 O9 k77 d0 dl df
              go_wp2_with fail
              go_loopw [107] (fun iv wr => ∃ (m : Nat) (M : List SE), m ≤ on ∧ iv = .int .i64 (m : Int) ∧ M.length = on ∧ Own wr V.heap.size 41 4 encSeen (.slice a4 on c4) M ∧ Keep (SIn (.slice a4 on c4)) w8 wr) (fun iv _ => on - (intOf iv).toNat)
              case atStart => exact ⟨0, seL oz on, Nat.zero_le _, rfl, seL_len _ _, HO8.out, Keep.refl _ _⟩
              case round =>
                obtain ⟨m, M, hm, rfl, hMl, Om, km⟩ := hrel
                have Hkm := Lib.hid km
                have HMl := Lib.hid hMl
                have Om' : Own wr V.heap.size 41 4 encSeen (.slice a4 M.length c4) M := by rw [hMl]; exact Om
                have HOm := Lib.hid Om'
                clear Om
                by_cases hmn : m < on
                · obtain ⟨x, hx⟩ : ∃ x, M[m]? = some x := ⟨_, List.getElem?_eq_getElem (by omega)⟩
                  obtain ⟨g, cap', hvv, hg1, hg2, hcx⟩ := Om'.cells encSeen_len hx
                  have Hvv := Lib.hid hvv
                  have Hx := Lib.hid hx
                  have m1 := hcx 1 _ rfl
                  obtain ⟨y0, y1, y2, y3⟩ := x
                  obtain rfl : a4 = some ⟨g, 0, none⟩ := by cases hvv; rfl
                  have fg : wr.frozen? ⟨g, m * 4 + 1, none⟩ = false := HOm.out.free rfl
                  simp at m1
                  clear hcx hx hvv Om' hMl km
                  go_wp2_with fail
                  go_roundw
                  case rel =>
                    have O3 := (World.ownsRow.stored HOm.out (m * 4 + 1) (.int .i64 (wrap64 (y1 + 1)))).1
                    rw [inc_set _ M m (y0, y1, y2, y3) Hx.out] at O3
                    have O4 : Own (wr.setCell ⟨g, m * 4 + 1, none⟩ (.int .i64 (wrap64 (y1 + 1)))) V.heap.size 41 4 encSeen (.slice (some ⟨g, 0, none⟩) on c4) (M.set m (y0, wrap64 (y1 + 1), y2, y3)) := by
                      unfold Own
                      rw [List.length_set, ← HMl.out]
                      exact O3
                    exact ⟨m + 1, M.set m (y0, wrap64 (y1 + 1), y2, y3), hmn, by go_num, by rw [List.length_set]; exact HMl.out, O4, Hkm.out.setCell (p := ⟨g, m * 4 + 1, none⟩) (Or.inr rfl) _⟩
                  case measure => simp [intOf]; omega
                · have hd9 : decide ((m : Int) < (on : Int)) = false := decide_eq_false (by omega)
                  clear hMl Om' km
                  go_wp2_with fail
                  go_meet
                  have hno : ∀ j, j < V.heap.size → ¬ SIn (.slice a4 on c4) j := fun j hj e => by have := HO8.out.fresh j e; omega
                  have h1 := HPB.out.hi1
                  have h2 := HPB.out.hi2
                  exact ⟨rfl, NR, ⟨HT8.out.keep Hkm.out (hno tb (by omega)) (hno mb (by omega)), ⟨_, _, HR8.out.keep Hkm.out (hno rb (by omega)) (fun g hg e => Hdis.out g hg e)⟩, HNR.out.1, HNR.out.2, HK8.out.trans' Hkm.out (fun j hj e => by have := HO8.out.fresh j e; have := HDV.out.hk.size; omega)⟩, blk_keep Hb8.out Hkm.out (hno ob (by omega))⟩
          · go_wp2_with fail
            go_meet
            exact ⟨rfl, N, HDV.out.later (Nat.le_succ k), HbV.out⟩
        case rest =>
          obtain ⟨rfl, N', D, bx⟩ := hcut
          obtain ⟨a, cap, R⟩ := D.R
          obtain ⟨⟨v0, v1, v2⟩, hv⟩ : ∃ v, lookF limit (absD N') s r = v := ⟨_, rfl⟩
          have hlN : N'.length ≤ 1201 := by have := D.len; omega
          have Hv := Lib.hid hv
          have HD := Lib.hid D
          have HR := Lib.hid R
          have q1 := blk_cell bx 1
          have q2 := blk_cell bx 2
          have r0 := blk_cell R.blk 0
          simp at q1 q2 r0
          have HQ := Lib.hid (show wc.cell? ⟨ob, 1, none⟩ = some (.int .i64 s) ∧ wc.cell? ⟨ob, 2, none⟩ = some (.int .i64 r) ∧ wc.cell? ⟨rb, 0, none⟩ = some (.slice a N'.length cap) from ⟨q1, q2, r0⟩)
          have hol := blk_lt bx
          clear hv D R bx hkd r0
          as_aux_lemma =>
          go_wp2_with fail
          refine (look_any tb mb limit s r _ _ HD.out.T Hs.out (v0, v1, v2) Hv.out).mono ?_
          rintro _ u1 ⟨rfl, k1⟩
          have HD1 := Lib.hid (HD.out.keep k1)
          have HR1 := Lib.hid (HR.out.keep0 k1)
          have HQ1 := Lib.hid (ks3 HQ.out k1)
          have hol1 := Nat.lt_of_lt_of_le hol k1.size
          clear q1 q2 hol k1 HQ HD HR
          obtain ⟨q1, q2, _⟩ := HQ1.out
          go_wp2_with fail
          have kA : Keep NoB u1 (u1.alloc (.cells #[.int .i64 v1, .int .i64 v2] 29)) := (Keep.refl NoB u1).alloc _
          have bA := blk_new u1 (.cells #[.int .i64 v1, .int .i64 v2] 29)
          generalize World.alloc u1 (.cells #[.int .i64 v1, .int .i64 v2] 29) = uA at kA bA ⊢
          have holA := Nat.lt_of_lt_of_le hol1 kA.size
          clear hol1
          generalize u1.heap.size = pb at bA ⊢
          refine (rlook_any rb rb a cap limit s r N' _ (HR1.out.keep0 kA) (by omega) HD1.out.rise (v0, v1, v2) Hv.out).mono ?_
          rintro _ u2 ⟨rfl, k2⟩
          have K2 := kA.trans k2
          have bA2 := blk_keep bA k2 (fun h => h)
          have HD2 := Lib.hid (HD1.out.keep K2)
          have HR2 := Lib.hid (HR1.out.keep0 K2)
          have HQ2 := Lib.hid (ks3 HQ1.out K2)
          have hol2 := Nat.lt_of_lt_of_le holA k2.size
          clear q1 q2 holA kA bA k2 K2 HD1 HR1 HQ1
          obtain ⟨q1, q2, _⟩ := HQ2.out
          go_wp2_with fail
          have kB : Keep NoB u2 (u2.alloc (.cells #[.int .i64 v1, .int .i64 v2] 29)) := (Keep.refl NoB u2).alloc _
          have bB := blk_new u2 (.cells #[.int .i64 v1, .int .i64 v2] 29)
          have bA3 := blk_keep bA2 kB (fun h => h)
          generalize World.alloc u2 (.cells #[.int .i64 v1, .int .i64 v2] 29) = uB at kB bB bA3 ⊢
          have holB := Nat.lt_of_lt_of_le hol2 kB.size
          clear hol2 bA2
          generalize u2.heap.size = qb at bB ⊢
          refine (nlook_any s r _).mono ?_
          rintro _ u3 ⟨rfl, k3⟩
          have K3 := kB.trans k3
          have bA4 := blk_keep bA3 k3 (fun h => h)
          have bB4 := blk_keep bB k3 (fun h => h)
          have HD3 := Lib.hid (HD2.out.keep K3)
          have HR3 := Lib.hid (HR2.out.keep0 K3)
          have HQ3 := Lib.hid (ks3 HQ2.out K3)
          clear q1 q2 holB kB bB bA3 k3 K3 HD2 HR2 HQ2
          go_wp2_with fail
          have kC : Keep NoB u3 (u3.alloc (.cells #[.int .i64 0, .int .i64 0] 29)) := (Keep.refl NoB u3).alloc _
          have bC := blk_new u3 (.cells #[.int .i64 0, .int .i64 0] 29)
          have bA5 := blk_keep bA4 kC (fun h => h)
          have bB5 := blk_keep bB4 kC (fun h => h)
          have HD4 := Lib.hid (HD3.out.keep kC)
          have HR4 := Lib.hid (HR3.out.keep0 kC)
          have HQ4 := Lib.hid (ks3 HQ3.out kC)
          generalize World.alloc u3 (.cells #[.int .i64 0, .int .i64 0] 29) = uC at kC bC bA5 bB5 HD4 HR4 HQ4 ⊢
          generalize u3.heap.size = zb at bC ⊢
          have a0' := blk_cell bA5 0
          have a1' := blk_cell bA5 1
          have b0' := blk_cell bB5 0
          have b1' := blk_cell bB5 1
          have z0' := blk_cell bC 0
          have z1' := blk_cell bC 1
          simp at a0' a1' b0' b1' z0' z1'
          have HSc := Lib.hid (show uC.cell? ⟨pb, 0, none⟩ = some (.int .i64 v1) ∧ uC.cell? ⟨pb, 1, none⟩ = some (.int .i64 v2) ∧ uC.cell? ⟨qb, 0, none⟩ = some (.int .i64 v1) ∧ uC.cell? ⟨qb, 1, none⟩ = some (.int .i64 v2) ∧ uC.cell? ⟨zb, 0, none⟩ = some (.int .i64 0) ∧ uC.cell? ⟨zb, 1, none⟩ = some (.int .i64 0) ∧ uC.cell? ⟨rb, 0, none⟩ = some (.slice a N'.length cap) from ⟨a0', a1', b0', b1', z0', z1', HQ4.out.2.2⟩)
          clear a0' a1' b0' b1' z0' z1' bA4 bB4 bA5 bB5 bC kC HD3 HR3 HQ3 HQ4
          refine wp_region_pl (fun u => u.cell? ⟨pb, 0, none⟩ = some (.int .i64 v1) ∧ u.cell? ⟨pb, 1, none⟩ = some (.int .i64 v2) ∧ u.cell? ⟨qb, 0, none⟩ = some (.int .i64 v1) ∧ u.cell? ⟨qb, 1, none⟩ = some (.int .i64 v2) ∧ u.cell? ⟨zb, 0, none⟩ = some (.int .i64 0) ∧ u.cell? ⟨zb, 1, none⟩ = some (.int .i64 0) ∧ u.cell? ⟨rb, 0, none⟩ = some (.slice a N'.length cap)) [] (.rd 0 (.rd 1 (.rd 2 (.rd 3 (.rd 4 (.rd 5 (.rd 6 (.rd 7 (.rd 8 (.rd 9 (.rd 10 (.rd 11 (.rd 12 (.rd 13 (.rd 14 (.rd 15 (.rd 16 (.rd 17 (.rd 18 (.rd 20 (.rd 21 (.rd 22 (.rd 23 (.rd 24 (.one 19 (.rd 25 (.rd 26 (.rd 27 (.rd 28 (.rd 30 (.rd 31 (.rd 32 (.rd 33 (.one 29 (.one 34 (.rd 35 (.rd 36 .done))))))))))))))))))))))))))))))))))))) (by kernel_rfl) (by kernel_rfl) (by kernel_rfl) (by kernel_rfl) (by intro c b d v u h; cases d <;> exact h) ?_
          have kd0 : Keep NoB uC uC.drew := (Keep.refl NoB uC).drew
          have HS0 := Lib.hid (ks7 HSc.out kd0)
          have HD0 := Lib.hid (HD4.out.keep kd0)
          have HR0 := Lib.hid (HR4.out.keep0 kd0)
          clear kd0 HSc HD4 HR4
          first
            | refine pl_get (i := 0) rfl rfl HS0.out rfl (fun u hu => by (try dsimp only at hu); go_simp; rfl) (by simp only [List.setIfInBounds_toArray, List.set_cons_succ, List.set_cons_zero]; rfl) ?_
            | refine pl_skip (i := 0) rfl rfl HS0.out rfl (by simp only [List.setIfInBounds_toArray, List.set_cons_succ, List.set_cons_zero]; rfl) ?_
          first
            | refine pl_get (i := 1) rfl rfl HS0.out rfl (fun u hu => by (try dsimp only at hu); go_simp; rfl) (by simp only [List.setIfInBounds_toArray, List.set_cons_succ, List.set_cons_zero]; rfl) ?_
            | refine pl_skip (i := 1) rfl rfl HS0.out rfl (by simp only [List.setIfInBounds_toArray, List.set_cons_succ, List.set_cons_zero]; rfl) ?_
          first
            | refine pl_get (i := 2) rfl rfl HS0.out rfl (fun u hu => by (try dsimp only at hu); go_simp; rfl) (by simp only [List.setIfInBounds_toArray, List.set_cons_succ, List.set_cons_zero]; rfl) ?_
            | refine pl_skip (i := 2) rfl rfl HS0.out rfl (by simp only [List.setIfInBounds_toArray, List.set_cons_succ, List.set_cons_zero]; rfl) ?_
          first
            | refine pl_get (i := 3) rfl rfl HS0.out rfl (fun u hu => by (try dsimp only at hu); go_simp; rfl) (by simp only [List.setIfInBounds_toArray, List.set_cons_succ, List.set_cons_zero]; rfl) ?_
            | refine pl_skip (i := 3) rfl rfl HS0.out rfl (by simp only [List.setIfInBounds_toArray, List.set_cons_succ, List.set_cons_zero]; rfl) ?_
          first
            | refine pl_get (i := 4) rfl rfl HS0.out rfl (fun u hu => by (try dsimp only at hu); go_simp; rfl) (by simp only [List.setIfInBounds_toArray, List.set_cons_succ, List.set_cons_zero]; rfl) ?_
            | refine pl_skip (i := 4) rfl rfl HS0.out rfl (by simp only [List.setIfInBounds_toArray, List.set_cons_succ, List.set_cons_zero]; rfl) ?_
          first
            | refine pl_get (i := 5) rfl rfl HS0.out rfl (fun u hu => by (try dsimp only at hu); go_simp; rfl) (by simp only [List.setIfInBounds_toArray, List.set_cons_succ, List.set_cons_zero]; rfl) ?_
            | refine pl_skip (i := 5) rfl rfl HS0.out rfl (by simp only [List.setIfInBounds_toArray, List.set_cons_succ, List.set_cons_zero]; rfl) ?_
          first
            | refine pl_get (i := 6) rfl rfl HS0.out rfl (fun u hu => by (try dsimp only at hu); go_simp; rfl) (by simp only [List.setIfInBounds_toArray, List.set_cons_succ, List.set_cons_zero]; rfl) ?_
            | refine pl_skip (i := 6) rfl rfl HS0.out rfl (by simp only [List.setIfInBounds_toArray, List.set_cons_succ, List.set_cons_zero]; rfl) ?_
          first
            | refine pl_get (i := 7) rfl rfl HS0.out rfl (fun u hu => by (try dsimp only at hu); go_simp; rfl) (by simp only [List.setIfInBounds_toArray, List.set_cons_succ, List.set_cons_zero]; rfl) ?_
            | refine pl_skip (i := 7) rfl rfl HS0.out rfl (by simp only [List.setIfInBounds_toArray, List.set_cons_succ, List.set_cons_zero]; rfl) ?_
          first
            | refine pl_get (i := 8) rfl rfl HS0.out rfl (fun u hu => by (try dsimp only at hu); go_simp; rfl) (by simp only [List.setIfInBounds_toArray, List.set_cons_succ, List.set_cons_zero]; rfl) ?_
            | refine pl_skip (i := 8) rfl rfl HS0.out rfl (by simp only [List.setIfInBounds_toArray, List.set_cons_succ, List.set_cons_zero]; rfl) ?_
          first
            | refine pl_get (i := 9) rfl rfl HS0.out rfl (fun u hu => by (try dsimp only at hu); go_simp; rfl) (by simp only [List.setIfInBounds_toArray, List.set_cons_succ, List.set_cons_zero]; rfl) ?_
            | refine pl_skip (i := 9) rfl rfl HS0.out rfl (by simp only [List.setIfInBounds_toArray, List.set_cons_succ, List.set_cons_zero]; rfl) ?_
          first
            | refine pl_get (i := 10) rfl rfl HS0.out rfl (fun u hu => by (try dsimp only at hu); go_simp; rfl) (by simp only [List.setIfInBounds_toArray, List.set_cons_succ, List.set_cons_zero]; rfl) ?_
            | refine pl_skip (i := 10) rfl rfl HS0.out rfl (by simp only [List.setIfInBounds_toArray, List.set_cons_succ, List.set_cons_zero]; rfl) ?_
          first
            | refine pl_get (i := 11) rfl rfl HS0.out rfl (fun u hu => by (try dsimp only at hu); go_simp; rfl) (by simp only [List.setIfInBounds_toArray, List.set_cons_succ, List.set_cons_zero]; rfl) ?_
            | refine pl_skip (i := 11) rfl rfl HS0.out rfl (by simp only [List.setIfInBounds_toArray, List.set_cons_succ, List.set_cons_zero]; rfl) ?_
          first
            | refine pl_get (i := 12) rfl rfl HS0.out rfl (fun u hu => by (try dsimp only at hu); go_simp; rfl) (by simp only [List.setIfInBounds_toArray, List.set_cons_succ, List.set_cons_zero]; rfl) ?_
            | refine pl_skip (i := 12) rfl rfl HS0.out rfl (by simp only [List.setIfInBounds_toArray, List.set_cons_succ, List.set_cons_zero]; rfl) ?_
          first
            | refine pl_get (i := 13) rfl rfl HS0.out rfl (fun u hu => by (try dsimp only at hu); go_simp; rfl) (by simp only [List.setIfInBounds_toArray, List.set_cons_succ, List.set_cons_zero]; rfl) ?_
            | refine pl_skip (i := 13) rfl rfl HS0.out rfl (by simp only [List.setIfInBounds_toArray, List.set_cons_succ, List.set_cons_zero]; rfl) ?_
          first
            | refine pl_get (i := 14) rfl rfl HS0.out rfl (fun u hu => by (try dsimp only at hu); go_simp; rfl) (by simp only [List.setIfInBounds_toArray, List.set_cons_succ, List.set_cons_zero]; rfl) ?_
            | refine pl_skip (i := 14) rfl rfl HS0.out rfl (by simp only [List.setIfInBounds_toArray, List.set_cons_succ, List.set_cons_zero]; rfl) ?_
          first
            | refine pl_get (i := 15) rfl rfl HS0.out rfl (fun u hu => by (try dsimp only at hu); go_simp; rfl) (by simp only [List.setIfInBounds_toArray, List.set_cons_succ, List.set_cons_zero]; rfl) ?_
            | refine pl_skip (i := 15) rfl rfl HS0.out rfl (by simp only [List.setIfInBounds_toArray, List.set_cons_succ, List.set_cons_zero]; rfl) ?_
          first
            | refine pl_get (i := 16) rfl rfl HS0.out rfl (fun u hu => by (try dsimp only at hu); go_simp; rfl) (by simp only [List.setIfInBounds_toArray, List.set_cons_succ, List.set_cons_zero]; rfl) ?_
            | refine pl_skip (i := 16) rfl rfl HS0.out rfl (by simp only [List.setIfInBounds_toArray, List.set_cons_succ, List.set_cons_zero]; rfl) ?_
          first
            | refine pl_get (i := 17) rfl rfl HS0.out rfl (fun u hu => by (try dsimp only at hu); go_simp; rfl) (by simp only [List.setIfInBounds_toArray, List.set_cons_succ, List.set_cons_zero]; rfl) ?_
            | refine pl_skip (i := 17) rfl rfl HS0.out rfl (by simp only [List.setIfInBounds_toArray, List.set_cons_succ, List.set_cons_zero]; rfl) ?_
          first
            | refine pl_get (i := 18) rfl rfl HS0.out rfl (fun u hu => by (try dsimp only at hu); go_simp; rfl) (by simp only [List.setIfInBounds_toArray, List.set_cons_succ, List.set_cons_zero]; rfl) ?_
            | refine pl_skip (i := 18) rfl rfl HS0.out rfl (by simp only [List.setIfInBounds_toArray, List.set_cons_succ, List.set_cons_zero]; rfl) ?_
          first
            | refine pl_get (i := 20) rfl rfl HS0.out rfl (fun u hu => by (try dsimp only at hu); go_simp; rfl) (by simp only [List.setIfInBounds_toArray, List.set_cons_succ, List.set_cons_zero]; rfl) ?_
            | refine pl_skip (i := 20) rfl rfl HS0.out rfl (by simp only [List.setIfInBounds_toArray, List.set_cons_succ, List.set_cons_zero]; rfl) ?_
          first
            | refine pl_get (i := 21) rfl rfl HS0.out rfl (fun u hu => by (try dsimp only at hu); go_simp; rfl) (by simp only [List.setIfInBounds_toArray, List.set_cons_succ, List.set_cons_zero]; rfl) ?_
            | refine pl_skip (i := 21) rfl rfl HS0.out rfl (by simp only [List.setIfInBounds_toArray, List.set_cons_succ, List.set_cons_zero]; rfl) ?_
          first
            | refine pl_get (i := 22) rfl rfl HS0.out rfl (fun u hu => by (try dsimp only at hu); go_simp; rfl) (by simp only [List.setIfInBounds_toArray, List.set_cons_succ, List.set_cons_zero]; rfl) ?_
            | refine pl_skip (i := 22) rfl rfl HS0.out rfl (by simp only [List.setIfInBounds_toArray, List.set_cons_succ, List.set_cons_zero]; rfl) ?_
          first
            | refine pl_get (i := 23) rfl rfl HS0.out rfl (fun u hu => by (try dsimp only at hu); go_simp; rfl) (by simp only [List.setIfInBounds_toArray, List.set_cons_succ, List.set_cons_zero]; rfl) ?_
            | refine pl_skip (i := 23) rfl rfl HS0.out rfl (by simp only [List.setIfInBounds_toArray, List.set_cons_succ, List.set_cons_zero]; rfl) ?_
          first
            | refine pl_get (i := 24) rfl rfl HS0.out rfl (fun u hu => by (try dsimp only at hu); go_simp; rfl) (by simp only [List.setIfInBounds_toArray, List.set_cons_succ, List.set_cons_zero]; rfl) ?_
            | refine pl_skip (i := 24) rfl rfl HS0.out rfl (by simp only [List.setIfInBounds_toArray, List.set_cons_succ, List.set_cons_zero]; rfl) ?_
          refine pl_one (i := 19) rfl ?_
          go_wp2_with ((go_at_call 13; refine (len_any tb mb limit _ _ HD0.out.T).mono ?_; rintro _ wz ⟨rfl, rfl⟩))
          rw [absD_len]
          refine pl_next (fun _ => HS0.out) ?_
          first
            | refine pl_get (i := 25) rfl rfl HS0.out rfl (fun u hu => by (try dsimp only at hu); go_simp; rfl) (by simp only [List.setIfInBounds_toArray, List.set_cons_succ, List.set_cons_zero]; rfl) ?_
            | refine pl_skip (i := 25) rfl rfl HS0.out rfl (by simp only [List.setIfInBounds_toArray, List.set_cons_succ, List.set_cons_zero]; rfl) ?_
          first
            | refine pl_get (i := 26) rfl rfl HS0.out rfl (fun u hu => by (try dsimp only at hu); go_simp; rfl) (by simp only [List.setIfInBounds_toArray, List.set_cons_succ, List.set_cons_zero]; rfl) ?_
            | refine pl_skip (i := 26) rfl rfl HS0.out rfl (by simp only [List.setIfInBounds_toArray, List.set_cons_succ, List.set_cons_zero]; rfl) ?_
          first
            | refine pl_get (i := 27) rfl rfl HS0.out rfl (fun u hu => by (try dsimp only at hu); go_simp; rfl) (by simp only [List.setIfInBounds_toArray, List.set_cons_succ, List.set_cons_zero]; rfl) ?_
            | refine pl_skip (i := 27) rfl rfl HS0.out rfl (by simp only [List.setIfInBounds_toArray, List.set_cons_succ, List.set_cons_zero]; rfl) ?_
          first
            | refine pl_get (i := 28) rfl rfl HS0.out rfl (fun u hu => by (try dsimp only at hu); go_simp; rfl) (by simp only [List.setIfInBounds_toArray, List.set_cons_succ, List.set_cons_zero]; rfl) ?_
            | refine pl_skip (i := 28) rfl rfl HS0.out rfl (by simp only [List.setIfInBounds_toArray, List.set_cons_succ, List.set_cons_zero]; rfl) ?_
          first
            | refine pl_get (i := 30) rfl rfl HS0.out rfl (fun u hu => by (try dsimp only at hu); go_simp; rfl) (by simp only [List.setIfInBounds_toArray, List.set_cons_succ, List.set_cons_zero]; rfl) ?_
            | refine pl_skip (i := 30) rfl rfl HS0.out rfl (by simp only [List.setIfInBounds_toArray, List.set_cons_succ, List.set_cons_zero]; rfl) ?_
          first
            | refine pl_get (i := 31) rfl rfl HS0.out rfl (fun u hu => by (try dsimp only at hu); go_simp; rfl) (by simp only [List.setIfInBounds_toArray, List.set_cons_succ, List.set_cons_zero]; rfl) ?_
            | refine pl_skip (i := 31) rfl rfl HS0.out rfl (by simp only [List.setIfInBounds_toArray, List.set_cons_succ, List.set_cons_zero]; rfl) ?_
          first
            | refine pl_get (i := 32) rfl rfl HS0.out rfl (fun u hu => by (try dsimp only at hu); go_simp; rfl) (by simp only [List.setIfInBounds_toArray, List.set_cons_succ, List.set_cons_zero]; rfl) ?_
            | refine pl_skip (i := 32) rfl rfl HS0.out rfl (by simp only [List.setIfInBounds_toArray, List.set_cons_succ, List.set_cons_zero]; rfl) ?_
          first
            | refine pl_get (i := 33) rfl rfl HS0.out rfl (fun u hu => by (try dsimp only at hu); go_simp; rfl) (by simp only [List.setIfInBounds_toArray, List.set_cons_succ, List.set_cons_zero]; rfl) ?_
            | refine pl_skip (i := 33) rfl rfl HS0.out rfl (by simp only [List.setIfInBounds_toArray, List.set_cons_succ, List.set_cons_zero]; rfl) ?_
          refine pl_one (i := 29) rfl ?_
          go_wp2_with ((go_at_call 14; refine (all_any tb mb limit _ _ HD0.out.T (by rw [absD_len]; omega) N' (allOf_absD N')).mono ?_; rintro _ w3 ⟨a3, c3, rfl, O3, k3⟩))
          have HS3 := Lib.hid (ks7 HS0.out k3)
          refine pl_next (fun _ => HS3.out) ?_
          refine pl_one (i := 34) rfl ?_
          go_wp2_with ((go_at_call 19; refine (same_any _ _ a3 a c3 cap N' _ O3 (HR0.out.keep0 k3).own (by omega)).mono ?_; rintro _ w4 ⟨rfl, k4⟩))
          have HS4 := Lib.hid (ks7 HS3.out k4)
          have HD4 := Lib.hid (HD0.out.keep (k3.trans k4))
          refine pl_next (fun _ => HS4.out) ?_
          first
            | refine pl_get (i := 35) rfl rfl HS4.out rfl (fun u hu => by (try dsimp only at hu); go_simp; rfl) (by simp only [List.setIfInBounds_toArray, List.set_cons_succ, List.set_cons_zero]; rfl) ?_
            | refine pl_skip (i := 35) rfl rfl HS4.out rfl (by simp only [List.setIfInBounds_toArray, List.set_cons_succ, List.set_cons_zero]; rfl) ?_
          first
            | refine pl_get (i := 36) rfl rfl HS4.out rfl (fun u hu => by (try dsimp only at hu); go_simp; rfl) (by simp only [List.setIfInBounds_toArray, List.set_cons_succ, List.set_cons_zero]; rfl) ?_
            | refine pl_skip (i := 36) rfl rfl HS4.out rfl (by simp only [List.setIfInBounds_toArray, List.set_cons_succ, List.set_cons_zero]; rfl) ?_
          refine pl_done ?_
          go_wp2_with fail
          go_roundw
          case rel => exact ⟨k + 1, N', hlt, h200, by go_num, HD4.out⟩
          case measure => simp [intOf]; omega
      · have hd1 : decide (1000 < (on : Int)) = true := decide_eq_true (by omega)
        have Hk := Lib.hid HD0.out.hk
        go_wp2_with fail
        go_ret
        exact ⟨rfl, (Hk.out.alloc _).below (fun _ _ h => h)⟩
    · have hout : (¬ k < len0 ∧ decide ((k : Int) < (len0 : Int)) = false) ∨ (k < len0 ∧ ¬ k < 200 ∧ decide ((k : Int) < 200) = false) := by
        by_cases h1 : k < len0
        · right
          have : ¬ k < 200 := fun h => hgo ⟨h1, h⟩
          exact ⟨h1, this, by simp; omega⟩
        · left
          exact ⟨h1, by simp; omega⟩
      have Hk := Lib.hid D.hk
      clear hgo D
      rcases hout with ⟨h1, hd⟩ | ⟨h1, h2, hd⟩
      all_goals
        go_wp2_with fail
        refine (nlen_any _).mono ?_
        rintro _ _ ⟨rfl, rfl⟩
        go_wp2_with fail
        refine (nall_any _).mono ?_
        rintro _ w9 ⟨rfl, k9⟩
        go_wp2
        go_ret
        exact ⟨rfl, (Hk.out.trans k9).below (fun _ _ h => h)⟩
end Go.Proofs.Ytlglnpokfmdpaaa
