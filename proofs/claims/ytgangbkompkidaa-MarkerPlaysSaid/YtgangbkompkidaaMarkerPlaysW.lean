/- The walk of MarkerPlays. -/
import Derived.Test.YtgangbkompkidaaMarkerZ
import Derived.Test.YtgangbkompkidaaMarkerWo
import Derived.Deep.Cut
import Derived.Deep.CutRange
import Derived.Deep.CutBlock
namespace Go.Proofs.Ytgangbkompkidaa
open Go Go.RowKit Go.Maps Go.Sort

theorem left0 (x : MK) (N : List MK) : leftG 0 x N = mdel x N := goes0 x N
theorem left1 (x : MK) (N : List MK) : leftG 1 x N = uptoM x.1 x.2.1 x.2.2 N := rfl
theorem left2 (x : MK) (N : List MK) : leftG 2 x N = pastM x.2.1 x.2.2 N := rfl

structure PB (w : World) (tb mb rb : Nat) : Prop where
  lo1 : w.heap.size ≤ tb
  lo2 : w.heap.size ≤ mb
  hi1 : tb < rb
  hi2 : mb < rb
  ne : tb ≠ mb

structure HS (w wx : World) (tb mb rb : Nat) (limit : Int) (N : List MK) (k : Nat) : Prop where
  T : Tab wx tb mb limit N
  R : ∃ a cap, RT wx rb rb a cap limit N
  rise : RiseM N
  len : N.length ≤ k
  hk : Keep NoB w wx

section
variable {w wx w' : World} {tb mb rb : Nat} {limit : Int} {N : List MK} {k : Nat}
theorem HS.keep (D : HS w wx tb mb rb limit N k) (hk : Keep NoB wx w') : HS w w' tb mb rb limit N k := by
  obtain ⟨a, cap, R⟩ := D.R
  exact ⟨D.T.keep hk (fun h => h) (fun h => h), ⟨a, cap, R.keep0 hk⟩, D.rise, D.len, D.hk.trans hk⟩
theorem HS.later (D : HS w wx tb mb rb limit N k) {k' : Nat} (h : k ≤ k') : HS w wx tb mb rb limit N k' := ⟨D.T, D.R, D.rise, by have := D.len; omega, D.hk⟩
theorem HS.lt (D : HS w wx tb mb rb limit N k) : rb < wx.heap.size := by obtain ⟨a, cap, R⟩ := D.R; exact blk_lt R.blk
theorem PB.map (h : PB w tb mb rb) : ∀ i, i < w.heap.size → OneB mb i → NoB i := fun i hi e => by have := h.lo2; have e' : i = mb := e; omega
theorem PB.one (h : PB w tb mb rb) : ∀ i, i < w.heap.size → OneB rb i → NoB i := fun i hi e => by have := h.lo1; have := h.hi1; have e' : i = rb := e; omega
theorem RT.map (h : PB w tb mb rb) {a : Option Addr} {cap : Nat} (R : RT wx rb rb a cap limit N) (hk : Keep (OneB mb) wx w') : RT w' rb rb a cap limit N := by
  have h2 := h.hi2
  exact R.keep hk (fun e => by have e' : rb = mb := e; omega) (fun g hg e => by have := R.own.fresh g hg; have e' : g = mb := e; omega)
theorem Tab.one (h : PB w tb mb rb) (T : Tab wx tb mb limit N) (hk : Keep (OneB rb) wx w') : Tab w' tb mb limit N := by
  have h1 := h.hi1
  have h2 := h.hi2
  exact T.keep hk (fun e => by have e' : tb = rb := e; omega) (fun e => by have e' : mb = rb := e; omega)
end

theorem ks6o {S : Nat → Prop} {w w' : World} {ob pb : Nat} {v1 v2 v3 v4 v5 v6 : Value} (h : w.cell? ⟨ob, 1, none⟩ = some v1 ∧ w.cell? ⟨ob, 2, none⟩ = some v2 ∧ w.cell? ⟨ob, 3, none⟩ = some v3 ∧ w.cell? ⟨pb, 0, none⟩ = some v4 ∧ w.cell? ⟨pb, 1, none⟩ = some v5 ∧ w.cell? ⟨pb, 2, none⟩ = some v6) (k : Keep S w w') (ho : ¬ S ob) (hp : ¬ S pb) : w'.cell? ⟨ob, 1, none⟩ = some v1 ∧ w'.cell? ⟨ob, 2, none⟩ = some v2 ∧ w'.cell? ⟨ob, 3, none⟩ = some v3 ∧ w'.cell? ⟨pb, 0, none⟩ = some v4 ∧ w'.cell? ⟨pb, 1, none⟩ = some v5 ∧ w'.cell? ⟨pb, 2, none⟩ = some v6 :=
  ⟨k.some h.1 ho, k.some h.2.1 ho, k.some h.2.2.1 ho, k.some h.2.2.2.1 hp, k.some h.2.2.2.2.1 hp, k.some h.2.2.2.2.2 hp⟩





set_option maxRecDepth 100000 in
set_option maxHeartbeats 40000000 in
theorem plays_walk (limit : Int) (a0 : Option Addr) (len0 cap0 : Nat) (z : Nat → MOp) (w : World) (h0 : IsOps w a0 len0 z) :
    Calls Try.prog 7 #[.int .i64 limit, .slice a0 len0 cap0] w fun e w' => e = .returned (.bool true) ∧ Below w.heap.size w w' := by
  obtain ⟨hmax, hok, hrow⟩ := h0
  unfold maxLen at hmax
  have Hok0 := Lib.hid hok
  have Hrow := Lib.hid hrow
  clear hok hrow
  go_enter Try.func7, Try.ntmps7
  go_wp2_with fail
  refine (awake_any _).mono ?_
  rintro _ w1 ⟨rfl, hk1⟩
  go_wp2_with fail
  refine (new_any limit _).mono ?_
  rintro _ w2 ⟨rfl, T2, hk2, hs2⟩
  have hPB : PB w (w1.heap.size + 1) w1.heap.size w2.heap.size := ⟨Nat.le_succ_of_le hk1.size, hk1.size, by omega, by omega, by omega⟩
  have k3 : Keep NoB w2 (w2.alloc (.cells #[.slice none 0 0, .int .i64 limit] 46)) := (Keep.refl NoB w2).alloc _
  have D3 : HS w (w2.alloc (.cells #[.slice none 0 0, .int .i64 limit] 46)) (w1.heap.size + 1) w1.heap.size w2.heap.size limit [] 0 :=
    ⟨T2.keep k3 (fun h => h) (fun h => h), ⟨none, 0, ⟨blk_new w2 _, Own.nil _ _ _ _ _⟩⟩, List.Pairwise.nil, Nat.zero_le _, (hk1.trans hk2).trans k3⟩
  clear T2 hk1 hk2 hs2 k3
  go_wp2_with fail
  generalize World.alloc w2 (.cells #[.slice none 0 0, .int .i64 limit] 46) = w3 at D3 ⊢
  generalize w1.heap.size + 1 = tb at D3 hPB ⊢
  generalize w1.heap.size = mb at D3 hPB ⊢
  generalize w2.heap.size = rb at D3 hPB ⊢
  have hp1 := hPB.hi1
  have hp2 := hPB.hi2
  have HPB := Lib.hid hPB
  have HD3 := Lib.hid D3
  clear hPB D3
  go_loopw [8] (fun i wr => ∃ (k : Nat) (N : List MK), k ≤ len0 ∧ k ≤ 200 ∧ i = .int .i64 k ∧ HS w wr tb mb rb limit N k) (fun i _ => len0 - (intOf i).toNat)
  case atStart => exact ⟨0, [], Nat.zero_le _, Nat.zero_le _, rfl, HD3.out⟩
  case round =>
    clear HD3
    obtain ⟨k, N, hk0, hk200, rfl, D⟩ := hrel
    by_cases hgo : k < len0 ∧ k < 200
    · obtain ⟨hlt, h200⟩ := hgo
      have h200i : decide ((k : Int) < 200) = true := by simp; omega
      rcases Hrow.out with h | ⟨b, off, rfl, hb, hc⟩
      · omega
      obtain ⟨l0, l1, l2, l3⟩ := hc k hlt
      have hop := Hok0.out k hlt
      replace l0 := D.hk.some l0 (fun h => h)
      replace l1 := D.hk.some l1 (fun h => h)
      replace l2 := D.hk.some l2 (fun h => h)
      replace l3 := D.hk.some l3 (fun h => h)
      have hb0 : b < wr.heap.size := Nat.lt_of_lt_of_le hb D.hk.size
      have hob : rb < wr.heap.size := D.lt
      clear hc
      generalize hzk : z k = x at l0 l1 l2 l3 hop
      clear hzk
      obtain ⟨kd, s, sa, sr⟩ := x
      simp only at l0 l1 l2 l3
      have Hx := Lib.hid (show mOk (s, sa, sr) from hop)
      have HD0 := Lib.hid D
      have hkd : kd = 0 ∨ kd = 1 ∨ kd = 2 ∨ kd = 3 ∨ kd = 4 ∨ ((kd == 0) = false ∧ (kd == 1) = false ∧ (kd == 2) = false ∧ (kd == 3) = false ∧ (kd == 4) = false) := by
        simp; omega
      clear D hop
      go_upto_block 2 with fail
      have bV := blk_alloc (o' := .cells #[.string s, .int .i64 sa, .int .i64 sr] 47) (blk_new wr (.cells #[.int .i64 kd, .string s, .int .i64 sa, .int .i64 sr] 27))
      have pV := blk_new (wr.alloc (.cells #[.int .i64 kd, .string s, .int .i64 sa, .int .i64 sr] 27)) (.cells #[.string s, .int .i64 sa, .int .i64 sr] 47)
      have DV := HD0.out.keep (((Keep.refl NoB wr).alloc (.cells #[.int .i64 kd, .string s, .int .i64 sa, .int .i64 sr] 27)).alloc (.cells #[.string s, .int .i64 sa, .int .i64 sr] 47))
      have e2 : (wr.alloc (.cells #[.int .i64 kd, .string s, .int .i64 sa, .int .i64 sr] 27)).heap.size = wr.heap.size + 1 := by simp
      rw [e2] at pV
      clear e2
      generalize World.alloc (World.alloc wr (.cells #[.int .i64 kd, .string s, .int .i64 sa, .int .i64 sr] 27)) (.cells #[.string s, .int .i64 sa, .int .i64 sr] 47) = V at bV pV DV ⊢
      obtain ⟨pb, hpb⟩ : ∃ t, wr.heap.size + 1 = t := ⟨_, rfl⟩
      obtain ⟨ob, hobe⟩ : ∃ t, wr.heap.size = t := ⟨_, rfl⟩
      rw [hpb] at pV ⊢
      rw [hobe] at bV hob ⊢
      have hpo : rb < pb := by omega
      have HDV := Lib.hid DV
      have HbV := Lib.hid bV
      have HpV := Lib.hid pV
      have hVo := blk_lt bV
      have hVr := DV.lt
      have hnm := Lib.hid (show ob ≠ mb from by omega)
      have hnp := Lib.hid (show pb ≠ mb from by omega)
      have hnr := Lib.hid (show ob ≠ rb from by omega)
      have hnq := Lib.hid (show pb ≠ rb from by omega)
      clear HD0 l0 l1 l2 l3 hb0 DV bV pV hpb hobe
      have hN200 : N.length ≤ 200 := by have := HDV.out.len; omega
      go_cut [9, 10, 11, 12, 13] from 21 to 192 (fun ov pv okv _ _ wx => ov = .pointer (some ⟨ob, 0, none⟩) ∧ pv = .pointer (some ⟨pb, 0, none⟩) ∧ okv = .bool true ∧ ∃ N', HS w wx tb mb rb limit N' (k + 1) ∧ wx.heap[ob]? = some (.cells #[.int .i64 kd, .string s, .int .i64 sa, .int .i64 sr] 27 (0, 0)) ∧ wx.heap[pb]? = some (.cells #[.string s, .int .i64 sa, .int .i64 sr] 47 (0, 0)))
      case first =>
        have bx := HbV.out
        have x0 := blk_cell bx 0
        have x1 := blk_cell bx 1
        have x2 := blk_cell bx 2
        have x3 := blk_cell bx 3
        have xl := blk_lt bx
        clear bx
        have bx := HpV.out
        have y0 := blk_cell bx 0
        have y1 := blk_cell bx 1
        have y2 := blk_cell bx 2
        have yl := blk_lt bx
        simp at x0 x1 x2 x3 y0 y1 y2
        clear bx
        obtain ⟨a, cap, R0⟩ := HDV.out.R
        have HR0 := Lib.hid R0
        clear R0
        rcases hkd with rfl | rfl | rfl | rfl | rfl | ⟨e0, e1, e2, e3, e4⟩
        · -- Set
          obtain ⟨v, hv⟩ : ∃ v, decide ((s, sa, sr) ∈ N ∨ (N.length : Int) < limit) = v := ⟨_, rfl⟩
          obtain ⟨N', hN'⟩ : ∃ l, msetM limit (s, sa, sr) N = l := ⟨_, rfl⟩
          have Hv := Lib.hid hv
          have HN' := Lib.hid hN'
          have Hrise := Lib.hid (show RiseM N' from by rw [← hN']; exact msetM_rise HDV.out.rise)
          have Hle := Lib.hid (show N'.length ≤ N.length + 1 from by rw [← hN']; exact msetM_len _ _ _)
          clear hv hN'
          go_wp2_with fail
          refine (set_any tb mb limit N s sa sr _ HDV.out.T Hx.out HDV.out.rise (by unfold maxLen; omega) v Hv.out N' HN'.out).mono ?_
          rintro _ w4 ⟨rfl, T4, k4⟩
          have R4 := Lib.hid (HR0.out.map HPB.out k4)
          have K4 := Lib.hid (HDV.out.hk.trans' k4 HPB.out.map)
          have Hb4 := Lib.hid (blk_keep HbV.out k4 (fun e => hnm.out e))
          have Hp4 := Lib.hid (blk_keep HpV.out k4 (fun e => hnp.out e))
          have s4 := k4.size
          have HT4 := Lib.hid T4
          clear k4 T4
          clear x0 x1 x2 x3 xl y0 y1 y2 yl
          cases v
          all_goals
            have bx := Hb4.out
            have x0 := blk_cell bx 0
            have x1 := blk_cell bx 1
            have x2 := blk_cell bx 2
            have x3 := blk_cell bx 3
            have xl := blk_lt bx
            clear bx
            have bx := Hp4.out
            have y0 := blk_cell bx 0
            have y1 := blk_cell bx 1
            have y2 := blk_cell bx 2
            have yl := blk_lt bx
            simp at x0 x1 x2 x3 y0 y1 y2
            clear bx
            go_wp2_with fail
            refine (rset_any rb rb a cap limit N (s, sa, sr) _ R4.out (by omega) (by omega) HDV.out.rise _ Hv.out N' HN'.out).mono ?_
            rintro _ w5 ⟨rfl, R5, k5⟩
            have T5 := HT4.out.one HPB.out k5
            have Hb5 := Lib.hid (blk_keep Hb4.out k5 (fun e => hnr.out e))
            have Hp5 := Lib.hid (blk_keep Hp4.out k5 (fun e => hnq.out e))
            have HD5 := Lib.hid (show HS w w5 tb mb rb limit N' (k + 1) from ⟨T5, R5, Hrise.out, by have := HDV.out.len; have := Hle.out; omega, K4.out.trans' k5 HPB.out.one⟩)
            clear k5 T5 R5
            clear x0 x1 x2 x3 xl y0 y1 y2 yl
            have bx := Hb5.out
            have x0 := blk_cell bx 0
            have x1 := blk_cell bx 1
            have x2 := blk_cell bx 2
            have x3 := blk_cell bx 3
            have xl := blk_lt bx
            clear bx
            have bx := Hp5.out
            have y0 := blk_cell bx 0
            have y1 := blk_cell bx 1
            have y2 := blk_cell bx 2
            have yl := blk_lt bx
            simp at x0 x1 x2 x3 y0 y1 y2
            clear bx
            go_wp2_with fail
            refine (nset_any s sa sr _).mono ?_
            rintro _ w6 ⟨rfl, k6⟩
            have HD6 := Lib.hid (HD5.out.keep k6)
            have Hb6 := Lib.hid (blk_keep Hb5.out k6 (fun h => h))
            have Hp6 := Lib.hid (blk_keep Hp5.out k6 (fun h => h))
            clear k6
            go_wp2_with fail
            go_meet
            exact ⟨rfl, rfl, rfl, N', HD6.out, Hb6.out, Hp6.out⟩
        · -- Clear
          obtain ⟨v, hv⟩ : ∃ v, decide ((s, sa, sr) ∈ N) = v := ⟨_, rfl⟩
          obtain ⟨N', hN'⟩ : ∃ l, mdel (s, sa, sr) N = l := ⟨_, rfl⟩
          have hgt : decide ((0 : Int) < (N.length : Int) - (N'.length : Int)) = v := by
            rw [← hv, ← hN']
            by_cases h : (s, sa, sr) ∈ N
            · have := mdel_in HDV.out.rise h
              rw [decide_eq_true h]
              exact decide_eq_true (by omega)
            · rw [mdel_not h, decide_eq_false h]
              exact decide_eq_false (by omega)
          have Hv := Lib.hid hv
          have HN2 := Lib.hid hN'
          have HN' := Lib.hid (show leftG 0 (s, sa, sr) N = N' from by rw [left0]; exact hN')
          have Hrise := Lib.hid (show RiseM N' from by rw [← hN']; exact mdel_rise HDV.out.rise)
          have Hle := Lib.hid (show N'.length ≤ N.length from by rw [← hN']; exact mdel_len _ _)
          have HW := Lib.hid (fun (u : World) (R : RT u rb rb a cap limit N) (h : rb ≤ u.heap.size) => rwithout_any rb rb a cap limit N (s, sa, sr) 0 (Or.inl rfl) u R h (by omega) N' HN'.out)
          obtain ⟨q, hq⟩ : ∃ q, (N.length : Int) - (N'.length : Int) = q := ⟨_, rfl⟩
          rw [hq] at HW hgt
          clear hv hN' hq
          cases v
          all_goals
            go_wp2_with fail
            refine wp_region_pl (fun u => u.cell? ⟨ob, 1, none⟩ = some (.string s) ∧ u.cell? ⟨ob, 2, none⟩ = some (.int .i64 sa) ∧ u.cell? ⟨ob, 3, none⟩ = some (.int .i64 sr) ∧ u.cell? ⟨pb, 0, none⟩ = some (.string s) ∧ u.cell? ⟨pb, 1, none⟩ = some (.int .i64 sa) ∧ u.cell? ⟨pb, 2, none⟩ = some (.int .i64 sr)) [] (.rd 0 (.rd 1 (.rd 2 (.rd 3 (.rd 4 (.rd 5 (.rd 6 (.rd 8 (.rd 9 (.one 7 (.one 10 (.rd 11 (.rd 12 (.rd 13 (.rd 14 (.rd 15 (.rd 16 (.rd 17 (.rd 18 (.rd 19 (.rd 20 (.one 21 (.rd 22 (.rd 23 (.one 24 .done))))))))))))))))))))))))) (by kernel_rfl) (by kernel_rfl) (by kernel_rfl) (by kernel_rfl) (by intro c b d v u h; cases d <;> exact h) ?_
            have kd0 : Keep NoB V V.drew := (Keep.refl NoB V).drew
            have HDr := Lib.hid (HDV.out.keep kd0)
            have HRr := Lib.hid (HR0.out.keep0 kd0)
            have Hbr := Lib.hid (blk_keep HbV.out kd0 (fun h => h))
            have Hpr := Lib.hid (blk_keep HpV.out kd0 (fun h => h))
            have HS0 := Lib.hid (ks6 ⟨x1, x2, x3, y0, y1, y2⟩ kd0)
            clear x0 x1 x2 x3 xl y0 y1 y2 yl
            clear kd0
            first
              | refine pl_get (i := 0) rfl rfl HS0.out rfl (fun u hu => by (try dsimp only at hu); go_simp; rfl) (by simp only [List.setIfInBounds_toArray, List.set_cons_succ, List.set_cons_zero]; rfl) ?_
              | refine pl_skip (i := 0) rfl rfl HS0.out rfl (by simp only [List.setIfInBounds_toArray, List.set_cons_succ, List.set_cons_zero]; rfl) ?_
            first
              | refine pl_get (i := 1) rfl rfl HS0.out rfl (fun u hu => by (try dsimp only at hu); go_simp; rfl) (by simp only [List.setIfInBounds_toArray, List.set_cons_succ, List.set_cons_zero]; rfl) ?_
              | refine pl_skip (i := 1) rfl rfl HS0.out rfl (by simp only [List.setIfInBounds_toArray, List.set_cons_succ, List.set_cons_zero]; rfl) ?_
            first
              | refine pl_get (i := 2) rfl rfl HS0.out rfl (fun u hu => by (try dsimp only at hu); go_simp; rfl) (by simp only [List.setIfInBounds_toArray, List.set_cons_succ, List.set_cons_zero]; rfl) ?_
              | refine pl_skip (i := 2) rfl rfl HS0.out rfl (by simp only [List.setIfInBounds_toArray, List.set_cons_succ, List.set_cons_zero]; rfl) ?_
            first
              | refine pl_get (i := 3) rfl rfl HS0.out rfl (fun u hu => by (try dsimp only at hu); go_simp; rfl) (by simp only [List.setIfInBounds_toArray, List.set_cons_succ, List.set_cons_zero]; rfl) ?_
              | refine pl_skip (i := 3) rfl rfl HS0.out rfl (by simp only [List.setIfInBounds_toArray, List.set_cons_succ, List.set_cons_zero]; rfl) ?_
            first
              | refine pl_get (i := 4) rfl rfl HS0.out rfl (fun u hu => by (try dsimp only at hu); go_simp; rfl) (by simp only [List.setIfInBounds_toArray, List.set_cons_succ, List.set_cons_zero]; rfl) ?_
              | refine pl_skip (i := 4) rfl rfl HS0.out rfl (by simp only [List.setIfInBounds_toArray, List.set_cons_succ, List.set_cons_zero]; rfl) ?_
            first
              | refine pl_get (i := 5) rfl rfl HS0.out rfl (fun u hu => by (try dsimp only at hu); go_simp; rfl) (by simp only [List.setIfInBounds_toArray, List.set_cons_succ, List.set_cons_zero]; rfl) ?_
              | refine pl_skip (i := 5) rfl rfl HS0.out rfl (by simp only [List.setIfInBounds_toArray, List.set_cons_succ, List.set_cons_zero]; rfl) ?_
            first
              | refine pl_get (i := 6) rfl rfl HS0.out rfl (fun u hu => by (try dsimp only at hu); go_simp; rfl) (by simp only [List.setIfInBounds_toArray, List.set_cons_succ, List.set_cons_zero]; rfl) ?_
              | refine pl_skip (i := 6) rfl rfl HS0.out rfl (by simp only [List.setIfInBounds_toArray, List.set_cons_succ, List.set_cons_zero]; rfl) ?_
            first
              | refine pl_get (i := 8) rfl rfl HS0.out rfl (fun u hu => by (try dsimp only at hu); go_simp; rfl) (by simp only [List.setIfInBounds_toArray, List.set_cons_succ, List.set_cons_zero]; rfl) ?_
              | refine pl_skip (i := 8) rfl rfl HS0.out rfl (by simp only [List.setIfInBounds_toArray, List.set_cons_succ, List.set_cons_zero]; rfl) ?_
            first
              | refine pl_get (i := 9) rfl rfl HS0.out rfl (fun u hu => by (try dsimp only at hu); go_simp; rfl) (by simp only [List.setIfInBounds_toArray, List.set_cons_succ, List.set_cons_zero]; rfl) ?_
              | refine pl_skip (i := 9) rfl rfl HS0.out rfl (by simp only [List.setIfInBounds_toArray, List.set_cons_succ, List.set_cons_zero]; rfl) ?_
            refine pl_one (i := 7) rfl ?_
            go_wp2_with ((go_at_call 15; refine (clear_any tb mb limit N s sa sr _ HDr.out.T Hx.out HDr.out.rise _ Hv.out N' HN2.out).mono ?_; rintro _ w4 ⟨rfl, T4, k4⟩))
            have R4 := Lib.hid (HRr.out.map HPB.out k4)
            have K4 := Lib.hid (HDr.out.hk.trans' k4 HPB.out.map)
            have Hb4 := Lib.hid (blk_keep Hbr.out k4 (fun e => hnm.out e))
            have Hp4 := Lib.hid (blk_keep Hpr.out k4 (fun e => hnp.out e))
            have HS4 := Lib.hid (ks6o HS0.out k4 (fun e => hnm.out e) (fun e => hnp.out e))
            have s4 := k4.size
            have HT4 := Lib.hid T4
            have hsr := HDr.out.lt
            refine pl_next (fun _ => HS4.out) ?_
            clear k4 T4 HS0
            refine pl_one (i := 10) rfl ?_
            go_wp2_with ((go_at_call 18; refine (HW.out _ R4.out (by omega)).mono ?_; rintro _ w5 ⟨rfl, R5, k5⟩))
            have T5 := HT4.out.one HPB.out k5
            have Hb5 := Lib.hid (blk_keep Hb4.out k5 (fun e => hnr.out e))
            have Hp5 := Lib.hid (blk_keep Hp4.out k5 (fun e => hnq.out e))
            have HS5 := Lib.hid (ks6o HS4.out k5 (fun e => hnr.out e) (fun e => hnq.out e))
            have HD5 := Lib.hid (show HS w w5 tb mb rb limit N' (k + 1) from ⟨T5, R5, Hrise.out, by have := HDV.out.len; have := Hle.out; omega, K4.out.trans' k5 HPB.out.one⟩)
            refine pl_next (fun _ => HS5.out) ?_
            clear k5 T5 R5 HS4
            first
              | refine pl_get (i := 11) rfl rfl HS5.out rfl (fun u hu => by (try dsimp only at hu); go_simp; rfl) (by simp only [List.setIfInBounds_toArray, List.set_cons_succ, List.set_cons_zero]; rfl) ?_
              | refine pl_skip (i := 11) rfl rfl HS5.out rfl (by simp only [List.setIfInBounds_toArray, List.set_cons_succ, List.set_cons_zero]; rfl) ?_
            first
              | refine pl_get (i := 12) rfl rfl HS5.out rfl (fun u hu => by (try dsimp only at hu); go_simp; rfl) (by simp only [List.setIfInBounds_toArray, List.set_cons_succ, List.set_cons_zero]; rfl) ?_
              | refine pl_skip (i := 12) rfl rfl HS5.out rfl (by simp only [List.setIfInBounds_toArray, List.set_cons_succ, List.set_cons_zero]; rfl) ?_
            first
              | refine pl_get (i := 13) rfl rfl HS5.out rfl (fun u hu => by (try dsimp only at hu); go_simp; rfl) (by simp only [List.setIfInBounds_toArray, List.set_cons_succ, List.set_cons_zero]; rfl) ?_
              | refine pl_skip (i := 13) rfl rfl HS5.out rfl (by simp only [List.setIfInBounds_toArray, List.set_cons_succ, List.set_cons_zero]; rfl) ?_
            first
              | refine pl_get (i := 14) rfl rfl HS5.out rfl (fun u hu => by (try dsimp only at hu); go_simp; rfl) (by simp only [List.setIfInBounds_toArray, List.set_cons_succ, List.set_cons_zero]; rfl) ?_
              | refine pl_skip (i := 14) rfl rfl HS5.out rfl (by simp only [List.setIfInBounds_toArray, List.set_cons_succ, List.set_cons_zero]; rfl) ?_
            first
              | refine pl_get (i := 15) rfl rfl HS5.out rfl (fun u hu => by (try dsimp only at hu); go_simp; rfl) (by simp only [List.setIfInBounds_toArray, List.set_cons_succ, List.set_cons_zero]; rfl) ?_
              | refine pl_skip (i := 15) rfl rfl HS5.out rfl (by simp only [List.setIfInBounds_toArray, List.set_cons_succ, List.set_cons_zero]; rfl) ?_
            first
              | refine pl_get (i := 16) rfl rfl HS5.out rfl (fun u hu => by (try dsimp only at hu); go_simp; rfl) (by simp only [List.setIfInBounds_toArray, List.set_cons_succ, List.set_cons_zero]; rfl) ?_
              | refine pl_skip (i := 16) rfl rfl HS5.out rfl (by simp only [List.setIfInBounds_toArray, List.set_cons_succ, List.set_cons_zero]; rfl) ?_
            first
              | refine pl_get (i := 17) rfl rfl HS5.out rfl (fun u hu => by (try dsimp only at hu); go_simp; rfl) (by simp only [List.setIfInBounds_toArray, List.set_cons_succ, List.set_cons_zero]; rfl) ?_
              | refine pl_skip (i := 17) rfl rfl HS5.out rfl (by simp only [List.setIfInBounds_toArray, List.set_cons_succ, List.set_cons_zero]; rfl) ?_
            first
              | refine pl_get (i := 18) rfl rfl HS5.out rfl (fun u hu => by (try dsimp only at hu); go_simp; rfl) (by simp only [List.setIfInBounds_toArray, List.set_cons_succ, List.set_cons_zero]; rfl) ?_
              | refine pl_skip (i := 18) rfl rfl HS5.out rfl (by simp only [List.setIfInBounds_toArray, List.set_cons_succ, List.set_cons_zero]; rfl) ?_
            first
              | refine pl_get (i := 19) rfl rfl HS5.out rfl (fun u hu => by (try dsimp only at hu); go_simp; rfl) (by simp only [List.setIfInBounds_toArray, List.set_cons_succ, List.set_cons_zero]; rfl) ?_
              | refine pl_skip (i := 19) rfl rfl HS5.out rfl (by simp only [List.setIfInBounds_toArray, List.set_cons_succ, List.set_cons_zero]; rfl) ?_
            first
              | refine pl_get (i := 20) rfl rfl HS5.out rfl (fun u hu => by (try dsimp only at hu); go_simp; rfl) (by simp only [List.setIfInBounds_toArray, List.set_cons_succ, List.set_cons_zero]; rfl) ?_
              | refine pl_skip (i := 20) rfl rfl HS5.out rfl (by simp only [List.setIfInBounds_toArray, List.set_cons_succ, List.set_cons_zero]; rfl) ?_
            refine pl_one (i := 21) rfl ?_
            go_wp2_with ((go_at_call 15; refine (nclear_any s sa sr _).mono ?_; rintro _ w6 ⟨rfl, k6⟩))
            have HS6 := Lib.hid (ks6 HS5.out k6)
            have HD6 := Lib.hid (HD5.out.keep k6)
            have Hb6 := Lib.hid (blk_keep Hb5.out k6 (fun h => h))
            have Hp6 := Lib.hid (blk_keep Hp5.out k6 (fun h => h))
            clear k6
            refine pl_next (fun _ => HS6.out) ?_
            first
              | refine pl_get (i := 22) rfl rfl HS6.out rfl (fun u hu => by (try dsimp only at hu); go_simp; rfl) (by simp only [List.setIfInBounds_toArray, List.set_cons_succ, List.set_cons_zero]; rfl) ?_
              | refine pl_skip (i := 22) rfl rfl HS6.out rfl (by simp only [List.setIfInBounds_toArray, List.set_cons_succ, List.set_cons_zero]; rfl) ?_
            first
              | refine pl_get (i := 23) rfl rfl HS6.out rfl (fun u hu => by (try dsimp only at hu); go_simp; rfl) (by simp only [List.setIfInBounds_toArray, List.set_cons_succ, List.set_cons_zero]; rfl) ?_
              | refine pl_skip (i := 23) rfl rfl HS6.out rfl (by simp only [List.setIfInBounds_toArray, List.set_cons_succ, List.set_cons_zero]; rfl) ?_
            refine pl_one (i := 24) rfl ?_
            go_wp2_with (fail)
            refine pl_next (fun _ => HS6.out) ?_
            refine pl_done ?_
            go_wp2_with fail
            go_meet
            exact ⟨rfl, rfl, rfl, N', HD6.out, Hb6.out, Hp6.out⟩
        · -- Upto
          obtain ⟨N', hN'⟩ : ∃ l, uptoM s sa sr N = l := ⟨_, rfl⟩
          have HN2 := Lib.hid hN'
          have HN' := Lib.hid (show leftG 1 (s, sa, sr) N = N' from hN')
          have Hrise := Lib.hid (show RiseM N' from by rw [← hN']; exact rise_filter' HDV.out.rise _)
          have Hle := Lib.hid (show N'.length ≤ N.length from by rw [← hN']; exact List.length_filter_le _ _)
          have Hcon := Lib.hid (fun (u : World) (T : Tab u tb mb limit N) => upto_any tb mb limit N u T (by omega) HDV.out.rise s sa sr)
          rw [hN'] at Hcon
          clear hN'
          go_wp2_with fail
          refine wp_region_pl (fun u => u.cell? ⟨ob, 1, none⟩ = some (.string s) ∧ u.cell? ⟨ob, 2, none⟩ = some (.int .i64 sa) ∧ u.cell? ⟨ob, 3, none⟩ = some (.int .i64 sr) ∧ u.cell? ⟨pb, 0, none⟩ = some (.string s) ∧ u.cell? ⟨pb, 1, none⟩ = some (.int .i64 sa) ∧ u.cell? ⟨pb, 2, none⟩ = some (.int .i64 sr)) [] (.rd 0 (.rd 1 (.rd 2 (.rd 3 (.rd 4 (.rd 5 (.rd 6 (.rd 8 (.rd 9 (.one 7 (.one 10 (.rd 11 (.rd 12 (.rd 13 (.rd 14 (.rd 15 (.rd 16 (.rd 17 (.rd 18 (.rd 19 (.one 20 (.rd 21 (.rd 22 (.one 23 .done)))))))))))))))))))))))) (by kernel_rfl) (by kernel_rfl) (by kernel_rfl) (by kernel_rfl) (by intro c b d v u h; cases d <;> exact h) ?_
          have kd0 : Keep NoB V V.drew := (Keep.refl NoB V).drew
          have HDr := Lib.hid (HDV.out.keep kd0)
          have HRr := Lib.hid (HR0.out.keep0 kd0)
          have Hbr := Lib.hid (blk_keep HbV.out kd0 (fun h => h))
          have Hpr := Lib.hid (blk_keep HpV.out kd0 (fun h => h))
          have HS0 := Lib.hid (ks6 ⟨x1, x2, x3, y0, y1, y2⟩ kd0)
          clear x0 x1 x2 x3 xl y0 y1 y2 yl
          clear kd0
          first
            | refine pl_get (i := 0) rfl rfl HS0.out rfl (fun u hu => by (try dsimp only at hu); go_simp; rfl) (by simp only [List.setIfInBounds_toArray, List.set_cons_succ, List.set_cons_zero]; rfl) ?_
            | refine pl_skip (i := 0) rfl rfl HS0.out rfl (by simp only [List.setIfInBounds_toArray, List.set_cons_succ, List.set_cons_zero]; rfl) ?_
          first
            | refine pl_get (i := 1) rfl rfl HS0.out rfl (fun u hu => by (try dsimp only at hu); go_simp; rfl) (by simp only [List.setIfInBounds_toArray, List.set_cons_succ, List.set_cons_zero]; rfl) ?_
            | refine pl_skip (i := 1) rfl rfl HS0.out rfl (by simp only [List.setIfInBounds_toArray, List.set_cons_succ, List.set_cons_zero]; rfl) ?_
          first
            | refine pl_get (i := 2) rfl rfl HS0.out rfl (fun u hu => by (try dsimp only at hu); go_simp; rfl) (by simp only [List.setIfInBounds_toArray, List.set_cons_succ, List.set_cons_zero]; rfl) ?_
            | refine pl_skip (i := 2) rfl rfl HS0.out rfl (by simp only [List.setIfInBounds_toArray, List.set_cons_succ, List.set_cons_zero]; rfl) ?_
          first
            | refine pl_get (i := 3) rfl rfl HS0.out rfl (fun u hu => by (try dsimp only at hu); go_simp; rfl) (by simp only [List.setIfInBounds_toArray, List.set_cons_succ, List.set_cons_zero]; rfl) ?_
            | refine pl_skip (i := 3) rfl rfl HS0.out rfl (by simp only [List.setIfInBounds_toArray, List.set_cons_succ, List.set_cons_zero]; rfl) ?_
          first
            | refine pl_get (i := 4) rfl rfl HS0.out rfl (fun u hu => by (try dsimp only at hu); go_simp; rfl) (by simp only [List.setIfInBounds_toArray, List.set_cons_succ, List.set_cons_zero]; rfl) ?_
            | refine pl_skip (i := 4) rfl rfl HS0.out rfl (by simp only [List.setIfInBounds_toArray, List.set_cons_succ, List.set_cons_zero]; rfl) ?_
          first
            | refine pl_get (i := 5) rfl rfl HS0.out rfl (fun u hu => by (try dsimp only at hu); go_simp; rfl) (by simp only [List.setIfInBounds_toArray, List.set_cons_succ, List.set_cons_zero]; rfl) ?_
            | refine pl_skip (i := 5) rfl rfl HS0.out rfl (by simp only [List.setIfInBounds_toArray, List.set_cons_succ, List.set_cons_zero]; rfl) ?_
          first
            | refine pl_get (i := 6) rfl rfl HS0.out rfl (fun u hu => by (try dsimp only at hu); go_simp; rfl) (by simp only [List.setIfInBounds_toArray, List.set_cons_succ, List.set_cons_zero]; rfl) ?_
            | refine pl_skip (i := 6) rfl rfl HS0.out rfl (by simp only [List.setIfInBounds_toArray, List.set_cons_succ, List.set_cons_zero]; rfl) ?_
          first
            | refine pl_get (i := 8) rfl rfl HS0.out rfl (fun u hu => by (try dsimp only at hu); go_simp; rfl) (by simp only [List.setIfInBounds_toArray, List.set_cons_succ, List.set_cons_zero]; rfl) ?_
            | refine pl_skip (i := 8) rfl rfl HS0.out rfl (by simp only [List.setIfInBounds_toArray, List.set_cons_succ, List.set_cons_zero]; rfl) ?_
          first
            | refine pl_get (i := 9) rfl rfl HS0.out rfl (fun u hu => by (try dsimp only at hu); go_simp; rfl) (by simp only [List.setIfInBounds_toArray, List.set_cons_succ, List.set_cons_zero]; rfl) ?_
            | refine pl_skip (i := 9) rfl rfl HS0.out rfl (by simp only [List.setIfInBounds_toArray, List.set_cons_succ, List.set_cons_zero]; rfl) ?_
          refine pl_one (i := 7) rfl ?_
          go_wp2_with ((go_at_call 13; refine (Hcon.out _ HDr.out.T).mono ?_; rintro _ w4 ⟨rfl, T4, k4⟩))
          have R4 := Lib.hid (HRr.out.map HPB.out k4)
          have K4 := Lib.hid (HDr.out.hk.trans' k4 HPB.out.map)
          have Hb4 := Lib.hid (blk_keep Hbr.out k4 (fun e => hnm.out e))
          have Hp4 := Lib.hid (blk_keep Hpr.out k4 (fun e => hnp.out e))
          have HS4 := Lib.hid (ks6o HS0.out k4 (fun e => hnm.out e) (fun e => hnp.out e))
          have s4 := k4.size
          have HT4 := Lib.hid T4
          have hsr := HDr.out.lt
          refine pl_next (fun _ => HS4.out) ?_
          clear k4 T4 HS0
          refine pl_one (i := 10) rfl ?_
          go_wp2_with ((go_at_call 18; refine (rwithout_any rb rb a cap limit N (s, sa, sr) 1 (Or.inr (Or.inl rfl)) _ R4.out (by omega) (by omega) N' HN'.out).mono ?_; rintro _ w5 ⟨rfl, R5, k5⟩))
          have T5 := HT4.out.one HPB.out k5
          have Hb5 := Lib.hid (blk_keep Hb4.out k5 (fun e => hnr.out e))
          have Hp5 := Lib.hid (blk_keep Hp4.out k5 (fun e => hnq.out e))
          have HS5 := Lib.hid (ks6o HS4.out k5 (fun e => hnr.out e) (fun e => hnq.out e))
          have HD5 := Lib.hid (show HS w w5 tb mb rb limit N' (k + 1) from ⟨T5, R5, Hrise.out, by have := HDV.out.len; have := Hle.out; omega, K4.out.trans' k5 HPB.out.one⟩)
          refine pl_next (fun _ => HS5.out) ?_
          clear k5 T5 R5 HS4
          first
            | refine pl_get (i := 11) rfl rfl HS5.out rfl (fun u hu => by (try dsimp only at hu); go_simp; rfl) (by simp only [List.setIfInBounds_toArray, List.set_cons_succ, List.set_cons_zero]; rfl) ?_
            | refine pl_skip (i := 11) rfl rfl HS5.out rfl (by simp only [List.setIfInBounds_toArray, List.set_cons_succ, List.set_cons_zero]; rfl) ?_
          first
            | refine pl_get (i := 12) rfl rfl HS5.out rfl (fun u hu => by (try dsimp only at hu); go_simp; rfl) (by simp only [List.setIfInBounds_toArray, List.set_cons_succ, List.set_cons_zero]; rfl) ?_
            | refine pl_skip (i := 12) rfl rfl HS5.out rfl (by simp only [List.setIfInBounds_toArray, List.set_cons_succ, List.set_cons_zero]; rfl) ?_
          first
            | refine pl_get (i := 13) rfl rfl HS5.out rfl (fun u hu => by (try dsimp only at hu); go_simp; rfl) (by simp only [List.setIfInBounds_toArray, List.set_cons_succ, List.set_cons_zero]; rfl) ?_
            | refine pl_skip (i := 13) rfl rfl HS5.out rfl (by simp only [List.setIfInBounds_toArray, List.set_cons_succ, List.set_cons_zero]; rfl) ?_
          first
            | refine pl_get (i := 14) rfl rfl HS5.out rfl (fun u hu => by (try dsimp only at hu); go_simp; rfl) (by simp only [List.setIfInBounds_toArray, List.set_cons_succ, List.set_cons_zero]; rfl) ?_
            | refine pl_skip (i := 14) rfl rfl HS5.out rfl (by simp only [List.setIfInBounds_toArray, List.set_cons_succ, List.set_cons_zero]; rfl) ?_
          first
            | refine pl_get (i := 15) rfl rfl HS5.out rfl (fun u hu => by (try dsimp only at hu); go_simp; rfl) (by simp only [List.setIfInBounds_toArray, List.set_cons_succ, List.set_cons_zero]; rfl) ?_
            | refine pl_skip (i := 15) rfl rfl HS5.out rfl (by simp only [List.setIfInBounds_toArray, List.set_cons_succ, List.set_cons_zero]; rfl) ?_
          first
            | refine pl_get (i := 16) rfl rfl HS5.out rfl (fun u hu => by (try dsimp only at hu); go_simp; rfl) (by simp only [List.setIfInBounds_toArray, List.set_cons_succ, List.set_cons_zero]; rfl) ?_
            | refine pl_skip (i := 16) rfl rfl HS5.out rfl (by simp only [List.setIfInBounds_toArray, List.set_cons_succ, List.set_cons_zero]; rfl) ?_
          first
            | refine pl_get (i := 17) rfl rfl HS5.out rfl (fun u hu => by (try dsimp only at hu); go_simp; rfl) (by simp only [List.setIfInBounds_toArray, List.set_cons_succ, List.set_cons_zero]; rfl) ?_
            | refine pl_skip (i := 17) rfl rfl HS5.out rfl (by simp only [List.setIfInBounds_toArray, List.set_cons_succ, List.set_cons_zero]; rfl) ?_
          first
            | refine pl_get (i := 18) rfl rfl HS5.out rfl (fun u hu => by (try dsimp only at hu); go_simp; rfl) (by simp only [List.setIfInBounds_toArray, List.set_cons_succ, List.set_cons_zero]; rfl) ?_
            | refine pl_skip (i := 18) rfl rfl HS5.out rfl (by simp only [List.setIfInBounds_toArray, List.set_cons_succ, List.set_cons_zero]; rfl) ?_
          first
            | refine pl_get (i := 19) rfl rfl HS5.out rfl (fun u hu => by (try dsimp only at hu); go_simp; rfl) (by simp only [List.setIfInBounds_toArray, List.set_cons_succ, List.set_cons_zero]; rfl) ?_
            | refine pl_skip (i := 19) rfl rfl HS5.out rfl (by simp only [List.setIfInBounds_toArray, List.set_cons_succ, List.set_cons_zero]; rfl) ?_
          refine pl_one (i := 20) rfl ?_
          go_wp2_with ((go_at_call 13; refine (nupto_any s sa sr _).mono ?_; rintro _ w6 ⟨rfl, k6⟩))
          have HS6 := Lib.hid (ks6 HS5.out k6)
          have HD6 := Lib.hid (HD5.out.keep k6)
          have Hb6 := Lib.hid (blk_keep Hb5.out k6 (fun h => h))
          have Hp6 := Lib.hid (blk_keep Hp5.out k6 (fun h => h))
          clear k6
          refine pl_next (fun _ => HS6.out) ?_
          first
            | refine pl_get (i := 21) rfl rfl HS6.out rfl (fun u hu => by (try dsimp only at hu); go_simp; rfl) (by simp only [List.setIfInBounds_toArray, List.set_cons_succ, List.set_cons_zero]; rfl) ?_
            | refine pl_skip (i := 21) rfl rfl HS6.out rfl (by simp only [List.setIfInBounds_toArray, List.set_cons_succ, List.set_cons_zero]; rfl) ?_
          first
            | refine pl_get (i := 22) rfl rfl HS6.out rfl (fun u hu => by (try dsimp only at hu); go_simp; rfl) (by simp only [List.setIfInBounds_toArray, List.set_cons_succ, List.set_cons_zero]; rfl) ?_
            | refine pl_skip (i := 22) rfl rfl HS6.out rfl (by simp only [List.setIfInBounds_toArray, List.set_cons_succ, List.set_cons_zero]; rfl) ?_
          refine pl_one (i := 23) rfl ?_
          go_wp2_with (fail)
          refine pl_next (fun _ => HS6.out) ?_
          refine pl_done ?_
          go_wp2_with fail
          go_meet
          exact ⟨rfl, rfl, rfl, N', HD6.out, Hb6.out, Hp6.out⟩
        · -- Past
          obtain ⟨N', hN'⟩ : ∃ l, pastM sa sr N = l := ⟨_, rfl⟩
          have HN2 := Lib.hid hN'
          have HN' := Lib.hid (show leftG 2 (s, sa, sr) N = N' from hN')
          have Hrise := Lib.hid (show RiseM N' from by rw [← hN']; exact rise_filter' HDV.out.rise _)
          have Hle := Lib.hid (show N'.length ≤ N.length from by rw [← hN']; exact List.length_filter_le _ _)
          have Hcon := Lib.hid (fun (u : World) (T : Tab u tb mb limit N) => past_any tb mb limit N u T (by omega) HDV.out.rise sa sr)
          rw [hN'] at Hcon
          clear hN'
          go_wp2_with fail
          refine wp_region_pl (fun u => u.cell? ⟨ob, 1, none⟩ = some (.string s) ∧ u.cell? ⟨ob, 2, none⟩ = some (.int .i64 sa) ∧ u.cell? ⟨ob, 3, none⟩ = some (.int .i64 sr) ∧ u.cell? ⟨pb, 0, none⟩ = some (.string s) ∧ u.cell? ⟨pb, 1, none⟩ = some (.int .i64 sa) ∧ u.cell? ⟨pb, 2, none⟩ = some (.int .i64 sr)) [] (.rd 0 (.rd 1 (.rd 2 (.rd 3 (.rd 4 (.rd 6 (.rd 7 (.one 5 (.one 8 (.rd 9 (.rd 10 (.rd 11 (.rd 12 (.rd 13 (.rd 14 (.rd 15 (.one 16 (.rd 17 (.rd 18 (.one 19 .done)))))))))))))))))))) (by kernel_rfl) (by kernel_rfl) (by kernel_rfl) (by kernel_rfl) (by intro c b d v u h; cases d <;> exact h) ?_
          have kd0 : Keep NoB V V.drew := (Keep.refl NoB V).drew
          have HDr := Lib.hid (HDV.out.keep kd0)
          have HRr := Lib.hid (HR0.out.keep0 kd0)
          have Hbr := Lib.hid (blk_keep HbV.out kd0 (fun h => h))
          have Hpr := Lib.hid (blk_keep HpV.out kd0 (fun h => h))
          have HS0 := Lib.hid (ks6 ⟨x1, x2, x3, y0, y1, y2⟩ kd0)
          clear x0 x1 x2 x3 xl y0 y1 y2 yl
          clear kd0
          first
            | refine pl_get (i := 0) rfl rfl HS0.out rfl (fun u hu => by (try dsimp only at hu); go_simp; rfl) (by simp only [List.setIfInBounds_toArray, List.set_cons_succ, List.set_cons_zero]; rfl) ?_
            | refine pl_skip (i := 0) rfl rfl HS0.out rfl (by simp only [List.setIfInBounds_toArray, List.set_cons_succ, List.set_cons_zero]; rfl) ?_
          first
            | refine pl_get (i := 1) rfl rfl HS0.out rfl (fun u hu => by (try dsimp only at hu); go_simp; rfl) (by simp only [List.setIfInBounds_toArray, List.set_cons_succ, List.set_cons_zero]; rfl) ?_
            | refine pl_skip (i := 1) rfl rfl HS0.out rfl (by simp only [List.setIfInBounds_toArray, List.set_cons_succ, List.set_cons_zero]; rfl) ?_
          first
            | refine pl_get (i := 2) rfl rfl HS0.out rfl (fun u hu => by (try dsimp only at hu); go_simp; rfl) (by simp only [List.setIfInBounds_toArray, List.set_cons_succ, List.set_cons_zero]; rfl) ?_
            | refine pl_skip (i := 2) rfl rfl HS0.out rfl (by simp only [List.setIfInBounds_toArray, List.set_cons_succ, List.set_cons_zero]; rfl) ?_
          first
            | refine pl_get (i := 3) rfl rfl HS0.out rfl (fun u hu => by (try dsimp only at hu); go_simp; rfl) (by simp only [List.setIfInBounds_toArray, List.set_cons_succ, List.set_cons_zero]; rfl) ?_
            | refine pl_skip (i := 3) rfl rfl HS0.out rfl (by simp only [List.setIfInBounds_toArray, List.set_cons_succ, List.set_cons_zero]; rfl) ?_
          first
            | refine pl_get (i := 4) rfl rfl HS0.out rfl (fun u hu => by (try dsimp only at hu); go_simp; rfl) (by simp only [List.setIfInBounds_toArray, List.set_cons_succ, List.set_cons_zero]; rfl) ?_
            | refine pl_skip (i := 4) rfl rfl HS0.out rfl (by simp only [List.setIfInBounds_toArray, List.set_cons_succ, List.set_cons_zero]; rfl) ?_
          first
            | refine pl_get (i := 6) rfl rfl HS0.out rfl (fun u hu => by (try dsimp only at hu); go_simp; rfl) (by simp only [List.setIfInBounds_toArray, List.set_cons_succ, List.set_cons_zero]; rfl) ?_
            | refine pl_skip (i := 6) rfl rfl HS0.out rfl (by simp only [List.setIfInBounds_toArray, List.set_cons_succ, List.set_cons_zero]; rfl) ?_
          first
            | refine pl_get (i := 7) rfl rfl HS0.out rfl (fun u hu => by (try dsimp only at hu); go_simp; rfl) (by simp only [List.setIfInBounds_toArray, List.set_cons_succ, List.set_cons_zero]; rfl) ?_
            | refine pl_skip (i := 7) rfl rfl HS0.out rfl (by simp only [List.setIfInBounds_toArray, List.set_cons_succ, List.set_cons_zero]; rfl) ?_
          refine pl_one (i := 5) rfl ?_
          go_wp2_with ((go_at_call 16; refine (Hcon.out _ HDr.out.T).mono ?_; rintro _ w4 ⟨rfl, T4, k4⟩))
          have R4 := Lib.hid (HRr.out.map HPB.out k4)
          have K4 := Lib.hid (HDr.out.hk.trans' k4 HPB.out.map)
          have Hb4 := Lib.hid (blk_keep Hbr.out k4 (fun e => hnm.out e))
          have Hp4 := Lib.hid (blk_keep Hpr.out k4 (fun e => hnp.out e))
          have HS4 := Lib.hid (ks6o HS0.out k4 (fun e => hnm.out e) (fun e => hnp.out e))
          have s4 := k4.size
          have HT4 := Lib.hid T4
          have hsr := HDr.out.lt
          refine pl_next (fun _ => HS4.out) ?_
          clear k4 T4 HS0
          refine pl_one (i := 8) rfl ?_
          go_wp2_with ((go_at_call 18; refine (rwithout_any rb rb a cap limit N (s, sa, sr) 2 (Or.inr (Or.inr rfl)) _ R4.out (by omega) (by omega) N' HN'.out).mono ?_; rintro _ w5 ⟨rfl, R5, k5⟩))
          have T5 := HT4.out.one HPB.out k5
          have Hb5 := Lib.hid (blk_keep Hb4.out k5 (fun e => hnr.out e))
          have Hp5 := Lib.hid (blk_keep Hp4.out k5 (fun e => hnq.out e))
          have HS5 := Lib.hid (ks6o HS4.out k5 (fun e => hnr.out e) (fun e => hnq.out e))
          have HD5 := Lib.hid (show HS w w5 tb mb rb limit N' (k + 1) from ⟨T5, R5, Hrise.out, by have := HDV.out.len; have := Hle.out; omega, K4.out.trans' k5 HPB.out.one⟩)
          refine pl_next (fun _ => HS5.out) ?_
          clear k5 T5 R5 HS4
          first
            | refine pl_get (i := 9) rfl rfl HS5.out rfl (fun u hu => by (try dsimp only at hu); go_simp; rfl) (by simp only [List.setIfInBounds_toArray, List.set_cons_succ, List.set_cons_zero]; rfl) ?_
            | refine pl_skip (i := 9) rfl rfl HS5.out rfl (by simp only [List.setIfInBounds_toArray, List.set_cons_succ, List.set_cons_zero]; rfl) ?_
          first
            | refine pl_get (i := 10) rfl rfl HS5.out rfl (fun u hu => by (try dsimp only at hu); go_simp; rfl) (by simp only [List.setIfInBounds_toArray, List.set_cons_succ, List.set_cons_zero]; rfl) ?_
            | refine pl_skip (i := 10) rfl rfl HS5.out rfl (by simp only [List.setIfInBounds_toArray, List.set_cons_succ, List.set_cons_zero]; rfl) ?_
          first
            | refine pl_get (i := 11) rfl rfl HS5.out rfl (fun u hu => by (try dsimp only at hu); go_simp; rfl) (by simp only [List.setIfInBounds_toArray, List.set_cons_succ, List.set_cons_zero]; rfl) ?_
            | refine pl_skip (i := 11) rfl rfl HS5.out rfl (by simp only [List.setIfInBounds_toArray, List.set_cons_succ, List.set_cons_zero]; rfl) ?_
          first
            | refine pl_get (i := 12) rfl rfl HS5.out rfl (fun u hu => by (try dsimp only at hu); go_simp; rfl) (by simp only [List.setIfInBounds_toArray, List.set_cons_succ, List.set_cons_zero]; rfl) ?_
            | refine pl_skip (i := 12) rfl rfl HS5.out rfl (by simp only [List.setIfInBounds_toArray, List.set_cons_succ, List.set_cons_zero]; rfl) ?_
          first
            | refine pl_get (i := 13) rfl rfl HS5.out rfl (fun u hu => by (try dsimp only at hu); go_simp; rfl) (by simp only [List.setIfInBounds_toArray, List.set_cons_succ, List.set_cons_zero]; rfl) ?_
            | refine pl_skip (i := 13) rfl rfl HS5.out rfl (by simp only [List.setIfInBounds_toArray, List.set_cons_succ, List.set_cons_zero]; rfl) ?_
          first
            | refine pl_get (i := 14) rfl rfl HS5.out rfl (fun u hu => by (try dsimp only at hu); go_simp; rfl) (by simp only [List.setIfInBounds_toArray, List.set_cons_succ, List.set_cons_zero]; rfl) ?_
            | refine pl_skip (i := 14) rfl rfl HS5.out rfl (by simp only [List.setIfInBounds_toArray, List.set_cons_succ, List.set_cons_zero]; rfl) ?_
          first
            | refine pl_get (i := 15) rfl rfl HS5.out rfl (fun u hu => by (try dsimp only at hu); go_simp; rfl) (by simp only [List.setIfInBounds_toArray, List.set_cons_succ, List.set_cons_zero]; rfl) ?_
            | refine pl_skip (i := 15) rfl rfl HS5.out rfl (by simp only [List.setIfInBounds_toArray, List.set_cons_succ, List.set_cons_zero]; rfl) ?_
          refine pl_one (i := 16) rfl ?_
          go_wp2_with ((go_at_call 16; refine (npast_any sa sr _).mono ?_; rintro _ w6 ⟨rfl, k6⟩))
          have HS6 := Lib.hid (ks6 HS5.out k6)
          have HD6 := Lib.hid (HD5.out.keep k6)
          have Hb6 := Lib.hid (blk_keep Hb5.out k6 (fun h => h))
          have Hp6 := Lib.hid (blk_keep Hp5.out k6 (fun h => h))
          clear k6
          refine pl_next (fun _ => HS6.out) ?_
          first
            | refine pl_get (i := 17) rfl rfl HS6.out rfl (fun u hu => by (try dsimp only at hu); go_simp; rfl) (by simp only [List.setIfInBounds_toArray, List.set_cons_succ, List.set_cons_zero]; rfl) ?_
            | refine pl_skip (i := 17) rfl rfl HS6.out rfl (by simp only [List.setIfInBounds_toArray, List.set_cons_succ, List.set_cons_zero]; rfl) ?_
          first
            | refine pl_get (i := 18) rfl rfl HS6.out rfl (fun u hu => by (try dsimp only at hu); go_simp; rfl) (by simp only [List.setIfInBounds_toArray, List.set_cons_succ, List.set_cons_zero]; rfl) ?_
            | refine pl_skip (i := 18) rfl rfl HS6.out rfl (by simp only [List.setIfInBounds_toArray, List.set_cons_succ, List.set_cons_zero]; rfl) ?_
          refine pl_one (i := 19) rfl ?_
          go_wp2_with (fail)
          refine pl_next (fun _ => HS6.out) ?_
          refine pl_done ?_
          go_wp2_with fail
          go_meet
          exact ⟨rfl, rfl, rfl, N', HD6.out, Hb6.out, Hp6.out⟩
        · -- Drop
          go_wp2_with fail
          refine (drop_any tb mb limit N _ HDV.out.T).mono ?_
          rintro _ w4 ⟨rfl, T4, k4⟩
          have R4 := Lib.hid (HR0.out.map HPB.out k4)
          have K4 := Lib.hid (HDV.out.hk.trans' k4 HPB.out.map)
          have Hb4 := Lib.hid (blk_keep HbV.out k4 (fun e => hnm.out e))
          have Hp4 := Lib.hid (blk_keep HpV.out k4 (fun e => hnp.out e))
          have HT4 := Lib.hid T4
          have df := blk_free R4.out.blk 0
          have dl := blk_lt R4.out.blk
          have d0 := blk_cell R4.out.blk 0
          simp at d0
          clear k4 T4
          clear x0 x1 x2 x3 xl y0 y1 y2 yl
          go_wp2_with fail
          have b9 := blk_setCell (i := 0) R4.out.blk (.slice none 0 0)
          have k9 : Keep (OneB rb) w4 (w4.setCell ⟨rb, 0, none⟩ (.slice none 0 0)) := (Keep.refl (OneB rb) w4).setCell (p := ⟨rb, 0, none⟩) (Or.inr rfl) _
          simp at b9
          generalize w4.setCell ⟨rb, 0, none⟩ (.slice none 0 0) = w5 at b9 k9 ⊢
          have HD5 := Lib.hid (show HS w w5 tb mb rb limit [] (k + 1) from ⟨HT4.out.one HPB.out k9, ⟨none, 0, ⟨b9, Own.nil _ _ _ _ _⟩⟩, List.Pairwise.nil, Nat.zero_le _, K4.out.trans' k9 HPB.out.one⟩)
          have Hb5 := Lib.hid (blk_keep Hb4.out k9 (fun e => hnr.out e))
          have Hp5 := Lib.hid (blk_keep Hp4.out k9 (fun e => hnq.out e))
          clear b9 k9 df dl d0
          refine (ndrop_any _).mono ?_
          rintro _ w6 ⟨rfl, rfl⟩
          go_wp2_with fail
          go_meet
          exact ⟨rfl, rfl, rfl, [], HD5.out, Hb5.out, Hp5.out⟩
        · go_wp2_with fail
          go_meet
          exact ⟨rfl, rfl, rfl, N, HDV.out.later (Nat.le_succ k), HbV.out, HpV.out⟩
      case rest =>
        obtain ⟨rfl, rfl, rfl, N', D, bx, bp⟩ := hcut
        obtain ⟨a, cap, R⟩ := D.R
        obtain ⟨v, hv⟩ : ∃ v, decide (∃ y ∈ N', y.1 = s) = v := ⟨_, rfl⟩
        have hlN : N'.length ≤ 201 := by have := D.len; omega
        have Hv := Lib.hid hv
        have HD := Lib.hid D
        have HR := Lib.hid R
        have q1 := blk_cell bx 1
        have r0 := blk_cell R.blk 0
        simp at q1 r0
        have HQ := Lib.hid (show wc.cell? ⟨ob, 1, none⟩ = some (.string s) ∧ wc.cell? ⟨rb, 0, none⟩ = some (.slice a N'.length cap) from ⟨q1, r0⟩)
        clear hv D R bx bp hkd r0 q1
        as_aux_lemma =>
        go_wp2_with fail
        refine wp_region_pl (fun u => u.cell? ⟨ob, 1, none⟩ = some (.string s) ∧ u.cell? ⟨rb, 0, none⟩ = some (.slice a N'.length cap)) [] (.rd 0 (.rd 1 (.rd 2 (.rd 3 (.rd 4 (.rd 5 (.rd 7 (.rd 8 (.rd 9 (.one 6 (.one 10 (.rd 11 (.rd 12 (.rd 13 (.rd 14 (.rd 16 (.rd 17 (.rd 18 (.rd 19 (.rd 20 (.one 15 (.rd 21 (.rd 22 (.rd 23 (.rd 24 (.rd 26 (.rd 27 (.rd 28 (.rd 29 (.one 25 (.one 30 (.rd 31 (.rd 32 .done))))))))))))))))))))))))))))))))) (by kernel_rfl) (by kernel_rfl) (by kernel_rfl) (by kernel_rfl) (by intro c b d v u h; cases d <;> exact h) ?_
        have kd0 : Keep NoB wc wc.drew := (Keep.refl NoB wc).drew
        have HD0 := Lib.hid (HD.out.keep kd0)
        have HR0 := Lib.hid (HR.out.keep0 kd0)
        have HS0 := Lib.hid (ks2 HQ.out kd0)
        clear kd0 HQ HD HR
        first
          | refine pl_get (i := 0) rfl rfl HS0.out rfl (fun u hu => by (try dsimp only at hu); go_simp; rfl) (by simp only [List.setIfInBounds_toArray, List.set_cons_succ, List.set_cons_zero]; rfl) ?_
          | refine pl_skip (i := 0) rfl rfl HS0.out rfl (by simp only [List.setIfInBounds_toArray, List.set_cons_succ, List.set_cons_zero]; rfl) ?_
        first
          | refine pl_get (i := 1) rfl rfl HS0.out rfl (fun u hu => by (try dsimp only at hu); go_simp; rfl) (by simp only [List.setIfInBounds_toArray, List.set_cons_succ, List.set_cons_zero]; rfl) ?_
          | refine pl_skip (i := 1) rfl rfl HS0.out rfl (by simp only [List.setIfInBounds_toArray, List.set_cons_succ, List.set_cons_zero]; rfl) ?_
        first
          | refine pl_get (i := 2) rfl rfl HS0.out rfl (fun u hu => by (try dsimp only at hu); go_simp; rfl) (by simp only [List.setIfInBounds_toArray, List.set_cons_succ, List.set_cons_zero]; rfl) ?_
          | refine pl_skip (i := 2) rfl rfl HS0.out rfl (by simp only [List.setIfInBounds_toArray, List.set_cons_succ, List.set_cons_zero]; rfl) ?_
        first
          | refine pl_get (i := 3) rfl rfl HS0.out rfl (fun u hu => by (try dsimp only at hu); go_simp; rfl) (by simp only [List.setIfInBounds_toArray, List.set_cons_succ, List.set_cons_zero]; rfl) ?_
          | refine pl_skip (i := 3) rfl rfl HS0.out rfl (by simp only [List.setIfInBounds_toArray, List.set_cons_succ, List.set_cons_zero]; rfl) ?_
        first
          | refine pl_get (i := 4) rfl rfl HS0.out rfl (fun u hu => by (try dsimp only at hu); go_simp; rfl) (by simp only [List.setIfInBounds_toArray, List.set_cons_succ, List.set_cons_zero]; rfl) ?_
          | refine pl_skip (i := 4) rfl rfl HS0.out rfl (by simp only [List.setIfInBounds_toArray, List.set_cons_succ, List.set_cons_zero]; rfl) ?_
        first
          | refine pl_get (i := 5) rfl rfl HS0.out rfl (fun u hu => by (try dsimp only at hu); go_simp; rfl) (by simp only [List.setIfInBounds_toArray, List.set_cons_succ, List.set_cons_zero]; rfl) ?_
          | refine pl_skip (i := 5) rfl rfl HS0.out rfl (by simp only [List.setIfInBounds_toArray, List.set_cons_succ, List.set_cons_zero]; rfl) ?_
        first
          | refine pl_get (i := 7) rfl rfl HS0.out rfl (fun u hu => by (try dsimp only at hu); go_simp; rfl) (by simp only [List.setIfInBounds_toArray, List.set_cons_succ, List.set_cons_zero]; rfl) ?_
          | refine pl_skip (i := 7) rfl rfl HS0.out rfl (by simp only [List.setIfInBounds_toArray, List.set_cons_succ, List.set_cons_zero]; rfl) ?_
        first
          | refine pl_get (i := 8) rfl rfl HS0.out rfl (fun u hu => by (try dsimp only at hu); go_simp; rfl) (by simp only [List.setIfInBounds_toArray, List.set_cons_succ, List.set_cons_zero]; rfl) ?_
          | refine pl_skip (i := 8) rfl rfl HS0.out rfl (by simp only [List.setIfInBounds_toArray, List.set_cons_succ, List.set_cons_zero]; rfl) ?_
        first
          | refine pl_get (i := 9) rfl rfl HS0.out rfl (fun u hu => by (try dsimp only at hu); go_simp; rfl) (by simp only [List.setIfInBounds_toArray, List.set_cons_succ, List.set_cons_zero]; rfl) ?_
          | refine pl_skip (i := 9) rfl rfl HS0.out rfl (by simp only [List.setIfInBounds_toArray, List.set_cons_succ, List.set_cons_zero]; rfl) ?_
        refine pl_one (i := 6) rfl ?_
        go_wp2_with ((go_at_call 11; refine (has_any tb mb limit N' s _ HD0.out.T v Hv.out).mono ?_; rintro _ w3 ⟨rfl, k3⟩))
        have HD1 := Lib.hid (HD0.out.keep k3)
        have HR1 := Lib.hid (HR0.out.keep0 k3)
        have HS1 := Lib.hid (ks2 HS0.out k3)
        clear k3 HD0 HR0 HS0
        refine pl_next (fun _ => HS1.out) ?_
        refine pl_one (i := 10) rfl ?_
        go_wp2_with ((go_at_call 20; refine (rhas_any rb rb a cap limit N' s _ HR1.out (by omega) v Hv.out).mono ?_; rintro _ w4 ⟨rfl, rfl⟩))
        refine pl_next (fun _ => HS1.out) ?_
        first
          | refine pl_get (i := 11) rfl rfl HS1.out rfl (fun u hu => by (try dsimp only at hu); go_simp; rfl) (by simp only [List.setIfInBounds_toArray, List.set_cons_succ, List.set_cons_zero]; rfl) ?_
          | refine pl_skip (i := 11) rfl rfl HS1.out rfl (by simp only [List.setIfInBounds_toArray, List.set_cons_succ, List.set_cons_zero]; rfl) ?_
        first
          | refine pl_get (i := 12) rfl rfl HS1.out rfl (fun u hu => by (try dsimp only at hu); go_simp; rfl) (by simp only [List.setIfInBounds_toArray, List.set_cons_succ, List.set_cons_zero]; rfl) ?_
          | refine pl_skip (i := 12) rfl rfl HS1.out rfl (by simp only [List.setIfInBounds_toArray, List.set_cons_succ, List.set_cons_zero]; rfl) ?_
        first
          | refine pl_get (i := 13) rfl rfl HS1.out rfl (fun u hu => by (try dsimp only at hu); go_simp; rfl) (by simp only [List.setIfInBounds_toArray, List.set_cons_succ, List.set_cons_zero]; rfl) ?_
          | refine pl_skip (i := 13) rfl rfl HS1.out rfl (by simp only [List.setIfInBounds_toArray, List.set_cons_succ, List.set_cons_zero]; rfl) ?_
        first
          | refine pl_get (i := 14) rfl rfl HS1.out rfl (fun u hu => by (try dsimp only at hu); go_simp; rfl) (by simp only [List.setIfInBounds_toArray, List.set_cons_succ, List.set_cons_zero]; rfl) ?_
          | refine pl_skip (i := 14) rfl rfl HS1.out rfl (by simp only [List.setIfInBounds_toArray, List.set_cons_succ, List.set_cons_zero]; rfl) ?_
        first
          | refine pl_get (i := 16) rfl rfl HS1.out rfl (fun u hu => by (try dsimp only at hu); go_simp; rfl) (by simp only [List.setIfInBounds_toArray, List.set_cons_succ, List.set_cons_zero]; rfl) ?_
          | refine pl_skip (i := 16) rfl rfl HS1.out rfl (by simp only [List.setIfInBounds_toArray, List.set_cons_succ, List.set_cons_zero]; rfl) ?_
        first
          | refine pl_get (i := 17) rfl rfl HS1.out rfl (fun u hu => by (try dsimp only at hu); go_simp; rfl) (by simp only [List.setIfInBounds_toArray, List.set_cons_succ, List.set_cons_zero]; rfl) ?_
          | refine pl_skip (i := 17) rfl rfl HS1.out rfl (by simp only [List.setIfInBounds_toArray, List.set_cons_succ, List.set_cons_zero]; rfl) ?_
        first
          | refine pl_get (i := 18) rfl rfl HS1.out rfl (fun u hu => by (try dsimp only at hu); go_simp; rfl) (by simp only [List.setIfInBounds_toArray, List.set_cons_succ, List.set_cons_zero]; rfl) ?_
          | refine pl_skip (i := 18) rfl rfl HS1.out rfl (by simp only [List.setIfInBounds_toArray, List.set_cons_succ, List.set_cons_zero]; rfl) ?_
        first
          | refine pl_get (i := 19) rfl rfl HS1.out rfl (fun u hu => by (try dsimp only at hu); go_simp; rfl) (by simp only [List.setIfInBounds_toArray, List.set_cons_succ, List.set_cons_zero]; rfl) ?_
          | refine pl_skip (i := 19) rfl rfl HS1.out rfl (by simp only [List.setIfInBounds_toArray, List.set_cons_succ, List.set_cons_zero]; rfl) ?_
        first
          | refine pl_get (i := 20) rfl rfl HS1.out rfl (fun u hu => by (try dsimp only at hu); go_simp; rfl) (by simp only [List.setIfInBounds_toArray, List.set_cons_succ, List.set_cons_zero]; rfl) ?_
          | refine pl_skip (i := 20) rfl rfl HS1.out rfl (by simp only [List.setIfInBounds_toArray, List.set_cons_succ, List.set_cons_zero]; rfl) ?_
        refine pl_one (i := 15) rfl ?_
        go_wp2_with ((go_at_call 10; refine (len_any tb mb limit N' _ HD1.out.T).mono ?_; rintro _ w5 ⟨rfl, rfl⟩))
        refine pl_next (fun _ => HS1.out) ?_
        first
          | refine pl_get (i := 21) rfl rfl HS1.out rfl (fun u hu => by (try dsimp only at hu); go_simp; rfl) (by simp only [List.setIfInBounds_toArray, List.set_cons_succ, List.set_cons_zero]; rfl) ?_
          | refine pl_skip (i := 21) rfl rfl HS1.out rfl (by simp only [List.setIfInBounds_toArray, List.set_cons_succ, List.set_cons_zero]; rfl) ?_
        first
          | refine pl_get (i := 22) rfl rfl HS1.out rfl (fun u hu => by (try dsimp only at hu); go_simp; rfl) (by simp only [List.setIfInBounds_toArray, List.set_cons_succ, List.set_cons_zero]; rfl) ?_
          | refine pl_skip (i := 22) rfl rfl HS1.out rfl (by simp only [List.setIfInBounds_toArray, List.set_cons_succ, List.set_cons_zero]; rfl) ?_
        first
          | refine pl_get (i := 23) rfl rfl HS1.out rfl (fun u hu => by (try dsimp only at hu); go_simp; rfl) (by simp only [List.setIfInBounds_toArray, List.set_cons_succ, List.set_cons_zero]; rfl) ?_
          | refine pl_skip (i := 23) rfl rfl HS1.out rfl (by simp only [List.setIfInBounds_toArray, List.set_cons_succ, List.set_cons_zero]; rfl) ?_
        first
          | refine pl_get (i := 24) rfl rfl HS1.out rfl (fun u hu => by (try dsimp only at hu); go_simp; rfl) (by simp only [List.setIfInBounds_toArray, List.set_cons_succ, List.set_cons_zero]; rfl) ?_
          | refine pl_skip (i := 24) rfl rfl HS1.out rfl (by simp only [List.setIfInBounds_toArray, List.set_cons_succ, List.set_cons_zero]; rfl) ?_
        first
          | refine pl_get (i := 26) rfl rfl HS1.out rfl (fun u hu => by (try dsimp only at hu); go_simp; rfl) (by simp only [List.setIfInBounds_toArray, List.set_cons_succ, List.set_cons_zero]; rfl) ?_
          | refine pl_skip (i := 26) rfl rfl HS1.out rfl (by simp only [List.setIfInBounds_toArray, List.set_cons_succ, List.set_cons_zero]; rfl) ?_
        first
          | refine pl_get (i := 27) rfl rfl HS1.out rfl (fun u hu => by (try dsimp only at hu); go_simp; rfl) (by simp only [List.setIfInBounds_toArray, List.set_cons_succ, List.set_cons_zero]; rfl) ?_
          | refine pl_skip (i := 27) rfl rfl HS1.out rfl (by simp only [List.setIfInBounds_toArray, List.set_cons_succ, List.set_cons_zero]; rfl) ?_
        first
          | refine pl_get (i := 28) rfl rfl HS1.out rfl (fun u hu => by (try dsimp only at hu); go_simp; rfl) (by simp only [List.setIfInBounds_toArray, List.set_cons_succ, List.set_cons_zero]; rfl) ?_
          | refine pl_skip (i := 28) rfl rfl HS1.out rfl (by simp only [List.setIfInBounds_toArray, List.set_cons_succ, List.set_cons_zero]; rfl) ?_
        first
          | refine pl_get (i := 29) rfl rfl HS1.out rfl (fun u hu => by (try dsimp only at hu); go_simp; rfl) (by simp only [List.setIfInBounds_toArray, List.set_cons_succ, List.set_cons_zero]; rfl) ?_
          | refine pl_skip (i := 29) rfl rfl HS1.out rfl (by simp only [List.setIfInBounds_toArray, List.set_cons_succ, List.set_cons_zero]; rfl) ?_
        refine pl_one (i := 25) rfl ?_
        go_wp2_with ((go_at_call 14; refine (all_any tb mb limit N' _ HD1.out.T (by omega) HD1.out.rise).mono ?_; rintro _ w6 ⟨a6, c6, rfl, O6, k6⟩))
        have HD2 := Lib.hid (HD1.out.keep k6)
        have HR2 := Lib.hid (HR1.out.keep0 k6)
        have HS2 := Lib.hid (ks2 HS1.out k6)
        have HO6 := Lib.hid O6
        clear k6 O6 HD1 HR1 HS1
        refine pl_next (fun _ => HS2.out) ?_
        refine pl_one (i := 30) rfl ?_
        go_wp2_with ((go_at_call 21; refine (same_any _ _ a6 a c6 cap N' _ HO6.out HR2.out.own (by omega)).mono ?_; rintro _ w7 ⟨rfl, k7⟩))
        have HD3 := Lib.hid (HD2.out.keep k7)
        have HS3 := Lib.hid (ks2 HS2.out k7)
        clear k7 HO6
        refine pl_next (fun _ => HS3.out) ?_
        first
          | refine pl_get (i := 31) rfl rfl HS3.out rfl (fun u hu => by (try dsimp only at hu); go_simp; rfl) (by simp only [List.setIfInBounds_toArray, List.set_cons_succ, List.set_cons_zero]; rfl) ?_
          | refine pl_skip (i := 31) rfl rfl HS3.out rfl (by simp only [List.setIfInBounds_toArray, List.set_cons_succ, List.set_cons_zero]; rfl) ?_
        first
          | refine pl_get (i := 32) rfl rfl HS3.out rfl (fun u hu => by (try dsimp only at hu); go_simp; rfl) (by simp only [List.setIfInBounds_toArray, List.set_cons_succ, List.set_cons_zero]; rfl) ?_
          | refine pl_skip (i := 32) rfl rfl HS3.out rfl (by simp only [List.setIfInBounds_toArray, List.set_cons_succ, List.set_cons_zero]; rfl) ?_
        refine pl_done ?_
        go_wp2_with fail
        go_roundw
        case rel => exact ⟨k + 1, N', hlt, h200, by go_num, HD3.out⟩
        case measure => simp [intOf]; omega
    · have hout : (¬ k < len0 ∧ decide ((k : Int) < (len0 : Int)) = false) ∨ (k < len0 ∧ ¬ k < 200 ∧ decide ((k : Int) < 200) = false) := by
        by_cases h1 : k < len0
        · right
          have : ¬ k < 200 := fun h => hgo ⟨h1, h⟩
          exact ⟨h1, this, by simp; omega⟩
        · left
          exact ⟨h1, by simp; omega⟩
      have Hk := Lib.hid D.hk
      clear hgo D
      rcases hout with ⟨h1, hd⟩ | ⟨h1, h2, hd⟩
      all_goals
        go_wp2_with fail
        refine (nlen_any _).mono ?_
        rintro _ w7 ⟨rfl, rfl⟩
        go_wp2_with fail
        refine (nall_any _).mono ?_
        rintro _ w8 ⟨rfl, rfl⟩
        go_wp2_with fail
        refine (nhas_any _ _).mono ?_
        rintro _ w9 ⟨rfl, rfl⟩
        go_wp2
        go_ret
        exact ⟨rfl, Hk.out.below (fun _ _ h => h)⟩
end Go.Proofs.Ytgangbkompkidaa
