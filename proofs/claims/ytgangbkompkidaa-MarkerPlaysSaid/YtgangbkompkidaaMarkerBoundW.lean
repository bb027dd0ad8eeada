/- The walk of MarkerBound. -/
import Derived.Test.YtgangbkompkidaaMarkerA
namespace Go.Proofs.Ytgangbkompkidaa
open Go Go.RowKit Go.Maps Go.Sort

abbrev MOp := Int × MK
def opCells (x : MOp) : List Value := [.int .i64 x.1, .string x.2.1, .int .i64 x.2.2.1, .int .i64 x.2.2.2]
def opOk (x : MOp) : Prop := mOk x.2
def IsOps (w : World) (a : Option Addr) (len : Nat) (z : Nat → MOp) : Prop :=
  len ≤ maxLen ∧ (∀ i, i < len → opOk (z i)) ∧ (len = 0 ∨ ∃ b off, a = some ⟨b, off, none⟩ ∧ b < w.heap.size ∧ ∀ i, i < len → w.cell? ⟨b, off + i * 4, none⟩ = some (.int .i64 (z i).1) ∧ w.cell? ⟨b, off + i * 4 + 1, none⟩ = some (.string (z i).2.1) ∧ w.cell? ⟨b, off + i * 4 + 2, none⟩ = some (.int .i64 (z i).2.2.1) ∧ w.cell? ⟨b, off + i * 4 + 3, none⟩ = some (.int .i64 (z i).2.2.2))

structure BS (w wr : World) (tb mb : Nat) (limit : Int) (M : List MK) (k : Nat) : Prop where
  T : Tab wr tb mb limit M
  hk : Keep NoB w wr
  rise : RiseM M
  len : M.length ≤ k
  lim : (M.length : Int) ≤ max limit 0
theorem BS.keep {w wr w' : World} {tb mb : Nat} {limit : Int} {M : List MK} {k : Nat} (D : BS w wr tb mb limit M k) (hk : Keep NoB wr w') : BS w w' tb mb limit M k :=
  ⟨D.T.keep hk (fun h => h) (fun h => h), D.hk.trans hk, D.rise, D.len, D.lim⟩

set_option maxRecDepth 100000 in
set_option maxHeartbeats 8000000 in
theorem bound_walk (limit : Int) (a0 : Option Addr) (len0 cap0 : Nat) (z : Nat → MOp) (w : World) (h0 : IsOps w a0 len0 z) :
    Calls Try.prog 3 #[.int .i64 limit, .slice a0 len0 cap0] w fun e w' => e = .returned (.bool true) ∧ Below w.heap.size w w' := by
  obtain ⟨hmax, hok, hrow⟩ := h0
  unfold maxLen at hmax
  have Hok0 := Lib.hid hok
  have Hrow := Lib.hid hrow
  clear hok hrow
  go_enter Try.func3, Try.ntmps3
  go_wp2_with fail
  refine (awake_any _).mono ?_
  rintro _ w1 ⟨rfl, hk1⟩
  go_wp2_with fail
  refine (new_any limit _).mono ?_
  rintro _ w2 ⟨rfl, T2, hk2, hs2⟩
  have HD2 := Lib.hid (show BS w w2 (w1.heap.size + 1) w1.heap.size limit [] 0 from ⟨T2, hk1.trans hk2, List.Pairwise.nil, Nat.le_refl _, by simp; omega⟩)
  obtain ⟨tb, htb⟩ : ∃ t, w1.heap.size + 1 = t := ⟨_, rfl⟩
  obtain ⟨mb, hmb⟩ : ∃ t, w1.heap.size = t := ⟨_, rfl⟩
  have hlo : w.heap.size ≤ mb := by have := hk1.size; omega
  rw [htb]
  rw [htb, hmb] at HD2
  have hone := Lib.hid (show ∀ i, i < w.heap.size → OneB mb i → NoB i from fun i hi e => by have e' : i = mb := e; omega)
  clear T2 hk1 hk2 hs2 htb hmb
  go_wp2_with fail
  go_loopw [6] (fun i wr => ∃ (k : Nat) (M : List MK), k ≤ len0 ∧ k ≤ 200 ∧ i = .int .i64 k ∧ BS w wr tb mb limit M k) (fun i _ => len0 - (intOf i).toNat)
  case atStart => exact ⟨0, [], Nat.zero_le _, Nat.zero_le _, rfl, HD2.out⟩
  case round =>
    clear HD2
    obtain ⟨k, M, hk, hk200, rfl, D⟩ := hrel
    by_cases hgo : k < len0 ∧ k < 200
    · obtain ⟨hlt, h200⟩ := hgo
      have h200i : decide ((k : Int) < 200) = true := by simp; omega
      rcases Hrow.out with h | ⟨b, off, rfl, hb, hc⟩
      · omega
      obtain ⟨l0, l1, l2, l3⟩ := hc k hlt
      have hop := Hok0.out k hlt
      replace l0 := D.hk.some l0 (fun h => h)
      replace l1 := D.hk.some l1 (fun h => h)
      replace l2 := D.hk.some l2 (fun h => h)
      replace l3 := D.hk.some l3 (fun h => h)
      have hb0 : b < wr.heap.size := Nat.lt_of_lt_of_le hb D.hk.size
      have hmlt : mb < wr.heap.size := by obtain ⟨_, hm, _⟩ := D.T.map; exact hm.lt
      clear hc
      generalize hzk : z k = x at l0 l1 l2 l3 hop
      clear hzk
      obtain ⟨kd, s, sa, sr⟩ := x
      simp only at l0 l1 l2 l3
      have Hx := Lib.hid (show mOk (s, sa, sr) from hop)
      have HD0 := Lib.hid D
      clear D hop
      go_wp2_with fail
      have bV := blk_new wr (.cells #[.int .i64 kd, .string s, .int .i64 sa, .int .i64 sr] 27)
      have DV := HD0.out.keep ((Keep.refl NoB wr).alloc (.cells #[.int .i64 kd, .string s, .int .i64 sa, .int .i64 sr] 27))
      generalize World.alloc wr (.cells #[.int .i64 kd, .string s, .int .i64 sa, .int .i64 sr] 27) = V at bV DV ⊢
      generalize wr.heap.size = ob at bV hmlt hb0 ⊢
      have x0 := blk_cell bV 0
      have x1 := blk_cell bV 1
      simp at x0 x1
      obtain ⟨had, hhad⟩ : ∃ v, decide (∃ y ∈ M, y.1 = s) = v := ⟨_, rfl⟩
      have Hhad := Lib.hid hhad
      have HbV := Lib.hid bV
      have HDV := Lib.hid DV
      clear HD0 l0 l1 l2 l3 hb0 bV DV hhad
      refine wp_region_pl (fun u => u.cell? ⟨ob, 1, none⟩ = some (.string s)) [] (.rd 0 (.rd 2 (.rd 3 (.rd 4 (.one 1 (.one 5 (.one 6 (.one 7 .done)))))))) (by kernel_rfl) (by kernel_rfl) (by kernel_rfl) (by kernel_rfl) (by intro c b d v u h; cases d <;> exact h) ?_
      have kd0 : Keep NoB V V.drew := (Keep.refl NoB V).drew
      have HDr := Lib.hid (HDV.out.keep kd0)
      have Hbr := Lib.hid (blk_keep HbV.out kd0 (fun h => h))
      have HS0 := Lib.hid (ks1 x1 kd0)
      clear x0 x1 kd0
      first
        | refine pl_get (i := 0) rfl rfl HS0.out rfl (fun u hu => by (try dsimp only at hu); go_simp; rfl) (by simp only [List.setIfInBounds_toArray, List.set_cons_succ, List.set_cons_zero]; rfl) ?_
        | refine pl_skip (i := 0) rfl rfl HS0.out rfl (by simp only [List.setIfInBounds_toArray, List.set_cons_succ, List.set_cons_zero]; rfl) ?_
      first
        | refine pl_get (i := 2) rfl rfl HS0.out rfl (fun u hu => by (try dsimp only at hu); go_simp; rfl) (by simp only [List.setIfInBounds_toArray, List.set_cons_succ, List.set_cons_zero]; rfl) ?_
        | refine pl_skip (i := 2) rfl rfl HS0.out rfl (by simp only [List.setIfInBounds_toArray, List.set_cons_succ, List.set_cons_zero]; rfl) ?_
      first
        | refine pl_get (i := 3) rfl rfl HS0.out rfl (fun u hu => by (try dsimp only at hu); go_simp; rfl) (by simp only [List.setIfInBounds_toArray, List.set_cons_succ, List.set_cons_zero]; rfl) ?_
        | refine pl_skip (i := 3) rfl rfl HS0.out rfl (by simp only [List.setIfInBounds_toArray, List.set_cons_succ, List.set_cons_zero]; rfl) ?_
      first
        | refine pl_get (i := 4) rfl rfl HS0.out rfl (fun u hu => by (try dsimp only at hu); go_simp; rfl) (by simp only [List.setIfInBounds_toArray, List.set_cons_succ, List.set_cons_zero]; rfl) ?_
        | refine pl_skip (i := 4) rfl rfl HS0.out rfl (by simp only [List.setIfInBounds_toArray, List.set_cons_succ, List.set_cons_zero]; rfl) ?_
      refine pl_one (i := 1) rfl ?_
      go_wp2_with ((go_at_call 10; refine (len_any tb mb limit M _ HDr.out.T).mono ?_; rintro _ wz ⟨rfl, rfl⟩))
      refine pl_next (fun _ => HS0.out) ?_
      refine pl_one (i := 5) rfl ?_
      go_wp2_with ((go_at_call 11; refine (has_any tb mb limit M s _ HDr.out.T had Hhad.out).mono ?_; rintro _ w3 ⟨rfl, k3⟩))
      have HD3 := Lib.hid (HDr.out.keep k3)
      have HS3 := Lib.hid (ks1 HS0.out k3)
      have Hb3 := Lib.hid (blk_keep Hbr.out k3 (fun h => h))
      clear k3
      refine pl_next (fun _ => HS3.out) ?_
      refine pl_one (i := 6) rfl ?_
      go_wp2_with (fail)
      refine pl_next (fun _ => HS3.out) ?_
      refine pl_one (i := 7) rfl ?_
      go_wp2_with (fail)
      refine pl_next (fun _ => HS3.out) ?_
      refine pl_done ?_
      have bx := Hb3.out
      have x0 := blk_cell bx 0
      have x1 := blk_cell bx 1
      have x2 := blk_cell bx 2
      have x3 := blk_cell bx 3
      simp at x0 x1 x2 x3
      clear bx
      go_wp2_with fail
      by_cases hc : (s, sa, sr) ∈ M ∨ (M.length : Int) < limit
      · obtain ⟨M', hM'⟩ : ∃ l, mput (s, sa, sr) M = l := ⟨_, rfl⟩
        have hlim' : (M'.length : Int) ≤ max limit 0 := by
          rw [← hM']
          rcases hc with hc | hc
          · rw [mput_same HD3.out.rise hc]
            exact HD3.out.lim
          · have := mput_len (s, sa, sr) M
            omega
        have Htr := Lib.hid (show decide (∃ y ∈ M', y.1 = s) = true from decide_eq_true ⟨(s, sa, sr), by rw [← hM']; exact (mput_mem _ _ _).2 (Or.inl rfl), rfl⟩)
        refine (set_ok tb mb limit M s sa sr _ HD3.out.T Hx.out (by have := HD3.out.len; unfold maxLen; omega) hc M' (by rw [← hM']; exact rise_nd (mput_rise _ _ HD3.out.rise)) (fun y => by rw [← hM']; exact mput_mem _ _ _)).mono ?_
        rintro _ w5 ⟨rfl, T5, k5⟩
        have hom : ob ≠ mb := by omega
        have HD5 := Lib.hid (show BS w w5 tb mb limit M' (k + 1) from ⟨T5, HD3.out.hk.trans' k5 hone.out, by rw [← hM']; exact mput_rise _ _ HD3.out.rise, by have := mput_len (s, sa, sr) M; rw [hM'] at this; have := HD3.out.len; omega, hlim'⟩)
        have Hb5 := Lib.hid (blk_keep Hb3.out k5 (fun e => hom e))
        have HS5 := Lib.hid (show w5.cell? ⟨ob, 1, none⟩ = some (.string s) from k5.some HS3.out (fun e => hom e))
        have hmx2 : decide (max limit 0 < (M'.length : Int)) = false := decide_eq_false (by omega)
        clear T5 k5 hM' hc x0 x1 x2 x3 hlim' hom
        have bx := Hb5.out
        have x0 := blk_cell bx 0
        have x1 := blk_cell bx 1
        have x2 := blk_cell bx 2
        have x3 := blk_cell bx 3
        have xl := blk_lt bx
        simp at x0 x1 x2 x3
        clear bx
        go_wp2_with fail
        refine (has_any tb mb limit M' s _ HD5.out.T true Htr.out).mono ?_
        rintro _ w8 ⟨rfl, k8⟩
        have HD8 := Lib.hid (HD5.out.keep k8)
        have Hb8 := Lib.hid (blk_keep Hb5.out k8 (fun h => h))
        clear k8
        clear x0 x1 x2 x3 xl
        have bx := Hb8.out
        have x0 := blk_cell bx 0
        have x1 := blk_cell bx 1
        have x2 := blk_cell bx 2
        have x3 := blk_cell bx 3
        have xl := blk_lt bx
        simp at x0 x1 x2 x3
        clear bx
        go_wp2_with fail
        refine (len_any tb mb limit M' _ HD8.out.T).mono ?_
        rintro _ _ ⟨rfl, rfl⟩
        by_cases hkd : kd = 1
        · subst hkd
          go_wp2_with fail
          refine (upto_any tb mb limit M' _ HD8.out.T (by have := HD8.out.len; omega) HD8.out.rise s sa sr).mono ?_
          rintro _ w9 ⟨rfl, T9, k9⟩
          have hfl : (uptoM s sa sr M').length ≤ M'.length := List.length_filter_le _ _
          have HD9 := Lib.hid (show BS w w9 tb mb limit (uptoM s sa sr M') (k + 1) from ⟨T9, HD8.out.hk.trans' k9 hone.out, rise_filter' HD8.out.rise _, by have := HD8.out.len; omega, by have := HD8.out.lim; omega⟩)
          clear T9 k9 hfl
          go_wp2_with fail
          go_roundw
          case rel => exact ⟨k + 1, _, hlt, h200, by go_num, HD9.out⟩
          case measure => simp [intOf]; omega
        · have hk1 : (kd == 1) = false := by simpa using hkd
          clear hkd
          go_wp2_with fail
          go_roundw
          case rel => exact ⟨k + 1, M', hlt, h200, by go_num, HD8.out⟩
          case measure => simp [intOf]; omega
      · have hn : (s, sa, sr) ∉ M := fun h => hc (Or.inl h)
        have hl : limit ≤ (M.length : Int) := by have : ¬ (M.length : Int) < limit := fun h => hc (Or.inr h); omega
        refine (set_busy tb mb limit M s sa sr _ HD3.out.T Hx.out hn hl).mono ?_
        rintro _ w5 ⟨rfl, k5⟩
        have HD5 := Lib.hid (show BS w w5 tb mb limit M (k + 1) from ⟨HD3.out.T.keep k5 (fun h => h) (fun h => h), HD3.out.hk.trans k5, HD3.out.rise, by have := HD3.out.len; omega, HD3.out.lim⟩)
        have Hb5 := Lib.hid (blk_keep Hb3.out k5 (fun h => h))
        have HS5 := Lib.hid (ks1 HS3.out k5)
        have hlm := HD3.out.lim
        have hmx2 : decide (max limit 0 < (M.length : Int)) = false := decide_eq_false (by omega)
        have hd9 : decide ((M.length : Int) < limit) = false := decide_eq_false (by omega)
        clear k5 hc hn hl x0 x1 x2 x3 hlm
        have bx := Hb5.out
        have x0 := blk_cell bx 0
        have x1 := blk_cell bx 1
        have x2 := blk_cell bx 2
        have x3 := blk_cell bx 3
        have xl := blk_lt bx
        simp at x0 x1 x2 x3
        clear bx
        go_wp2_with fail
        refine (len_any tb mb limit M _ HD5.out.T).mono ?_
        rintro _ _ ⟨rfl, rfl⟩
        go_wp2_with fail
        refine (has_any tb mb limit M s _ HD5.out.T had Hhad.out).mono ?_
        rintro _ w8 ⟨rfl, k8⟩
        have HD8 := Lib.hid (HD5.out.keep k8)
        have Hb8 := Lib.hid (blk_keep Hb5.out k8 (fun h => h))
        clear k8
        clear x0 x1 x2 x3 xl
        have bx := Hb8.out
        have x0 := blk_cell bx 0
        have x1 := blk_cell bx 1
        have x2 := blk_cell bx 2
        have x3 := blk_cell bx 3
        have xl := blk_lt bx
        simp at x0 x1 x2 x3
        clear bx
        go_wp2_with fail
        refine (len_any tb mb limit M _ HD8.out.T).mono ?_
        rintro _ _ ⟨rfl, rfl⟩
        by_cases hkd : kd = 1
        · subst hkd
          go_wp2_with fail
          refine (upto_any tb mb limit M _ HD8.out.T (by have := HD8.out.len; omega) HD8.out.rise s sa sr).mono ?_
          rintro _ w9 ⟨rfl, T9, k9⟩
          have hfl : (uptoM s sa sr M).length ≤ M.length := List.length_filter_le _ _
          have HD9 := Lib.hid (show BS w w9 tb mb limit (uptoM s sa sr M) (k + 1) from ⟨T9, HD8.out.hk.trans' k9 hone.out, rise_filter' HD8.out.rise _, by have := HD8.out.len; omega, by have := HD8.out.lim; omega⟩)
          clear T9 k9 hfl
          go_wp2_with fail
          go_roundw
          case rel => exact ⟨k + 1, _, hlt, h200, by go_num, HD9.out⟩
          case measure => simp [intOf]; omega
        · have hk1 : (kd == 1) = false := by simpa using hkd
          clear hkd
          go_wp2_with fail
          go_roundw
          case rel => exact ⟨k + 1, M, hlt, h200, by go_num, HD8.out⟩
          case measure => simp [intOf]; omega
    · have hout : (¬ k < len0 ∧ decide ((k : Int) < (len0 : Int)) = false) ∨ (k < len0 ∧ ¬ k < 200 ∧ decide ((k : Int) < 200) = false) := by
        by_cases h1 : k < len0
        · right
          have : ¬ k < 200 := fun h => hgo ⟨h1, h⟩
          exact ⟨h1, this, by simp; omega⟩
        · left
          exact ⟨h1, by simp; omega⟩
      have Hk := Lib.hid D.hk
      clear hgo D
      rcases hout with ⟨h1, hd⟩ | ⟨h1, h2, hd⟩
      all_goals
        go_wp2
        go_ret
        exact ⟨rfl, Hk.out.below (fun _ _ h => h)⟩
end Go.Proofs.Ytgangbkompkidaa
