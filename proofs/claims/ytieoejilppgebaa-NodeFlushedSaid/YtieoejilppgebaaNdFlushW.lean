/- The walk of NodeFlushed. -/
import Derived.Test.YtieoejilppgebaaNdFlushQ
namespace Go.Proofs.Ytieoejilppgebaa
open Go Go.RowKit Go.Maps
set_option maxRecDepth 100000

theorem wf_small (n : Int) (h0 : 0 ≤ n) (h1 : n ≤ 1000) : (Lit.int .i64 n).wf = true := by simp [Lit.wf, IntKind.min, IntKind.max, IntKind.signed, IntKind.bits]; omega





set_option maxHeartbeats 16000000 in
theorem flushed_walk (a0 : Option Addr) (len0 cap0 : Nat) (z0 : Nat → ByteArray) (mk : Int) (hmk0 : 0 ≤ mk) (hmk1 : mk ≤ 255) (w : World) (h0 : IsStr w a0 len0 z0) :
    Calls Try.prog 4 #[.slice a0 len0 cap0, .int .u8 mk] w fun e w' => e = .returned (.bool true) ∧ Below w.heap.size w w' := by
  obtain ⟨hmax, hok, hrow⟩ := h0
  unfold maxLen at hmax
  have Hok := Lib.hid hok
  have Hrow := Lib.hid hrow
  clear hok hrow
  obtain ⟨m, hm⟩ : ∃ m : Nat, (m : Int) = mk % 8 := ⟨(mk % 8).toNat, by omega⟩
  have hm7 : m ≤ 7 := by omega
  have hwm : IntKind.i64.wrap mk = mk := IntWalk.i64_in _ (by omega)
  have Hm := Lib.hid hm
  clear hm
  go_enter Try.func4, Try.ntmps4
  go_wp2_with fail
  refine (awake_any _).mono ?_
  rintro _ w0 ⟨rfl, k0⟩
  go_wp2_with fail
  refine (new_any 100000 100000 _ (by decide) (by decide)).mono ?_
  rintro _ w1 ⟨b, rfl, D1, k1, hf⟩
  have S1 := nl_new k0 D1 k1 hf
  clear D1 k1 hf k0
  have HS1 := Lib.hid S1
  clear S1
  go_wp2_with fail
  go_loopw [6, 7, 8] (fun tv rv iv wr => ∃ (k : Nat) (s : NS) (TL : List Int) (R : Int) (ga : Option Addr) (gc : Nat), k ≤ len0 ∧ k ≤ 30 ∧ iv = .int .i64 (k : Int) ∧ rv = .int .i64 R ∧ tv = .slice ga TL.length gc ∧ TL.length = k ∧ Own wr w.heap.size 2 1 cQ (.slice ga TL.length gc) TL ∧ NL w wr b s ∧ FI m R k (2 * k) s ∧ (∀ i, i < k → (z0 i).size ≤ 1000)) (fun _ _ iv _ => len0 - (intOf iv).toNat)
  case atStart => exact ⟨0, _, [], 0, none, 0, Nat.zero_le _, Nat.zero_le _, rfl, rfl, rfl, rfl, Own.nil _ _ _ _ _, HS1.out, ⟨by simp, List.nodup_nil, (by intro x hx; cases hx), rfl, rfl, by simp, Nat.zero_le _, Nat.zero_le _, Int.le_refl _, Int.le_refl _, rfl, rfl⟩, fun i hi => by omega⟩
  case round =>
    clear HS1
    obtain ⟨k, s, TL, R, ga, gc, hk0, hk30, rfl, rfl, rfl, hTL, O, S, F, hz⟩ := hrel
    have HTL0 := Lib.hid hTL
    have HO := Lib.hid O
    have HS := Lib.hid S
    have HF := Lib.hid F
    have Hz := Lib.hid hz
    clear hTL O S F hz
    by_cases hgo : k < len0 ∧ k < 30
    · obtain ⟨hlt, h30⟩ := hgo
      have h30i : decide ((k : Int) < 30) = true := decide_eq_true (by omega)
      rcases Hrow.out with h | ⟨rb, off, rfl, hb, hc⟩
      · omega
      have Hc := Lib.hid (hc k hlt)
      have Hzk := Lib.hid (Hok.out k hlt)
      obtain ⟨t, ht⟩ : ∃ t, z0 k = t := ⟨_, rfl⟩
      have Ht := Lib.hid ht
      rw [ht] at Hc Hzk
      clear hc ht
      have l0 := HS.out.hk.some Hc.out (fun h => h)
      have hbl : rb < wr.heap.size := Nat.lt_of_lt_of_le hb HS.out.hk.size
      by_cases hts : t.size ≤ 1000
      case neg =>
        have d3 : decide (1000 < (t.size : Int)) = true := decide_eq_true (by omega)
        go_wp2_with fail
        go_ret
        exact ⟨rfl, HS.out.hk.below (fun _ _ h => h)⟩
      have d3 : decide (1000 < (t.size : Int)) = false := decide_eq_false (by omega)
      have htl : t.size ≤ maxLen := Hzk.out
      have Hz' := Lib.hid (show ∀ i, i < k + 1 → (z0 i).size ≤ 1000 from fun i hi => by
        by_cases e : i = k
        · rw [e, Ht.out]; exact hts
        · exact Hz.out i (by omega))
      obtain ⟨sz, hsz⟩ : ∃ q, (t.size : Int) + 1 + 32 = q := ⟨_, rfl⟩
      have Hsz := Lib.hid hsz
      have hszb : sz ≤ 1000000000 := by omega
      obtain ⟨s1, v1, hg⟩ := get_total s t
      obtain ⟨kd, xv, tok, rfl, F1⟩ := fi_get HF.out (HS.out.D.ls.map.apart Ls.law9) hg
      have Hg := Lib.hid hg
      have HF1 := Lib.hid F1
      have hfld : ∀ u : World, (Instr.field 31 (.agg #[.int .i64 kd, .int .i64 xv.e, .int .i64 xv.i, .bool xv.th, .string xv.tx, .int .i64 xv.a, .int .i64 tok]) 3).run Try.prog u = .ok (.int .i64 tok) u := fun u => by kernel_rfl
      clear hg F1 hsz
      go_wp2_with fail
      refine (get_any _ b s s1 HS.out.D t htl (by have := HF.out.L; unfold maxLen; omega) HF.out.l0 (by have := HF.out.l1; omega) (ansV kd xv tok) Hg.out).mono ?_
      rintro _ w2 ⟨rfl, P2⟩
      simp only [ansV]
      have HS2 := Lib.hid (HS.out.post P2)
      have O2 := P2.own HS.out.D HO.out
      obtain ⟨TL', hTL'⟩ : ∃ l, TL ++ [tok] = l := ⟨_, rfl⟩
      have HTL := Lib.hid (show TL'.length = k + 1 from by rw [← hTL']; simp; exact HTL0.out)
      have HTk := Lib.hid (show TL'[k]? = some tok from by rw [← hTL', ← HTL0.out]; simp)
      have HTL' := Lib.hid hTL'
      have hTl : TL.length ≤ 100 := by have := HTL0.out; omega
      have HO2 := Lib.hid O2
      clear l0 P2 hTL' O2
      by_cases hkm : k < m
      · have d4 : decide ((k : Int) < mk % 8) = true := decide_eq_true (by have := Hm.out; omega)
        have hR0 : 0 ≤ R ∧ R ≤ 1032 * 30 := by
          have h1 := HF.out.r1
          have h2 := HF.out.kept
          have h3 := HS.out.D.it.kept0
          omega
        have hw1 : IntKind.i64.wrap ((t.size : Int) + 32) = (t.size : Int) + 32 := IntWalk.i64_in _ (by omega)
        have hw2 : IntKind.i64.wrap (R + ((t.size : Int) + 32)) = R + ((t.size : Int) + 32) := IntWalk.i64_in _ (by omega)
        go_wp2_with (at_builtin; refine wpList_append_one rfl (.tmp 30) (.tmp 38) 40 rfl Try.underlying40 info2' (by kernel_rfl) (by decide) (by decide) rfl (HO2.out.alloc _) cQ_len tok rfl (c := #[.int .i64 tok]) (t' := 2) (f := (0, 0)) (by have := blk_new w2 (.cells #[.int .i64 tok] 2); simpa using this) rfl (cQ_one _) (by omega) (by have := HS2.out.hk.size; simp; omega) HTL'.out ?_; intro a4 c4 w4 O4 k4; have HS4 := Lib.hid ((HS2.out.keep ((Keep.refl NoB w2).alloc (.cells #[.int .i64 tok] 2))).own (HO2.out.alloc _) k4); have HO4 := Lib.hid O4; have l4 := HS4.out.hk.some Hc.out (fun h => h); have hb4 : rb < w4.heap.size := Nat.lt_of_lt_of_le hb HS4.out.hk.size; clear O4 k4)
        refine (mark_any w4 b s1 HS4.out.D HF1.out.nd (by have := HF1.out.M; omega) t (k : Int) 1 ⟨htl, show (Lit.int .i64 (k : Int)).wf = true from wf_small _ (by omega) (by omega), show (Lit.int .i64 1).wf = true from wf_small 1 (by omega) (by omega)⟩ (by omega) (by have := HF1.out.len; omega)).mono ?_
        rintro _ w5 ⟨s5, r5, hR5, rfl, P5⟩
        obtain ⟨rfl, F5⟩ := fi_mark HF1.out hkm hm7 hts hR5
        have HF5 := Lib.hid F5
        have HS5 := Lib.hid (HS4.out.post P5)
        have HO5 := Lib.hid (P5.own HS4.out.D HO4.out)
        have l5 := HS5.out.hk.some Hc.out (fun h => h)
        have hb5 : rb < w5.heap.size := Nat.lt_of_lt_of_le hb HS5.out.hk.size
        clear F5 P5 hR5 l4
        by_cases he : (k : Int) % 2 = 0
        · have d5 : ((k : Int) % 2 == 0) = true := by simp [he]
          go_wp2_with fail
          clear l5
          obtain ⟨g5, cg5, hvv5, hg51, hg52, hcx5⟩ := HO5.out.cells cQ_len HTk.out
          cases hvv5
          have t5 := hcx5 0 _ rfl
          simp at t5
          have l5 := HS5.out.hk.some Hc.out (fun h => h)
          clear hcx5
          refine wp_region_pl (fun u => u.cell? ⟨rb, off + k, none⟩ = some (.string t) ∧ u.cell? ⟨g5, k, none⟩ = some (.int .i64 tok)) [] (.rd 0 (.rd 1 (.rd 2 (.rd 3 (.rd 4 (.rd 5 (.rd 6 (.rd 7 (.rd 8 (.rd 9 (.one 10 .done))))))))))) (by kernel_rfl) (by kernel_rfl) (by kernel_rfl) (by kernel_rfl) (by intro c b d v u h; cases d <;> exact h) ?_
          have kd0 : Keep NoB w5 (w5).drew := (Keep.refl NoB _).drew
          have HS6 := Lib.hid (HS5.out.keep kd0)
          have HO6 := Lib.hid (HO5.out.keep kd0 (fun _ _ h => h))
          have HSS6 := Lib.hid (show (w5).drew.cell? ⟨rb, off + k, none⟩ = some (.string t) ∧ (w5).drew.cell? ⟨g5, k, none⟩ = some (.int .i64 tok) from ⟨kd0.some l5 (fun h => h), kd0.some t5 (fun h => h)⟩)
          have hkT : k < TL'.length := by have := HTL.out; omega
          clear kd0 l5 t5
          first
            | refine pl_get (i := 0) rfl rfl HSS6.out rfl (fun u hu => by (try dsimp only at hu); go_simp; rfl) (by simp only [List.setIfInBounds_toArray, List.set_cons_succ, List.set_cons_zero]; rfl) ?_
            | refine pl_skip (i := 0) rfl rfl HSS6.out rfl (by simp only [List.setIfInBounds_toArray, List.set_cons_succ, List.set_cons_zero]; rfl) ?_
          first
            | refine pl_get (i := 1) rfl rfl HSS6.out rfl (fun u hu => by (try dsimp only at hu); go_simp; rfl) (by simp only [List.setIfInBounds_toArray, List.set_cons_succ, List.set_cons_zero]; rfl) ?_
            | refine pl_skip (i := 1) rfl rfl HSS6.out rfl (by simp only [List.setIfInBounds_toArray, List.set_cons_succ, List.set_cons_zero]; rfl) ?_
          first
            | refine pl_get (i := 2) rfl rfl HSS6.out rfl (fun u hu => by (try dsimp only at hu); go_simp; rfl) (by simp only [List.setIfInBounds_toArray, List.set_cons_succ, List.set_cons_zero]; rfl) ?_
            | refine pl_skip (i := 2) rfl rfl HSS6.out rfl (by simp only [List.setIfInBounds_toArray, List.set_cons_succ, List.set_cons_zero]; rfl) ?_
          first
            | refine pl_get (i := 3) rfl rfl HSS6.out rfl (fun u hu => by (try dsimp only at hu); go_simp; rfl) (by simp only [List.setIfInBounds_toArray, List.set_cons_succ, List.set_cons_zero]; rfl) ?_
            | refine pl_skip (i := 3) rfl rfl HSS6.out rfl (by simp only [List.setIfInBounds_toArray, List.set_cons_succ, List.set_cons_zero]; rfl) ?_
          first
            | refine pl_get (i := 4) rfl rfl HSS6.out rfl (fun u hu => by (try dsimp only at hu); go_simp; rfl) (by simp only [List.setIfInBounds_toArray, List.set_cons_succ, List.set_cons_zero]; rfl) ?_
            | refine pl_skip (i := 4) rfl rfl HSS6.out rfl (by simp only [List.setIfInBounds_toArray, List.set_cons_succ, List.set_cons_zero]; rfl) ?_
          first
            | refine pl_get (i := 5) rfl rfl HSS6.out rfl (fun u hu => by (try dsimp only at hu); go_simp; rfl) (by simp only [List.setIfInBounds_toArray, List.set_cons_succ, List.set_cons_zero]; rfl) ?_
            | refine pl_skip (i := 5) rfl rfl HSS6.out rfl (by simp only [List.setIfInBounds_toArray, List.set_cons_succ, List.set_cons_zero]; rfl) ?_
          first
            | refine pl_get (i := 6) rfl rfl HSS6.out rfl (fun u hu => by (try dsimp only at hu); go_simp; rfl) (by simp only [List.setIfInBounds_toArray, List.set_cons_succ, List.set_cons_zero]; rfl) ?_
            | refine pl_skip (i := 6) rfl rfl HSS6.out rfl (by simp only [List.setIfInBounds_toArray, List.set_cons_succ, List.set_cons_zero]; rfl) ?_
          first
            | refine pl_get (i := 7) rfl rfl HSS6.out rfl (fun u hu => by (try dsimp only at hu); go_simp; rfl) (by simp only [List.setIfInBounds_toArray, List.set_cons_succ, List.set_cons_zero]; rfl) ?_
            | refine pl_skip (i := 7) rfl rfl HSS6.out rfl (by simp only [List.setIfInBounds_toArray, List.set_cons_succ, List.set_cons_zero]; rfl) ?_
          first
            | refine pl_get (i := 8) rfl rfl HSS6.out rfl (fun u hu => by (try dsimp only at hu); go_simp; rfl) (by simp only [List.setIfInBounds_toArray, List.set_cons_succ, List.set_cons_zero]; rfl) ?_
            | refine pl_skip (i := 8) rfl rfl HSS6.out rfl (by simp only [List.setIfInBounds_toArray, List.set_cons_succ, List.set_cons_zero]; rfl) ?_
          first
            | refine pl_get (i := 9) rfl rfl HSS6.out rfl (fun u hu => by (try dsimp only at hu); go_simp; rfl) (by simp only [List.setIfInBounds_toArray, List.set_cons_succ, List.set_cons_zero]; rfl) ?_
            | refine pl_skip (i := 9) rfl rfl HSS6.out rfl (by simp only [List.setIfInBounds_toArray, List.set_cons_succ, List.set_cons_zero]; rfl) ?_
          refine pl_one (i := 10) rfl ?_
          go_wp2_with ((go_at_call 9; refine (fill_any _ b s5 HS6.out.D t tok ⟨0, 0, true, tX, 1⟩ htl sz Hsz.out hszb (by have := HF5.out.len; omega)).mono ?_; rintro _ w7 ⟨s7, r7, hR7, rfl, P7⟩))
          have HF7 := Lib.hid (fi_fill HF5.out (HS6.out.D.ls.map.apart Ls.law9) hR7)
          have HS7 := Lib.hid (HS6.out.post P7)
          have HO7 := Lib.hid (P7.own HS6.out.D HO6.out)
          have HSS7 := Lib.hid (show w7.cell? ⟨rb, off + k, none⟩ = some (.string t) ∧ w7.cell? ⟨g5, k, none⟩ = some (.int .i64 tok) from ⟨HS7.out.hk.some Hc.out (fun h => h), by
            obtain ⟨g8, cg8, hv8, _, _, hc8⟩ := HO7.out.cells cQ_len HTk.out
            cases hv8
            have := hc8 0 _ rfl
            simpa using this⟩)
          clear P7 hR7 hkT
          refine pl_next (fun _ => HSS7.out) ?_
          refine pl_done ?_
          go_wp2_with fail
          go_roundw
          case rel => exact ⟨k + 1, s7, TL', (R + ((t.size : Int) + 32)), _, _, hlt, h30, by go_num, rfl, rfl, HTL.out, HO7.out, HS7.out, HF7.out.le (by omega), Hz'.out⟩
          case measure => simp [intOf]; omega
        · have d5 : ((k : Int) % 2 == 0) = false := by simpa using he
          go_wp2_with fail
          go_roundw
          case rel => exact ⟨k + 1, s5, TL', (R + ((t.size : Int) + 32)), _, _, hlt, h30, by go_num, rfl, rfl, HTL.out, HO5.out, HS5.out, HF5.out.le (by omega), Hz'.out⟩
          case measure => simp [intOf]; omega
      · have d4 : decide ((k : Int) < mk % 8) = false := decide_eq_false (by have := Hm.out; omega)
        have HF5 := Lib.hid (fi_not HF1.out hkm)
        by_cases he : (k : Int) % 2 = 0
        · have d5 : ((k : Int) % 2 == 0) = true := by simp [he]
          go_wp2_with (at_builtin; refine wpList_append_one rfl (.tmp 30) (.tmp 38) 40 rfl Try.underlying40 info2' (by kernel_rfl) (by decide) (by decide) rfl (HO2.out.alloc _) cQ_len tok rfl (c := #[.int .i64 tok]) (t' := 2) (f := (0, 0)) (by have := blk_new w2 (.cells #[.int .i64 tok] 2); simpa using this) rfl (cQ_one _) (by omega) (by have := HS2.out.hk.size; simp; omega) HTL'.out ?_; intro a4 c4 w4 O4 k4; have HS4 := Lib.hid ((HS2.out.keep ((Keep.refl NoB w2).alloc (.cells #[.int .i64 tok] 2))).own (HO2.out.alloc _) k4); have HO4 := Lib.hid O4; have l4 := HS4.out.hk.some Hc.out (fun h => h); have hb4 : rb < w4.heap.size := Nat.lt_of_lt_of_le hb HS4.out.hk.size; clear O4 k4)
          have HS5 := HS4
          have HO5 := HO4
          clear l4
          obtain ⟨g5, cg5, hvv5, hg51, hg52, hcx5⟩ := HO5.out.cells cQ_len HTk.out
          cases hvv5
          have t5 := hcx5 0 _ rfl
          simp at t5
          have l5 := HS5.out.hk.some Hc.out (fun h => h)
          clear hcx5
          refine wp_region_pl (fun u => u.cell? ⟨rb, off + k, none⟩ = some (.string t) ∧ u.cell? ⟨g5, k, none⟩ = some (.int .i64 tok)) [] (.rd 0 (.rd 1 (.rd 2 (.rd 3 (.rd 4 (.rd 5 (.rd 6 (.rd 7 (.rd 8 (.rd 9 (.one 10 .done))))))))))) (by kernel_rfl) (by kernel_rfl) (by kernel_rfl) (by kernel_rfl) (by intro c b d v u h; cases d <;> exact h) ?_
          have kd0 : Keep NoB w4 (w4).drew := (Keep.refl NoB _).drew
          have HS6 := Lib.hid (HS5.out.keep kd0)
          have HO6 := Lib.hid (HO5.out.keep kd0 (fun _ _ h => h))
          have HSS6 := Lib.hid (show (w4).drew.cell? ⟨rb, off + k, none⟩ = some (.string t) ∧ (w4).drew.cell? ⟨g5, k, none⟩ = some (.int .i64 tok) from ⟨kd0.some l5 (fun h => h), kd0.some t5 (fun h => h)⟩)
          have hkT : k < TL'.length := by have := HTL.out; omega
          clear kd0 l5 t5
          first
            | refine pl_get (i := 0) rfl rfl HSS6.out rfl (fun u hu => by (try dsimp only at hu); go_simp; rfl) (by simp only [List.setIfInBounds_toArray, List.set_cons_succ, List.set_cons_zero]; rfl) ?_
            | refine pl_skip (i := 0) rfl rfl HSS6.out rfl (by simp only [List.setIfInBounds_toArray, List.set_cons_succ, List.set_cons_zero]; rfl) ?_
          first
            | refine pl_get (i := 1) rfl rfl HSS6.out rfl (fun u hu => by (try dsimp only at hu); go_simp; rfl) (by simp only [List.setIfInBounds_toArray, List.set_cons_succ, List.set_cons_zero]; rfl) ?_
            | refine pl_skip (i := 1) rfl rfl HSS6.out rfl (by simp only [List.setIfInBounds_toArray, List.set_cons_succ, List.set_cons_zero]; rfl) ?_
          first
            | refine pl_get (i := 2) rfl rfl HSS6.out rfl (fun u hu => by (try dsimp only at hu); go_simp; rfl) (by simp only [List.setIfInBounds_toArray, List.set_cons_succ, List.set_cons_zero]; rfl) ?_
            | refine pl_skip (i := 2) rfl rfl HSS6.out rfl (by simp only [List.setIfInBounds_toArray, List.set_cons_succ, List.set_cons_zero]; rfl) ?_
          first
            | refine pl_get (i := 3) rfl rfl HSS6.out rfl (fun u hu => by (try dsimp only at hu); go_simp; rfl) (by simp only [List.setIfInBounds_toArray, List.set_cons_succ, List.set_cons_zero]; rfl) ?_
            | refine pl_skip (i := 3) rfl rfl HSS6.out rfl (by simp only [List.setIfInBounds_toArray, List.set_cons_succ, List.set_cons_zero]; rfl) ?_
          first
            | refine pl_get (i := 4) rfl rfl HSS6.out rfl (fun u hu => by (try dsimp only at hu); go_simp; rfl) (by simp only [List.setIfInBounds_toArray, List.set_cons_succ, List.set_cons_zero]; rfl) ?_
            | refine pl_skip (i := 4) rfl rfl HSS6.out rfl (by simp only [List.setIfInBounds_toArray, List.set_cons_succ, List.set_cons_zero]; rfl) ?_
          first
            | refine pl_get (i := 5) rfl rfl HSS6.out rfl (fun u hu => by (try dsimp only at hu); go_simp; rfl) (by simp only [List.setIfInBounds_toArray, List.set_cons_succ, List.set_cons_zero]; rfl) ?_
            | refine pl_skip (i := 5) rfl rfl HSS6.out rfl (by simp only [List.setIfInBounds_toArray, List.set_cons_succ, List.set_cons_zero]; rfl) ?_
          first
            | refine pl_get (i := 6) rfl rfl HSS6.out rfl (fun u hu => by (try dsimp only at hu); go_simp; rfl) (by simp only [List.setIfInBounds_toArray, List.set_cons_succ, List.set_cons_zero]; rfl) ?_
            | refine pl_skip (i := 6) rfl rfl HSS6.out rfl (by simp only [List.setIfInBounds_toArray, List.set_cons_succ, List.set_cons_zero]; rfl) ?_
          first
            | refine pl_get (i := 7) rfl rfl HSS6.out rfl (fun u hu => by (try dsimp only at hu); go_simp; rfl) (by simp only [List.setIfInBounds_toArray, List.set_cons_succ, List.set_cons_zero]; rfl) ?_
            | refine pl_skip (i := 7) rfl rfl HSS6.out rfl (by simp only [List.setIfInBounds_toArray, List.set_cons_succ, List.set_cons_zero]; rfl) ?_
          first
            | refine pl_get (i := 8) rfl rfl HSS6.out rfl (fun u hu => by (try dsimp only at hu); go_simp; rfl) (by simp only [List.setIfInBounds_toArray, List.set_cons_succ, List.set_cons_zero]; rfl) ?_
            | refine pl_skip (i := 8) rfl rfl HSS6.out rfl (by simp only [List.setIfInBounds_toArray, List.set_cons_succ, List.set_cons_zero]; rfl) ?_
          first
            | refine pl_get (i := 9) rfl rfl HSS6.out rfl (fun u hu => by (try dsimp only at hu); go_simp; rfl) (by simp only [List.setIfInBounds_toArray, List.set_cons_succ, List.set_cons_zero]; rfl) ?_
            | refine pl_skip (i := 9) rfl rfl HSS6.out rfl (by simp only [List.setIfInBounds_toArray, List.set_cons_succ, List.set_cons_zero]; rfl) ?_
          refine pl_one (i := 10) rfl ?_
          go_wp2_with ((go_at_call 9; refine (fill_any _ b s1 HS6.out.D t tok ⟨0, 0, true, tX, 1⟩ htl sz Hsz.out hszb (by have := HF5.out.len; omega)).mono ?_; rintro _ w7 ⟨s7, r7, hR7, rfl, P7⟩))
          have HF7 := Lib.hid (fi_fill HF5.out (HS6.out.D.ls.map.apart Ls.law9) hR7)
          have HS7 := Lib.hid (HS6.out.post P7)
          have HO7 := Lib.hid (P7.own HS6.out.D HO6.out)
          have HSS7 := Lib.hid (show w7.cell? ⟨rb, off + k, none⟩ = some (.string t) ∧ w7.cell? ⟨g5, k, none⟩ = some (.int .i64 tok) from ⟨HS7.out.hk.some Hc.out (fun h => h), by
            obtain ⟨g8, cg8, hv8, _, _, hc8⟩ := HO7.out.cells cQ_len HTk.out
            cases hv8
            have := hc8 0 _ rfl
            simpa using this⟩)
          clear P7 hR7 hkT
          refine pl_next (fun _ => HSS7.out) ?_
          refine pl_done ?_
          go_wp2_with fail
          go_roundw
          case rel => exact ⟨k + 1, s7, TL', R, _, _, hlt, h30, by go_num, rfl, rfl, HTL.out, HO7.out, HS7.out, HF7.out.le (by omega), Hz'.out⟩
          case measure => simp [intOf]; omega
        · have d5 : ((k : Int) % 2 == 0) = false := by simpa using he
          go_wp2_with (at_builtin; refine wpList_append_one rfl (.tmp 30) (.tmp 38) 40 rfl Try.underlying40 info2' (by kernel_rfl) (by decide) (by decide) rfl (HO2.out.alloc _) cQ_len tok rfl (c := #[.int .i64 tok]) (t' := 2) (f := (0, 0)) (by have := blk_new w2 (.cells #[.int .i64 tok] 2); simpa using this) rfl (cQ_one _) (by omega) (by have := HS2.out.hk.size; simp; omega) HTL'.out ?_; intro a4 c4 w4 O4 k4; have HS4 := Lib.hid ((HS2.out.keep ((Keep.refl NoB w2).alloc (.cells #[.int .i64 tok] 2))).own (HO2.out.alloc _) k4); have HO4 := Lib.hid O4; have l4 := HS4.out.hk.some Hc.out (fun h => h); have hb4 : rb < w4.heap.size := Nat.lt_of_lt_of_le hb HS4.out.hk.size; clear O4 k4)
          go_roundw
          case rel => exact ⟨k + 1, s1, TL', R, _, _, hlt, h30, by go_num, rfl, rfl, HTL.out, HO4.out, HS4.out, HF5.out.le (by omega), Hz'.out⟩
          case measure => simp [intOf]; omega
    · have hout : (¬ k < len0 ∧ decide ((k : Int) < (len0 : Int)) = false) ∨ (k < len0 ∧ ¬ k < 30 ∧ decide ((k : Int) < 30) = false) := by
        by_cases h1 : k < len0
        · right
          have : ¬ k < 30 := fun h => hgo ⟨h1, h⟩
          exact ⟨h1, this, by simp; omega⟩
        · left
          exact ⟨h1, by simp; omega⟩
      obtain ⟨mq, hmq⟩ : ∃ q, (s.M.length : Int) = q := ⟨_, rfl⟩
      have HMQ := Lib.hid hmq
      have HMN := Lib.hid (show min (len0 : Int) (mk % 8) = mq from by
        have h1 := HF.out.M
        have h2 := Hm.out
        rw [← hmq]
        rcases hout with ⟨h3, _⟩ | ⟨h3, h4, _⟩ <;> omega)
      have HR := Lib.hid (show It.sumS [] + s.kept = R from by rw [HF.out.kept, It.sumS_nil]; omega)
      have HC := Lib.hid HF.out.cold
      clear hgo hmq
      have hb' : ∀ w' : World, NL w w' b s.flushed → w.heap.size ≤ w'.heap.size := fun w' h => h.hk.size
      have Hb' := Lib.hid hb'
      clear hb'
      rcases hout with ⟨h1, hd⟩ | ⟨h1, h2, hd⟩
      · by_cases hml : mk % 8 < (len0 : Int)
        · have hne : (mq != mk % 8) = false := by have := HMN.out; simp; omega
          go_wp2_with fail
          refine (flush_any _ b s HS.out.D).mono ?_
          rintro _ w2 ⟨rfl, P2⟩
          have HS2 := Lib.hid (HS.out.post P2)
          have HO2 := Lib.hid (P2.own HS.out.D HO.out)
          clear P2
          go_wp2_with fail
          refine (look_any w2 b s.flushed HS2.out.D (Nat.zero_le _) R 0 mq 0 0 HR.out rfl HMQ.out rfl rfl false HC.out).mono ?_
          rintro _ w3 ⟨rfl, k3⟩
          simp only [lookV]
          have HS3 := Lib.hid (HS2.out.keep (k3.alloc (.cells #[.int .i64 R, .int .i64 0, .int .i64 mq, .int .i64 0, .int .i64 0, .bool false] 42)))
          have HO3 := Lib.hid (HO2.out.keep (k3.alloc (.cells #[.int .i64 R, .int .i64 0, .int .i64 mq, .int .i64 0, .int .i64 0, .bool false] 42)) (fun _ _ h => h))
          clear k3 HS2 HO2
          go_wp2_with fail
          generalize World.alloc w3 (.cells #[.int .i64 R, .int .i64 0, .int .i64 mq, .int .i64 0, .int .i64 0, .bool false] 42) = w4 at HS3 HO3 ⊢
          go_loopw [111] (fun iv wx => ∃ j : Nat, j ≤ k ∧ iv = .int .i64 (j : Int) ∧ NL w wx b s.flushed ∧ Own wx w.heap.size 2 1 cQ (.slice ga TL.length gc) TL) (fun iv _ => k - (intOf iv).toNat)
          case atStart => exact ⟨0, Nat.zero_le _, rfl, HS3.out, HO3.out⟩
          case round =>
            clear HS3 HO3
            obtain ⟨j, hj, rfl, Sx, Ox⟩ := hrel
            have HSx := Lib.hid Sx
            have HOx := Lib.hid Ox
            clear Sx Ox
            by_cases hjk : j < k
            · rcases Hrow.out with h | ⟨rb, off, rfl, hb, hc⟩
              · omega
              have hjl : j < len0 := by omega
              have Hc := Lib.hid (hc j hjl)
              have Hts := Lib.hid (Hz.out j hjk)
              have Htl := Lib.hid (Hok.out j hjl)
              generalize z0 j = t at Hc Hts Htl
              clear hc
              have hjT : j < TL.length := by rw [HTL0.out]; exact hjk
              obtain ⟨tok, htok⟩ : ∃ x, TL[j]? = some x := ⟨_, List.getElem?_eq_getElem hjT⟩
              have HTk := Lib.hid htok
              obtain ⟨g5, cg5, hvv5, hg51, hg52, hcx5⟩ := HOx.out.cells cQ_len htok
              cases hvv5
              have t5 := hcx5 0 _ rfl
              simp at t5
              have l5 := HSx.out.hk.some Hc.out (fun h => h)
              have hb5 : rb < wr.heap.size := Nat.lt_of_lt_of_le hb HSx.out.hk.size
              obtain ⟨sz, hsz⟩ : ∃ q, (t.size : Int) + 1 + 32 = q := ⟨_, rfl⟩
              have Hsz := Lib.hid hsz
              have hszb : sz ≤ 1000000000 := by have := Hts.out; omega
              clear hcx5 htok hsz
              go_wp2_with fail
              refine wp_region_pl (fun u => u.cell? ⟨rb, off + j, none⟩ = some (.string t) ∧ u.cell? ⟨g5, j, none⟩ = some (.int .i64 tok)) [] (.rd 0 (.rd 1 (.rd 2 (.rd 3 (.rd 4 (.rd 5 (.rd 6 (.rd 7 (.rd 8 (.rd 9 (.one 10 .done))))))))))) (by kernel_rfl) (by kernel_rfl) (by kernel_rfl) (by kernel_rfl) (by intro c b d v u h; cases d <;> exact h) ?_
              have kd0 : Keep NoB wr wr.drew := (Keep.refl NoB _).drew
              have HS6 := Lib.hid (HSx.out.keep kd0)
              have HO6 := Lib.hid (HOx.out.keep kd0 (fun _ _ h => h))
              have HSS6 := Lib.hid (show wr.drew.cell? ⟨rb, off + j, none⟩ = some (.string t) ∧ wr.drew.cell? ⟨g5, j, none⟩ = some (.int .i64 tok) from ⟨kd0.some l5 (fun h => h), kd0.some t5 (fun h => h)⟩)
              clear kd0 l5 t5
              first
                | refine pl_get (i := 0) rfl rfl HSS6.out rfl (fun u hu => by (try dsimp only at hu); go_simp; rfl) (by simp only [List.setIfInBounds_toArray, List.set_cons_succ, List.set_cons_zero]; rfl) ?_
                | refine pl_skip (i := 0) rfl rfl HSS6.out rfl (by simp only [List.setIfInBounds_toArray, List.set_cons_succ, List.set_cons_zero]; rfl) ?_
              first
                | refine pl_get (i := 1) rfl rfl HSS6.out rfl (fun u hu => by (try dsimp only at hu); go_simp; rfl) (by simp only [List.setIfInBounds_toArray, List.set_cons_succ, List.set_cons_zero]; rfl) ?_
                | refine pl_skip (i := 1) rfl rfl HSS6.out rfl (by simp only [List.setIfInBounds_toArray, List.set_cons_succ, List.set_cons_zero]; rfl) ?_
              first
                | refine pl_get (i := 2) rfl rfl HSS6.out rfl (fun u hu => by (try dsimp only at hu); go_simp; rfl) (by simp only [List.setIfInBounds_toArray, List.set_cons_succ, List.set_cons_zero]; rfl) ?_
                | refine pl_skip (i := 2) rfl rfl HSS6.out rfl (by simp only [List.setIfInBounds_toArray, List.set_cons_succ, List.set_cons_zero]; rfl) ?_
              first
                | refine pl_get (i := 3) rfl rfl HSS6.out rfl (fun u hu => by (try dsimp only at hu); go_simp; rfl) (by simp only [List.setIfInBounds_toArray, List.set_cons_succ, List.set_cons_zero]; rfl) ?_
                | refine pl_skip (i := 3) rfl rfl HSS6.out rfl (by simp only [List.setIfInBounds_toArray, List.set_cons_succ, List.set_cons_zero]; rfl) ?_
              first
                | refine pl_get (i := 4) rfl rfl HSS6.out rfl (fun u hu => by (try dsimp only at hu); go_simp; rfl) (by simp only [List.setIfInBounds_toArray, List.set_cons_succ, List.set_cons_zero]; rfl) ?_
                | refine pl_skip (i := 4) rfl rfl HSS6.out rfl (by simp only [List.setIfInBounds_toArray, List.set_cons_succ, List.set_cons_zero]; rfl) ?_
              first
                | refine pl_get (i := 5) rfl rfl HSS6.out rfl (fun u hu => by (try dsimp only at hu); go_simp; rfl) (by simp only [List.setIfInBounds_toArray, List.set_cons_succ, List.set_cons_zero]; rfl) ?_
                | refine pl_skip (i := 5) rfl rfl HSS6.out rfl (by simp only [List.setIfInBounds_toArray, List.set_cons_succ, List.set_cons_zero]; rfl) ?_
              first
                | refine pl_get (i := 6) rfl rfl HSS6.out rfl (fun u hu => by (try dsimp only at hu); go_simp; rfl) (by simp only [List.setIfInBounds_toArray, List.set_cons_succ, List.set_cons_zero]; rfl) ?_
                | refine pl_skip (i := 6) rfl rfl HSS6.out rfl (by simp only [List.setIfInBounds_toArray, List.set_cons_succ, List.set_cons_zero]; rfl) ?_
              first
                | refine pl_get (i := 7) rfl rfl HSS6.out rfl (fun u hu => by (try dsimp only at hu); go_simp; rfl) (by simp only [List.setIfInBounds_toArray, List.set_cons_succ, List.set_cons_zero]; rfl) ?_
                | refine pl_skip (i := 7) rfl rfl HSS6.out rfl (by simp only [List.setIfInBounds_toArray, List.set_cons_succ, List.set_cons_zero]; rfl) ?_
              first
                | refine pl_get (i := 8) rfl rfl HSS6.out rfl (fun u hu => by (try dsimp only at hu); go_simp; rfl) (by simp only [List.setIfInBounds_toArray, List.set_cons_succ, List.set_cons_zero]; rfl) ?_
                | refine pl_skip (i := 8) rfl rfl HSS6.out rfl (by simp only [List.setIfInBounds_toArray, List.set_cons_succ, List.set_cons_zero]; rfl) ?_
              first
                | refine pl_get (i := 9) rfl rfl HSS6.out rfl (fun u hu => by (try dsimp only at hu); go_simp; rfl) (by simp only [List.setIfInBounds_toArray, List.set_cons_succ, List.set_cons_zero]; rfl) ?_
                | refine pl_skip (i := 9) rfl rfl HSS6.out rfl (by simp only [List.setIfInBounds_toArray, List.set_cons_succ, List.set_cons_zero]; rfl) ?_
              refine pl_one (i := 10) rfl ?_
              go_wp2_with ((go_at_call 9; refine (fill_any _ b s.flushed HS6.out.D t tok ⟨0, 0, true, ⟨#[121]⟩, 2⟩ Htl.out sz Hsz.out hszb (Nat.zero_le _)).mono ?_; rintro _ w7 ⟨s7, r7, hR7, rfl, P7⟩))
              have hs7 : r7 = false ∧ s.flushed = s7 := by
                cases hR7 with
                | no h => exact ⟨rfl, rfl⟩
                | yes h s' r hp => cases h
              obtain ⟨rfl, e7⟩ := hs7
              rw [← e7] at P7
              have HS7 := Lib.hid (HS6.out.post P7)
              have HO7 := Lib.hid (P7.own HS6.out.D HO6.out)
              have HSS7 := Lib.hid (show w7.cell? ⟨rb, off + j, none⟩ = some (.string t) ∧ w7.cell? ⟨g5, j, none⟩ = some (.int .i64 tok) from ⟨HS7.out.hk.some Hc.out (fun h => h), by
                obtain ⟨g8, cg8, hv8, _, _, hc8⟩ := HO7.out.cells cQ_len HTk.out
                cases hv8
                have := hc8 0 _ rfl
                simpa using this⟩)
              clear P7 hR7 e7
              refine pl_next (fun _ => HSS7.out) ?_
              refine pl_done ?_
              go_wp2_with fail
              go_roundw
              case rel => exact ⟨j + 1, hjk, by go_num, HS7.out, HO7.out⟩
              case measure => simp [intOf]; omega
            · have hd2 : ¬ j < TL.length := by rw [HTL0.out]; exact hjk
              go_wp2_with fail
              refine (purge_any _ b s.M s.room s.kept [] s.last [] 0 [] s.cold s.since HSx.out.D).mono ?_
              rintro _ w8 ⟨rfl, P8⟩
              have HS8 := Lib.hid (HSx.out.post P8)
              clear P8
              go_wp2_with fail
              refine (look_any w8 b _ HS8.out.D (Nat.zero_le _) 0 0 0 0 0 rfl rfl rfl rfl rfl false rfl).mono ?_
              rintro _ w9 ⟨rfl, k9⟩
              simp only [lookV]
              have HS9 := Lib.hid (HS8.out.keep k9)
              clear k9
              go_wp2_with fail
              go_ret
              exact ⟨rfl, HS9.out.hk.below (fun _ _ h => h)⟩
        · have hne : (mq != (len0 : Int)) = false := by have := HMN.out; simp; omega
          go_wp2_with fail
          refine (flush_any _ b s HS.out.D).mono ?_
          rintro _ w2 ⟨rfl, P2⟩
          have HS2 := Lib.hid (HS.out.post P2)
          have HO2 := Lib.hid (P2.own HS.out.D HO.out)
          clear P2
          go_wp2_with fail
          refine (look_any w2 b s.flushed HS2.out.D (Nat.zero_le _) R 0 mq 0 0 HR.out rfl HMQ.out rfl rfl false HC.out).mono ?_
          rintro _ w3 ⟨rfl, k3⟩
          simp only [lookV]
          have HS3 := Lib.hid (HS2.out.keep (k3.alloc (.cells #[.int .i64 R, .int .i64 0, .int .i64 mq, .int .i64 0, .int .i64 0, .bool false] 42)))
          have HO3 := Lib.hid (HO2.out.keep (k3.alloc (.cells #[.int .i64 R, .int .i64 0, .int .i64 mq, .int .i64 0, .int .i64 0, .bool false] 42)) (fun _ _ h => h))
          clear k3 HS2 HO2
          go_wp2_with fail
          generalize World.alloc w3 (.cells #[.int .i64 R, .int .i64 0, .int .i64 mq, .int .i64 0, .int .i64 0, .bool false] 42) = w4 at HS3 HO3 ⊢
          go_loopw [111] (fun iv wx => ∃ j : Nat, j ≤ k ∧ iv = .int .i64 (j : Int) ∧ NL w wx b s.flushed ∧ Own wx w.heap.size 2 1 cQ (.slice ga TL.length gc) TL) (fun iv _ => k - (intOf iv).toNat)
          case atStart => exact ⟨0, Nat.zero_le _, rfl, HS3.out, HO3.out⟩
          case round =>
            clear HS3 HO3
            obtain ⟨j, hj, rfl, Sx, Ox⟩ := hrel
            have HSx := Lib.hid Sx
            have HOx := Lib.hid Ox
            clear Sx Ox
            by_cases hjk : j < k
            · rcases Hrow.out with h | ⟨rb, off, rfl, hb, hc⟩
              · omega
              have hjl : j < len0 := by omega
              have Hc := Lib.hid (hc j hjl)
              have Hts := Lib.hid (Hz.out j hjk)
              have Htl := Lib.hid (Hok.out j hjl)
              generalize z0 j = t at Hc Hts Htl
              clear hc
              have hjT : j < TL.length := by rw [HTL0.out]; exact hjk
              obtain ⟨tok, htok⟩ : ∃ x, TL[j]? = some x := ⟨_, List.getElem?_eq_getElem hjT⟩
              have HTk := Lib.hid htok
              obtain ⟨g5, cg5, hvv5, hg51, hg52, hcx5⟩ := HOx.out.cells cQ_len htok
              cases hvv5
              have t5 := hcx5 0 _ rfl
              simp at t5
              have l5 := HSx.out.hk.some Hc.out (fun h => h)
              have hb5 : rb < wr.heap.size := Nat.lt_of_lt_of_le hb HSx.out.hk.size
              obtain ⟨sz, hsz⟩ : ∃ q, (t.size : Int) + 1 + 32 = q := ⟨_, rfl⟩
              have Hsz := Lib.hid hsz
              have hszb : sz ≤ 1000000000 := by have := Hts.out; omega
              clear hcx5 htok hsz
              go_wp2_with fail
              refine wp_region_pl (fun u => u.cell? ⟨rb, off + j, none⟩ = some (.string t) ∧ u.cell? ⟨g5, j, none⟩ = some (.int .i64 tok)) [] (.rd 0 (.rd 1 (.rd 2 (.rd 3 (.rd 4 (.rd 5 (.rd 6 (.rd 7 (.rd 8 (.rd 9 (.one 10 .done))))))))))) (by kernel_rfl) (by kernel_rfl) (by kernel_rfl) (by kernel_rfl) (by intro c b d v u h; cases d <;> exact h) ?_
              have kd0 : Keep NoB wr wr.drew := (Keep.refl NoB _).drew
              have HS6 := Lib.hid (HSx.out.keep kd0)
              have HO6 := Lib.hid (HOx.out.keep kd0 (fun _ _ h => h))
              have HSS6 := Lib.hid (show wr.drew.cell? ⟨rb, off + j, none⟩ = some (.string t) ∧ wr.drew.cell? ⟨g5, j, none⟩ = some (.int .i64 tok) from ⟨kd0.some l5 (fun h => h), kd0.some t5 (fun h => h)⟩)
              clear kd0 l5 t5
              first
                | refine pl_get (i := 0) rfl rfl HSS6.out rfl (fun u hu => by (try dsimp only at hu); go_simp; rfl) (by simp only [List.setIfInBounds_toArray, List.set_cons_succ, List.set_cons_zero]; rfl) ?_
                | refine pl_skip (i := 0) rfl rfl HSS6.out rfl (by simp only [List.setIfInBounds_toArray, List.set_cons_succ, List.set_cons_zero]; rfl) ?_
              first
                | refine pl_get (i := 1) rfl rfl HSS6.out rfl (fun u hu => by (try dsimp only at hu); go_simp; rfl) (by simp only [List.setIfInBounds_toArray, List.set_cons_succ, List.set_cons_zero]; rfl) ?_
                | refine pl_skip (i := 1) rfl rfl HSS6.out rfl (by simp only [List.setIfInBounds_toArray, List.set_cons_succ, List.set_cons_zero]; rfl) ?_
              first
                | refine pl_get (i := 2) rfl rfl HSS6.out rfl (fun u hu => by (try dsimp only at hu); go_simp; rfl) (by simp only [List.setIfInBounds_toArray, List.set_cons_succ, List.set_cons_zero]; rfl) ?_
                | refine pl_skip (i := 2) rfl rfl HSS6.out rfl (by simp only [List.setIfInBounds_toArray, List.set_cons_succ, List.set_cons_zero]; rfl) ?_
              first
                | refine pl_get (i := 3) rfl rfl HSS6.out rfl (fun u hu => by (try dsimp only at hu); go_simp; rfl) (by simp only [List.setIfInBounds_toArray, List.set_cons_succ, List.set_cons_zero]; rfl) ?_
                | refine pl_skip (i := 3) rfl rfl HSS6.out rfl (by simp only [List.setIfInBounds_toArray, List.set_cons_succ, List.set_cons_zero]; rfl) ?_
              first
                | refine pl_get (i := 4) rfl rfl HSS6.out rfl (fun u hu => by (try dsimp only at hu); go_simp; rfl) (by simp only [List.setIfInBounds_toArray, List.set_cons_succ, List.set_cons_zero]; rfl) ?_
                | refine pl_skip (i := 4) rfl rfl HSS6.out rfl (by simp only [List.setIfInBounds_toArray, List.set_cons_succ, List.set_cons_zero]; rfl) ?_
              first
                | refine pl_get (i := 5) rfl rfl HSS6.out rfl (fun u hu => by (try dsimp only at hu); go_simp; rfl) (by simp only [List.setIfInBounds_toArray, List.set_cons_succ, List.set_cons_zero]; rfl) ?_
                | refine pl_skip (i := 5) rfl rfl HSS6.out rfl (by simp only [List.setIfInBounds_toArray, List.set_cons_succ, List.set_cons_zero]; rfl) ?_
              first
                | refine pl_get (i := 6) rfl rfl HSS6.out rfl (fun u hu => by (try dsimp only at hu); go_simp; rfl) (by simp only [List.setIfInBounds_toArray, List.set_cons_succ, List.set_cons_zero]; rfl) ?_
                | refine pl_skip (i := 6) rfl rfl HSS6.out rfl (by simp only [List.setIfInBounds_toArray, List.set_cons_succ, List.set_cons_zero]; rfl) ?_
              first
                | refine pl_get (i := 7) rfl rfl HSS6.out rfl (fun u hu => by (try dsimp only at hu); go_simp; rfl) (by simp only [List.setIfInBounds_toArray, List.set_cons_succ, List.set_cons_zero]; rfl) ?_
                | refine pl_skip (i := 7) rfl rfl HSS6.out rfl (by simp only [List.setIfInBounds_toArray, List.set_cons_succ, List.set_cons_zero]; rfl) ?_
              first
                | refine pl_get (i := 8) rfl rfl HSS6.out rfl (fun u hu => by (try dsimp only at hu); go_simp; rfl) (by simp only [List.setIfInBounds_toArray, List.set_cons_succ, List.set_cons_zero]; rfl) ?_
                | refine pl_skip (i := 8) rfl rfl HSS6.out rfl (by simp only [List.setIfInBounds_toArray, List.set_cons_succ, List.set_cons_zero]; rfl) ?_
              first
                | refine pl_get (i := 9) rfl rfl HSS6.out rfl (fun u hu => by (try dsimp only at hu); go_simp; rfl) (by simp only [List.setIfInBounds_toArray, List.set_cons_succ, List.set_cons_zero]; rfl) ?_
                | refine pl_skip (i := 9) rfl rfl HSS6.out rfl (by simp only [List.setIfInBounds_toArray, List.set_cons_succ, List.set_cons_zero]; rfl) ?_
              refine pl_one (i := 10) rfl ?_
              go_wp2_with ((go_at_call 9; refine (fill_any _ b s.flushed HS6.out.D t tok ⟨0, 0, true, ⟨#[121]⟩, 2⟩ Htl.out sz Hsz.out hszb (Nat.zero_le _)).mono ?_; rintro _ w7 ⟨s7, r7, hR7, rfl, P7⟩))
              have hs7 : r7 = false ∧ s.flushed = s7 := by
                cases hR7 with
                | no h => exact ⟨rfl, rfl⟩
                | yes h s' r hp => cases h
              obtain ⟨rfl, e7⟩ := hs7
              rw [← e7] at P7
              have HS7 := Lib.hid (HS6.out.post P7)
              have HO7 := Lib.hid (P7.own HS6.out.D HO6.out)
              have HSS7 := Lib.hid (show w7.cell? ⟨rb, off + j, none⟩ = some (.string t) ∧ w7.cell? ⟨g5, j, none⟩ = some (.int .i64 tok) from ⟨HS7.out.hk.some Hc.out (fun h => h), by
                obtain ⟨g8, cg8, hv8, _, _, hc8⟩ := HO7.out.cells cQ_len HTk.out
                cases hv8
                have := hc8 0 _ rfl
                simpa using this⟩)
              clear P7 hR7 e7
              refine pl_next (fun _ => HSS7.out) ?_
              refine pl_done ?_
              go_wp2_with fail
              go_roundw
              case rel => exact ⟨j + 1, hjk, by go_num, HS7.out, HO7.out⟩
              case measure => simp [intOf]; omega
            · have hd2 : ¬ j < TL.length := by rw [HTL0.out]; exact hjk
              go_wp2_with fail
              refine (purge_any _ b s.M s.room s.kept [] s.last [] 0 [] s.cold s.since HSx.out.D).mono ?_
              rintro _ w8 ⟨rfl, P8⟩
              have HS8 := Lib.hid (HSx.out.post P8)
              clear P8
              go_wp2_with fail
              refine (look_any w8 b _ HS8.out.D (Nat.zero_le _) 0 0 0 0 0 rfl rfl rfl rfl rfl false rfl).mono ?_
              rintro _ w9 ⟨rfl, k9⟩
              simp only [lookV]
              have HS9 := Lib.hid (HS8.out.keep k9)
              clear k9
              go_wp2_with fail
              go_ret
              exact ⟨rfl, HS9.out.hk.below (fun _ _ h => h)⟩
      · have hml : mk % 8 < (len0 : Int) := by have := Hm.out; omega
        have hne : (mq != mk % 8) = false := by have := HMN.out; simp; omega
        go_wp2_with fail
        refine (flush_any _ b s HS.out.D).mono ?_
        rintro _ w2 ⟨rfl, P2⟩
        have HS2 := Lib.hid (HS.out.post P2)
        have HO2 := Lib.hid (P2.own HS.out.D HO.out)
        clear P2
        go_wp2_with fail
        refine (look_any w2 b s.flushed HS2.out.D (Nat.zero_le _) R 0 mq 0 0 HR.out rfl HMQ.out rfl rfl false HC.out).mono ?_
        rintro _ w3 ⟨rfl, k3⟩
        simp only [lookV]
        have HS3 := Lib.hid (HS2.out.keep (k3.alloc (.cells #[.int .i64 R, .int .i64 0, .int .i64 mq, .int .i64 0, .int .i64 0, .bool false] 42)))
        have HO3 := Lib.hid (HO2.out.keep (k3.alloc (.cells #[.int .i64 R, .int .i64 0, .int .i64 mq, .int .i64 0, .int .i64 0, .bool false] 42)) (fun _ _ h => h))
        clear k3 HS2 HO2
        go_wp2_with fail
        generalize World.alloc w3 (.cells #[.int .i64 R, .int .i64 0, .int .i64 mq, .int .i64 0, .int .i64 0, .bool false] 42) = w4 at HS3 HO3 ⊢
        go_loopw [111] (fun iv wx => ∃ j : Nat, j ≤ k ∧ iv = .int .i64 (j : Int) ∧ NL w wx b s.flushed ∧ Own wx w.heap.size 2 1 cQ (.slice ga TL.length gc) TL) (fun iv _ => k - (intOf iv).toNat)
        case atStart => exact ⟨0, Nat.zero_le _, rfl, HS3.out, HO3.out⟩
        case round =>
          clear HS3 HO3
          obtain ⟨j, hj, rfl, Sx, Ox⟩ := hrel
          have HSx := Lib.hid Sx
          have HOx := Lib.hid Ox
          clear Sx Ox
          by_cases hjk : j < k
          · rcases Hrow.out with h | ⟨rb, off, rfl, hb, hc⟩
            · omega
            have hjl : j < len0 := by omega
            have Hc := Lib.hid (hc j hjl)
            have Hts := Lib.hid (Hz.out j hjk)
            have Htl := Lib.hid (Hok.out j hjl)
            generalize z0 j = t at Hc Hts Htl
            clear hc
            have hjT : j < TL.length := by rw [HTL0.out]; exact hjk
            obtain ⟨tok, htok⟩ : ∃ x, TL[j]? = some x := ⟨_, List.getElem?_eq_getElem hjT⟩
            have HTk := Lib.hid htok
            obtain ⟨g5, cg5, hvv5, hg51, hg52, hcx5⟩ := HOx.out.cells cQ_len htok
            cases hvv5
            have t5 := hcx5 0 _ rfl
            simp at t5
            have l5 := HSx.out.hk.some Hc.out (fun h => h)
            have hb5 : rb < wr.heap.size := Nat.lt_of_lt_of_le hb HSx.out.hk.size
            obtain ⟨sz, hsz⟩ : ∃ q, (t.size : Int) + 1 + 32 = q := ⟨_, rfl⟩
            have Hsz := Lib.hid hsz
            have hszb : sz ≤ 1000000000 := by have := Hts.out; omega
            clear hcx5 htok hsz
            go_wp2_with fail
            refine wp_region_pl (fun u => u.cell? ⟨rb, off + j, none⟩ = some (.string t) ∧ u.cell? ⟨g5, j, none⟩ = some (.int .i64 tok)) [] (.rd 0 (.rd 1 (.rd 2 (.rd 3 (.rd 4 (.rd 5 (.rd 6 (.rd 7 (.rd 8 (.rd 9 (.one 10 .done))))))))))) (by kernel_rfl) (by kernel_rfl) (by kernel_rfl) (by kernel_rfl) (by intro c b d v u h; cases d <;> exact h) ?_
            have kd0 : Keep NoB wr wr.drew := (Keep.refl NoB _).drew
            have HS6 := Lib.hid (HSx.out.keep kd0)
            have HO6 := Lib.hid (HOx.out.keep kd0 (fun _ _ h => h))
            have HSS6 := Lib.hid (show wr.drew.cell? ⟨rb, off + j, none⟩ = some (.string t) ∧ wr.drew.cell? ⟨g5, j, none⟩ = some (.int .i64 tok) from ⟨kd0.some l5 (fun h => h), kd0.some t5 (fun h => h)⟩)
            clear kd0 l5 t5
            first
              | refine pl_get (i := 0) rfl rfl HSS6.out rfl (fun u hu => by (try dsimp only at hu); go_simp; rfl) (by simp only [List.setIfInBounds_toArray, List.set_cons_succ, List.set_cons_zero]; rfl) ?_
              | refine pl_skip (i := 0) rfl rfl HSS6.out rfl (by simp only [List.setIfInBounds_toArray, List.set_cons_succ, List.set_cons_zero]; rfl) ?_
            first
              | refine pl_get (i := 1) rfl rfl HSS6.out rfl (fun u hu => by (try dsimp only at hu); go_simp; rfl) (by simp only [List.setIfInBounds_toArray, List.set_cons_succ, List.set_cons_zero]; rfl) ?_
              | refine pl_skip (i := 1) rfl rfl HSS6.out rfl (by simp only [List.setIfInBounds_toArray, List.set_cons_succ, List.set_cons_zero]; rfl) ?_
            first
              | refine pl_get (i := 2) rfl rfl HSS6.out rfl (fun u hu => by (try dsimp only at hu); go_simp; rfl) (by simp only [List.setIfInBounds_toArray, List.set_cons_succ, List.set_cons_zero]; rfl) ?_
              | refine pl_skip (i := 2) rfl rfl HSS6.out rfl (by simp only [List.setIfInBounds_toArray, List.set_cons_succ, List.set_cons_zero]; rfl) ?_
            first
              | refine pl_get (i := 3) rfl rfl HSS6.out rfl (fun u hu => by (try dsimp only at hu); go_simp; rfl) (by simp only [List.setIfInBounds_toArray, List.set_cons_succ, List.set_cons_zero]; rfl) ?_
              | refine pl_skip (i := 3) rfl rfl HSS6.out rfl (by simp only [List.setIfInBounds_toArray, List.set_cons_succ, List.set_cons_zero]; rfl) ?_
            first
              | refine pl_get (i := 4) rfl rfl HSS6.out rfl (fun u hu => by (try dsimp only at hu); go_simp; rfl) (by simp only [List.setIfInBounds_toArray, List.set_cons_succ, List.set_cons_zero]; rfl) ?_
              | refine pl_skip (i := 4) rfl rfl HSS6.out rfl (by simp only [List.setIfInBounds_toArray, List.set_cons_succ, List.set_cons_zero]; rfl) ?_
            first
              | refine pl_get (i := 5) rfl rfl HSS6.out rfl (fun u hu => by (try dsimp only at hu); go_simp; rfl) (by simp only [List.setIfInBounds_toArray, List.set_cons_succ, List.set_cons_zero]; rfl) ?_
              | refine pl_skip (i := 5) rfl rfl HSS6.out rfl (by simp only [List.setIfInBounds_toArray, List.set_cons_succ, List.set_cons_zero]; rfl) ?_
            first
              | refine pl_get (i := 6) rfl rfl HSS6.out rfl (fun u hu => by (try dsimp only at hu); go_simp; rfl) (by simp only [List.setIfInBounds_toArray, List.set_cons_succ, List.set_cons_zero]; rfl) ?_
              | refine pl_skip (i := 6) rfl rfl HSS6.out rfl (by simp only [List.setIfInBounds_toArray, List.set_cons_succ, List.set_cons_zero]; rfl) ?_
            first
              | refine pl_get (i := 7) rfl rfl HSS6.out rfl (fun u hu => by (try dsimp only at hu); go_simp; rfl) (by simp only [List.setIfInBounds_toArray, List.set_cons_succ, List.set_cons_zero]; rfl) ?_
              | refine pl_skip (i := 7) rfl rfl HSS6.out rfl (by simp only [List.setIfInBounds_toArray, List.set_cons_succ, List.set_cons_zero]; rfl) ?_
            first
              | refine pl_get (i := 8) rfl rfl HSS6.out rfl (fun u hu => by (try dsimp only at hu); go_simp; rfl) (by simp only [List.setIfInBounds_toArray, List.set_cons_succ, List.set_cons_zero]; rfl) ?_
              | refine pl_skip (i := 8) rfl rfl HSS6.out rfl (by simp only [List.setIfInBounds_toArray, List.set_cons_succ, List.set_cons_zero]; rfl) ?_
            first
              | refine pl_get (i := 9) rfl rfl HSS6.out rfl (fun u hu => by (try dsimp only at hu); go_simp; rfl) (by simp only [List.setIfInBounds_toArray, List.set_cons_succ, List.set_cons_zero]; rfl) ?_
              | refine pl_skip (i := 9) rfl rfl HSS6.out rfl (by simp only [List.setIfInBounds_toArray, List.set_cons_succ, List.set_cons_zero]; rfl) ?_
            refine pl_one (i := 10) rfl ?_
            go_wp2_with ((go_at_call 9; refine (fill_any _ b s.flushed HS6.out.D t tok ⟨0, 0, true, ⟨#[121]⟩, 2⟩ Htl.out sz Hsz.out hszb (Nat.zero_le _)).mono ?_; rintro _ w7 ⟨s7, r7, hR7, rfl, P7⟩))
            have hs7 : r7 = false ∧ s.flushed = s7 := by
              cases hR7 with
              | no h => exact ⟨rfl, rfl⟩
              | yes h s' r hp => cases h
            obtain ⟨rfl, e7⟩ := hs7
            rw [← e7] at P7
            have HS7 := Lib.hid (HS6.out.post P7)
            have HO7 := Lib.hid (P7.own HS6.out.D HO6.out)
            have HSS7 := Lib.hid (show w7.cell? ⟨rb, off + j, none⟩ = some (.string t) ∧ w7.cell? ⟨g5, j, none⟩ = some (.int .i64 tok) from ⟨HS7.out.hk.some Hc.out (fun h => h), by
              obtain ⟨g8, cg8, hv8, _, _, hc8⟩ := HO7.out.cells cQ_len HTk.out
              cases hv8
              have := hc8 0 _ rfl
              simpa using this⟩)
            clear P7 hR7 e7
            refine pl_next (fun _ => HSS7.out) ?_
            refine pl_done ?_
            go_wp2_with fail
            go_roundw
            case rel => exact ⟨j + 1, hjk, by go_num, HS7.out, HO7.out⟩
            case measure => simp [intOf]; omega
          · have hd2 : ¬ j < TL.length := by rw [HTL0.out]; exact hjk
            go_wp2_with fail
            refine (purge_any _ b s.M s.room s.kept [] s.last [] 0 [] s.cold s.since HSx.out.D).mono ?_
            rintro _ w8 ⟨rfl, P8⟩
            have HS8 := Lib.hid (HSx.out.post P8)
            clear P8
            go_wp2_with fail
            refine (look_any w8 b _ HS8.out.D (Nat.zero_le _) 0 0 0 0 0 rfl rfl rfl rfl rfl false rfl).mono ?_
            rintro _ w9 ⟨rfl, k9⟩
            simp only [lookV]
            have HS9 := Lib.hid (HS8.out.keep k9)
            clear k9
            go_wp2_with fail
            go_ret
            exact ⟨rfl, HS9.out.hk.below (fun _ _ h => h)⟩
end Go.Proofs.Ytieoejilppgebaa
