/- The walk of NodeMarked. -/
import Derived.Test.YtieoejilppgebaaNdMarkedQ
import Derived.Test.YtieoejilppgebaaNdStr
namespace Go.Proofs.Ytieoejilppgebaa
open Go Go.RowKit Go.Maps
set_option maxRecDepth 100000


theorem sameS (s : ByteArray) : (Ls.kS s).sameKey (Ls.kS s) = true := by simp [Ls.kS, Lit.sameKey]


set_option maxHeartbeats 16000000 in
theorem marked_walk (key : ByteArray) (a1 : Option Addr) (len1 cap1 : Nat) (z1 : Nat → ByteArray) (se : Int) (hse : (Lit.int .i64 se).wf = true) (w : World) (h1 : IsStr w a1 len1 z1) :
    Calls Try.prog 3 #[.string key, .slice a1 len1 cap1, .int .i64 se] w fun e w' => e = .returned (.bool true) ∧ Below w.heap.size w w' := by
  obtain ⟨hmax, hok, hrow⟩ := h1
  unfold maxLen at hmax
  have Hok := Lib.hid hok
  have Hrow := Lib.hid hrow
  clear hok hrow
  go_enter Try.func3, Try.ntmps3
  go_wp2_with fail
  refine (awake_any _).mono ?_
  rintro _ w0 ⟨rfl, k0⟩
  by_cases hks : key.size ≤ 1000
  case neg =>
    have d1 : decide (1000 < (key.size : Int)) = true := decide_eq_true (by omega)
    go_wp2_with fail
    go_ret
    exact ⟨rfl, k0.below (fun _ _ h => h)⟩
  have d1 : decide (1000 < (key.size : Int)) = false := decide_eq_false (by omega)
  by_cases hl40 : len1 ≤ 40
  case neg =>
    have d2 : decide (40 < (len1 : Int)) = true := decide_eq_true (by omega)
    go_wp2_with fail
    go_ret
    exact ⟨rfl, k0.below (fun _ _ h => h)⟩
  have d2 : decide (40 < (len1 : Int)) = false := decide_eq_false (by omega)
  have hkl : key.size ≤ maxLen := by unfold maxLen; omega
  go_wp2_with fail
  refine (new_any 100000 100000 _ (by decide) (by decide)).mono ?_
  rintro _ w1 ⟨b, rfl, D1, k1, hf⟩
  have S1 := nl_new k0 D1 k1 hf
  clear D1 k1 hf k0
  go_wp2_with fail
  -- Get: a miss
  refine (get_any _ b _ _ S1.D key hkl (by decide) (by decide) (by decide) (ansV 3 ⟨0, 0, false, ⟨#[]⟩, 0⟩ 1) (.miss (by simp) rfl 1 true 1 [(Ls.kS key, (1, 10))] rfl)).mono ?_
  rintro _ w2 ⟨rfl, P2⟩
  simp only [ansV]
  have S2 := S1.post P2
  have S3 := S2.keep ((Keep.refl NoB w2).alloc (.cells #[.int .i64 3, .int .i64 0, .int .i64 0, .bool false, .string ⟨#[]⟩, .int .i64 0, .int .i64 1] 31))
  have a3 := blk_new w2 (.cells #[.int .i64 3, .int .i64 0, .int .i64 0, .bool false, .string ⟨#[]⟩, .int .i64 0, .int .i64 1] 31)
  clear S1 P2 S2
  go_wp2_with fail
  generalize World.alloc w2 (.cells #[.int .i64 3, .int .i64 0, .int .i64 0, .bool false, .string ⟨#[]⟩, .int .i64 0, .int .i64 1] 31) = w3 at a3 S3 ⊢
  generalize w2.heap.size = q2 at a3 ⊢
  obtain ⟨sz, hsz⟩ : ∃ q, (key.size : Int) + 1 + 32 = q := ⟨_, rfl⟩
  -- Fill
  refine (fill_any _ b _ S3.D key 1 ⟨0, 0, true, tX, 1⟩ hkl sz hsz (by omega) (Nat.zero_le _)).mono ?_
  rintro _ w4 ⟨s4, r4, hR, rfl, P4⟩
  have S4 := S3.post P4
  have hs4 : r4 = true ∧ ∃ xb, s4 = ⟨[], 100000, 0, [⟨xb, key, ⟨0, 0, true, tX, 1⟩, sz⟩], 1, [], 0, [], false, 0⟩ := by
    have hu : Ls.useB [(Ls.kS key, ((1 : Int), (10 : Int)))] (Ls.kS key) 1 = true := by simp [Ls.useB, lget, sameS]
    have hd : ldel [(Ls.kS key, ((1 : Int), (10 : Int)))] (Ls.kS key) = [] := by simp [ldel, sameS]
    cases hR with
    | no h => rw [hu] at h; cases h
    | yes h s' r hp =>
      cases hp with
      | old xv ok hp hok ha =>
        have e : (⟨⟨0, 0, false, ⟨#[]⟩, 0⟩, false⟩ : IT × Bool) = (xv, ok) := hp
        cases e
        cases hok
      | no xv ok hp hok hn =>
        have hn' : (100000 : Int) - 0 < sz := hn
        omega
      | new xv ok hp hok hn xb M hM =>
        have e : M = [] := by rw [← hM]; rfl
        subst e
        refine ⟨rfl, xb, ?_⟩
        show (⟨[], 100000, 0, [⟨xb, key, ⟨0, 0, true, tX, 1⟩, sz⟩], 1, ldel [(Ls.kS key, ((1 : Int), (10 : Int)))] (Ls.kS key), 0, [], false, 0⟩ : NS) = _
        rw [hd]
  obtain ⟨rfl, xb, rfl⟩ := hs4
  clear hR P4 a3 S3
  have HS4 := Lib.hid S4
  clear S4
  go_wp2_with fail
  -- Mark
  refine (mark_any _ b _ HS4.out.D List.nodup_nil (Nat.zero_le _) key se 5 ⟨hkl, hse, show (Lit.int .i64 5).wf = true by decide⟩ (by omega) (by simp)).mono ?_
  rintro _ w5 ⟨s5, r5, hR, rfl, P5⟩
  have S5 := HS4.out.post P5
  have hs5 : r5 = 0 ∧ MI key se 0 s5 := by
    cases hR with
    | there h => cases h
    | busy h hl =>
      have hl' : 32 ≤ 0 := hl
      omega
    | full h hl n hn hf =>
      have hn' : (key.size : Int) + 32 = n := hn
      have hf' : (100000 : Int) - 0 < n := hf
      omega
    | ok h hl n hn hf N' hN =>
      have hn' : (key.size : Int) + 32 = n := hn
      have e : N' = [⟨xb, key, ⟨0, 0, true, tX, 1⟩, sz⟩] := by
        rw [← hN]
        exact take_all (by simp only [It.sumS_cons, It.sumS_nil]; omega)
      subst e
      refine ⟨rfl, ⟨rfl, rfl, by simp only; omega, Nat.le_refl _, ?_, ⟨_, fnd_cons_eq rfl, rfl, rfl⟩, Nat.zero_le _, show (0 : Int) ≤ 1 by decide, show (1 : Int) ≤ 0 + 2 by decide⟩⟩
      intro y hy
      rw [List.mem_singleton] at hy
      subst hy
      simp only
      omega
  obtain ⟨rfl, hI⟩ := hs5
  have HS5 := Lib.hid S5
  have HI5 := Lib.hid hI
  clear hR P5 HS4 S5 hI hsz
  go_wp2_with fail
  go_loopw [47] (fun i wr => ∃ (k : Nat) (s : NS), k ≤ len1 ∧ i = .int .i64 (k : Int) ∧ NL w wr b s ∧ MI key se k s) (fun i _ => len1 - (intOf i).toNat)
  case atStart => exact ⟨0, s5, Nat.zero_le _, rfl, HS5.out, HI5.out⟩
  case round =>
    clear HS5 HI5
    obtain ⟨k, s, hk0, rfl, S, I⟩ := hrel
    have HS := Lib.hid S
    have HI := Lib.hid I
    clear S I
    by_cases hgo : k < len1
    · rcases Hrow.out with h | ⟨rb, off, rfl, hb, hc⟩
      · omega
      have Hc := Lib.hid (hc k hgo)
      have Hzk := Lib.hid (Hok.out k hgo)
      generalize z1 k = t at Hc Hzk
      clear hc
      have l0 := HS.out.hk.some Hc.out (fun h => h)
      have hbl : rb < wr.heap.size := Nat.lt_of_lt_of_le hb HS.out.hk.size
      by_cases hts : t.size ≤ 1000
      case neg =>
        have d3 : decide (1000 < (t.size : Int)) = true := decide_eq_true (by omega)
        go_wp2_with fail
        go_ret
        exact ⟨rfl, HS.out.hk.below (fun _ _ h => h)⟩
      have d3 : decide (1000 < (t.size : Int)) = false := decide_eq_false (by omega)
      have htl : t.size ≤ maxLen := Hzk.out
      have hk40 : k ≤ 40 := by omega
      have hkn : (((k : Int)) % 5) < 5 := by omega
      have hki : (Lit.int .i64 ((k : Int) % 5)).wf = true := by simp [Lit.wf, IntKind.min, IntKind.max, IntKind.signed, IntKind.bits]; omega
      have HL0 := Lib.hid l0
      have HA := Lib.hid (HS.out.D.ls.map.apart Ls.law9)
      clear l0
      by_cases ht : t = key
      · subst ht
        have l0 := HL0.out
        go_wp2_with fail
        refine (get_any _ b s s HS.out.D t htl (by have := HI.out.L; unfold maxLen; omega) HI.out.l0 (by have := HI.out.l1; omega) (ansV 2 ⟨0, 0, false, ⟨#[]⟩, 0⟩ 0) (.marked (by rw [HI.out.has_eq]; simp))).mono ?_
        rintro _ w2 ⟨rfl, P2⟩
        have S2 := HS.out.post P2
        have l2 := S2.hk.some Hc.out (fun h => h)
        have hb2 : rb < w2.heap.size := Nat.lt_of_lt_of_le hb S2.hk.size
        have S3 := S2.keep ((Keep.refl NoB w2).alloc (.cells #[.int .i64 2, .int .i64 0, .int .i64 0, .bool false, .string ⟨#[]⟩, .int .i64 0, .int .i64 0] 31))
        have a3 := blk_new w2 (.cells #[.int .i64 2, .int .i64 0, .int .i64 0, .bool false, .string ⟨#[]⟩, .int .i64 0, .int .i64 0] 31)
        clear P2 l0
        go_wp2_with fail
        generalize World.alloc w2 (.cells #[.int .i64 2, .int .i64 0, .int .i64 0, .bool false, .string ⟨#[]⟩, .int .i64 0, .int .i64 0] 31) = w3 at a3 S3 ⊢
        generalize w2.heap.size = q3 at a3 ⊢
        have HS3 := Lib.hid S3
        have Ha3 := Lib.hid a3
        have l3 := S3.hk.some Hc.out (fun h => h)
        have HI3 := Lib.hid HI.out.le
        clear S2 l2 hb2 S3 a3
        refine (unmark_any w3 b s HS3.out.D (by rw [HI3.out.M]; simp) t se ((k : Int) % 5) ⟨htl, hse, hki⟩ (by omega)).mono ?_
        rintro _ w5 ⟨s5, r5, hR, rfl, P5⟩
        have hs5 : r5 = false ∧ s = s5 := by
          cases hR with
          | no h => exact ⟨rfl, rfl⟩
          | yes h k' hk => exact absurd h (HI3.out.not_in t _ hkn)
        obtain ⟨rfl, e5⟩ := hs5
        rw [← e5] at P5
        have S5 := HS3.out.post P5
        have a5 := P5.blk Ha3.out HS3.out.D (by decide) (by decide) (by decide) (by decide) (by decide) (by decide)
        clear P5 hR e5 s5
        go_wp2_with fail
        refine (npeek_any _ b s S5.D t hkl _ false HI3.out.nPk).mono ?_
        rintro _ w6 ⟨rfl, k6⟩
        go_wp2_with fail
        refine wp_region_pl (fun u => u.cell? ⟨rb, off + k, none⟩ = some (.string t) ∧ u.cell? ⟨q3, 0, none⟩ = some (.int .i64 2)) [] (.rd 0 (.rd 1 (.rd 2 (.rd 3 (.rd 4 (.rd 5 (.rd 6 (.rd 7 (.rd 8 (.rd 9 (.rd 10 (.rd 11 (.rd 12 (.rd 13 (.rd 14 (.rd 15 (.rd 17 (.one 16 (.rd 18 (.rd 19 .done)))))))))))))))))))) (by kernel_rfl) (by kernel_rfl) (by kernel_rfl) (by kernel_rfl) (by intro c b d v u h; cases d <;> exact h) ?_
        have kd0 : Keep NoB w5 (w6.alloc (.cells #[.int .i64 0, .int .i64 0, .bool false, .string ⟨#[]⟩] 29)).drew := (k6.alloc _).drew
        have S7 := Lib.hid (S5.keep kd0)
        have a7 := blk_keep a5 kd0 (fun h => h)
        clear a5 k6 S5 kd0
        generalize (World.alloc w6 (.cells #[.int .i64 0, .int .i64 0, .bool false, .string ⟨#[]⟩] 29)).drew = w7 at S7 a7 ⊢
        have c7 := blk_cell a7 0
        simp at c7
        have HS7 := Lib.hid (show w7.cell? ⟨rb, off + k, none⟩ = some (.string t) ∧ w7.cell? ⟨q3, 0, none⟩ = some (.int .i64 2) from ⟨S7.out.hk.some Hc.out (fun h => h), c7⟩)
        have Ha7 := Lib.hid a7
        clear c7 a7
        first
          | refine pl_get (i := 0) rfl rfl HS7.out rfl (fun u hu => by (try dsimp only at hu); go_simp; rfl) (by simp only [List.setIfInBounds_toArray, List.set_cons_succ, List.set_cons_zero]; rfl) ?_
          | refine pl_skip (i := 0) rfl rfl HS7.out rfl (by simp only [List.setIfInBounds_toArray, List.set_cons_succ, List.set_cons_zero]; rfl) ?_
        first
          | refine pl_get (i := 1) rfl rfl HS7.out rfl (fun u hu => by (try dsimp only at hu); go_simp; rfl) (by simp only [List.setIfInBounds_toArray, List.set_cons_succ, List.set_cons_zero]; rfl) ?_
          | refine pl_skip (i := 1) rfl rfl HS7.out rfl (by simp only [List.setIfInBounds_toArray, List.set_cons_succ, List.set_cons_zero]; rfl) ?_
        first
          | refine pl_get (i := 2) rfl rfl HS7.out rfl (fun u hu => by (try dsimp only at hu); go_simp; rfl) (by simp only [List.setIfInBounds_toArray, List.set_cons_succ, List.set_cons_zero]; rfl) ?_
          | refine pl_skip (i := 2) rfl rfl HS7.out rfl (by simp only [List.setIfInBounds_toArray, List.set_cons_succ, List.set_cons_zero]; rfl) ?_
        first
          | refine pl_get (i := 3) rfl rfl HS7.out rfl (fun u hu => by (try dsimp only at hu); go_simp; rfl) (by simp only [List.setIfInBounds_toArray, List.set_cons_succ, List.set_cons_zero]; rfl) ?_
          | refine pl_skip (i := 3) rfl rfl HS7.out rfl (by simp only [List.setIfInBounds_toArray, List.set_cons_succ, List.set_cons_zero]; rfl) ?_
        first
          | refine pl_get (i := 4) rfl rfl HS7.out rfl (fun u hu => by (try dsimp only at hu); go_simp; rfl) (by simp only [List.setIfInBounds_toArray, List.set_cons_succ, List.set_cons_zero]; rfl) ?_
          | refine pl_skip (i := 4) rfl rfl HS7.out rfl (by simp only [List.setIfInBounds_toArray, List.set_cons_succ, List.set_cons_zero]; rfl) ?_
        first
          | refine pl_get (i := 5) rfl rfl HS7.out rfl (fun u hu => by (try dsimp only at hu); go_simp; rfl) (by simp only [List.setIfInBounds_toArray, List.set_cons_succ, List.set_cons_zero]; rfl) ?_
          | refine pl_skip (i := 5) rfl rfl HS7.out rfl (by simp only [List.setIfInBounds_toArray, List.set_cons_succ, List.set_cons_zero]; rfl) ?_
        first
          | refine pl_get (i := 6) rfl rfl HS7.out rfl (fun u hu => by (try dsimp only at hu); go_simp; rfl) (by simp only [List.setIfInBounds_toArray, List.set_cons_succ, List.set_cons_zero]; rfl) ?_
          | refine pl_skip (i := 6) rfl rfl HS7.out rfl (by simp only [List.setIfInBounds_toArray, List.set_cons_succ, List.set_cons_zero]; rfl) ?_
        first
          | refine pl_get (i := 7) rfl rfl HS7.out rfl (fun u hu => by (try dsimp only at hu); go_simp; rfl) (by simp only [List.setIfInBounds_toArray, List.set_cons_succ, List.set_cons_zero]; rfl) ?_
          | refine pl_skip (i := 7) rfl rfl HS7.out rfl (by simp only [List.setIfInBounds_toArray, List.set_cons_succ, List.set_cons_zero]; rfl) ?_
        first
          | refine pl_get (i := 8) rfl rfl HS7.out rfl (fun u hu => by (try dsimp only at hu); go_simp; rfl) (by simp only [List.setIfInBounds_toArray, List.set_cons_succ, List.set_cons_zero]; rfl) ?_
          | refine pl_skip (i := 8) rfl rfl HS7.out rfl (by simp only [List.setIfInBounds_toArray, List.set_cons_succ, List.set_cons_zero]; rfl) ?_
        first
          | refine pl_get (i := 9) rfl rfl HS7.out rfl (fun u hu => by (try dsimp only at hu); go_simp; rfl) (by simp only [List.setIfInBounds_toArray, List.set_cons_succ, List.set_cons_zero]; rfl) ?_
          | refine pl_skip (i := 9) rfl rfl HS7.out rfl (by simp only [List.setIfInBounds_toArray, List.set_cons_succ, List.set_cons_zero]; rfl) ?_
        first
          | refine pl_get (i := 10) rfl rfl HS7.out rfl (fun u hu => by (try dsimp only at hu); go_simp; rfl) (by simp only [List.setIfInBounds_toArray, List.set_cons_succ, List.set_cons_zero]; rfl) ?_
          | refine pl_skip (i := 10) rfl rfl HS7.out rfl (by simp only [List.setIfInBounds_toArray, List.set_cons_succ, List.set_cons_zero]; rfl) ?_
        first
          | refine pl_get (i := 11) rfl rfl HS7.out rfl (fun u hu => by (try dsimp only at hu); go_simp; rfl) (by simp only [List.setIfInBounds_toArray, List.set_cons_succ, List.set_cons_zero]; rfl) ?_
          | refine pl_skip (i := 11) rfl rfl HS7.out rfl (by simp only [List.setIfInBounds_toArray, List.set_cons_succ, List.set_cons_zero]; rfl) ?_
        first
          | refine pl_get (i := 12) rfl rfl HS7.out rfl (fun u hu => by (try dsimp only at hu); go_simp; rfl) (by simp only [List.setIfInBounds_toArray, List.set_cons_succ, List.set_cons_zero]; rfl) ?_
          | refine pl_skip (i := 12) rfl rfl HS7.out rfl (by simp only [List.setIfInBounds_toArray, List.set_cons_succ, List.set_cons_zero]; rfl) ?_
        first
          | refine pl_get (i := 13) rfl rfl HS7.out rfl (fun u hu => by (try dsimp only at hu); go_simp; rfl) (by simp only [List.setIfInBounds_toArray, List.set_cons_succ, List.set_cons_zero]; rfl) ?_
          | refine pl_skip (i := 13) rfl rfl HS7.out rfl (by simp only [List.setIfInBounds_toArray, List.set_cons_succ, List.set_cons_zero]; rfl) ?_
        first
          | refine pl_get (i := 14) rfl rfl HS7.out rfl (fun u hu => by (try dsimp only at hu); go_simp; rfl) (by simp only [List.setIfInBounds_toArray, List.set_cons_succ, List.set_cons_zero]; rfl) ?_
          | refine pl_skip (i := 14) rfl rfl HS7.out rfl (by simp only [List.setIfInBounds_toArray, List.set_cons_succ, List.set_cons_zero]; rfl) ?_
        first
          | refine pl_get (i := 15) rfl rfl HS7.out rfl (fun u hu => by (try dsimp only at hu); go_simp; rfl) (by simp only [List.setIfInBounds_toArray, List.set_cons_succ, List.set_cons_zero]; rfl) ?_
          | refine pl_skip (i := 15) rfl rfl HS7.out rfl (by simp only [List.setIfInBounds_toArray, List.set_cons_succ, List.set_cons_zero]; rfl) ?_
        first
          | refine pl_get (i := 17) rfl rfl HS7.out rfl (fun u hu => by (try dsimp only at hu); go_simp; rfl) (by simp only [List.setIfInBounds_toArray, List.set_cons_succ, List.set_cons_zero]; rfl) ?_
          | refine pl_skip (i := 17) rfl rfl HS7.out rfl (by simp only [List.setIfInBounds_toArray, List.set_cons_succ, List.set_cons_zero]; rfl) ?_
        refine pl_one (i := 16) rfl ?_
        go_wp2_with ((go_at_call 8; refine (get_any _ b s s S7.out.D t hkl (by have := HI3.out.L; unfold maxLen; omega) HI3.out.l0 (by have := HI3.out.l1; omega) (ansV 2 ⟨0, 0, false, ⟨#[]⟩, 0⟩ 0) (.marked (by rw [HI3.out.has_eq]; simp))).mono ?_; rintro _ w8 ⟨rfl, P8⟩; simp only [ansV]))
        have S8 := S7.out.post P8
        have a8 := P8.blk Ha7.out S7.out.D (by decide) (by decide) (by decide) (by decide) (by decide) (by decide)
        have c8 := blk_cell a8 0
        simp at c8
        have HS8 := Lib.hid (show w8.cell? ⟨rb, off + k, none⟩ = some (.string t) ∧ w8.cell? ⟨q3, 0, none⟩ = some (.int .i64 2) from ⟨S8.hk.some Hc.out (fun h => h), c8⟩)
        clear c8 a8 P8
        refine pl_next (fun _ => HS8.out) ?_
        first
          | refine pl_get (i := 18) rfl rfl HS8.out rfl (fun u hu => by (try dsimp only at hu); go_simp; rfl) (by simp only [List.setIfInBounds_toArray, List.set_cons_succ, List.set_cons_zero]; rfl) ?_
          | refine pl_skip (i := 18) rfl rfl HS8.out rfl (by simp only [List.setIfInBounds_toArray, List.set_cons_succ, List.set_cons_zero]; rfl) ?_
        first
          | refine pl_get (i := 19) rfl rfl HS8.out rfl (fun u hu => by (try dsimp only at hu); go_simp; rfl) (by simp only [List.setIfInBounds_toArray, List.set_cons_succ, List.set_cons_zero]; rfl) ?_
          | refine pl_skip (i := 19) rfl rfl HS8.out rfl (by simp only [List.setIfInBounds_toArray, List.set_cons_succ, List.set_cons_zero]; rfl) ?_
        refine pl_done ?_
        go_wp2_with fail
        go_roundw
        case rel => exact ⟨k + 1, s, hgo, by go_num, S8, HI3.out⟩
        case measure => simp [intOf]; omega
      · have hne := tx_ne ht
        obtain ⟨s1, v1, hg⟩ := get_total s t
        obtain ⟨kd, xv, tok, rfl, hkd, hMI, hL1, h10, h11⟩ := mi_get HI.out HA.out ht hg
        have Hg := Lib.hid hg
        have HMI := Lib.hid hMI
        have l0 := HL0.out
        clear hg hMI
        go_wp2_with fail
        refine (get_any _ b s s1 HS.out.D t htl (by have := HI.out.L; unfold maxLen; omega) HI.out.l0 (by have := HI.out.l1; omega) (ansV kd xv tok) Hg.out).mono ?_
        rintro _ w2 ⟨rfl, P2⟩
        have S2 := HS.out.post P2
        have l2 := S2.hk.some Hc.out (fun h => h)
        have hb2 : rb < w2.heap.size := Nat.lt_of_lt_of_le hb S2.hk.size
        have kx := (Keep.refl NoB w2).alloc (.cells #[.int .i64 kd, .int .i64 xv.e, .int .i64 xv.i, .bool xv.th, .string xv.tx, .int .i64 xv.a, .int .i64 tok] 31)
        have S3 := S2.keep kx
        have a3 := blk_new w2 (.cells #[.int .i64 kd, .int .i64 xv.e, .int .i64 xv.i, .bool xv.th, .string xv.tx, .int .i64 xv.a, .int .i64 tok] 31)
        clear P2 l0
        go_wp2_with fail
        refine wp_region_pl (fun u => u.cell? ⟨rb, off + k, none⟩ = some (.string t) ∧ u.cell? ⟨w2.heap.size, 6, none⟩ = some (.int .i64 tok)) [] (.rd 0 (.rd 1 (.rd 2 (.rd 3 (.rd 4 (.rd 5 (.rd 6 (.rd 7 (.rd 8 (.rd 9 (.rd 10 (.rd 11 (.rd 12 (.one 13 .done)))))))))))))) (by kernel_rfl) (by kernel_rfl) (by kernel_rfl) (by kernel_rfl) (by intro c b d v u h; cases d <;> exact h) ?_
        have S4 := Lib.hid (S3.keep (Keep.refl NoB _).drew)
        have a4 := blk_drew a3
        clear S3 a3 kx
        generalize (World.alloc w2 (.cells #[.int .i64 kd, .int .i64 xv.e, .int .i64 xv.i, .bool xv.th, .string xv.tx, .int .i64 xv.a, .int .i64 tok] 31)).drew = w4 at S4 a4 ⊢
        generalize w2.heap.size = q3 at a4 ⊢
        have c4 := blk_cell a4 6
        simp at c4
        have HS4 := Lib.hid (show w4.cell? ⟨rb, off + k, none⟩ = some (.string t) ∧ w4.cell? ⟨q3, 6, none⟩ = some (.int .i64 tok) from ⟨S4.out.hk.some Hc.out (fun h => h), c4⟩)
        have Ha4 := Lib.hid a4
        have hb4 : rb < w4.heap.size := Nat.lt_of_lt_of_le hb S4.out.hk.size
        obtain ⟨sz, hsz⟩ : ∃ q, (t.size : Int) + (t.size : Int) + 32 = q := ⟨_, rfl⟩
        have Hsz := Lib.hid hsz
        have hszb : sz ≤ 1000000000 := by omega
        clear c4 a4 S2 l2 hb2 hsz
        first
          | refine pl_get (i := 0) rfl rfl HS4.out rfl (fun u hu => by (try dsimp only at hu); go_simp; rfl) (by simp only [List.setIfInBounds_toArray, List.set_cons_succ, List.set_cons_zero]; rfl) ?_
          | refine pl_skip (i := 0) rfl rfl HS4.out rfl (by simp only [List.setIfInBounds_toArray, List.set_cons_succ, List.set_cons_zero]; rfl) ?_
        first
          | refine pl_get (i := 1) rfl rfl HS4.out rfl (fun u hu => by (try dsimp only at hu); go_simp; rfl) (by simp only [List.setIfInBounds_toArray, List.set_cons_succ, List.set_cons_zero]; rfl) ?_
          | refine pl_skip (i := 1) rfl rfl HS4.out rfl (by simp only [List.setIfInBounds_toArray, List.set_cons_succ, List.set_cons_zero]; rfl) ?_
        first
          | refine pl_get (i := 2) rfl rfl HS4.out rfl (fun u hu => by (try dsimp only at hu); go_simp; rfl) (by simp only [List.setIfInBounds_toArray, List.set_cons_succ, List.set_cons_zero]; rfl) ?_
          | refine pl_skip (i := 2) rfl rfl HS4.out rfl (by simp only [List.setIfInBounds_toArray, List.set_cons_succ, List.set_cons_zero]; rfl) ?_
        first
          | refine pl_get (i := 3) rfl rfl HS4.out rfl (fun u hu => by (try dsimp only at hu); go_simp; rfl) (by simp only [List.setIfInBounds_toArray, List.set_cons_succ, List.set_cons_zero]; rfl) ?_
          | refine pl_skip (i := 3) rfl rfl HS4.out rfl (by simp only [List.setIfInBounds_toArray, List.set_cons_succ, List.set_cons_zero]; rfl) ?_
        first
          | refine pl_get (i := 4) rfl rfl HS4.out rfl (fun u hu => by (try dsimp only at hu); go_simp; rfl) (by simp only [List.setIfInBounds_toArray, List.set_cons_succ, List.set_cons_zero]; rfl) ?_
          | refine pl_skip (i := 4) rfl rfl HS4.out rfl (by simp only [List.setIfInBounds_toArray, List.set_cons_succ, List.set_cons_zero]; rfl) ?_
        first
          | refine pl_get (i := 5) rfl rfl HS4.out rfl (fun u hu => by (try dsimp only at hu); go_simp; rfl) (by simp only [List.setIfInBounds_toArray, List.set_cons_succ, List.set_cons_zero]; rfl) ?_
          | refine pl_skip (i := 5) rfl rfl HS4.out rfl (by simp only [List.setIfInBounds_toArray, List.set_cons_succ, List.set_cons_zero]; rfl) ?_
        first
          | refine pl_get (i := 6) rfl rfl HS4.out rfl (fun u hu => by (try dsimp only at hu); go_simp; rfl) (by simp only [List.setIfInBounds_toArray, List.set_cons_succ, List.set_cons_zero]; rfl) ?_
          | refine pl_skip (i := 6) rfl rfl HS4.out rfl (by simp only [List.setIfInBounds_toArray, List.set_cons_succ, List.set_cons_zero]; rfl) ?_
        first
          | refine pl_get (i := 7) rfl rfl HS4.out rfl (fun u hu => by (try dsimp only at hu); go_simp; rfl) (by simp only [List.setIfInBounds_toArray, List.set_cons_succ, List.set_cons_zero]; rfl) ?_
          | refine pl_skip (i := 7) rfl rfl HS4.out rfl (by simp only [List.setIfInBounds_toArray, List.set_cons_succ, List.set_cons_zero]; rfl) ?_
        first
          | refine pl_get (i := 8) rfl rfl HS4.out rfl (fun u hu => by (try dsimp only at hu); go_simp; rfl) (by simp only [List.setIfInBounds_toArray, List.set_cons_succ, List.set_cons_zero]; rfl) ?_
          | refine pl_skip (i := 8) rfl rfl HS4.out rfl (by simp only [List.setIfInBounds_toArray, List.set_cons_succ, List.set_cons_zero]; rfl) ?_
        first
          | refine pl_get (i := 9) rfl rfl HS4.out rfl (fun u hu => by (try dsimp only at hu); go_simp; rfl) (by simp only [List.setIfInBounds_toArray, List.set_cons_succ, List.set_cons_zero]; rfl) ?_
          | refine pl_skip (i := 9) rfl rfl HS4.out rfl (by simp only [List.setIfInBounds_toArray, List.set_cons_succ, List.set_cons_zero]; rfl) ?_
        first
          | refine pl_get (i := 10) rfl rfl HS4.out rfl (fun u hu => by (try dsimp only at hu); go_simp; rfl) (by simp only [List.setIfInBounds_toArray, List.set_cons_succ, List.set_cons_zero]; rfl) ?_
          | refine pl_skip (i := 10) rfl rfl HS4.out rfl (by simp only [List.setIfInBounds_toArray, List.set_cons_succ, List.set_cons_zero]; rfl) ?_
        first
          | refine pl_get (i := 11) rfl rfl HS4.out rfl (fun u hu => by (try dsimp only at hu); go_simp; rfl) (by simp only [List.setIfInBounds_toArray, List.set_cons_succ, List.set_cons_zero]; rfl) ?_
          | refine pl_skip (i := 11) rfl rfl HS4.out rfl (by simp only [List.setIfInBounds_toArray, List.set_cons_succ, List.set_cons_zero]; rfl) ?_
        first
          | refine pl_get (i := 12) rfl rfl HS4.out rfl (fun u hu => by (try dsimp only at hu); go_simp; rfl) (by simp only [List.setIfInBounds_toArray, List.set_cons_succ, List.set_cons_zero]; rfl) ?_
          | refine pl_skip (i := 12) rfl rfl HS4.out rfl (by simp only [List.setIfInBounds_toArray, List.set_cons_succ, List.set_cons_zero]; rfl) ?_
        refine pl_one (i := 13) rfl ?_
        go_wp2_with ((go_at_call 9; refine (fill_any _ b s1 S4.out.D t tok ⟨0, 0, true, t, (k : Int)⟩ htl sz Hsz.out hszb (by have := HMI.out.len; simp only at this; omega)).mono ?_; rintro _ w3 ⟨s2, r2, hR2, rfl, P3⟩))
        have S3 := S4.out.post P3
        have a3 := P3.blk Ha4.out S4.out.D (by decide) (by decide) (by decide) (by decide) (by decide) (by decide)
        have l3 := S3.hk.some Hc.out (fun h => h)
        have c3 := blk_cell a3 6
        simp at c3
        have HSX := Lib.hid (show w3.cell? ⟨rb, off + k, none⟩ = some (.string t) ∧ w3.cell? ⟨q3, 6, none⟩ = some (.int .i64 tok) from ⟨l3, c3⟩)
        have HI3 := Lib.hid (mi_fill HMI.out (S4.out.D.ls.map.apart Ls.law9) hL1 h10 h11 hk40 ht hts hks rfl Hsz.out hR2)
        have HS3 := Lib.hid S3
        have Ha3 := Lib.hid a3
        have hb3 : rb < w3.heap.size := Nat.lt_of_lt_of_le hb S3.hk.size
        clear c3 a3 P3 hR2 S3
        refine pl_next (fun _ => HSX.out) ?_
        refine pl_done ?_
        go_wp2_with fail
        refine (unmark_any w3 b s2 HS3.out.D (by rw [HI3.out.M]; simp) t se ((k : Int) % 5) ⟨htl, hse, hki⟩ (by omega)).mono ?_
        rintro _ w5 ⟨s5, r5, hR, rfl, P5⟩
        have hs5 : r5 = false ∧ s2 = s5 := by
          cases hR with
          | no h => exact ⟨rfl, rfl⟩
          | yes h k' hk => exact absurd h (HI3.out.not_in t _ hkn)
        obtain ⟨rfl, e5⟩ := hs5
        rw [← e5] at P5
        have S5 := HS3.out.post P5
        have a5 := P5.blk Ha3.out HS3.out.D (by decide) (by decide) (by decide) (by decide) (by decide) (by decide)
        clear P5 hR e5 s5
        go_wp2_with fail
        refine (npeek_any _ b s2 S5.D key hkl _ false HI3.out.nPk).mono ?_
        rintro _ w6 ⟨rfl, k6⟩
        go_wp2_with fail
        refine wp_region_pl (fun u => u.cell? ⟨rb, off + k, none⟩ = some (.string t) ∧ u.cell? ⟨q3, 0, none⟩ = some (.int .i64 kd)) [] (.rd 0 (.rd 1 (.rd 2 (.rd 3 (.rd 4 (.rd 5 (.rd 6 (.rd 7 (.rd 8 (.rd 9 (.rd 10 (.rd 11 (.rd 12 (.rd 13 (.rd 14 (.rd 15 (.rd 17 (.one 16 (.rd 18 (.rd 19 .done)))))))))))))))))))) (by kernel_rfl) (by kernel_rfl) (by kernel_rfl) (by kernel_rfl) (by intro c b d v u h; cases d <;> exact h) ?_
        have kd0 : Keep NoB w5 (w6.alloc (.cells #[.int .i64 0, .int .i64 0, .bool false, .string ⟨#[]⟩] 29)).drew := (k6.alloc _).drew
        have S7 := Lib.hid (S5.keep kd0)
        have a7 := blk_keep a5 kd0 (fun h => h)
        clear a5 k6 S5 kd0
        generalize (World.alloc w6 (.cells #[.int .i64 0, .int .i64 0, .bool false, .string ⟨#[]⟩] 29)).drew = w7 at S7 a7 ⊢
        have c7 := blk_cell a7 0
        simp at c7
        have HS7 := Lib.hid (show w7.cell? ⟨rb, off + k, none⟩ = some (.string t) ∧ w7.cell? ⟨q3, 0, none⟩ = some (.int .i64 kd) from ⟨S7.out.hk.some Hc.out (fun h => h), c7⟩)
        have Ha7 := Lib.hid a7
        clear c7 a7
        first
          | refine pl_get (i := 0) rfl rfl HS7.out rfl (fun u hu => by (try dsimp only at hu); go_simp; rfl) (by simp only [List.setIfInBounds_toArray, List.set_cons_succ, List.set_cons_zero]; rfl) ?_
          | refine pl_skip (i := 0) rfl rfl HS7.out rfl (by simp only [List.setIfInBounds_toArray, List.set_cons_succ, List.set_cons_zero]; rfl) ?_
        first
          | refine pl_get (i := 1) rfl rfl HS7.out rfl (fun u hu => by (try dsimp only at hu); go_simp; rfl) (by simp only [List.setIfInBounds_toArray, List.set_cons_succ, List.set_cons_zero]; rfl) ?_
          | refine pl_skip (i := 1) rfl rfl HS7.out rfl (by simp only [List.setIfInBounds_toArray, List.set_cons_succ, List.set_cons_zero]; rfl) ?_
        first
          | refine pl_get (i := 2) rfl rfl HS7.out rfl (fun u hu => by (try dsimp only at hu); go_simp; rfl) (by simp only [List.setIfInBounds_toArray, List.set_cons_succ, List.set_cons_zero]; rfl) ?_
          | refine pl_skip (i := 2) rfl rfl HS7.out rfl (by simp only [List.setIfInBounds_toArray, List.set_cons_succ, List.set_cons_zero]; rfl) ?_
        first
          | refine pl_get (i := 3) rfl rfl HS7.out rfl (fun u hu => by (try dsimp only at hu); go_simp; rfl) (by simp only [List.setIfInBounds_toArray, List.set_cons_succ, List.set_cons_zero]; rfl) ?_
          | refine pl_skip (i := 3) rfl rfl HS7.out rfl (by simp only [List.setIfInBounds_toArray, List.set_cons_succ, List.set_cons_zero]; rfl) ?_
        first
          | refine pl_get (i := 4) rfl rfl HS7.out rfl (fun u hu => by (try dsimp only at hu); go_simp; rfl) (by simp only [List.setIfInBounds_toArray, List.set_cons_succ, List.set_cons_zero]; rfl) ?_
          | refine pl_skip (i := 4) rfl rfl HS7.out rfl (by simp only [List.setIfInBounds_toArray, List.set_cons_succ, List.set_cons_zero]; rfl) ?_
        first
          | refine pl_get (i := 5) rfl rfl HS7.out rfl (fun u hu => by (try dsimp only at hu); go_simp; rfl) (by simp only [List.setIfInBounds_toArray, List.set_cons_succ, List.set_cons_zero]; rfl) ?_
          | refine pl_skip (i := 5) rfl rfl HS7.out rfl (by simp only [List.setIfInBounds_toArray, List.set_cons_succ, List.set_cons_zero]; rfl) ?_
        first
          | refine pl_get (i := 6) rfl rfl HS7.out rfl (fun u hu => by (try dsimp only at hu); go_simp; rfl) (by simp only [List.setIfInBounds_toArray, List.set_cons_succ, List.set_cons_zero]; rfl) ?_
          | refine pl_skip (i := 6) rfl rfl HS7.out rfl (by simp only [List.setIfInBounds_toArray, List.set_cons_succ, List.set_cons_zero]; rfl) ?_
        first
          | refine pl_get (i := 7) rfl rfl HS7.out rfl (fun u hu => by (try dsimp only at hu); go_simp; rfl) (by simp only [List.setIfInBounds_toArray, List.set_cons_succ, List.set_cons_zero]; rfl) ?_
          | refine pl_skip (i := 7) rfl rfl HS7.out rfl (by simp only [List.setIfInBounds_toArray, List.set_cons_succ, List.set_cons_zero]; rfl) ?_
        first
          | refine pl_get (i := 8) rfl rfl HS7.out rfl (fun u hu => by (try dsimp only at hu); go_simp; rfl) (by simp only [List.setIfInBounds_toArray, List.set_cons_succ, List.set_cons_zero]; rfl) ?_
          | refine pl_skip (i := 8) rfl rfl HS7.out rfl (by simp only [List.setIfInBounds_toArray, List.set_cons_succ, List.set_cons_zero]; rfl) ?_
        first
          | refine pl_get (i := 9) rfl rfl HS7.out rfl (fun u hu => by (try dsimp only at hu); go_simp; rfl) (by simp only [List.setIfInBounds_toArray, List.set_cons_succ, List.set_cons_zero]; rfl) ?_
          | refine pl_skip (i := 9) rfl rfl HS7.out rfl (by simp only [List.setIfInBounds_toArray, List.set_cons_succ, List.set_cons_zero]; rfl) ?_
        first
          | refine pl_get (i := 10) rfl rfl HS7.out rfl (fun u hu => by (try dsimp only at hu); go_simp; rfl) (by simp only [List.setIfInBounds_toArray, List.set_cons_succ, List.set_cons_zero]; rfl) ?_
          | refine pl_skip (i := 10) rfl rfl HS7.out rfl (by simp only [List.setIfInBounds_toArray, List.set_cons_succ, List.set_cons_zero]; rfl) ?_
        first
          | refine pl_get (i := 11) rfl rfl HS7.out rfl (fun u hu => by (try dsimp only at hu); go_simp; rfl) (by simp only [List.setIfInBounds_toArray, List.set_cons_succ, List.set_cons_zero]; rfl) ?_
          | refine pl_skip (i := 11) rfl rfl HS7.out rfl (by simp only [List.setIfInBounds_toArray, List.set_cons_succ, List.set_cons_zero]; rfl) ?_
        first
          | refine pl_get (i := 12) rfl rfl HS7.out rfl (fun u hu => by (try dsimp only at hu); go_simp; rfl) (by simp only [List.setIfInBounds_toArray, List.set_cons_succ, List.set_cons_zero]; rfl) ?_
          | refine pl_skip (i := 12) rfl rfl HS7.out rfl (by simp only [List.setIfInBounds_toArray, List.set_cons_succ, List.set_cons_zero]; rfl) ?_
        first
          | refine pl_get (i := 13) rfl rfl HS7.out rfl (fun u hu => by (try dsimp only at hu); go_simp; rfl) (by simp only [List.setIfInBounds_toArray, List.set_cons_succ, List.set_cons_zero]; rfl) ?_
          | refine pl_skip (i := 13) rfl rfl HS7.out rfl (by simp only [List.setIfInBounds_toArray, List.set_cons_succ, List.set_cons_zero]; rfl) ?_
        first
          | refine pl_get (i := 14) rfl rfl HS7.out rfl (fun u hu => by (try dsimp only at hu); go_simp; rfl) (by simp only [List.setIfInBounds_toArray, List.set_cons_succ, List.set_cons_zero]; rfl) ?_
          | refine pl_skip (i := 14) rfl rfl HS7.out rfl (by simp only [List.setIfInBounds_toArray, List.set_cons_succ, List.set_cons_zero]; rfl) ?_
        first
          | refine pl_get (i := 15) rfl rfl HS7.out rfl (fun u hu => by (try dsimp only at hu); go_simp; rfl) (by simp only [List.setIfInBounds_toArray, List.set_cons_succ, List.set_cons_zero]; rfl) ?_
          | refine pl_skip (i := 15) rfl rfl HS7.out rfl (by simp only [List.setIfInBounds_toArray, List.set_cons_succ, List.set_cons_zero]; rfl) ?_
        first
          | refine pl_get (i := 17) rfl rfl HS7.out rfl (fun u hu => by (try dsimp only at hu); go_simp; rfl) (by simp only [List.setIfInBounds_toArray, List.set_cons_succ, List.set_cons_zero]; rfl) ?_
          | refine pl_skip (i := 17) rfl rfl HS7.out rfl (by simp only [List.setIfInBounds_toArray, List.set_cons_succ, List.set_cons_zero]; rfl) ?_
        refine pl_one (i := 16) rfl ?_
        go_wp2_with ((go_at_call 8; refine (get_any _ b s2 s2 S7.out.D key hkl (by have := HI3.out.L; unfold maxLen; omega) HI3.out.l0 (by have := HI3.out.l1; omega) (ansV 2 ⟨0, 0, false, ⟨#[]⟩, 0⟩ 0) (.marked (by rw [HI3.out.has_eq]; simp))).mono ?_; rintro _ w8 ⟨rfl, P8⟩; simp only [ansV]))
        have S8 := S7.out.post P8
        have a8 := P8.blk Ha7.out S7.out.D (by decide) (by decide) (by decide) (by decide) (by decide) (by decide)
        have c8 := blk_cell a8 0
        simp at c8
        have HS8 := Lib.hid (show w8.cell? ⟨rb, off + k, none⟩ = some (.string t) ∧ w8.cell? ⟨q3, 0, none⟩ = some (.int .i64 kd) from ⟨S8.hk.some Hc.out (fun h => h), c8⟩)
        clear c8 a8 P8
        refine pl_next (fun _ => HS8.out) ?_
        first
          | refine pl_get (i := 18) rfl rfl HS8.out rfl (fun u hu => by (try dsimp only at hu); go_simp; rfl) (by simp only [List.setIfInBounds_toArray, List.set_cons_succ, List.set_cons_zero]; rfl) ?_
          | refine pl_skip (i := 18) rfl rfl HS8.out rfl (by simp only [List.setIfInBounds_toArray, List.set_cons_succ, List.set_cons_zero]; rfl) ?_
        first
          | refine pl_get (i := 19) rfl rfl HS8.out rfl (fun u hu => by (try dsimp only at hu); go_simp; rfl) (by simp only [List.setIfInBounds_toArray, List.set_cons_succ, List.set_cons_zero]; rfl) ?_
          | refine pl_skip (i := 19) rfl rfl HS8.out rfl (by simp only [List.setIfInBounds_toArray, List.set_cons_succ, List.set_cons_zero]; rfl) ?_
        refine pl_done ?_
        go_wp2_with fail
        go_roundw
        case rel => exact ⟨k + 1, s2, hgo, by go_num, S8, HI3.out⟩
        case measure => simp [intOf]; omega
    · have hd : decide ((k : Int) < (len1 : Int)) = false := decide_eq_false (by omega)
      go_wp2_with fail
      refine (unmark_any wr b s HS.out.D (by rw [HI.out.M]; simp) key se 5 ⟨hkl, hse, show (Lit.int .i64 5).wf = true by decide⟩ (by omega)).mono ?_
      rintro _ w5 ⟨s5, r5, hR, rfl, P5⟩
      have S5 := HS.out.post P5
      have hs5 : r5 = true ∧ s5.M = [] ∧ s5.N = s.N := by
        cases hR with
        | no h => exact absurd (by rw [HI.out.M]; simp) h
        | yes h k' hk => exact ⟨rfl, by simp only; rw [HI.out.M]; simp, rfl⟩
      obtain ⟨rfl, hM5, hN5⟩ := hs5
      obtain ⟨x, hx, hx1, hx2⟩ := HI.out.has
      have hp5 : nPk s5 key = (x.v, true) := by
        rw [nPk_no (by rw [hM5]; simp), hN5]
        exact pk_some hx
      obtain ⟨xb5, xk, ⟨xe, xi, xth, xtx, xa⟩, xs⟩ := x
      simp only at hx1 hx2 hp5
      subst hx1 hx2
      clear P5 hR hx hM5 hN5
      go_wp2_with fail
      refine (npeek_any _ b s5 S5.D key hkl _ true hp5).mono ?_
      rintro _ w6 ⟨rfl, k6⟩
      have S6 := S5.keep k6
      clear S5 k6
      go_wp2_with fail
      go_ret
      exact ⟨rfl, (S6.hk.alloc _).below (fun _ _ h => h)⟩
end Go.Proofs.Ytieoejilppgebaa
