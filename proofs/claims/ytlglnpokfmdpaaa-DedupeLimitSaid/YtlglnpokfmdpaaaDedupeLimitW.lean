/- The walk of DedupeLimit. -/
import Derived.Test.YtlglnpokfmdpaaaDedupeB
import Derived.Test.YtlglnpokfmdpaaaDedupeOwnW
import Derived.Test.YtlglnpokfmdpaaaLibReg2
namespace Go.Proofs.Ytlglnpokfmdpaaa
open Go Go.RowKit Go.Maps


theorem look_same' (limit : Int) (L : List (Lit × Last)) (s r e i : Int) : (lookF limit (lput L (kI s) (r, e, i)) s r) = (2, e, i) := by
  unfold lookF
  rw [lget_lput_same (kI_key s)]
  simp
theorem look_mem {limit : Int} {L : List (Lit × Last)} (ha : Apart L) {s r e i : Int} (h : (kI s, (r, e, i)) ∈ L) : lookF limit L s r = (2, e, i) := by
  unfold lookF
  rw [lget_of_mem ha (kI_key s) h]
  simp
theorem look_full {limit : Int} {L : List (Lit × Last)} {s r p q : Int} (h : lookF limit L s r = (4, p, q)) : limit ≤ L.length := by
  unfold lookF at h
  split at h
  · split at h
    · assumption
    · simp at h
  · split at h
    · simp at h
    · split at h <;> simp at h

/-- What a Note does to how many there are. -/
theorem note_count {limit : Int} {L : List (Lit × Last)} (ha : Apart L) {s r : Int} (e i : Int) (h : (lookF limit L s r).1 = 1) : (lput L (kI s) (r, e, i)).length = L.length ∨ ((lput L (kI s) (r, e, i)).length = L.length + 1 ∧ (L.length : Int) < limit) := by
  rw [length_lput ha]
  unfold lookF at h
  cases hg : lget L (kI s) with
  | none =>
    right
    rw [hg] at h
    simp only at h
    split at h
    · simp at h
    · refine ⟨by simp, by omega⟩
  | some x => left; simp

/-- A table of the call's own. -/
structure DS (w wr : World) (tb mb : Nat) (limit : Int) (L : List (Lit × Last)) (k : Nat) : Prop where
  T : Tab wr tb mb limit L
  ne : tb ≠ mb
  lo1 : w.heap.size ≤ tb
  lo2 : w.heap.size ≤ mb
  len : L.length ≤ k
  hk : Keep NoB w wr
theorem DS.keep {w wr w' : World} {tb mb : Nat} {limit : Int} {L : List (Lit × Last)} {k : Nat} (D : DS w wr tb mb limit L k) (hk : Keep NoB wr w') : DS w w' tb mb limit L k :=
  ⟨D.T.keep hk (fun h => h) (fun h => h), D.ne, D.lo1, D.lo2, D.len, D.hk.trans hk⟩

section
variable {w wr : World} {tb mb : Nat} {limit : Int} {L : List (Lit × Last)} {k : Nat}
theorem note_ds (D : DS w wr tb mb limit L k) (s r e i : Int) (hs : (Lit.int .i64 s).wf = true) (hk : k ≤ 100000) (ok : Bool) (hok : decide ((lookF limit L s r).1 = 1) = ok) (L' : List (Lit × Last)) (hL : noteF limit L s r e i = L') :
    Calls Try.prog 11 #[.pointer (some ⟨tb, 0, none⟩), .int .i64 s, .int .i64 r, .agg #[.int .i64 e, .int .i64 i]] wr fun e w' => e = .returned (.bool ok) ∧ DS w w' tb mb limit L' (k + 1) := by
  have hlen : L'.length ≤ L.length + 1 := by
    rw [← hL]
    unfold noteF
    split
    · rename_i h
      rcases note_count (D.T.map.apart law3) e i h with h' | h' <;> omega
    · omega
  have := D.len
  refine (note_any tb mb limit s r e i L wr D.T D.ne hs (by unfold maxLen; omega) ok hok L' hL).mono ?_
  rintro _ w' ⟨rfl, T', hk'⟩
  exact ⟨rfl, T', D.ne, D.lo1, D.lo2, by omega, D.hk.trans' hk' (fun j hj e => by have h1 : j = mb := e; have := D.lo2; omega)⟩
theorem look_ds (D : DS w wr tb mb limit L k) (s r : Int) (hs : (Lit.int .i64 s).wf = true) (c p q : Int) (hv : lookF limit L s r = (c, p, q)) :
    Calls Try.prog 10 #[.pointer (some ⟨tb, 0, none⟩), .int .i64 s, .int .i64 r] wr fun e w' => e = .returned (.tuple #[.int .i64 c, .agg #[.int .i64 p, .int .i64 q]]) ∧ Keep NoB wr w' :=
  look_any tb mb limit s r L wr D.T hs (c, p, q) hv
theorem all_ds (D : DS w wr tb mb limit L k) (hk : k ≤ 100000) (M : List SE) (hM : allOf L = M) : Calls Try.prog 14 #[.pointer (some ⟨tb, 0, none⟩)] wr (AllPost M wr) :=
  all_any tb mb limit L wr D.T (Nat.le_trans D.len hk) M hM
end







set_option maxRecDepth 100000 in
set_option maxHeartbeats 4000000 in
theorem limit_walk (limit : Int) (a0 : Option Addr) (len0 cap0 : Nat) (z : Nat → Int × Int) (w : World) (h0 : IsAsks w a0 len0 z) :
    Calls Try.prog 5 #[.int .i64 limit, .slice a0 len0 cap0] w fun e w' => e = .returned (.bool true) ∧ Below w.heap.size w w' := by
  obtain ⟨hmax, hwf, hrow⟩ := h0
  unfold maxLen at hmax
  obtain ⟨m0, hm0⟩ : ∃ v, max limit 0 = v := ⟨_, rfl⟩
  have hm1 : limit ≤ m0 ∧ 0 ≤ m0 := by omega
  obtain ⟨hm1, hm2⟩ := hm1
  have Hm0 := Lib.hid hm0
  clear hm0
  go_enter Try.func5, Try.ntmps5
  go_wp2_with fail
  refine (awake_any _).mono ?_
  rintro _ w1 ⟨rfl, k1⟩
  go_wp2_with fail
  refine (new_any limit _).mono ?_
  rintro _ w2 ⟨rfl, T2, k2, s2⟩
  have D2 : DS w w2 (w1.heap.size + 1) w1.heap.size limit [] 0 := ⟨T2, by omega, Nat.le_succ_of_le k1.size, k1.size, Nat.le_refl _, k1.trans k2⟩
  generalize w1.heap.size + 1 = tb at *
  generalize w1.heap.size = mb at *
  clear T2 k1 k2 s2
  go_wp2_with fail
  go_loopw [6] (fun i wr => ∃ (k : Nat) (L : List (Lit × Last)), k ≤ len0 ∧ k ≤ 200 ∧ i = .int .i64 k ∧ DS w wr tb mb limit L k ∧ (L.length : Int) ≤ m0) (fun i _ => len0 - (intOf i).toNat)
  case atStart => exact ⟨0, [], Nat.zero_le _, Nat.zero_le _, rfl, D2, by simpa using hm2⟩
  case round =>
    clear D2
    obtain ⟨k, L, hk0, hk200, rfl, D, hLm⟩ := hrel
    by_cases hgo : k < len0 ∧ k < 200
    · obtain ⟨hlt, h200⟩ := hgo
      have h200i : decide ((k : Int) < 200) = true := by simp; omega
      rcases hrow with h | ⟨b, off, rfl, hb, hc⟩
      · omega
      obtain ⟨hcw0, hcw1⟩ := hc k hlt
      obtain ⟨hw0, _⟩ := hwf k hlt
      clear hc
      generalize z k = x at hcw0 hcw1 hw0
      obtain ⟨s, r⟩ := x
      simp only at hcw0 hcw1 hw0
      have Hw0 := Lib.hid hcw0
      have Hw1 := Lib.hid hcw1
      have hap := D.T.map.apart law3
      have Hap := Lib.hid hap
      have HD := Lib.hid D
      clear hcw0 hcw1 hap D
      obtain ⟨⟨f1, f2, f3⟩, hf⟩ : ∃ v, lookF limit L s r = v := ⟨_, rfl⟩
      obtain ⟨ok, hok⟩ : ∃ v, decide ((lookF limit L s r).1 = 1) = v := ⟨_, rfl⟩
      obtain ⟨L', hL'⟩ : ∃ v, noteF limit L s r 1 ((k : Int) + 1) = v := ⟨_, rfl⟩
      obtain ⟨⟨g1, g2, g3⟩, hg⟩ : ∃ v, lookF limit L' s r = v := ⟨_, rfl⟩
      have hcase : (ok = true ∧ g1 = 2 ∧ (L'.length : Int) ≤ m0 ∧ (L'.length = L.length ∨ L'.length = L.length + 1)) ∨ (ok = false ∧ L' = L ∧ (g1 = 4 → limit ≤ L.length)) := by
        by_cases h1 : f1 = 1
        · left
          have h2 : (lookF limit L s r).1 = 1 := by rw [hf]; exact h1
          have h3 : L' = lput L (kI s) (r, 1, (k : Int) + 1) := by rw [← hL']; unfold noteF; rw [if_pos h2]
          have h4 := look_same' limit L s r 1 ((k : Int) + 1)
          rw [← h3, hg] at h4
          have h5 := note_count Hap.out 1 ((k : Int) + 1) h2
          rw [← h3] at h5
          refine ⟨by rw [← hok, decide_eq_true h2], (Prod.mk.inj h4).1, by omega, by omega⟩
        · right
          have h2 : ¬ (lookF limit L s r).1 = 1 := by rw [hf]; exact h1
          have h3 : L' = L := by rw [← hL']; unfold noteF; rw [if_neg h2]
          refine ⟨by rw [← hok, decide_eq_false h2], h3, fun h4 => ?_⟩
          rw [h3, h4] at hg
          exact look_full hg
      have Hok := Lib.hid hok
      have HL' := Lib.hid hL'
      have Hg := Lib.hid hg
      have Hcase := Lib.hid hcase
      clear hf hok hL' hg hcase
      go_wp2_with fail
      refine (len_any tb mb limit L _ HD.out.T).mono ?_
      rintro _ wr ⟨rfl, rfl⟩
      go_wp2_with fail
      have l0 := HD.out.hk.some Hw0.out (fun h => h)
      have l1 := HD.out.hk.some Hw1.out (fun h => h)
      have bl : b < wr.heap.size := Nat.lt_of_lt_of_le hb HD.out.hk.size
      refine wp_region_pl (fun u => u.cell? ⟨b, off + k * 2, none⟩ = some (.int .i64 s) ∧ u.cell? ⟨b, off + k * 2 + 1, none⟩ = some (.int .i64 r)) [] (.rd 0 (.rd 1 (.rd 2 (.rd 3 (.rd 4 (.rd 5 (.rd 6 (.rd 7 (.rd 8 (.rd 9 (.rd 10 (.rd 11 (.one 12 (.one 13 (.one 14 .done))))))))))))))) (by kernel_rfl) (by kernel_rfl) (by kernel_rfl) (by kernel_rfl) (by intro c b d v u h; cases d <;> exact h) ?_
      have HS := Lib.hid (show wr.drew.cell? ⟨b, off + k * 2, none⟩ = some (.int .i64 s) ∧ wr.drew.cell? ⟨b, off + k * 2 + 1, none⟩ = some (.int .i64 r) from ⟨l0, l1⟩)
      have hkd := (Keep.refl NoB wr).drew
      clear l0 l1
      refine pl_get (i := 0) rfl rfl HS.out rfl (fun u hu => by (try dsimp only at hu); go_simp; rfl) (by simp only [List.setIfInBounds_toArray, List.set_cons_succ, List.set_cons_zero]; rfl) ?_
      refine pl_get (i := 1) rfl rfl HS.out rfl (fun u hu => by (try dsimp only at hu); go_simp; rfl) (by simp only [List.setIfInBounds_toArray, List.set_cons_succ, List.set_cons_zero]; rfl) ?_
      refine pl_get (i := 2) rfl rfl HS.out rfl (fun u hu => by (try dsimp only at hu); go_simp; rfl) (by simp only [List.setIfInBounds_toArray, List.set_cons_succ, List.set_cons_zero]; rfl) ?_
      refine pl_get (i := 3) rfl rfl HS.out rfl (fun u hu => by (try dsimp only at hu); go_simp; rfl) (by simp only [List.setIfInBounds_toArray, List.set_cons_succ, List.set_cons_zero]; rfl) ?_
      refine pl_get (i := 4) rfl rfl HS.out rfl (fun u hu => by (try dsimp only at hu); go_simp; rfl) (by simp only [List.setIfInBounds_toArray, List.set_cons_succ, List.set_cons_zero]; rfl) ?_
      refine pl_get (i := 5) rfl rfl HS.out rfl (fun u hu => by (try dsimp only at hu); go_simp; rfl) (by simp only [List.setIfInBounds_toArray, List.set_cons_succ, List.set_cons_zero]; rfl) ?_
      refine pl_get (i := 6) rfl rfl HS.out rfl (fun u hu => by (try dsimp only at hu); go_simp; rfl) (by simp only [List.setIfInBounds_toArray, List.set_cons_succ, List.set_cons_zero]; rfl) ?_
      refine pl_get (i := 7) rfl rfl HS.out rfl (fun u hu => by (try dsimp only at hu); go_simp; rfl) (by simp only [List.setIfInBounds_toArray, List.set_cons_succ, List.set_cons_zero]; rfl) ?_
      refine pl_get (i := 8) rfl rfl HS.out rfl (fun u hu => by (try dsimp only at hu); go_simp; rfl) (by simp only [List.setIfInBounds_toArray, List.set_cons_succ, List.set_cons_zero]; rfl) ?_
      refine pl_get (i := 9) rfl rfl HS.out rfl (fun u hu => by (try dsimp only at hu); go_simp; rfl) (by simp only [List.setIfInBounds_toArray, List.set_cons_succ, List.set_cons_zero]; rfl) ?_
      refine pl_get (i := 10) rfl rfl HS.out rfl (fun u hu => by (try dsimp only at hu); go_simp; rfl) (by simp only [List.setIfInBounds_toArray, List.set_cons_succ, List.set_cons_zero]; rfl) ?_
      refine pl_get (i := 11) rfl rfl HS.out rfl (fun u hu => by (try dsimp only at hu); go_simp; rfl) (by simp only [List.setIfInBounds_toArray, List.set_cons_succ, List.set_cons_zero]; rfl) ?_
      refine pl_one (i := 12) rfl ?_
      go_wp2_with ((go_at_call 12; refine (at_any k _ (by omega) (by omega)).mono ?_; rintro _ w4 ⟨rfl, k4⟩))
      have HS4 := Lib.hid (show w4.cell? ⟨b, off + k * 2, none⟩ = some (.int .i64 s) ∧ w4.cell? ⟨b, off + k * 2 + 1, none⟩ = some (.int .i64 r) from ⟨k4.some HS.out.1 (fun h => h), k4.some HS.out.2 (fun h => h)⟩)
      have HD4 := Lib.hid ((HD.out.keep hkd).keep k4)
      clear k4
      refine pl_next (fun _ => HS4.out) ?_
      refine pl_one (i := 13) rfl ?_
      go_wp2_with ((go_at_call 11; refine (note_ds HD4.out s r 1 (k + 1) hw0 (by omega) ok Hok.out L' HL'.out).mono ?_; rintro _ w5 ⟨rfl, D5⟩))
      have HS5 := Lib.hid (show w5.cell? ⟨b, off + k * 2, none⟩ = some (.int .i64 s) ∧ w5.cell? ⟨b, off + k * 2 + 1, none⟩ = some (.int .i64 r) from ⟨D5.hk.some Hw0.out (fun h => h), D5.hk.some Hw1.out (fun h => h)⟩)
      have HD5 := Lib.hid D5
      have bl5 : b < w5.heap.size := Nat.lt_of_lt_of_le hb D5.hk.size
      clear D5
      refine pl_next (fun _ => HS5.out) ?_
      refine pl_one (i := 14) rfl ?_
      go_wp2_with (fail)
      refine pl_next (fun _ => HS5.out) ?_
      refine pl_done ?_
      clear HD4 HS4 HS hkd bl
      go_wp2_with fail
      refine wp_region_pl (fun u => u.cell? ⟨b, off + k * 2, none⟩ = some (.int .i64 s) ∧ u.cell? ⟨b, off + k * 2 + 1, none⟩ = some (.int .i64 r)) [17] (.rd 0 (.rd 1 (.rd 2 (.rd 3 (.rd 4 (.rd 5 (.rd 6 (.rd 7 (.rd 8 (.rd 9 (.rd 10 (.fork 11 (.rd 12 (.rd 13 (.rd 14 (.one 15 (.one 16 (.one 17 .done)))))) 15 (.one 11 (.rd 12 (.rd 13 (.rd 14 (.one 16 (.one 17 .done)))))))))))))))))) (by kernel_rfl) (by kernel_rfl) (by kernel_rfl) (by kernel_rfl) (by intro c b d v u h; cases d <;> exact h) ?_
      have HS6 := Lib.hid (show w5.drew.cell? ⟨b, off + k * 2, none⟩ = some (.int .i64 s) ∧ w5.drew.cell? ⟨b, off + k * 2 + 1, none⟩ = some (.int .i64 r) from HS5.out)
      have hkd := (Keep.refl NoB w5).drew
      refine pl_get (i := 0) rfl rfl HS6.out rfl (fun u hu => by (try dsimp only at hu); go_simp; rfl) (by simp only [List.setIfInBounds_toArray, List.set_cons_succ, List.set_cons_zero]; rfl) ?_
      refine pl_get (i := 1) rfl rfl HS6.out rfl (fun u hu => by (try dsimp only at hu); go_simp; rfl) (by simp only [List.setIfInBounds_toArray, List.set_cons_succ, List.set_cons_zero]; rfl) ?_
      refine pl_get (i := 2) rfl rfl HS6.out rfl (fun u hu => by (try dsimp only at hu); go_simp; rfl) (by simp only [List.setIfInBounds_toArray, List.set_cons_succ, List.set_cons_zero]; rfl) ?_
      refine pl_get (i := 3) rfl rfl HS6.out rfl (fun u hu => by (try dsimp only at hu); go_simp; rfl) (by simp only [List.setIfInBounds_toArray, List.set_cons_succ, List.set_cons_zero]; rfl) ?_
      refine pl_get (i := 4) rfl rfl HS6.out rfl (fun u hu => by (try dsimp only at hu); go_simp; rfl) (by simp only [List.setIfInBounds_toArray, List.set_cons_succ, List.set_cons_zero]; rfl) ?_
      refine pl_get (i := 5) rfl rfl HS6.out rfl (fun u hu => by (try dsimp only at hu); go_simp; rfl) (by simp only [List.setIfInBounds_toArray, List.set_cons_succ, List.set_cons_zero]; rfl) ?_
      refine pl_get (i := 6) rfl rfl HS6.out rfl (fun u hu => by (try dsimp only at hu); go_simp; rfl) (by simp only [List.setIfInBounds_toArray, List.set_cons_succ, List.set_cons_zero]; rfl) ?_
      refine pl_get (i := 7) rfl rfl HS6.out rfl (fun u hu => by (try dsimp only at hu); go_simp; rfl) (by simp only [List.setIfInBounds_toArray, List.set_cons_succ, List.set_cons_zero]; rfl) ?_
      refine pl_get (i := 8) rfl rfl HS6.out rfl (fun u hu => by (try dsimp only at hu); go_simp; rfl) (by simp only [List.setIfInBounds_toArray, List.set_cons_succ, List.set_cons_zero]; rfl) ?_
      refine pl_get (i := 9) rfl rfl HS6.out rfl (fun u hu => by (try dsimp only at hu); go_simp; rfl) (by simp only [List.setIfInBounds_toArray, List.set_cons_succ, List.set_cons_zero]; rfl) ?_
      refine pl_get (i := 10) rfl rfl HS6.out rfl (fun u hu => by (try dsimp only at hu); go_simp; rfl) (by simp only [List.setIfInBounds_toArray, List.set_cons_succ, List.set_cons_zero]; rfl) ?_
      refine pl_fork (i := 11) (j := 15) rfl rfl ?_ ?_
      · go_wp2_with (go_at_call 10; refine (look_ds (HD5.out.keep hkd) s r hw0 g1 g2 g3 Hg.out).mono ?_; rintro _ w7 ⟨rfl, k7⟩)
        have HS7 := Lib.hid (show w7.cell? ⟨b, off + k * 2, none⟩ = some (.int .i64 s) ∧ w7.cell? ⟨b, off + k * 2 + 1, none⟩ = some (.int .i64 r) from ⟨k7.some HS6.out.1 (fun h => h), k7.some HS6.out.2 (fun h => h)⟩)
        have HD7 := Lib.hid ((HD5.out.keep hkd).keep k7)
        clear k7 hkd
        refine pl_next (fun _ => HS7.out) ?_
        refine pl_get (i := 12) rfl rfl HS7.out rfl (fun u hu => by (try dsimp only at hu); go_simp; rfl) (by simp only [List.setIfInBounds_toArray, List.set_cons_succ, List.set_cons_zero]; rfl) ?_
        refine pl_get (i := 13) rfl rfl HS7.out rfl (fun u hu => by (try dsimp only at hu); go_simp; rfl) (by simp only [List.setIfInBounds_toArray, List.set_cons_succ, List.set_cons_zero]; rfl) ?_
        refine pl_get (i := 14) rfl rfl HS7.out rfl (fun u hu => by (try dsimp only at hu); go_simp; rfl) (by simp only [List.setIfInBounds_toArray, List.set_cons_succ, List.set_cons_zero]; rfl) ?_
        refine pl_one (i := 15) rfl ?_
        go_wp2_with (fail)
        have k8 := (Keep.refl NoB w7).alloc (.cells #[.int .i64 0, .int .i64 0] 29)
        have HS8 := Lib.hid (show (w7.alloc (.cells #[.int .i64 0, .int .i64 0] 29)).cell? ⟨b, off + k * 2, none⟩ = some (.int .i64 s) ∧ (w7.alloc (.cells #[.int .i64 0, .int .i64 0] 29)).cell? ⟨b, off + k * 2 + 1, none⟩ = some (.int .i64 r) from ⟨k8.some HS7.out.1 (fun h => h), k8.some HS7.out.2 (fun h => h)⟩)
        refine pl_next (fun _ => HS8.out) ?_
        refine pl_one (i := 16) rfl ?_
        go_wp2_with (fail)
        refine pl_next (fun _ => HS8.out) ?_
        clear k8
        refine pl_one (i := 17) rfl ?_
        go_wp2_with (fail)
        refine pl_next (fun h => by cases h) ?_
        refine pl_done ?_
        have DZ := HD7.out.keep ((Keep.refl NoB w7).alloc (.cells #[.int .i64 g2, .int .i64 g3] 29))
        generalize World.alloc w7 (.cells #[.int .i64 g2, .int .i64 g3] 29) = WZ at DZ ⊢
        clear HS8 HS7 HD7 HS6 HS5 HD5 bl5 HD
        obtain ⟨M, hM⟩ : ∃ l, allOf L' = l := ⟨_, rfl⟩
        have hMl : (L'.length != M.length) = false := by rw [← hM]; simp [allOf]
        have hMi : ((L'.length : Int) != (M.length : Int)) = false := by rw [← hM]; simp [allOf]
        have HM := Lib.hid hM
        have hlL : L'.length ≤ 100000 := by have := DZ.len; omega
        clear hM
        rcases Hcase.out with ⟨e1, e2, e3, e4⟩ | ⟨e1, e2, e3⟩
        · subst e1 e2
          have hm' : (L'.length : Int) ≤ m0 := e3
          have dm : decide (m0 < (L'.length : Int)) = false := by simp; omega
          rcases e4 with e4 | e4
          · have n1 : (L'.length != L.length) = false := by simp [e4]
            have n2 : ((L'.length : Int) != (L.length : Int)) = false := by simp [e4]
            clear e3 e4
            as_aux_lemma =>
            have HDZ := Lib.hid DZ
            clear DZ
            go_wp2_with (first
              | (go_at_call 13; refine (len_any tb mb limit L' _ HDZ.out.T).mono ?_; rintro _ _ ⟨rfl, rfl⟩)
              | (refine wpList_max2 _ rfl _ _ _ _ rfl _ _ rfl rfl m0 Hm0.out ?_)
              | (go_at_call 14; refine (all_ds HDZ.out (by omega) M HM.out).mono ?_; rintro _ wz ⟨az, cz, rfl, _, kz⟩; have HDZ2 := Lib.hid (HDZ.out.keep kz); clear HDZ kz; have HDZ := HDZ2; clear HDZ2))
            go_roundw
            case rel => exact ⟨k + 1, L', hlt, h200, by go_num, HDZ.out, hm'⟩
            case measure => simp [intOf]; omega
          · have n1 : (L'.length != L.length) = true := by simp [e4]
            have n2 : ((L'.length : Int) != (L.length : Int)) = true := by simp; omega
            have n3 : ((L'.length : Int) != (L.length : Int) + 1) = false := by simp; omega
            have n4 : (L'.length != L.length + 1) = false := by simp [e4]
            have hl2 : L.length ≤ 100000 := by omega
            clear e3 e4
            as_aux_lemma =>
            have HDZ := Lib.hid DZ
            clear DZ
            go_wp2_with (first
              | (go_at_call 13; refine (len_any tb mb limit L' _ HDZ.out.T).mono ?_; rintro _ _ ⟨rfl, rfl⟩)
              | (refine wpList_max2 _ rfl _ _ _ _ rfl _ _ rfl rfl m0 Hm0.out ?_)
              | (go_at_call 14; refine (all_ds HDZ.out (by omega) M HM.out).mono ?_; rintro _ wz ⟨az, cz, rfl, _, kz⟩; have HDZ2 := Lib.hid (HDZ.out.keep kz); clear HDZ kz; have HDZ := HDZ2; clear HDZ2))
            go_roundw
            case rel => exact ⟨k + 1, L', hlt, h200, by go_num, HDZ.out, hm'⟩
            case measure => simp [intOf]; omega
        · subst e1
          subst e2
          have hm' : (L'.length : Int) ≤ m0 := hLm
          have dm : decide (m0 < (L'.length : Int)) = false := by simp; omega
          by_cases h4 : g1 = 4
          · have d4 : decide ((L'.length : Int) < limit) = false := by have := e3 h4; simp; omega
            subst h4
            clear e3
            as_aux_lemma =>
            have HDZ := Lib.hid DZ
            clear DZ
            go_wp2_with (first
              | (go_at_call 13; refine (len_any tb mb limit L' _ HDZ.out.T).mono ?_; rintro _ _ ⟨rfl, rfl⟩)
              | (refine wpList_max2 _ rfl _ _ _ _ rfl _ _ rfl rfl m0 Hm0.out ?_)
              | (go_at_call 14; refine (all_ds HDZ.out (by omega) M HM.out).mono ?_; rintro _ wz ⟨az, cz, rfl, _, kz⟩; have HDZ2 := Lib.hid (HDZ.out.keep kz); clear HDZ kz; have HDZ := HDZ2; clear HDZ2))
            go_roundw
            case rel => exact ⟨k + 1, L', hlt, h200, by go_num, HDZ.out, hm'⟩
            case measure => simp [intOf]; omega
          · have d4 : (g1 == 4) = false := by simpa using h4
            clear e3 h4
            as_aux_lemma =>
            have HDZ := Lib.hid DZ
            clear DZ
            go_wp2_with (first
              | (go_at_call 13; refine (len_any tb mb limit L' _ HDZ.out.T).mono ?_; rintro _ _ ⟨rfl, rfl⟩)
              | (refine wpList_max2 _ rfl _ _ _ _ rfl _ _ rfl rfl m0 Hm0.out ?_)
              | (go_at_call 14; refine (all_ds HDZ.out (by omega) M HM.out).mono ?_; rintro _ wz ⟨az, cz, rfl, _, kz⟩; have HDZ2 := Lib.hid (HDZ.out.keep kz); clear HDZ kz; have HDZ := HDZ2; clear HDZ2))
            go_roundw
            case rel => exact ⟨k + 1, L', hlt, h200, by go_num, HDZ.out, hm'⟩
            case measure => simp [intOf]; omega
      · go_wp2_with fail
        have k6 : Keep NoB w5 (World.alloc w5 (.cells #[.int .i64 0, .int .i64 0] 29)).drew := ((Keep.refl NoB w5).alloc (.cells #[.int .i64 0, .int .i64 0] 29)).drew
        have b6 : (World.alloc w5 (.cells #[.int .i64 0, .int .i64 0] 29)).drew.heap[w5.heap.size]? = some (.cells #[.int .i64 0, .int .i64 0] 29 (0, 0)) := blk_new w5 (.cells #[.int .i64 0, .int .i64 0] 29)
        generalize (World.alloc w5 (.cells #[.int .i64 0, .int .i64 0] 29)).drew = w6 at k6 b6 ⊢
        have HSA := Lib.hid (show w6.cell? ⟨b, off + k * 2, none⟩ = some (.int .i64 s) ∧ w6.cell? ⟨b, off + k * 2 + 1, none⟩ = some (.int .i64 r) from ⟨k6.some HS5.out.1 (fun h => h), k6.some HS5.out.2 (fun h => h)⟩)
        have HD6 := Lib.hid (HD5.out.keep k6)
        refine pl_next (fun _ => HSA.out) ?_
        clear hkd
        refine pl_one (i := 11) rfl ?_
        go_wp2_with ((go_at_call 10; refine (look_ds HD6.out s r hw0 g1 g2 g3 Hg.out).mono ?_; rintro _ w7 ⟨rfl, k7⟩))
        have HS7 := Lib.hid (show w7.cell? ⟨b, off + k * 2, none⟩ = some (.int .i64 s) ∧ w7.cell? ⟨b, off + k * 2 + 1, none⟩ = some (.int .i64 r) from ⟨k7.some HSA.out.1 (fun h => h), k7.some HSA.out.2 (fun h => h)⟩)
        have b7 := blk_keep b6 k7 (fun h => h)
        have q0 := blk_cell b7 0
        have q1 := blk_cell b7 1
        have q2 := blk_free b7 0
        have q3 := blk_free b7 1
        have q4 := blk_lt b7
        simp at q0 q1
        have K7 := k6.trans k7
        clear k7 b6 b7 k6
        refine pl_next (fun _ => HS7.out) ?_
        refine pl_get (i := 12) rfl rfl HS7.out rfl (fun u hu => by (try dsimp only at hu); go_simp; rfl) (by simp only [List.setIfInBounds_toArray, List.set_cons_succ, List.set_cons_zero]; rfl) ?_
        refine pl_get (i := 13) rfl rfl HS7.out rfl (fun u hu => by (try dsimp only at hu); go_simp; rfl) (by simp only [List.setIfInBounds_toArray, List.set_cons_succ, List.set_cons_zero]; rfl) ?_
        refine pl_get (i := 14) rfl rfl HS7.out rfl (fun u hu => by (try dsimp only at hu); go_simp; rfl) (by simp only [List.setIfInBounds_toArray, List.set_cons_succ, List.set_cons_zero]; rfl) ?_
        refine pl_one (i := 16) rfl ?_
        go_wp2_with (fail)
        refine pl_next (fun _ => HS7.out) ?_
        refine pl_one (i := 17) rfl ?_
        go_wp2_with (fail)
        refine pl_next (fun h => by cases h) ?_
        refine pl_done ?_
        have DZ := HD5.out.keep ((K7.setCell (p := ⟨w5.heap.size, 0, none⟩) (Or.inl (Nat.le_refl _)) (.int .i64 g2)).setCell (p := ⟨w5.heap.size, 1, none⟩) (Or.inl (Nat.le_refl _)) (.int .i64 g3))
        generalize World.setCell _ _ _ = WZ at DZ ⊢
        clear HS7 HSA HS6 HS5 HD5 bl5 HD HD6 K7 q0 q1 q2 q3 q4
        obtain ⟨M, hM⟩ : ∃ l, allOf L' = l := ⟨_, rfl⟩
        have hMl : (L'.length != M.length) = false := by rw [← hM]; simp [allOf]
        have hMi : ((L'.length : Int) != (M.length : Int)) = false := by rw [← hM]; simp [allOf]
        have HM := Lib.hid hM
        have hlL : L'.length ≤ 100000 := by have := DZ.len; omega
        clear hM
        rcases Hcase.out with ⟨e1, e2, e3, e4⟩ | ⟨e1, e2, e3⟩
        · subst e1 e2
          have hm' : (L'.length : Int) ≤ m0 := e3
          have dm : decide (m0 < (L'.length : Int)) = false := by simp; omega
          rcases e4 with e4 | e4
          · have n1 : (L'.length != L.length) = false := by simp [e4]
            have n2 : ((L'.length : Int) != (L.length : Int)) = false := by simp [e4]
            clear e3 e4
            as_aux_lemma =>
            have HDZ := Lib.hid DZ
            clear DZ
            go_wp2_with (first
              | (go_at_call 13; refine (len_any tb mb limit L' _ HDZ.out.T).mono ?_; rintro _ _ ⟨rfl, rfl⟩)
              | (refine wpList_max2 _ rfl _ _ _ _ rfl _ _ rfl rfl m0 Hm0.out ?_)
              | (go_at_call 14; refine (all_ds HDZ.out (by omega) M HM.out).mono ?_; rintro _ wz ⟨az, cz, rfl, _, kz⟩; have HDZ2 := Lib.hid (HDZ.out.keep kz); clear HDZ kz; have HDZ := HDZ2; clear HDZ2))
            go_roundw
            case rel => exact ⟨k + 1, L', hlt, h200, by go_num, HDZ.out, hm'⟩
            case measure => simp [intOf]; omega
          · have n1 : (L'.length != L.length) = true := by simp [e4]
            have n2 : ((L'.length : Int) != (L.length : Int)) = true := by simp; omega
            have n3 : ((L'.length : Int) != (L.length : Int) + 1) = false := by simp; omega
            have n4 : (L'.length != L.length + 1) = false := by simp [e4]
            have hl2 : L.length ≤ 100000 := by omega
            clear e3 e4
            as_aux_lemma =>
            have HDZ := Lib.hid DZ
            clear DZ
            go_wp2_with (first
              | (go_at_call 13; refine (len_any tb mb limit L' _ HDZ.out.T).mono ?_; rintro _ _ ⟨rfl, rfl⟩)
              | (refine wpList_max2 _ rfl _ _ _ _ rfl _ _ rfl rfl m0 Hm0.out ?_)
              | (go_at_call 14; refine (all_ds HDZ.out (by omega) M HM.out).mono ?_; rintro _ wz ⟨az, cz, rfl, _, kz⟩; have HDZ2 := Lib.hid (HDZ.out.keep kz); clear HDZ kz; have HDZ := HDZ2; clear HDZ2))
            go_roundw
            case rel => exact ⟨k + 1, L', hlt, h200, by go_num, HDZ.out, hm'⟩
            case measure => simp [intOf]; omega
        · subst e1
          subst e2
          have hm' : (L'.length : Int) ≤ m0 := hLm
          have dm : decide (m0 < (L'.length : Int)) = false := by simp; omega
          by_cases h4 : g1 = 4
          · have d4 : decide ((L'.length : Int) < limit) = false := by have := e3 h4; simp; omega
            subst h4
            clear e3
            as_aux_lemma =>
            have HDZ := Lib.hid DZ
            clear DZ
            go_wp2_with (first
              | (go_at_call 13; refine (len_any tb mb limit L' _ HDZ.out.T).mono ?_; rintro _ _ ⟨rfl, rfl⟩)
              | (refine wpList_max2 _ rfl _ _ _ _ rfl _ _ rfl rfl m0 Hm0.out ?_)
              | (go_at_call 14; refine (all_ds HDZ.out (by omega) M HM.out).mono ?_; rintro _ wz ⟨az, cz, rfl, _, kz⟩; have HDZ2 := Lib.hid (HDZ.out.keep kz); clear HDZ kz; have HDZ := HDZ2; clear HDZ2))
            go_roundw
            case rel => exact ⟨k + 1, L', hlt, h200, by go_num, HDZ.out, hm'⟩
            case measure => simp [intOf]; omega
          · have d4 : (g1 == 4) = false := by simpa using h4
            clear e3 h4
            as_aux_lemma =>
            have HDZ := Lib.hid DZ
            clear DZ
            go_wp2_with (first
              | (go_at_call 13; refine (len_any tb mb limit L' _ HDZ.out.T).mono ?_; rintro _ _ ⟨rfl, rfl⟩)
              | (refine wpList_max2 _ rfl _ _ _ _ rfl _ _ rfl rfl m0 Hm0.out ?_)
              | (go_at_call 14; refine (all_ds HDZ.out (by omega) M HM.out).mono ?_; rintro _ wz ⟨az, cz, rfl, _, kz⟩; have HDZ2 := Lib.hid (HDZ.out.keep kz); clear HDZ kz; have HDZ := HDZ2; clear HDZ2))
            go_roundw
            case rel => exact ⟨k + 1, L', hlt, h200, by go_num, HDZ.out, hm'⟩
            case measure => simp [intOf]; omega
    · have hout : (¬ k < len0 ∧ decide ((k : Int) < (len0 : Int)) = false) ∨ (k < len0 ∧ ¬ k < 200 ∧ decide ((k : Int) < 200) = false) := by
        by_cases h1 : k < len0
        · right
          have : ¬ k < 200 := fun h => hgo ⟨h1, h⟩
          exact ⟨h1, this, by simp; omega⟩
        · left
          exact ⟨h1, by simp; omega⟩
      have HD := Lib.hid D
      have hmul : L.length ≤ 100000 := by have := D.len; omega
      clear hgo D
      obtain ⟨M, hM⟩ : ∃ l, allOf L = l := ⟨_, rfl⟩
      have HM := Lib.hid hM
      clear hM
      have hkk : k ≤ 100000 := by omega
      rcases hout with ⟨h1, hd⟩ | ⟨h1, h2, hd⟩
      all_goals
        go_wp2_with fail
        refine (all_ds HD.out hkk M HM.out).mono ?_
        rintro _ w5 ⟨a5, c5, rfl, O5, k5⟩
        have HD5 := Lib.hid (HD.out.keep k5)
        have HO5 := Lib.hid O5
        clear O5 k5 hd
        go_wp2_with fail
        go_loopw [104] (fun i wx => ∃ m : Nat, m ≤ M.length ∧ i = .int .i64 m ∧ Keep NoB w5 wx) (fun i _ => M.length - (intOf i).toNat)
        case atStart => exact ⟨0, Nat.zero_le _, rfl, Keep.refl _ _⟩
        case round =>
          obtain ⟨m, hm, rfl, hkx⟩ := hrel
          by_cases hml : m < M.length
          · obtain ⟨x, hx⟩ : ∃ x, M[m]? = some x := ⟨_, List.getElem?_eq_getElem hml⟩
            have hLx := (allOf_mem (keys3 HD5.out.T.map) x).1 (by rw [HM.out]; exact List.mem_of_getElem? hx)
            obtain ⟨x1, x2, x3, x4⟩ := x
            have hlook := look_mem (limit := limit) (HD5.out.T.map.apart law3) hLx
            have Hlook := Lib.hid hlook
            have hwx := keys3wf HD5.out.T.map hLx
            have OX := HO5.out.keep hkx (fun _ _ h => h)
            obtain ⟨g, cc, hv, _, hgl, hcx⟩ := OX.cells encSeen_len hx
            cases hv
            have m0' := hcx 0 _ rfl
            have m1' := hcx 1 _ rfl
            have m2' := hcx 2 _ rfl
            have m3' := hcx 3 _ rfl
            simp only [Nat.add_zero] at m0'
            have HX := Lib.hid hx
            have HMC := Lib.hid (show wr.cell? ⟨g, m * 4, none⟩ = some (.int .i64 x1) ∧ wr.cell? ⟨g, m * 4 + 1, none⟩ = some (.int .i64 x2) ∧ wr.cell? ⟨g, m * 4 + 2, none⟩ = some (.int .i64 x3) ∧ wr.cell? ⟨g, m * 4 + 3, none⟩ = some (.int .i64 x4) from ⟨m0', m1', m2', m3'⟩)
            clear hx hLx hlook hcx m1' m2' m3'
            have hmM : M.length ≤ 100000 := by rw [← HM.out]; simp [allOf]; omega
            by_cases h0 : m = 0
            · have hd0 : decide (0 < m) = false := by simp [h0]
              clear m0' h0
              as_aux_lemma =>
              go_wp2_with fail
              go_quiet (fail)
              have kV : Keep NoB wr (World.drewN wr nq) := (Keep.refl NoB wr).drewN nq
              generalize World.drewN wr nq = V at kV ⊢
              have KV : Keep NoB w5 V := hkx.trans kV
              have HMV := Lib.hid (show V.cell? ⟨g, m * 4, none⟩ = some (.int .i64 x1) ∧ V.cell? ⟨g, m * 4 + 1, none⟩ = some (.int .i64 x2) ∧ V.cell? ⟨g, m * 4 + 2, none⟩ = some (.int .i64 x3) ∧ V.cell? ⟨g, m * 4 + 3, none⟩ = some (.int .i64 x4) from ⟨kV.some HMC.out.1 (fun h => h), kV.some HMC.out.2.1 (fun h => h), kV.some HMC.out.2.2.1 (fun h => h), kV.some HMC.out.2.2.2 (fun h => h)⟩)
              have HDV := Lib.hid (HD5.out.keep KV)
              have hgV : g < V.heap.size := Nat.lt_of_lt_of_le hgl kV.size
              clear kV
              go_wp2_with fail
              refine wp_region_pl (fun u => u.cell? ⟨g, m * 4, none⟩ = some (.int .i64 x1) ∧ u.cell? ⟨g, m * 4 + 1, none⟩ = some (.int .i64 x2)) [17] (.rd 0 (.rd 1 (.rd 2 (.rd 3 (.rd 4 (.rd 5 (.rd 6 (.rd 7 (.rd 8 (.rd 9 (.rd 10 (.fork 11 (.rd 12 (.rd 13 (.rd 14 (.one 15 (.one 16 (.one 17 .done)))))) 15 (.one 11 (.rd 12 (.rd 13 (.rd 14 (.one 16 (.one 17 .done)))))))))))))))))) (by kernel_rfl) (by kernel_rfl) (by kernel_rfl) (by kernel_rfl) (by intro c b d v u h; cases d <;> exact h) ?_
              have HS6 := Lib.hid (show V.drew.cell? ⟨g, m * 4, none⟩ = some (.int .i64 x1) ∧ V.drew.cell? ⟨g, m * 4 + 1, none⟩ = some (.int .i64 x2) from ⟨HMV.out.1, HMV.out.2.1⟩)
              have hkd := (Keep.refl NoB V).drew
              refine pl_get (i := 0) rfl rfl HS6.out rfl (fun u hu => by (try dsimp only at hu); go_simp; rfl) (by simp only [List.setIfInBounds_toArray, List.set_cons_succ, List.set_cons_zero]; rfl) ?_
              refine pl_get (i := 1) rfl rfl HS6.out rfl (fun u hu => by (try dsimp only at hu); go_simp; rfl) (by simp only [List.setIfInBounds_toArray, List.set_cons_succ, List.set_cons_zero]; rfl) ?_
              refine pl_get (i := 2) rfl rfl HS6.out rfl (fun u hu => by (try dsimp only at hu); go_simp; rfl) (by simp only [List.setIfInBounds_toArray, List.set_cons_succ, List.set_cons_zero]; rfl) ?_
              refine pl_get (i := 3) rfl rfl HS6.out rfl (fun u hu => by (try dsimp only at hu); go_simp; rfl) (by simp only [List.setIfInBounds_toArray, List.set_cons_succ, List.set_cons_zero]; rfl) ?_
              refine pl_get (i := 4) rfl rfl HS6.out rfl (fun u hu => by (try dsimp only at hu); go_simp; rfl) (by simp only [List.setIfInBounds_toArray, List.set_cons_succ, List.set_cons_zero]; rfl) ?_
              refine pl_get (i := 5) rfl rfl HS6.out rfl (fun u hu => by (try dsimp only at hu); go_simp; rfl) (by simp only [List.setIfInBounds_toArray, List.set_cons_succ, List.set_cons_zero]; rfl) ?_
              refine pl_get (i := 6) rfl rfl HS6.out rfl (fun u hu => by (try dsimp only at hu); go_simp; rfl) (by simp only [List.setIfInBounds_toArray, List.set_cons_succ, List.set_cons_zero]; rfl) ?_
              refine pl_get (i := 7) rfl rfl HS6.out rfl (fun u hu => by (try dsimp only at hu); go_simp; rfl) (by simp only [List.setIfInBounds_toArray, List.set_cons_succ, List.set_cons_zero]; rfl) ?_
              refine pl_get (i := 8) rfl rfl HS6.out rfl (fun u hu => by (try dsimp only at hu); go_simp; rfl) (by simp only [List.setIfInBounds_toArray, List.set_cons_succ, List.set_cons_zero]; rfl) ?_
              refine pl_get (i := 9) rfl rfl HS6.out rfl (fun u hu => by (try dsimp only at hu); go_simp; rfl) (by simp only [List.setIfInBounds_toArray, List.set_cons_succ, List.set_cons_zero]; rfl) ?_
              refine pl_get (i := 10) rfl rfl HS6.out rfl (fun u hu => by (try dsimp only at hu); go_simp; rfl) (by simp only [List.setIfInBounds_toArray, List.set_cons_succ, List.set_cons_zero]; rfl) ?_
              refine pl_fork (i := 11) (j := 15) rfl rfl ?_ ?_
              · go_wp2_with (go_at_call 10; refine (look_ds (HDV.out.keep hkd) x1 x2 hwx 2 x3 x4 Hlook.out).mono ?_; rintro _ w7 ⟨rfl, k7⟩)
                have HS7 := Lib.hid (show w7.cell? ⟨g, m * 4, none⟩ = some (.int .i64 x1) ∧ w7.cell? ⟨g, m * 4 + 1, none⟩ = some (.int .i64 x2) from ⟨k7.some HS6.out.1 (fun h => h), k7.some HS6.out.2 (fun h => h)⟩)
                have K7 := hkd.trans k7
                clear k7 hkd
                refine pl_next (fun _ => HS7.out) ?_
                refine pl_get (i := 12) rfl rfl HS7.out rfl (fun u hu => by (try dsimp only at hu); go_simp; rfl) (by simp only [List.setIfInBounds_toArray, List.set_cons_succ, List.set_cons_zero]; rfl) ?_
                refine pl_get (i := 13) rfl rfl HS7.out rfl (fun u hu => by (try dsimp only at hu); go_simp; rfl) (by simp only [List.setIfInBounds_toArray, List.set_cons_succ, List.set_cons_zero]; rfl) ?_
                refine pl_get (i := 14) rfl rfl HS7.out rfl (fun u hu => by (try dsimp only at hu); go_simp; rfl) (by simp only [List.setIfInBounds_toArray, List.set_cons_succ, List.set_cons_zero]; rfl) ?_
                refine pl_one (i := 15) rfl ?_
                go_wp2_with (fail)
                have k8 := (Keep.refl NoB w7).alloc (.cells #[.int .i64 0, .int .i64 0] 29)
                have HS8 := Lib.hid (show (w7.alloc (.cells #[.int .i64 0, .int .i64 0] 29)).cell? ⟨g, m * 4, none⟩ = some (.int .i64 x1) ∧ (w7.alloc (.cells #[.int .i64 0, .int .i64 0] 29)).cell? ⟨g, m * 4 + 1, none⟩ = some (.int .i64 x2) from ⟨k8.some HS7.out.1 (fun h => h), k8.some HS7.out.2 (fun h => h)⟩)
                refine pl_next (fun _ => HS8.out) ?_
                refine pl_one (i := 16) rfl ?_
                go_wp2_with (fail)
                refine pl_next (fun _ => HS8.out) ?_
                clear k8
                refine pl_one (i := 17) rfl ?_
                go_wp2_with (fail)
                refine pl_next (fun h => by cases h) ?_
                refine pl_done ?_
                have kz := K7.alloc (.cells #[.int .i64 x3, .int .i64 x4] 29)
                have bz := blk_new w7 (.cells #[.int .i64 x3, .int .i64 x4] 29)
                generalize World.alloc w7 (.cells #[.int .i64 x3, .int .i64 x4] 29) = WZ at kz bz ⊢
                generalize w7.heap.size = pb at bz ⊢
                clear HS8 HS7 HS6 K7 HDV
                have z0 := blk_cell bz 0
                have z1 := blk_cell bz 1
                have zl := blk_lt bz
                have y0 := kz.some HMV.out.2.2.1 (fun h => h)
                have y1 := kz.some HMV.out.2.2.2 (fun h => h)
                have yl : g < WZ.heap.size := Nat.lt_of_lt_of_le hgV kz.size
                simp at z0 z1
                have KZ := KV.trans kz
                clear bz kz
                go_wp2_with fail
                go_quiet (fail)
                go_wp2_with fail
                go_roundw
                case rel => exact ⟨m + 1, hml, by go_num, KZ.drewN _⟩
                case measure => simp [intOf]; omega
              · go_wp2_with fail
                have k6 : Keep NoB V (World.alloc V (.cells #[.int .i64 0, .int .i64 0] 29)).drew := ((Keep.refl NoB V).alloc (.cells #[.int .i64 0, .int .i64 0] 29)).drew
                have b6 : (World.alloc V (.cells #[.int .i64 0, .int .i64 0] 29)).drew.heap[V.heap.size]? = some (.cells #[.int .i64 0, .int .i64 0] 29 (0, 0)) := blk_new V (.cells #[.int .i64 0, .int .i64 0] 29)
                generalize (World.alloc V (.cells #[.int .i64 0, .int .i64 0] 29)).drew = w6 at k6 b6 ⊢
                have HSA := Lib.hid (show w6.cell? ⟨g, m * 4, none⟩ = some (.int .i64 x1) ∧ w6.cell? ⟨g, m * 4 + 1, none⟩ = some (.int .i64 x2) from ⟨k6.some HMV.out.1 (fun h => h), k6.some HMV.out.2.1 (fun h => h)⟩)
                have HD6 := Lib.hid (HDV.out.keep k6)
                refine pl_next (fun _ => HSA.out) ?_
                clear hkd
                refine pl_one (i := 11) rfl ?_
                go_wp2_with ((go_at_call 10; refine (look_ds HD6.out x1 x2 hwx 2 x3 x4 Hlook.out).mono ?_; rintro _ w7 ⟨rfl, k7⟩))
                have HS7 := Lib.hid (show w7.cell? ⟨g, m * 4, none⟩ = some (.int .i64 x1) ∧ w7.cell? ⟨g, m * 4 + 1, none⟩ = some (.int .i64 x2) from ⟨k7.some HSA.out.1 (fun h => h), k7.some HSA.out.2 (fun h => h)⟩)
                have b7 := blk_keep b6 k7 (fun h => h)
                have Hb7 := Lib.hid b7
                have q0 := blk_cell b7 0
                have q1 := blk_cell b7 1
                have q2 := blk_free b7 0
                have q3 := blk_free b7 1
                have q4 := blk_lt b7
                simp at q0 q1
                have K7 := k6.trans k7
                clear k7 b6 b7 k6
                refine pl_next (fun _ => HS7.out) ?_
                refine pl_get (i := 12) rfl rfl HS7.out rfl (fun u hu => by (try dsimp only at hu); go_simp; rfl) (by simp only [List.setIfInBounds_toArray, List.set_cons_succ, List.set_cons_zero]; rfl) ?_
                refine pl_get (i := 13) rfl rfl HS7.out rfl (fun u hu => by (try dsimp only at hu); go_simp; rfl) (by simp only [List.setIfInBounds_toArray, List.set_cons_succ, List.set_cons_zero]; rfl) ?_
                refine pl_get (i := 14) rfl rfl HS7.out rfl (fun u hu => by (try dsimp only at hu); go_simp; rfl) (by simp only [List.setIfInBounds_toArray, List.set_cons_succ, List.set_cons_zero]; rfl) ?_
                refine pl_one (i := 16) rfl ?_
                go_wp2_with (fail)
                refine pl_next (fun _ => HS7.out) ?_
                refine pl_one (i := 17) rfl ?_
                go_wp2_with (fail)
                refine pl_next (fun h => by cases h) ?_
                refine pl_done ?_
                have kz := (K7.setCell (p := ⟨V.heap.size, 0, none⟩) (Or.inl (Nat.le_refl _)) (.int .i64 x3)).setCell (p := ⟨V.heap.size, 1, none⟩) (Or.inl (Nat.le_refl _)) (.int .i64 x4)
                have bz := blk_setCell (i := 1) (blk_setCell (i := 0) Hb7.out (.int .i64 x3)) (.int .i64 x4)
                generalize World.setCell _ _ _ = WZ at kz bz ⊢
                simp only [List.setIfInBounds_toArray, List.set_cons_succ, List.set_cons_zero] at bz
                generalize V.heap.size = pb at bz ⊢
                clear HS7 HSA HS6 HD6 K7 q0 q1 q2 q3 q4 HDV Hb7
                have z0 := blk_cell bz 0
                have z1 := blk_cell bz 1
                have zl := blk_lt bz
                have y0 := kz.some HMV.out.2.2.1 (fun h => h)
                have y1 := kz.some HMV.out.2.2.2 (fun h => h)
                have yl : g < WZ.heap.size := Nat.lt_of_lt_of_le hgV kz.size
                simp at z0 z1
                have KZ := KV.trans kz
                clear bz kz
                go_wp2_with fail
                go_quiet (fail)
                go_wp2_with fail
                go_roundw
                case rel => exact ⟨m + 1, hml, by go_num, KZ.drewN _⟩
                case measure => simp [intOf]; omega
            · have hd0 : decide (0 < m) = true := by simp; omega
              obtain ⟨y, hy⟩ : ∃ y, M[m - 1]? = some y := ⟨_, List.getElem?_eq_getElem (by omega)⟩
              have hlt2 : y.1 < x1 := by
                have hr := allOf_rising (keys3 HD5.out.T.map) (HD5.out.T.map.rising law3).1
                rw [HM.out] at hr
                obtain ⟨i1, e1⟩ := List.getElem?_eq_some_iff.1 hy
                obtain ⟨i2, e2⟩ := List.getElem?_eq_some_iff.1 HX.out
                have := List.pairwise_iff_getElem.1 hr (m - 1) m i1 i2 (by omega)
                rw [e1, e2] at this
                exact this
              obtain ⟨y1, y2, y3, y4⟩ := y
              simp only at hlt2
              obtain ⟨g', cc', hv', _, _, hcy⟩ := OX.cells encSeen_len hy
              cases hv'
              have my := hcy 0 _ rfl
              simp only [Nat.add_zero] at my
              have hd1 : decide (x1 ≤ y1) = false := by simp; omega
              have e1 : IntKind.i64.wrap ((m : Int) - 1) = (m : Int) - 1 := IntWalk.i64_in _ (by omega)
              have e2 : ((m : Int) - 1).toNat = m - 1 := by omega
              have e3 : (0 : Int) ≤ (m : Int) - 1 := by omega
              have e4 : (m : Int) - 1 < (M.length : Int) := by omega
              have e5 : (1 : Int) ≤ (m : Int) := by omega
              clear hcy hy h0 hlt2
              as_aux_lemma =>
              go_wp2_with fail
              go_quiet (fail)
              clear e1 e2 e3 e4 e5 my m0' hd1
              have kV : Keep NoB wr (World.drewN wr nq) := (Keep.refl NoB wr).drewN nq
              generalize World.drewN wr nq = V at kV ⊢
              have KV : Keep NoB w5 V := hkx.trans kV
              have HMV := Lib.hid (show V.cell? ⟨g, m * 4, none⟩ = some (.int .i64 x1) ∧ V.cell? ⟨g, m * 4 + 1, none⟩ = some (.int .i64 x2) ∧ V.cell? ⟨g, m * 4 + 2, none⟩ = some (.int .i64 x3) ∧ V.cell? ⟨g, m * 4 + 3, none⟩ = some (.int .i64 x4) from ⟨kV.some HMC.out.1 (fun h => h), kV.some HMC.out.2.1 (fun h => h), kV.some HMC.out.2.2.1 (fun h => h), kV.some HMC.out.2.2.2 (fun h => h)⟩)
              have HDV := Lib.hid (HD5.out.keep KV)
              have hgV : g < V.heap.size := Nat.lt_of_lt_of_le hgl kV.size
              clear kV
              go_wp2_with fail
              refine wp_region_pl (fun u => u.cell? ⟨g, m * 4, none⟩ = some (.int .i64 x1) ∧ u.cell? ⟨g, m * 4 + 1, none⟩ = some (.int .i64 x2)) [17] (.rd 0 (.rd 1 (.rd 2 (.rd 3 (.rd 4 (.rd 5 (.rd 6 (.rd 7 (.rd 8 (.rd 9 (.rd 10 (.fork 11 (.rd 12 (.rd 13 (.rd 14 (.one 15 (.one 16 (.one 17 .done)))))) 15 (.one 11 (.rd 12 (.rd 13 (.rd 14 (.one 16 (.one 17 .done)))))))))))))))))) (by kernel_rfl) (by kernel_rfl) (by kernel_rfl) (by kernel_rfl) (by intro c b d v u h; cases d <;> exact h) ?_
              have HS6 := Lib.hid (show V.drew.cell? ⟨g, m * 4, none⟩ = some (.int .i64 x1) ∧ V.drew.cell? ⟨g, m * 4 + 1, none⟩ = some (.int .i64 x2) from ⟨HMV.out.1, HMV.out.2.1⟩)
              have hkd := (Keep.refl NoB V).drew
              refine pl_get (i := 0) rfl rfl HS6.out rfl (fun u hu => by (try dsimp only at hu); go_simp; rfl) (by simp only [List.setIfInBounds_toArray, List.set_cons_succ, List.set_cons_zero]; rfl) ?_
              refine pl_get (i := 1) rfl rfl HS6.out rfl (fun u hu => by (try dsimp only at hu); go_simp; rfl) (by simp only [List.setIfInBounds_toArray, List.set_cons_succ, List.set_cons_zero]; rfl) ?_
              refine pl_get (i := 2) rfl rfl HS6.out rfl (fun u hu => by (try dsimp only at hu); go_simp; rfl) (by simp only [List.setIfInBounds_toArray, List.set_cons_succ, List.set_cons_zero]; rfl) ?_
              refine pl_get (i := 3) rfl rfl HS6.out rfl (fun u hu => by (try dsimp only at hu); go_simp; rfl) (by simp only [List.setIfInBounds_toArray, List.set_cons_succ, List.set_cons_zero]; rfl) ?_
              refine pl_get (i := 4) rfl rfl HS6.out rfl (fun u hu => by (try dsimp only at hu); go_simp; rfl) (by simp only [List.setIfInBounds_toArray, List.set_cons_succ, List.set_cons_zero]; rfl) ?_
              refine pl_get (i := 5) rfl rfl HS6.out rfl (fun u hu => by (try dsimp only at hu); go_simp; rfl) (by simp only [List.setIfInBounds_toArray, List.set_cons_succ, List.set_cons_zero]; rfl) ?_
              refine pl_get (i := 6) rfl rfl HS6.out rfl (fun u hu => by (try dsimp only at hu); go_simp; rfl) (by simp only [List.setIfInBounds_toArray, List.set_cons_succ, List.set_cons_zero]; rfl) ?_
              refine pl_get (i := 7) rfl rfl HS6.out rfl (fun u hu => by (try dsimp only at hu); go_simp; rfl) (by simp only [List.setIfInBounds_toArray, List.set_cons_succ, List.set_cons_zero]; rfl) ?_
              refine pl_get (i := 8) rfl rfl HS6.out rfl (fun u hu => by (try dsimp only at hu); go_simp; rfl) (by simp only [List.setIfInBounds_toArray, List.set_cons_succ, List.set_cons_zero]; rfl) ?_
              refine pl_get (i := 9) rfl rfl HS6.out rfl (fun u hu => by (try dsimp only at hu); go_simp; rfl) (by simp only [List.setIfInBounds_toArray, List.set_cons_succ, List.set_cons_zero]; rfl) ?_
              refine pl_get (i := 10) rfl rfl HS6.out rfl (fun u hu => by (try dsimp only at hu); go_simp; rfl) (by simp only [List.setIfInBounds_toArray, List.set_cons_succ, List.set_cons_zero]; rfl) ?_
              refine pl_fork (i := 11) (j := 15) rfl rfl ?_ ?_
              · go_wp2_with (go_at_call 10; refine (look_ds (HDV.out.keep hkd) x1 x2 hwx 2 x3 x4 Hlook.out).mono ?_; rintro _ w7 ⟨rfl, k7⟩)
                have HS7 := Lib.hid (show w7.cell? ⟨g, m * 4, none⟩ = some (.int .i64 x1) ∧ w7.cell? ⟨g, m * 4 + 1, none⟩ = some (.int .i64 x2) from ⟨k7.some HS6.out.1 (fun h => h), k7.some HS6.out.2 (fun h => h)⟩)
                have K7 := hkd.trans k7
                clear k7 hkd
                refine pl_next (fun _ => HS7.out) ?_
                refine pl_get (i := 12) rfl rfl HS7.out rfl (fun u hu => by (try dsimp only at hu); go_simp; rfl) (by simp only [List.setIfInBounds_toArray, List.set_cons_succ, List.set_cons_zero]; rfl) ?_
                refine pl_get (i := 13) rfl rfl HS7.out rfl (fun u hu => by (try dsimp only at hu); go_simp; rfl) (by simp only [List.setIfInBounds_toArray, List.set_cons_succ, List.set_cons_zero]; rfl) ?_
                refine pl_get (i := 14) rfl rfl HS7.out rfl (fun u hu => by (try dsimp only at hu); go_simp; rfl) (by simp only [List.setIfInBounds_toArray, List.set_cons_succ, List.set_cons_zero]; rfl) ?_
                refine pl_one (i := 15) rfl ?_
                go_wp2_with (fail)
                have k8 := (Keep.refl NoB w7).alloc (.cells #[.int .i64 0, .int .i64 0] 29)
                have HS8 := Lib.hid (show (w7.alloc (.cells #[.int .i64 0, .int .i64 0] 29)).cell? ⟨g, m * 4, none⟩ = some (.int .i64 x1) ∧ (w7.alloc (.cells #[.int .i64 0, .int .i64 0] 29)).cell? ⟨g, m * 4 + 1, none⟩ = some (.int .i64 x2) from ⟨k8.some HS7.out.1 (fun h => h), k8.some HS7.out.2 (fun h => h)⟩)
                refine pl_next (fun _ => HS8.out) ?_
                refine pl_one (i := 16) rfl ?_
                go_wp2_with (fail)
                refine pl_next (fun _ => HS8.out) ?_
                clear k8
                refine pl_one (i := 17) rfl ?_
                go_wp2_with (fail)
                refine pl_next (fun h => by cases h) ?_
                refine pl_done ?_
                have kz := K7.alloc (.cells #[.int .i64 x3, .int .i64 x4] 29)
                have bz := blk_new w7 (.cells #[.int .i64 x3, .int .i64 x4] 29)
                generalize World.alloc w7 (.cells #[.int .i64 x3, .int .i64 x4] 29) = WZ at kz bz ⊢
                generalize w7.heap.size = pb at bz ⊢
                clear HS8 HS7 HS6 K7 HDV
                have z0 := blk_cell bz 0
                have z1 := blk_cell bz 1
                have zl := blk_lt bz
                have y0 := kz.some HMV.out.2.2.1 (fun h => h)
                have y1 := kz.some HMV.out.2.2.2 (fun h => h)
                have yl : g < WZ.heap.size := Nat.lt_of_lt_of_le hgV kz.size
                simp at z0 z1
                have KZ := KV.trans kz
                clear bz kz
                go_wp2_with fail
                go_quiet (fail)
                go_wp2_with fail
                go_roundw
                case rel => exact ⟨m + 1, hml, by go_num, KZ.drewN _⟩
                case measure => simp [intOf]; omega
              · go_wp2_with fail
                have k6 : Keep NoB V (World.alloc V (.cells #[.int .i64 0, .int .i64 0] 29)).drew := ((Keep.refl NoB V).alloc (.cells #[.int .i64 0, .int .i64 0] 29)).drew
                have b6 : (World.alloc V (.cells #[.int .i64 0, .int .i64 0] 29)).drew.heap[V.heap.size]? = some (.cells #[.int .i64 0, .int .i64 0] 29 (0, 0)) := blk_new V (.cells #[.int .i64 0, .int .i64 0] 29)
                generalize (World.alloc V (.cells #[.int .i64 0, .int .i64 0] 29)).drew = w6 at k6 b6 ⊢
                have HSA := Lib.hid (show w6.cell? ⟨g, m * 4, none⟩ = some (.int .i64 x1) ∧ w6.cell? ⟨g, m * 4 + 1, none⟩ = some (.int .i64 x2) from ⟨k6.some HMV.out.1 (fun h => h), k6.some HMV.out.2.1 (fun h => h)⟩)
                have HD6 := Lib.hid (HDV.out.keep k6)
                refine pl_next (fun _ => HSA.out) ?_
                clear hkd
                refine pl_one (i := 11) rfl ?_
                go_wp2_with ((go_at_call 10; refine (look_ds HD6.out x1 x2 hwx 2 x3 x4 Hlook.out).mono ?_; rintro _ w7 ⟨rfl, k7⟩))
                have HS7 := Lib.hid (show w7.cell? ⟨g, m * 4, none⟩ = some (.int .i64 x1) ∧ w7.cell? ⟨g, m * 4 + 1, none⟩ = some (.int .i64 x2) from ⟨k7.some HSA.out.1 (fun h => h), k7.some HSA.out.2 (fun h => h)⟩)
                have b7 := blk_keep b6 k7 (fun h => h)
                have Hb7 := Lib.hid b7
                have q0 := blk_cell b7 0
                have q1 := blk_cell b7 1
                have q2 := blk_free b7 0
                have q3 := blk_free b7 1
                have q4 := blk_lt b7
                simp at q0 q1
                have K7 := k6.trans k7
                clear k7 b6 b7 k6
                refine pl_next (fun _ => HS7.out) ?_
                refine pl_get (i := 12) rfl rfl HS7.out rfl (fun u hu => by (try dsimp only at hu); go_simp; rfl) (by simp only [List.setIfInBounds_toArray, List.set_cons_succ, List.set_cons_zero]; rfl) ?_
                refine pl_get (i := 13) rfl rfl HS7.out rfl (fun u hu => by (try dsimp only at hu); go_simp; rfl) (by simp only [List.setIfInBounds_toArray, List.set_cons_succ, List.set_cons_zero]; rfl) ?_
                refine pl_get (i := 14) rfl rfl HS7.out rfl (fun u hu => by (try dsimp only at hu); go_simp; rfl) (by simp only [List.setIfInBounds_toArray, List.set_cons_succ, List.set_cons_zero]; rfl) ?_
                refine pl_one (i := 16) rfl ?_
                go_wp2_with (fail)
                refine pl_next (fun _ => HS7.out) ?_
                refine pl_one (i := 17) rfl ?_
                go_wp2_with (fail)
                refine pl_next (fun h => by cases h) ?_
                refine pl_done ?_
                have kz := (K7.setCell (p := ⟨V.heap.size, 0, none⟩) (Or.inl (Nat.le_refl _)) (.int .i64 x3)).setCell (p := ⟨V.heap.size, 1, none⟩) (Or.inl (Nat.le_refl _)) (.int .i64 x4)
                have bz := blk_setCell (i := 1) (blk_setCell (i := 0) Hb7.out (.int .i64 x3)) (.int .i64 x4)
                generalize World.setCell _ _ _ = WZ at kz bz ⊢
                simp only [List.setIfInBounds_toArray, List.set_cons_succ, List.set_cons_zero] at bz
                generalize V.heap.size = pb at bz ⊢
                clear HS7 HSA HS6 HD6 K7 q0 q1 q2 q3 q4 HDV Hb7
                have z0 := blk_cell bz 0
                have z1 := blk_cell bz 1
                have zl := blk_lt bz
                have y0 := kz.some HMV.out.2.2.1 (fun h => h)
                have y1 := kz.some HMV.out.2.2.2 (fun h => h)
                have yl : g < WZ.heap.size := Nat.lt_of_lt_of_le hgV kz.size
                simp at z0 z1
                have KZ := KV.trans kz
                clear bz kz
                go_wp2_with fail
                go_quiet (fail)
                go_wp2_with fail
                go_roundw
                case rel => exact ⟨m + 1, hml, by go_num, KZ.drewN _⟩
                case measure => simp [intOf]; omega
          · go_wp2_with fail
            go_ret
            exact ⟨rfl, (HD5.out.hk.trans hkx).below (fun _ _ h => h)⟩
end Go.Proofs.Ytlglnpokfmdpaaa
