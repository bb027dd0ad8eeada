/- The walk of DedupeLoads. -/
import Derived.Test.YtlglnpokfmdpaaaDedupeL
import Derived.Test.YtlglnpokfmdpaaaLibReg2
namespace Go.Proofs.Ytlglnpokfmdpaaa
open Go Go.RowKit Go.Maps Go.Sort

theorem i64_and15 (n : Int) : bits .and .i64 n 15 = n % 16 := by
  have h127 : (BitVec.ofInt 64 15).toNat = 2 ^ 4 - 1 := by decide
  have key : (BitVec.ofInt 64 n &&& BitVec.ofInt 64 15).toNat = (n % ((2 ^ 64 : Nat) : Int)).toNat % 2 ^ 4 := by
    rw [BitVec.toNat_and, BitVec.toNat_ofInt, h127, Nat.and_two_pow_sub_one_eq_mod]
  show IntKind.i64.wrap ((BitVec.ofInt 64 n &&& BitVec.ofInt 64 15).toNat : Nat) = n % 16
  rw [key, IntKind.wrap_i64]
  omega

/-- What a Note does to how many there are. -/
theorem note_lim {limit : Int} {L : List (Lit × Last)} (ha : Apart L) (h0 : (L.length : Int) ≤ limit) (s r e i : Int) : ((noteF limit L s r e i).length : Int) ≤ limit ∧ (noteF limit L s r e i).length ≤ L.length + 1 := by
  unfold noteF
  split
  · rename_i h
    rw [length_lput ha]
    unfold lookF at h
    cases hg : lget L (kI s) with
    | none =>
      rw [hg] at h
      simp only at h
      split at h
      · simp at h
      · constructor
        · simp; omega
        · simp
    | some x =>
      constructor
      · simpa using h0
      · simp
  · exact ⟨h0, by omega⟩

theorem absD_allOf {L : List (Lit × Last)} (hk : Keys3 L) : absD (allOf L) = L := by
  unfold absD allOf
  rw [List.map_map]
  conv => rhs; rw [← List.map_id L]
  apply List.map_congr_left
  intro p hp
  obtain ⟨s, e⟩ := hk p hp
  obtain ⟨p1, p2⟩ := p
  simp only at e
  subst e
  rfl
def zS (M : List SE) (i : Nat) : SE := M.getD i (0, 0, 0, 0)
theorem seL_zS (M : List SE) : seL (zS M) M.length = M := by
  apply List.ext_getElem?
  intro i
  unfold seL
  rw [List.getElem?_map]
  by_cases h : i < M.length
  · rw [List.getElem?_range h]
    show some (zS M i) = _
    unfold zS
    rw [List.getD_eq_getElem?_getD, List.getElem?_eq_getElem h]
    rfl
  · rw [List.getElem?_eq_none (by simpa using h), List.getElem?_eq_none (by omega)]
    rfl
theorem zS_rise {M : List SE} (h : RiseD M) : ∀ i, i + 1 < M.length → (zS M i).1 < (zS M (i + 1)).1 := by
  intro i hi
  have := List.pairwise_iff_getElem.1 h i (i + 1) (by omega) hi (by omega)
  unfold zS
  rw [List.getD_eq_getElem?_getD, List.getD_eq_getElem?_getD, List.getElem?_eq_getElem hi, List.getElem?_eq_getElem (by omega : i < M.length)]
  exact this
theorem zS_at {M : List SE} {i : Nat} (h : i < M.length) : M[i]? = some (zS M i) := by
  unfold zS
  rw [List.getD_eq_getElem?_getD, List.getElem?_eq_getElem h]
  rfl
theorem Own.SeA {w : World} {B : Nat} {a : Option Addr} {c : Nat} {M : List SE} (h : Own w B 41 4 encSeen (.slice a M.length c) M) (hwf : ∀ x ∈ M, (Lit.int .i64 x.1).wf = true) : SeA w a M.length (zS M) := by
  refine ⟨fun i hi => hwf _ (List.mem_of_getElem? (zS_at hi)), ?_⟩
  by_cases hM : M = []
  · exact Or.inl (by rw [hM]; rfl)
  · obtain ⟨g, rfl, _, hg⟩ := Own.some h hM
    refine Or.inr ⟨g, 0, rfl, hg, fun i hi => ?_⟩
    obtain ⟨g', c', hv, _, _, hc⟩ := h.cells encSeen_len (zS_at hi)
    cases hv
    rw [show 0 + i * 4 = i * 4 by omega]
    exact ⟨hc 0 _ rfl, hc 1 _ rfl, hc 2 _ rfl, hc 3 _ rfl⟩

/-- Two slices of the same sessions are the same. -/
theorem same_any (B1 B2 : Nat) (a1 a2 : Option Addr) (c1 c2 : Nat) (l : List SE) (w : World) (h1 : Own w B1 41 4 encSeen (.slice a1 l.length c1) l) (h2 : Own w B2 41 4 encSeen (.slice a2 l.length c2) l) (hl : l.length ≤ 1000000) :
    Calls Try.prog 19 #[.slice a1 l.length c1, .slice a2 l.length c2] w fun e w' => e = .returned (.bool true) ∧ Keep NoB w w' := by
  have H1 := Lib.hid h1
  have H2 := Lib.hid h2
  clear h1 h2
  go_enter Try.func19, Try.ntmps19
  go_wp2_with fail
  go_loopw [5] (fun i wr => ∃ m : Nat, m ≤ l.length ∧ i = .int .i64 m ∧ Keep NoB w wr) (fun i _ => l.length - (intOf i).toNat)
  case atStart => exact ⟨0, Nat.zero_le _, rfl, Keep.refl _ _⟩
  case round =>
    obtain ⟨m, hm, rfl, hk⟩ := hrel
    by_cases hml : m < l.length
    · obtain ⟨x, hx⟩ : ∃ x, l[m]? = some x := ⟨_, List.getElem?_eq_getElem hml⟩
      obtain ⟨b1, e1, hv1, _, hb1, hc1⟩ := (H1.out.keep hk (fun _ _ h => h)).cells encSeen_len hx
      obtain ⟨b2, e2, hv2, _, hb2, hc2⟩ := (H2.out.keep hk (fun _ _ h => h)).cells encSeen_len hx
      cases hv1
      cases hv2
      obtain ⟨x0, x1, x2, x3⟩ := x
      have m0 := hc1 0 _ rfl
      have m1 := hc1 1 _ rfl
      have m2 := hc1 2 _ rfl
      have m3 := hc1 3 _ rfl
      have q0 := hc2 0 _ rfl
      have q1 := hc2 1 _ rfl
      have q2 := hc2 2 _ rfl
      have q3 := hc2 3 _ rfl
      simp only [Nat.add_zero] at m0 q0
      clear hx hc1 hc2
      go_wp2_with fail
      go_quiet (fail)
      go_wp2_with fail
      go_roundw
      case rel => exact ⟨m + 1, hml, by go_num, hk.drewN _⟩
      case measure => simp [intOf]; omega
    · have hd : decide ((m : Int) < (l.length : Int)) = false := decide_eq_false (by omega)
      go_wp2_with fail
      go_ret
      exact ⟨rfl, hk⟩

structure D2 (w wr : World) (tb mb tb2 mb2 : Nat) (p : Int) (L L2 : List (Lit × Last)) : Prop where
  T : Tab wr tb mb p L
  U : Tab wr tb2 mb2 p L2
  hk : Keep NoB w wr
  lim : (L.length : Int) ≤ p

set_option maxRecDepth 100000 in
set_option maxHeartbeats 8000000 in
theorem loads_walk (limit : Int) (a1 : Option Addr) (n1 c1 : Nat) (z1 : Nat → SE) (x0 x1 x2 x3 : Int) (w : World) (h1 : SeA w a1 n1 z1) (hn1 : n1 ≤ maxLen) (hx : (Lit.int .i64 x0).wf = true) :
    Calls Try.prog 7 #[.int .i64 limit, .slice a1 n1 c1, .agg #[.int .i64 x0, .int .i64 x1, .int .i64 x2, .int .i64 x3]] w fun e w' => e = .returned (.bool true) ∧ Below w.heap.size w w' := by
  unfold maxLen at hn1
  have H1 := Lib.hid h1
  clear h1
  obtain ⟨pa, hpa⟩ : ∃ pa : Int, bits .and .i64 limit 15 = pa := ⟨_, rfl⟩
  have hpa' : pa = limit % 16 := by rw [← hpa, i64_and15]
  obtain ⟨p, hp⟩ : ∃ p : Int, 1 + pa = p := ⟨_, rfl⟩
  have hp2 : 1 ≤ p ∧ p ≤ 16 := by omega
  obtain ⟨hpa0, hpa1⟩ : 0 ≤ pa ∧ pa ≤ 15 := by omega
  obtain ⟨hp1, hp16⟩ := hp2
  clear hpa'
  go_enter Try.func7, Try.ntmps7
  go_wp2_with fail
  have k0 : Keep NoB w (w.alloc (.cells #[.int .i64 x0, .int .i64 x1, .int .i64 x2, .int .i64 x3] 41)) := (Keep.refl NoB w).alloc _
  have b0 := blk_new w (.cells #[.int .i64 x0, .int .i64 x1, .int .i64 x2, .int .i64 x3] 41)
  generalize World.alloc w (.cells #[.int .i64 x0, .int .i64 x1, .int .i64 x2, .int .i64 x3] 41) = w0 at k0 b0 ⊢
  generalize w.heap.size = xb at b0 ⊢
  refine (awake_any _).mono ?_
  rintro _ w1 ⟨rfl, k1⟩
  have K1 := k0.trans k1
  have b1 := blk_keep b0 k1 (fun h => h)
  have m0 := blk_cell b1 0
  have m1 := blk_cell b1 1
  have ml := blk_lt b1
  simp at m0 m1
  clear b0 b1 k0 k1
  go_wp2_with fail
  go_quiet (fail)
  have kq : Keep NoB w1 (w1.drewN nq) := (Keep.refl NoB w1).drewN nq
  generalize w1.drewN nq = wq at kq ⊢
  have Kq := K1.trans kq
  clear m0 m1 ml K1 kq
  go_wp2_with fail
  refine (new_any p _).mono ?_
  rintro _ w2 ⟨rfl, T2, k2, s2⟩
  go_wp2_with fail
  refine (new_any p _).mono ?_
  rintro _ w3 ⟨rfl, U3, k3, s3⟩
  have T3 := T2.keep k3 (fun h => h) (fun h => h)
  have hsz := Kq.size
  have D3 : D2 w w3 (wq.heap.size + 1) wq.heap.size (w2.heap.size + 1) w2.heap.size p [] [] := ⟨T3, U3, (Kq.trans k2).trans k3, by simp; omega⟩
  obtain ⟨tb, htb⟩ : ∃ t, wq.heap.size + 1 = t := ⟨_, rfl⟩
  obtain ⟨mb, hmb⟩ : ∃ t, wq.heap.size = t := ⟨_, rfl⟩
  obtain ⟨ub, hub⟩ : ∃ t, w2.heap.size + 1 = t := ⟨_, rfl⟩
  obtain ⟨vb, hvb⟩ : ∃ t, w2.heap.size = t := ⟨_, rfl⟩
  have hne : tb ≠ mb ∧ ub ≠ vb ∧ mb ≠ ub ∧ mb ≠ vb ∧ tb ≠ vb := by omega
  have hlo : w.heap.size ≤ mb ∧ w.heap.size ≤ vb := by omega
  rw [htb, hub]
  rw [htb, hmb, hub, hvb] at D3
  obtain ⟨hne1, hne2, hne3, hne4, hne5⟩ := hne
  obtain ⟨hlo1, hlo2⟩ := hlo
  have hone := Lib.hid (show ∀ i, i < w.heap.size → OneB mb i → NoB i from fun i hi e => by have e' : i = mb := e; omega)
  have hone2 := Lib.hid (show ∀ i, i < w.heap.size → OneB vb i → NoB i from fun i hi e => by have e' : i = vb := e; omega)
  clear T2 k2 s2 U3 k3 s3 T3 htb hmb hub hvb hsz Kq
  go_wp2_with fail
  go_loopw [11] (fun i wr => ∃ (k : Nat) (L : List (Lit × Last)), k ≤ n1 ∧ k ≤ 100 ∧ i = .int .i64 k ∧ D2 w wr tb mb ub vb p L [] ∧ L.length ≤ k) (fun i _ => n1 - (intOf i).toNat)
  case atStart => exact ⟨0, [], Nat.zero_le _, Nat.zero_le _, rfl, D3, Nat.le_refl _⟩
  case round =>
    clear D3
    obtain ⟨k, L, hk, hk100, rfl, D, hLk⟩ := hrel
    by_cases hgo : k < n1 ∧ k < 100
    · obtain ⟨hlt, h100⟩ := hgo
      have h100i : decide ((k : Int) < 100) = true := by simp; omega
      rcases H1.out.2 with h | ⟨b, off, rfl, hb, hc⟩
      · omega
      have HC := Lib.hid (ks4 (hc k hlt) D.hk)
      have hwf := H1.out.1 k hlt
      have hbw := Nat.lt_of_lt_of_le hb D.hk.size
      clear hc
      generalize z1 k = y at HC hwf
      obtain ⟨y0, y1, y2, y3⟩ := y
      simp only at HC hwf
      obtain ⟨ok, hok⟩ : ∃ v, decide ((lookF p L y0 y1).1 = 1) = v := ⟨_, rfl⟩
      obtain ⟨L', hL'⟩ : ∃ v, noteF p L y0 y1 y2 y3 = v := ⟨_, rfl⟩
      have hnl := note_lim (D.T.map.apart law3) D.lim y0 y1 y2 y3
      rw [hL'] at hnl
      obtain ⟨hnl1, hnl2⟩ := hnl
      have Hok := Lib.hid hok
      have HL' := Lib.hid hL'
      have HD := Lib.hid D
      clear hok hL' D
      go_wp2_with fail
      refine wp_region_pl (fun u => u.cell? ⟨b, off + k * 4, none⟩ = some (.int .i64 y0) ∧ u.cell? ⟨b, off + k * 4 + 1, none⟩ = some (.int .i64 y1) ∧ u.cell? ⟨b, off + k * 4 + 2, none⟩ = some (.int .i64 y2) ∧ u.cell? ⟨b, off + k * 4 + 3, none⟩ = some (.int .i64 y3)) [] (.rd 0 (.rd 1 (.rd 2 (.rd 3 (.rd 4 (.rd 5 (.rd 6 (.rd 7 (.rd 8 (.rd 9 (.rd 10 (.rd 11 (.rd 12 (.rd 13 (.rd 14 (.rd 15 (.one 16 .done))))))))))))))))) (by kernel_rfl) (by kernel_rfl) (by kernel_rfl) (by kernel_rfl) (by intro c b d v u h; cases d <;> exact h) ?_
      have kd := (Keep.refl NoB wr).drew
      have HS := Lib.hid (ks4 HC.out kd)
      clear HC
      first
        | refine pl_get (i := 0) rfl rfl HS.out rfl (fun u hu => by (try dsimp only at hu); go_simp; rfl) (by simp only [List.setIfInBounds_toArray, List.set_cons_succ, List.set_cons_zero]; rfl) ?_
        | refine pl_skip (i := 0) rfl rfl HS.out rfl (by simp only [List.setIfInBounds_toArray, List.set_cons_succ, List.set_cons_zero]; rfl) ?_
      first
        | refine pl_get (i := 1) rfl rfl HS.out rfl (fun u hu => by (try dsimp only at hu); go_simp; rfl) (by simp only [List.setIfInBounds_toArray, List.set_cons_succ, List.set_cons_zero]; rfl) ?_
        | refine pl_skip (i := 1) rfl rfl HS.out rfl (by simp only [List.setIfInBounds_toArray, List.set_cons_succ, List.set_cons_zero]; rfl) ?_
      first
        | refine pl_get (i := 2) rfl rfl HS.out rfl (fun u hu => by (try dsimp only at hu); go_simp; rfl) (by simp only [List.setIfInBounds_toArray, List.set_cons_succ, List.set_cons_zero]; rfl) ?_
        | refine pl_skip (i := 2) rfl rfl HS.out rfl (by simp only [List.setIfInBounds_toArray, List.set_cons_succ, List.set_cons_zero]; rfl) ?_
      first
        | refine pl_get (i := 3) rfl rfl HS.out rfl (fun u hu => by (try dsimp only at hu); go_simp; rfl) (by simp only [List.setIfInBounds_toArray, List.set_cons_succ, List.set_cons_zero]; rfl) ?_
        | refine pl_skip (i := 3) rfl rfl HS.out rfl (by simp only [List.setIfInBounds_toArray, List.set_cons_succ, List.set_cons_zero]; rfl) ?_
      first
        | refine pl_get (i := 4) rfl rfl HS.out rfl (fun u hu => by (try dsimp only at hu); go_simp; rfl) (by simp only [List.setIfInBounds_toArray, List.set_cons_succ, List.set_cons_zero]; rfl) ?_
        | refine pl_skip (i := 4) rfl rfl HS.out rfl (by simp only [List.setIfInBounds_toArray, List.set_cons_succ, List.set_cons_zero]; rfl) ?_
      first
        | refine pl_get (i := 5) rfl rfl HS.out rfl (fun u hu => by (try dsimp only at hu); go_simp; rfl) (by simp only [List.setIfInBounds_toArray, List.set_cons_succ, List.set_cons_zero]; rfl) ?_
        | refine pl_skip (i := 5) rfl rfl HS.out rfl (by simp only [List.setIfInBounds_toArray, List.set_cons_succ, List.set_cons_zero]; rfl) ?_
      first
        | refine pl_get (i := 6) rfl rfl HS.out rfl (fun u hu => by (try dsimp only at hu); go_simp; rfl) (by simp only [List.setIfInBounds_toArray, List.set_cons_succ, List.set_cons_zero]; rfl) ?_
        | refine pl_skip (i := 6) rfl rfl HS.out rfl (by simp only [List.setIfInBounds_toArray, List.set_cons_succ, List.set_cons_zero]; rfl) ?_
      first
        | refine pl_get (i := 7) rfl rfl HS.out rfl (fun u hu => by (try dsimp only at hu); go_simp; rfl) (by simp only [List.setIfInBounds_toArray, List.set_cons_succ, List.set_cons_zero]; rfl) ?_
        | refine pl_skip (i := 7) rfl rfl HS.out rfl (by simp only [List.setIfInBounds_toArray, List.set_cons_succ, List.set_cons_zero]; rfl) ?_
      first
        | refine pl_get (i := 8) rfl rfl HS.out rfl (fun u hu => by (try dsimp only at hu); go_simp; rfl) (by simp only [List.setIfInBounds_toArray, List.set_cons_succ, List.set_cons_zero]; rfl) ?_
        | refine pl_skip (i := 8) rfl rfl HS.out rfl (by simp only [List.setIfInBounds_toArray, List.set_cons_succ, List.set_cons_zero]; rfl) ?_
      first
        | refine pl_get (i := 9) rfl rfl HS.out rfl (fun u hu => by (try dsimp only at hu); go_simp; rfl) (by simp only [List.setIfInBounds_toArray, List.set_cons_succ, List.set_cons_zero]; rfl) ?_
        | refine pl_skip (i := 9) rfl rfl HS.out rfl (by simp only [List.setIfInBounds_toArray, List.set_cons_succ, List.set_cons_zero]; rfl) ?_
      first
        | refine pl_get (i := 10) rfl rfl HS.out rfl (fun u hu => by (try dsimp only at hu); go_simp; rfl) (by simp only [List.setIfInBounds_toArray, List.set_cons_succ, List.set_cons_zero]; rfl) ?_
        | refine pl_skip (i := 10) rfl rfl HS.out rfl (by simp only [List.setIfInBounds_toArray, List.set_cons_succ, List.set_cons_zero]; rfl) ?_
      first
        | refine pl_get (i := 11) rfl rfl HS.out rfl (fun u hu => by (try dsimp only at hu); go_simp; rfl) (by simp only [List.setIfInBounds_toArray, List.set_cons_succ, List.set_cons_zero]; rfl) ?_
        | refine pl_skip (i := 11) rfl rfl HS.out rfl (by simp only [List.setIfInBounds_toArray, List.set_cons_succ, List.set_cons_zero]; rfl) ?_
      first
        | refine pl_get (i := 12) rfl rfl HS.out rfl (fun u hu => by (try dsimp only at hu); go_simp; rfl) (by simp only [List.setIfInBounds_toArray, List.set_cons_succ, List.set_cons_zero]; rfl) ?_
        | refine pl_skip (i := 12) rfl rfl HS.out rfl (by simp only [List.setIfInBounds_toArray, List.set_cons_succ, List.set_cons_zero]; rfl) ?_
      first
        | refine pl_get (i := 13) rfl rfl HS.out rfl (fun u hu => by (try dsimp only at hu); go_simp; rfl) (by simp only [List.setIfInBounds_toArray, List.set_cons_succ, List.set_cons_zero]; rfl) ?_
        | refine pl_skip (i := 13) rfl rfl HS.out rfl (by simp only [List.setIfInBounds_toArray, List.set_cons_succ, List.set_cons_zero]; rfl) ?_
      first
        | refine pl_get (i := 14) rfl rfl HS.out rfl (fun u hu => by (try dsimp only at hu); go_simp; rfl) (by simp only [List.setIfInBounds_toArray, List.set_cons_succ, List.set_cons_zero]; rfl) ?_
        | refine pl_skip (i := 14) rfl rfl HS.out rfl (by simp only [List.setIfInBounds_toArray, List.set_cons_succ, List.set_cons_zero]; rfl) ?_
      first
        | refine pl_get (i := 15) rfl rfl HS.out rfl (fun u hu => by (try dsimp only at hu); go_simp; rfl) (by simp only [List.setIfInBounds_toArray, List.set_cons_succ, List.set_cons_zero]; rfl) ?_
        | refine pl_skip (i := 15) rfl rfl HS.out rfl (by simp only [List.setIfInBounds_toArray, List.set_cons_succ, List.set_cons_zero]; rfl) ?_
      refine pl_one (i := 16) rfl ?_
      go_wp2_with ((go_at_call 11; refine (note_any tb mb p y0 y1 y2 y3 L _ (HD.out.T.keep kd (fun h => h) (fun h => h)) hne1 hwf (by unfold maxLen; omega) ok Hok.out L' HL'.out).mono ?_; rintro _ w5 ⟨rfl, T5, k5⟩))
      have K5 := HD.out.hk.trans kd
      have D5 : D2 w w5 tb mb ub vb p L' [] := ⟨T5, (HD.out.U.keep kd (fun h => h) (fun h => h)).keep k5 (fun e => hne3 e.symm) (fun e => hne4 e.symm), K5.trans' k5 hone.out, hnl1⟩
      have HS5 := Lib.hid (show w5.cell? ⟨b, off + k * 4, none⟩ = some (.int .i64 y0) ∧ w5.cell? ⟨b, off + k * 4 + 1, none⟩ = some (.int .i64 y1) ∧ w5.cell? ⟨b, off + k * 4 + 2, none⟩ = some (.int .i64 y2) ∧ w5.cell? ⟨b, off + k * 4 + 3, none⟩ = some (.int .i64 y3) from ⟨k5.some HS.out.1 (fun e => by have e' : b = mb := e; omega), k5.some HS.out.2.1 (fun e => by have e' : b = mb := e; omega), k5.some HS.out.2.2.1 (fun e => by have e' : b = mb := e; omega), k5.some HS.out.2.2.2 (fun e => by have e' : b = mb := e; omega)⟩)
      refine pl_next (fun _ => HS5.out) ?_
      refine pl_done ?_
      have HD5 := Lib.hid D5
      clear D5 T5 k5 K5 kd HS HS5 hbw
      go_wp2_with fail
      go_roundw
      case rel => exact ⟨k + 1, L', hlt, h100, by go_num, HD5.out, by omega⟩
      case measure => simp [intOf]; omega
    · have hout : (¬ k < n1 ∧ decide ((k : Int) < (n1 : Int)) = false) ∨ (k < n1 ∧ ¬ k < 100 ∧ decide ((k : Int) < 100) = false) := by
        by_cases h1 : k < n1
        · right
          have : ¬ k < 100 := fun h => hgo ⟨h1, h⟩
          exact ⟨h1, this, by simp; omega⟩
        · left
          exact ⟨h1, by simp; omega⟩
      clear hgo
      obtain ⟨ok, hok⟩ : ∃ v, decide ((lookF p [] x0 x1).1 = 1) = v := ⟨_, rfl⟩
      obtain ⟨U', hU'⟩ : ∃ v, noteF p [] x0 x1 0 0 = v := ⟨_, rfl⟩
      obtain ⟨M, hM⟩ : ∃ M, allOf L = M := ⟨_, rfl⟩
      have hML : absD M = L := by rw [← hM, absD_allOf (keys3 D.T.map)]
      have hMr : RiseD M := by rw [← hM]; exact allOf_rising (keys3 D.T.map) (D.T.map.rising law3).1
      have hMl : M.length = L.length := by rw [← hM]; simp [allOf]
      have hMwf : ∀ x ∈ M, (Lit.int .i64 x.1).wf = true := by
        intro x hx
        rw [← hM] at hx
        exact keys3wf D.T.map ((allOf_mem (keys3 D.T.map) x).1 hx)
      obtain ⟨⟨v0, v1, v2⟩, hv⟩ : ∃ v, lookF p L x0 x1 = v := ⟨_, rfl⟩
      have hlim := D.lim
      have hgt : decide (p < (L.length : Int)) = false := decide_eq_false (by omega)
      have hmax : (if p < 0 then 0 else p) = p := by rw [if_neg (by omega)]
      have Hok := Lib.hid hok
      have HU' := Lib.hid hU'
      have HM := Lib.hid hM
      have HML := Lib.hid hML
      have HMr := Lib.hid hMr
      have HMl := Lib.hid hMl
      have HMwf := Lib.hid hMwf
      have Hv := Lib.hid hv
      have Hmax := Lib.hid hmax
      have HD := Lib.hid D
      clear hok hU' hM hML hMr hMl hMwf hv D hmax
      rcases hout with ⟨h1, hd⟩ | ⟨h1, h2, hd⟩
      all_goals
        go_wp2_with fail
        refine (note_any ub vb p x0 x1 0 0 [] _ HD.out.U hne2 hx (by simp [maxLen]) ok Hok.out U' HU'.out).mono ?_
        rintro _ w5 ⟨rfl, U5, k5⟩
        have T5 := HD.out.T.keep k5 hne5 hne4
        have K5 := HD.out.hk.trans' k5 hone2.out
        clear k5
        go_wp2_with fail
        refine (all_any tb mb p L _ T5 (by omega) M HM.out).mono ?_
        rintro _ w6 ⟨a6, c6, rfl, O6, k6⟩
        have T6 := T5.keep k6 (fun h => h) (fun h => h)
        have U6 := U5.keep k6 (fun h => h) (fun h => h)
        have K6 := K5.trans k6
        have hmb6 : ∀ b off, a6 = some ⟨b, off, none⟩ → b ≠ vb := by
          intro b off e
          subst e
          exact O6.ne_map U6.map b rfl
        have S6 := Own.SeA O6 HMwf.out
        clear k6 T5 U5 K5
        go_wp2_with fail
        refine (load_yes ub vb p U' a6 M.length c6 (zS M) _ U6 hne2 S6 hmb6 (by have := HMl.out; omega) p Hmax.out (by have := HMl.out; omega) (zS_rise HMr.out)).mono ?_
        rintro _ w7 ⟨rfl, U7, k7⟩
        rw [seL_zS, HML.out] at U7
        have T7 := T6.keep k7 hne5 hne4
        have K7 := K6.trans' k7 hone2.out
        clear k7 T6 U6 K6 S6 O6 hmb6
        go_wp2_with fail
        refine (len_any tb mb p L _ T7).mono ?_
        rintro _ w7 ⟨rfl, rfl⟩
        go_wp2_with fail
        refine (look_any tb mb p x0 x1 L _ T7 hx (v0, v1, v2) Hv.out).mono ?_
        rintro _ w8 ⟨rfl, k8⟩
        have T8 := T7.keep k8 (fun h => h) (fun h => h)
        have U8 := U7.keep k8 (fun h => h) (fun h => h)
        have K8 := K7.trans k8
        clear k8 T7 U7 K7
        go_wp2_with fail
        have b8 := blk_new w8 (.cells #[.int .i64 v1, .int .i64 v2] 29)
        have k9 : Keep NoB w8 (w8.alloc (.cells #[.int .i64 v1, .int .i64 v2] 29)) := (Keep.refl NoB w8).alloc _
        generalize World.alloc w8 (.cells #[.int .i64 v1, .int .i64 v2] 29) = w9 at b8 k9 ⊢
        generalize w8.heap.size = pb at b8 ⊢
        refine (look_any ub vb p x0 x1 L _ (U8.keep k9 (fun h => h) (fun h => h)) hx (v0, v1, v2) Hv.out).mono ?_
        rintro _ w10 ⟨rfl, k10⟩
        have K9 := k9.trans k10
        have b10 := blk_keep b8 k10 (fun h => h)
        clear k9 k10 b8
        have g0 := blk_cell b10 0
        have g1 := blk_cell b10 1
        have gl := blk_lt b10
        simp at g0 g1
        go_wp2_with fail
        have k11 : Keep NoB w10 (w10.alloc (.cells #[.int .i64 v1, .int .i64 v2] 29)) := (Keep.refl NoB w10).alloc _
        have K11 := K9.trans k11
        generalize World.alloc w10 (.cells #[.int .i64 v1, .int .i64 v2] 29) = w11 at K11 ⊢
        have T11 := T8.keep K11 (fun h => h) (fun h => h)
        have U11 := U8.keep K11 (fun h => h) (fun h => h)
        have K12 := K8.trans K11
        clear K9 k11 K11 b10 T8 U8 K8 g0 g1 gl
        refine (all_any tb mb p L _ T11 (by omega) M HM.out).mono ?_
        rintro _ w12 ⟨a12, d12, rfl, O12, k12⟩
        go_wp2_with fail
        refine (all_any ub vb p L _ (U11.keep k12 (fun h => h) (fun h => h)) (by omega) M HM.out).mono ?_
        rintro _ w13 ⟨a13, d13, rfl, O13, k13⟩
        have O12' := O12.keep k13 (fun _ _ h => h)
        go_wp2_with fail
        refine (same_any _ _ a12 a13 d12 d13 M _ O12' O13 (by have := HMl.out; omega)).mono ?_
        rintro _ w14 ⟨rfl, k14⟩
        have K14 := ((K12.trans k12).trans k13).trans k14
        go_wp2
        go_ret
        exact ⟨rfl, K14.below (fun _ _ h => h)⟩
end Go.Proofs.Ytlglnpokfmdpaaa
