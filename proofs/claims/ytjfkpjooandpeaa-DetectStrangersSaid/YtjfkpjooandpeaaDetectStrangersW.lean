/- The walk of DetectStrangers. -/
import Derived.Test.YtjfkpjooandpeaaDetectQ
namespace Go.Proofs.Ytjfkpjooandpeaa
open Go Go.RowKit Go.Maps Go.Sort

theorem wrap_u8 (b : UInt8) : wrap64 (b.toNat : Int) = b.toNat := by
  have := b.toNat_lt
  unfold wrap64
  omega

set_option maxRecDepth 100000 in
set_option maxHeartbeats 2000000 in
theorem strangers_walk (a0 : Option Addr) (len0 cap0 : Nat) (z : Nat → ByteArray) (who : ByteArray) (b0 b1 : UInt8) (w : World) (h0 : IsStr w a0 len0 z) (hwho : who.size ≤ maxLen) :
    Calls Try.prog 6 #[.slice a0 len0 cap0, .string who, .agg #[.int .u8 b0.toNat, .int .u8 b1.toNat]] w fun e w' => e = .returned (.bool true) ∧ Below w.heap.size w w' := by
  have hmax : len0 ≤ maxLen := h0.1
  unfold maxLen at hmax
  have H0 := Lib.hid h0
  clear h0
  have bA := blk_new w (.cells #[.int .u8 b0.toNat, .int .u8 b1.toNat] 44)
  have c0 : (w.alloc (.cells #[.int .u8 b0.toNat, .int .u8 b1.toNat] 44)).cell? ⟨w.heap.size, 0, none⟩ = some (.int .u8 b0.toNat) := blk_cell bA 0
  have c1 : (w.alloc (.cells #[.int .u8 b0.toNat, .int .u8 b1.toNat] 44)).cell? ⟨w.heap.size, 1, none⟩ = some (.int .u8 b1.toNat) := blk_cell bA 1
  have K0 : Keep NoB w (w.alloc (.cells #[.int .u8 b0.toNat, .int .u8 b1.toNat] 44)) := (Keep.refl NoB w).alloc _
  obtain ⟨p0, hp0⟩ : ∃ p0 : Int, (wrap64 (b0.toNat : Int)).tmod 10 = p0 := ⟨_, rfl⟩
  obtain ⟨n2, hn2⟩ : ∃ n2 : Nat, (wrap64 (b1.toNat : Int)).tmod 20 = (n2 : Int) := ⟨b1.toNat % 20, by rw [wrap_u8]; rfl⟩
  obtain ⟨p, hp⟩ : ∃ p : Int, max p0 1 = p := ⟨_, rfl⟩
  have hp1 : 0 ≤ p ∧ p ≤ 100 := by
    have h1 : p0 = ((b0.toNat % 10 : Nat) : Int) := by rw [← hp0, wrap_u8]; rfl
    omega
  have hn20 : n2 ≤ 20 := by
    have h1 : (n2 : Int) = ((b1.toNat % 20 : Nat) : Int) := by rw [← hn2, wrap_u8]; rfl
    omega
  have Hp := Lib.hid hp
  have Hp1 := Lib.hid hp1
  have HA := Lib.hid bA
  clear bA hp hp1
  go_enter Try.func6, Try.ntmps6
  go_wp2_with fail
  go_quiet (fail)
  clear c0 c1
  go_wp2_with fail
  refine (awake_any _).mono ?_
  rintro _ w1 ⟨rfl, k1⟩
  have K1 : Keep NoB w w1 := (K0.drewN nq).trans k1
  clear K0 k1
  by_cases h50 : len0 ≤ 50
  case neg =>
    have hd : decide ((50 : Int) < (len0 : Int)) = true := by simp; omega
    go_wp2
    go_ret
    exact ⟨rfl, K1.below (fun _ _ h => h)⟩
  case pos =>
  have hd : decide ((50 : Int) < (len0 : Int)) = false := by simp; omega
  go_wp2_with fail
  go_loopw [26] (fun i wr => ∃ j : Nat, j ≤ len0 ∧ i = .int .i64 j ∧ (∀ i, i < j → z i ≠ who) ∧ Keep NoB w wr) (fun i _ => len0 - (intOf i).toNat)
  case atStart => exact ⟨0, Nat.zero_le _, rfl, fun i hi => by omega, K1⟩
  case round =>
    obtain ⟨j, hj, rfl, hno, kj⟩ := hrel
    have Hno := Lib.hid hno
    clear hno
    by_cases hlt : j < len0
    · obtain ⟨b, off, rfl, hb, hc⟩ := (H0.out.keep kj).cell hlt
      generalize hzj : z j = x at hc
      have Hzj := Lib.hid hzj
      clear hzj
      by_cases hx : x = who
      · subst hx
        have hd1 : (x.toList == x.toList) = true := by simp
        go_wp2
        go_ret
        exact ⟨rfl, kj.below (fun _ _ h => h)⟩
      · have hd1 := tx_ne hx
        go_wp2_with fail
        go_roundw
        case rel =>
          refine ⟨j + 1, hlt, by go_num, fun i hi => ?_, kj⟩
          by_cases e : i = j
          · subst e
            rw [Hzj.out]
            exact hx
          · exact Hno.out i (by omega)
        case measure => simp [intOf]; omega
    · have hd1 : decide ((j : Int) < (len0 : Int)) = false := by simp; omega
      have hjl : j = len0 := by omega
      have Hjl := Lib.hid hjl
      clear hjl
      go_wp2_with fail
      refine (new_any p0 p _ _ _ z _ (H0.out.keep kj) (by omega) Hp.out).mono ?_
      rintro _ w2 ⟨rfl, T1, k2, hl2⟩
      go_wp2_with fail
      refine (new_any p0 p _ _ _ z _ (H0.out.keep (kj.trans k2)) (by omega) Hp.out).mono ?_
      rintro _ w3 ⟨rfl, T2, k3, _⟩
      have b1 := blk_lt T1.blk
      have T1 := T1.keep k3 (fun h => h) (fun h => h)
      have K3 := (kj.trans k2).trans k3
      have s0 := kj.size
      have s2 := k2.size
      have hgn : lget (newL p z len0) (kT who) = none := newL_none (by rw [← Hjl.out]; exact Hno.out)
      have hvl := vals_new Hp1.out.1 z len0
      generalize newL p z len0 = L0 at T1 T2 hgn hvl hl2
      clear k2 k3
      obtain ⟨tb1, htb1⟩ : ∃ t, wr.heap.size + 1 = t := ⟨_, rfl⟩
      obtain ⟨mb1, hmb1⟩ : ∃ t, wr.heap.size = t := ⟨_, rfl⟩
      obtain ⟨tb2, htb2⟩ : ∃ t, w2.heap.size + 1 = t := ⟨_, rfl⟩
      obtain ⟨mb2, hmb2⟩ : ∃ t, w2.heap.size = t := ⟨_, rfl⟩
      rw [htb1, htb2]
      rw [htb1, hmb1] at T1
      rw [htb2, hmb2] at T2
      have hfr : w.heap.size ≤ tb1 ∧ w.heap.size ≤ mb1 ∧ w.heap.size ≤ tb2 ∧ w.heap.size ≤ mb2 := by omega
      have hne : tb2 ≠ tb1 ∧ tb2 ≠ mb1 ∧ mb2 ≠ tb1 ∧ mb2 ≠ mb1 := by omega
      have Hfr := Lib.hid hfr
      have Hne := Lib.hid hne
      have Hgn := Lib.hid hgn
      have Hvl := Lib.hid hvl
      clear htb1 hmb1 htb2 hmb2 hfr hne s0 s2 b1 hgn hvl
      go_wp2_with fail
      go_loopw [12] (fun i wx => ∃ (k : Nat) (L : DL) (ch : Int), k ≤ n2 ∧ i = .int .i64 k ∧ Tab wx tb1 mb1 p ch L ∧ Tab wx tb2 mb2 p ch L ∧ lget L (kT who) = none ∧ Vals p L ∧ L.length ≤ 50 ∧ 0 ≤ ch ∧ ch ≤ 50 * k ∧ Keep NoB w wx) (fun i _ => n2 - (intOf i).toNat)
      case atStart => exact ⟨0, L0, 0, Nat.zero_le _, rfl, T1, T2, Hgn.out, Hvl.out, by omega, by omega, by omega, K3⟩
      case round =>
        rename_i wx
        obtain ⟨k, L, ch, hk, rfl, T1, T2, hg, hv, hl, hc0, hc1, kx⟩ := hrel
        have Hg := Lib.hid hg
        have Hv := Lib.hid hv
        clear hg hv
        by_cases hlt2 : k < n2
        · have hd2 : decide ((k : Int) < (n2 : Int)) = true := by simp; omega
          have hv1 : ∀ q ∈ L, 0 ≤ q.2 ∧ q.2 ≤ 9223372036854775807 := fun q hq => by have := Hv.out q hq; have := Hp1.out; omega
          have Hv1 := Lib.hid hv1
          have hdl := dies_len L
          obtain ⟨M, hM⟩ : ∃ M, keysOf (diesL L) = M := ⟨_, rfl⟩
          rw [hM] at hdl
          have HM := Lib.hid hM
          obtain ⟨V, hV⟩ : ∃ V, keysOf (liveL (tickL L)) = V := ⟨_, rfl⟩
          have HV := Lib.hid hV
          have hfx := Lib.hid (show ∀ i, i < w.heap.size → TwoB tb1 mb1 i ∨ TwoB tb2 mb2 i → NoB i from fun i hi e => by have := Hfr.out; rcases e with (e | e) | (e | e) <;> omega)
          clear hM hV hv1
          go_wp2_with fail
          refine (beat_no tb1 mb1 p ch L who _ T1 hwho Hg.out).mono ?_
          rintro _ wx ⟨rfl, rfl⟩
          go_wp2_with fail
          refine (alive_any tb1 mb1 p ch L who _ T1 hwho false (alive_none Hg.out)).mono ?_
          rintro _ wx ⟨rfl, rfl⟩
          go_wp2_with fail
          refine (tick_any tb1 mb1 p ch L _ T1 (by omega) Hv1.out hc0 (by omega) M HM.out).mono ?_
          rintro _ w4 ⟨a4, c4, rfl, _, T14, k4⟩
          have T24 := T2.keep k4 (fun e => by have := Hne.out; rcases e with e | e <;> omega) (fun e => by have := Hne.out; rcases e with e | e <;> omega)
          have K4 : Keep NoB w w4 := kx.trans' k4 (fun i hi e => hfx.out i hi (Or.inl e))
          clear k4
          go_wp2_with fail
          refine (tick_any tb2 mb2 p ch L _ T24 (by omega) Hv1.out hc0 (by omega) M HM.out).mono ?_
          rintro _ w5 ⟨a5, c5, rfl, _, T25, k5⟩
          have T15 := T14.keep k5 (fun e => by have := Hne.out; rcases e with e | e <;> omega) (fun e => by have := Hne.out; rcases e with e | e <;> omega)
          have K5 : Keep NoB w w5 := K4.trans' k5 (fun i hi e => hfx.out i hi (Or.inr e))
          clear k5
          have htl := tick_len L
          go_wp2_with fail
          refine (live_any tb1 mb1 p (ch + M.length) (tickL L) _ T15 (by omega) V HV.out).mono ?_
          rintro _ w6 ⟨a6, c6, rfl, _, k6⟩
          go_wp2_with fail
          refine (live_any tb2 mb2 p (ch + M.length) (tickL L) _ (T25.keep k6 (fun h => h) (fun h => h)) (by omega) V HV.out).mono ?_
          rintro _ w7 ⟨a7, c7, rfl, _, k7⟩
          have K67 := k6.trans k7
          clear k6 k7
          go_wp2_with fail
          go_roundw
          case rel => exact ⟨k + 1, tickL L, ch + M.length, hlt2, by go_num, T15.keep K67 (fun h => h) (fun h => h), T25.keep K67 (fun h => h) (fun h => h), by rw [tick_get, Hg.out]; rfl, vals_tick Hv.out, by omega, by omega, by omega, K5.trans K67⟩
          case measure => simp [intOf]; omega
        · have hd2 : decide ((k : Int) < (n2 : Int)) = false := by simp; omega
          go_wp2_with fail
          refine (changes_any tb1 mb1 p ch L _ T1).mono ?_
          rintro _ wx ⟨rfl, rfl⟩
          go_wp2_with fail
          refine (changes_any tb2 mb2 p ch L _ T2).mono ?_
          rintro _ wx ⟨rfl, rfl⟩
          go_wp2
          go_ret
          exact ⟨by simp, kx.below (fun _ _ h => h)⟩
end Go.Proofs.Ytjfkpjooandpeaa
