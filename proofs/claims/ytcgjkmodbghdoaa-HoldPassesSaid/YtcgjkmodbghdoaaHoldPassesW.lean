/- The walk of HoldPasses. -/
import Derived.Test.YtcgjkmodbghdoaaHoldK
import Derived.Test.YtcgjkmodbghdoaaHoldMostW
namespace Go.Proofs.Ytcgjkmodbghdoaa
open Go Go.RowKit Go.Maps





/-- What a Pass leaves of the entries is above it. -/
theorem passL_get {L : List (Lit × Int)} (ha : Apart L) (i : Int) (s : ByteArray) (h : s ∈ keysOf (passL L i)) (hk : KeysS (passL L i)) (hap : Apart (passL L i)) : ∀ fl, allowsB fl (passL L i) (kS s) i = false := by
  intro fl
  have h1 := (keysOf_mem hk hap s).1 h
  obtain ⟨v, hv⟩ := Option.isSome_iff_exists.1 h1
  have hm := mem_of_lget hv
  have hlt : i < v := by simpa using (List.mem_filter.1 hm).2
  unfold allowsB
  have hv' : lget (passL L i) (kS s) = some v := hv
  rw [hv']
  simp
  omega

theorem allows_zero {L : List (Lit × Int)} (s : ByteArray) (h : L = []) : allowsB 0 L (kS s) 0 = true := by
  subst h
  rfl

set_option maxRecDepth 100000 in
set_option maxHeartbeats 2000000 in
theorem passes_walk (limit : Int) (a0 : Option Addr) (len0 cap0 : Nat) (z : Nat → HSt) (index : Int) (w : World) (h0 : IsStones w a0 len0 z) :
    Calls Try.prog 6 #[.int .i64 limit, .slice a0 len0 cap0, .int .i64 index] w fun e w' => e = .returned (.bool true) ∧ Below w.heap.size w w' := by
  obtain ⟨hmax, hok, hrow⟩ := h0
  unfold maxLen at hmax
  go_enter Try.func6, Try.ntmps6
  go_wp2_with fail
  refine (awake_any _).mono ?_
  rintro _ w1 ⟨rfl, hk1⟩
  go_wp2_with fail
  refine (new_any limit _).mono ?_
  rintro _ w2 ⟨rfl, T2, hk2, hs2⟩
  have hlo : w.heap.size ≤ w1.heap.size := hk1.size
  have hk : Keep NoB w w2 := hk1.trans hk2
  generalize htb : w1.heap.size + 1 = tb at *
  generalize hmb : w1.heap.size = mb at *
  have hlo2 : w.heap.size ≤ tb := by omega
  clear hk1 hk2 hs2 htb hmb
  go_wp2_with fail
  go_loopw [8] (fun i wr => ∃ (k : Nat) (L : List (Lit × Int)) (floor most : Int), k ≤ len0 ∧ k ≤ 200 ∧ i = .int .i64 k ∧ L.length ≤ k ∧ Tab wr tb mb limit floor L ∧ Noted limit floor L most ∧ Keep NoB w wr) (fun i _ => len0 - (intOf i).toNat)
  case atStart => exact ⟨0, [], 0, 0, Nat.zero_le _, Nat.zero_le _, rfl, Nat.le_refl _, T2, noted_start limit, hk⟩
  case round =>
    obtain ⟨k, L, floor, most, hk0, hk200, rfl, hL, T, hN, hk⟩ := hrel
    by_cases hgo : k < len0 ∧ k < 200
    · obtain ⟨hlt, h200⟩ := hgo
      have h200i : decide ((k : Int) < 200) = true := by simp; omega
      rcases hrow with h | ⟨b, off, rfl, hb, hc⟩
      · omega
      obtain ⟨hcw1, hcw2⟩ := hc k hlt
      obtain ⟨hs, hnw⟩ := hok k hlt
      clear hc
      generalize hzk : z k = x at hcw1 hcw2 hs hnw
      clear hzk
      obtain ⟨s, n⟩ := x
      simp only at hcw1 hcw2 hs hnw
      have hb0 : b < wr.heap.size := Nat.lt_of_lt_of_le hb hk.size
      have l01 : wr.cell? ⟨b, off + k * 2, none⟩ = some (.string s) := (hk.cell (p := ⟨b, off + k * 2, none⟩) hb (fun h => h)).trans hcw1
      have l02 : wr.cell? ⟨b, off + k * 2 + 1, none⟩ = some (.int .i64 n) := (hk.cell (p := ⟨b, off + k * 2 + 1, none⟩) hb (fun h => h)).trans hcw2
      clear hcw1 hcw2
      go_wp2_with fail
      refine wp_region_tail 11 (by kernel_rfl) (by kernel_rfl) ?_
      simp only [List.take_succ_cons, List.take_zero, List.drop_succ_cons, List.drop_zero]
      repeat still_step
      refine wpStill_nil ?_
      go_wp2_with fail
      refine (note_any tb mb limit floor L s n _ (T.keep (S := NoB) (by (repeat (with_reducible first | exact Keep.refl _ _ | assumption | refine Keep.alloc ?_ _ | refine Keep.drewN ?_ _ | refine Keep.drew ?_ | refine Keep.setCell ?_ (by first | (left; simp; done) | (left; simp; omega) | (right; simp [NoB, OneB, TwoB]; done)) _))) (fun h => h) (fun h => h)) hs (by unfold maxLen; omega) _ _ rfl rfl).mono ?_
      rintro _ w3 ⟨rfl, T3, hk3⟩
      have hN3 := noted_step hN (kS s) n (T3.map.apart law9)
      have hl3 := note_len limit L hN.apart (kS s) n
      generalize noteFl limit floor L (kS s) n = floor' at T3 hN3
      generalize noteL limit L (kS s) n = L' at T3 hN3 hl3
      have K3 : Keep NoB w w3 := hk.drew.trans' hk3 (fun i hi e => by rcases e with e | e <;> omega)
      go_wp2_with fail
      go_roundw
      case rel => exact ⟨k + 1, L', floor', _, hlt, h200, by go_num, by omega, T3, hN3, K3⟩
      case measure => simp [intOf]; omega
    · have hout : (¬ k < len0 ∧ decide ((k : Int) < (len0 : Int)) = false) ∨ (k < len0 ∧ ¬ k < 200 ∧ decide ((k : Int) < 200) = false) := by
        by_cases h1 : k < len0
        · right
          have : ¬ k < 200 := fun h => hgo ⟨h1, h⟩
          exact ⟨h1, this, by simp; omega⟩
        · left
          exact ⟨h1, by simp; omega⟩
      clear hgo
      have hL200 : L.length ≤ 200 := by omega
      obtain ⟨fl', hfl⟩ : ∃ fl' : Int, (floor ≤ index ∧ fl' = 0) ∨ (index < floor ∧ fl' = floor) := by
        by_cases h : floor ≤ index
        · exact ⟨0, Or.inl ⟨h, rfl⟩⟩
        · exact ⟨floor, Or.inr ⟨by omega, rfl⟩⟩
      have HN := Lib.hid hN
      have hle : (passL L index).length ≤ L.length := List.length_filter_le _ _
      rcases hout with ⟨h1, hd⟩ | ⟨h1, h2, hd⟩
      all_goals
        go_wp2_with fail
        refine (len_any tb mb limit floor L _ T).mono ?_
        rintro _ _ ⟨rfl, rfl⟩
        go_wp2_with fail
        obtain ⟨M, hM⟩ : ∃ M, keysOf (passL L index) = M := ⟨_, rfl⟩
        have hMl : M.length = (passL L index).length := by rw [← hM, keysOf_length]
        refine (pass_any tb mb limit floor L index _ T (by unfold maxLen; omega) fl' hfl).mono ?_
        rw [← hMl]
        rintro _ w3 ⟨rfl, T3, hk3⟩
        have K3 : Keep NoB w w3 := hk.trans' hk3 (fun i hi e => by rcases e with e | e <;> omega)
        have hks := keysS Try.underlying9 T3.map
        have hap := T3.map.apart law9
        have hri := (T3.map.rising law9).1
        have hrise : M.Pairwise (fun x y => bs x < bs y) := by rw [← hM]; exact keysOf_rising hks hri
        have hno : ∀ s ∈ M, ∀ fl, allowsB fl (passL L index) (kS s) index = false := by rw [← hM]; intro s hs; exact passL_get HN.out.apart index s hs hks hap
        have hsz : ∀ s ∈ M, s.size ≤ maxLen := by
          rw [← hM]
          intro s hs
          obtain ⟨q, hq, rfl⟩ := List.mem_map.1 hs
          obtain ⟨s', e, h⟩ := hks q hq
          rw [e, txt_kT]
          exact h
        have hnil : M.length = 0 → passL L index = [] := by intro h; exact List.eq_nil_of_length_eq_zero (by omega)
        have HM := Lib.hid hM
        have HMl := Lib.hid hMl
        have Hrise := Lib.hid hrise
        have Hno := Lib.hid hno
        have Hsz := Lib.hid hsz
        have Hnil := Lib.hid hnil
        have Hfl := Lib.hid hfl
        clear hM hMl hrise hno hsz hnil hks hap hri hfl hk3
        generalize hP : passL L index = P at *
        clear hP
        go_wp2_with fail
        refine (keys_any tb mb limit fl' P _ T3 (by omega) M HM.out).mono ?_
        rintro _ w4 ⟨a, c, rfl, O4, k4⟩
        have T4 := T3.keep k4 (fun h => h) (fun h => h)
        have K4 : Keep NoB w w4 := K3.trans k4
        have hB : w.heap.size ≤ w3.heap.size := K3.size
        have O5 := O4.mono hB
        clear T3 K3 k4 O4 hB
        have hll : ∀ w', Tab w' tb mb limit fl' P → Calls Try.prog 15 #[.pointer (some ⟨tb, 0, none⟩)] w' fun e w'' => e = .returned (.int .i64 M.length) ∧ w'' = w' := by rw [HMl.out]; exact fun w' T' => len_any tb mb limit fl' P w' T'
        go_wp2_with fail
        refine (hll _ T4).mono ?_
        rintro _ w4 ⟨rfl, rfl⟩
        go_wp2_with fail
        refine (hll _ T4).mono ?_
        rintro _ w4 ⟨rfl, rfl⟩
        go_wp2_with fail
        refine (floor_any tb mb limit fl' P _ T4).mono ?_
        rintro _ w4 ⟨rfl, rfl⟩
        by_cases hz : fl' = 0
        · have hz0 : decide (fl' = 0) = true := by simpa using hz
          go_wp2_with fail
          have hM5 : M.length ≤ 100000 := by have := HMl.out; omega
          go_loopw [73] (fun i wr => ∃ j : Nat, j ≤ M.length ∧ i = .int .i64 j ∧ Keep NoB w4 wr) (fun i _ => M.length - (intOf i).toNat)
          case atStart => exact ⟨0, Nat.zero_le _, rfl, Keep.refl _ _⟩
          case round =>
            obtain ⟨j, hj, rfl, kj⟩ := hrel
            by_cases hjl : j < M.length
            · obtain ⟨x, hx⟩ : ∃ x, M[j]? = some x := ⟨_, List.getElem?_eq_getElem hjl⟩
              have O6 := O5.keep kj (fun g hg h => h)
              have T6 := T4.keep kj (fun h => h) (fun h => h)
              obtain ⟨g, e, hg1, hg2, hc1, _⟩ := O6.cell1 cS_len hx rfl
              cases e
              have hxm : x ∈ M := List.mem_of_getElem? hx
              have hxs := Lib.hid (Hsz.out x hxm)
              have hxa := Lib.hid (Hno.out x hxm fl')
              rcases j with _ | i
              · clear hx
                go_wp2_with fail
                go_quiet ((go_at_call 13; exact Calls.quiet_of_same (allows_any tb mb limit fl' P x index _ (T6.keep (S := NoB) (by (repeat (with_reducible first | exact Keep.refl _ _ | assumption | refine Keep.alloc ?_ _ | refine Keep.drewN ?_ _ | refine Keep.drew ?_ | refine Keep.setCell ?_ (by first | (left; simp; done) | (left; simp; omega) | (right; simp [NoB, OneB, TwoB]; done)) _))) (fun h => h) (fun h => h)) hxs.out false hxa.out)))
                go_wp2_with fail
                go_roundw
                case rel => exact ⟨1, by omega, rfl, kj.drewN _⟩
                case measure => simp [intOf]; omega
              · obtain ⟨y, hy⟩ : ∃ y, M[i]? = some y := ⟨_, List.getElem?_eq_getElem (by omega)⟩
                obtain ⟨g', e', _, _, hc2, _⟩ := O6.cell1 cS_len hy rfl
                cases e'
                have hlt := tx_lt (by
                  have h1 := List.pairwise_iff_getElem.1 Hrise.out i (i + 1) (by omega) hjl (by omega)
                  rw [List.getElem?_eq_getElem (show i < M.length by omega)] at hy
                  rw [List.getElem?_eq_getElem hjl] at hx
                  rw [Option.some.inj hy, Option.some.inj hx] at h1
                  exact h1)
                have hp : decide ((0 : Int) < ((i + 1 : Nat) : Int)) = true := by simp <;> omega
                have hil : i < M.length := by omega
                clear hx hy
                go_wp2_with fail
                go_quiet ((go_at_call 13; exact Calls.quiet_of_same (allows_any tb mb limit fl' P x index _ (T6.keep (S := NoB) (by (repeat (with_reducible first | exact Keep.refl _ _ | assumption | refine Keep.alloc ?_ _ | refine Keep.drewN ?_ _ | refine Keep.drew ?_ | refine Keep.setCell ?_ (by first | (left; simp; done) | (left; simp; omega) | (right; simp [NoB, OneB, TwoB]; done)) _))) (fun h => h) (fun h => h)) hxs.out false hxa.out)))
                go_wp2_with fail
                go_roundw
                case rel => exact ⟨i + 1 + 1, by omega, by go_num, kj.drewN _⟩
                case measure => simp [intOf] <;> omega
            · have hd' : decide ((j : Int) < (M.length : Int)) = false := by simp; omega
              go_wp2_with fail
              have Hz := Lib.hid hz
              clear hz
              go_loopw [13] (fun i w8 => ∃ m : Nat, m ≤ len0 ∧ m ≤ 200 ∧ i = .int .i64 m ∧ Keep NoB wr w8) (fun i _ => len0 - (intOf i).toNat)
              case atStart => exact ⟨0, Nat.zero_le _, Nat.zero_le _, rfl, Keep.refl _ _⟩
              case round =>
                rename_i w8
                obtain ⟨m, hm0, hm200, rfl, k8⟩ := hrel
                have T8 := T4.keep (kj.trans k8) (fun h => h) (fun h => h)
                by_cases hgo : m < len0 ∧ m < 200
                · obtain ⟨hlt, h200⟩ := hgo
                  have h200i : decide ((m : Int) < 200) = true := by simp; omega
                  by_cases hMz : M.length = 0
                  · have hMd : decide ((M.length : Int) = 0) = true := decide_eq_true (by omega)
                    have hMd2 : ((M.length : Int) == 0) = true := by rw [beq_iff_eq]; omega
                    have hPz := Lib.hid (Hnil.out hMz)
                    clear hMz
                    go_wp2_with fail
                    refine (floor_any tb mb limit fl' P _ T8).mono ?_
                    rintro _ w8 ⟨rfl, rfl⟩
                    first
                    | have hzt : decide (fl' = 0) = false := by simpa using Hz.out
                      go_wp2_with fail
                      clear hMd hMd2
                      go_roundw
                      case rel => exact ⟨m + 1, hlt, h200, by go_num, k8⟩
                      case measure => simp [intOf]; omega
                    | rcases hrow with h | ⟨b, off, rfl, hb, hc⟩
                      · omega
                      obtain ⟨hcw1, _⟩ := hc m hlt
                      obtain ⟨hs, _⟩ := hok m hlt
                      clear hc
                      generalize hzk : z m = x at hcw1 hs
                      clear hzk
                      obtain ⟨s, n⟩ := x
                      simp only at hcw1 hs
                      have K8 := K4.trans (kj.trans k8)
                      have hb0 : b < w8.heap.size := Nat.lt_of_lt_of_le hb K8.size
                      have l01 : w8.cell? ⟨b, off + m * 2, none⟩ = some (.string s) := (K8.cell (p := ⟨b, off + m * 2, none⟩) hb (fun h => h)).trans hcw1
                      have ha0 : allowsB fl' P (kS s) 0 = true := by rw [Hz.out]; exact allows_zero s hPz.out
                      have Ha0 := Lib.hid ha0
                      clear hcw1 ha0
                      go_wp2_with fail
                      refine (allows_any tb mb limit fl' P s 0 _ T8 hs true Ha0.out).mono ?_
                      rintro _ w8 ⟨rfl, rfl⟩
                      go_wp2_with fail
                      clear hMd hMd2
                      go_roundw
                      case rel => exact ⟨m + 1, hlt, h200, by go_num, k8⟩
                      case measure => simp [intOf]; omega
                  · have hMd : decide ((M.length : Int) = 0) = false := decide_eq_false (by omega)
                    have hMd2 : ((M.length : Int) == 0) = false := by rw [beq_eq_false_iff_ne]; omega
                    have hMe : M ≠ [] := by intro e; rw [e] at hMz; exact hMz rfl
                    clear hMz
                    go_wp2_with fail
                    clear hMd hMd2 hMe
                    go_roundw
                    case rel => exact ⟨m + 1, hlt, h200, by go_num, k8⟩
                    case measure => simp [intOf]; omega
                · have hout : (¬ m < len0 ∧ decide ((m : Int) < (len0 : Int)) = false) ∨ (m < len0 ∧ ¬ m < 200 ∧ decide ((m : Int) < 200) = false) := by
                    by_cases h1 : m < len0
                    · right
                      have : ¬ m < 200 := fun h => hgo ⟨h1, h⟩
                      exact ⟨h1, this, by simp; omega⟩
                    · left
                      exact ⟨h1, by simp; omega⟩
                  clear hgo
                  have K8 := K4.trans (kj.trans k8)
                  rcases hout with ⟨h1, hd⟩ | ⟨h1, h2, hd⟩
                  all_goals
                    go_wp2
                    go_ret
                    exact ⟨rfl, K8.below (fun _ _ h => h)⟩
        · have hz0 : decide (fl' = 0) = false := by simpa using hz
          have hz1 : decide (fl' ≤ index) = false := by rcases Hfl.out with ⟨_, h⟩ | ⟨h1, h⟩ <;> (simp; omega)
          go_wp2_with fail
          refine (floor_any tb mb limit fl' P _ T4).mono ?_
          rintro _ w4 ⟨rfl, rfl⟩
          go_wp2_with fail
          have hM5 : M.length ≤ 100000 := by have := HMl.out; omega
          go_loopw [73] (fun i wr => ∃ j : Nat, j ≤ M.length ∧ i = .int .i64 j ∧ Keep NoB w4 wr) (fun i _ => M.length - (intOf i).toNat)
          case atStart => exact ⟨0, Nat.zero_le _, rfl, Keep.refl _ _⟩
          case round =>
            obtain ⟨j, hj, rfl, kj⟩ := hrel
            by_cases hjl : j < M.length
            · obtain ⟨x, hx⟩ : ∃ x, M[j]? = some x := ⟨_, List.getElem?_eq_getElem hjl⟩
              have O6 := O5.keep kj (fun g hg h => h)
              have T6 := T4.keep kj (fun h => h) (fun h => h)
              obtain ⟨g, e, hg1, hg2, hc1, _⟩ := O6.cell1 cS_len hx rfl
              cases e
              have hxm : x ∈ M := List.mem_of_getElem? hx
              have hxs := Lib.hid (Hsz.out x hxm)
              have hxa := Lib.hid (Hno.out x hxm fl')
              rcases j with _ | i
              · clear hx
                go_wp2_with fail
                go_quiet ((go_at_call 13; exact Calls.quiet_of_same (allows_any tb mb limit fl' P x index _ (T6.keep (S := NoB) (by (repeat (with_reducible first | exact Keep.refl _ _ | assumption | refine Keep.alloc ?_ _ | refine Keep.drewN ?_ _ | refine Keep.drew ?_ | refine Keep.setCell ?_ (by first | (left; simp; done) | (left; simp; omega) | (right; simp [NoB, OneB, TwoB]; done)) _))) (fun h => h) (fun h => h)) hxs.out false hxa.out)))
                go_wp2_with fail
                go_roundw
                case rel => exact ⟨1, by omega, rfl, kj.drewN _⟩
                case measure => simp [intOf]; omega
              · obtain ⟨y, hy⟩ : ∃ y, M[i]? = some y := ⟨_, List.getElem?_eq_getElem (by omega)⟩
                obtain ⟨g', e', _, _, hc2, _⟩ := O6.cell1 cS_len hy rfl
                cases e'
                have hlt := tx_lt (by
                  have h1 := List.pairwise_iff_getElem.1 Hrise.out i (i + 1) (by omega) hjl (by omega)
                  rw [List.getElem?_eq_getElem (show i < M.length by omega)] at hy
                  rw [List.getElem?_eq_getElem hjl] at hx
                  rw [Option.some.inj hy, Option.some.inj hx] at h1
                  exact h1)
                have hp : decide ((0 : Int) < ((i + 1 : Nat) : Int)) = true := by simp <;> omega
                have hil : i < M.length := by omega
                clear hx hy
                go_wp2_with fail
                go_quiet ((go_at_call 13; exact Calls.quiet_of_same (allows_any tb mb limit fl' P x index _ (T6.keep (S := NoB) (by (repeat (with_reducible first | exact Keep.refl _ _ | assumption | refine Keep.alloc ?_ _ | refine Keep.drewN ?_ _ | refine Keep.drew ?_ | refine Keep.setCell ?_ (by first | (left; simp; done) | (left; simp; omega) | (right; simp [NoB, OneB, TwoB]; done)) _))) (fun h => h) (fun h => h)) hxs.out false hxa.out)))
                go_wp2_with fail
                go_roundw
                case rel => exact ⟨i + 1 + 1, by omega, by go_num, kj.drewN _⟩
                case measure => simp [intOf] <;> omega
            · have hd' : decide ((j : Int) < (M.length : Int)) = false := by simp; omega
              go_wp2_with fail
              have Hz := Lib.hid hz
              clear hz
              go_loopw [13] (fun i w8 => ∃ m : Nat, m ≤ len0 ∧ m ≤ 200 ∧ i = .int .i64 m ∧ Keep NoB wr w8) (fun i _ => len0 - (intOf i).toNat)
              case atStart => exact ⟨0, Nat.zero_le _, Nat.zero_le _, rfl, Keep.refl _ _⟩
              case round =>
                rename_i w8
                obtain ⟨m, hm0, hm200, rfl, k8⟩ := hrel
                have T8 := T4.keep (kj.trans k8) (fun h => h) (fun h => h)
                by_cases hgo : m < len0 ∧ m < 200
                · obtain ⟨hlt, h200⟩ := hgo
                  have h200i : decide ((m : Int) < 200) = true := by simp; omega
                  by_cases hMz : M.length = 0
                  · have hMd : decide ((M.length : Int) = 0) = true := decide_eq_true (by omega)
                    have hMd2 : ((M.length : Int) == 0) = true := by rw [beq_iff_eq]; omega
                    have hPz := Lib.hid (Hnil.out hMz)
                    clear hMz
                    go_wp2_with fail
                    refine (floor_any tb mb limit fl' P _ T8).mono ?_
                    rintro _ w8 ⟨rfl, rfl⟩
                    first
                    | have hzt : decide (fl' = 0) = false := by simpa using Hz.out
                      go_wp2_with fail
                      clear hMd hMd2
                      go_roundw
                      case rel => exact ⟨m + 1, hlt, h200, by go_num, k8⟩
                      case measure => simp [intOf]; omega
                    | rcases hrow with h | ⟨b, off, rfl, hb, hc⟩
                      · omega
                      obtain ⟨hcw1, _⟩ := hc m hlt
                      obtain ⟨hs, _⟩ := hok m hlt
                      clear hc
                      generalize hzk : z m = x at hcw1 hs
                      clear hzk
                      obtain ⟨s, n⟩ := x
                      simp only at hcw1 hs
                      have K8 := K4.trans (kj.trans k8)
                      have hb0 : b < w8.heap.size := Nat.lt_of_lt_of_le hb K8.size
                      have l01 : w8.cell? ⟨b, off + m * 2, none⟩ = some (.string s) := (K8.cell (p := ⟨b, off + m * 2, none⟩) hb (fun h => h)).trans hcw1
                      have ha0 : allowsB fl' P (kS s) 0 = true := by rw [Hz.out]; exact allows_zero s hPz.out
                      have Ha0 := Lib.hid ha0
                      clear hcw1 ha0
                      go_wp2_with fail
                      refine (allows_any tb mb limit fl' P s 0 _ T8 hs true Ha0.out).mono ?_
                      rintro _ w8 ⟨rfl, rfl⟩
                      go_wp2_with fail
                      clear hMd hMd2
                      go_roundw
                      case rel => exact ⟨m + 1, hlt, h200, by go_num, k8⟩
                      case measure => simp [intOf]; omega
                  · have hMd : decide ((M.length : Int) = 0) = false := decide_eq_false (by omega)
                    have hMd2 : ((M.length : Int) == 0) = false := by rw [beq_eq_false_iff_ne]; omega
                    have hMe : M ≠ [] := by intro e; rw [e] at hMz; exact hMz rfl
                    clear hMz
                    go_wp2_with fail
                    clear hMd hMd2 hMe
                    go_roundw
                    case rel => exact ⟨m + 1, hlt, h200, by go_num, k8⟩
                    case measure => simp [intOf]; omega
                · have hout : (¬ m < len0 ∧ decide ((m : Int) < (len0 : Int)) = false) ∨ (m < len0 ∧ ¬ m < 200 ∧ decide ((m : Int) < 200) = false) := by
                    by_cases h1 : m < len0
                    · right
                      have : ¬ m < 200 := fun h => hgo ⟨h1, h⟩
                      exact ⟨h1, this, by simp; omega⟩
                    · left
                      exact ⟨h1, by simp; omega⟩
                  clear hgo
                  have K8 := K4.trans (kj.trans k8)
                  rcases hout with ⟨h1, hd⟩ | ⟨h1, h2, hd⟩
                  all_goals
                    go_wp2
                    go_ret
                    exact ⟨rfl, K8.below (fun _ _ h => h)⟩
end Go.Proofs.Ytcgjkmodbghdoaa
