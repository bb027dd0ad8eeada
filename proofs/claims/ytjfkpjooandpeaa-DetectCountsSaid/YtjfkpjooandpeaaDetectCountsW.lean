/- The walk of DetectCounts. -/
import Derived.Test.YtjfkpjooandpeaaDetectQ2
namespace Go.Proofs.Ytjfkpjooandpeaa
open Go Go.RowKit Go.Maps Go.Sort

def hasT (x : ByteArray) (N : List ByteArray) : Bool := N.any (fun y => decide (y = x))
theorem hasT_iff {x : ByteArray} {N : List ByteArray} : hasT x N = true ↔ x ∈ N := by
  unfold hasT
  rw [List.any_eq_true]
  constructor
  · rintro ⟨y, hy, h⟩
    have : y = x := by simpa using h
    rw [← this]
    exact hy
  · exact fun h => ⟨x, h, by simp⟩
theorem hasT_true {x : ByteArray} {N : List ByteArray} (h : x ∈ N) : hasT x N = true := hasT_iff.2 h
theorem hasT_false {x : ByteArray} {N : List ByteArray} (h : x ∉ N) : hasT x N = false := by
  cases e : hasT x N with
  | true => exact absurd (hasT_iff.1 e) h
  | false => rfl



set_option maxRecDepth 100000 in
set_option maxHeartbeats 4000000 in
theorem counts_walk (patience : Int) (hpw : patience ≤ 9223372036854775807) (a1 : Option Addr) (len1 cap1 : Nat) (z1 : Nat → ByteArray) (a2 : Option Addr) (len2 cap2 : Nat) (z2 : Nat → ByteArray) (w : World) (h1 : IsStr w a1 len1 z1) (h2 : IsStr w a2 len2 z2) :
    Calls Try.prog 5 #[.int .i64 patience, .slice a1 len1 cap1, .slice a2 len2 cap2] w fun e w' => e = .returned (.bool true) ∧ Below w.heap.size w w' := by
  have hmax1 : len1 ≤ maxLen := h1.1
  have hmax2 : len2 ≤ maxLen := h2.1
  unfold maxLen at hmax1 hmax2
  have H1 := Lib.hid h1
  have H2 := Lib.hid h2
  clear h1 h2
  obtain ⟨p, hp⟩ : ∃ p : Int, max patience 1 = p := ⟨_, rfl⟩
  have hp1 : 0 ≤ p ∧ p ≤ 9223372036854775807 := by omega
  have Hp := Lib.hid hp
  have Hp1 := Lib.hid hp1
  clear hp hp1
  go_enter Try.func5, Try.ntmps5
  go_wp2_with fail
  refine (awake_any _).mono ?_
  rintro _ w1 ⟨rfl, k1⟩
  by_cases h50 : len1 ≤ 50
  case neg =>
    have hd : decide ((50 : Int) < (len1 : Int)) = true := by simp; omega
    go_wp2
    go_ret
    exact ⟨rfl, k1.below (fun _ _ h => h)⟩
  case pos =>
  have hd : decide ((50 : Int) < (len1 : Int)) = false := by simp; omega
  go_wp2_with fail
  refine (new_any patience p a1 len1 cap1 z1 _ (H1.out.keep k1) (by omega) Hp.out).mono ?_
  rintro _ w2 ⟨rfl, T0, k2, hl0⟩
  have hv0 := vals_new Hp1.out.1 z1 len1
  have s1 := k1.size
  have K2 := k1.trans k2
  obtain ⟨tb, htb⟩ : ∃ t, w1.heap.size + 1 = t := ⟨_, rfl⟩
  obtain ⟨mb, hmb⟩ : ∃ t, w1.heap.size = t := ⟨_, rfl⟩
  rw [htb]
  rw [htb, hmb] at T0
  have hfr1 : w.heap.size ≤ tb := by omega
  have hfr2 : w.heap.size ≤ mb := by omega
  have hfx := Lib.hid (show ∀ i, i < w.heap.size → TwoB tb mb i → NoB i from fun i hi e => by rcases e with e | e <;> omega)
  generalize newL p z1 len1 = L0 at T0 hl0 hv0
  clear htb hmb s1 k1 k2
  have Hv0 := Lib.hid hv0
  clear hv0
  go_wp2_with fail
  go_loopw [8, 9] (fun c i wr => ∃ (k : Nat) (L : DL) (ch : Int), k ≤ len2 ∧ k ≤ 200 ∧ i = .int .i64 k ∧ c = .int .i64 ch ∧ Tab wr tb mb p ch L ∧ Vals p L ∧ L.length ≤ 50 ∧ 0 ≤ ch ∧ ch ≤ 50 * k ∧ Keep NoB w wr) (fun _ i _ => len2 - (intOf i).toNat)
  case atStart => exact ⟨0, L0, 0, Nat.zero_le _, Nat.zero_le _, rfl, rfl, T0, Hv0.out, by omega, by omega, by omega, K2⟩
  case round =>
    obtain ⟨k, L, ch, hk, hk200, rfl, rfl, T, hv, hl, hc0, hc1, kr⟩ := hrel
    have Hv := Lib.hid hv
    clear hv
    by_cases hgo : k < len2 ∧ k < 200
    · obtain ⟨hlt, h200⟩ := hgo
      have h200i : decide ((k : Int) < 200) = true := by simp; omega
      have hI2 := H2.out.keep kr
      obtain ⟨b, off, rfl, hb, hc⟩ := hI2.cell hlt
      have hzs := hI2.2.1 k hlt
      generalize z2 k = s at hc hzs
      clear hI2
      by_cases hs0 : s = ⟨#[]⟩
      · subst hs0
        have he1 : ((⟨#[]⟩ : ByteArray).toList == []) = true := by rw [ByteArray.toList_eq]; rfl
        have he2 : ((⟨#[]⟩ : ByteArray).toList).isEmpty = true := by rw [ByteArray.toList_eq]; rfl
        have hdl := dies_len L
        obtain ⟨M, hM⟩ : ∃ M, keysOf (diesL L) = M := ⟨_, rfl⟩
        rw [hM] at hdl
        have HM := Lib.hid hM
        have hv1 : ∀ q ∈ L, 0 ≤ q.2 ∧ q.2 ≤ 9223372036854775807 := fun q hq => by have := Hv.out q hq; have := Hp1.out; omega
        have Hv1 := Lib.hid hv1
        clear hM hv1
        go_wp2_with fail
        refine (tick_any tb mb p ch L _ T (by omega) Hv1.out hc0 (by omega) M HM.out).mono ?_
        rintro _ w5 ⟨a4, c4, rfl, _, T5, k5⟩
        have K5 : Keep NoB w w5 := kr.trans' k5 hfx.out
        obtain ⟨ch5, hch5⟩ : ∃ c : Int, ch + M.length = c := ⟨_, rfl⟩
        rw [hch5] at T5
        have hc50 : 0 ≤ ch5 := by omega
        have hc51 : ch5 ≤ 50 * (k + 1) := by omega
        have hl5 : (tickL L).length ≤ 50 := by rw [tick_len]; exact hl
        have Hv5 := Lib.hid (vals_tick Hv.out)
        generalize tickL L = L5 at T5 hl5 Hv5
        clear k5 he2
        obtain ⟨V, hV⟩ : ∃ V, keysOf (liveL L5) = V := ⟨_, rfl⟩
        have hks5 := keysS Try.underlying9 T5.map
        have hVr : V.Pairwise (fun x y => bs x < bs y) := by rw [← hV]; exact live_rise hks5 (T5.map.rising law9).1
        have hVm : ∀ s, s ∈ V ↔ aliveB L5 (kT s) = true := by rw [← hV]; exact live_mem hks5 (T5.map.apart law9)
        have hVs : ∀ s ∈ V, s.size ≤ maxLen := by rw [← hV]; exact keys_size (filter_keysS hks5 _)
        have hVl : V.length ≤ 50 := by have := live_len L5; rw [hV] at this; omega
        have HV := Lib.hid hV
        have HVr := Lib.hid hVr
        have HVm := Lib.hid hVm
        have HVs := Lib.hid hVs
        clear hV hVr hVm hVs hks5
        go_wp2_with fail
        refine (live_any tb mb p ch5 L5 _ T5 (by omega) V HV.out).mono ?_
        rintro _ w6 ⟨a6, c6, rfl, O6, k6⟩
        have T6 := T5.keep k6 (fun h => h) (fun h => h)
        have K6 := K5.trans k6
        clear T5 K5 k6
        go_wp2_with fail
        refine (changes_any tb mb p ch5 L5 _ T6).mono ?_
        rintro _ w6 ⟨rfl, rfl⟩
        go_wp2_with fail
        go_loopw [59] (fun i wx => ∃ j : Nat, j ≤ V.length ∧ i = .int .i64 j ∧ Keep NoB w6 wx) (fun i _ => V.length - (intOf i).toNat)
        case atStart => exact ⟨0, Nat.zero_le _, rfl, Keep.refl _ _⟩
        case round =>
          obtain ⟨j, hj, rfl, kj⟩ := hrel
          have Tx := T6.keep kj (fun h => h) (fun h => h)
          have Ox := O6.keep kj (fun g hg h => h)
          by_cases hjl : j < V.length
          · obtain ⟨x, hx⟩ : ∃ x, V[j]? = some x := ⟨_, List.getElem?_eq_getElem hjl⟩
            obtain ⟨g, e, _, _, hc1, _⟩ := Ox.cell1 cS_len hx rfl
            cases e
            have hxm : x ∈ V := List.mem_of_getElem? hx
            have hxs := Lib.hid (HVs.out x hxm)
            have hxa := Lib.hid ((HVm.out x).1 hxm)
            rcases j with _ | i
            · clear hx
              go_wp2_with fail
              go_quiet ((go_at_call 10; exact Calls.quiet_of_same (alive_any tb mb p ch5 L5 x _ (Tx.keep (S := NoB) (by (repeat (with_reducible first | exact Keep.refl _ _ | assumption | refine Keep.alloc ?_ _ | refine Keep.drewN ?_ _ | refine Keep.drew ?_ | refine Keep.setCell ?_ (by first | (left; simp; done) | (left; simp; omega) | (right; simp [NoB, OneB, TwoB]; done)) _))) (fun h => h) (fun h => h)) hxs.out true hxa.out)))
              go_wp2_with fail
              go_roundw
              case rel => exact ⟨1, by omega, rfl, kj.drewN _⟩
              case measure => simp [intOf] <;> omega
            · obtain ⟨y, hy⟩ : ∃ y, V[i]? = some y := ⟨_, List.getElem?_eq_getElem (by omega)⟩
              obtain ⟨g', e', _, _, hc2, _⟩ := Ox.cell1 cS_len hy rfl
              cases e'
              have hlt := tx_lt (by
                have h1 := List.pairwise_iff_getElem.1 HVr.out i (i + 1) (by omega) hjl (by omega)
                rw [List.getElem?_eq_getElem (show i < V.length by omega)] at hy
                rw [List.getElem?_eq_getElem hjl] at hx
                rw [Option.some.inj hy, Option.some.inj hx] at h1
                exact h1)
              have hp : decide ((0 : Int) < ((i + 1 : Nat) : Int)) = true := by simp <;> omega
              have hil : i < V.length := by omega
              clear hx hy
              go_wp2_with fail
              go_quiet ((go_at_call 10; exact Calls.quiet_of_same (alive_any tb mb p ch5 L5 x _ (Tx.keep (S := NoB) (by (repeat (with_reducible first | exact Keep.refl _ _ | assumption | refine Keep.alloc ?_ _ | refine Keep.drewN ?_ _ | refine Keep.drew ?_ | refine Keep.setCell ?_ (by first | (left; simp; done) | (left; simp; omega) | (right; simp [NoB, OneB, TwoB]; done)) _))) (fun h => h) (fun h => h)) hxs.out true hxa.out)))
              go_wp2_with fail
              go_roundw
              case rel => exact ⟨i + 1 + 1, by omega, by go_num, kj.drewN _⟩
              case measure => simp [intOf] <;> omega
          · have hd' : decide ((j : Int) < (V.length : Int)) = false := by simp; omega
            go_wp2_with fail
            go_loopw [88] (fun i wy => ∃ m : Nat, m ≤ len1 ∧ i = .int .i64 m ∧ Keep NoB w6 wy) (fun i _ => len1 - (intOf i).toNat)
            case atStart => exact ⟨0, Nat.zero_le _, rfl, kj⟩
            case round =>
              obtain ⟨m, hm, rfl, ky⟩ := hrel
              by_cases hml : m < len1
              · have Ky := K6.trans ky
                have hI1 := H1.out.keep Ky
                obtain ⟨b, off, hab, hb, hc⟩ := hI1.cell hml
                have hzs := hI1.2.1 m hml
                generalize z1 m = x at hc hzs
                have Hab := Lib.hid hab
                clear hab hI1
                go_wp2_with fail
                go_loopw [13, 93] (fun q i wz => ∃ j : Nat, j ≤ V.length ∧ i = .int .i64 j ∧ q = .bool (hasT x (V.take j)) ∧ Keep NoB wr wz) (fun _ i _ => V.length - (intOf i).toNat)
                case atStart => exact ⟨0, Nat.zero_le _, rfl, rfl, Keep.refl _ _⟩
                case round =>
                  obtain ⟨j, hj, rfl, rfl, kz⟩ := hrel
                  have Kz := ky.trans kz
                  by_cases hjl : j < V.length
                  · obtain ⟨y, hy⟩ : ∃ y, V[j]? = some y := ⟨_, List.getElem?_eq_getElem hjl⟩
                    have htk : x ∈ V.take (j + 1) ↔ x ∈ V.take j ∨ y = x := by
                      rw [List.getElem?_eq_getElem hjl] at hy
                      rw [List.take_succ_eq_append_getElem hjl, List.mem_append, List.mem_singleton, Option.some.inj hy]
                      exact ⟨fun h => h.imp id Eq.symm, fun h => h.imp id Eq.symm⟩
                    have Htk := Lib.hid htk
                    clear htk
                    by_cases hin : x ∈ V.take j
                    · have hq : hasT x (V.take j) = true := hasT_true hin
                      have Hin := Lib.hid hin
                      rw [hq]
                      clear hin hq hy
                      go_wp2_with fail
                      go_quiet (fail)
                      go_wp2_with fail
                      go_roundw
                      case rel => exact ⟨j + 1, hjl, by go_num, by rw [hasT_true (Htk.out.2 (Or.inl Hin.out))], kz.drewN _⟩
                      case measure => simp [intOf]; omega
                    · have hq : hasT x (V.take j) = false := hasT_false hin
                      have Hin := Lib.hid hin
                      rw [hq]
                      obtain ⟨g, e, _, _, hc2, _⟩ := (O6.keep Kz (fun g hg h => h)).cell1 cS_len hy rfl
                      cases e
                      have hcz : wr.cell? ⟨b, off + m, none⟩ = some (.string x) := (kz.cell (p := ⟨b, off + m, none⟩) hb (fun h => h)).trans hc
                      have hab := Hab.out
                      subst hab
                      clear hin hq hy
                      by_cases hyx : y = x
                      · subst hyx
                        have hq1 : (y.toList == y.toList) = true := by simp
                        go_wp2_with fail
                        go_quiet (fail)
                        go_wp2_with fail
                        go_roundw
                        case rel => exact ⟨j + 1, hjl, by go_num, by rw [hasT_true (Htk.out.2 (Or.inr (by simp)))], kz.drewN _⟩
                        case measure => simp [intOf]; omega
                      · have hq1 := tx_ne hyx
                        have Hyx := Lib.hid hyx
                        clear hyx
                        go_wp2_with fail
                        go_quiet (fail)
                        go_wp2_with fail
                        go_roundw
                        case rel => exact ⟨j + 1, hjl, by go_num, by rw [hasT_false (fun h => (Htk.out.1 h).elim Hin.out Hyx.out)], kz.drewN _⟩
                        case measure => simp [intOf]; omega
                  · have hd2 : decide ((j : Int) < (V.length : Int)) = false := by simp; omega
                    have hall : V.take j = V := List.take_of_length_le (by omega)
                    rw [hall]
                    obtain ⟨q, hq⟩ : ∃ q, hasT x V = q := ⟨_, rfl⟩
                    have hqa : aliveB L5 (kT x) = q := by
                      rw [← hq, Bool.eq_iff_iff, hasT_iff]
                      exact (HVm.out x).symm
                    have Hqa := Lib.hid hqa
                    rw [hq]
                    have hcz : wr.cell? ⟨b, off + m, none⟩ = some (.string x) := (kz.cell (p := ⟨b, off + m, none⟩) hb (fun h => h)).trans hc
                    have hab := Hab.out
                    subst hab
                    clear hq hqa hall hc
                    go_wp2_with fail
                    refine (alive_any tb mb p ch5 L5 x _ (T6.keep Kz (fun h => h) (fun h => h)) hzs q Hqa.out).mono ?_
                    rintro _ wz ⟨rfl, rfl⟩
                    cases q
                    all_goals
                      go_wp2_with fail
                      go_roundw
                      case rel => exact ⟨m + 1, hml, by go_num, Kz⟩
                      case measure => simp [intOf]; omega
              · have hd3 : decide ((m : Int) < (len1 : Int)) = false := by simp; omega
                go_wp2_with fail
                go_roundw
                case rel => exact ⟨k + 1, L5, ch5, hlt, h200, by go_num, rfl, T6.keep ky (fun h => h) (fun h => h), Hv5.out, hl5, hc50, by omega, K6.trans ky⟩
                case measure => simp [intOf]; omega
      · have he1 : (s.toList == []) = false := by have := tx_ne hs0; rw [ByteArray.toList_eq (⟨#[]⟩ : ByteArray)] at this; exact this
        have he2 : s.toList.isEmpty = false := by rw [← he1]; cases s.toList <;> rfl
        obtain ⟨r, ch5, hr⟩ := beat_case L (kT s) ch
        have Hr := Lib.hid hr
        have hc50 : 0 ≤ ch5 := by omega
        have hc51 : ch5 ≤ 50 * (k + 1) := by omega
        clear hr
        go_wp2_with fail
        refine (beat_any tb mb p ch L s _ T hzs (by unfold maxLen; omega) hc0 (by omega) r ch5 Hr.out _ rfl).mono ?_
        rintro _ w5 ⟨rfl, T5, k5⟩
        have K5 : Keep NoB w w5 := kr.trans' k5 hfx.out
        have hl5 : (beatL p L (kT s)).length ≤ 50 := by rw [beatL_len (T.map.apart law9)]; exact hl
        have Hv5 := Lib.hid (vals_beat Hp1.out.1 Hv.out (kT s))
        generalize beatL p L (kT s) = L5 at T5 hl5 Hv5
        clear k5
        rcases Hr.out with ⟨_, rfl, rfl⟩ | ⟨_, rfl, rfl⟩
        · obtain ⟨ch5, hch5⟩ : ∃ c : Int, ch + 1 = c := ⟨_, rfl⟩
          rw [hch5] at T5 hc50 hc51
          obtain ⟨V, hV⟩ : ∃ V, keysOf (liveL L5) = V := ⟨_, rfl⟩
          have hks5 := keysS Try.underlying9 T5.map
          have hVr : V.Pairwise (fun x y => bs x < bs y) := by rw [← hV]; exact live_rise hks5 (T5.map.rising law9).1
          have hVm : ∀ s, s ∈ V ↔ aliveB L5 (kT s) = true := by rw [← hV]; exact live_mem hks5 (T5.map.apart law9)
          have hVs : ∀ s ∈ V, s.size ≤ maxLen := by rw [← hV]; exact keys_size (filter_keysS hks5 _)
          have hVl : V.length ≤ 50 := by have := live_len L5; rw [hV] at this; omega
          have HV := Lib.hid hV
          have HVr := Lib.hid hVr
          have HVm := Lib.hid hVm
          have HVs := Lib.hid hVs
          clear hV hVr hVm hVs hks5
          go_wp2_with fail
          refine (live_any tb mb p ch5 L5 _ T5 (by omega) V HV.out).mono ?_
          rintro _ w6 ⟨a6, c6, rfl, O6, k6⟩
          have T6 := T5.keep k6 (fun h => h) (fun h => h)
          have K6 := K5.trans k6
          clear T5 K5 k6
          go_wp2_with fail
          refine (changes_any tb mb p ch5 L5 _ T6).mono ?_
          rintro _ w6 ⟨rfl, rfl⟩
          go_wp2_with fail
          go_loopw [59] (fun i wx => ∃ j : Nat, j ≤ V.length ∧ i = .int .i64 j ∧ Keep NoB w6 wx) (fun i _ => V.length - (intOf i).toNat)
          case atStart => exact ⟨0, Nat.zero_le _, rfl, Keep.refl _ _⟩
          case round =>
            obtain ⟨j, hj, rfl, kj⟩ := hrel
            have Tx := T6.keep kj (fun h => h) (fun h => h)
            have Ox := O6.keep kj (fun g hg h => h)
            by_cases hjl : j < V.length
            · obtain ⟨x, hx⟩ : ∃ x, V[j]? = some x := ⟨_, List.getElem?_eq_getElem hjl⟩
              obtain ⟨g, e, _, _, hc1, _⟩ := Ox.cell1 cS_len hx rfl
              cases e
              have hxm : x ∈ V := List.mem_of_getElem? hx
              have hxs := Lib.hid (HVs.out x hxm)
              have hxa := Lib.hid ((HVm.out x).1 hxm)
              rcases j with _ | i
              · clear hx
                go_wp2_with fail
                go_quiet ((go_at_call 10; exact Calls.quiet_of_same (alive_any tb mb p ch5 L5 x _ (Tx.keep (S := NoB) (by (repeat (with_reducible first | exact Keep.refl _ _ | assumption | refine Keep.alloc ?_ _ | refine Keep.drewN ?_ _ | refine Keep.drew ?_ | refine Keep.setCell ?_ (by first | (left; simp; done) | (left; simp; omega) | (right; simp [NoB, OneB, TwoB]; done)) _))) (fun h => h) (fun h => h)) hxs.out true hxa.out)))
                go_wp2_with fail
                go_roundw
                case rel => exact ⟨1, by omega, rfl, kj.drewN _⟩
                case measure => simp [intOf] <;> omega
              · obtain ⟨y, hy⟩ : ∃ y, V[i]? = some y := ⟨_, List.getElem?_eq_getElem (by omega)⟩
                obtain ⟨g', e', _, _, hc2, _⟩ := Ox.cell1 cS_len hy rfl
                cases e'
                have hlt := tx_lt (by
                  have h1 := List.pairwise_iff_getElem.1 HVr.out i (i + 1) (by omega) hjl (by omega)
                  rw [List.getElem?_eq_getElem (show i < V.length by omega)] at hy
                  rw [List.getElem?_eq_getElem hjl] at hx
                  rw [Option.some.inj hy, Option.some.inj hx] at h1
                  exact h1)
                have hp : decide ((0 : Int) < ((i + 1 : Nat) : Int)) = true := by simp <;> omega
                have hil : i < V.length := by omega
                clear hx hy
                go_wp2_with fail
                go_quiet ((go_at_call 10; exact Calls.quiet_of_same (alive_any tb mb p ch5 L5 x _ (Tx.keep (S := NoB) (by (repeat (with_reducible first | exact Keep.refl _ _ | assumption | refine Keep.alloc ?_ _ | refine Keep.drewN ?_ _ | refine Keep.drew ?_ | refine Keep.setCell ?_ (by first | (left; simp; done) | (left; simp; omega) | (right; simp [NoB, OneB, TwoB]; done)) _))) (fun h => h) (fun h => h)) hxs.out true hxa.out)))
                go_wp2_with fail
                go_roundw
                case rel => exact ⟨i + 1 + 1, by omega, by go_num, kj.drewN _⟩
                case measure => simp [intOf] <;> omega
            · have hd' : decide ((j : Int) < (V.length : Int)) = false := by simp; omega
              go_wp2_with fail
              go_loopw [88] (fun i wy => ∃ m : Nat, m ≤ len1 ∧ i = .int .i64 m ∧ Keep NoB w6 wy) (fun i _ => len1 - (intOf i).toNat)
              case atStart => exact ⟨0, Nat.zero_le _, rfl, kj⟩
              case round =>
                obtain ⟨m, hm, rfl, ky⟩ := hrel
                by_cases hml : m < len1
                · have Ky := K6.trans ky
                  have hI1 := H1.out.keep Ky
                  obtain ⟨b, off, hab, hb, hc⟩ := hI1.cell hml
                  have hzs := hI1.2.1 m hml
                  generalize z1 m = x at hc hzs
                  have Hab := Lib.hid hab
                  clear hab hI1
                  go_wp2_with fail
                  go_loopw [13, 93] (fun q i wz => ∃ j : Nat, j ≤ V.length ∧ i = .int .i64 j ∧ q = .bool (hasT x (V.take j)) ∧ Keep NoB wr wz) (fun _ i _ => V.length - (intOf i).toNat)
                  case atStart => exact ⟨0, Nat.zero_le _, rfl, rfl, Keep.refl _ _⟩
                  case round =>
                    obtain ⟨j, hj, rfl, rfl, kz⟩ := hrel
                    have Kz := ky.trans kz
                    by_cases hjl : j < V.length
                    · obtain ⟨y, hy⟩ : ∃ y, V[j]? = some y := ⟨_, List.getElem?_eq_getElem hjl⟩
                      have htk : x ∈ V.take (j + 1) ↔ x ∈ V.take j ∨ y = x := by
                        rw [List.getElem?_eq_getElem hjl] at hy
                        rw [List.take_succ_eq_append_getElem hjl, List.mem_append, List.mem_singleton, Option.some.inj hy]
                        exact ⟨fun h => h.imp id Eq.symm, fun h => h.imp id Eq.symm⟩
                      have Htk := Lib.hid htk
                      clear htk
                      by_cases hin : x ∈ V.take j
                      · have hq : hasT x (V.take j) = true := hasT_true hin
                        have Hin := Lib.hid hin
                        rw [hq]
                        clear hin hq hy
                        go_wp2_with fail
                        go_quiet (fail)
                        go_wp2_with fail
                        go_roundw
                        case rel => exact ⟨j + 1, hjl, by go_num, by rw [hasT_true (Htk.out.2 (Or.inl Hin.out))], kz.drewN _⟩
                        case measure => simp [intOf]; omega
                      · have hq : hasT x (V.take j) = false := hasT_false hin
                        have Hin := Lib.hid hin
                        rw [hq]
                        obtain ⟨g, e, _, _, hc2, _⟩ := (O6.keep Kz (fun g hg h => h)).cell1 cS_len hy rfl
                        cases e
                        have hcz : wr.cell? ⟨b, off + m, none⟩ = some (.string x) := (kz.cell (p := ⟨b, off + m, none⟩) hb (fun h => h)).trans hc
                        have hab := Hab.out
                        subst hab
                        clear hin hq hy
                        by_cases hyx : y = x
                        · subst hyx
                          have hq1 : (y.toList == y.toList) = true := by simp
                          go_wp2_with fail
                          go_quiet (fail)
                          go_wp2_with fail
                          go_roundw
                          case rel => exact ⟨j + 1, hjl, by go_num, by rw [hasT_true (Htk.out.2 (Or.inr (by simp)))], kz.drewN _⟩
                          case measure => simp [intOf]; omega
                        · have hq1 := tx_ne hyx
                          have Hyx := Lib.hid hyx
                          clear hyx
                          go_wp2_with fail
                          go_quiet (fail)
                          go_wp2_with fail
                          go_roundw
                          case rel => exact ⟨j + 1, hjl, by go_num, by rw [hasT_false (fun h => (Htk.out.1 h).elim Hin.out Hyx.out)], kz.drewN _⟩
                          case measure => simp [intOf]; omega
                    · have hd2 : decide ((j : Int) < (V.length : Int)) = false := by simp; omega
                      have hall : V.take j = V := List.take_of_length_le (by omega)
                      rw [hall]
                      obtain ⟨q, hq⟩ : ∃ q, hasT x V = q := ⟨_, rfl⟩
                      have hqa : aliveB L5 (kT x) = q := by
                        rw [← hq, Bool.eq_iff_iff, hasT_iff]
                        exact (HVm.out x).symm
                      have Hqa := Lib.hid hqa
                      rw [hq]
                      have hcz : wr.cell? ⟨b, off + m, none⟩ = some (.string x) := (kz.cell (p := ⟨b, off + m, none⟩) hb (fun h => h)).trans hc
                      have hab := Hab.out
                      subst hab
                      clear hq hqa hall hc
                      go_wp2_with fail
                      refine (alive_any tb mb p ch5 L5 x _ (T6.keep Kz (fun h => h) (fun h => h)) hzs q Hqa.out).mono ?_
                      rintro _ wz ⟨rfl, rfl⟩
                      cases q
                      all_goals
                        go_wp2_with fail
                        go_roundw
                        case rel => exact ⟨m + 1, hml, by go_num, Kz⟩
                        case measure => simp [intOf]; omega
                · have hd3 : decide ((m : Int) < (len1 : Int)) = false := by simp; omega
                  go_wp2_with fail
                  go_roundw
                  case rel => exact ⟨k + 1, L5, ch5, hlt, h200, by go_num, rfl, T6.keep ky (fun h => h) (fun h => h), Hv5.out, hl5, hc50, by omega, K6.trans ky⟩
                  case measure => simp [intOf]; omega
        · obtain ⟨V, hV⟩ : ∃ V, keysOf (liveL L5) = V := ⟨_, rfl⟩
          have hks5 := keysS Try.underlying9 T5.map
          have hVr : V.Pairwise (fun x y => bs x < bs y) := by rw [← hV]; exact live_rise hks5 (T5.map.rising law9).1
          have hVm : ∀ s, s ∈ V ↔ aliveB L5 (kT s) = true := by rw [← hV]; exact live_mem hks5 (T5.map.apart law9)
          have hVs : ∀ s ∈ V, s.size ≤ maxLen := by rw [← hV]; exact keys_size (filter_keysS hks5 _)
          have hVl : V.length ≤ 50 := by have := live_len L5; rw [hV] at this; omega
          have HV := Lib.hid hV
          have HVr := Lib.hid hVr
          have HVm := Lib.hid hVm
          have HVs := Lib.hid hVs
          clear hV hVr hVm hVs hks5
          go_wp2_with fail
          refine (live_any tb mb p ch5 L5 _ T5 (by omega) V HV.out).mono ?_
          rintro _ w6 ⟨a6, c6, rfl, O6, k6⟩
          have T6 := T5.keep k6 (fun h => h) (fun h => h)
          have K6 := K5.trans k6
          clear T5 K5 k6
          go_wp2_with fail
          refine (changes_any tb mb p ch5 L5 _ T6).mono ?_
          rintro _ w6 ⟨rfl, rfl⟩
          go_wp2_with fail
          go_loopw [59] (fun i wx => ∃ j : Nat, j ≤ V.length ∧ i = .int .i64 j ∧ Keep NoB w6 wx) (fun i _ => V.length - (intOf i).toNat)
          case atStart => exact ⟨0, Nat.zero_le _, rfl, Keep.refl _ _⟩
          case round =>
            obtain ⟨j, hj, rfl, kj⟩ := hrel
            have Tx := T6.keep kj (fun h => h) (fun h => h)
            have Ox := O6.keep kj (fun g hg h => h)
            by_cases hjl : j < V.length
            · obtain ⟨x, hx⟩ : ∃ x, V[j]? = some x := ⟨_, List.getElem?_eq_getElem hjl⟩
              obtain ⟨g, e, _, _, hc1, _⟩ := Ox.cell1 cS_len hx rfl
              cases e
              have hxm : x ∈ V := List.mem_of_getElem? hx
              have hxs := Lib.hid (HVs.out x hxm)
              have hxa := Lib.hid ((HVm.out x).1 hxm)
              rcases j with _ | i
              · clear hx
                go_wp2_with fail
                go_quiet ((go_at_call 10; exact Calls.quiet_of_same (alive_any tb mb p ch5 L5 x _ (Tx.keep (S := NoB) (by (repeat (with_reducible first | exact Keep.refl _ _ | assumption | refine Keep.alloc ?_ _ | refine Keep.drewN ?_ _ | refine Keep.drew ?_ | refine Keep.setCell ?_ (by first | (left; simp; done) | (left; simp; omega) | (right; simp [NoB, OneB, TwoB]; done)) _))) (fun h => h) (fun h => h)) hxs.out true hxa.out)))
                go_wp2_with fail
                go_roundw
                case rel => exact ⟨1, by omega, rfl, kj.drewN _⟩
                case measure => simp [intOf] <;> omega
              · obtain ⟨y, hy⟩ : ∃ y, V[i]? = some y := ⟨_, List.getElem?_eq_getElem (by omega)⟩
                obtain ⟨g', e', _, _, hc2, _⟩ := Ox.cell1 cS_len hy rfl
                cases e'
                have hlt := tx_lt (by
                  have h1 := List.pairwise_iff_getElem.1 HVr.out i (i + 1) (by omega) hjl (by omega)
                  rw [List.getElem?_eq_getElem (show i < V.length by omega)] at hy
                  rw [List.getElem?_eq_getElem hjl] at hx
                  rw [Option.some.inj hy, Option.some.inj hx] at h1
                  exact h1)
                have hp : decide ((0 : Int) < ((i + 1 : Nat) : Int)) = true := by simp <;> omega
                have hil : i < V.length := by omega
                clear hx hy
                go_wp2_with fail
                go_quiet ((go_at_call 10; exact Calls.quiet_of_same (alive_any tb mb p ch5 L5 x _ (Tx.keep (S := NoB) (by (repeat (with_reducible first | exact Keep.refl _ _ | assumption | refine Keep.alloc ?_ _ | refine Keep.drewN ?_ _ | refine Keep.drew ?_ | refine Keep.setCell ?_ (by first | (left; simp; done) | (left; simp; omega) | (right; simp [NoB, OneB, TwoB]; done)) _))) (fun h => h) (fun h => h)) hxs.out true hxa.out)))
                go_wp2_with fail
                go_roundw
                case rel => exact ⟨i + 1 + 1, by omega, by go_num, kj.drewN _⟩
                case measure => simp [intOf] <;> omega
            · have hd' : decide ((j : Int) < (V.length : Int)) = false := by simp; omega
              go_wp2_with fail
              go_loopw [88] (fun i wy => ∃ m : Nat, m ≤ len1 ∧ i = .int .i64 m ∧ Keep NoB w6 wy) (fun i _ => len1 - (intOf i).toNat)
              case atStart => exact ⟨0, Nat.zero_le _, rfl, kj⟩
              case round =>
                obtain ⟨m, hm, rfl, ky⟩ := hrel
                by_cases hml : m < len1
                · have Ky := K6.trans ky
                  have hI1 := H1.out.keep Ky
                  obtain ⟨b, off, hab, hb, hc⟩ := hI1.cell hml
                  have hzs := hI1.2.1 m hml
                  generalize z1 m = x at hc hzs
                  have Hab := Lib.hid hab
                  clear hab hI1
                  go_wp2_with fail
                  go_loopw [13, 93] (fun q i wz => ∃ j : Nat, j ≤ V.length ∧ i = .int .i64 j ∧ q = .bool (hasT x (V.take j)) ∧ Keep NoB wr wz) (fun _ i _ => V.length - (intOf i).toNat)
                  case atStart => exact ⟨0, Nat.zero_le _, rfl, rfl, Keep.refl _ _⟩
                  case round =>
                    obtain ⟨j, hj, rfl, rfl, kz⟩ := hrel
                    have Kz := ky.trans kz
                    by_cases hjl : j < V.length
                    · obtain ⟨y, hy⟩ : ∃ y, V[j]? = some y := ⟨_, List.getElem?_eq_getElem hjl⟩
                      have htk : x ∈ V.take (j + 1) ↔ x ∈ V.take j ∨ y = x := by
                        rw [List.getElem?_eq_getElem hjl] at hy
                        rw [List.take_succ_eq_append_getElem hjl, List.mem_append, List.mem_singleton, Option.some.inj hy]
                        exact ⟨fun h => h.imp id Eq.symm, fun h => h.imp id Eq.symm⟩
                      have Htk := Lib.hid htk
                      clear htk
                      by_cases hin : x ∈ V.take j
                      · have hq : hasT x (V.take j) = true := hasT_true hin
                        have Hin := Lib.hid hin
                        rw [hq]
                        clear hin hq hy
                        go_wp2_with fail
                        go_quiet (fail)
                        go_wp2_with fail
                        go_roundw
                        case rel => exact ⟨j + 1, hjl, by go_num, by rw [hasT_true (Htk.out.2 (Or.inl Hin.out))], kz.drewN _⟩
                        case measure => simp [intOf]; omega
                      · have hq : hasT x (V.take j) = false := hasT_false hin
                        have Hin := Lib.hid hin
                        rw [hq]
                        obtain ⟨g, e, _, _, hc2, _⟩ := (O6.keep Kz (fun g hg h => h)).cell1 cS_len hy rfl
                        cases e
                        have hcz : wr.cell? ⟨b, off + m, none⟩ = some (.string x) := (kz.cell (p := ⟨b, off + m, none⟩) hb (fun h => h)).trans hc
                        have hab := Hab.out
                        subst hab
                        clear hin hq hy
                        by_cases hyx : y = x
                        · subst hyx
                          have hq1 : (y.toList == y.toList) = true := by simp
                          go_wp2_with fail
                          go_quiet (fail)
                          go_wp2_with fail
                          go_roundw
                          case rel => exact ⟨j + 1, hjl, by go_num, by rw [hasT_true (Htk.out.2 (Or.inr (by simp)))], kz.drewN _⟩
                          case measure => simp [intOf]; omega
                        · have hq1 := tx_ne hyx
                          have Hyx := Lib.hid hyx
                          clear hyx
                          go_wp2_with fail
                          go_quiet (fail)
                          go_wp2_with fail
                          go_roundw
                          case rel => exact ⟨j + 1, hjl, by go_num, by rw [hasT_false (fun h => (Htk.out.1 h).elim Hin.out Hyx.out)], kz.drewN _⟩
                          case measure => simp [intOf]; omega
                    · have hd2 : decide ((j : Int) < (V.length : Int)) = false := by simp; omega
                      have hall : V.take j = V := List.take_of_length_le (by omega)
                      rw [hall]
                      obtain ⟨q, hq⟩ : ∃ q, hasT x V = q := ⟨_, rfl⟩
                      have hqa : aliveB L5 (kT x) = q := by
                        rw [← hq, Bool.eq_iff_iff, hasT_iff]
                        exact (HVm.out x).symm
                      have Hqa := Lib.hid hqa
                      rw [hq]
                      have hcz : wr.cell? ⟨b, off + m, none⟩ = some (.string x) := (kz.cell (p := ⟨b, off + m, none⟩) hb (fun h => h)).trans hc
                      have hab := Hab.out
                      subst hab
                      clear hq hqa hall hc
                      go_wp2_with fail
                      refine (alive_any tb mb p ch5 L5 x _ (T6.keep Kz (fun h => h) (fun h => h)) hzs q Hqa.out).mono ?_
                      rintro _ wz ⟨rfl, rfl⟩
                      cases q
                      all_goals
                        go_wp2_with fail
                        go_roundw
                        case rel => exact ⟨m + 1, hml, by go_num, Kz⟩
                        case measure => simp [intOf]; omega
                · have hd3 : decide ((m : Int) < (len1 : Int)) = false := by simp; omega
                  go_wp2_with fail
                  go_roundw
                  case rel => exact ⟨k + 1, L5, ch5, hlt, h200, by go_num, rfl, T6.keep ky (fun h => h) (fun h => h), Hv5.out, hl5, hc50, by omega, K6.trans ky⟩
                  case measure => simp [intOf]; omega
    · have hout : (¬ k < len2 ∧ decide ((k : Int) < (len2 : Int)) = false) ∨ (k < len2 ∧ ¬ k < 200 ∧ decide ((k : Int) < 200) = false) := by
        by_cases h1 : k < len2
        · right
          have : ¬ k < 200 := fun h => hgo ⟨h1, h⟩
          exact ⟨h1, this, by simp; omega⟩
        · left
          exact ⟨h1, by simp; omega⟩
      clear hgo
      rcases hout with ⟨h1, hd⟩ | ⟨h1, h2, hd⟩
      all_goals
        go_wp2
        go_ret
        exact ⟨rfl, kr.below (fun _ _ h => h)⟩
end Go.Proofs.Ytjfkpjooandpeaa
