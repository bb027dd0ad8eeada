/- The walk of LeaseAgain. -/
import Derived.Test.YtmndmgfianhbpaaLeaseBoundW
namespace Go.Proofs.Ytmndmgfianhbpaa
open Go Go.RowKit Go.Maps

/-- No lease of the table has a token above t. -/
def Under (L : LL) (t : Int) : Prop := ∀ p ∈ L, p.2.1 ≤ t

theorem grant_under {limit ticks last : Int} {L : LL} {k : Lit} {v : Int} {ok : Bool} {last' : Int} {L' : LL} (hr : grantR limit ticks last L k = (v, ok, last', L')) (h : Under L last) :
    Under L' last' ∧ last ≤ last' ∧ (ok = true → last < v) := by
  unfold grantR at hr
  split at hr
  · cases hr; exact ⟨h, by omega, by simp⟩
  · split at hr
    · cases hr; exact ⟨h, by omega, by simp⟩
    · cases hr
      refine ⟨?_, by omega, fun _ => by omega⟩
      intro p hp
      rcases mem_lput hp with rfl | hp
      · simp
      · have := h p hp; omega

theorem use_under {L : LL} {k : Lit} {t v : Int} (h : Under L t) (hv : t < v) : useB L k v = false := by
  unfold useB
  cases hg : lget L k with
  | none => rfl
  | some x =>
    have := h _ (mem_of_lget hg)
    simp only at this
    simp
    omega


set_option maxRecDepth 100000 in
set_option maxHeartbeats 2000000 in
theorem again_walk (last : Int) (a1 : Option Addr) (len1 cap1 : Nat) (z1 : Nat → ByteArray) (a2 : Option Addr) (len2 cap2 : Nat) (z2 : Nat → ByteArray) (w : World) (h1 : IsStrs w a1 len1 z1) (h2 : IsStrs w a2 len2 z2) :
    Calls Try.prog 3 #[.int .i64 last, .slice a1 len1 cap1, .slice a2 len2 cap2] w fun e w' => e = .returned (.bool true) ∧ Below w.heap.size w w' := by
  obtain ⟨hmax1, hok1, hrow1⟩ := h1
  obtain ⟨hmax2, hok2, hrow2⟩ := h2
  unfold maxLen at hmax1 hmax2
  obtain ⟨l0, hl0⟩ : ∃ l0 : Int, (0 ≤ last ∧ last ≤ 9007199254740992 ∧ l0 = last) ∨ (last < 0 ∧ l0 = 0) ∨ (9007199254740992 < last ∧ l0 = 0) := by
    by_cases ha : last < 0
    · exact ⟨0, Or.inr (Or.inl ⟨ha, rfl⟩)⟩
    · by_cases hb : last ≤ 9007199254740992
      · exact ⟨last, Or.inl ⟨by omega, hb, rfl⟩⟩
      · exact ⟨0, Or.inr (Or.inr ⟨by omega, rfl⟩)⟩
  have hl01 : 0 ≤ l0 ∧ l0 ≤ 9007199254740992 := by omega
  obtain ⟨hl02, hl03⟩ := hl01
  have Hl0 := Lib.hid hl0
  clear hl0
  go_enter Try.func3, Try.ntmps3
  go_wp2_with fail
  refine (awake_any _).mono ?_
  rintro _ w1 ⟨rfl, hk1⟩
  go_wp2_with fail
  refine (again_any 1000 5 5 last l0 _ (by decide) Hl0.out).mono ?_
  rintro _ w2 ⟨tb, mb, rfl, T2, hk2, hb1, hb2⟩
  have hlo : w.heap.size ≤ w1.heap.size := hk1.size
  have K2 : Keep NoB w w2 := hk1.trans hk2
  have htb : w.heap.size ≤ tb := by omega
  have hmb : w.heap.size ≤ mb := by omega
  clear hk1 hk2 hb1 hb2 hlo
  rcases Hl0.out with ⟨hc1, hc2, hc3⟩ | ⟨hc1, hc3⟩ | ⟨hc1, hc3⟩
  · subst l0
    go_wp2_with fail
    refine (granted_any tb mb 1000 5 _ _ _ T2).mono ?_
    rintro _ _ ⟨rfl, rfl⟩
    go_wp2_with fail
    go_loopw [8] (fun i wr => ∃ (k : Nat) (last1 : Int) (L : LL), k ≤ len1 ∧ k ≤ 100 ∧ i = .int .i64 k ∧ L.length ≤ k ∧ last ≤ last1 ∧ 0 ≤ last1 ∧ last1 ≤ 9007199254740992 + k ∧ Tab wr tb mb 1000 5 last1 L ∧ Under L last1 ∧ Keep NoB w wr) (fun i _ => len1 - (intOf i).toNat)
    case atStart => exact ⟨0, _, [], Nat.zero_le _, Nat.zero_le _, rfl, Nat.le_refl _, Int.le_refl _, by omega, by simp <;> omega, T2, by intro p hp; simp at hp, K2⟩
    case round =>
      clear T2 K2
      obtain ⟨k, last1, L, hk0, hk100, rfl, hL, hb1, hb2, hb3, T, hU, hk⟩ := hrel
      by_cases hgo : k < len1 ∧ k < 100
      · obtain ⟨hlt, h200⟩ := hgo
        have h200i : decide ((k : Int) < 100) = true := by simp; omega
        rcases hrow1 with h | ⟨b, off, rfl, hb, hc⟩
        · omega
        have hcw := hc k hlt
        have hs := hok1 k hlt
        clear hc
        generalize z1 k = s at hcw hs
        have hb0 : b < wr.heap.size := Nat.lt_of_lt_of_le hb hk.size
        have l0 : wr.cell? ⟨b, off + k, none⟩ = some (.string s) := (hk.cell (p := ⟨b, off + k, none⟩) hb (fun h => h)).trans hcw
        clear hcw
        obtain ⟨⟨v, ok, last', L'⟩, hr⟩ : ∃ r, grantR 1000 5 last1 L (kS s) = r := ⟨_, rfl⟩
        have hg1 := grant_len hr (T.map.apart law9)
        obtain ⟨hg11, _, hg13⟩ := hg1
        have hg2 := grant_under hr hU
        obtain ⟨hg21, hg22, hg23⟩ := hg2
        have hl' : last' ≤ 9007199254740992 + (k + 1) ∧ 0 ≤ last' ∧ last ≤ last' := by omega
        obtain ⟨hl1, hl2, hl3⟩ := hl'
        clear hg13
        have Hr := Lib.hid hr
        clear hr
        go_wp2_with fail
        refine (grant_any tb mb 1000 5 last1 L s _ T hs (by unfold maxLen; omega) hb2 (by omega) v ok last' L' Hr.out).mono ?_
        rintro _ w3 ⟨rfl, T3, hk3⟩
        have K3 : Keep NoB w w3 := hk.trans' hk3 (fun i hi e => by rcases e with e | e <;> omega)
        cases ok
        case' true =>
          have hv : decide (v ≤ last) = false := by have := hg23 rfl; simp; omega
        all_goals
          clear hg23
          go_wp2_with fail
          go_roundw
          case rel => exact ⟨k + 1, last', L', hlt, h200, by go_num, by omega, hl3, hl2, by simpa using hl1, T3, hg21, K3⟩
          case measure => simp [intOf]; omega
      · have hout : (¬ k < len1 ∧ decide ((k : Int) < (len1 : Int)) = false) ∨ (k < len1 ∧ ¬ k < 100 ∧ decide ((k : Int) < 100) = false) := by
          by_cases h1 : k < len1
          · right
            have : ¬ k < 100 := fun h => hgo ⟨h1, h⟩
            exact ⟨h1, this, by simp; omega⟩
          · left
            exact ⟨h1, by simp; omega⟩
        clear hgo
        obtain ⟨m0, hm0⟩ : ∃ m0 : Int, (0 ≤ last1 ∧ last1 ≤ 9007199254740992 ∧ m0 = last1) ∨ (last1 < 0 ∧ m0 = 0) ∨ (9007199254740992 < last1 ∧ m0 = 0) := by
          by_cases hb : last1 ≤ 9007199254740992
          · exact ⟨last1, Or.inl ⟨by omega, hb, rfl⟩⟩
          · exact ⟨0, Or.inr (Or.inr ⟨by omega, rfl⟩)⟩
        have Hm0 := Lib.hid hm0
        clear hm0
        have htl : tb < wr.heap.size := blk_lt T.blk
        have hml : mb < wr.heap.size := T.map.lt
        have hw4 : w.heap.size ≤ wr.heap.size := hk.size
        rcases hout with ⟨h1, hd⟩ | ⟨h1, h2, hd⟩
        all_goals
          go_wp2_with fail
          refine (granted_any tb mb 1000 5 _ _ _ T).mono ?_
          rintro _ _ ⟨rfl, rfl⟩
          go_wp2_with fail
          refine (again_any 1000 5 5 last1 m0 _ (by decide) Hm0.out).mono ?_
          rintro _ w4 ⟨tu, mu, rfl, Tu, hk4, hu1, hu2⟩
          have Tt := T.keep hk4 (fun h => h) (fun h => h)
          have K4 : Keep NoB w w4 := hk.trans hk4
          have hwu : w.heap.size ≤ tu ∧ w.heap.size ≤ mu ∧ tb ≠ tu ∧ tb ≠ mu ∧ mb ≠ tu ∧ mb ≠ mu := by omega
          obtain ⟨hwu1, hwu2, hwu3, hwu4, hwu5, hwu6⟩ := hwu
          clear hd h1 hu1 hu2 htl hml hw4 T hk hk4
          go_wp2_with fail
          refine (granted_any tb mb 1000 5 _ _ _ Tt).mono ?_
          rintro _ _ ⟨rfl, rfl⟩
          have hbig : (9007199254740992 < last1 ∧ decide (9007199254740992 < last1) = true) ∨ (m0 = last1 ∧ last1 ≤ 9007199254740992 ∧ decide (9007199254740992 < last1) = false) := by
            have := Hm0.out
            by_cases h : 9007199254740992 < last1
            · exact Or.inl ⟨h, by simpa using h⟩
            · exact Or.inr ⟨by omega, by omega, by simpa using h⟩
          rcases hbig with ⟨hb4, hd⟩ | ⟨hb4, hb5, hd⟩
          · go_wp2
            go_ret
            exact ⟨rfl, K4.below (fun _ _ h => h)⟩
          · subst m0
            go_wp2_with fail
            go_loopw [12] (fun i wr => ∃ (j : Nat) (last2 : Int) (L2 : LL), j ≤ len2 ∧ j ≤ 100 ∧ i = .int .i64 j ∧ L2.length ≤ j ∧ last1 ≤ last2 ∧ last2 ≤ last1 + j ∧ Tab wr tb mb 1000 5 last1 L ∧ Tab wr tu mu 1000 5 last2 L2 ∧ Under L2 last2 ∧ Keep NoB w wr) (fun i _ => len2 - (intOf i).toNat)
            case atStart => exact ⟨0, last1, [], Nat.zero_le _, Nat.zero_le _, rfl, Nat.le_refl _, Int.le_refl _, by simp, Tt, Tu, by intro p hp; simp at hp, K4⟩
            case round =>
              clear Tt Tu K4 hd
              obtain ⟨j, last2, L2, hj0, hj100, rfl, hL2, hc1, hc2, Tt, Tu, hU2, hk⟩ := hrel
              by_cases hgo : j < len2 ∧ j < 100
              · obtain ⟨hlt, h200⟩ := hgo
                have h200i : decide ((j : Int) < 100) = true := by simp; omega
                rcases hrow2 with h | ⟨b, off, rfl, hb, hc⟩
                · omega
                have hcw := hc j hlt
                have hs := hok2 j hlt
                clear hc
                generalize z2 j = s at hcw hs
                have hb0 : b < wr.heap.size := Nat.lt_of_lt_of_le hb hk.size
                have l0 : wr.cell? ⟨b, off + j, none⟩ = some (.string s) := (hk.cell (p := ⟨b, off + j, none⟩) hb (fun h => h)).trans hcw
                have Hcw := Lib.hid hcw
                clear hcw
                obtain ⟨⟨v, ok, last', L'⟩, hr⟩ : ∃ r, grantR 1000 5 last2 L2 (kS s) = r := ⟨_, rfl⟩
                have hg1 := grant_len hr (Tu.map.apart law9)
                obtain ⟨hg11, _, hg13⟩ := hg1
                have hg2 := grant_under hr hU2
                obtain ⟨hg21, hg22, hg23⟩ := hg2
                have hl' : last' ≤ last1 + (j + 1) ∧ last1 ≤ last' := by omega
                obtain ⟨hl1, hl3⟩ := hl'
                clear hg13
                have Hr := Lib.hid hr
                clear hr
                go_wp2_with fail
                refine (grant_any tu mu 1000 5 last2 L2 s _ Tu hs (by unfold maxLen; omega) (by omega) (by omega) v ok last' L' Hr.out).mono ?_
                rintro _ w3 ⟨rfl, T3, hk3⟩
                have K3 : Keep NoB w w3 := hk.trans' hk3 (fun i hi e => by rcases e with e | e <;> omega)
                have l1 : w3.cell? ⟨b, off + j, none⟩ = some (.string s) := (K3.cell (p := ⟨b, off + j, none⟩) hb (fun h => h)).trans Hcw.out
                have Tt3 := Tt.keep hk3 (fun e => by rcases e with e | e <;> omega) (fun e => by rcases e with e | e <;> omega)
                clear Tt Tu hk hk3
                cases ok
                · go_wp2_with fail
                  go_roundw
                  case rel => exact ⟨j + 1, last', L', hlt, h200, by go_num, by omega, hl3, by simpa using hl1, Tt3, T3, hg21, K3⟩
                  case measure => simp [intOf]; omega
                · have hv0 := hg23 rfl
                  have hv : decide (v ≤ last1) = false := by simp; omega
                  have hub := use_under (k := kS s) (v := v) hU (by omega)
                  clear hg23
                  go_wp2_with fail
                  refine (granted_any tb mb 1000 5 _ _ _ Tt3).mono ?_
                  rintro _ _ ⟨rfl, rfl⟩
                  go_wp2_with fail
                  refine (use_any tb mb 1000 5 last1 L s v _ Tt3 hs false hub L (by unfold useL; rw [hub]; rfl)).mono ?_
                  rintro _ w5 ⟨rfl, Tt5, hk5⟩
                  have K5 : Keep NoB w w5 := K3.trans' hk5 (fun i hi e => by rcases e with e | e <;> omega)
                  have T5 := T3.keep hk5 (fun e => by rcases e with e | e <;> omega) (fun e => by rcases e with e | e <;> omega)
                  clear Tt3 T3 hk5 K3
                  go_wp2_with fail
                  go_roundw
                  case rel => exact ⟨j + 1, last', L', hlt, h200, by go_num, by omega, hl3, by simpa using hl1, Tt5, T5, hg21, K5⟩
                  case measure => simp [intOf]; omega
              · have hout : (¬ j < len2 ∧ decide ((j : Int) < (len2 : Int)) = false) ∨ (j < len2 ∧ ¬ j < 100 ∧ decide ((j : Int) < 100) = false) := by
                  by_cases h1 : j < len2
                  · right
                    have : ¬ j < 100 := fun h => hgo ⟨h1, h⟩
                    exact ⟨h1, this, by simp; omega⟩
                  · left
                    exact ⟨h1, by simp; omega⟩
                clear hgo
                rcases hout with ⟨h1, hd⟩ | ⟨h1, h2, hd⟩
                all_goals
                  go_wp2
                  go_ret
                  exact ⟨rfl, hk.below (fun _ _ h => h)⟩
  · subst l0
    go_wp2_with fail
    refine (granted_any tb mb 1000 5 _ _ _ T2).mono ?_
    rintro _ _ ⟨rfl, rfl⟩
    go_wp2_with fail
    go_loopw [8] (fun i wr => ∃ (k : Nat) (last1 : Int) (L : LL), k ≤ len1 ∧ k ≤ 100 ∧ i = .int .i64 k ∧ L.length ≤ k ∧ (0 : Int) ≤ last1 ∧ 0 ≤ last1 ∧ last1 ≤ 9007199254740992 + k ∧ Tab wr tb mb 1000 5 last1 L ∧ Under L last1 ∧ Keep NoB w wr) (fun i _ => len1 - (intOf i).toNat)
    case atStart => exact ⟨0, _, [], Nat.zero_le _, Nat.zero_le _, rfl, Nat.le_refl _, Int.le_refl _, by omega, by simp <;> omega, T2, by intro p hp; simp at hp, K2⟩
    case round =>
      clear T2 K2
      obtain ⟨k, last1, L, hk0, hk100, rfl, hL, hb1, hb2, hb3, T, hU, hk⟩ := hrel
      by_cases hgo : k < len1 ∧ k < 100
      · obtain ⟨hlt, h200⟩ := hgo
        have h200i : decide ((k : Int) < 100) = true := by simp; omega
        rcases hrow1 with h | ⟨b, off, rfl, hb, hc⟩
        · omega
        have hcw := hc k hlt
        have hs := hok1 k hlt
        clear hc
        generalize z1 k = s at hcw hs
        have hb0 : b < wr.heap.size := Nat.lt_of_lt_of_le hb hk.size
        have l0 : wr.cell? ⟨b, off + k, none⟩ = some (.string s) := (hk.cell (p := ⟨b, off + k, none⟩) hb (fun h => h)).trans hcw
        clear hcw
        obtain ⟨⟨v, ok, last', L'⟩, hr⟩ : ∃ r, grantR 1000 5 last1 L (kS s) = r := ⟨_, rfl⟩
        have hg1 := grant_len hr (T.map.apart law9)
        obtain ⟨hg11, _, hg13⟩ := hg1
        have hg2 := grant_under hr hU
        obtain ⟨hg21, hg22, hg23⟩ := hg2
        have hl' : last' ≤ 9007199254740992 + (k + 1) ∧ 0 ≤ last' ∧ (0 : Int) ≤ last' := by omega
        obtain ⟨hl1, hl2, hl3⟩ := hl'
        clear hg13
        have Hr := Lib.hid hr
        clear hr
        go_wp2_with fail
        refine (grant_any tb mb 1000 5 last1 L s _ T hs (by unfold maxLen; omega) hb2 (by omega) v ok last' L' Hr.out).mono ?_
        rintro _ w3 ⟨rfl, T3, hk3⟩
        have K3 : Keep NoB w w3 := hk.trans' hk3 (fun i hi e => by rcases e with e | e <;> omega)
        cases ok
        case' true =>
          have hv : decide (v ≤ (0 : Int)) = false := by have := hg23 rfl; simp; omega
        all_goals
          clear hg23
          go_wp2_with fail
          go_roundw
          case rel => exact ⟨k + 1, last', L', hlt, h200, by go_num, by omega, hl3, hl2, by simpa using hl1, T3, hg21, K3⟩
          case measure => simp [intOf]; omega
      · have hout : (¬ k < len1 ∧ decide ((k : Int) < (len1 : Int)) = false) ∨ (k < len1 ∧ ¬ k < 100 ∧ decide ((k : Int) < 100) = false) := by
          by_cases h1 : k < len1
          · right
            have : ¬ k < 100 := fun h => hgo ⟨h1, h⟩
            exact ⟨h1, this, by simp; omega⟩
          · left
            exact ⟨h1, by simp; omega⟩
        clear hgo
        obtain ⟨m0, hm0⟩ : ∃ m0 : Int, (0 ≤ last1 ∧ last1 ≤ 9007199254740992 ∧ m0 = last1) ∨ (last1 < 0 ∧ m0 = 0) ∨ (9007199254740992 < last1 ∧ m0 = 0) := by
          by_cases hb : last1 ≤ 9007199254740992
          · exact ⟨last1, Or.inl ⟨by omega, hb, rfl⟩⟩
          · exact ⟨0, Or.inr (Or.inr ⟨by omega, rfl⟩)⟩
        have Hm0 := Lib.hid hm0
        clear hm0
        have htl : tb < wr.heap.size := blk_lt T.blk
        have hml : mb < wr.heap.size := T.map.lt
        have hw4 : w.heap.size ≤ wr.heap.size := hk.size
        rcases hout with ⟨h1, hd⟩ | ⟨h1, h2, hd⟩
        all_goals
          go_wp2_with fail
          refine (granted_any tb mb 1000 5 _ _ _ T).mono ?_
          rintro _ _ ⟨rfl, rfl⟩
          go_wp2_with fail
          refine (again_any 1000 5 5 last1 m0 _ (by decide) Hm0.out).mono ?_
          rintro _ w4 ⟨tu, mu, rfl, Tu, hk4, hu1, hu2⟩
          have Tt := T.keep hk4 (fun h => h) (fun h => h)
          have K4 : Keep NoB w w4 := hk.trans hk4
          have hwu : w.heap.size ≤ tu ∧ w.heap.size ≤ mu ∧ tb ≠ tu ∧ tb ≠ mu ∧ mb ≠ tu ∧ mb ≠ mu := by omega
          obtain ⟨hwu1, hwu2, hwu3, hwu4, hwu5, hwu6⟩ := hwu
          clear hd h1 hu1 hu2 htl hml hw4 T hk hk4
          go_wp2_with fail
          refine (granted_any tb mb 1000 5 _ _ _ Tt).mono ?_
          rintro _ _ ⟨rfl, rfl⟩
          have hbig : (9007199254740992 < last1 ∧ decide (9007199254740992 < last1) = true) ∨ (m0 = last1 ∧ last1 ≤ 9007199254740992 ∧ decide (9007199254740992 < last1) = false) := by
            have := Hm0.out
            by_cases h : 9007199254740992 < last1
            · exact Or.inl ⟨h, by simpa using h⟩
            · exact Or.inr ⟨by omega, by omega, by simpa using h⟩
          rcases hbig with ⟨hb4, hd⟩ | ⟨hb4, hb5, hd⟩
          · go_wp2
            go_ret
            exact ⟨rfl, K4.below (fun _ _ h => h)⟩
          · subst m0
            go_wp2_with fail
            go_loopw [12] (fun i wr => ∃ (j : Nat) (last2 : Int) (L2 : LL), j ≤ len2 ∧ j ≤ 100 ∧ i = .int .i64 j ∧ L2.length ≤ j ∧ last1 ≤ last2 ∧ last2 ≤ last1 + j ∧ Tab wr tb mb 1000 5 last1 L ∧ Tab wr tu mu 1000 5 last2 L2 ∧ Under L2 last2 ∧ Keep NoB w wr) (fun i _ => len2 - (intOf i).toNat)
            case atStart => exact ⟨0, last1, [], Nat.zero_le _, Nat.zero_le _, rfl, Nat.le_refl _, Int.le_refl _, by simp, Tt, Tu, by intro p hp; simp at hp, K4⟩
            case round =>
              clear Tt Tu K4 hd
              obtain ⟨j, last2, L2, hj0, hj100, rfl, hL2, hc1, hc2, Tt, Tu, hU2, hk⟩ := hrel
              by_cases hgo : j < len2 ∧ j < 100
              · obtain ⟨hlt, h200⟩ := hgo
                have h200i : decide ((j : Int) < 100) = true := by simp; omega
                rcases hrow2 with h | ⟨b, off, rfl, hb, hc⟩
                · omega
                have hcw := hc j hlt
                have hs := hok2 j hlt
                clear hc
                generalize z2 j = s at hcw hs
                have hb0 : b < wr.heap.size := Nat.lt_of_lt_of_le hb hk.size
                have l0 : wr.cell? ⟨b, off + j, none⟩ = some (.string s) := (hk.cell (p := ⟨b, off + j, none⟩) hb (fun h => h)).trans hcw
                have Hcw := Lib.hid hcw
                clear hcw
                obtain ⟨⟨v, ok, last', L'⟩, hr⟩ : ∃ r, grantR 1000 5 last2 L2 (kS s) = r := ⟨_, rfl⟩
                have hg1 := grant_len hr (Tu.map.apart law9)
                obtain ⟨hg11, _, hg13⟩ := hg1
                have hg2 := grant_under hr hU2
                obtain ⟨hg21, hg22, hg23⟩ := hg2
                have hl' : last' ≤ last1 + (j + 1) ∧ last1 ≤ last' := by omega
                obtain ⟨hl1, hl3⟩ := hl'
                clear hg13
                have Hr := Lib.hid hr
                clear hr
                go_wp2_with fail
                refine (grant_any tu mu 1000 5 last2 L2 s _ Tu hs (by unfold maxLen; omega) (by omega) (by omega) v ok last' L' Hr.out).mono ?_
                rintro _ w3 ⟨rfl, T3, hk3⟩
                have K3 : Keep NoB w w3 := hk.trans' hk3 (fun i hi e => by rcases e with e | e <;> omega)
                have l1 : w3.cell? ⟨b, off + j, none⟩ = some (.string s) := (K3.cell (p := ⟨b, off + j, none⟩) hb (fun h => h)).trans Hcw.out
                have Tt3 := Tt.keep hk3 (fun e => by rcases e with e | e <;> omega) (fun e => by rcases e with e | e <;> omega)
                clear Tt Tu hk hk3
                cases ok
                · go_wp2_with fail
                  go_roundw
                  case rel => exact ⟨j + 1, last', L', hlt, h200, by go_num, by omega, hl3, by simpa using hl1, Tt3, T3, hg21, K3⟩
                  case measure => simp [intOf]; omega
                · have hv0 := hg23 rfl
                  have hv : decide (v ≤ last1) = false := by simp; omega
                  have hub := use_under (k := kS s) (v := v) hU (by omega)
                  clear hg23
                  go_wp2_with fail
                  refine (granted_any tb mb 1000 5 _ _ _ Tt3).mono ?_
                  rintro _ _ ⟨rfl, rfl⟩
                  go_wp2_with fail
                  refine (use_any tb mb 1000 5 last1 L s v _ Tt3 hs false hub L (by unfold useL; rw [hub]; rfl)).mono ?_
                  rintro _ w5 ⟨rfl, Tt5, hk5⟩
                  have K5 : Keep NoB w w5 := K3.trans' hk5 (fun i hi e => by rcases e with e | e <;> omega)
                  have T5 := T3.keep hk5 (fun e => by rcases e with e | e <;> omega) (fun e => by rcases e with e | e <;> omega)
                  clear Tt3 T3 hk5 K3
                  go_wp2_with fail
                  go_roundw
                  case rel => exact ⟨j + 1, last', L', hlt, h200, by go_num, by omega, hl3, by simpa using hl1, Tt5, T5, hg21, K5⟩
                  case measure => simp [intOf]; omega
              · have hout : (¬ j < len2 ∧ decide ((j : Int) < (len2 : Int)) = false) ∨ (j < len2 ∧ ¬ j < 100 ∧ decide ((j : Int) < 100) = false) := by
                  by_cases h1 : j < len2
                  · right
                    have : ¬ j < 100 := fun h => hgo ⟨h1, h⟩
                    exact ⟨h1, this, by simp; omega⟩
                  · left
                    exact ⟨h1, by simp; omega⟩
                clear hgo
                rcases hout with ⟨h1, hd⟩ | ⟨h1, h2, hd⟩
                all_goals
                  go_wp2
                  go_ret
                  exact ⟨rfl, hk.below (fun _ _ h => h)⟩
  · subst l0
    go_wp2_with fail
    refine (granted_any tb mb 1000 5 _ _ _ T2).mono ?_
    rintro _ _ ⟨rfl, rfl⟩
    go_wp2_with fail
    go_loopw [8] (fun i wr => ∃ (k : Nat) (last1 : Int) (L : LL), k ≤ len1 ∧ k ≤ 100 ∧ i = .int .i64 k ∧ L.length ≤ k ∧ (0 : Int) ≤ last1 ∧ 0 ≤ last1 ∧ last1 ≤ 9007199254740992 + k ∧ Tab wr tb mb 1000 5 last1 L ∧ Under L last1 ∧ Keep NoB w wr) (fun i _ => len1 - (intOf i).toNat)
    case atStart => exact ⟨0, _, [], Nat.zero_le _, Nat.zero_le _, rfl, Nat.le_refl _, Int.le_refl _, by omega, by simp <;> omega, T2, by intro p hp; simp at hp, K2⟩
    case round =>
      clear T2 K2
      obtain ⟨k, last1, L, hk0, hk100, rfl, hL, hb1, hb2, hb3, T, hU, hk⟩ := hrel
      by_cases hgo : k < len1 ∧ k < 100
      · obtain ⟨hlt, h200⟩ := hgo
        have h200i : decide ((k : Int) < 100) = true := by simp; omega
        rcases hrow1 with h | ⟨b, off, rfl, hb, hc⟩
        · omega
        have hcw := hc k hlt
        have hs := hok1 k hlt
        clear hc
        generalize z1 k = s at hcw hs
        have hb0 : b < wr.heap.size := Nat.lt_of_lt_of_le hb hk.size
        have l0 : wr.cell? ⟨b, off + k, none⟩ = some (.string s) := (hk.cell (p := ⟨b, off + k, none⟩) hb (fun h => h)).trans hcw
        clear hcw
        obtain ⟨⟨v, ok, last', L'⟩, hr⟩ : ∃ r, grantR 1000 5 last1 L (kS s) = r := ⟨_, rfl⟩
        have hg1 := grant_len hr (T.map.apart law9)
        obtain ⟨hg11, _, hg13⟩ := hg1
        have hg2 := grant_under hr hU
        obtain ⟨hg21, hg22, hg23⟩ := hg2
        have hl' : last' ≤ 9007199254740992 + (k + 1) ∧ 0 ≤ last' ∧ (0 : Int) ≤ last' := by omega
        obtain ⟨hl1, hl2, hl3⟩ := hl'
        clear hg13
        have Hr := Lib.hid hr
        clear hr
        go_wp2_with fail
        refine (grant_any tb mb 1000 5 last1 L s _ T hs (by unfold maxLen; omega) hb2 (by omega) v ok last' L' Hr.out).mono ?_
        rintro _ w3 ⟨rfl, T3, hk3⟩
        have K3 : Keep NoB w w3 := hk.trans' hk3 (fun i hi e => by rcases e with e | e <;> omega)
        cases ok
        case' true =>
          have hv : decide (v ≤ (0 : Int)) = false := by have := hg23 rfl; simp; omega
        all_goals
          clear hg23
          go_wp2_with fail
          go_roundw
          case rel => exact ⟨k + 1, last', L', hlt, h200, by go_num, by omega, hl3, hl2, by simpa using hl1, T3, hg21, K3⟩
          case measure => simp [intOf]; omega
      · have hout : (¬ k < len1 ∧ decide ((k : Int) < (len1 : Int)) = false) ∨ (k < len1 ∧ ¬ k < 100 ∧ decide ((k : Int) < 100) = false) := by
          by_cases h1 : k < len1
          · right
            have : ¬ k < 100 := fun h => hgo ⟨h1, h⟩
            exact ⟨h1, this, by simp; omega⟩
          · left
            exact ⟨h1, by simp; omega⟩
        clear hgo
        obtain ⟨m0, hm0⟩ : ∃ m0 : Int, (0 ≤ last1 ∧ last1 ≤ 9007199254740992 ∧ m0 = last1) ∨ (last1 < 0 ∧ m0 = 0) ∨ (9007199254740992 < last1 ∧ m0 = 0) := by
          by_cases hb : last1 ≤ 9007199254740992
          · exact ⟨last1, Or.inl ⟨by omega, hb, rfl⟩⟩
          · exact ⟨0, Or.inr (Or.inr ⟨by omega, rfl⟩)⟩
        have Hm0 := Lib.hid hm0
        clear hm0
        have htl : tb < wr.heap.size := blk_lt T.blk
        have hml : mb < wr.heap.size := T.map.lt
        have hw4 : w.heap.size ≤ wr.heap.size := hk.size
        rcases hout with ⟨h1, hd⟩ | ⟨h1, h2, hd⟩
        all_goals
          go_wp2_with fail
          refine (granted_any tb mb 1000 5 _ _ _ T).mono ?_
          rintro _ _ ⟨rfl, rfl⟩
          go_wp2_with fail
          refine (again_any 1000 5 5 last1 m0 _ (by decide) Hm0.out).mono ?_
          rintro _ w4 ⟨tu, mu, rfl, Tu, hk4, hu1, hu2⟩
          have Tt := T.keep hk4 (fun h => h) (fun h => h)
          have K4 : Keep NoB w w4 := hk.trans hk4
          have hwu : w.heap.size ≤ tu ∧ w.heap.size ≤ mu ∧ tb ≠ tu ∧ tb ≠ mu ∧ mb ≠ tu ∧ mb ≠ mu := by omega
          obtain ⟨hwu1, hwu2, hwu3, hwu4, hwu5, hwu6⟩ := hwu
          clear hd h1 hu1 hu2 htl hml hw4 T hk hk4
          go_wp2_with fail
          refine (granted_any tb mb 1000 5 _ _ _ Tt).mono ?_
          rintro _ _ ⟨rfl, rfl⟩
          have hbig : (9007199254740992 < last1 ∧ decide (9007199254740992 < last1) = true) ∨ (m0 = last1 ∧ last1 ≤ 9007199254740992 ∧ decide (9007199254740992 < last1) = false) := by
            have := Hm0.out
            by_cases h : 9007199254740992 < last1
            · exact Or.inl ⟨h, by simpa using h⟩
            · exact Or.inr ⟨by omega, by omega, by simpa using h⟩
          rcases hbig with ⟨hb4, hd⟩ | ⟨hb4, hb5, hd⟩
          · go_wp2
            go_ret
            exact ⟨rfl, K4.below (fun _ _ h => h)⟩
          · subst m0
            go_wp2_with fail
            go_loopw [12] (fun i wr => ∃ (j : Nat) (last2 : Int) (L2 : LL), j ≤ len2 ∧ j ≤ 100 ∧ i = .int .i64 j ∧ L2.length ≤ j ∧ last1 ≤ last2 ∧ last2 ≤ last1 + j ∧ Tab wr tb mb 1000 5 last1 L ∧ Tab wr tu mu 1000 5 last2 L2 ∧ Under L2 last2 ∧ Keep NoB w wr) (fun i _ => len2 - (intOf i).toNat)
            case atStart => exact ⟨0, last1, [], Nat.zero_le _, Nat.zero_le _, rfl, Nat.le_refl _, Int.le_refl _, by simp, Tt, Tu, by intro p hp; simp at hp, K4⟩
            case round =>
              clear Tt Tu K4 hd
              obtain ⟨j, last2, L2, hj0, hj100, rfl, hL2, hc1, hc2, Tt, Tu, hU2, hk⟩ := hrel
              by_cases hgo : j < len2 ∧ j < 100
              · obtain ⟨hlt, h200⟩ := hgo
                have h200i : decide ((j : Int) < 100) = true := by simp; omega
                rcases hrow2 with h | ⟨b, off, rfl, hb, hc⟩
                · omega
                have hcw := hc j hlt
                have hs := hok2 j hlt
                clear hc
                generalize z2 j = s at hcw hs
                have hb0 : b < wr.heap.size := Nat.lt_of_lt_of_le hb hk.size
                have l0 : wr.cell? ⟨b, off + j, none⟩ = some (.string s) := (hk.cell (p := ⟨b, off + j, none⟩) hb (fun h => h)).trans hcw
                have Hcw := Lib.hid hcw
                clear hcw
                obtain ⟨⟨v, ok, last', L'⟩, hr⟩ : ∃ r, grantR 1000 5 last2 L2 (kS s) = r := ⟨_, rfl⟩
                have hg1 := grant_len hr (Tu.map.apart law9)
                obtain ⟨hg11, _, hg13⟩ := hg1
                have hg2 := grant_under hr hU2
                obtain ⟨hg21, hg22, hg23⟩ := hg2
                have hl' : last' ≤ last1 + (j + 1) ∧ last1 ≤ last' := by omega
                obtain ⟨hl1, hl3⟩ := hl'
                clear hg13
                have Hr := Lib.hid hr
                clear hr
                go_wp2_with fail
                refine (grant_any tu mu 1000 5 last2 L2 s _ Tu hs (by unfold maxLen; omega) (by omega) (by omega) v ok last' L' Hr.out).mono ?_
                rintro _ w3 ⟨rfl, T3, hk3⟩
                have K3 : Keep NoB w w3 := hk.trans' hk3 (fun i hi e => by rcases e with e | e <;> omega)
                have l1 : w3.cell? ⟨b, off + j, none⟩ = some (.string s) := (K3.cell (p := ⟨b, off + j, none⟩) hb (fun h => h)).trans Hcw.out
                have Tt3 := Tt.keep hk3 (fun e => by rcases e with e | e <;> omega) (fun e => by rcases e with e | e <;> omega)
                clear Tt Tu hk hk3
                cases ok
                · go_wp2_with fail
                  go_roundw
                  case rel => exact ⟨j + 1, last', L', hlt, h200, by go_num, by omega, hl3, by simpa using hl1, Tt3, T3, hg21, K3⟩
                  case measure => simp [intOf]; omega
                · have hv0 := hg23 rfl
                  have hv : decide (v ≤ last1) = false := by simp; omega
                  have hub := use_under (k := kS s) (v := v) hU (by omega)
                  clear hg23
                  go_wp2_with fail
                  refine (granted_any tb mb 1000 5 _ _ _ Tt3).mono ?_
                  rintro _ _ ⟨rfl, rfl⟩
                  go_wp2_with fail
                  refine (use_any tb mb 1000 5 last1 L s v _ Tt3 hs false hub L (by unfold useL; rw [hub]; rfl)).mono ?_
                  rintro _ w5 ⟨rfl, Tt5, hk5⟩
                  have K5 : Keep NoB w w5 := K3.trans' hk5 (fun i hi e => by rcases e with e | e <;> omega)
                  have T5 := T3.keep hk5 (fun e => by rcases e with e | e <;> omega) (fun e => by rcases e with e | e <;> omega)
                  clear Tt3 T3 hk5 K3
                  go_wp2_with fail
                  go_roundw
                  case rel => exact ⟨j + 1, last', L', hlt, h200, by go_num, by omega, hl3, by simpa using hl1, Tt5, T5, hg21, K5⟩
                  case measure => simp [intOf]; omega
              · have hout : (¬ j < len2 ∧ decide ((j : Int) < (len2 : Int)) = false) ∨ (j < len2 ∧ ¬ j < 100 ∧ decide ((j : Int) < 100) = false) := by
                  by_cases h1 : j < len2
                  · right
                    have : ¬ j < 100 := fun h => hgo ⟨h1, h⟩
                    exact ⟨h1, this, by simp; omega⟩
                  · left
                    exact ⟨h1, by simp; omega⟩
                clear hgo
                rcases hout with ⟨h1, hd⟩ | ⟨h1, h2, hd⟩
                all_goals
                  go_wp2
                  go_ret
                  exact ⟨rfl, hk.below (fun _ _ h => h)⟩
end Go.Proofs.Ytmndmgfianhbpaa
