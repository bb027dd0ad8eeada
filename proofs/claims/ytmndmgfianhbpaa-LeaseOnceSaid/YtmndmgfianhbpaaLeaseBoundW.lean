/- The walk of LeaseBound. -/
import Derived.Test.YtmndmgfianhbpaaLeaseA
namespace Go.Proofs.Ytmndmgfianhbpaa
open Go Go.RowKit Go.Maps

/-- What the walk is told of a slice of texts. -/
def IsStrs (w : World) (a : Option Addr) (len : Nat) (z : Nat → ByteArray) : Prop :=
  len ≤ maxLen ∧ (∀ i, i < len → (z i).size ≤ maxLen) ∧ (len = 0 ∨ ∃ b off, a = some ⟨b, off, none⟩ ∧ b < w.heap.size ∧ ∀ i, i < len → w.cell? ⟨b, off + i, none⟩ = some (.string (z i)))

/-- Leases that have between one tick and t. -/
def Lefts (L : LL) (t : Int) : Prop := ∀ p ∈ L, 1 ≤ p.2.2 ∧ p.2.2 ≤ t

theorem mem_lput {α : Type} {L : List (Lit × α)} {k : Lit} {v : α} {p : Lit × α} (h : p ∈ lput L k v) : p = (k, v) ∨ p ∈ L := by
  rcases mem_lins.1 h with h | h
  · exact Or.inl h
  · exact Or.inr (List.mem_filter.1 h).1

theorem grant_lefts {limit ticks last : Int} {L : LL} {k : Lit} {v : Int} {ok : Bool} {last' : Int} {L' : LL} (hr : grantR limit ticks last L k = (v, ok, last', L')) (h : Lefts L ticks) (ht : 1 ≤ ticks) : Lefts L' ticks := by
  unfold grantR at hr
  split at hr
  · cases hr; exact h
  · split at hr
    · cases hr; exact h
    · cases hr
      intro p hp
      rcases mem_lput hp with rfl | hp
      · exact ⟨ht, Int.le_refl _⟩
      · exact h p hp

theorem grant_len {limit ticks last : Int} {L : LL} {k : Lit} {v : Int} {ok : Bool} {last' : Int} {L' : LL} (hr : grantR limit ticks last L k = (v, ok, last', L')) (ha : Apart L) :
    L'.length ≤ L.length + 1 ∧ ((L.length : Int) ≤ max limit 0 → (L'.length : Int) ≤ max limit 0) ∧ (last' = last ∨ last' = last + 1) := by
  unfold grantR at hr
  split at hr
  · cases hr; exact ⟨by omega, fun h => h, Or.inl rfl⟩
  · split at hr
    · cases hr; exact ⟨by omega, fun h => h, Or.inl rfl⟩
    · rename_i hg
      cases hr
      refine ⟨?_, ?_, Or.inr rfl⟩
      · rw [length_lput ha, hg]; simp
      · rw [length_lput ha, hg]; simp only [Option.isSome_none, Bool.false_eq_true, if_false]; omega

theorem tick_lefts {L : LL} {t : Int} (h : Lefts L t) : Lefts (tickL L) (t - 1) := by
  intro p hp
  obtain ⟨q, hq, he⟩ := List.mem_filterMap.1 hp
  have := h q hq
  unfold tickP at he
  split at he
  · cases he
  · cases he
    simp only
    omega

theorem tick_len (L : LL) : (tickL L).length ≤ L.length := List.length_filterMap_le _ _

theorem lefts_none {L : LL} (h : Lefts L 0) : L = [] := by
  cases L with
  | nil => rfl
  | cons p L =>
    have := h p (by simp)
    omega

theorem and31 (n : Int) : bits .and .i64 n 31 = n % 32 := by
  have key : (BitVec.ofInt 64 n &&& BitVec.ofInt 64 31).toNat = (n % 18446744073709551616).toNat % 32 := by
    have h31 : (BitVec.ofInt 64 31).toNat = 2 ^ 5 - 1 := by decide
    rw [BitVec.toNat_and, BitVec.toNat_ofInt, h31, Nat.and_two_pow_sub_one_eq_mod]
    rfl
  show IntKind.i64.wrap ((BitVec.ofInt 64 n &&& BitVec.ofInt 64 31).toNat : Nat) = n % 32
  rw [key, IntKind.wrap_i64]
  omega

set_option maxRecDepth 100000 in
set_option maxHeartbeats 1000000 in
theorem bound_walk (limit ticks : Int) (a0 : Option Addr) (len0 cap0 : Nat) (z : Nat → ByteArray) (w : World) (h0 : IsStrs w a0 len0 z) :
    Calls Try.prog 5 #[.int .i64 limit, .int .i64 ticks, .slice a0 len0 cap0] w fun e w' => e = .returned (.bool true) ∧ Below w.heap.size w w' := by
  obtain ⟨hmax, hok, hrow⟩ := h0
  unfold maxLen at hmax
  go_enter Try.func5, Try.ntmps5
  go_wp2_with fail
  refine (awake_any _).mono ?_
  rintro _ w1 ⟨rfl, hk1⟩
  go_wp2_with fail
  have hB1 := and31 ticks
  generalize bits .and .i64 ticks 31 = B at hB1 ⊢
  have hB : 0 ≤ B ∧ B ≤ 31 := by omega
  obtain ⟨hB0, hB31⟩ := hB
  clear hB1
  obtain ⟨tt, htt⟩ : ∃ v, max B 1 = v := ⟨_, rfl⟩
  have htt1 : 1 ≤ tt ∧ tt ≤ 31 := by omega
  obtain ⟨ht1, ht31⟩ := htt1
  have Htt := Lib.hid htt
  clear htt
  refine (new_any limit B tt _ Htt.out).mono ?_
  rintro _ w2 ⟨rfl, T2, hk2, hs2⟩
  have hlo : w.heap.size ≤ w1.heap.size := hk1.size
  have hk : Keep NoB w w2 := hk1.trans hk2
  generalize htb : w1.heap.size + 1 = tb at *
  generalize hmb : w1.heap.size = mb at *
  have hlo2 : w.heap.size ≤ tb := by omega
  clear hk1 hk2 hs2 htb hmb
  obtain ⟨M0, hM0⟩ : ∃ v, max limit 0 = v := ⟨_, rfl⟩
  have HM0 := Lib.hid hM0
  clear hM0
  go_wp2_with fail
  go_loopw [8] (fun i wr => ∃ (k : Nat) (L : LL) (last : Int), k ≤ len0 ∧ k ≤ 200 ∧ i = .int .i64 k ∧ L.length ≤ k ∧ (L.length : Int) ≤ M0 ∧ 0 ≤ last ∧ last ≤ k ∧ Tab wr tb mb limit tt last L ∧ Lefts L tt ∧ Keep NoB w wr) (fun i _ => len0 - (intOf i).toNat)
  case atStart => exact ⟨0, [], 0, Nat.zero_le _, Nat.zero_le _, rfl, Nat.le_refl _, by rw [← HM0.out]; simp; omega, by omega, by simp, T2, by intro p hp; simp at hp, hk⟩
  case round =>
    obtain ⟨k, L, last, hk0, hk200, rfl, hL, hLM, hla0, hlak, T, hN, hk⟩ := hrel
    by_cases hgo : k < len0 ∧ k < 200
    · obtain ⟨hlt, h200⟩ := hgo
      have h200i : decide ((k : Int) < 200) = true := by simp; omega
      rcases hrow with h | ⟨b, off, rfl, hb, hc⟩
      · omega
      have hcw := hc k hlt
      have hs := hok k hlt
      clear hc
      generalize z k = s at hcw hs
      have hb0 : b < wr.heap.size := Nat.lt_of_lt_of_le hb hk.size
      have l0 : wr.cell? ⟨b, off + k, none⟩ = some (.string s) := (hk.cell (p := ⟨b, off + k, none⟩) hb (fun h => h)).trans hcw
      clear hcw
      obtain ⟨⟨v, ok, last', L'⟩, hr⟩ : ∃ r, grantR limit tt last L (kS s) = r := ⟨_, rfl⟩
      have hap := T.map.apart law9
      have hg1 := grant_len hr hap
      obtain ⟨hg11, hg12, hg13⟩ := hg1
      have hN' := grant_lefts hr hN ht1
      have hLM' : (L'.length : Int) ≤ M0 := by rw [← HM0.out] at hLM ⊢; exact hg12 hLM
      have hlast : 0 ≤ last' ∧ last' ≤ k + 1 := by omega
      obtain ⟨hla1, hla2⟩ := hlast
      clear hg12 hg13
      have Hr := Lib.hid hr
      clear hr
      have hcase : ((k : Int) == 0) = false ∨ (((k : Int) == 0) = true ∧ ok = true ∧ decide (0 < limit) = true) ∨ (((k : Int) == 0) = true ∧ ok = false ∧ decide (0 < limit) = false) := by
        by_cases hk00 : k = 0
        · right
          have hL0 : L = [] := List.length_eq_zero_iff.1 (by omega)
          have := Hr.out
          subst hL0
          unfold grantR at this
          by_cases hl : limit ≤ 0
          · right
            rw [if_pos (by simpa using hl)] at this
            cases this
            exact ⟨by simp [hk00], rfl, by simpa using hl⟩
          · left
            rw [if_neg (by simpa using hl)] at this
            cases this
            exact ⟨by simp [hk00], rfl, by simp; omega⟩
        · left
          simp; omega
      have Hc := Lib.hid hcase
      clear hcase
      go_wp2_with fail
      refine (grant_any tb mb limit tt last L s _ T hs (by unfold maxLen; omega) hla0 (by omega) v ok last' L' Hr.out).mono ?_
      rintro _ w3 ⟨rfl, T3, hk3⟩
      have K3 : Keep NoB w w3 := hk.trans' hk3 (fun i hi e => by rcases e with e | e <;> omega)
      go_wp2_with fail
      refine (len_any tb mb limit tt last' L' _ T3).mono ?_
      rintro _ _ ⟨rfl, rfl⟩
      rcases Hc.out with hd | ⟨hd, rfl, hd2⟩ | ⟨hd, rfl, hd2⟩
      all_goals
        go_wp2_with (refine wpList_max2 _ rfl _ _ _ _ rfl _ _ rfl rfl M0 HM0.out ?_)
        go_roundw
        case rel => exact ⟨k + 1, L', last', hlt, h200, by go_num, by omega, hLM', hla1, by simpa using hla2, T3, hN', K3⟩
        case measure => simp [intOf]; omega
    · have hout : (¬ k < len0 ∧ decide ((k : Int) < (len0 : Int)) = false) ∨ (k < len0 ∧ ¬ k < 200 ∧ decide ((k : Int) < 200) = false) := by
        by_cases h1 : k < len0
        · right
          have : ¬ k < 200 := fun h => hgo ⟨h1, h⟩
          exact ⟨h1, this, by simp; omega⟩
        · left
          exact ⟨h1, by simp; omega⟩
      clear hgo
      rcases hout with ⟨h1, hd⟩ | ⟨h1, h2, hd⟩
      all_goals
        go_wp2_with fail
        clear hd h1
        go_loopw [11] (fun i wr => ∃ (j : Nat) (L : LL), (j : Int) ≤ tt ∧ i = .int .i64 j ∧ L.length ≤ 200 ∧ Tab wr tb mb limit tt last L ∧ Lefts L (tt - j) ∧ Keep NoB w wr) (fun i _ => tt.toNat - (intOf i).toNat)
        case atStart => exact ⟨0, L, by simp; omega, rfl, by omega, T, by simpa using hN, hk⟩
        case round =>
          obtain ⟨j, L1, hj, rfl, hL1, T1, hN1, hk1⟩ := hrel
          by_cases hjt : (j : Int) < tt
          · go_wp2_with (refine wpList_max2 _ rfl _ _ _ _ rfl _ _ rfl rfl tt Htt.out ?_)
            refine (tick_any tb mb limit tt last L1 _ T1 (by unfold maxLen; omega) (fun p hp => by have := hN1 p hp; omega)).mono ?_
            rintro _ w4 ⟨rfl, T4, hk4⟩
            have K4 : Keep NoB w w4 := hk1.trans' hk4 (fun i hi e => by rcases e with e | e <;> omega)
            go_wp2_with fail
            go_roundw
            case rel => exact ⟨j + 1, tickL L1, by simp; omega, by go_num, by have := tick_len L1; omega, T4, by have := tick_lefts hN1; intro p hp; have := this p hp; simp; omega, K4⟩
            case measure => simp [intOf]; omega
          · have hz : tt - (j : Int) = 0 := by omega
            rw [hz] at hN1
            obtain rfl := lefts_none hN1
            clear hz
            go_wp2_with (refine wpList_max2 _ rfl _ _ _ _ rfl _ _ rfl rfl tt Htt.out ?_)
            refine (len_any tb mb limit tt last [] _ T1).mono ?_
            rintro _ _ ⟨rfl, rfl⟩
            go_wp2
            go_ret
            exact ⟨rfl, hk1.below (fun _ _ h => h)⟩
end Go.Proofs.Ytmndmgfianhbpaa
