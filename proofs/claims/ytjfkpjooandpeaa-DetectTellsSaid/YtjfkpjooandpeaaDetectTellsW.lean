/- The walk of DetectTells. -/
import Derived.Test.YtjfkpjooandpeaaDetectI
namespace Go.Proofs.Ytjfkpjooandpeaa
open Go Go.RowKit Go.Maps Go.Sort

theorem i64_and31 (n : Int) : bits .and .i64 n 31 = n % 32 := by
  have h127 : (BitVec.ofInt 64 31).toNat = 2 ^ 5 - 1 := by decide
  have key : (BitVec.ofInt 64 n &&& BitVec.ofInt 64 31).toNat = (n % ((2 ^ 64 : Nat) : Int)).toNat % 2 ^ 5 := by
    rw [BitVec.toNat_and, BitVec.toNat_ofInt, h127, Nat.and_two_pow_sub_one_eq_mod]
  show IntKind.i64.wrap ((BitVec.ofInt 64 n &&& BitVec.ofInt 64 31).toNat : Nat) = n % 32
  rw [key, IntKind.wrap_i64]
  omega
theorem i64_and15 (n : Int) : bits .and .i64 n 15 = n % 16 := by
  have h127 : (BitVec.ofInt 64 15).toNat = 2 ^ 4 - 1 := by decide
  have key : (BitVec.ofInt 64 n &&& BitVec.ofInt 64 15).toNat = (n % ((2 ^ 64 : Nat) : Int)).toNat % 2 ^ 4 := by
    rw [BitVec.toNat_and, BitVec.toNat_ofInt, h127, Nat.and_two_pow_sub_one_eq_mod]
  show IntKind.i64.wrap ((BitVec.ofInt 64 n &&& BitVec.ofInt 64 15).toNat : Nat) = n % 16
  rw [key, IntKind.wrap_i64]
  omega

def ab (x y : Int) : DL := [(kT sA, x), (kT sB, y)]
def vA (p : Int) (k : Nat) : Int := if (k : Int) < p then p - k else 0
theorem ab_dies {x y : Int} (hy : y ≠ 1) (M : List ByteArray) (h : (x = 1 ∧ M = [sA]) ∨ (x ≠ 1 ∧ M = [])) : keysOf (diesL (ab x y)) = M := by
  rcases h with ⟨rfl, rfl⟩ | ⟨hx, rfl⟩
  · simp [ab, diesL, keysOf, hy, txt_kT]
  · simp [ab, diesL, keysOf, hy, hx]
theorem vals_ab {x y : Int} (h : (0 ≤ x ∧ x ≤ 100) ∧ 0 ≤ y ∧ y ≤ 100) : ∀ q ∈ ab x y, 0 ≤ q.2 ∧ q.2 ≤ 9223372036854775807 := by
  intro q hq
  simp only [ab, List.mem_cons, List.not_mem_nil, or_false] at hq
  rcases hq with rfl | rfl <;> (simp only; omega)

theorem tell_case (p : Int) (hp : 2 ≤ p) (kn : Nat) : ∃ (M : List ByteArray) (e1 al : Bool), keysOf (diesL (ab (vA p kn) p)) = M ∧ (((kn + 1 : Nat) : Int) == p) = e1 ∧ decide (((kn + 1 : Nat) : Int) < p) = al ∧ aliveB (ab (vA p (kn + 1)) (p - 1)) (kT sA) = al ∧ tickL (ab (vA p kn) p) = ab (vA p (kn + 1)) (p - 1) ∧ ((M = [sA] ∧ e1 = true ∧ al = false) ∨ (M = [] ∧ e1 = false)) := by
  have ht : tickL (ab (vA p kn) p) = ab (dec (vA p kn)) (dec p) := rfl
  have hdp : dec p = p - 1 := by unfold dec; rw [if_neg (by omega)]
  have ha : ∀ x y : Int, aliveB (ab x y) (kT sA) = decide (0 < x) := fun x y => rfl
  rw [ht, hdp, ha]
  by_cases h1 : ((kn + 1 : Nat) : Int) = p
  · have e1 : vA p kn = 1 := by unfold vA; rw [if_pos (by omega)]; omega
    have e2 : vA p (kn + 1) = 0 := by unfold vA; rw [if_neg (by omega)]
    exact ⟨[sA], true, false, ab_dies (by omega) _ (Or.inl ⟨e1, rfl⟩), by simpa using h1, decide_eq_false (by omega), by rw [e2]; rfl, by rw [e1, e2]; rfl, Or.inl ⟨rfl, rfl, rfl⟩⟩
  · by_cases h2 : ((kn + 1 : Nat) : Int) < p
    · have e1 : vA p kn = p - kn := by unfold vA; rw [if_pos (by omega)]
      have e2 : vA p (kn + 1) = p - (kn + 1 : Nat) := by unfold vA; rw [if_pos (by omega)]
      exact ⟨[], false, true, ab_dies (by omega) _ (Or.inr ⟨by omega, rfl⟩), by rw [beq_eq_false_iff_ne]; exact h1, decide_eq_true h2, by rw [e2]; exact decide_eq_true (by omega), by rw [e1, e2]; unfold dec; rw [if_neg (by omega)]; congr 1; omega, Or.inr ⟨rfl, rfl⟩⟩
    · have e1 : vA p kn = 0 := by unfold vA; rw [if_neg (by omega)]
      have e2 : vA p (kn + 1) = 0 := by unfold vA; rw [if_neg (by omega)]
      exact ⟨[], false, false, ab_dies (by omega) _ (Or.inr ⟨by omega, rfl⟩), by rw [beq_eq_false_iff_ne]; exact h1, decide_eq_false h2, by rw [e2]; rfl, by rw [e1, e2]; rfl, Or.inr ⟨rfl, rfl⟩⟩


set_option maxRecDepth 100000 in
set_option maxHeartbeats 4000000 in
theorem tells_walk (patience : Int) (a1 : Option Addr) (len1 cap1 : Nat) (z1 : Nat → Int) (w : World) (h1 : IsInt w a1 len1 z1) :
    Calls Try.prog 3 #[.int .i64 patience, .slice a1 len1 cap1] w fun e w' => e = .returned (.bool true) ∧ Below w.heap.size w w' := by
  have hmax1 : len1 ≤ maxLen := h1.1
  unfold maxLen at hmax1
  have H1 := Lib.hid h1
  clear h1
  obtain ⟨pa, hpa⟩ : ∃ pa : Int, bits .and .i64 patience 15 = pa := ⟨_, rfl⟩
  have hpa' : pa = patience % 16 := by rw [← hpa, i64_and15]
  obtain ⟨p, hp⟩ : ∃ p : Int, 2 + pa = p := ⟨_, rfl⟩
  have hp2 : 2 ≤ p ∧ p ≤ 17 := by omega
  obtain ⟨hpa0, hpa1⟩ : 0 ≤ pa ∧ pa ≤ 15 := by omega
  have Hp2 := Lib.hid hp2
  have hpm : max p 1 = p := by omega
  have Hpm := Lib.hid hpm
  obtain ⟨hp2a, hp2b⟩ := hp2
  clear hpa' hpm
  go_enter Try.func3, Try.ntmps3
  go_wp2_with fail
  refine (awake_any _).mono ?_
  rintro _ w1 ⟨rfl, k1⟩
  go_wp2_with fail
  refine (new_ab _ p p Hpm.out).mono ?_
  rintro _ w2 ⟨rfl, T0, k2⟩
  have s1 := k1.size
  have K2 := k1.trans k2
  obtain ⟨tb, htb⟩ : ∃ t, w1.heap.size + 2 = t := ⟨_, rfl⟩
  obtain ⟨mb, hmb⟩ : ∃ t, w1.heap.size + 1 = t := ⟨_, rfl⟩
  rw [htb]
  rw [htb, hmb] at T0
  have hfr1 : w.heap.size ≤ tb := by omega
  have hfr2 : w.heap.size ≤ mb := by omega
  have hfx := Lib.hid (show ∀ i, i < w.heap.size → TwoB tb mb i → NoB i from fun i hi e => by rcases e with e | e <;> omega)
  clear htb hmb s1 k1 k2 hp hpa hpa0 hpa1 hp2a hp2b
  go_wp2_with fail
  go_loopw [6] (fun i wr => ∃ (k : Nat) (ch : Int), k ≤ len1 ∧ k ≤ 50 ∧ i = .int .i64 k ∧ Tab wr tb mb p ch (ab p p) ∧ 0 ≤ ch ∧ ch ≤ 100 * k ∧ Keep NoB w wr) (fun i _ => len1 - (intOf i).toNat)
  case atStart => exact ⟨0, 0, Nat.zero_le _, Nat.zero_le _, rfl, T0, by omega, by omega, K2⟩
  case round =>
    obtain ⟨k, ch, hk, hk50, rfl, T, hc0, hc1, kr⟩ := hrel
    by_cases hgo : k < len1 ∧ k < 50
    · obtain ⟨hlt, h50⟩ := hgo
      have h50i : decide ((k : Int) < 50) = true := by simp; omega
      obtain ⟨b, off, rfl, hb, hc⟩ := (H1.out.keep kr).cell hlt
      generalize z1 k = n0 at hc
      obtain ⟨n, hn⟩ : ∃ n : Nat, bits .and .i64 n0 31 = (n : Int) := ⟨(n0 % 32).toNat, by rw [i64_and31]; omega⟩
      have hn31 : n ≤ 31 := by have := i64_and31 n0; omega
      have hab0 : vA p 0 = p := by unfold vA; rw [if_pos (by have := Hp2.out; omega)]; omega
      have Hab0 := Lib.hid hab0
      clear hab0
      go_wp2_with fail
      clear hn hc
      go_loopw [8] (fun i wx => ∃ (kn : Nat) (cx : Int), kn ≤ n ∧ i = .int .i64 ((kn + 1 : Nat) : Int) ∧ Tab wx tb mb p cx (ab (vA p kn) p) ∧ ch ≤ cx ∧ cx ≤ ch + kn ∧ Keep NoB w wx) (fun i _ => n + 1 - (intOf i).toNat)
      case atStart => exact ⟨0, ch, Nat.zero_le _, rfl, by rw [Hab0.out]; exact T, Int.le_refl _, by omega, kr⟩
      case round =>
        obtain ⟨kn, cx, hkn, rfl, T, hx0, hx1, kx⟩ := hrel
        have hp1 := Hp2.out.1
        have hp17 := Hp2.out.2
        by_cases hle : kn < n
        · have hd : decide (((kn + 1 : Nat) : Int) ≤ (n : Int)) = true := decide_eq_true (by omega)
          have hv1 := Lib.hid (vals_ab (x := vA p kn) (y := p) (by unfold vA; split <;> omega))
          obtain ⟨M, e1, al, hM, he1, hal, haB, htk, hcase⟩ := tell_case p hp1 kn
          have HM := Lib.hid hM
          have HaB := Lib.hid haB
          have Htk := Lib.hid htk
          have He1 := Lib.hid he1
          have Hal := Lib.hid hal
          have Hcase := Lib.hid hcase
          clear hM haB htk he1 hal hcase
          go_wp2_with fail
          refine (tick_any tb mb p cx _ _ T (by simp [ab]) hv1.out (by omega) (by omega) M HM.out).mono ?_
          rintro _ w4 ⟨a4, c4, rfl, O4, T4, k4⟩
          rw [Htk.out] at T4
          have K4 : Keep NoB w w4 := kx.trans' k4 hfx.out
          have hx4 : vA p (kn + 1) ≤ p := by unfold vA; split <;> omega
          obtain ⟨x4, hxx⟩ : ∃ x, vA p (kn + 1) = x := ⟨_, rfl⟩
          have Hx4 := Lib.hid hxx
          rw [hxx] at T4 hx4
          have haB := HaB.out
          rw [hxx] at haB
          have HaB := Lib.hid haB
          clear haB hxx
          have hb4 : ((p - 1) == 0) = false := by rw [beq_eq_false_iff_ne]; omega
          have hbl : aliveB (ab x4 p) (kT sB) = true := by show decide (0 < p) = true; simp; omega
          have Hbl := Lib.hid hbl
          have hsb : lget (ab x4 (p - 1)) (kT sB) = some (p - 1) := rfl
          have Hsb := Lib.hid hsb
          have Hb4 := Lib.hid hb4
          clear k4 hb4 hbl hsb
          rcases Hcase.out with ⟨rfl, rfl, rfl⟩ | ⟨rfl, rfl⟩
          · obtain ⟨g, e, hg1, hg2, hc4, _⟩ := O4.cell1 cS_len (j := 0) (x := sA) rfl rfl
            cases e
            have hsa : (sA.toList == [97]) = true := by rw [ByteArray.toList_eq]; rfl
            have he1 : (((kn : Int) + 1) == p) = true := He1.out
            have hal : decide ((kn : Int) + 1 < p) = false := Hal.out
            go_wp2_with fail
            refine (alive_any tb mb p _ _ sA _ T4 (by decide) false HaB.out).mono ?_
            rintro _ w4 ⟨rfl, rfl⟩
            go_wp2_with fail
            clear he1 hal
            refine (beat_more tb mb p _ _ sB _ T4 (by decide) (by simp [ab, maxLen]) (p - 1) Hsb.out Hb4.out).mono ?_
            rintro _ w6 ⟨rfl, T6, k6⟩
            have T6' : Tab w6 tb mb p _ (ab x4 p) := T6
            have K6 : Keep NoB w w6 := K4.trans' k6 hfx.out
            clear T6 k6
            go_wp2_with fail
            refine (alive_any tb mb p _ _ sB _ T6' (by decide) true Hbl.out).mono ?_
            rintro _ w6 ⟨rfl, rfl⟩
            go_wp2_with fail
            go_roundw
            case rel => exact ⟨kn + 1, _, hle, by go_num, by rw [← Hx4.out] at T6'; exact T6', by simp <;> omega, by simp <;> omega, K6⟩
            case measure => simp [intOf]; omega
          · have he1 : (((kn : Int) + 1) == p) = false := He1.out
            have hal : decide ((kn : Int) + 1 < p) = al := Hal.out
            go_wp2_with fail
            refine (alive_any tb mb p _ _ sA _ T4 (by decide) al HaB.out).mono ?_
            rintro _ w4 ⟨rfl, rfl⟩
            cases al
            all_goals
              go_wp2_with fail
              clear he1 hal
              refine (beat_more tb mb p _ _ sB _ T4 (by decide) (by simp [ab, maxLen]) (p - 1) Hsb.out Hb4.out).mono ?_
              rintro _ w6 ⟨rfl, T6, k6⟩
              have T6' : Tab w6 tb mb p _ (ab x4 p) := T6
              have K6 : Keep NoB w w6 := K4.trans' k6 hfx.out
              clear T6 k6
              go_wp2_with fail
              refine (alive_any tb mb p _ _ sB _ T6' (by decide) true Hbl.out).mono ?_
              rintro _ w6 ⟨rfl, rfl⟩
              go_wp2_with fail
              go_roundw
              case rel => exact ⟨kn + 1, _, hle, by go_num, by rw [← Hx4.out] at T6'; exact T6', by simp <;> omega, by simp <;> omega, K6⟩
              case measure => simp [intOf]; omega
        · have hd : decide (((kn + 1 : Nat) : Int) ≤ (n : Int)) = false := decide_eq_false (by omega)
          have hkn2 : kn = n := by omega
          subst hkn2
          obtain ⟨r, hr⟩ : ∃ r, decide (p ≤ (kn : Int)) = r := ⟨_, rfl⟩
          obtain ⟨x4, hx4⟩ : ∃ x, vA p kn = x := ⟨_, rfl⟩
          rw [hx4] at T
          obtain ⟨c5, hc5⟩ : ∃ c5, (lget (ab x4 p) (kT sA) = some 0 ∧ r = true ∧ c5 = cx + 1) ∨ (lget (ab x4 p) (kT sA) ≠ some 0 ∧ r = false ∧ c5 = cx) := by
            have e : lget (ab x4 p) (kT sA) = some x4 := rfl
            rw [e, ← hx4, ← hr]
            unfold vA
            by_cases h : (kn : Int) < p
            · exact ⟨cx, Or.inr ⟨by rw [if_pos h]; simp; omega, by simp; omega, rfl⟩⟩
            · exact ⟨cx + 1, Or.inl ⟨by rw [if_neg h], by simp; omega, rfl⟩⟩
          have Hc5 := Lib.hid hc5
          have hb5 : cx ≤ c5 ∧ c5 ≤ cx + 1 := by omega
          obtain ⟨hb51, hb52⟩ := hb5
          have hal1 : aliveB (ab p p) (kT sA) = true := by show decide (0 < p) = true; simp; omega
          have hal2 : aliveB (ab p p) (kT sB) = true := by show decide (0 < p) = true; simp; omega
          have Hal1 := Lib.hid hal1
          have Hal2 := Lib.hid hal2
          have Hr := Lib.hid hr
          clear hc5 hx4 hal1 hal2 hr
          go_wp2_with fail
          refine (beat_any tb mb p cx _ sA _ T (by decide) (by simp [ab, maxLen]) (by omega) (by omega) r c5 Hc5.out (ab p p) rfl).mono ?_
          rintro _ w5 ⟨rfl, T5, k5⟩
          have K5 : Keep NoB w w5 := kx.trans' k5 hfx.out
          have hr := Hr.out
          clear k5
          cases r
          all_goals
            go_wp2_with fail
            refine (alive_any tb mb p _ _ sA _ T5 (by decide) true Hal1.out).mono ?_
            rintro _ w5 ⟨rfl, rfl⟩
            go_wp2_with fail
            refine (alive_any tb mb p _ _ sB _ T5 (by decide) true Hal2.out).mono ?_
            rintro _ w5 ⟨rfl, rfl⟩
            clear hr
            go_wp2_with fail
            go_roundw
            case rel => exact ⟨k + 1, c5, hlt, h50, by go_num, T5, by omega, by omega, K5⟩
            case measure => simp [intOf]; omega
    · have hout : (¬ k < len1 ∧ decide ((k : Int) < (len1 : Int)) = false) ∨ (k < len1 ∧ ¬ k < 50 ∧ decide ((k : Int) < 50) = false) := by
        by_cases h1 : k < len1
        · right
          have : ¬ k < 50 := fun h => hgo ⟨h1, h⟩
          exact ⟨h1, this, by simp; omega⟩
        · left
          exact ⟨h1, by simp; omega⟩
      clear hgo
      rcases hout with ⟨h1, hd⟩ | ⟨h1, h2, hd⟩
      all_goals
        go_wp2
        go_ret
        exact ⟨rfl, kr.below (fun _ _ h => h)⟩
end Go.Proofs.Ytjfkpjooandpeaa
