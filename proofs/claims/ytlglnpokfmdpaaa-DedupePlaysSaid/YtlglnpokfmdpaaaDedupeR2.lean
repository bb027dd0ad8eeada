/- May of the reference; Load that is refused; and the answers of a table that is none. -/
import Derived.Test.YtlglnpokfmdpaaaDedupeR
namespace Go.Proofs.Ytlglnpokfmdpaaa
open Go Go.RowKit Go.Maps Go.Sort

theorem rlook_any (rb B : Nat) (a : Option Addr) (cap : Nat) (limit s r : Int) (N : List SE) (w : World) (T : RT w B rb a cap limit N) (hN : N.length ≤ 100000) (hr : RiseD N) (v : Int × Int × Int) (hv : lookF limit (absD N) s r = v) :
    Calls Try.prog 18 #[.pointer (some ⟨rb, 0, none⟩), .int .i64 s, .int .i64 r] w (LookPost v w) := by
  subst hv
  unfold lookF
  rcases first_se s N with ⟨j, x, hx, rfl, hj⟩ | hn
  · rw [absD_some hr (List.mem_of_getElem? hx)]
    exact rlook_hit rb B a cap limit x.1 r N w T hN j x.2.1 x.2.2.1 x.2.2.2 hx hj
  · rw [absD_none hn]
    simp only [absD_len]
    exact rlook_miss rb B a cap limit s r N w T hN hn

def RiseZ (z : Nat → SE) (n : Nat) : Prop := ∀ i, i + 1 < n → (z i).1 < (z (i + 1)).1
/-- The first that isn't above the one ahead of it. -/
def BadZ (z : Nat → SE) (n j : Nat) : Prop := 1 ≤ j ∧ j < n ∧ (z j).1 ≤ (z (j - 1)).1 ∧ RiseZ z j
theorem rise_case (z : Nat → SE) : ∀ n, RiseZ z n ∨ ∃ j, BadZ z n j
  | 0 => Or.inl (fun i h => by omega)
  | n + 1 => by
    rcases rise_case z n with h | ⟨j, h1, h2, h3⟩
    · by_cases hn : 1 ≤ n ∧ (z n).1 ≤ (z (n - 1)).1
      · exact Or.inr ⟨n, hn.1, by omega, hn.2, h⟩
      · left
        intro i hi
        by_cases hin : i + 1 < n
        · exact h i hin
        · obtain rfl : n = i + 1 := by omega
          have h4 : ¬ (z (i + 1)).1 ≤ (z i).1 := fun h5 => hn ⟨by omega, h5⟩
          omega
    · exact Or.inr ⟨j, h1, by omega, h3⟩


set_option maxHeartbeats 2000000 in
theorem may_rise (rb B : Nat) (a' : Option Addr) (cap' : Nat) (limit : Int) (N : List SE) (a : Option Addr) (n cap : Nat) (z : Nat → SE) (w : World) (T : RT w B rb a' cap' limit N) (h : SeA w a n z) (hn : n ≤ 100000) (hr : RiseZ z n) (v : Bool) (hv : decide (n = 0 ∨ (n : Int) ≤ limit) = v) :
    Calls Try.prog 17 #[.pointer (some ⟨rb, 0, none⟩), .slice a n cap] w fun e w' => e = .returned (.bool v) ∧ Keep NoB w w' := by
  have c0 := blk_cell T.blk 0
  have c1 := blk_cell T.blk 1
  have hlt := blk_lt T.blk
  have HT := Lib.hid T
  clear T
  simp at c0 c1
  have Hh := Lib.hid h
  have Hr := Lib.hid hr
  have Hv := Lib.hid hv
  clear h hr hv
  go_enter Try.func17, Try.ntmps17
  go_wp2_with fail
  go_loopw [5] (fun iv wr => ∃ k : Nat, 1 ≤ k ∧ (k ≤ n ∨ k = 1) ∧ iv = .int .i64 (k : Int) ∧ Keep NoB w wr) (fun iv _ => n - (intOf iv).toNat)
  case atStart => exact ⟨1, Nat.le_refl _, Or.inr rfl, rfl, Keep.refl _ _⟩
  case round =>
    obtain ⟨k, hk1, hk, rfl, kr⟩ := hrel
    by_cases hkn : k < n
    · rcases Hh.out.2 with h0 | ⟨b, off, rfl, hb, hc⟩
      · omega
      have hlt2 := Hr.out (k - 1) (by omega)
      rw [show k - 1 + 1 = k by omega] at hlt2
      have m0 := kr.some (hc k hkn).1 (fun h => h)
      have q0 := kr.some (hc (k - 1) (by omega)).1 (fun h => h)
      have hbw := Nat.lt_of_lt_of_le hb kr.size
      generalize (z k).1 = x at m0 hlt2
      generalize (z (k - 1)).1 = y at q0 hlt2
      have hd1 : decide (x ≤ y) = false := decide_eq_false (by omega)
      have p1 : IntKind.i64.wrap ((k : Int) - 1) = (k : Int) - 1 := by rw [IntKind.wrap_i64]; omega
      have p2 : (0 : Int) ≤ (k : Int) - 1 := by omega
      have p3 : (k : Int) - 1 < (n : Int) := by omega
      have p4 : ((k : Int) - 1).toNat = k - 1 := by omega
      have p5 : (1 : Int) ≤ (k : Int) := by omega
      clear hc c0 c1 hlt
      go_wp2_with fail
      go_quiet (fail)
      go_wp2_with fail
      go_roundw
      case rel => exact ⟨k + 1, by omega, Or.inl hkn, by go_num, kr.drewN _⟩
      case measure => simp [intOf]; omega
    · have hd2 : decide ((k : Int) < (n : Int)) = false := decide_eq_false (by omega)
      have TT := HT.out.keep0 kr
      have d1 := blk_cell TT.blk 1
      have dl := blk_lt TT.blk
      have HTT := Lib.hid TT
      clear TT
      simp at d1
      have hv := Hv.out
      clear c0 c1
      rcases (by omega : n = 0 ∨ (n ≠ 0 ∧ (n : Int) ≤ limit) ∨ (n ≠ 0 ∧ ¬ (n : Int) ≤ limit)) with h1 | ⟨h1, h2⟩ | ⟨h1, h2⟩
      · have e1 : ((n : Int) == 0) = true := by simpa using h1
        obtain rfl : v = true := by rw [← hv]; simp [h1]
        clear h1 hv
        go_wp2
        go_ret
        exact ⟨rfl, kr⟩
      · have e1 : ((n : Int) == 0) = false := by simpa using h1
        have e2 : decide ((n : Int) ≤ limit) = true := decide_eq_true h2
        obtain rfl : v = true := by rw [← hv]; simp [h2]
        clear h1 h2 hv
        go_wp2
        go_ret
        exact ⟨rfl, kr⟩
      · have e1 : ((n : Int) == 0) = false := by simpa using h1
        have e2 : decide ((n : Int) ≤ limit) = false := decide_eq_false h2
        obtain rfl : v = false := by rw [← hv]; simp [h1]; omega
        clear h1 h2 hv
        go_wp2
        go_ret
        exact ⟨rfl, kr⟩

set_option maxHeartbeats 2000000 in
theorem may_bad (rb : Nat) (a : Option Addr) (n cap : Nat) (z : Nat → SE) (w : World) (h : SeA w a n z) (hn : n ≤ 100000) (j : Nat) (hj : BadZ z n j) :
    Calls Try.prog 17 #[.pointer (some ⟨rb, 0, none⟩), .slice a n cap] w fun e w' => e = .returned (.bool false) ∧ Keep NoB w w' := by
  have Hh := Lib.hid h
  obtain ⟨hj1, hjn, hjb, hr⟩ := hj
  have Hr := Lib.hid hr
  have Hjb := Lib.hid hjb
  clear h hr hjb
  go_enter Try.func17, Try.ntmps17
  go_wp2_with fail
  go_loopw [5] (fun iv wr => ∃ k : Nat, 1 ≤ k ∧ k ≤ j ∧ iv = .int .i64 (k : Int) ∧ Keep NoB w wr) (fun iv _ => n - (intOf iv).toNat)
  case atStart => exact ⟨1, Nat.le_refl _, hj1, rfl, Keep.refl _ _⟩
  case round =>
    obtain ⟨k, hk1, hk, rfl, kr⟩ := hrel
    have hkn : k < n := by omega
    rcases Hh.out.2 with h0 | ⟨b, off, rfl, hb, hc⟩
    · omega
    have m0 := kr.some (hc k hkn).1 (fun h => h)
    have q0 := kr.some (hc (k - 1) (by omega)).1 (fun h => h)
    have hbw := Nat.lt_of_lt_of_le hb kr.size
    have p1 : IntKind.i64.wrap ((k : Int) - 1) = (k : Int) - 1 := by rw [IntKind.wrap_i64]; omega
    have p2 : (0 : Int) ≤ (k : Int) - 1 := by omega
    have p3 : (k : Int) - 1 < (n : Int) := by omega
    have p4 : ((k : Int) - 1).toNat = k - 1 := by omega
    have p5 : (1 : Int) ≤ (k : Int) := by omega
    by_cases hkj : k < j
    · have hlt2 := Hr.out (k - 1) (by omega)
      rw [show k - 1 + 1 = k by omega] at hlt2
      generalize (z k).1 = x at m0 hlt2
      generalize (z (k - 1)).1 = y at q0 hlt2
      have hd1 : decide (x ≤ y) = false := decide_eq_false (by omega)
      clear hc
      go_wp2_with fail
      go_quiet (fail)
      go_wp2_with fail
      go_roundw
      case rel => exact ⟨k + 1, by omega, hkj, by go_num, kr.drewN _⟩
      case measure => simp [intOf]; omega
    · obtain rfl : k = j := by omega
      have hlt2 := Hjb.out
      generalize (z k).1 = x at m0 hlt2
      generalize (z (k - 1)).1 = y at q0 hlt2
      have hd1 : decide (x ≤ y) = true := decide_eq_true hlt2
      clear hc
      go_wp2_with fail
      go_quiet (fail)
      go_wp2
      go_ret
      exact ⟨rfl, kr.drewN _⟩

/-! ### Load, refused -/
set_option maxHeartbeats 2000000 in
theorem load_long (tb mb : Nat) (limit : Int) (L : List (Lit × Last)) (a : Option Addr) (n cap : Nat) (w : World) (T : Tab w tb mb limit L) (m : Int) (hm : (if limit < 0 then 0 else limit) = m) (hl : ¬ (n : Int) ≤ m) :
    Calls Try.prog 16 #[.pointer (some ⟨tb, 0, none⟩), .slice a n cap] w fun e w' => e = .returned (.bool false) ∧ w' = w := by
  have c0 := blk_cell T.blk 0
  have c1 := blk_cell T.blk 1
  have hlt := blk_lt T.blk
  have hd : decide (m < (n : Int)) = true := decide_eq_true (by omega)
  simp at c0 c1
  clear T
  go_enter Try.func16, Try.ntmps16
  go_wp2
  go_ret
  exact ⟨rfl, rfl⟩

set_option maxHeartbeats 2000000 in
theorem load_bad (tb mb : Nat) (limit : Int) (L : List (Lit × Last)) (a : Option Addr) (n cap : Nat) (z : Nat → SE) (w : World) (T : Tab w tb mb limit L) (h : SeA w a n z) (hn : n ≤ 100000) (m : Int) (hm : (if limit < 0 then 0 else limit) = m) (hl : (n : Int) ≤ m) (j : Nat) (hj : BadZ z n j) :
    Calls Try.prog 16 #[.pointer (some ⟨tb, 0, none⟩), .slice a n cap] w fun e w' => e = .returned (.bool false) ∧ Keep NoB w w' := by
  have Hh := Lib.hid h
  obtain ⟨hj1, hjn, hjb, hr⟩ := hj
  have Hr := Lib.hid hr
  have Hjb := Lib.hid hjb
  have c0 := blk_cell T.blk 0
  have c1 := blk_cell T.blk 1
  have hlt := blk_lt T.blk
  have hd : decide (m < (n : Int)) = false := decide_eq_false (by omega)
  simp at c0 c1
  clear T h hr hjb
  go_enter Try.func16, Try.ntmps16
  go_wp2_with fail
  clear hm hd
  go_loopw [22] (fun iv wr => ∃ k : Nat, k ≤ j ∧ iv = .int .i64 (k : Int) ∧ Keep NoB w wr) (fun iv _ => n - (intOf iv).toNat)
  case atStart => exact ⟨0, Nat.zero_le _, rfl, Keep.refl _ _⟩
  case round =>
    obtain ⟨k, hk, rfl, kr⟩ := hrel
    have hkn : k < n := by omega
    rcases Hh.out.2 with h0 | ⟨b, off, rfl, hb, hc⟩
    · omega
    by_cases h0 : k = 0
    · have m0 := kr.some (hc k hkn).1 (fun h => h)
      have hbw := Nat.lt_of_lt_of_le hb kr.size
      have hd0 : decide (0 < k) = false := by simp [h0]
      have hkj : k < j := by omega
      clear hc m0 h0
      go_wp2_with fail
      go_quiet (fail)
      go_wp2_with fail
      go_roundw
      case rel => exact ⟨k + 1, hkj, by go_num, kr.drewN _⟩
      case measure => simp [intOf]; omega
    · have hd0 : decide (0 < k) = true := by simp; omega
      have m0 := kr.some (hc k hkn).1 (fun h => h)
      have q0 := kr.some (hc (k - 1) (by omega)).1 (fun h => h)
      have hbw := Nat.lt_of_lt_of_le hb kr.size
      have p1 : IntKind.i64.wrap ((k : Int) - 1) = (k : Int) - 1 := by rw [IntKind.wrap_i64]; omega
      have p2 : (0 : Int) ≤ (k : Int) - 1 := by omega
      have p3 : (k : Int) - 1 < (n : Int) := by omega
      have p4 : ((k : Int) - 1).toNat = k - 1 := by omega
      have p5 : (1 : Int) ≤ (k : Int) := by omega
      by_cases hkj : k < j
      · have hlt2 := Hr.out (k - 1) (by omega)
        rw [show k - 1 + 1 = k by omega] at hlt2
        generalize (z k).1 = x at m0 hlt2
        generalize (z (k - 1)).1 = y at q0 hlt2
        have hd1 : decide (x ≤ y) = false := decide_eq_false (by omega)
        clear hc h0
        go_wp2_with fail
        go_quiet (fail)
        go_wp2_with fail
        go_roundw
        case rel => exact ⟨k + 1, hkj, by go_num, kr.drewN _⟩
        case measure => simp [intOf]; omega
      · obtain rfl : k = j := by omega
        have hlt2 := Hjb.out
        generalize (z k).1 = x at m0 hlt2
        generalize (z (k - 1)).1 = y at q0 hlt2
        have hd1 : decide (x ≤ y) = true := decide_eq_true hlt2
        clear hc h0
        go_wp2_with fail
        go_quiet (fail)
        go_wp2
        go_ret
        exact ⟨rfl, kr.drewN _⟩

/-! ### no table -/
theorem nload_any (a : Option Addr) (n cap : Nat) (w : World) : Calls Try.prog 16 #[.pointer none, .slice a n cap] w fun e w' => e = .returned (.bool false) ∧ w' = w := by
  go_enter Try.func16, Try.ntmps16
  go_wp2
  go_ret
  exact ⟨rfl, rfl⟩
theorem nlen_any (w : World) : Calls Try.prog 13 #[.pointer none] w fun e w' => e = .returned (.int .i64 0) ∧ w' = w := by
  go_enter Try.func13, Try.ntmps13
  go_wp2
  go_ret
  exact ⟨rfl, rfl⟩
theorem nall_any (w : World) : Calls Try.prog 14 #[.pointer none] w fun e w' => e = .returned (.slice none 0 0) ∧ Keep NoB w w' := by
  go_enter Try.func14, Try.ntmps14
  go_wp2
  go_ret
  refine ⟨rfl, ?_⟩
  (repeat (with_reducible first | exact Keep.refl _ _ | assumption | refine Keep.alloc ?_ _ | refine Keep.drewN ?_ _ | refine Keep.drew ?_ | refine Keep.setCell ?_ (by first | (left; simp; done) | (left; simp; omega) | (right; simp [NoB, OneB, TwoB]; done)) _))
theorem nlook_any (s r : Int) (w : World) : Calls Try.prog 10 #[.pointer none, .int .i64 s, .int .i64 r] w (LookPost (4, 0, 0) w) := by
  go_enter Try.func10, Try.ntmps10
  go_wp2
  refine bodyPost_ret ?_ rfl ⟨rfl, ?_⟩
  · simp [results, Try.results10, go_sem]
  · (repeat (with_reducible first | exact Keep.refl _ _ | assumption | refine Keep.alloc ?_ _ | refine Keep.drewN ?_ _ | refine Keep.drew ?_ | refine Keep.setCell ?_ (by first | (left; simp; done) | (left; simp; omega) | (right; simp [NoB, OneB, TwoB]; done)) _))
theorem nnote_any (s r e i : Int) (w : World) : Calls Try.prog 11 #[.pointer none, .int .i64 s, .int .i64 r, .agg #[.int .i64 e, .int .i64 i]] w fun e w' => e = .returned (.bool false) ∧ Keep NoB w w' := by
  go_enter Try.func11, Try.ntmps11
  go_wp2_with fail
  refine (nlook_any s r _).mono ?_
  rintro _ w1 ⟨rfl, hk⟩
  have hk1 := ((Keep.refl NoB w).alloc (.cells #[.int .i64 e, .int .i64 i] 29)).trans hk
  clear hk
  go_wp2
  go_ret
  exact ⟨rfl, hk1.alloc _⟩
end Go.Proofs.Ytlglnpokfmdpaaa
