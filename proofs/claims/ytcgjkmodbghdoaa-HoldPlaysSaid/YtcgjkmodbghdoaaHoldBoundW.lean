/- The walk of HoldBound. -/
import Derived.Test.YtcgjkmodbghdoaaHoldA
namespace Go.Proofs.Ytcgjkmodbghdoaa
open Go Go.RowKit Go.Maps

/-- An op of the laws: its number, its key, its index. -/
abbrev HOp := Int × ByteArray × Int
def opCells (x : HOp) : List Value := [.int .i64 x.1, .string x.2.1, .int .i64 x.2.2]
def opOk (x : HOp) : Prop := (Lit.int .i64 x.1).wf = true ∧ x.2.1.size ≤ maxLen ∧ (Lit.int .i64 x.2.2).wf = true

/-- What the walk is told of a slice of ops. -/
def IsOps (w : World) (a : Option Addr) (len : Nat) (z : Nat → HOp) : Prop :=
  len ≤ maxLen ∧ (∀ i, i < len → opOk (z i)) ∧
    (len = 0 ∨ ∃ b off, a = some ⟨b, off, none⟩ ∧ b < w.heap.size ∧ ∀ i, i < len → w.cell? ⟨b, off + i * 3, none⟩ = some (.int .i64 (z i).1) ∧ w.cell? ⟨b, off + i * 3 + 1, none⟩ = some (.string (z i).2.1) ∧ w.cell? ⟨b, off + i * 3 + 2, none⟩ = some (.int .i64 (z i).2.2))

set_option maxRecDepth 100000 in
set_option maxHeartbeats 1000000 in
theorem bound_walk (limit : Int) (a0 : Option Addr) (len0 cap0 : Nat) (z : Nat → HOp) (key : ByteArray) (w : World) (h0 : IsOps w a0 len0 z) (hkey : key.size ≤ maxLen) :
    Calls Try.prog 5 #[.int .i64 limit, .slice a0 len0 cap0, .string key] w fun e w' => e = .returned (.bool true) ∧ Below w.heap.size w w' := by
  obtain ⟨hmax, hok, hrow⟩ := h0
  unfold maxLen at hmax
  go_enter Try.func5, Try.ntmps5
  go_wp2_with fail
  refine (awake_any _).mono ?_
  rintro _ w1 ⟨rfl, hk1⟩
  go_wp2_with fail
  refine (new_any limit _).mono ?_
  rintro _ w2 ⟨rfl, T2, hk2, hs2⟩
  have hlo : w.heap.size ≤ w1.heap.size := hk1.size
  have hk : Keep NoB w w2 := hk1.trans hk2
  generalize htb : w1.heap.size + 1 = tb at *
  generalize hmb : w1.heap.size = mb at *
  have hlo2 : w.heap.size ≤ tb := by omega
  clear hk1 hk2 hs2 htb hmb
  go_wp2_with fail
  go_loopw [8, 9] (fun m i wr => ∃ (k : Nat) (L : List (Lit × Int)) (floor most : Int), k ≤ len0 ∧ k ≤ 200 ∧ i = .int .i64 k ∧ m = .int .i64 most ∧ L.length ≤ k ∧ Tab wr tb mb limit floor L ∧ Noted limit floor L most ∧ Keep NoB w wr) (fun _ i _ => len0 - (intOf i).toNat)
  case atStart => exact ⟨0, [], 0, 0, Nat.zero_le _, Nat.zero_le _, rfl, rfl, Nat.le_refl _, T2, noted_start limit, hk⟩
  case round =>
    obtain ⟨k, L, floor, most, hk0, hk200, rfl, rfl, hL, T, hN, hk⟩ := hrel
    by_cases hgo : k < len0 ∧ k < 200
    · obtain ⟨hlt, h200⟩ := hgo
      have h200i : decide ((k : Int) < 200) = true := by simp; omega
      rcases hrow with h | ⟨b, off, rfl, hb, hc⟩
      · omega
      obtain ⟨_, hcw1, hcw2⟩ := hc k hlt
      obtain ⟨_, hs, _⟩ := hok k hlt
      clear hc
      generalize hzk : z k = x at hcw1 hcw2 hs
      clear hzk
      obtain ⟨_, s, n⟩ := x
      simp only at hcw1 hcw2 hs
      have hb0 : b < wr.heap.size := Nat.lt_of_lt_of_le hb hk.size
      have l01 : wr.cell? ⟨b, off + k * 3 + 1, none⟩ = some (.string s) := (hk.cell (p := ⟨b, off + k * 3 + 1, none⟩) hb (fun h => h)).trans hcw1
      have l02 : wr.cell? ⟨b, off + k * 3 + 2, none⟩ = some (.int .i64 n) := (hk.cell (p := ⟨b, off + k * 3 + 2, none⟩) hb (fun h => h)).trans hcw2
      have Hw1 := Lib.hid hcw1
      have Hw2 := Lib.hid hcw2
      clear hcw1 hcw2
      obtain ⟨M, hM⟩ : ∃ v, max most n = v := ⟨_, rfl⟩
      obtain ⟨M0, hM0⟩ : ∃ v, max limit 0 = v := ⟨_, rfl⟩
      have HM := Lib.hid hM
      have HM0 := Lib.hid hM0
      clear hM hM0
      go_wp2_with fail
      refine wp_region_tail 11 (by kernel_rfl) (by kernel_rfl) ?_
      simp only [List.take_succ_cons, List.take_zero, List.drop_succ_cons, List.drop_zero]
      repeat still_step
      refine wpStill_nil ?_
      go_wp2_with fail
      refine (note_any tb mb limit floor L s n _ (T.keep (S := NoB) (by (repeat (with_reducible first | exact Keep.refl _ _ | assumption | refine Keep.alloc ?_ _ | refine Keep.drewN ?_ _ | refine Keep.drew ?_ | refine Keep.setCell ?_ (by first | (left; simp; done) | (left; simp; omega) | (right; simp [NoB, OneB, TwoB]; done)) _))) (fun h => h) (fun h => h)) hs (by unfold maxLen; omega) _ _ rfl rfl).mono ?_
      rintro _ w3 ⟨rfl, T3, hk3⟩
      have hN3 := noted_step hN (kS s) n (T3.map.apart law9)
      have hl3 := note_len limit L hN.apart (kS s) n
      generalize noteFl limit floor L (kS s) n = floor' at T3 hN3
      generalize noteL limit L (kS s) n = L' at T3 hN3 hl3
      rw [HM.out] at hN3
      have K3 : Keep NoB w w3 := hk.drew.trans' hk3 (fun i hi e => by rcases e with e | e <;> omega)
      have l31 : w3.cell? ⟨b, off + k * 3 + 1, none⟩ = some (.string s) := (K3.cell (p := ⟨b, off + k * 3 + 1, none⟩) hb (fun h => h)).trans Hw1.out
      have l32 : w3.cell? ⟨b, off + k * 3 + 2, none⟩ = some (.int .i64 n) := (K3.cell (p := ⟨b, off + k * 3 + 2, none⟩) hb (fun h => h)).trans Hw2.out
      have hle : (L'.length : Int) ≤ M0 := by have := hN3.len; rw [HM0.out] at this; exact this
      go_wp2_with (refine wpList_max2 _ rfl _ _ _ _ rfl _ _ rfl rfl M HM.out ?_)
      refine (len_any tb mb limit floor' L' _ T3).mono ?_
      rintro _ _ ⟨rfl, rfl⟩
      go_wp2_with (refine wpList_max2 _ rfl _ _ _ _ rfl _ _ rfl rfl M0 HM0.out ?_)
      go_roundw
      case rel => exact ⟨k + 1, L', floor', M, hlt, h200, by go_num, rfl, by omega, T3, hN3, K3⟩
      case measure => simp [intOf]; omega
    · have hout : (¬ k < len0 ∧ decide ((k : Int) < (len0 : Int)) = false) ∨ (k < len0 ∧ ¬ k < 200 ∧ decide ((k : Int) < 200) = false) := by
        by_cases h1 : k < len0
        · right
          have : ¬ k < 200 := fun h => hgo ⟨h1, h⟩
          exact ⟨h1, this, by simp; omega⟩
        · left
          exact ⟨h1, by simp; omega⟩
      clear hgo
      have hpl := Lib.hid (noted_pass hN)
      have hni := hN.hi
      rcases hout with ⟨h1, hd⟩ | ⟨h1, h2, hd⟩
      all_goals
        go_wp2_with fail
        refine (len_any tb mb limit floor L _ T).mono ?_
        rintro _ _ ⟨rfl, rfl⟩
        go_wp2_with fail
        refine (pass_any tb mb limit floor L most _ T (by unfold maxLen; omega) 0 (Or.inl ⟨hni, rfl⟩)).mono ?_
        rw [hpl.out]
        rintro _ w3 ⟨rfl, T3, hk3⟩
        have K3 : Keep NoB w w3 := hk.trans' hk3 (fun i hi e => by rcases e with e | e <;> omega)
        go_wp2_with fail
        refine (len_any tb mb limit 0 [] _ T3).mono ?_
        rintro _ _ ⟨rfl, rfl⟩
        go_wp2_with fail
        refine (floor_any tb mb limit 0 [] _ T3).mono ?_
        rintro _ _ ⟨rfl, rfl⟩
        go_wp2_with fail
        refine (allows_any tb mb limit 0 [] key 0 _ T3 hkey true rfl).mono ?_
        rintro _ _ ⟨rfl, rfl⟩
        go_wp2
        go_ret
        exact ⟨rfl, K3.below (fun _ _ h => h)⟩
end Go.Proofs.Ytcgjkmodbghdoaa
