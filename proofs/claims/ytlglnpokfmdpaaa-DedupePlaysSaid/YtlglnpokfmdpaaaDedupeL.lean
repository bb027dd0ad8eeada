/- What Load of package dedupe comes to. -/
import Derived.Test.YtlglnpokfmdpaaaDedupeB
import Derived.Test.YtlglnpokfmdpaaaLibKs
namespace Go.Proofs.Ytlglnpokfmdpaaa
open Go Go.RowKit Go.Maps Go.Sort

/-! ### plain -/
def absD (M : List SE) : List (Lit × Last) := M.map (fun x => (kI x.1, x.2))
def RiseD (M : List SE) : Prop := M.Pairwise (fun x y => x.1 < y.1)
theorem absD_len (M : List SE) : (absD M).length = M.length := by simp [absD]
theorem kI_ne {a b : Int} (h : a ≠ b) : (kI a).sameKey (kI b) = false := sameKey_ne (fun e => h (kI_inj e))
theorem kI_before (a b : Int) : (kI a).before (kI b) = decide (a < b) := by simp [kI, Lit.before]
theorem absD_ldel {M : List SE} {s : Int} (h : ∀ x ∈ M, x.1 ≠ s) : ldel (absD M) (kI s) = absD M := by
  unfold ldel absD
  rw [List.filter_eq_self]
  intro q hq
  obtain ⟨x, hx, rfl⟩ := List.mem_map.1 hq
  show (!(kI x.1).sameKey (kI s)) = true
  rw [kI_ne (h x hx)]
  rfl
theorem lins_last {s : Int} {v : Last} : ∀ {M : List SE}, (∀ x ∈ M, x.1 < s) → lins (kI s, v) (absD M) = absD (M ++ [(s, v)])
  | [], _ => rfl
  | y :: M, h => by
    have ih := lins_last (v := v) (fun x hx => h x (List.mem_cons_of_mem _ hx)) (M := M)
    have hy := h y (by simp)
    show (if (kI s).before (kI y.1) = true then _ else _) = _
    rw [kI_before, if_neg (by simp; omega)]
    show (kI y.1, y.2) :: lins (kI s, v) (absD M) = _
    rw [ih]
    rfl
theorem absD_snoc {M : List SE} {s : Int} {v : Last} (h : ∀ x ∈ M, x.1 < s) : lput (absD M) (kI s) v = absD (M ++ [(s, v)]) := by
  unfold lput
  rw [absD_ldel (fun x hx e => by have := h x hx; omega), lins_last h]
def seL (z : Nat → SE) (k : Nat) : List SE := (List.range k).map z
theorem seL_succ (z : Nat → SE) (k : Nat) : seL z (k + 1) = seL z k ++ [z k] := by simp [seL, List.range_succ]
theorem seL_len (z : Nat → SE) (k : Nat) : (seL z k).length = k := by simp [seL]
theorem seL_lt {z : Nat → SE} {n : Nat} (h : ∀ i, i + 1 < n → (z i).1 < (z (i + 1)).1) : ∀ {i j}, i < j → j < n → (z i).1 < (z j).1 := by
  intro i j hij hj
  induction j with
  | zero => omega
  | succ j ih =>
    have h1 := h j hj
    rcases Nat.lt_or_ge i j with h2 | h2
    · have := ih h2 (by omega)
      omega
    · rw [show i = j by omega]
      exact h1
theorem seL_put {z : Nat → SE} {n k : Nat} (h : ∀ i, i + 1 < n → (z i).1 < (z (i + 1)).1) (hk : k < n) : lput (absD (seL z k)) (kI (z k).1) (z k).2 = absD (seL z (k + 1)) := by
  rw [seL_succ, absD_snoc]
  intro x hx
  unfold seL at hx
  obtain ⟨i, hi, rfl⟩ := List.mem_map.1 hx
  exact seL_lt h (List.mem_range.1 hi) hk
theorem seL_rise {z : Nat → SE} {n : Nat} (h : ∀ i, i + 1 < n → (z i).1 < (z (i + 1)).1) : RiseD (seL z n) := by
  unfold RiseD seL
  rw [List.pairwise_map]
  refine List.Pairwise.imp_of_mem (fun {a b} ha hb hab => ?_) (List.pairwise_lt_range (n := n))
  exact seL_lt h hab (List.mem_range.1 hb)

/-- A slice that reads as sessions. -/
def SeA (w : World) (a : Option Addr) (n : Nat) (z : Nat → SE) : Prop :=
  (∀ i, i < n → (Lit.int .i64 (z i).1).wf = true) ∧
    (n = 0 ∨ ∃ b off, a = some ⟨b, off, none⟩ ∧ b < w.heap.size ∧ ∀ i, i < n → w.cell? ⟨b, off + i * 4, none⟩ = some (.int .i64 (z i).1) ∧ w.cell? ⟨b, off + i * 4 + 1, none⟩ = some (.int .i64 (z i).2.1) ∧ w.cell? ⟨b, off + i * 4 + 2, none⟩ = some (.int .i64 (z i).2.2.1) ∧ w.cell? ⟨b, off + i * 4 + 3, none⟩ = some (.int .i64 (z i).2.2.2))
theorem SeA.keep {w w' : World} {a : Option Addr} {n : Nat} {z : Nat → SE} (h : SeA w a n z) (hk : Keep NoB w w') : SeA w' a n z := by
  refine ⟨h.1, ?_⟩
  rcases h.2 with h | ⟨b, off, ha, hb, hc⟩
  · exact Or.inl h
  · exact Or.inr ⟨b, off, ha, Nat.lt_of_lt_of_le hb hk.size, fun i hi => ks4 (hc i hi) hk⟩

set_option maxHeartbeats 4000000 in
theorem load_yes (tb mb : Nat) (limit : Int) (L : List (Lit × Last)) (a : Option Addr) (n cap : Nat) (z : Nat → SE) (w : World) (T : Tab w tb mb limit L) (hne : tb ≠ mb) (h : SeA w a n z) (hmb : ∀ b off, a = some ⟨b, off, none⟩ → b ≠ mb) (hn : n ≤ 100000) (m : Int) (hm : (if limit < 0 then 0 else limit) = m) (hl : (n : Int) ≤ m) (hr : ∀ i, i + 1 < n → (z i).1 < (z (i + 1)).1) :
    Calls Try.prog 16 #[.pointer (some ⟨tb, 0, none⟩), .slice a n cap] w fun e w' => e = .returned (.bool true) ∧ Tab w' tb mb limit (absD (seL z n)) ∧ Keep (OneB mb) w w' := by
  have HT := Lib.hid T
  have Hh := Lib.hid h
  have Hr := Lib.hid hr
  have Hmb := Lib.hid hmb
  have c0 := blk_cell T.blk 0
  have c1 := blk_cell T.blk 1
  have hlt := blk_lt T.blk
  have hd : decide (m < (n : Int)) = false := decide_eq_false (by omega)
  simp at c0 c1
  clear T h hr hmb
  go_enter Try.func16, Try.ntmps16
  go_wp2_with fail
  clear hm hd
  go_loopw [22] (fun iv wr => ∃ k : Nat, k ≤ n ∧ iv = .int .i64 (k : Int) ∧ Keep NoB w wr) (fun iv _ => n - (intOf iv).toNat)
  case atStart => exact ⟨0, Nat.zero_le _, rfl, Keep.refl _ _⟩
  case round =>
    obtain ⟨k, hk, rfl, kr⟩ := hrel
    by_cases hkn : k < n
    · rcases Hh.out.2 with h0 | ⟨b, off, rfl, hb, hc⟩
      · omega
      have m0 := kr.some (hc k hkn).1 (fun h => h)
      have hbw := Nat.lt_of_lt_of_le hb kr.size
      by_cases h0 : k = 0
      · have hd0 : decide (0 < k) = false := by simp [h0]
        clear hc m0 h0
        go_wp2_with fail
        go_quiet (fail)
        go_wp2_with fail
        go_roundw
        case rel => exact ⟨k + 1, hkn, by go_num, kr.drewN _⟩
        case measure => simp [intOf]; omega
      · have hd0 : decide (0 < k) = true := by simp; omega
        have q0 := kr.some (hc (k - 1) (by omega)).1 (fun h => h)
        have hlt2 := Hr.out (k - 1) (by omega)
        rw [show k - 1 + 1 = k by omega] at hlt2
        generalize (z k).1 = x at m0 hlt2
        generalize (z (k - 1)).1 = y at q0 hlt2
        have hd1 : decide (x ≤ y) = false := decide_eq_false (by omega)
        have p1 : IntKind.i64.wrap ((k : Int) - 1) = (k : Int) - 1 := by rw [IntKind.wrap_i64]; omega
        have p2 : (0 : Int) ≤ (k : Int) - 1 := by omega
        have p3 : (k : Int) - 1 < (n : Int) := by omega
        have p4 : ((k : Int) - 1).toNat = k - 1 := by omega
        have p5 : (1 : Int) ≤ (k : Int) := by omega
        clear hc h0
        go_wp2_with fail
        go_quiet (fail)
        go_wp2_with fail
        go_roundw
        case rel => exact ⟨k + 1, hkn, by go_num, kr.drewN _⟩
        case measure => simp [intOf]; omega
    · have hd2 : decide ((k : Int) < (n : Int)) = false := decide_eq_false (by omega)
      have Tr := HT.out.keep kr (fun h => h) (fun h => h)
      have d1 := blk_cell Tr.blk 1
      have dl := blk_lt Tr.blk
      have hmr := Tr.map
      have HTr := Lib.hid Tr
      simp at d1
      clear Tr c0 c1
      go_wp2_with (first
        | (refine wpList_mclear _ rfl _ 54 rfl 3 58 Try.underlying54 encLast mb L rfl hmr ?_; intro w2 hm2 ht2))
      have k2 : Keep (OneB mb) wr w2 := Keep.of_turned ht2 rfl
      have T2 : Tab w2 tb mb limit (absD (seL z 0)) := ⟨blk_keep HTr.out.blk k2 hne, hm2⟩
      have K2 := kr.none.trans k2
      have HT2 := Lib.hid T2
      clear T2 hm2 ht2 k2 hmr d1 dl
      go_loopw [48] (fun iv wx => ∃ k : Nat, k ≤ n ∧ iv = .int .i64 (k : Int) ∧ Tab wx tb mb limit (absD (seL z k)) ∧ Keep (OneB mb) w wx) (fun iv _ => n - (intOf iv).toNat)
      case atStart => exact ⟨0, Nat.zero_le _, rfl, HT2.out, K2⟩
      case round =>
        obtain ⟨j, hj, rfl, Tj, kj⟩ := hrel
        by_cases hjn : j < n
        · rcases Hh.out.2 with h0 | ⟨b, off, rfl, hb, hc⟩
          · omega
          have hbm : ¬ OneB mb b := Hmb.out b off rfl
          obtain ⟨m0, m1, m2, m3⟩ := hc j hjn
          have q0 := kj.some m0 hbm
          have q1 := kj.some m1 hbm
          have q2 := kj.some m2 hbm
          have q3 := kj.some m3 hbm
          have hbw := Nat.lt_of_lt_of_le hb kj.size
          have hwf := Hh.out.1 j hjn
          have hput := seL_put Hr.out hjn
          generalize z j = x at q0 q1 q2 q3 hwf hput
          obtain ⟨x0, x1, x2, x3⟩ := x
          simp only at q0 q1 q2 q3 hwf hput
          have hlen : (absD (seL z j)).length < maxLen := by rw [absD_len, seL_len]; unfold maxLen; omega
          have hkey := keyOf_int_mk Try.underlying3 hwf
          have d1 := blk_cell Tj.blk 1
          have dl := blk_lt Tj.blk
          have hmj := Tj.map
          have Hput := Lib.hid hput
          have HTj := Lib.hid Tj
          simp at d1
          clear hc m0 m1 m2 m3 hput Tj
          generalize absD (seL z j) = LL at hlen hmj Hput HTj
          go_wp2_with fail
          refine wp_region_tail 11 (by kernel_rfl) (by kernel_rfl) ?_
          simp only [List.take_succ_cons, List.take_zero, List.drop_succ_cons, List.drop_zero]
          repeat still_step
          refine wpStill_nil ?_
          refine wpList_mstore _ rfl _ _ _ 54 rfl 3 58 law3 Try.underlying54 encLast mb LL rfl (by repeat (with_reducible first | exact hmj | refine MapAt.alloc ?_ _ | refine MapAt.drewN ?_ _ | refine MapAt.drew ?_ | refine MapAt.setCell ?_ (by simp; omega) _)) hlen _ _ (x1, x2, x3) rfl rfl hkey ?_
          intro w5 hm5 ht5
          have hm6 : MapAt Try.prog 3 encLast w5 mb (lput LL (kI x0) (x1, x2, x3)) := hm5
          rw [Hput.out] at hm6
          have ka : Keep (OneB mb) wr (wr.alloc (.cells #[.int .i64 x0, .int .i64 x1, .int .i64 x2, .int .i64 x3] 41)).drew := ((Keep.refl (OneB mb) wr).alloc _).drew
          have k5 : Keep (OneB mb) wr w5 := ka.turned ht5 (Or.inr rfl)
          go_wp2_with fail
          go_roundw
          case rel => exact ⟨j + 1, hjn, by go_num, ⟨blk_keep HTj.out.blk k5 hne, hm6⟩, kj.trans k5⟩
          case measure => simp [intOf]; omega
        · have hd3 : decide ((j : Int) < (n : Int)) = false := decide_eq_false (by omega)
          obtain rfl : j = n := by omega
          go_wp2
          go_ret
          exact ⟨rfl, Tj, kj⟩
end Go.Proofs.Ytlglnpokfmdpaaa
