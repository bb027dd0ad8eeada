/- The walk of MarkerStays. -/
import Derived.Test.YtgangbkompkidaaMarkerC
namespace Go.Proofs.Ytgangbkompkidaa
open Go Go.RowKit Go.Maps Go.Sort

theorem max1000 : max (1000 : Int) 0 = 1000 := rfl
theorem tx_nne {x y : ByteArray} (h : x ≠ y) : (x.toList != y.toList) = true := by
  have := tx_ne h
  simp only [bne, this]
  rfl

structure SS (w wr : World) (tb mb xb : Nat) (x : MOp) (M : List MK) (k : Nat) : Prop where
  T : Tab wr tb mb 1000 M
  X : wr.heap[xb]? = some (.cells (opCells x).toArray 27 (0, 0))
  hk : Keep NoB w wr
  rise : RiseM M
  len : M.length ≤ k + 1
  mem : x.2 ∈ M
section
variable {w wr w' : World} {tb mb xb : Nat} {x : MOp} {M M' : List MK} {k : Nat}
theorem SS.keep (D : SS w wr tb mb xb x M k) (hk : Keep NoB wr w') : SS w w' tb mb xb x M k :=
  ⟨D.T.keep hk (fun h => h) (fun h => h), blk_keep D.X hk (fun h => h), D.hk.trans hk, D.rise, D.len, D.mem⟩
theorem SS.later (D : SS w wr tb mb xb x M k) : SS w wr tb mb xb x M (k + 1) := ⟨D.T, D.X, D.hk, D.rise, by have := D.len; omega, D.mem⟩
theorem SS.next (D : SS w wr tb mb xb x M k) (hone : ∀ i, i < w.heap.size → OneB mb i → NoB i) (hxm : xb ≠ mb) (T' : Tab w' tb mb 1000 M') (hk : Keep (OneB mb) wr w') (hr : RiseM M') (hl : M'.length ≤ M.length + 1) (hm : x.2 ∈ M') : SS w w' tb mb xb x M' (k + 1) :=
  ⟨T', blk_keep D.X hk (fun e => hxm e), D.hk.trans' hk hone, hr, by have := D.len; omega, hm⟩
end



set_option maxRecDepth 100000 in
set_option maxHeartbeats 8000000 in
theorem stays_walk (x : MOp) (hxo : opOk x) (a0 : Option Addr) (len0 cap0 : Nat) (z : Nat → MOp) (w : World) (h0 : IsOps w a0 len0 z) :
    Calls Try.prog 5 #[.agg (opCells x).toArray, .slice a0 len0 cap0] w fun e w' => e = .returned (.bool true) ∧ Below w.heap.size w w' := by
  obtain ⟨hmax, hok, hrow⟩ := h0
  unfold maxLen at hmax
  have Hok0 := Lib.hid hok
  have Hrow := Lib.hid hrow
  clear hok hrow
  obtain ⟨xk, xs, xa, xr⟩ := x
  have Hxo := Lib.hid (show mOk (xs, xa, xr) from hxo)
  clear hxo
  simp only [opCells]
  go_enter Try.func5, Try.ntmps5
  go_wp2_with fail
  have bX := blk_new w (.cells #[.int .i64 xk, .string xs, .int .i64 xa, .int .i64 xr] 27)
  have kX : Keep NoB w (w.alloc (.cells #[.int .i64 xk, .string xs, .int .i64 xa, .int .i64 xr] 27)) := (Keep.refl NoB w).alloc _
  refine (awake_any _).mono ?_
  rintro _ w1 ⟨rfl, hk1⟩
  have bX1 := blk_keep bX hk1 (fun h => h)
  have kX1 := kX.trans hk1
  clear bX kX hk1
  obtain ⟨xb, hxb⟩ : ∃ t, w.heap.size = t := ⟨_, rfl⟩
  rw [hxb] at bX1 ⊢
  have xlt := blk_lt bX1
  go_wp2_with fail
  refine (new_any 1000 _).mono ?_
  rintro _ w2 ⟨rfl, T2, hk2, hs2⟩
  obtain ⟨tb, htb⟩ : ∃ t, w1.heap.size + 1 = t := ⟨_, rfl⟩
  obtain ⟨mb, hmb⟩ : ∃ t, w1.heap.size = t := ⟨_, rfl⟩
  rw [htb]
  rw [htb, hmb] at T2
  have hxm : xb ≠ mb := by omega
  have hone := Lib.hid (show ∀ i, i < w.heap.size → OneB mb i → NoB i from fun i hi e => by have e' : i = mb := e; omega)
  have bX2 := Lib.hid (blk_keep bX1 hk2 (fun h => h))
  have kX2 := Lib.hid (kX1.trans hk2)
  have HT2 := Lib.hid T2
  have z1 := blk_cell bX2.out 1
  have z2 := blk_cell bX2.out 2
  have z3 := blk_cell bX2.out 3
  have zl := blk_lt bX2.out
  simp at z1 z2 z3
  clear bX1 kX1 hk2 hs2 htb hmb hxb xlt T2
  go_wp2_with fail
  refine (set_any tb mb 1000 [] xs xa xr _ HT2.out Hxo.out List.Pairwise.nil (by simp [maxLen]) true (by simp) [(xs, xa, xr)] (by rw [msetM_ok (by simp)]; rfl)).mono ?_
  rintro _ w3 ⟨rfl, T3, k3⟩
  have HD3 := Lib.hid (show SS w w3 tb mb xb (xk, xs, xa, xr) [(xs, xa, xr)] 0 from ⟨T3, by simp only [opCells]; exact blk_keep bX2.out k3 (fun e => hxm e), kX2.out.trans' k3 hone.out, by simp [RiseM], by simp, by simp⟩)
  clear T3 k3 z1 z2 z3 zl bX2 kX2 HT2
  go_wp2_with fail
  go_loopw [6] (fun i wr => ∃ (k : Nat) (M : List MK), k ≤ len0 ∧ k ≤ 200 ∧ i = .int .i64 k ∧ SS w wr tb mb xb (xk, xs, xa, xr) M k) (fun i _ => len0 - (intOf i).toNat)
  case atStart => exact ⟨0, _, Nat.zero_le _, Nat.zero_le _, rfl, HD3.out⟩
  case round =>
    clear HD3
    obtain ⟨k, M, hk, hk200, rfl, D⟩ := hrel
    by_cases hgo : k < len0 ∧ k < 200
    · obtain ⟨hlt, h200⟩ := hgo
      have h200i : decide ((k : Int) < 200) = true := by simp; omega
      rcases Hrow.out with h | ⟨b, off, rfl, hb, hc⟩
      · omega
      obtain ⟨l0, l1, l2, l3⟩ := hc k hlt
      have hop := Hok0.out k hlt
      replace l0 := D.hk.some l0 (fun h => h)
      replace l1 := D.hk.some l1 (fun h => h)
      replace l2 := D.hk.some l2 (fun h => h)
      replace l3 := D.hk.some l3 (fun h => h)
      have hb0 : b < wr.heap.size := Nat.lt_of_lt_of_le hb D.hk.size
      have hmlt : mb < wr.heap.size := by obtain ⟨_, hm, _⟩ := D.T.map; exact hm.lt
      clear hc
      generalize hzk : z k = x at l0 l1 l2 l3 hop
      clear hzk
      obtain ⟨kd, s, sa, sr⟩ := x
      simp only at l0 l1 l2 l3
      have Hx := Lib.hid (show mOk (s, sa, sr) from hop)
      have hMl : M.length ≤ 201 := by have := D.len; omega
      have HDV := Lib.hid (D.keep ((Keep.refl NoB wr).alloc (.cells #[.int .i64 kd, .string s, .int .i64 sa, .int .i64 sr] 27)))
      have by' := D.X
      simp only [opCells] at by'
      have y1 := blk_cell by' 1
      have y2 := blk_cell by' 2
      have y3 := blk_cell by' 3
      have yl := blk_lt by'
      simp at y1 y2 y3
      clear D hop by'
      rcases (by omega : kd = 0 ∨ kd = 1 ∨ kd = 2 ∨ kd = 3 ∨ (kd ≠ 0 ∧ kd ≠ 1 ∧ kd ≠ 2 ∧ kd ≠ 3)) with rfl | rfl | rfl | rfl | ⟨n0, n1, n2, n3⟩
      · -- kind 0
        rcases (by omega : sa ≠ xa ∨ (sa = xa ∧ sr < xr) ∨ (sa = xa ∧ sr = xr) ∨ (sa = xa ∧ xr < sr)) with hm | ⟨ha, hm⟩ | ⟨ha, hm⟩ | ⟨ha, hm⟩
        · -- a
          have m1 : (sa == xa) = false := by simpa using hm
          have m1' : (sa != xa) = true := by simpa using hm
          try clear hm
          try clear ha
          try clear hk1
          go_wp2_with fail
          refine (set_any tb mb 1000 M s sa sr _ HDV.out.T Hx.out HDV.out.rise (by unfold maxLen; omega) true (decide_eq_true (Or.inr (by omega))) (mput (s, sa, sr) M) (msetM_ok (by omega))).mono ?_
          rintro _ w5 ⟨rfl, T5, k5⟩
          obtain ⟨M', hM'⟩ : ∃ l, mput (s, sa, sr) M = l := ⟨_, rfl⟩
          have HD5 := Lib.hid (HDV.out.next hone.out hxm T5 k5 (mput_rise _ _ HDV.out.rise) (mput_len _ _) ((mput_mem _ _ _).2 (Or.inr HDV.out.mem)))
          rw [hM'] at HD5
          clear T5 k5 hM' l0 l1 l2 l3 hb0 y1 y2 y3 yl
          have by' := HD5.out.X
          simp only [opCells] at by'
          have y1 := blk_cell by' 1
          have yl := blk_lt by'
          simp at y1
          clear by'
          have Htr := Lib.hid (show decide (∃ y ∈ M', y.1 = xs) = true from decide_eq_true ⟨(xs, xa, xr), HD5.out.mem, rfl⟩)
          go_wp2_with fail
          refine (has_any tb mb 1000 M' xs _ HD5.out.T true Htr.out).mono ?_
          rintro _ w8 ⟨rfl, k8⟩
          have HD8 := Lib.hid (HD5.out.keep k8)
          clear k8 y1 yl
          go_wp2_with fail
          go_roundw
          case rel => exact ⟨k + 1, M', hlt, h200, by go_num, HD8.out⟩
          case measure => simp [intOf]; omega
        · -- b
          have m1 : (sa == xa) = true := by simpa using ha
          have m1' : (sa != xa) = false := by simpa using ha
          have m2 : decide (xr ≤ sr) = false := decide_eq_false (by omega)
          have m3 : (sr != xr) = true := by simp; omega
          try clear hm
          try clear ha
          try clear hk1
          go_wp2_with fail
          refine (set_any tb mb 1000 M s sa sr _ HDV.out.T Hx.out HDV.out.rise (by unfold maxLen; omega) true (decide_eq_true (Or.inr (by omega))) (mput (s, sa, sr) M) (msetM_ok (by omega))).mono ?_
          rintro _ w5 ⟨rfl, T5, k5⟩
          obtain ⟨M', hM'⟩ : ∃ l, mput (s, sa, sr) M = l := ⟨_, rfl⟩
          have HD5 := Lib.hid (HDV.out.next hone.out hxm T5 k5 (mput_rise _ _ HDV.out.rise) (mput_len _ _) ((mput_mem _ _ _).2 (Or.inr HDV.out.mem)))
          rw [hM'] at HD5
          clear T5 k5 hM' l0 l1 l2 l3 hb0 y1 y2 y3 yl
          have by' := HD5.out.X
          simp only [opCells] at by'
          have y1 := blk_cell by' 1
          have yl := blk_lt by'
          simp at y1
          clear by'
          have Htr := Lib.hid (show decide (∃ y ∈ M', y.1 = xs) = true from decide_eq_true ⟨(xs, xa, xr), HD5.out.mem, rfl⟩)
          go_wp2_with fail
          refine (has_any tb mb 1000 M' xs _ HD5.out.T true Htr.out).mono ?_
          rintro _ w8 ⟨rfl, k8⟩
          have HD8 := Lib.hid (HD5.out.keep k8)
          clear k8 y1 yl
          go_wp2_with fail
          go_roundw
          case rel => exact ⟨k + 1, M', hlt, h200, by go_num, HD8.out⟩
          case measure => simp [intOf]; omega
        · -- c
          have m1 : (sa == xa) = true := by simpa using ha
          have m1' : (sa != xa) = false := by simpa using ha
          have m2 : decide (xr ≤ sr) = true := decide_eq_true (by omega)
          have m3 : (sr != xr) = false := by simpa using hm
          try clear hm
          try clear ha
          try clear hk1
          go_wp2_with fail
          refine (set_any tb mb 1000 M s sa sr _ HDV.out.T Hx.out HDV.out.rise (by unfold maxLen; omega) true (decide_eq_true (Or.inr (by omega))) (mput (s, sa, sr) M) (msetM_ok (by omega))).mono ?_
          rintro _ w5 ⟨rfl, T5, k5⟩
          obtain ⟨M', hM'⟩ : ∃ l, mput (s, sa, sr) M = l := ⟨_, rfl⟩
          have HD5 := Lib.hid (HDV.out.next hone.out hxm T5 k5 (mput_rise _ _ HDV.out.rise) (mput_len _ _) ((mput_mem _ _ _).2 (Or.inr HDV.out.mem)))
          rw [hM'] at HD5
          clear T5 k5 hM' l0 l1 l2 l3 hb0 y1 y2 y3 yl
          have by' := HD5.out.X
          simp only [opCells] at by'
          have y1 := blk_cell by' 1
          have yl := blk_lt by'
          simp at y1
          clear by'
          have Htr := Lib.hid (show decide (∃ y ∈ M', y.1 = xs) = true from decide_eq_true ⟨(xs, xa, xr), HD5.out.mem, rfl⟩)
          go_wp2_with fail
          refine (has_any tb mb 1000 M' xs _ HD5.out.T true Htr.out).mono ?_
          rintro _ w8 ⟨rfl, k8⟩
          have HD8 := Lib.hid (HD5.out.keep k8)
          clear k8 y1 yl
          go_wp2_with fail
          go_roundw
          case rel => exact ⟨k + 1, M', hlt, h200, by go_num, HD8.out⟩
          case measure => simp [intOf]; omega
        · -- d
          have m1 : (sa == xa) = true := by simpa using ha
          have m1' : (sa != xa) = false := by simpa using ha
          have m2 : decide (xr ≤ sr) = true := decide_eq_true (by omega)
          have m3 : (sr != xr) = true := by simp; omega
          try clear hm
          try clear ha
          try clear hk1
          go_wp2_with fail
          refine (set_any tb mb 1000 M s sa sr _ HDV.out.T Hx.out HDV.out.rise (by unfold maxLen; omega) true (decide_eq_true (Or.inr (by omega))) (mput (s, sa, sr) M) (msetM_ok (by omega))).mono ?_
          rintro _ w5 ⟨rfl, T5, k5⟩
          obtain ⟨M', hM'⟩ : ∃ l, mput (s, sa, sr) M = l := ⟨_, rfl⟩
          have HD5 := Lib.hid (HDV.out.next hone.out hxm T5 k5 (mput_rise _ _ HDV.out.rise) (mput_len _ _) ((mput_mem _ _ _).2 (Or.inr HDV.out.mem)))
          rw [hM'] at HD5
          clear T5 k5 hM' l0 l1 l2 l3 hb0 y1 y2 y3 yl
          have by' := HD5.out.X
          simp only [opCells] at by'
          have y1 := blk_cell by' 1
          have yl := blk_lt by'
          simp at y1
          clear by'
          have Htr := Lib.hid (show decide (∃ y ∈ M', y.1 = xs) = true from decide_eq_true ⟨(xs, xa, xr), HD5.out.mem, rfl⟩)
          go_wp2_with fail
          refine (has_any tb mb 1000 M' xs _ HD5.out.T true Htr.out).mono ?_
          rintro _ w8 ⟨rfl, k8⟩
          have HD8 := Lib.hid (HD5.out.keep k8)
          clear k8 y1 yl
          go_wp2_with fail
          go_roundw
          case rel => exact ⟨k + 1, M', hlt, h200, by go_num, HD8.out⟩
          case measure => simp [intOf]; omega
      · -- kind 1
        rcases (by omega : sa ≠ xa ∨ (sa = xa ∧ sr < xr) ∨ (sa = xa ∧ sr = xr) ∨ (sa = xa ∧ xr < sr)) with hm | ⟨ha, hm⟩ | ⟨ha, hm⟩ | ⟨ha, hm⟩
        · -- a
          have m1 : (sa == xa) = false := by simpa using hm
          have m1' : (sa != xa) = true := by simpa using hm
          by_cases hk1 : s = xs
          · have q1 : (s.toList == xs.toList) = true := by rw [hk1]; simp
            have q2 : (s.toList != xs.toList) = false := by rw [hk1]; simp
            have HNE := Lib.hid (show ¬ (xs = s ∧ xa = sa ∧ xr = sr) from fun e => hm e.2.1.symm)
            try clear hm
            try clear ha
            try clear hk1
            go_wp2_with fail
            obtain ⟨v, hv⟩ : ∃ v, decide ((s, sa, sr) ∈ M) = v := ⟨_, rfl⟩
            have Hv := Lib.hid hv
            clear hv
            refine (clear_any tb mb 1000 M s sa sr _ HDV.out.T Hx.out HDV.out.rise v Hv.out _ rfl).mono ?_
            rintro _ w5 ⟨rfl, T5, k5⟩
            obtain ⟨M', hM'⟩ : ∃ l, mdel (s, sa, sr) M = l := ⟨_, rfl⟩
            have HD5 := Lib.hid (HDV.out.next hone.out hxm T5 k5 (mdel_rise HDV.out.rise) (by have := mdel_len (s, sa, sr) M; omega) (mdel_mem.2 ⟨fun e => by have e1 : xs = s := congrArg (fun q : MK => q.1) e; have e2 : xa = sa := congrArg (fun q : MK => q.2.1) e; have e3 : xr = sr := congrArg (fun q : MK => q.2.2) e; exact HNE.out ⟨e1, e2, e3⟩, HDV.out.mem⟩))
            rw [hM'] at HD5
            clear T5 k5 hM' l0 l1 l2 l3 hb0 y1 y2 y3 yl
            have by' := HD5.out.X
            simp only [opCells] at by'
            have y1 := blk_cell by' 1
            have yl := blk_lt by'
            simp at y1
            clear by'
            have Htr := Lib.hid (show decide (∃ y ∈ M', y.1 = xs) = true from decide_eq_true ⟨(xs, xa, xr), HD5.out.mem, rfl⟩)
            go_wp2_with fail
            refine (has_any tb mb 1000 M' xs _ HD5.out.T true Htr.out).mono ?_
            rintro _ w8 ⟨rfl, k8⟩
            have HD8 := Lib.hid (HD5.out.keep k8)
            clear k8 y1 yl
            go_wp2_with fail
            go_roundw
            case rel => exact ⟨k + 1, M', hlt, h200, by go_num, HD8.out⟩
            case measure => simp [intOf]; omega
          · have q1 := tx_ne hk1
            have q2 := tx_nne hk1
            have HNE := Lib.hid (show ¬ (xs = s ∧ xa = sa ∧ xr = sr) from fun e => hk1 e.1.symm)
            try clear hm
            try clear ha
            try clear hk1
            go_wp2_with fail
            obtain ⟨v, hv⟩ : ∃ v, decide ((s, sa, sr) ∈ M) = v := ⟨_, rfl⟩
            have Hv := Lib.hid hv
            clear hv
            refine (clear_any tb mb 1000 M s sa sr _ HDV.out.T Hx.out HDV.out.rise v Hv.out _ rfl).mono ?_
            rintro _ w5 ⟨rfl, T5, k5⟩
            obtain ⟨M', hM'⟩ : ∃ l, mdel (s, sa, sr) M = l := ⟨_, rfl⟩
            have HD5 := Lib.hid (HDV.out.next hone.out hxm T5 k5 (mdel_rise HDV.out.rise) (by have := mdel_len (s, sa, sr) M; omega) (mdel_mem.2 ⟨fun e => by have e1 : xs = s := congrArg (fun q : MK => q.1) e; have e2 : xa = sa := congrArg (fun q : MK => q.2.1) e; have e3 : xr = sr := congrArg (fun q : MK => q.2.2) e; exact HNE.out ⟨e1, e2, e3⟩, HDV.out.mem⟩))
            rw [hM'] at HD5
            clear T5 k5 hM' l0 l1 l2 l3 hb0 y1 y2 y3 yl
            have by' := HD5.out.X
            simp only [opCells] at by'
            have y1 := blk_cell by' 1
            have yl := blk_lt by'
            simp at y1
            clear by'
            have Htr := Lib.hid (show decide (∃ y ∈ M', y.1 = xs) = true from decide_eq_true ⟨(xs, xa, xr), HD5.out.mem, rfl⟩)
            go_wp2_with fail
            refine (has_any tb mb 1000 M' xs _ HD5.out.T true Htr.out).mono ?_
            rintro _ w8 ⟨rfl, k8⟩
            have HD8 := Lib.hid (HD5.out.keep k8)
            clear k8 y1 yl
            go_wp2_with fail
            go_roundw
            case rel => exact ⟨k + 1, M', hlt, h200, by go_num, HD8.out⟩
            case measure => simp [intOf]; omega
        · -- b
          have m1 : (sa == xa) = true := by simpa using ha
          have m1' : (sa != xa) = false := by simpa using ha
          have m2 : decide (xr ≤ sr) = false := decide_eq_false (by omega)
          have m3 : (sr != xr) = true := by simp; omega
          by_cases hk1 : s = xs
          · have q1 : (s.toList == xs.toList) = true := by rw [hk1]; simp
            have q2 : (s.toList != xs.toList) = false := by rw [hk1]; simp
            have HNE := Lib.hid (show ¬ (xs = s ∧ xa = sa ∧ xr = sr) from fun e => by omega)
            try clear hm
            try clear ha
            try clear hk1
            go_wp2_with fail
            obtain ⟨v, hv⟩ : ∃ v, decide ((s, sa, sr) ∈ M) = v := ⟨_, rfl⟩
            have Hv := Lib.hid hv
            clear hv
            refine (clear_any tb mb 1000 M s sa sr _ HDV.out.T Hx.out HDV.out.rise v Hv.out _ rfl).mono ?_
            rintro _ w5 ⟨rfl, T5, k5⟩
            obtain ⟨M', hM'⟩ : ∃ l, mdel (s, sa, sr) M = l := ⟨_, rfl⟩
            have HD5 := Lib.hid (HDV.out.next hone.out hxm T5 k5 (mdel_rise HDV.out.rise) (by have := mdel_len (s, sa, sr) M; omega) (mdel_mem.2 ⟨fun e => by have e1 : xs = s := congrArg (fun q : MK => q.1) e; have e2 : xa = sa := congrArg (fun q : MK => q.2.1) e; have e3 : xr = sr := congrArg (fun q : MK => q.2.2) e; exact HNE.out ⟨e1, e2, e3⟩, HDV.out.mem⟩))
            rw [hM'] at HD5
            clear T5 k5 hM' l0 l1 l2 l3 hb0 y1 y2 y3 yl
            have by' := HD5.out.X
            simp only [opCells] at by'
            have y1 := blk_cell by' 1
            have yl := blk_lt by'
            simp at y1
            clear by'
            have Htr := Lib.hid (show decide (∃ y ∈ M', y.1 = xs) = true from decide_eq_true ⟨(xs, xa, xr), HD5.out.mem, rfl⟩)
            go_wp2_with fail
            refine (has_any tb mb 1000 M' xs _ HD5.out.T true Htr.out).mono ?_
            rintro _ w8 ⟨rfl, k8⟩
            have HD8 := Lib.hid (HD5.out.keep k8)
            clear k8 y1 yl
            go_wp2_with fail
            go_roundw
            case rel => exact ⟨k + 1, M', hlt, h200, by go_num, HD8.out⟩
            case measure => simp [intOf]; omega
          · have q1 := tx_ne hk1
            have q2 := tx_nne hk1
            have HNE := Lib.hid (show ¬ (xs = s ∧ xa = sa ∧ xr = sr) from fun e => hk1 e.1.symm)
            try clear hm
            try clear ha
            try clear hk1
            go_wp2_with fail
            obtain ⟨v, hv⟩ : ∃ v, decide ((s, sa, sr) ∈ M) = v := ⟨_, rfl⟩
            have Hv := Lib.hid hv
            clear hv
            refine (clear_any tb mb 1000 M s sa sr _ HDV.out.T Hx.out HDV.out.rise v Hv.out _ rfl).mono ?_
            rintro _ w5 ⟨rfl, T5, k5⟩
            obtain ⟨M', hM'⟩ : ∃ l, mdel (s, sa, sr) M = l := ⟨_, rfl⟩
            have HD5 := Lib.hid (HDV.out.next hone.out hxm T5 k5 (mdel_rise HDV.out.rise) (by have := mdel_len (s, sa, sr) M; omega) (mdel_mem.2 ⟨fun e => by have e1 : xs = s := congrArg (fun q : MK => q.1) e; have e2 : xa = sa := congrArg (fun q : MK => q.2.1) e; have e3 : xr = sr := congrArg (fun q : MK => q.2.2) e; exact HNE.out ⟨e1, e2, e3⟩, HDV.out.mem⟩))
            rw [hM'] at HD5
            clear T5 k5 hM' l0 l1 l2 l3 hb0 y1 y2 y3 yl
            have by' := HD5.out.X
            simp only [opCells] at by'
            have y1 := blk_cell by' 1
            have yl := blk_lt by'
            simp at y1
            clear by'
            have Htr := Lib.hid (show decide (∃ y ∈ M', y.1 = xs) = true from decide_eq_true ⟨(xs, xa, xr), HD5.out.mem, rfl⟩)
            go_wp2_with fail
            refine (has_any tb mb 1000 M' xs _ HD5.out.T true Htr.out).mono ?_
            rintro _ w8 ⟨rfl, k8⟩
            have HD8 := Lib.hid (HD5.out.keep k8)
            clear k8 y1 yl
            go_wp2_with fail
            go_roundw
            case rel => exact ⟨k + 1, M', hlt, h200, by go_num, HD8.out⟩
            case measure => simp [intOf]; omega
        · -- c
          have m1 : (sa == xa) = true := by simpa using ha
          have m1' : (sa != xa) = false := by simpa using ha
          have m2 : decide (xr ≤ sr) = true := decide_eq_true (by omega)
          have m3 : (sr != xr) = false := by simpa using hm
          by_cases hk1 : s = xs
          · have q1 : (s.toList == xs.toList) = true := by rw [hk1]; simp
            have q2 : (s.toList != xs.toList) = false := by rw [hk1]; simp
            try clear hm
            try clear ha
            try clear hk1
            go_wp2_with fail
            have HD5 := Lib.hid HDV.out.later
            obtain ⟨M', rfl⟩ : ∃ l, M = l := ⟨_, rfl⟩
            clear l0 l1 l2 l3 hb0 y1 y2 y3 yl
            have by' := HD5.out.X
            simp only [opCells] at by'
            have y1 := blk_cell by' 1
            have yl := blk_lt by'
            simp at y1
            clear by'
            have Htr := Lib.hid (show decide (∃ y ∈ M, y.1 = xs) = true from decide_eq_true ⟨(xs, xa, xr), HD5.out.mem, rfl⟩)
            refine (has_any tb mb 1000 M xs _ HD5.out.T true Htr.out).mono ?_
            rintro _ w8 ⟨rfl, k8⟩
            have HD8 := Lib.hid (HD5.out.keep k8)
            clear k8 y1 yl
            go_wp2_with fail
            go_roundw
            case rel => exact ⟨k + 1, M, hlt, h200, by go_num, HD8.out⟩
            case measure => simp [intOf]; omega
          · have q1 := tx_ne hk1
            have q2 := tx_nne hk1
            have HNE := Lib.hid (show ¬ (xs = s ∧ xa = sa ∧ xr = sr) from fun e => hk1 e.1.symm)
            try clear hm
            try clear ha
            try clear hk1
            go_wp2_with fail
            obtain ⟨v, hv⟩ : ∃ v, decide ((s, sa, sr) ∈ M) = v := ⟨_, rfl⟩
            have Hv := Lib.hid hv
            clear hv
            refine (clear_any tb mb 1000 M s sa sr _ HDV.out.T Hx.out HDV.out.rise v Hv.out _ rfl).mono ?_
            rintro _ w5 ⟨rfl, T5, k5⟩
            obtain ⟨M', hM'⟩ : ∃ l, mdel (s, sa, sr) M = l := ⟨_, rfl⟩
            have HD5 := Lib.hid (HDV.out.next hone.out hxm T5 k5 (mdel_rise HDV.out.rise) (by have := mdel_len (s, sa, sr) M; omega) (mdel_mem.2 ⟨fun e => by have e1 : xs = s := congrArg (fun q : MK => q.1) e; have e2 : xa = sa := congrArg (fun q : MK => q.2.1) e; have e3 : xr = sr := congrArg (fun q : MK => q.2.2) e; exact HNE.out ⟨e1, e2, e3⟩, HDV.out.mem⟩))
            rw [hM'] at HD5
            clear T5 k5 hM' l0 l1 l2 l3 hb0 y1 y2 y3 yl
            have by' := HD5.out.X
            simp only [opCells] at by'
            have y1 := blk_cell by' 1
            have yl := blk_lt by'
            simp at y1
            clear by'
            have Htr := Lib.hid (show decide (∃ y ∈ M', y.1 = xs) = true from decide_eq_true ⟨(xs, xa, xr), HD5.out.mem, rfl⟩)
            go_wp2_with fail
            refine (has_any tb mb 1000 M' xs _ HD5.out.T true Htr.out).mono ?_
            rintro _ w8 ⟨rfl, k8⟩
            have HD8 := Lib.hid (HD5.out.keep k8)
            clear k8 y1 yl
            go_wp2_with fail
            go_roundw
            case rel => exact ⟨k + 1, M', hlt, h200, by go_num, HD8.out⟩
            case measure => simp [intOf]; omega
        · -- d
          have m1 : (sa == xa) = true := by simpa using ha
          have m1' : (sa != xa) = false := by simpa using ha
          have m2 : decide (xr ≤ sr) = true := decide_eq_true (by omega)
          have m3 : (sr != xr) = true := by simp; omega
          by_cases hk1 : s = xs
          · have q1 : (s.toList == xs.toList) = true := by rw [hk1]; simp
            have q2 : (s.toList != xs.toList) = false := by rw [hk1]; simp
            have HNE := Lib.hid (show ¬ (xs = s ∧ xa = sa ∧ xr = sr) from fun e => by omega)
            try clear hm
            try clear ha
            try clear hk1
            go_wp2_with fail
            obtain ⟨v, hv⟩ : ∃ v, decide ((s, sa, sr) ∈ M) = v := ⟨_, rfl⟩
            have Hv := Lib.hid hv
            clear hv
            refine (clear_any tb mb 1000 M s sa sr _ HDV.out.T Hx.out HDV.out.rise v Hv.out _ rfl).mono ?_
            rintro _ w5 ⟨rfl, T5, k5⟩
            obtain ⟨M', hM'⟩ : ∃ l, mdel (s, sa, sr) M = l := ⟨_, rfl⟩
            have HD5 := Lib.hid (HDV.out.next hone.out hxm T5 k5 (mdel_rise HDV.out.rise) (by have := mdel_len (s, sa, sr) M; omega) (mdel_mem.2 ⟨fun e => by have e1 : xs = s := congrArg (fun q : MK => q.1) e; have e2 : xa = sa := congrArg (fun q : MK => q.2.1) e; have e3 : xr = sr := congrArg (fun q : MK => q.2.2) e; exact HNE.out ⟨e1, e2, e3⟩, HDV.out.mem⟩))
            rw [hM'] at HD5
            clear T5 k5 hM' l0 l1 l2 l3 hb0 y1 y2 y3 yl
            have by' := HD5.out.X
            simp only [opCells] at by'
            have y1 := blk_cell by' 1
            have yl := blk_lt by'
            simp at y1
            clear by'
            have Htr := Lib.hid (show decide (∃ y ∈ M', y.1 = xs) = true from decide_eq_true ⟨(xs, xa, xr), HD5.out.mem, rfl⟩)
            go_wp2_with fail
            refine (has_any tb mb 1000 M' xs _ HD5.out.T true Htr.out).mono ?_
            rintro _ w8 ⟨rfl, k8⟩
            have HD8 := Lib.hid (HD5.out.keep k8)
            clear k8 y1 yl
            go_wp2_with fail
            go_roundw
            case rel => exact ⟨k + 1, M', hlt, h200, by go_num, HD8.out⟩
            case measure => simp [intOf]; omega
          · have q1 := tx_ne hk1
            have q2 := tx_nne hk1
            have HNE := Lib.hid (show ¬ (xs = s ∧ xa = sa ∧ xr = sr) from fun e => hk1 e.1.symm)
            try clear hm
            try clear ha
            try clear hk1
            go_wp2_with fail
            obtain ⟨v, hv⟩ : ∃ v, decide ((s, sa, sr) ∈ M) = v := ⟨_, rfl⟩
            have Hv := Lib.hid hv
            clear hv
            refine (clear_any tb mb 1000 M s sa sr _ HDV.out.T Hx.out HDV.out.rise v Hv.out _ rfl).mono ?_
            rintro _ w5 ⟨rfl, T5, k5⟩
            obtain ⟨M', hM'⟩ : ∃ l, mdel (s, sa, sr) M = l := ⟨_, rfl⟩
            have HD5 := Lib.hid (HDV.out.next hone.out hxm T5 k5 (mdel_rise HDV.out.rise) (by have := mdel_len (s, sa, sr) M; omega) (mdel_mem.2 ⟨fun e => by have e1 : xs = s := congrArg (fun q : MK => q.1) e; have e2 : xa = sa := congrArg (fun q : MK => q.2.1) e; have e3 : xr = sr := congrArg (fun q : MK => q.2.2) e; exact HNE.out ⟨e1, e2, e3⟩, HDV.out.mem⟩))
            rw [hM'] at HD5
            clear T5 k5 hM' l0 l1 l2 l3 hb0 y1 y2 y3 yl
            have by' := HD5.out.X
            simp only [opCells] at by'
            have y1 := blk_cell by' 1
            have yl := blk_lt by'
            simp at y1
            clear by'
            have Htr := Lib.hid (show decide (∃ y ∈ M', y.1 = xs) = true from decide_eq_true ⟨(xs, xa, xr), HD5.out.mem, rfl⟩)
            go_wp2_with fail
            refine (has_any tb mb 1000 M' xs _ HD5.out.T true Htr.out).mono ?_
            rintro _ w8 ⟨rfl, k8⟩
            have HD8 := Lib.hid (HD5.out.keep k8)
            clear k8 y1 yl
            go_wp2_with fail
            go_roundw
            case rel => exact ⟨k + 1, M', hlt, h200, by go_num, HD8.out⟩
            case measure => simp [intOf]; omega
      · -- kind 2
        rcases (by omega : sa ≠ xa ∨ (sa = xa ∧ sr < xr) ∨ (sa = xa ∧ sr = xr) ∨ (sa = xa ∧ xr < sr)) with hm | ⟨ha, hm⟩ | ⟨ha, hm⟩ | ⟨ha, hm⟩
        · -- a
          have m1 : (sa == xa) = false := by simpa using hm
          have m1' : (sa != xa) = true := by simpa using hm
          have HNE := Lib.hid (show ¬ (xs = s ∧ xa = sa ∧ xr ≤ sr) from fun e => hm e.2.1.symm)
          try clear hm
          try clear ha
          try clear hk1
          go_wp2_with fail
          refine (upto_any tb mb 1000 M _ HDV.out.T (by omega) HDV.out.rise s sa sr).mono ?_
          rintro _ w5 ⟨rfl, T5, k5⟩
          obtain ⟨M', hM'⟩ : ∃ l, uptoM s sa sr M = l := ⟨_, rfl⟩
          have HD5 := Lib.hid (HDV.out.next hone.out hxm T5 k5 (rise_filter' HDV.out.rise _) (by have : (uptoM s sa sr M).length ≤ M.length := List.length_filter_le _ _; omega) (List.mem_filter.2 ⟨HDV.out.mem, by show (!decide (xs = s ∧ xa = sa ∧ xr ≤ sr)) = true; rw [decide_eq_false HNE.out]; rfl⟩))
          rw [hM'] at HD5
          clear T5 k5 hM' l0 l1 l2 l3 hb0 y1 y2 y3 yl
          have by' := HD5.out.X
          simp only [opCells] at by'
          have y1 := blk_cell by' 1
          have yl := blk_lt by'
          simp at y1
          clear by'
          have Htr := Lib.hid (show decide (∃ y ∈ M', y.1 = xs) = true from decide_eq_true ⟨(xs, xa, xr), HD5.out.mem, rfl⟩)
          go_wp2_with fail
          refine (has_any tb mb 1000 M' xs _ HD5.out.T true Htr.out).mono ?_
          rintro _ w8 ⟨rfl, k8⟩
          have HD8 := Lib.hid (HD5.out.keep k8)
          clear k8 y1 yl
          go_wp2_with fail
          go_roundw
          case rel => exact ⟨k + 1, M', hlt, h200, by go_num, HD8.out⟩
          case measure => simp [intOf]; omega
        · -- b
          have m1 : (sa == xa) = true := by simpa using ha
          have m1' : (sa != xa) = false := by simpa using ha
          have m2 : decide (xr ≤ sr) = false := decide_eq_false (by omega)
          have m3 : (sr != xr) = true := by simp; omega
          have HNE := Lib.hid (show ¬ (xs = s ∧ xa = sa ∧ xr ≤ sr) from fun e => by omega)
          try clear hm
          try clear ha
          try clear hk1
          go_wp2_with fail
          refine (upto_any tb mb 1000 M _ HDV.out.T (by omega) HDV.out.rise s sa sr).mono ?_
          rintro _ w5 ⟨rfl, T5, k5⟩
          obtain ⟨M', hM'⟩ : ∃ l, uptoM s sa sr M = l := ⟨_, rfl⟩
          have HD5 := Lib.hid (HDV.out.next hone.out hxm T5 k5 (rise_filter' HDV.out.rise _) (by have : (uptoM s sa sr M).length ≤ M.length := List.length_filter_le _ _; omega) (List.mem_filter.2 ⟨HDV.out.mem, by show (!decide (xs = s ∧ xa = sa ∧ xr ≤ sr)) = true; rw [decide_eq_false HNE.out]; rfl⟩))
          rw [hM'] at HD5
          clear T5 k5 hM' l0 l1 l2 l3 hb0 y1 y2 y3 yl
          have by' := HD5.out.X
          simp only [opCells] at by'
          have y1 := blk_cell by' 1
          have yl := blk_lt by'
          simp at y1
          clear by'
          have Htr := Lib.hid (show decide (∃ y ∈ M', y.1 = xs) = true from decide_eq_true ⟨(xs, xa, xr), HD5.out.mem, rfl⟩)
          go_wp2_with fail
          refine (has_any tb mb 1000 M' xs _ HD5.out.T true Htr.out).mono ?_
          rintro _ w8 ⟨rfl, k8⟩
          have HD8 := Lib.hid (HD5.out.keep k8)
          clear k8 y1 yl
          go_wp2_with fail
          go_roundw
          case rel => exact ⟨k + 1, M', hlt, h200, by go_num, HD8.out⟩
          case measure => simp [intOf]; omega
        · -- c
          have m1 : (sa == xa) = true := by simpa using ha
          have m1' : (sa != xa) = false := by simpa using ha
          have m2 : decide (xr ≤ sr) = true := decide_eq_true (by omega)
          have m3 : (sr != xr) = false := by simpa using hm
          by_cases hk1 : s = xs
          · have q1 : (s.toList == xs.toList) = true := by rw [hk1]; simp
            have q2 : (s.toList != xs.toList) = false := by rw [hk1]; simp
            try clear hm
            try clear ha
            try clear hk1
            go_wp2_with fail
            have HD5 := Lib.hid HDV.out.later
            obtain ⟨M', rfl⟩ : ∃ l, M = l := ⟨_, rfl⟩
            clear l0 l1 l2 l3 hb0 y1 y2 y3 yl
            have by' := HD5.out.X
            simp only [opCells] at by'
            have y1 := blk_cell by' 1
            have yl := blk_lt by'
            simp at y1
            clear by'
            have Htr := Lib.hid (show decide (∃ y ∈ M, y.1 = xs) = true from decide_eq_true ⟨(xs, xa, xr), HD5.out.mem, rfl⟩)
            refine (has_any tb mb 1000 M xs _ HD5.out.T true Htr.out).mono ?_
            rintro _ w8 ⟨rfl, k8⟩
            have HD8 := Lib.hid (HD5.out.keep k8)
            clear k8 y1 yl
            go_wp2_with fail
            go_roundw
            case rel => exact ⟨k + 1, M, hlt, h200, by go_num, HD8.out⟩
            case measure => simp [intOf]; omega
          · have q1 := tx_ne hk1
            have q2 := tx_nne hk1
            have HNE := Lib.hid (show ¬ (xs = s ∧ xa = sa ∧ xr ≤ sr) from fun e => hk1 e.1.symm)
            try clear hm
            try clear ha
            try clear hk1
            go_wp2_with fail
            refine (upto_any tb mb 1000 M _ HDV.out.T (by omega) HDV.out.rise s sa sr).mono ?_
            rintro _ w5 ⟨rfl, T5, k5⟩
            obtain ⟨M', hM'⟩ : ∃ l, uptoM s sa sr M = l := ⟨_, rfl⟩
            have HD5 := Lib.hid (HDV.out.next hone.out hxm T5 k5 (rise_filter' HDV.out.rise _) (by have : (uptoM s sa sr M).length ≤ M.length := List.length_filter_le _ _; omega) (List.mem_filter.2 ⟨HDV.out.mem, by show (!decide (xs = s ∧ xa = sa ∧ xr ≤ sr)) = true; rw [decide_eq_false HNE.out]; rfl⟩))
            rw [hM'] at HD5
            clear T5 k5 hM' l0 l1 l2 l3 hb0 y1 y2 y3 yl
            have by' := HD5.out.X
            simp only [opCells] at by'
            have y1 := blk_cell by' 1
            have yl := blk_lt by'
            simp at y1
            clear by'
            have Htr := Lib.hid (show decide (∃ y ∈ M', y.1 = xs) = true from decide_eq_true ⟨(xs, xa, xr), HD5.out.mem, rfl⟩)
            go_wp2_with fail
            refine (has_any tb mb 1000 M' xs _ HD5.out.T true Htr.out).mono ?_
            rintro _ w8 ⟨rfl, k8⟩
            have HD8 := Lib.hid (HD5.out.keep k8)
            clear k8 y1 yl
            go_wp2_with fail
            go_roundw
            case rel => exact ⟨k + 1, M', hlt, h200, by go_num, HD8.out⟩
            case measure => simp [intOf]; omega
        · -- d
          have m1 : (sa == xa) = true := by simpa using ha
          have m1' : (sa != xa) = false := by simpa using ha
          have m2 : decide (xr ≤ sr) = true := decide_eq_true (by omega)
          have m3 : (sr != xr) = true := by simp; omega
          by_cases hk1 : s = xs
          · have q1 : (s.toList == xs.toList) = true := by rw [hk1]; simp
            have q2 : (s.toList != xs.toList) = false := by rw [hk1]; simp
            try clear hm
            try clear ha
            try clear hk1
            go_wp2_with fail
            have HD5 := Lib.hid HDV.out.later
            obtain ⟨M', rfl⟩ : ∃ l, M = l := ⟨_, rfl⟩
            clear l0 l1 l2 l3 hb0 y1 y2 y3 yl
            have by' := HD5.out.X
            simp only [opCells] at by'
            have y1 := blk_cell by' 1
            have yl := blk_lt by'
            simp at y1
            clear by'
            have Htr := Lib.hid (show decide (∃ y ∈ M, y.1 = xs) = true from decide_eq_true ⟨(xs, xa, xr), HD5.out.mem, rfl⟩)
            refine (has_any tb mb 1000 M xs _ HD5.out.T true Htr.out).mono ?_
            rintro _ w8 ⟨rfl, k8⟩
            have HD8 := Lib.hid (HD5.out.keep k8)
            clear k8 y1 yl
            go_wp2_with fail
            go_roundw
            case rel => exact ⟨k + 1, M, hlt, h200, by go_num, HD8.out⟩
            case measure => simp [intOf]; omega
          · have q1 := tx_ne hk1
            have q2 := tx_nne hk1
            have HNE := Lib.hid (show ¬ (xs = s ∧ xa = sa ∧ xr ≤ sr) from fun e => hk1 e.1.symm)
            try clear hm
            try clear ha
            try clear hk1
            go_wp2_with fail
            refine (upto_any tb mb 1000 M _ HDV.out.T (by omega) HDV.out.rise s sa sr).mono ?_
            rintro _ w5 ⟨rfl, T5, k5⟩
            obtain ⟨M', hM'⟩ : ∃ l, uptoM s sa sr M = l := ⟨_, rfl⟩
            have HD5 := Lib.hid (HDV.out.next hone.out hxm T5 k5 (rise_filter' HDV.out.rise _) (by have : (uptoM s sa sr M).length ≤ M.length := List.length_filter_le _ _; omega) (List.mem_filter.2 ⟨HDV.out.mem, by show (!decide (xs = s ∧ xa = sa ∧ xr ≤ sr)) = true; rw [decide_eq_false HNE.out]; rfl⟩))
            rw [hM'] at HD5
            clear T5 k5 hM' l0 l1 l2 l3 hb0 y1 y2 y3 yl
            have by' := HD5.out.X
            simp only [opCells] at by'
            have y1 := blk_cell by' 1
            have yl := blk_lt by'
            simp at y1
            clear by'
            have Htr := Lib.hid (show decide (∃ y ∈ M', y.1 = xs) = true from decide_eq_true ⟨(xs, xa, xr), HD5.out.mem, rfl⟩)
            go_wp2_with fail
            refine (has_any tb mb 1000 M' xs _ HD5.out.T true Htr.out).mono ?_
            rintro _ w8 ⟨rfl, k8⟩
            have HD8 := Lib.hid (HD5.out.keep k8)
            clear k8 y1 yl
            go_wp2_with fail
            go_roundw
            case rel => exact ⟨k + 1, M', hlt, h200, by go_num, HD8.out⟩
            case measure => simp [intOf]; omega
      · -- kind 3
        rcases (by omega : sa ≠ xa ∨ (sa = xa ∧ sr < xr) ∨ (sa = xa ∧ sr = xr) ∨ (sa = xa ∧ xr < sr)) with hm | ⟨ha, hm⟩ | ⟨ha, hm⟩ | ⟨ha, hm⟩
        · -- a
          have m1 : (sa == xa) = false := by simpa using hm
          have m1' : (sa != xa) = true := by simpa using hm
          have HNE := Lib.hid (show ¬ (xa = sa ∧ xr ≤ sr) from fun e => hm e.1.symm)
          try clear hm
          try clear ha
          try clear hk1
          go_wp2_with fail
          refine (past_any tb mb 1000 M _ HDV.out.T (by omega) HDV.out.rise sa sr).mono ?_
          rintro _ w5 ⟨rfl, T5, k5⟩
          obtain ⟨M', hM'⟩ : ∃ l, pastM sa sr M = l := ⟨_, rfl⟩
          have HD5 := Lib.hid (HDV.out.next hone.out hxm T5 k5 (rise_filter' HDV.out.rise _) (by have : (pastM sa sr M).length ≤ M.length := List.length_filter_le _ _; omega) (List.mem_filter.2 ⟨HDV.out.mem, by show (!decide (xa = sa ∧ xr ≤ sr)) = true; rw [decide_eq_false HNE.out]; rfl⟩))
          rw [hM'] at HD5
          clear T5 k5 hM' l0 l1 l2 l3 hb0 y1 y2 y3 yl
          have by' := HD5.out.X
          simp only [opCells] at by'
          have y1 := blk_cell by' 1
          have yl := blk_lt by'
          simp at y1
          clear by'
          have Htr := Lib.hid (show decide (∃ y ∈ M', y.1 = xs) = true from decide_eq_true ⟨(xs, xa, xr), HD5.out.mem, rfl⟩)
          go_wp2_with fail
          refine (has_any tb mb 1000 M' xs _ HD5.out.T true Htr.out).mono ?_
          rintro _ w8 ⟨rfl, k8⟩
          have HD8 := Lib.hid (HD5.out.keep k8)
          clear k8 y1 yl
          go_wp2_with fail
          go_roundw
          case rel => exact ⟨k + 1, M', hlt, h200, by go_num, HD8.out⟩
          case measure => simp [intOf]; omega
        · -- b
          have m1 : (sa == xa) = true := by simpa using ha
          have m1' : (sa != xa) = false := by simpa using ha
          have m2 : decide (xr ≤ sr) = false := decide_eq_false (by omega)
          have m3 : (sr != xr) = true := by simp; omega
          have HNE := Lib.hid (show ¬ (xa = sa ∧ xr ≤ sr) from fun e => by omega)
          try clear hm
          try clear ha
          try clear hk1
          go_wp2_with fail
          refine (past_any tb mb 1000 M _ HDV.out.T (by omega) HDV.out.rise sa sr).mono ?_
          rintro _ w5 ⟨rfl, T5, k5⟩
          obtain ⟨M', hM'⟩ : ∃ l, pastM sa sr M = l := ⟨_, rfl⟩
          have HD5 := Lib.hid (HDV.out.next hone.out hxm T5 k5 (rise_filter' HDV.out.rise _) (by have : (pastM sa sr M).length ≤ M.length := List.length_filter_le _ _; omega) (List.mem_filter.2 ⟨HDV.out.mem, by show (!decide (xa = sa ∧ xr ≤ sr)) = true; rw [decide_eq_false HNE.out]; rfl⟩))
          rw [hM'] at HD5
          clear T5 k5 hM' l0 l1 l2 l3 hb0 y1 y2 y3 yl
          have by' := HD5.out.X
          simp only [opCells] at by'
          have y1 := blk_cell by' 1
          have yl := blk_lt by'
          simp at y1
          clear by'
          have Htr := Lib.hid (show decide (∃ y ∈ M', y.1 = xs) = true from decide_eq_true ⟨(xs, xa, xr), HD5.out.mem, rfl⟩)
          go_wp2_with fail
          refine (has_any tb mb 1000 M' xs _ HD5.out.T true Htr.out).mono ?_
          rintro _ w8 ⟨rfl, k8⟩
          have HD8 := Lib.hid (HD5.out.keep k8)
          clear k8 y1 yl
          go_wp2_with fail
          go_roundw
          case rel => exact ⟨k + 1, M', hlt, h200, by go_num, HD8.out⟩
          case measure => simp [intOf]; omega
        · -- c
          have m1 : (sa == xa) = true := by simpa using ha
          have m1' : (sa != xa) = false := by simpa using ha
          have m2 : decide (xr ≤ sr) = true := decide_eq_true (by omega)
          have m3 : (sr != xr) = false := by simpa using hm
          try clear hm
          try clear ha
          try clear hk1
          go_wp2_with fail
          have HD5 := Lib.hid HDV.out.later
          obtain ⟨M', rfl⟩ : ∃ l, M = l := ⟨_, rfl⟩
          clear l0 l1 l2 l3 hb0 y1 y2 y3 yl
          have by' := HD5.out.X
          simp only [opCells] at by'
          have y1 := blk_cell by' 1
          have yl := blk_lt by'
          simp at y1
          clear by'
          have Htr := Lib.hid (show decide (∃ y ∈ M, y.1 = xs) = true from decide_eq_true ⟨(xs, xa, xr), HD5.out.mem, rfl⟩)
          refine (has_any tb mb 1000 M xs _ HD5.out.T true Htr.out).mono ?_
          rintro _ w8 ⟨rfl, k8⟩
          have HD8 := Lib.hid (HD5.out.keep k8)
          clear k8 y1 yl
          go_wp2_with fail
          go_roundw
          case rel => exact ⟨k + 1, M, hlt, h200, by go_num, HD8.out⟩
          case measure => simp [intOf]; omega
        · -- d
          have m1 : (sa == xa) = true := by simpa using ha
          have m1' : (sa != xa) = false := by simpa using ha
          have m2 : decide (xr ≤ sr) = true := decide_eq_true (by omega)
          have m3 : (sr != xr) = true := by simp; omega
          try clear hm
          try clear ha
          try clear hk1
          go_wp2_with fail
          have HD5 := Lib.hid HDV.out.later
          obtain ⟨M', rfl⟩ : ∃ l, M = l := ⟨_, rfl⟩
          clear l0 l1 l2 l3 hb0 y1 y2 y3 yl
          have by' := HD5.out.X
          simp only [opCells] at by'
          have y1 := blk_cell by' 1
          have yl := blk_lt by'
          simp at y1
          clear by'
          have Htr := Lib.hid (show decide (∃ y ∈ M, y.1 = xs) = true from decide_eq_true ⟨(xs, xa, xr), HD5.out.mem, rfl⟩)
          refine (has_any tb mb 1000 M xs _ HD5.out.T true Htr.out).mono ?_
          rintro _ w8 ⟨rfl, k8⟩
          have HD8 := Lib.hid (HD5.out.keep k8)
          clear k8 y1 yl
          go_wp2_with fail
          go_roundw
          case rel => exact ⟨k + 1, M, hlt, h200, by go_num, HD8.out⟩
          case measure => simp [intOf]; omega
      · -- kind None
        have n0' : (kd == 0) = false := by simpa using n0
        have n1' : (kd == 1) = false := by simpa using n1
        have n2' : (kd == 2) = false := by simpa using n2
        have n3' : (kd == 3) = false := by simpa using n3
        clear n0 n1 n2 n3
        rcases (by omega : sa ≠ xa ∨ (sa = xa ∧ sr < xr) ∨ (sa = xa ∧ sr = xr) ∨ (sa = xa ∧ xr < sr)) with hm | ⟨ha, hm⟩ | ⟨ha, hm⟩ | ⟨ha, hm⟩
        · -- a
          have m1 : (sa == xa) = false := by simpa using hm
          have m1' : (sa != xa) = true := by simpa using hm
          try clear hm
          try clear ha
          try clear hk1
          go_wp2_with fail
          have HD5 := Lib.hid HDV.out.later
          obtain ⟨M', rfl⟩ : ∃ l, M = l := ⟨_, rfl⟩
          clear l0 l1 l2 l3 hb0 y1 y2 y3 yl
          have by' := HD5.out.X
          simp only [opCells] at by'
          have y1 := blk_cell by' 1
          have yl := blk_lt by'
          simp at y1
          clear by'
          have Htr := Lib.hid (show decide (∃ y ∈ M, y.1 = xs) = true from decide_eq_true ⟨(xs, xa, xr), HD5.out.mem, rfl⟩)
          refine (has_any tb mb 1000 M xs _ HD5.out.T true Htr.out).mono ?_
          rintro _ w8 ⟨rfl, k8⟩
          have HD8 := Lib.hid (HD5.out.keep k8)
          clear k8 y1 yl
          go_wp2_with fail
          go_roundw
          case rel => exact ⟨k + 1, M, hlt, h200, by go_num, HD8.out⟩
          case measure => simp [intOf]; omega
        · -- b
          have m1 : (sa == xa) = true := by simpa using ha
          have m1' : (sa != xa) = false := by simpa using ha
          have m2 : decide (xr ≤ sr) = false := decide_eq_false (by omega)
          have m3 : (sr != xr) = true := by simp; omega
          try clear hm
          try clear ha
          try clear hk1
          go_wp2_with fail
          have HD5 := Lib.hid HDV.out.later
          obtain ⟨M', rfl⟩ : ∃ l, M = l := ⟨_, rfl⟩
          clear l0 l1 l2 l3 hb0 y1 y2 y3 yl
          have by' := HD5.out.X
          simp only [opCells] at by'
          have y1 := blk_cell by' 1
          have yl := blk_lt by'
          simp at y1
          clear by'
          have Htr := Lib.hid (show decide (∃ y ∈ M, y.1 = xs) = true from decide_eq_true ⟨(xs, xa, xr), HD5.out.mem, rfl⟩)
          refine (has_any tb mb 1000 M xs _ HD5.out.T true Htr.out).mono ?_
          rintro _ w8 ⟨rfl, k8⟩
          have HD8 := Lib.hid (HD5.out.keep k8)
          clear k8 y1 yl
          go_wp2_with fail
          go_roundw
          case rel => exact ⟨k + 1, M, hlt, h200, by go_num, HD8.out⟩
          case measure => simp [intOf]; omega
        · -- c
          have m1 : (sa == xa) = true := by simpa using ha
          have m1' : (sa != xa) = false := by simpa using ha
          have m2 : decide (xr ≤ sr) = true := decide_eq_true (by omega)
          have m3 : (sr != xr) = false := by simpa using hm
          try clear hm
          try clear ha
          try clear hk1
          go_wp2_with fail
          have HD5 := Lib.hid HDV.out.later
          obtain ⟨M', rfl⟩ : ∃ l, M = l := ⟨_, rfl⟩
          clear l0 l1 l2 l3 hb0 y1 y2 y3 yl
          have by' := HD5.out.X
          simp only [opCells] at by'
          have y1 := blk_cell by' 1
          have yl := blk_lt by'
          simp at y1
          clear by'
          have Htr := Lib.hid (show decide (∃ y ∈ M, y.1 = xs) = true from decide_eq_true ⟨(xs, xa, xr), HD5.out.mem, rfl⟩)
          refine (has_any tb mb 1000 M xs _ HD5.out.T true Htr.out).mono ?_
          rintro _ w8 ⟨rfl, k8⟩
          have HD8 := Lib.hid (HD5.out.keep k8)
          clear k8 y1 yl
          go_wp2_with fail
          go_roundw
          case rel => exact ⟨k + 1, M, hlt, h200, by go_num, HD8.out⟩
          case measure => simp [intOf]; omega
        · -- d
          have m1 : (sa == xa) = true := by simpa using ha
          have m1' : (sa != xa) = false := by simpa using ha
          have m2 : decide (xr ≤ sr) = true := decide_eq_true (by omega)
          have m3 : (sr != xr) = true := by simp; omega
          try clear hm
          try clear ha
          try clear hk1
          go_wp2_with fail
          have HD5 := Lib.hid HDV.out.later
          obtain ⟨M', rfl⟩ : ∃ l, M = l := ⟨_, rfl⟩
          clear l0 l1 l2 l3 hb0 y1 y2 y3 yl
          have by' := HD5.out.X
          simp only [opCells] at by'
          have y1 := blk_cell by' 1
          have yl := blk_lt by'
          simp at y1
          clear by'
          have Htr := Lib.hid (show decide (∃ y ∈ M, y.1 = xs) = true from decide_eq_true ⟨(xs, xa, xr), HD5.out.mem, rfl⟩)
          refine (has_any tb mb 1000 M xs _ HD5.out.T true Htr.out).mono ?_
          rintro _ w8 ⟨rfl, k8⟩
          have HD8 := Lib.hid (HD5.out.keep k8)
          clear k8 y1 yl
          go_wp2_with fail
          go_roundw
          case rel => exact ⟨k + 1, M, hlt, h200, by go_num, HD8.out⟩
          case measure => simp [intOf]; omega
    · have hout : (¬ k < len0 ∧ decide ((k : Int) < (len0 : Int)) = false) ∨ (k < len0 ∧ ¬ k < 200 ∧ decide ((k : Int) < 200) = false) := by
        by_cases h1 : k < len0
        · right
          have : ¬ k < 200 := fun h => hgo ⟨h1, h⟩
          exact ⟨h1, this, by simp; omega⟩
        · left
          exact ⟨h1, by simp; omega⟩
      have HD := Lib.hid D
      have hMl : M.length ≤ 201 := by have := D.len; omega
      have hMp : 0 < M.length := List.length_pos_of_mem D.mem
      have hdl := mdel_in D.rise D.mem
      clear hgo D
      rcases hout with ⟨h1, hd⟩ | ⟨h1, h2, hd⟩
      all_goals
        have hw := (IntKind.wrap_i64 ((M.length : Int) - 1)).trans (by omega : _ = (M.length : Int) - 1)
        have by' := HD.out.X
        simp only [opCells] at by'
        have y1 := blk_cell by' 1
        have y2 := blk_cell by' 2
        have y3 := blk_cell by' 3
        have yl := blk_lt by'
        simp at y1 y2 y3
        clear by'
        go_wp2_with fail
        refine (len_any tb mb 1000 M _ HD.out.T).mono ?_
        rintro _ _ ⟨rfl, rfl⟩
        go_wp2_with fail
        obtain ⟨M', hM'⟩ : ∃ l, mdel (xs, xa, xr) M = l := ⟨_, rfl⟩
        have HM' := Lib.hid hM'
        refine (clear_any tb mb 1000 M xs xa xr _ HD.out.T Hxo.out HD.out.rise true (decide_eq_true HD.out.mem) M' HM'.out).mono ?_
        rintro _ w5 ⟨rfl, T5, k5⟩
        have HT5 := Lib.hid T5
        have HK5 := Lib.hid (HD.out.hk.trans' k5 hone.out)
        have hl5 : ((M'.length : Int) == (M.length : Int) - 1) = true := by rw [← hM']; simp; omega
        have X5 := blk_keep HD.out.X k5 (fun e => hxm e)
        have Hr5 := Lib.hid (show RiseM M' from by rw [← hM']; exact mdel_rise HD.out.rise)
        have Hn5 := Lib.hid (show decide ((xs, xa, xr) ∈ M') = false from decide_eq_false (by rw [← hM']; exact fun e => (mdel_mem.1 e).1 rfl))
        clear T5 k5 y1 y2 y3 yl hM' hdl
        simp only [opCells] at X5
        have y1 := blk_cell X5 1
        have y2 := blk_cell X5 2
        have y3 := blk_cell X5 3
        have yl := blk_lt X5
        simp at y1 y2 y3
        clear X5
        go_wp2_with fail
        refine (len_any tb mb 1000 M' _ HT5.out).mono ?_
        rintro _ _ ⟨rfl, rfl⟩
        go_wp2_with fail
        refine (clear_any tb mb 1000 M' xs xa xr _ HT5.out Hxo.out Hr5.out false Hn5.out _ rfl).mono ?_
        rintro _ w6 ⟨rfl, T6, k6⟩
        have HK6 := Lib.hid (HK5.out.trans' k6 hone.out)
        clear T6 k6 y1 y2 y3 yl
        go_wp2
        go_ret
        exact ⟨rfl, HK6.out.below (fun _ _ h => h)⟩
end Go.Proofs.Ytgangbkompkidaa
