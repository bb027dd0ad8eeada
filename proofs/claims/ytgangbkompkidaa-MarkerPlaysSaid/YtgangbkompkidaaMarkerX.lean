/- The reference's markers: Less, Goes, Has; and the comparison of the two lists. -/
import Derived.Test.YtgangbkompkidaaMarkerD
import Derived.Test.YtgangbkompkidaaLibSub
namespace Go.Proofs.Ytgangbkompkidaa
open Go Go.RowKit Go.Maps Go.Sort

theorem info47' : (Try.prog.info? 47).map (fun i => (i.zero, i.size, i.bytes)) = some (some (.agg #[.string ⟨#[]⟩, .int .i64 0, .int .i64 0]), 3, 32) := by kernel_rfl


theorem less_any (x y : MK) (w : World) (v : Bool) (hv : v = true ↔ mlt x y) :
    Calls Try.prog 30 #[.agg (mCells x).toArray, .agg (mCells y).toArray] w fun e w' => e = .returned (.bool v) ∧ Keep NoB w w' := by
  obtain ⟨x0, x1, x2⟩ := x
  obtain ⟨y0, y1, y2⟩ := y
  have hv' : v = true ↔ (bs x0 < bs y0 ∨ (x0 = y0 ∧ (x1 < y1 ∨ (x1 = y1 ∧ x2 < y2)))) := hv
  clear hv
  simp only [mCells]
  have hno : ¬ (bs x0 < bs y0 ∨ (x0 = y0 ∧ (x1 < y1 ∨ (x1 = y1 ∧ x2 < y2)))) → v = false := fun h => by
    cases v with
    | false => rfl
    | true => exact absurd (hv'.1 rfl) h
  have hyes := hv'.2
  clear hv'
  by_cases h0 : x0 = y0
  · subst h0
    by_cases h1 : x1 = y1
    · subst h1
      by_cases h2 : x2 < y2
      · obtain rfl : v = true := hyes (Or.inr ⟨rfl, Or.inr ⟨rfl, h2⟩⟩)
        have e2 : decide (x2 < y2) = true := decide_eq_true h2
        clear hno hyes
        go_enter Try.func30, Try.ntmps30
        go_wp2
        go_ret
        refine ⟨rfl, ?_⟩
        (repeat (with_reducible first | exact Keep.refl _ _ | assumption | refine Keep.alloc ?_ _ | refine Keep.drewN ?_ _ | refine Keep.drew ?_ | refine Keep.setCell ?_ (by first | (left; simp; done) | (left; simp; omega) | (right; simp [NoB, OneB, TwoB]; done)) _))
      · obtain rfl : v = false := hno (by
          rintro (h | ⟨_, h | ⟨_, h⟩⟩)
          · exact absurd h (List.lt_irrefl _)
          · omega
          · exact h2 h)
        have e2 : decide (x2 < y2) = false := decide_eq_false h2
        clear hno hyes
        go_enter Try.func30, Try.ntmps30
        go_wp2
        go_ret
        refine ⟨rfl, ?_⟩
        (repeat (with_reducible first | exact Keep.refl _ _ | assumption | refine Keep.alloc ?_ _ | refine Keep.drewN ?_ _ | refine Keep.drew ?_ | refine Keep.setCell ?_ (by first | (left; simp; done) | (left; simp; omega) | (right; simp [NoB, OneB, TwoB]; done)) _))
    · have q1 : (x1 != y1) = true := by simpa using h1
      by_cases h2 : x1 < y1
      · obtain rfl : v = true := hyes (Or.inr ⟨rfl, Or.inl h2⟩)
        have e2 : decide (x1 < y1) = true := decide_eq_true h2
        clear hno hyes
        go_enter Try.func30, Try.ntmps30
        go_wp2
        go_ret
        refine ⟨rfl, ?_⟩
        (repeat (with_reducible first | exact Keep.refl _ _ | assumption | refine Keep.alloc ?_ _ | refine Keep.drewN ?_ _ | refine Keep.drew ?_ | refine Keep.setCell ?_ (by first | (left; simp; done) | (left; simp; omega) | (right; simp [NoB, OneB, TwoB]; done)) _))
      · obtain rfl : v = false := hno (by
          rintro (h | ⟨_, h | ⟨h, _⟩⟩)
          · exact absurd h (List.lt_irrefl _)
          · exact h2 h
          · exact h1 h)
        have e2 : decide (x1 < y1) = false := decide_eq_false h2
        clear hno hyes
        go_enter Try.func30, Try.ntmps30
        go_wp2
        go_ret
        refine ⟨rfl, ?_⟩
        (repeat (with_reducible first | exact Keep.refl _ _ | assumption | refine Keep.alloc ?_ _ | refine Keep.drewN ?_ _ | refine Keep.drew ?_ | refine Keep.setCell ?_ (by first | (left; simp; done) | (left; simp; omega) | (right; simp [NoB, OneB, TwoB]; done)) _))
  · have q0 := tx_ne h0
    by_cases h2 : bs x0 < bs y0
    · obtain rfl : v = true := hyes (Or.inl h2)
      have e2 := tx_lt h2
      clear hno hyes
      go_enter Try.func30, Try.ntmps30
      go_wp2
      go_ret
      refine ⟨rfl, ?_⟩
      (repeat (with_reducible first | exact Keep.refl _ _ | assumption | refine Keep.alloc ?_ _ | refine Keep.drewN ?_ _ | refine Keep.drew ?_ | refine Keep.setCell ?_ (by first | (left; simp; done) | (left; simp; omega) | (right; simp [NoB, OneB, TwoB]; done)) _))
    · obtain rfl : v = false := hno (by
        rintro (h | ⟨h, _⟩)
        · exact h2 h
        · exact h0 h)
      have e2 := tx_nlt h2
      clear hno hyes
      go_enter Try.func30, Try.ntmps30
      go_wp2
      go_ret
      refine ⟨rfl, ?_⟩
      (repeat (with_reducible first | exact Keep.refl _ _ | assumption | refine Keep.alloc ?_ _ | refine Keep.drewN ?_ _ | refine Keep.drew ?_ | refine Keep.setCell ?_ (by first | (left; simp; done) | (left; simp; omega) | (right; simp [NoB, OneB, TwoB]; done)) _))

/-- What goes. -/
def goesP (how : Nat) (m x : MK) : Bool := if how = 0 then decide (x = m) else if how = 1 then uptoP m.1 m.2.1 m.2.2 x else pastP m.2.1 m.2.2 x
theorem goes0 (m : MK) (N : List MK) : N.filter (fun x => !goesP 0 m x) = mdel m N := by
  unfold mdel goesP
  simp
theorem goes1 (m : MK) (N : List MK) : N.filter (fun x => !goesP 1 m x) = uptoM m.1 m.2.1 m.2.2 N := rfl
theorem goes2 (m : MK) (N : List MK) : N.filter (fun x => !goesP 2 m x) = pastM m.2.1 m.2.2 N := rfl

theorem goes_any (how : Nat) (hh : how = 0 ∨ how = 1 ∨ how = 2) (x m : MK) (w : World) (v : Bool) (hv : goesP how m x = v) :
    Calls Try.prog 31 #[.agg (mCells x).toArray, .agg (mCells m).toArray, .int .i64 (how : Int)] w fun e w' => e = .returned (.bool v) ∧ Keep NoB w w' := by
  obtain ⟨x0, x1, x2⟩ := x
  obtain ⟨y0, y1, y2⟩ := m
  simp only [mCells]
  rcases hh with rfl | rfl | rfl
  · have hv' : decide ((x0, x1, x2) = (y0, y1, y2)) = v := hv
    clear hv
    by_cases h0 : x0 = y0
    · subst h0
      by_cases h1 : x1 = y1
      · subst h1
        by_cases h2 : x2 = y2
        · subst h2
          obtain rfl : v = true := by rw [← hv']; simp
          clear hv'
          go_enter Try.func31, Try.ntmps31
          go_wp2
          go_ret
          refine ⟨rfl, ?_⟩
          (repeat (with_reducible first | exact Keep.refl _ _ | assumption | refine Keep.alloc ?_ _ | refine Keep.drewN ?_ _ | refine Keep.drew ?_ | refine Keep.setCell ?_ (by first | (left; simp; done) | (left; simp; omega) | (right; simp [NoB, OneB, TwoB]; done)) _))
        · obtain rfl : v = false := by rw [← hv']; simp [h2]
          have e2 : (x2 == y2) = false := by simpa using h2
          clear hv'
          go_enter Try.func31, Try.ntmps31
          go_wp2
          go_ret
          refine ⟨rfl, ?_⟩
          (repeat (with_reducible first | exact Keep.refl _ _ | assumption | refine Keep.alloc ?_ _ | refine Keep.drewN ?_ _ | refine Keep.drew ?_ | refine Keep.setCell ?_ (by first | (left; simp; done) | (left; simp; omega) | (right; simp [NoB, OneB, TwoB]; done)) _))
      · obtain rfl : v = false := by rw [← hv']; simp [h1]
        have e1 : (x1 == y1) = false := by simpa using h1
        clear hv'
        go_enter Try.func31, Try.ntmps31
        go_wp2
        go_ret
        refine ⟨rfl, ?_⟩
        (repeat (with_reducible first | exact Keep.refl _ _ | assumption | refine Keep.alloc ?_ _ | refine Keep.drewN ?_ _ | refine Keep.drew ?_ | refine Keep.setCell ?_ (by first | (left; simp; done) | (left; simp; omega) | (right; simp [NoB, OneB, TwoB]; done)) _))
    · obtain rfl : v = false := by rw [← hv']; simp [h0]
      have e0 := tx_ne h0
      clear hv'
      go_enter Try.func31, Try.ntmps31
      go_wp2
      go_ret
      refine ⟨rfl, ?_⟩
      (repeat (with_reducible first | exact Keep.refl _ _ | assumption | refine Keep.alloc ?_ _ | refine Keep.drewN ?_ _ | refine Keep.drew ?_ | refine Keep.setCell ?_ (by first | (left; simp; done) | (left; simp; omega) | (right; simp [NoB, OneB, TwoB]; done)) _))
  · have hv' : decide (x0 = y0 ∧ x1 = y1 ∧ x2 ≤ y2) = v := hv
    clear hv
    by_cases h1 : x1 = y1
    · subst h1
      have e1 : (x1 == x1) = true := by simp
      by_cases h2 : x2 ≤ y2
      · have e2 : decide (x2 ≤ y2) = true := decide_eq_true h2
        by_cases h0 : x0 = y0
        · subst h0
          obtain rfl : v = true := by rw [← hv']; simp [h2]
          clear hv'
          go_enter Try.func31, Try.ntmps31
          go_wp2
          go_ret
          refine ⟨rfl, ?_⟩
          (repeat (with_reducible first | exact Keep.refl _ _ | assumption | refine Keep.alloc ?_ _ | refine Keep.drewN ?_ _ | refine Keep.drew ?_ | refine Keep.setCell ?_ (by first | (left; simp; done) | (left; simp; omega) | (right; simp [NoB, OneB, TwoB]; done)) _))
        · obtain rfl : v = false := by rw [← hv']; simp [h0]
          have e0 := tx_ne h0
          clear hv'
          go_enter Try.func31, Try.ntmps31
          go_wp2
          go_ret
          refine ⟨rfl, ?_⟩
          (repeat (with_reducible first | exact Keep.refl _ _ | assumption | refine Keep.alloc ?_ _ | refine Keep.drewN ?_ _ | refine Keep.drew ?_ | refine Keep.setCell ?_ (by first | (left; simp; done) | (left; simp; omega) | (right; simp [NoB, OneB, TwoB]; done)) _))
      · have e2 : decide (x2 ≤ y2) = false := decide_eq_false h2
        obtain rfl : v = false := by rw [← hv']; exact decide_eq_false (fun e => h2 e.2.2)
        clear hv'
        go_enter Try.func31, Try.ntmps31
        go_wp2
        go_ret
        refine ⟨rfl, ?_⟩
        (repeat (with_reducible first | exact Keep.refl _ _ | assumption | refine Keep.alloc ?_ _ | refine Keep.drewN ?_ _ | refine Keep.drew ?_ | refine Keep.setCell ?_ (by first | (left; simp; done) | (left; simp; omega) | (right; simp [NoB, OneB, TwoB]; done)) _))
    · have e1 : (x1 == y1) = false := by simpa using h1
      obtain rfl : v = false := by rw [← hv']; exact decide_eq_false (fun e => h1 e.2.1)
      clear hv'
      go_enter Try.func31, Try.ntmps31
      go_wp2
      go_ret
      refine ⟨rfl, ?_⟩
      (repeat (with_reducible first | exact Keep.refl _ _ | assumption | refine Keep.alloc ?_ _ | refine Keep.drewN ?_ _ | refine Keep.drew ?_ | refine Keep.setCell ?_ (by first | (left; simp; done) | (left; simp; omega) | (right; simp [NoB, OneB, TwoB]; done)) _))
  · have hv' : decide (x1 = y1 ∧ x2 ≤ y2) = v := hv
    clear hv
    by_cases h1 : x1 = y1
    · subst h1
      have e1 : (x1 == x1) = true := by simp
      by_cases h2 : x2 ≤ y2
      · have e2 : decide (x2 ≤ y2) = true := decide_eq_true h2
        obtain rfl : v = true := by rw [← hv']; simp [h2]
        clear hv'
        go_enter Try.func31, Try.ntmps31
        go_wp2
        go_ret
        refine ⟨rfl, ?_⟩
        (repeat (with_reducible first | exact Keep.refl _ _ | assumption | refine Keep.alloc ?_ _ | refine Keep.drewN ?_ _ | refine Keep.drew ?_ | refine Keep.setCell ?_ (by first | (left; simp; done) | (left; simp; omega) | (right; simp [NoB, OneB, TwoB]; done)) _))
      · have e2 : decide (x2 ≤ y2) = false := decide_eq_false h2
        obtain rfl : v = false := by rw [← hv']; exact decide_eq_false (fun e => h2 e.2)
        clear hv'
        go_enter Try.func31, Try.ntmps31
        go_wp2
        go_ret
        refine ⟨rfl, ?_⟩
        (repeat (with_reducible first | exact Keep.refl _ _ | assumption | refine Keep.alloc ?_ _ | refine Keep.drewN ?_ _ | refine Keep.drew ?_ | refine Keep.setCell ?_ (by first | (left; simp; done) | (left; simp; omega) | (right; simp [NoB, OneB, TwoB]; done)) _))
    · have e1 : (x1 == y1) = false := by simpa using h1
      obtain rfl : v = false := by rw [← hv']; exact decide_eq_false (fun e => h1 e.1)
      clear hv'
      go_enter Try.func31, Try.ntmps31
      go_wp2
      go_ret
      refine ⟨rfl, ?_⟩
      (repeat (with_reducible first | exact Keep.refl _ _ | assumption | refine Keep.alloc ?_ _ | refine Keep.drewN ?_ _ | refine Keep.drew ?_ | refine Keep.setCell ?_ (by first | (left; simp; done) | (left; simp; omega) | (right; simp [NoB, OneB, TwoB]; done)) _))

/-! ### the reference's table -/
structure RT (w : World) (B rb : Nat) (a : Option Addr) (cap : Nat) (limit : Int) (N : List MK) : Prop where
  blk : w.heap[rb]? = some (.cells #[.slice a N.length cap, .int .i64 limit] 46 (0, 0))
  own : Own w B 47 3 mCells (.slice a N.length cap) N
section
variable {w w' : World} {B rb : Nat} {a : Option Addr} {cap : Nat} {limit : Int} {N : List MK}
theorem RT.keep {S : Nat → Prop} (T : RT w B rb a cap limit N) (hk : Keep S w w') (h1 : ¬ S rb) (h2 : ∀ g, (Value.slice a N.length cap).ownBlock = some g → ¬ S g) : RT w' B rb a cap limit N :=
  ⟨blk_keep T.blk hk h1, T.own.keep hk h2⟩
theorem RT.keep0 (T : RT w B rb a cap limit N) (hk : Keep NoB w w') : RT w' B rb a cap limit N := T.keep hk (fun h => h) (fun _ _ h => h)
theorem RT.ne (T : RT w B rb a cap limit N) : ∀ g, (Value.slice a N.length cap).ownBlock = some g → g ≠ rb := T.own.ne T.blk (by decide)
end

set_option maxHeartbeats 1000000 in
theorem rhas_any (rb B : Nat) (a : Option Addr) (cap : Nat) (limit : Int) (N : List MK) (s : ByteArray) (w : World) (T : RT w B rb a cap limit N) (hN : N.length ≤ 100000) (v : Bool) (hv : decide (∃ x ∈ N, x.1 = s) = v) :
    Calls Try.prog 20 #[.pointer (some ⟨rb, 0, none⟩), .string s] w fun e w' => e = .returned (.bool v) ∧ w' = w := by
  have c0 := blk_cell T.blk 0
  have hlt := blk_lt T.blk
  have HT := Lib.hid T
  have Hv := Lib.hid hv
  clear T hv
  simp at c0
  go_enter Try.func20, Try.ntmps20
  go_wp2_with fail
  go_loopw [5] (fun iv wr => ∃ k : Nat, k ≤ N.length ∧ iv = .int .i64 (k : Int) ∧ wr = w ∧ ∀ x ∈ N.take k, x.1 ≠ s) (fun iv _ => N.length - (intOf iv).toNat)
  case atStart => exact ⟨0, Nat.zero_le _, rfl, rfl, by simp⟩
  case round =>
    obtain ⟨k, hk, rfl, rfl, hns⟩ := hrel
    by_cases hkn : k < N.length
    · obtain ⟨y, hx⟩ : ∃ y, N[k]? = some y := ⟨_, List.getElem?_eq_getElem hkn⟩
      obtain ⟨g, cap', hvv, hg1, hg2, hcx⟩ := HT.out.own.cells mCells_len hx
      cases hvv
      have m0 := hcx 0 _ rfl
      simp only [Nat.add_zero] at m0
      have Hx := Lib.hid hx
      obtain ⟨y0, y1, y2⟩ := y
      simp at m0
      clear hcx hx
      by_cases he : y0 = s
      · subst he
        obtain rfl : v = true := by rw [← Hv.out]; exact decide_eq_true ⟨_, List.mem_of_getElem? Hx.out, rfl⟩
        clear hns
        go_wp2
        go_ret
        exact ⟨rfl, rfl⟩
      · have q := tx_ne he
        have Hns := Lib.hid (show ∀ x ∈ N.take (k + 1), x.1 ≠ s from by
          obtain ⟨h1, h2⟩ := List.getElem?_eq_some_iff.1 Hx.out
          rw [List.take_succ_eq_append_getElem h1, h2]
          intro x hx
          rcases List.mem_append.1 hx with hx | hx
          · exact hns x hx
          · have e := List.mem_singleton.1 hx
            rw [e]
            exact he)
        clear hns he
        go_wp2_with fail
        go_roundw
        case rel => exact ⟨k + 1, hkn, by go_num, trivial, Hns.out⟩
        case measure => simp [intOf]; omega
    · have hd : decide ((k : Int) < (N.length : Int)) = false := decide_eq_false (by omega)
      obtain rfl : v = false := by
        rw [← Hv.out]
        refine decide_eq_false ?_
        rintro ⟨x, hx, he⟩
        rw [List.take_of_length_le (by omega)] at hns
        exact hns x hx he
      clear hns
      go_wp2
      go_ret
      exact ⟨rfl, rfl⟩

set_option maxHeartbeats 2000000 in
theorem same_any (B1 B2 : Nat) (a b : Option Addr) (c1 c2 : Nat) (N : List MK) (w : World) (O1 : Own w B1 37 3 mCells (.slice a N.length c1) N) (O2 : Own w B2 47 3 mCells (.slice b N.length c2) N) (hN : N.length ≤ 100000) :
    Calls Try.prog 21 #[.slice a N.length c1, .slice b N.length c2] w fun e w' => e = .returned (.bool true) ∧ Keep NoB w w' := by
  have HO1 := Lib.hid O1
  have HO2 := Lib.hid O2
  clear O1 O2
  go_enter Try.func21, Try.ntmps21
  go_wp2_with fail
  go_loopw [13] (fun i wx => ∃ q : Nat, q ≤ N.length ∧ i = .int .i64 q ∧ Keep NoB w wx) (fun i _ => N.length - (intOf i).toNat)
  case atStart => exact ⟨0, Nat.zero_le _, rfl, Keep.refl _ _⟩
  case round =>
    obtain ⟨q, hq, rfl, kq⟩ := hrel
    by_cases hql : q < N.length
    · obtain ⟨x, hx⟩ : ∃ x, N[q]? = some x := ⟨_, List.getElem?_eq_getElem hql⟩
      have Oax := HO1.out.keep kq (fun _ _ h => h)
      have Obx := HO2.out.keep kq (fun _ _ h => h)
      obtain ⟨g, cg, hvv, hg1, hg2, hcx⟩ := Oax.cells mCells_len hx
      cases hvv
      obtain ⟨g', cg', hvv', hg1', hg2', hcx'⟩ := Obx.cells mCells_len hx
      cases hvv'
      have r0 := hcx 0 _ rfl
      have r1 := hcx 1 _ rfl
      have r2 := hcx 2 _ rfl
      have q0 := hcx' 0 _ rfl
      have q1 := hcx' 1 _ rfl
      have q2 := hcx' 2 _ rfl
      simp only [Nat.add_zero] at r0 q0
      have Hkq := Lib.hid kq
      obtain ⟨x0, x1, x2⟩ := x
      simp at r0 r1 r2 q0 q1 q2
      clear hcx hcx' Oax Obx hx kq
      go_wp2_with fail
      go_quiet (fail)
      go_wp2_with fail
      go_roundw
      case rel => exact ⟨q + 1, hql, by go_num, Hkq.out.drewN _⟩
      case measure => simp [intOf]; omega
    · have hd3 : decide ((q : Int) < (N.length : Int)) = false := decide_eq_false (by omega)
      go_wp2
      go_ret
      exact ⟨rfl, kq⟩
end Go.Proofs.Ytgangbkompkidaa
