/- What the reference's table of sessions comes to: Note. -/
import Derived.Test.YtlglnpokfmdpaaaDedupeR2
namespace Go.Proofs.Ytlglnpokfmdpaaa
open Go Go.RowKit Go.Maps Go.Sort

theorem take_one {α : Type} {N : List α} {k : Nat} {x : α} (hx : N[k]? = some x) : N.take (k + 1) = N.take k ++ [x] := by
  obtain ⟨h, e⟩ := List.getElem?_eq_some_iff.1 hx
  rw [List.take_succ_eq_append_getElem h, e]

/-- One step of the loop of Note. -/
def insS (s : Int) (v : Last) (q : List SE × Bool) (y : SE) : List SE × Bool :=
  (if y.1 = s then (if q.2 = false ∧ s ≤ y.1 then q.1 ++ [(s, v)] else q.1) else (if q.2 = false ∧ s ≤ y.1 then q.1 ++ [(s, v)] else q.1) ++ [y], q.2 || decide (s ≤ y.1))
def insN (s : Int) (v : Last) (N : List SE) : List SE × Bool := N.foldl (insS s v) ([], false)
theorem insN_add (s : Int) (v : Last) (N : List SE) (y : SE) : insN s v (N ++ [y]) = insS s v (insN s v N) y := by simp [insN]
theorem insS_true {s : Int} {v : Last} : ∀ {N A : List SE}, (∀ x ∈ N, s < x.1) → N.foldl (insS s v) (A, true) = (A ++ N, true)
  | [], A, _ => by simp
  | y :: N, A, h => by
    have hy := h y (by simp)
    rw [List.foldl_cons, show insS s v (A, true) y = (A ++ [y], true) by simp [insS]; omega, insS_true (fun x hx => h x (List.mem_cons_of_mem _ hx))]
    simp
theorem insS_false {s : Int} {v : Last} : ∀ {N A : List SE}, RiseD N → (if (N.foldl (insS s v) (A, false)).2 = true then (N.foldl (insS s v) (A, false)).1 else (N.foldl (insS s v) (A, false)).1 ++ [(s, v)]) = A ++ dput s v N
  | [], A, _ => by simp [dput]
  | y :: N, A, h => by
    obtain ⟨h1, h2⟩ := List.pairwise_cons.1 h
    rw [List.foldl_cons]
    unfold dput
    by_cases hl : y.1 < s
    · rw [show insS s v (A, false) y = (A ++ [y], false) by unfold insS; rw [if_neg (by omega), if_neg (by omega)]; simp; omega, insS_false h2, if_pos hl]
      simp
    · rw [if_neg hl]
      by_cases he : y.1 = s
      · rw [show insS s v (A, false) y = (A ++ [(s, v)], true) by unfold insS; rw [if_pos he, if_pos ⟨rfl, by omega⟩]; simp; omega, insS_true (fun x hx => by have := h1 x hx; omega), if_pos he]
        simp
      · rw [show insS s v (A, false) y = (A ++ [(s, v)] ++ [y], true) by unfold insS; rw [if_neg he, if_pos ⟨rfl, by omega⟩]; simp; omega, insS_true (fun x hx => by have := h1 x hx; omega), if_neg he]
        simp
theorem insN_dput {s : Int} {v : Last} {N : List SE} (h : RiseD N) : (if (insN s v N).2 = true then (insN s v N).1 else (insN s v N).1 ++ [(s, v)]) = dput s v N := by
  have := insS_false (s := s) (v := v) (A := []) h
  simp only [List.nil_append] at this
  exact this
theorem stepA {s : Int} {v : Last} {M : List SE} {y : SE} (h : y.1 < s) : insS s v (M, false) y = (M ++ [y], false) := by
  unfold insS; rw [if_neg (by omega), if_neg (by omega)]; simp; omega
theorem stepB {s : Int} {v : Last} {M : List SE} {y : SE} (h : y.1 = s) : insS s v (M, false) y = (M ++ [(s, v)], true) := by
  unfold insS; rw [if_pos h, if_pos ⟨rfl, by omega⟩]; simp; omega
theorem stepC {s : Int} {v : Last} {M : List SE} {y : SE} (h : s < y.1) : insS s v (M, false) y = (M ++ [(s, v)] ++ [y], true) := by
  unfold insS; rw [if_neg (by omega), if_pos ⟨rfl, by omega⟩]; simp; omega
theorem stepD {s : Int} {v : Last} {M : List SE} {y : SE} (h : y.1 ≠ s) : insS s v (M, true) y = (M ++ [y], true) := by
  unfold insS; rw [if_neg h]; simp
theorem stepE {s : Int} {v : Last} {M : List SE} {y : SE} (h : y.1 = s) : insS s v (M, true) y = (M, true) := by
  unfold insS; rw [if_pos h]; simp

structure NSt (wy wr : World) (s r e i : Int) (N : List SE) (k : Nat) (o pv : Value) : Prop where
  st : ∃ (p : Bool) (M : List SE) (a' : Option Addr) (c' : Nat), o = .slice a' M.length c' ∧ pv = .bool p ∧ Own wr wy.heap.size 41 4 encSeen (.slice a' M.length c') M ∧ M.length ≤ 2 * k ∧ insN s (r, e, i) (N.take k) = (M, p)

def RNPost (rb B : Nat) (limit : Int) (ok : Bool) (N : List SE) (w : World) (e : Ending) (w' : World) : Prop :=
  e = .returned (.bool ok) ∧ (∃ a cap, RT w' B rb a cap limit N) ∧ Keep (OneB rb) w w'

set_option maxHeartbeats 2000000 in
theorem rnote_no (rb B : Nat) (a : Option Addr) (cap : Nat) (limit s r e i : Int) (N : List SE) (w : World) (T : RT w B rb a cap limit N) (hN : N.length ≤ 100000) (hr : RiseD N) (c p q : Int) (hc : c ≠ 1) (hl : lookF limit (absD N) s r = (c, p, q)) :
    Calls Try.prog 15 #[.pointer (some ⟨rb, 0, none⟩), .agg #[.int .i64 s, .int .i64 r, .int .i64 e, .int .i64 i]] w (RNPost rb B limit false N w) := by
  have hd : (c != 1) = true := by simpa using hc
  have HT := Lib.hid T
  clear T
  go_enter Try.func15, Try.ntmps15
  go_wp2_with fail
  have k0 : Keep NoB w (w.alloc (.cells #[.int .i64 s, .int .i64 r, .int .i64 e, .int .i64 i] 41)) := (Keep.refl NoB w).alloc _
  have b0 := blk_new w (.cells #[.int .i64 s, .int .i64 r, .int .i64 e, .int .i64 i] 41)
  try generalize World.alloc w (.cells #[.int .i64 s, .int .i64 r, .int .i64 e, .int .i64 i] 41) = w0 at k0 b0 ⊢
  refine (rlook_any rb B a cap limit s r N _ (HT.out.keep0 k0) hN hr _ hl).mono ?_
  rintro _ w1 ⟨rfl, k1⟩
  have K1 := k0.trans k1
  clear k0 b0 k1
  go_wp2
  go_ret
  have K2 := K1.alloc (.cells #[.int .i64 p, .int .i64 q] 29)
  exact ⟨rfl, ⟨a, cap, HT.out.keep0 K2⟩, K2.none⟩

set_option maxRecDepth 100000 in
set_option maxHeartbeats 8000000 in
theorem rnote_yes (rb B : Nat) (a : Option Addr) (cap : Nat) (limit s r e i : Int) (N : List SE) (w : World) (T : RT w B rb a cap limit N) (hB : B ≤ w.heap.size) (hN : N.length ≤ 100000) (hr : RiseD N) (p0 q0 : Int) (hl : lookF limit (absD N) s r = (1, p0, q0)) :
    Calls Try.prog 15 #[.pointer (some ⟨rb, 0, none⟩), .agg #[.int .i64 s, .int .i64 r, .int .i64 e, .int .i64 i]] w (RNPost rb B limit true (dput s (r, e, i) N) w) := by
  have HT0 := Lib.hid T
  have Hr := Lib.hid hr
  have Hdp := Lib.hid (insN_dput (s := s) (v := (r, e, i)) hr)
  clear T
  go_enter Try.func15, Try.ntmps15
  go_wp2_with fail
  have k0 : Keep NoB w (w.alloc (.cells #[.int .i64 s, .int .i64 r, .int .i64 e, .int .i64 i] 41)) := (Keep.refl NoB w).alloc _
  have b0 := blk_new w (.cells #[.int .i64 s, .int .i64 r, .int .i64 e, .int .i64 i] 41)
  refine (rlook_any rb B a cap limit s r N _ (HT0.out.keep0 k0) hN Hr.out _ hl).mono ?_
  rintro _ w1 ⟨rfl, k1⟩
  have K1 := (k0.trans k1).alloc (.cells #[.int .i64 p0, .int .i64 q0] 29)
  have b1 := blk_alloc (o' := .cells #[.int .i64 p0, .int .i64 q0] 29) (blk_keep b0 k1 (fun h => h))
  obtain ⟨xb, hxb⟩ : ∃ t, w.heap.size = t := ⟨_, rfl⟩
  rw [hxb] at b1 ⊢
  clear k0 b0 k1 hl hr hxb
  go_wp2_with fail
  have hwy : w1.heap.size + 1 = (w1.alloc (.cells #[.int .i64 p0, .int .i64 q0] 29)).heap.size := by simp
  try generalize World.alloc w1 (.cells #[.int .i64 p0, .int .i64 q0] 29) = wy at K1 b1 hwy ⊢
  have HT := Lib.hid (HT0.out.keep0 K1)
  have Hbox := Lib.hid b1
  have HK1 := Lib.hid K1
  have HO0 := Lib.hid (Own.empty wy (Nat.le_refl _) 41 4 encSeen)
  have hBy := Nat.le_trans hB K1.size
  clear K1 b1 HT0
  go_loopw [7, 8, 9] (fun o pv iv wr => ∃ k : Nat, k ≤ N.length ∧ iv = .int .i64 (k : Int) ∧ NSt wy wr s r e i N k o pv ∧ Keep NoB wy wr) (fun _ _ iv _ => N.length - (intOf iv).toNat)
  case atStart => exact ⟨0, Nat.zero_le _, rfl, ⟨⟨false, [], _, 0, rfl, rfl, (by rw [hwy]; exact HO0.out), Nat.le_refl _, rfl⟩⟩, (Keep.refl NoB wy).alloc _⟩
  case round =>
    clear HO0
    obtain ⟨k, hk, rfl, ⟨⟨p, M, a', c', rfl, rfl, O', hMk, hM⟩⟩, kr⟩ := hrel
    have HO := Lib.hid O'
    clear O'
    by_cases hkn : k < N.length
    · obtain ⟨y, hx⟩ : ∃ y, N[k]? = some y := ⟨_, List.getElem?_eq_getElem hkn⟩
      have hstep := insN_add s (r, e, i) (N.take k) y
      rw [← take_one hx, hM] at hstep
      obtain ⟨y0, y1, y2, y3⟩ := y
      have Hx := Lib.hid hx
      clear hx hM
      cases p
      · rcases (by omega : y0 < s ∨ y0 = s ∨ s < y0) with hc | hc | hc
        · rw [stepA hc] at hstep
          have Hstep := Lib.hid hstep
          have q1 : decide (s ≤ y0) = false := decide_eq_false (by omega)
          have q2 : (y0 != s) = true := by simp; omega
          clear hstep hc
          have TT := HT.out.keep0 kr
          have d0 := blk_cell TT.blk 0
          have dl := blk_lt TT.blk
          have bb := blk_keep Hbox.out kr (fun h => h)
          have x0 := blk_cell bb 0
          have x1 := blk_cell bb 1
          have x2 := blk_cell bb 2
          have x3 := blk_cell bb 3
          have xl := blk_lt bb
          simp at d0 x0 x1 x2 x3
          obtain ⟨g, cap', hvv, hg1, hg2, hcx⟩ := TT.own.cells encSeen_len Hx.out
          have Hvv := Lib.hid hvv
          have m0 := hcx 0 _ rfl
          have m1 := hcx 1 _ rfl
          have m2 := hcx 2 _ rfl
          have m3 := hcx 3 _ rfl
          simp only [Nat.add_zero] at m0
          simp at m0 m1 m2 m3
          cases hvv
          clear TT bb hcx
          go_wp2_with fail
          go_quiet (fail)
          have kq : Keep NoB wr (wr.drewN nq) := (Keep.refl NoB wr).drewN nq
          generalize wr.drewN nq = wq at kq ⊢
          have k1 : Keep NoB wy wq := kr.trans kq
          have HO1 := Lib.hid (HO.out.keep kq (fun _ _ h => h))
          clear kq
          clear d0 dl x0 x1 x2 x3 xl m0 m1 m2 m3 hg1 hg2 Hvv
          have TT := HT.out.keep0 k1
          have d0 := blk_cell TT.blk 0
          have dl := blk_lt TT.blk
          have bb := blk_keep Hbox.out k1 (fun h => h)
          have x0 := blk_cell bb 0
          have x1 := blk_cell bb 1
          have x2 := blk_cell bb 2
          have x3 := blk_cell bb 3
          have xl := blk_lt bb
          simp at d0 x0 x1 x2 x3
          obtain ⟨g, cap', hvv, hg1, hg2, hcx⟩ := TT.own.cells encSeen_len Hx.out
          have Hvv := Lib.hid hvv
          have m0 := hcx 0 _ rfl
          have m1 := hcx 1 _ rfl
          have m2 := hcx 2 _ rfl
          have m3 := hcx 3 _ rfl
          simp only [Nat.add_zero] at m0
          simp at m0 m1 m2 m3
          cases hvv
          clear TT bb hcx
          go_wp2_with fail
          go_quiet (fail)
          have kq : Keep NoB wq (wq.drewN nq) := (Keep.refl NoB wq).drewN nq
          generalize wq.drewN nq = w5 at kq ⊢
          have k5 : Keep NoB wy w5 := k1.trans kq
          have HO5 := Lib.hid (HO1.out.keep kq (fun _ _ h => h))
          clear kq
          clear d0 dl x0 x1 x2 x3 xl m0 m1 m2 m3 hg1 hg2 Hvv
          have TT := HT.out.keep0 k5
          have d0 := blk_cell TT.blk 0
          have dl := blk_lt TT.blk
          have bb := blk_keep Hbox.out k5 (fun h => h)
          have x0 := blk_cell bb 0
          have x1 := blk_cell bb 1
          have x2 := blk_cell bb 2
          have x3 := blk_cell bb 3
          have xl := blk_lt bb
          simp at d0 x0 x1 x2 x3
          obtain ⟨g, cap', hvv, hg1, hg2, hcx⟩ := TT.own.cells encSeen_len Hx.out
          have Hvv := Lib.hid hvv
          have m0 := hcx 0 _ rfl
          have m1 := hcx 1 _ rfl
          have m2 := hcx 2 _ rfl
          have m3 := hcx 3 _ rfl
          simp only [Nat.add_zero] at m0
          simp at m0 m1 m2 m3
          cases hvv
          clear TT bb hcx
          obtain ⟨M2, hM2⟩ : ∃ l, M ++ [(y0, y1, y2, y3)] = l := ⟨_, rfl⟩
          have HM2 := Lib.hid hM2
          have HM2l := Lib.hid (show M2.length = M.length + 1 by rw [← hM2]; simp)
          clear hM2
          go_wp2_with (first
            | (at_builtin
               refine wpList_append_one rfl (.tmp 61) (.tmp 69) 38 rfl Try.underlying38 info41' (by kernel_rfl) (by decide) (by decide) rfl (HO5.out.alloc _) encSeen_len (y0, y1, y2, y3) rfl (c := #[.int .i64 y0, .int .i64 y1, .int .i64 y2, .int .i64 y3]) (t' := 41) (f := (0, 0)) (blk_new w5 _) rfl (encSeen_one _) (by omega) (by have := k5.size; simp; omega) HM2.out ?_
               intro HO6a HO6c w6 HO6' k4
               have k6 : Keep NoB wy w6 := (HO5.out.alloc _).knob (k5.alloc _) k4
               have HO6 := Lib.hid HO6'
               clear k4 HO6'
               skip))
          go_roundw
          case rel => exact ⟨.slice HO6a M2.length HO6c, .bool false, .int .i64 ((k : Int) + 1), ⟨k + 1, hkn, by go_num, ⟨⟨false, M2, HO6a, HO6c, rfl, rfl, HO6.out, by have := HM2l.out; omega, by rw [Hstep.out, HM2.out]⟩⟩⟩, rfl, rfl, rfl⟩
          case measure => simp [intOf]; omega
        · rw [stepB (y := (y0, y1, y2, y3)) hc] at hstep
          have Hstep := Lib.hid hstep
          have q1 : decide (s ≤ y0) = true := decide_eq_true (by omega)
          have q2 : (y0 != s) = false := by simpa using hc
          clear hstep hc
          have TT := HT.out.keep0 kr
          have d0 := blk_cell TT.blk 0
          have dl := blk_lt TT.blk
          have bb := blk_keep Hbox.out kr (fun h => h)
          have x0 := blk_cell bb 0
          have x1 := blk_cell bb 1
          have x2 := blk_cell bb 2
          have x3 := blk_cell bb 3
          have xl := blk_lt bb
          simp at d0 x0 x1 x2 x3
          obtain ⟨g, cap', hvv, hg1, hg2, hcx⟩ := TT.own.cells encSeen_len Hx.out
          have Hvv := Lib.hid hvv
          have m0 := hcx 0 _ rfl
          have m1 := hcx 1 _ rfl
          have m2 := hcx 2 _ rfl
          have m3 := hcx 3 _ rfl
          simp only [Nat.add_zero] at m0
          simp at m0 m1 m2 m3
          cases hvv
          clear TT bb hcx
          go_wp2_with fail
          go_quiet (fail)
          have kq : Keep NoB wr (wr.drewN nq) := (Keep.refl NoB wr).drewN nq
          generalize wr.drewN nq = wq at kq ⊢
          have k1 : Keep NoB wy wq := kr.trans kq
          have HO1 := Lib.hid (HO.out.keep kq (fun _ _ h => h))
          clear kq
          clear d0 dl x0 x1 x2 x3 xl m0 m1 m2 m3 hg1 hg2 Hvv
          have TT := HT.out.keep0 k1
          have d0 := blk_cell TT.blk 0
          have dl := blk_lt TT.blk
          have bb := blk_keep Hbox.out k1 (fun h => h)
          have x0 := blk_cell bb 0
          have x1 := blk_cell bb 1
          have x2 := blk_cell bb 2
          have x3 := blk_cell bb 3
          have xl := blk_lt bb
          simp at d0 x0 x1 x2 x3
          obtain ⟨g, cap', hvv, hg1, hg2, hcx⟩ := TT.own.cells encSeen_len Hx.out
          have Hvv := Lib.hid hvv
          have m0 := hcx 0 _ rfl
          have m1 := hcx 1 _ rfl
          have m2 := hcx 2 _ rfl
          have m3 := hcx 3 _ rfl
          simp only [Nat.add_zero] at m0
          simp at m0 m1 m2 m3
          cases hvv
          clear TT bb hcx
          obtain ⟨M1, hM1⟩ : ∃ l, M ++ [(s, r, e, i)] = l := ⟨_, rfl⟩
          have HM1 := Lib.hid hM1
          have HM1l := Lib.hid (show M1.length = M.length + 1 by rw [← hM1]; simp)
          clear hM1
          go_wp2_with (first
            | (at_builtin
               refine wpList_append_one rfl (.tmp 46) (.tmp 48) 38 rfl Try.underlying38 info41' (by kernel_rfl) (by decide) (by decide) rfl (HO1.out.alloc _) encSeen_len (s, r, e, i) rfl (c := #[.int .i64 s, .int .i64 r, .int .i64 e, .int .i64 i]) (t' := 41) (f := (0, 0)) (blk_new wq _) rfl (encSeen_one _) (by omega) (by have := k1.size; simp; omega) HM1.out ?_
               intro HO4a HO4c w4 HO4' k4
               have k4x : Keep NoB wy w4 := (HO1.out.alloc _).knob (k1.alloc _) k4
               have HO4 := Lib.hid HO4'
               clear k4 HO4'
               clear d0 dl x0 x1 x2 x3 xl m0 m1 m2 m3 hg1 hg2 Hvv
               have TT := HT.out.keep0 k4x
               have d0 := blk_cell TT.blk 0
               have dl := blk_lt TT.blk
               have bb := blk_keep Hbox.out k4x (fun h => h)
               have x0 := blk_cell bb 0
               have x1 := blk_cell bb 1
               have x2 := blk_cell bb 2
               have x3 := blk_cell bb 3
               have xl := blk_lt bb
               simp at d0 x0 x1 x2 x3
               obtain ⟨g, cap', hvv, hg1, hg2, hcx⟩ := TT.own.cells encSeen_len Hx.out
               have Hvv := Lib.hid hvv
               have m0 := hcx 0 _ rfl
               have m1 := hcx 1 _ rfl
               have m2 := hcx 2 _ rfl
               have m3 := hcx 3 _ rfl
               simp only [Nat.add_zero] at m0
               simp at m0 m1 m2 m3
               cases hvv
               clear TT bb hcx
               skip))
          go_quiet (fail)
          have kq : Keep NoB w4 (w4.drewN nq) := (Keep.refl NoB w4).drewN nq
          generalize w4.drewN nq = w5 at kq ⊢
          have k5 : Keep NoB wy w5 := k4x.trans kq
          have HO5 := Lib.hid (HO4.out.keep kq (fun _ _ h => h))
          clear kq
          clear d0 dl x0 x1 x2 x3 xl m0 m1 m2 m3 hg1 hg2 Hvv
          have TT := HT.out.keep0 k5
          have d0 := blk_cell TT.blk 0
          have dl := blk_lt TT.blk
          have bb := blk_keep Hbox.out k5 (fun h => h)
          have x0 := blk_cell bb 0
          have x1 := blk_cell bb 1
          have x2 := blk_cell bb 2
          have x3 := blk_cell bb 3
          have xl := blk_lt bb
          simp at d0 x0 x1 x2 x3
          obtain ⟨g, cap', hvv, hg1, hg2, hcx⟩ := TT.own.cells encSeen_len Hx.out
          have Hvv := Lib.hid hvv
          have m0 := hcx 0 _ rfl
          have m1 := hcx 1 _ rfl
          have m2 := hcx 2 _ rfl
          have m3 := hcx 3 _ rfl
          simp only [Nat.add_zero] at m0
          simp at m0 m1 m2 m3
          cases hvv
          clear TT bb hcx
          go_wp2_with fail
          go_roundw
          case rel => exact ⟨.slice HO4a M1.length HO4c, .bool true, .int .i64 ((k : Int) + 1), ⟨k + 1, hkn, by go_num, ⟨⟨true, M1, HO4a, HO4c, rfl, rfl, HO5.out, by have := HM1l.out; omega, by rw [Hstep.out, HM1.out]⟩⟩⟩, rfl, rfl, rfl⟩
          case measure => simp [intOf]; omega
        · rw [stepC hc] at hstep
          have Hstep := Lib.hid hstep
          have q1 : decide (s ≤ y0) = true := decide_eq_true (by omega)
          have q2 : (y0 != s) = true := by simp; omega
          clear hstep hc
          have TT := HT.out.keep0 kr
          have d0 := blk_cell TT.blk 0
          have dl := blk_lt TT.blk
          have bb := blk_keep Hbox.out kr (fun h => h)
          have x0 := blk_cell bb 0
          have x1 := blk_cell bb 1
          have x2 := blk_cell bb 2
          have x3 := blk_cell bb 3
          have xl := blk_lt bb
          simp at d0 x0 x1 x2 x3
          obtain ⟨g, cap', hvv, hg1, hg2, hcx⟩ := TT.own.cells encSeen_len Hx.out
          have Hvv := Lib.hid hvv
          have m0 := hcx 0 _ rfl
          have m1 := hcx 1 _ rfl
          have m2 := hcx 2 _ rfl
          have m3 := hcx 3 _ rfl
          simp only [Nat.add_zero] at m0
          simp at m0 m1 m2 m3
          cases hvv
          clear TT bb hcx
          go_wp2_with fail
          go_quiet (fail)
          have kq : Keep NoB wr (wr.drewN nq) := (Keep.refl NoB wr).drewN nq
          generalize wr.drewN nq = wq at kq ⊢
          have k1 : Keep NoB wy wq := kr.trans kq
          have HO1 := Lib.hid (HO.out.keep kq (fun _ _ h => h))
          clear kq
          clear d0 dl x0 x1 x2 x3 xl m0 m1 m2 m3 hg1 hg2 Hvv
          have TT := HT.out.keep0 k1
          have d0 := blk_cell TT.blk 0
          have dl := blk_lt TT.blk
          have bb := blk_keep Hbox.out k1 (fun h => h)
          have x0 := blk_cell bb 0
          have x1 := blk_cell bb 1
          have x2 := blk_cell bb 2
          have x3 := blk_cell bb 3
          have xl := blk_lt bb
          simp at d0 x0 x1 x2 x3
          obtain ⟨g, cap', hvv, hg1, hg2, hcx⟩ := TT.own.cells encSeen_len Hx.out
          have Hvv := Lib.hid hvv
          have m0 := hcx 0 _ rfl
          have m1 := hcx 1 _ rfl
          have m2 := hcx 2 _ rfl
          have m3 := hcx 3 _ rfl
          simp only [Nat.add_zero] at m0
          simp at m0 m1 m2 m3
          cases hvv
          clear TT bb hcx
          obtain ⟨M1, hM1⟩ : ∃ l, M ++ [(s, r, e, i)] = l := ⟨_, rfl⟩
          have HM1 := Lib.hid hM1
          have HM1l := Lib.hid (show M1.length = M.length + 1 by rw [← hM1]; simp)
          clear hM1
          go_wp2_with (first
            | (at_builtin
               refine wpList_append_one rfl (.tmp 46) (.tmp 48) 38 rfl Try.underlying38 info41' (by kernel_rfl) (by decide) (by decide) rfl (HO1.out.alloc _) encSeen_len (s, r, e, i) rfl (c := #[.int .i64 s, .int .i64 r, .int .i64 e, .int .i64 i]) (t' := 41) (f := (0, 0)) (blk_new wq _) rfl (encSeen_one _) (by omega) (by have := k1.size; simp; omega) HM1.out ?_
               intro HO4a HO4c w4 HO4' k4
               have k4x : Keep NoB wy w4 := (HO1.out.alloc _).knob (k1.alloc _) k4
               have HO4 := Lib.hid HO4'
               clear k4 HO4'
               clear d0 dl x0 x1 x2 x3 xl m0 m1 m2 m3 hg1 hg2 Hvv
               have TT := HT.out.keep0 k4x
               have d0 := blk_cell TT.blk 0
               have dl := blk_lt TT.blk
               have bb := blk_keep Hbox.out k4x (fun h => h)
               have x0 := blk_cell bb 0
               have x1 := blk_cell bb 1
               have x2 := blk_cell bb 2
               have x3 := blk_cell bb 3
               have xl := blk_lt bb
               simp at d0 x0 x1 x2 x3
               obtain ⟨g, cap', hvv, hg1, hg2, hcx⟩ := TT.own.cells encSeen_len Hx.out
               have Hvv := Lib.hid hvv
               have m0 := hcx 0 _ rfl
               have m1 := hcx 1 _ rfl
               have m2 := hcx 2 _ rfl
               have m3 := hcx 3 _ rfl
               simp only [Nat.add_zero] at m0
               simp at m0 m1 m2 m3
               cases hvv
               clear TT bb hcx
               skip))
          go_quiet (fail)
          have kq : Keep NoB w4 (w4.drewN nq) := (Keep.refl NoB w4).drewN nq
          generalize w4.drewN nq = w5 at kq ⊢
          have k5 : Keep NoB wy w5 := k4x.trans kq
          have HO5 := Lib.hid (HO4.out.keep kq (fun _ _ h => h))
          clear kq
          clear d0 dl x0 x1 x2 x3 xl m0 m1 m2 m3 hg1 hg2 Hvv
          have TT := HT.out.keep0 k5
          have d0 := blk_cell TT.blk 0
          have dl := blk_lt TT.blk
          have bb := blk_keep Hbox.out k5 (fun h => h)
          have x0 := blk_cell bb 0
          have x1 := blk_cell bb 1
          have x2 := blk_cell bb 2
          have x3 := blk_cell bb 3
          have xl := blk_lt bb
          simp at d0 x0 x1 x2 x3
          obtain ⟨g, cap', hvv, hg1, hg2, hcx⟩ := TT.own.cells encSeen_len Hx.out
          have Hvv := Lib.hid hvv
          have m0 := hcx 0 _ rfl
          have m1 := hcx 1 _ rfl
          have m2 := hcx 2 _ rfl
          have m3 := hcx 3 _ rfl
          simp only [Nat.add_zero] at m0
          simp at m0 m1 m2 m3
          cases hvv
          clear TT bb hcx
          have hl1 := HM1l.out
          obtain ⟨M2, hM2⟩ : ∃ l, M1 ++ [(y0, y1, y2, y3)] = l := ⟨_, rfl⟩
          have HM2 := Lib.hid hM2
          have HM2l := Lib.hid (show M2.length = M1.length + 1 by rw [← hM2]; simp)
          clear hM2
          go_wp2_with (first
            | (at_builtin
               refine wpList_append_one rfl (.tmp 61) (.tmp 69) 38 rfl Try.underlying38 info41' (by kernel_rfl) (by decide) (by decide) rfl (HO5.out.alloc _) encSeen_len (y0, y1, y2, y3) rfl (c := #[.int .i64 y0, .int .i64 y1, .int .i64 y2, .int .i64 y3]) (t' := 41) (f := (0, 0)) (blk_new w5 _) rfl (encSeen_one _) (by omega) (by have := k5.size; simp; omega) HM2.out ?_
               intro HO6a HO6c w6 HO6' k4
               have k6 : Keep NoB wy w6 := (HO5.out.alloc _).knob (k5.alloc _) k4
               have HO6 := Lib.hid HO6'
               clear k4 HO6'
               skip))
          go_roundw
          case rel => exact ⟨.slice HO6a M2.length HO6c, .bool true, .int .i64 ((k : Int) + 1), ⟨k + 1, hkn, by go_num, ⟨⟨true, M2, HO6a, HO6c, rfl, rfl, HO6.out, by have := HM1l.out; have := HM2l.out; omega, by rw [Hstep.out, HM1.out, HM2.out]⟩⟩⟩, rfl, rfl, rfl⟩
          case measure => simp [intOf]; omega
      · by_cases hc : y0 = s
        · rw [stepE (y := (y0, y1, y2, y3)) hc] at hstep
          have Hstep := Lib.hid hstep
          have q2 : (y0 != s) = false := by simpa using hc
          clear hstep hc
          have TT := HT.out.keep0 kr
          have d0 := blk_cell TT.blk 0
          have dl := blk_lt TT.blk
          have bb := blk_keep Hbox.out kr (fun h => h)
          have x0 := blk_cell bb 0
          have x1 := blk_cell bb 1
          have x2 := blk_cell bb 2
          have x3 := blk_cell bb 3
          have xl := blk_lt bb
          simp at d0 x0 x1 x2 x3
          obtain ⟨g, cap', hvv, hg1, hg2, hcx⟩ := TT.own.cells encSeen_len Hx.out
          have Hvv := Lib.hid hvv
          have m0 := hcx 0 _ rfl
          have m1 := hcx 1 _ rfl
          have m2 := hcx 2 _ rfl
          have m3 := hcx 3 _ rfl
          simp only [Nat.add_zero] at m0
          simp at m0 m1 m2 m3
          cases hvv
          clear TT bb hcx
          go_wp2_with fail
          go_quiet (fail)
          have kq : Keep NoB wr (wr.drewN nq) := (Keep.refl NoB wr).drewN nq
          generalize wr.drewN nq = wq at kq ⊢
          have k1 : Keep NoB wy wq := kr.trans kq
          have HO1 := Lib.hid (HO.out.keep kq (fun _ _ h => h))
          clear kq
          clear d0 dl x0 x1 x2 x3 xl m0 m1 m2 m3 hg1 hg2 Hvv
          have TT := HT.out.keep0 k1
          have d0 := blk_cell TT.blk 0
          have dl := blk_lt TT.blk
          have bb := blk_keep Hbox.out k1 (fun h => h)
          have x0 := blk_cell bb 0
          have x1 := blk_cell bb 1
          have x2 := blk_cell bb 2
          have x3 := blk_cell bb 3
          have xl := blk_lt bb
          simp at d0 x0 x1 x2 x3
          obtain ⟨g, cap', hvv, hg1, hg2, hcx⟩ := TT.own.cells encSeen_len Hx.out
          have Hvv := Lib.hid hvv
          have m0 := hcx 0 _ rfl
          have m1 := hcx 1 _ rfl
          have m2 := hcx 2 _ rfl
          have m3 := hcx 3 _ rfl
          simp only [Nat.add_zero] at m0
          simp at m0 m1 m2 m3
          cases hvv
          clear TT bb hcx
          go_wp2_with fail
          go_quiet (fail)
          have kq : Keep NoB wq (wq.drewN nq) := (Keep.refl NoB wq).drewN nq
          generalize wq.drewN nq = w5 at kq ⊢
          have k5 : Keep NoB wy w5 := k1.trans kq
          have HO5 := Lib.hid (HO1.out.keep kq (fun _ _ h => h))
          clear kq
          clear d0 dl x0 x1 x2 x3 xl m0 m1 m2 m3 hg1 hg2 Hvv
          have TT := HT.out.keep0 k5
          have d0 := blk_cell TT.blk 0
          have dl := blk_lt TT.blk
          have bb := blk_keep Hbox.out k5 (fun h => h)
          have x0 := blk_cell bb 0
          have x1 := blk_cell bb 1
          have x2 := blk_cell bb 2
          have x3 := blk_cell bb 3
          have xl := blk_lt bb
          simp at d0 x0 x1 x2 x3
          obtain ⟨g, cap', hvv, hg1, hg2, hcx⟩ := TT.own.cells encSeen_len Hx.out
          have Hvv := Lib.hid hvv
          have m0 := hcx 0 _ rfl
          have m1 := hcx 1 _ rfl
          have m2 := hcx 2 _ rfl
          have m3 := hcx 3 _ rfl
          simp only [Nat.add_zero] at m0
          simp at m0 m1 m2 m3
          cases hvv
          clear TT bb hcx
          go_wp2_with fail
          go_roundw
          case rel => exact ⟨.slice a' M.length c', .bool true, .int .i64 ((k : Int) + 1), ⟨k + 1, hkn, by go_num, ⟨⟨true, M, a', c', rfl, rfl, HO5.out, by omega, by rw [Hstep.out]⟩⟩⟩, rfl, rfl, rfl⟩
          case measure => simp [intOf]; omega
        · rw [stepD hc] at hstep
          have Hstep := Lib.hid hstep
          have q2 : (y0 != s) = true := by simpa using hc
          clear hstep hc
          have TT := HT.out.keep0 kr
          have d0 := blk_cell TT.blk 0
          have dl := blk_lt TT.blk
          have bb := blk_keep Hbox.out kr (fun h => h)
          have x0 := blk_cell bb 0
          have x1 := blk_cell bb 1
          have x2 := blk_cell bb 2
          have x3 := blk_cell bb 3
          have xl := blk_lt bb
          simp at d0 x0 x1 x2 x3
          obtain ⟨g, cap', hvv, hg1, hg2, hcx⟩ := TT.own.cells encSeen_len Hx.out
          have Hvv := Lib.hid hvv
          have m0 := hcx 0 _ rfl
          have m1 := hcx 1 _ rfl
          have m2 := hcx 2 _ rfl
          have m3 := hcx 3 _ rfl
          simp only [Nat.add_zero] at m0
          simp at m0 m1 m2 m3
          cases hvv
          clear TT bb hcx
          go_wp2_with fail
          go_quiet (fail)
          have kq : Keep NoB wr (wr.drewN nq) := (Keep.refl NoB wr).drewN nq
          generalize wr.drewN nq = wq at kq ⊢
          have k1 : Keep NoB wy wq := kr.trans kq
          have HO1 := Lib.hid (HO.out.keep kq (fun _ _ h => h))
          clear kq
          clear d0 dl x0 x1 x2 x3 xl m0 m1 m2 m3 hg1 hg2 Hvv
          have TT := HT.out.keep0 k1
          have d0 := blk_cell TT.blk 0
          have dl := blk_lt TT.blk
          have bb := blk_keep Hbox.out k1 (fun h => h)
          have x0 := blk_cell bb 0
          have x1 := blk_cell bb 1
          have x2 := blk_cell bb 2
          have x3 := blk_cell bb 3
          have xl := blk_lt bb
          simp at d0 x0 x1 x2 x3
          obtain ⟨g, cap', hvv, hg1, hg2, hcx⟩ := TT.own.cells encSeen_len Hx.out
          have Hvv := Lib.hid hvv
          have m0 := hcx 0 _ rfl
          have m1 := hcx 1 _ rfl
          have m2 := hcx 2 _ rfl
          have m3 := hcx 3 _ rfl
          simp only [Nat.add_zero] at m0
          simp at m0 m1 m2 m3
          cases hvv
          clear TT bb hcx
          go_wp2_with fail
          go_quiet (fail)
          have kq : Keep NoB wq (wq.drewN nq) := (Keep.refl NoB wq).drewN nq
          generalize wq.drewN nq = w5 at kq ⊢
          have k5 : Keep NoB wy w5 := k1.trans kq
          have HO5 := Lib.hid (HO1.out.keep kq (fun _ _ h => h))
          clear kq
          clear d0 dl x0 x1 x2 x3 xl m0 m1 m2 m3 hg1 hg2 Hvv
          have TT := HT.out.keep0 k5
          have d0 := blk_cell TT.blk 0
          have dl := blk_lt TT.blk
          have bb := blk_keep Hbox.out k5 (fun h => h)
          have x0 := blk_cell bb 0
          have x1 := blk_cell bb 1
          have x2 := blk_cell bb 2
          have x3 := blk_cell bb 3
          have xl := blk_lt bb
          simp at d0 x0 x1 x2 x3
          obtain ⟨g, cap', hvv, hg1, hg2, hcx⟩ := TT.own.cells encSeen_len Hx.out
          have Hvv := Lib.hid hvv
          have m0 := hcx 0 _ rfl
          have m1 := hcx 1 _ rfl
          have m2 := hcx 2 _ rfl
          have m3 := hcx 3 _ rfl
          simp only [Nat.add_zero] at m0
          simp at m0 m1 m2 m3
          cases hvv
          clear TT bb hcx
          obtain ⟨M2, hM2⟩ : ∃ l, M ++ [(y0, y1, y2, y3)] = l := ⟨_, rfl⟩
          have HM2 := Lib.hid hM2
          have HM2l := Lib.hid (show M2.length = M.length + 1 by rw [← hM2]; simp)
          clear hM2
          go_wp2_with (first
            | (at_builtin
               refine wpList_append_one rfl (.tmp 61) (.tmp 69) 38 rfl Try.underlying38 info41' (by kernel_rfl) (by decide) (by decide) rfl (HO5.out.alloc _) encSeen_len (y0, y1, y2, y3) rfl (c := #[.int .i64 y0, .int .i64 y1, .int .i64 y2, .int .i64 y3]) (t' := 41) (f := (0, 0)) (blk_new w5 _) rfl (encSeen_one _) (by omega) (by have := k5.size; simp; omega) HM2.out ?_
               intro HO6a HO6c w6 HO6' k4
               have k6 : Keep NoB wy w6 := (HO5.out.alloc _).knob (k5.alloc _) k4
               have HO6 := Lib.hid HO6'
               clear k4 HO6'
               skip))
          go_roundw
          case rel => exact ⟨.slice HO6a M2.length HO6c, .bool true, .int .i64 ((k : Int) + 1), ⟨k + 1, hkn, by go_num, ⟨⟨true, M2, HO6a, HO6c, rfl, rfl, HO6.out, by have := HM2l.out; omega, by rw [Hstep.out, HM2.out]⟩⟩⟩, rfl, rfl, rfl⟩
          case measure => simp [intOf]; omega
    · have hd : decide ((k : Int) < (N.length : Int)) = false := decide_eq_false (by omega)
      have hdp := Hdp.out
      rw [List.take_of_length_le (by omega)] at hM
      rw [hM] at hdp
      simp only at hdp
      have TT := HT.out.keep0 kr
      have d0 := blk_cell TT.blk 0
      have dl := blk_lt TT.blk
      have df := blk_free TT.blk 0
      have HTT := Lib.hid TT
      simp at d0
      clear TT hM
      cases p
      · rw [if_neg (by decide)] at hdp
        have bb := blk_keep Hbox.out kr (fun h => h)
        have x0 := blk_cell bb 0
        have x1 := blk_cell bb 1
        have x2 := blk_cell bb 2
        have x3 := blk_cell bb 3
        have xl := blk_lt bb
        simp at x0 x1 x2 x3
        clear bb
        have hMl : (M ++ [(s, r, e, i)]).length = M.length + 1 := by simp
        rw [hdp] at hMl
        have Hdp2 := Lib.hid hdp
        clear hdp
        generalize dput s (r, e, i) N = M2 at *
        have HMl := Lib.hid hMl
        clear hMl
        go_wp2_with (first
          | (at_builtin
             refine wpList_append_one rfl (.tmp 73) (.tmp 75) 38 rfl Try.underlying38 info41' (by kernel_rfl) (by decide) (by decide) rfl (HO.out.alloc _) encSeen_len (s, r, e, i) rfl (c := #[.int .i64 s, .int .i64 r, .int .i64 e, .int .i64 i]) (t' := 41) (f := (0, 0)) (blk_new wr _) rfl (encSeen_one _) (by omega) (by have := kr.size; simp; omega) Hdp2.out ?_
             intro a4 c4 w4 O4 k4
             have K4 : Keep NoB wy w4 := (HO.out.alloc _).knob (kr.alloc _) k4
             have T4 := HT.out.keep0 K4
             clear d0 dl df x0 x1 x2 x3 xl k4
             have d0 := blk_cell T4.blk 0
             have dl := blk_lt T4.blk
             have df := blk_free T4.blk 0
             have HT4 := Lib.hid T4
             have HO4 := Lib.hid O4
             simp at d0
             clear T4 O4))
        go_ret
        have b9 := blk_setCell (i := 0) HT4.out.blk (.slice a4 M2.length c4)
        have k9 : Keep (OneB rb) w4 (w4.setCell ⟨rb, 0, none⟩ (.slice a4 M2.length c4)) := (Keep.refl (OneB rb) w4).setCell (p := ⟨rb, 0, none⟩) (Or.inr rfl) _
        have O9 := (HO4.out.mono hBy).keep k9 (fun g hg e => HO4.out.ne HT4.out.blk (by decide) g hg e)
        simp at b9
        exact ⟨rfl, ⟨a4, c4, ⟨b9, O9⟩⟩, ((HK1.out.trans K4).none).trans k9⟩
      · rw [if_pos rfl] at hdp
        go_wp2
        go_ret
        have b9 := blk_setCell (i := 0) HTT.out.blk (.slice a' M.length c')
        have k9 : Keep (OneB rb) wr (wr.setCell ⟨rb, 0, none⟩ (.slice a' M.length c')) := (Keep.refl (OneB rb) wr).setCell (p := ⟨rb, 0, none⟩) (Or.inr rfl) _
        have O9 := (HO.out.mono hBy).keep k9 (fun g hg e => HO.out.ne HTT.out.blk (by decide) g hg e)
        simp at b9
        rw [← hdp]
        exact ⟨rfl, ⟨a', c', ⟨b9, O9⟩⟩, ((HK1.out.trans kr).none).trans k9⟩

theorem rnote_any (rb B : Nat) (a : Option Addr) (cap : Nat) (limit s r e i : Int) (N : List SE) (w : World) (T : RT w B rb a cap limit N) (hB : B ≤ w.heap.size) (hN : N.length ≤ 100000) (hr : RiseD N) (ok : Bool) (hok : decide ((lookF limit (absD N) s r).1 = 1) = ok) (N' : List SE) (hN' : (if (lookF limit (absD N) s r).1 = 1 then dput s (r, e, i) N else N) = N') :
    Calls Try.prog 15 #[.pointer (some ⟨rb, 0, none⟩), .agg #[.int .i64 s, .int .i64 r, .int .i64 e, .int .i64 i]] w (RNPost rb B limit ok N' w) := by
  subst hok hN'
  obtain ⟨⟨c, p, q⟩, hl⟩ : ∃ v, lookF limit (absD N) s r = v := ⟨_, rfl⟩
  rw [hl]
  by_cases hc : c = 1
  · subst hc
    simpa using rnote_yes rb B a cap limit s r e i N w T hB hN hr p q hl
  · simpa [hc] using rnote_no rb B a cap limit s r e i N w T hN hr c p q hc hl
end Go.Proofs.Ytlglnpokfmdpaaa
