/- The walk of DedupeOwn. -/
import Derived.Test.YtlglnpokfmdpaaaDedupeA
import Derived.Test.YtlglnpokfmdpaaaLibRead
import Derived.Deep.RegionHeld3
namespace Go.Proofs.Ytlglnpokfmdpaaa
open Go Go.RowKit Go.Maps

theorem info24 : flat Try.prog 5 24 = some [.i .i64, .i .i64] := by kernel_rfl

/-- What one asks, in two cells. -/
def askCells (x : Int × Int) : List Value := [.int .i64 x.1, .int .i64 x.2]

/-- What the walk is told of a slice of asks. -/
def IsAsks (w : World) (a : Option Addr) (len : Nat) (z : Nat → Int × Int) : Prop :=
  len ≤ maxLen ∧ (∀ i, i < len → (Lit.int .i64 (z i).1).wf = true ∧ (Lit.int .i64 (z i).2).wf = true) ∧
    (len = 0 ∨ ∃ b off, a = some ⟨b, off, none⟩ ∧ b < w.heap.size ∧ ∀ i, i < len → w.cell? ⟨b, off + i * 2, none⟩ = some (.int .i64 (z i).1) ∧ w.cell? ⟨b, off + i * 2 + 1, none⟩ = some (.int .i64 (z i).2))

/-- As long as there is room another session's answer is what it was. -/
theorem look_note_other (L : List (Lit × Last)) (hap : Apart L) (hL : L.length < 999) (s r e i so ro : Int) (hne : s ≠ so) : lookF 1000 (noteF 1000 L s r e i) so ro = lookF 1000 L so ro := by
  unfold noteF
  split
  · have hk : kI so ≠ kI s := fun h => hne (by injection h with _ h2; exact h2.symm)
    have hl : (lput L (kI s) (r, e, i)).length ≤ L.length + 1 := by rw [length_lput hap]; split <;> omega
    unfold lookF
    rw [lget_lput_other hk]
    cases lget L (kI so) with
    | none => simp only; rw [if_neg (by omega), if_neg (by omega)]
    | some x => rfl
  · rfl

/-- What was written is told again. -/
theorem look_note_same (L : List (Lit × Last)) (s r e i : Int) (h : (lookF 1000 L s r).1 = 1) : lookF 1000 (noteF 1000 L s r e i) s r = (2, e, i) := by
  unfold noteF
  rw [if_pos h]
  unfold lookF
  rw [lget_lput_same (by trivial)]
  simp

theorem note_not (L : List (Lit × Last)) (s r e i : Int) (h : (lookF 1000 L s r).1 ≠ 1) : noteF 1000 L s r e i = L := by
  unfold noteF
  rw [if_neg h]

theorem note_len (L : List (Lit × Last)) (hap : Apart L) (s r e i : Int) : (noteF 1000 L s r e i).length ≤ L.length + 1 := by
  unfold noteF
  split
  · rw [length_lput hap]; split <;> omega
  · omega


set_option maxRecDepth 100000 in
set_option maxHeartbeats 4000000 in
theorem own_walk (a0 : Option Addr) (len0 cap0 : Nat) (z : Nat → Int × Int) (so ro : Int) (w : World) (h0 : IsAsks w a0 len0 z) (hso : (Lit.int .i64 so).wf = true) :
    Calls Try.prog 3 #[.slice a0 len0 cap0, .agg #[.int .i64 so, .int .i64 ro]] w fun e w' => e = .returned (.bool true) ∧ Below w.heap.size w w' := by
  obtain ⟨hmax, hwf, hrow⟩ := h0
  unfold maxLen at hmax
  go_enter Try.func3, Try.ntmps3
  go_wp2_with fail
  refine (awake_any _).mono ?_
  rintro _ w1 ⟨rfl, hk1⟩
  have hob1 := blk_keep (blk_new w (.cells #[.int .i64 so, .int .i64 ro] 24)) hk1 (fun h => h)
  go_wp2_with fail
  refine (new_any 1000 _).mono ?_
  rintro _ w2 ⟨rfl, T2, hk2, hs2⟩
  have hob2 := blk_keep hob1 hk2 (fun h => h)
  have hne : w1.heap.size + 1 ≠ w1.heap.size := by omega
  have hlo : w.heap.size < w1.heap.size := blk_lt hob1
  have hk : Keep NoB w w2 := ((Keep.refl _ w).alloc _).trans (hk1.trans hk2)
  generalize htb : w1.heap.size + 1 = tb at *
  generalize hmb : w1.heap.size = mb at *
  clear hk1 hk2 hs2 hob1
  have hlo2 : w.heap.size < tb := by omega
  have Hob := Lib.hid hob2
  clear htb hmb hob2
  go_wp2_with fail
  go_loopw [6] (fun i wr => ∃ (k : Nat) (L : List (Lit × Last)), k ≤ len0 ∧ k ≤ 200 ∧ i = .int .i64 k ∧ L.length ≤ k ∧ Tab wr tb mb 1000 L ∧ Keep NoB w wr ∧ wr.heap[w.heap.size]? = some (.cells #[.int .i64 so, .int .i64 ro] 24)) (fun i _ => len0 - (intOf i).toNat)
  case atStart => exact ⟨0, [], Nat.zero_le _, Nat.zero_le _, rfl, Nat.le_refl _, T2, hk, Hob.out⟩
  case round =>
    obtain ⟨k, L, hk0, hk200, rfl, hL, T, hk, hob⟩ := hrel
    by_cases hlt : k < len0
    · by_cases h200 : k < 200
      · rcases hrow with h | ⟨b, off, rfl, hb, hc⟩
        · omega
        obtain ⟨hcw0, hcw1⟩ := hc k hlt
        obtain ⟨hw0, hw1⟩ := hwf k hlt
        clear hc
        generalize hzk : z k = x at hcw0 hcw1 hw0 hw1
        clear hzk
        obtain ⟨s, r⟩ := x
        simp only at hcw0 hcw1 hw0 hw1
        have hbr : b < wr.heap.size := Nat.lt_of_lt_of_le hb hk.size
        have hor : w.heap.size < wr.heap.size := blk_lt hob
        have o0 := blk_cell hob 0
        have o1 := blk_cell hob 1
        simp at o0 o1
        have hap := T.map.apart law3
        have h200i : decide ((k : Int) < 200) = true := by simp; omega
        obtain ⟨c, hlo⟩ : ∃ v, lookF 1000 L so ro = v := ⟨_, rfl⟩
        have Hlo := Lib.hid hlo
        have Hw0 := Lib.hid hcw0
        have Hw1 := Lib.hid hcw1
        clear hlo hcw0 hcw1
        have Hob := Lib.hid (fun (W : World) (h : Keep (OneB mb) wr W) => blk_keep hob h (fun e => by have : w.heap.size = mb := e; omega))
        clear hob
        go_wp2_with fail
        refine (look_any _ _ 1000 so ro _ _ T hso c Hlo.out).mono ?_
        rintro _ w3 ⟨rfl, hk3⟩
        obtain ⟨c1, c2, c3⟩ := c
        have K3 : Keep NoB w w3 := hk.trans hk3
        have T3 := T.keep hk3 (fun h => h) (fun h => h)
        have hl0 : w3.cell? ⟨b, off + k * 2, none⟩ = some (.int .i64 s) := (K3.cell (p := ⟨b, off + k * 2, none⟩) hb (fun h => h)).trans Hw0.out
        have hl1 : w3.cell? ⟨b, off + k * 2 + 1, none⟩ = some (.int .i64 r) := (K3.cell (p := ⟨b, off + k * 2 + 1, none⟩) hb (fun h => h)).trans Hw1.out
        have hb3 : b < w3.heap.size := Nat.lt_of_lt_of_le hb K3.size
        have ho3 : w.heap.size < w3.heap.size := Nat.lt_of_lt_of_le hor hk3.size
        have hm3 : mb < w3.heap.size := T3.map.lt
        have ht3 : tb < w3.heap.size := blk_lt T3.blk
        go_wp2_with fail
        obtain ⟨ok, hok⟩ : ∃ v, decide ((lookF 1000 L s r).1 = 1) = v := ⟨_, rfl⟩
        obtain ⟨L', hL'⟩ : ∃ v, noteF 1000 L s r 1 (k + 1) = v := ⟨_, rfl⟩
        have Hok := Lib.hid hok
        have HL' := Lib.hid hL'
        clear hok hL'
        go_region_held3 (fun w' => w'.cell? ⟨b, off + k * 2, none⟩ = some (.int .i64 s) ∧ w'.cell? ⟨b, off + k * 2 + 1, none⟩ = some (.int .i64 r))
          (first | go_keep | exact ⟨hl0', hl1'⟩ | exact ⟨hl0b, hl1b⟩)
          (first
            | (go_at_call 12; refine (at_any k _ (by omega) (by omega)).mono ?_; rintro _ w4 ⟨rfl, hk4⟩
               have K4 : Keep NoB w3 w4 := Keep.trans (by (repeat (with_reducible first | exact Keep.refl _ _ | assumption | refine Keep.alloc ?_ _ | refine Keep.drewN ?_ _ | refine Keep.drew ?_ | refine Keep.setCell ?_ (by first | (left; simp; done) | (left; simp; omega) | (right; simp [NoB, OneB, TwoB]; done)) _))) hk4
               have T4 := T3.keep K4 (fun h => h) (fun h => h)
               have hl0' := ((K3.trans K4).cell (p := ⟨b, off + k * 2, none⟩) hb (fun h => h)).trans Hw0.out
               have hl1' := ((K3.trans K4).cell (p := ⟨b, off + k * 2 + 1, none⟩) hb (fun h => h)).trans Hw1.out)
            | (go_at_call 11; refine (note_any tb mb 1000 s r 1 (k + 1) L _ T4 (by omega) hw0 (by unfold maxLen; omega) ok Hok.out L' HL'.out).mono ?_; rintro _ w5 ⟨rfl, T5, hk5⟩
               have K5 : Keep NoB w w5 := (K3.trans K4).trans' hk5 (fun i hi e => by have : i = mb := e; omega)
               have hl0b := (K5.cell (p := ⟨b, off + k * 2, none⟩) hb (fun h => h)).trans Hw0.out
               have hl1b := (K5.cell (p := ⟨b, off + k * 2 + 1, none⟩) hb (fun h => h)).trans Hw1.out))
        have k45 : Keep (OneB mb) wr w5 := (hk3.none.trans K4.none).trans hk5
        have hp4 := blk_keep (blk_drew (blk_new w3 (.cells #[.int .i64 c2, .int .i64 c3] 29))) hk4 (fun h => h)
        have hp5 := Lib.hid (blk_keep hp4 hk5 (fun e => by have : w3.heap.size = mb := e; omega))
        clear hp4
        have l50 : w5.cell? ⟨b, off + k * 2, none⟩ = some (.int .i64 s) := (K5.cell (p := ⟨b, off + k * 2, none⟩) hb (fun h => h)).trans Hw0.out
        have l51 : w5.cell? ⟨b, off + k * 2 + 1, none⟩ = some (.int .i64 r) := (K5.cell (p := ⟨b, off + k * 2 + 1, none⟩) hb (fun h => h)).trans Hw1.out
        have ob5 : w5.heap[w.heap.size]? = some (.cells #[.int .i64 so, .int .i64 ro] 24) := Hob.out w5 (by assumption)
        have o50 := blk_cell ob5 0
        have o51 := blk_cell ob5 1
        have Hob5 := Lib.hid ob5
        have lt5 : w.heap.size < w5.heap.size := blk_lt ob5
        have b5 : b < w5.heap.size := Nat.lt_of_lt_of_le hb K5.size
        clear ob5
        simp at o50 o51
        obtain ⟨⟨d1, d2, d3⟩, hd⟩ : ∃ v, lookF 1000 L' so ro = v := ⟨_, rfl⟩
        have Hd := Lib.hid hd
        clear hd
        have hdc := Lib.hid (fun (e : s ≠ so) => show (d1, d2, d3) = (c1, c2, c3) by rw [← Hd.out, ← HL'.out, look_note_other L hap (by omega) s r 1 (k + 1) so ro e, Hlo.out])
        go_wp2_with fail
        refine (look_any _ _ 1000 so ro _ _ T5 hso (d1, d2, d3) Hd.out).mono ?_
        rintro _ w6 ⟨rfl, hk6⟩
        have K6 : Keep NoB w w6 := K5.trans hk6
        have T6 := T5.keep hk6 (fun h => h) (fun h => h)
        have k46 : Keep (OneB mb) wr w6 := k45.trans hk6.none
        have hp6 := blk_keep hp5.out hk6 (fun h => h)
        have p60 := blk_cell hp6 0
        have p61 := blk_cell hp6 1
        have p6l := blk_lt hp6
        have Hp6 := Lib.hid hp6
        clear hp6
        simp at p60 p61
        have l60 : w6.cell? ⟨b, off + k * 2, none⟩ = some (.int .i64 s) := (K6.cell (p := ⟨b, off + k * 2, none⟩) hb (fun h => h)).trans Hw0.out
        have l61 : w6.cell? ⟨b, off + k * 2 + 1, none⟩ = some (.int .i64 r) := (K6.cell (p := ⟨b, off + k * 2 + 1, none⟩) hb (fun h => h)).trans Hw1.out
        have ob6 : w6.heap[w.heap.size]? = some (.cells #[.int .i64 so, .int .i64 ro] 24) := Hob.out w6 (by assumption)
        have o60 := blk_cell ob6 0
        have o61 := blk_cell ob6 1
        have Hob6 := Lib.hid ob6
        have lt6 : w.heap.size < w6.heap.size := blk_lt ob6
        have b6 : b < w6.heap.size := Nat.lt_of_lt_of_le hb K6.size
        clear ob6
        simp at o60 o61
        by_cases e1 : s = so
        all_goals
          first
            | (have hd1 : (s != so) = false := by simp [e1])
            | (have hd1 : (s != so) = true := by simp [e1]
               have e2 := hdc.out e1
               injection e2 with e2 e3
               injection e3 with e3 e4
               subst e2 e3 e4)
          clear e1
          go_wp2_with fail
          go_quiet (fail)
          go_wp2_with fail
          cases ok
          case' false =>
            obtain ⟨⟨x1, x2, x3⟩, hx⟩ : ∃ v, lookF 1000 L' s r = v := ⟨_, rfl⟩
            have hx1 : (x1 == 1) = false := by
              have h1 : (lookF 1000 L s r).1 ≠ 1 := of_decide_eq_false Hok.out
              have h2 : L = L' := by rw [← HL'.out, note_not L s r 1 (k + 1) h1]
              rw [h2, hx] at h1
              simpa using h1
          case' true =>
            obtain ⟨⟨x1, x2, x3⟩, hx⟩ : ∃ v, lookF 1000 L' s r = v := ⟨_, rfl⟩
            have hx0 : (x1, x2, x3) = (2, 1, (k : Int) + 1) := by
              rw [← hx, ← HL'.out]
              exact look_note_same L s r 1 (k + 1) (of_decide_eq_true Hok.out)
            injection hx0 with e1 e2
            injection e2 with e2 e3
            subst e1 e2 e3
          all_goals
            have Hx := Lib.hid hx
            clear hx
            generalize hW : World.drewN _ _ = wW
            have kW : Keep NoB w6 wW := by rw [← hW]; (repeat (with_reducible first | exact Keep.refl _ _ | assumption | refine Keep.alloc ?_ _ | refine Keep.drewN ?_ _ | refine Keep.drew ?_ | refine Keep.setCell ?_ (by first | (left; simp; done) | (left; simp; omega) | (right; simp [NoB, OneB, TwoB]; done)) _))
            have TW := T6.keep kW (fun h => h) (fun h => h)
            have KW : Keep NoB w wW := K6.trans kW
            have kw4 : Keep (OneB mb) wr wW := k46.trans kW.none
            clear hW
            have lW0 : wW.cell? ⟨b, off + k * 2, none⟩ = some (.int .i64 s) := (KW.cell (p := ⟨b, off + k * 2, none⟩) hb (fun h => h)).trans Hw0.out
            have lW1 : wW.cell? ⟨b, off + k * 2 + 1, none⟩ = some (.int .i64 r) := (KW.cell (p := ⟨b, off + k * 2 + 1, none⟩) hb (fun h => h)).trans Hw1.out
            have obW : wW.heap[w.heap.size]? = some (.cells #[.int .i64 so, .int .i64 ro] 24) := Hob.out wW (by assumption)
            have oW0 := blk_cell obW 0
            have oW1 := blk_cell obW 1
            have HobW := Lib.hid obW
            have ltW : w.heap.size < wW.heap.size := blk_lt obW
            have bW : b < wW.heap.size := Nat.lt_of_lt_of_le hb KW.size
            clear obW
            simp at oW0 oW1
            have hbW : b ≠ wW.heap.size := by omega
            go_region_held3 (fun w' => w'.cell? ⟨b, off + k * 2, none⟩ = some (.int .i64 s) ∧ w'.cell? ⟨b, off + k * 2 + 1, none⟩ = some (.int .i64 r))
              (first | go_keep | exact ⟨l70, l71⟩ | exact ⟨((cell_setCell_ne hbW).trans (cell_setCell_ne hbW)).trans l70, ((cell_setCell_ne hbW).trans (cell_setCell_ne hbW)).trans l71⟩)
              (first
                | (go_at_call 10; refine (look_any tb mb 1000 s r L' _ (TW.keep (S := NoB) (by (repeat (with_reducible first | exact Keep.refl _ _ | assumption | refine Keep.alloc ?_ _ | refine Keep.drewN ?_ _ | refine Keep.drew ?_ | refine Keep.setCell ?_ (by first | (left; simp; done) | (left; simp; omega) | (right; simp [NoB, OneB, TwoB]; done)) _))) (fun h => h) (fun h => h)) hw0 _ Hx.out).mono ?_; rintro _ w7 ⟨rfl, hk7⟩
                   have k67 : Keep NoB wW w7 := Keep.trans (by (repeat (with_reducible first | exact Keep.refl _ _ | assumption | refine Keep.alloc ?_ _ | refine Keep.drewN ?_ _ | refine Keep.drew ?_ | refine Keep.setCell ?_ (by first | (left; simp; done) | (left; simp; omega) | (right; simp [NoB, OneB, TwoB]; done)) _))) hk7
                   have K7 : Keep NoB w w7 := KW.trans k67
                   have T7 := TW.keep k67 (fun h => h) (fun h => h)
                   have k47 : Keep (OneB mb) wr w7 := kw4.trans k67.none
                   try
                     have hq := blk_keep (blk_drew (blk_new wW (.cells #[.int .i64 0, .int .i64 0] 29))) hk7 (fun h => h)
                     have q0 := blk_cell hq 0
                     have q1 := blk_cell hq 1
                     have q2 := blk_free hq 0
                     have q3 := blk_free hq 1
                     have ql := blk_lt hq
                     have Hq := Lib.hid hq
                     clear hq
                     simp at q0 q1
                   have l70 : w7.cell? ⟨b, off + k * 2, none⟩ = some (.int .i64 s) := (K7.cell (p := ⟨b, off + k * 2, none⟩) hb (fun h => h)).trans Hw0.out
                   have l71 : w7.cell? ⟨b, off + k * 2 + 1, none⟩ = some (.int .i64 r) := (K7.cell (p := ⟨b, off + k * 2 + 1, none⟩) hb (fun h => h)).trans Hw1.out
                   have ob7 : w7.heap[w.heap.size]? = some (.cells #[.int .i64 so, .int .i64 ro] 24) := Hob.out w7 (by assumption)
                   have o70 := blk_cell ob7 0
                   have o71 := blk_cell ob7 1
                   have Hob7 := Lib.hid ob7
                   have lt7 : w.heap.size < w7.heap.size := blk_lt ob7
                   have b7 : b < w7.heap.size := Nat.lt_of_lt_of_le hb K7.size
                   clear ob7
                   simp at o70 o71))
            all_goals
              have kWs : w.heap.size ≤ wW.heap.size := KW.size
              have hlen : L'.length ≤ L.length + 1 := by rw [← HL'.out]; exact note_len L hap s r 1 (k + 1)
              go_wp2_with fail
              first
                | go_quiet (fail)
                | (first
                     | (have hqq := blk_setCell (i := 1) (blk_setCell (i := 0) Hq.out (.int .i64 1)) (.int .i64 ((k : Int) + 1))
                        simp at hqq
                        generalize hWx : World.setCell _ _ _ = Wx at hqq ⊢
                        have kx : Keep NoB wW Wx := by rw [← hWx]; (repeat (with_reducible first | exact Keep.refl _ _ | assumption | refine Keep.alloc ?_ _ | refine Keep.drewN ?_ _ | refine Keep.drew ?_ | refine Keep.setCell ?_ (by first | (left; simp; done) | (left; simp; omega) | (right; simp [NoB, OneB, TwoB]; done)) _)))
                     | (have hqq := blk_new w7 (.cells #[.int .i64 1, .int .i64 ((k : Int) + 1)] 29)
                        generalize hWx : World.alloc _ _ = Wx at hqq ⊢
                        have kx : Keep NoB wW Wx := by rw [← hWx]; (repeat (with_reducible first | exact Keep.refl _ _ | assumption | refine Keep.alloc ?_ _ | refine Keep.drewN ?_ _ | refine Keep.drew ?_ | refine Keep.setCell ?_ (by first | (left; simp; done) | (left; simp; omega) | (right; simp [NoB, OneB, TwoB]; done)) _)))
                   clear hWx
                   have r0 := plus_cell (S := NoB) (blk_cell hqq 0) (blk_lt hqq) (fun h => h)
                   have r1 := plus_cell (S := NoB) (blk_cell hqq 1) (blk_lt hqq) (fun h => h)
                   clear hqq
                   refine wp_region_calm NoB (by kernel_rfl) (by kernel_rfl) ?_
                   repeat (go_big_quiet_step ((go_at_call 12; exact calm_call (at_any k _ (by omega) (by omega)))))
                   refine wpQuiet_nil ?_
                   intro _ hw'
                   obtain ⟨gq, hw''⟩ := hw'
                   subst hw''
                   generalize hWy : plus Wx gq = Wy
                   have ky : Keep NoB wW Wy := by rw [← hWy]; exact kx.trans (plus_keep gq)
                   clear hWy)
              go_wp2_with fail
              go_roundw
              case rel =>
                refine ⟨k + 1, L', hlt, h200, by go_num, by omega, TW.keep (S := NoB) ?_ (fun h => h) (fun h => h), KW.trans ?_, blk_keep (S := NoB) HobW.out ?_ (fun h => h)⟩
                all_goals
                  (repeat (with_reducible first | exact Keep.refl _ _ | assumption | refine Keep.alloc ?_ _ | refine Keep.drewN ?_ _ | refine Keep.drew ?_ | refine Keep.setCell ?_ (by first | (left; simp; done) | (left; simp; omega) | (right; simp [NoB, OneB, TwoB]; done)) _))
              case measure => simp [intOf]; omega
      · have h200' : decide ((k : Int) < 200) = false := by simp; omega
        go_wp2
        go_ret
        exact ⟨rfl, hk.below (fun _ _ h => h)⟩
    · have hlt' : decide ((k : Int) < (len0 : Int)) = false := by simp; omega
      go_wp2
      go_ret
      exact ⟨rfl, hk.below (fun _ _ h => h)⟩
end Go.Proofs.Ytlglnpokfmdpaaa
