/- The walk of HoldHolds. -/
import Derived.Test.YtcgjkmodbghdoaaHoldBoundW
import Derived.Test.YtcgjkmodbghdoaaLibOwn
import Derived.Deep.Cut
import Derived.Deep.CutRange
import Derived.Deep.CutBlock
import Derived.OpenShut
namespace Go.Proofs.Ytcgjkmodbghdoaa
open Go Go.RowKit Go.Maps

/-- What was noted is held off. -/
def Held (floor : Int) (L : List (Lit × Int)) (x : HOp) : Prop := 1 ≤ x.2.2 → allowsB floor L (kS x.2.1) (x.2.2 - 1) = false

theorem allows_false {floor : Int} {L : List (Lit × Int)} {k : Lit} {a : Int} : allowsB floor L k a = false ↔ a < floor ∨ ∃ n, lget L k = some n ∧ a < n := by
  unfold allowsB
  cases h : lget L k with
  | none => simp
  | some n => simp; omega

theorem held_note {limit floor : Int} {L : List (Lit × Int)} {x : HOp} (s : ByteArray) (i : Int) (h : Held floor L x) : Held (noteFl limit floor L (kS s) i) (noteL limit L (kS s) i) x := by
  intro hx
  have := allows_false.1 (h hx)
  rw [allows_false]
  unfold noteFl noteL
  split
  · exact this
  · cases hg : lget L (kS s) with
    | some n =>
      simp only
      rcases this with h1 | ⟨m, h1, h2⟩
      · exact Or.inl h1
      · by_cases hk : kS x.2.1 = kS s
        · rw [hk] at h1 ⊢
          rw [hg] at h1
          cases h1
          exact Or.inr ⟨_, lget_lput_same (kS_key s), by omega⟩
        · exact Or.inr ⟨m, by rw [lget_lput_other hk]; exact h1, h2⟩
    | none =>
      simp only
      split
      · rcases this with h1 | ⟨m, h1, h2⟩
        · exact Or.inl h1
        · by_cases hk : kS x.2.1 = kS s
          · rw [hk, hg] at h1; cases h1
          · exact Or.inr ⟨m, by rw [lget_lput_other hk]; exact h1, h2⟩
      · rcases this with h1 | h1
        · exact Or.inl (by omega)
        · exact Or.inr h1

theorem held_noted (limit floor : Int) (L : List (Lit × Int)) (k : Int) (s : ByteArray) (i : Int) : Held (noteFl limit floor L (kS s) i) (noteL limit L (kS s) i) (k, s, i) := fun h => note_holds limit floor L (kS s) (kS_key s) i h

theorem held_pass {floor fl' : Int} {L : List (Lit × Int)} {x : HOp} {i : Int} (ha : Apart L) (hf : (floor ≤ i ∧ fl' = 0) ∨ (i < floor ∧ fl' = floor)) (hi : i < x.2.2) (h : Held floor L x) : Held fl' (passL L i) x := by
  intro hx
  rw [allows_false]
  rcases allows_false.1 (h hx) with h1 | ⟨n, h1, h2⟩
  · left; omega
  · right
    refine ⟨n, ?_, h2⟩
    have hm := mem_of_lget h1
    exact lget_of_mem (ha.sublist List.filter_sublist) (kS_key _) (List.mem_filter.2 ⟨hm, by simp; omega⟩)

theorem opCells_len (x : HOp) : (opCells x).length = 3 := rfl
theorem opCells_one (x : HOp) : ∀ u ∈ opCells x, u.oneCell' = true := by
  intro u hu
  simp [opCells] at hu
  rcases hu with rfl | rfl | rfl <;> rfl
theorem info27' : (Try.prog.info? 27).map (fun i => (i.zero, i.size, i.bytes)) = some (some (.agg #[.int .i64 0, .string ⟨#[]⟩, .int .i64 0]), 3, 32) := by kernel_rfl


set_option maxRecDepth 100000 in
set_option maxHeartbeats 20000000 in
theorem holds_walk (limit : Int) (a0 : Option Addr) (len0 cap0 : Nat) (z : Nat → HOp) (w : World) (h0 : IsOps w a0 len0 z) :
    Calls Try.prog 3 #[.int .i64 limit, .slice a0 len0 cap0] w fun e w' => e = .returned (.bool true) ∧ Below w.heap.size w w' := by
  obtain ⟨hmax, hok, hrow⟩ := h0
  unfold maxLen at hmax
  go_enter Try.func3, Try.ntmps3
  go_wp2_with fail
  refine (awake_any _).mono ?_
  rintro _ w1 ⟨rfl, hk1⟩
  go_wp2_with fail
  refine (new_any limit _).mono ?_
  rintro _ w2 ⟨rfl, T2, hk2, hs2⟩
  have hlo : w.heap.size ≤ w1.heap.size := hk1.size
  have hk : Keep NoB w w2 := hk1.trans hk2
  generalize htb : w1.heap.size + 1 = tb at *
  generalize hmb : w1.heap.size = mb at *
  have hlo2 : w.heap.size ≤ tb := by omega
  clear hk1 hk2 hs2 htb hmb
  go_wp2_with fail
  go_loopw [6, 7] (fun m i wr => ∃ (k : Nat) (L : List (Lit × Int)) (floor : Int) (N : List HOp) (a : Option Addr) (cap : Nat), k ≤ len0 ∧ k ≤ 100 ∧ i = .int .i64 k ∧ m = .slice a N.length cap ∧ L.length ≤ k ∧ N.length ≤ k ∧ Tab wr tb mb limit floor L ∧ Own wr w.heap.size 27 3 opCells m N ∧ (∀ x ∈ N, Held floor L x ∧ opOk x) ∧ Keep NoB w wr) (fun _ i _ => len0 - (intOf i).toNat)
  case atStart => exact ⟨0, [], 0, [], none, 0, Nat.zero_le _, Nat.zero_le _, rfl, rfl, Nat.le_refl _, Nat.le_refl _, T2, Own.nil _ _ _ _ _, by simp, hk⟩
  case round =>
    obtain ⟨k, L, floor, N, a, cap, hk0, hk100, rfl, rfl, hL, hN, T, O, hH, hk⟩ := hrel
    by_cases hgo : k < len0 ∧ k < 100
    · obtain ⟨hlt, h200⟩ := hgo
      have h200i : decide ((k : Int) < 100) = true := by simp; omega
      rcases hrow with h | ⟨b, off, rfl, hb, hc⟩
      · omega
      have hcw := hc k hlt
      have hop := hok k hlt
      clear hc
      generalize hzk : z k = x at hcw hop
      clear hzk
      obtain ⟨kd, s, n⟩ := x
      obtain ⟨hcw0, hcw1, hcw2⟩ := hcw
      have hs : s.size ≤ maxLen := hop.2.1
      simp only at hcw0 hcw1 hcw2
      have hb0 : b < wr.heap.size := Nat.lt_of_lt_of_le hb hk.size
      have l00 : wr.cell? ⟨b, off + k * 3, none⟩ = some (.int .i64 kd) := (hk.cell (p := ⟨b, off + k * 3, none⟩) hb (fun h => h)).trans hcw0
      have l01 : wr.cell? ⟨b, off + k * 3 + 1, none⟩ = some (.string s) := (hk.cell (p := ⟨b, off + k * 3 + 1, none⟩) hb (fun h => h)).trans hcw1
      have l02 : wr.cell? ⟨b, off + k * 3 + 2, none⟩ = some (.int .i64 n) := (hk.cell (p := ⟨b, off + k * 3 + 2, none⟩) hb (fun h => h)).trans hcw2
      clear hcw0 hcw1 hcw2
      have hkd : kd = 0 ∨ kd = 1 ∨ kd = 2 ∨ ((kd == 0) = false ∧ (kd == 1) = false ∧ (kd == 2) = false) := by
        simp; omega
      go_upto_block 2 with fail
      go_cut [6, 9, 11] from 18 to 91 (fun v _ _ wx => ∃ (L' : List (Lit × Int)) (fl' : Int) (N' : List HOp) (a' : Option Addr) (c' : Nat), v = .slice a' N'.length c' ∧ L'.length ≤ k + 1 ∧ N'.length ≤ k + 1 ∧ Tab wx tb mb limit fl' L' ∧ Own wx w.heap.size 27 3 opCells v N' ∧ (∀ x ∈ N', Held fl' L' x ∧ opOk x) ∧ Keep NoB w wx)
      case first =>
        rcases hkd with rfl | rfl | rfl | ⟨e0, e1, e2⟩
        · have htl := blk_lt T.blk
          have hml := T.map.lt
          go_wp2_with fail
          refine (note_any tb mb limit floor L s n _ (T.keep (S := NoB) (by (repeat (with_reducible first | exact Keep.refl _ _ | assumption | refine Keep.alloc ?_ _ | refine Keep.drewN ?_ _ | refine Keep.drew ?_ | refine Keep.setCell ?_ (by first | (left; simp; done) | (left; simp; omega) | (right; simp [NoB, OneB, TwoB]; done)) _))) (fun h => h) (fun h => h)) hs (by unfold maxLen; omega) _ _ rfl rfl).mono ?_
          rintro _ w3 ⟨rfl, T3, hk3⟩
          have hl3 := note_len limit L (T.map.apart law9) (kS s) n
          have hH3 : ∀ x ∈ N, Held (noteFl limit floor L (kS s) n) (noteL limit L (kS s) n) x ∧ opOk x := fun x hx => ⟨held_note s n (hH x hx).1, (hH x hx).2⟩
          have hHn := held_noted limit floor L 0 s n
          generalize noteFl limit floor L (kS s) n = fl' at T3 hH3 hHn
          generalize noteL limit L (kS s) n = L' at T3 hl3 hH3 hHn
          obtain ⟨N', hN'⟩ : ∃ l, N ++ [(0, s, n)] = l := ⟨_, rfl⟩
          have hH4 : ∀ x ∈ N', Held fl' L' x ∧ opOk x := by
            rw [← hN']
            intro x hx
            rcases List.mem_append.1 hx with hx | hx
            · exact hH3 x hx
            · simp at hx; subst hx; exact ⟨hHn, hop⟩
          have hN4 : N'.length ≤ k + 1 := by rw [← hN']; simp; omega
          have HN' := Lib.hid hN'
          clear hN' hHn hH3
          have hob : w3.heap[wr.heap.size]? = some (.cells #[.int .i64 0, .string s, .int .i64 n] 27) := blk_keep (blk_new wr _) hk3 (fun e => by rcases e with e | e <;> omega)
          have x0 := blk_cell hob 0
          have x1 := blk_cell hob 1
          have x2 := blk_cell hob 2
          have hob1 := blk_lt hob
          simp at x0 x1 x2
          have K3 : Keep NoB w w3 := (hk.alloc _).trans' hk3 (fun i hi e => by have := hk.size; rcases e with e | e <;> omega)
          have O3 : Own w3 w.heap.size 27 3 opCells (Value.slice a N.length cap) N := (O.alloc _).keep hk3 (fun g hg e => by rcases e with e | e; exact O.ne T.blk (by decide) g hg e; exact O.ne_map T.map g hg e)
          clear hob T O hH hk3 hk
          go_wp2_with (at_builtin; refine wpList_append_one rfl _ _ 22 rfl Try.underlying22 info27' (by kernel_rfl) (by decide) (by decide) rfl (O3.alloc _) opCells_len (0, s, n) rfl (blk_new w3 _) rfl (opCells_one _) (by omega) (by simp; have := K3.size; omega) HN'.out ?_; intro a4 c4 w4 O4 k4)
          have K4 : Keep NoB w w4 := (K3.alloc _).trans' k4 (fun i hi e => by have := O3.fresh i e; omega)
          have T4 : Tab w4 tb mb limit fl' L' := (T3.keep (S := NoB) ((Keep.refl _ _).alloc _) (fun h => h) (fun h => h)).keep k4 (fun e => O3.ne T3.blk (by decide) _ e rfl) (fun e => O3.ne_map T3.map _ e rfl)
          clear k4 T3 O3 K3
          go_wp2_with fail
          go_meet
          exact ⟨L', fl', N', a4, c4, rfl, by omega, hN4, T4, O4, hH4, K4⟩
        · obtain ⟨fl', hfl⟩ : ∃ f : Int, (floor ≤ n ∧ f = 0) ∨ (n < floor ∧ f = floor) := by
            by_cases h : floor ≤ n
            · exact ⟨0, Or.inl ⟨h, rfl⟩⟩
            · exact ⟨floor, Or.inr ⟨by omega, rfl⟩⟩
          have Hfl := Lib.hid hfl
          clear hfl
          have htl := blk_lt T.blk
          have hml := T.map.lt
          go_wp2_with fail
          refine (pass_any tb mb limit floor L n _ (T.keep (S := NoB) (by (repeat (with_reducible first | exact Keep.refl _ _ | assumption | refine Keep.alloc ?_ _ | refine Keep.drewN ?_ _ | refine Keep.drew ?_ | refine Keep.setCell ?_ (by first | (left; simp; done) | (left; simp; omega) | (right; simp [NoB, OneB, TwoB]; done)) _))) (fun h => h) (fun h => h)) (by unfold maxLen; omega) fl' Hfl.out).mono ?_
          rintro _ w3 ⟨rfl, T3, hk3⟩
          have hl3 : (passL L n).length ≤ L.length := List.length_filter_le _ _
          obtain ⟨N', hN'⟩ : ∃ l, N.filter (fun x => decide (n < x.2.2)) = l := ⟨_, rfl⟩
          have hH4 : ∀ x ∈ N', Held fl' (passL L n) x ∧ opOk x := by
            rw [← hN']
            intro x hx
            obtain ⟨hx1, hx2⟩ := List.mem_filter.1 hx
            exact ⟨held_pass (T.map.apart law9) Hfl.out (by simpa using hx2) (hH x hx1).1, (hH x hx1).2⟩
          have hN4 : N'.length ≤ k + 1 := by have := List.length_filter_le (fun x : HOp => decide (n < x.2.2)) N; rw [hN'] at this; omega
          have HN' := Lib.hid hN'
          clear hN'
          have hob : w3.heap[wr.heap.size]? = some (.cells #[.int .i64 1, .string s, .int .i64 n] 27) := blk_keep (blk_new wr _) hk3 (fun e => by rcases e with e | e <;> omega)
          have K3 : Keep NoB w w3 := (hk.alloc _).trans' hk3 (fun i hi e => by have := hk.size; rcases e with e | e <;> omega)
          have O3 : Own w3 w.heap.size 27 3 opCells (Value.slice a N.length cap) N := (O.alloc _).keep hk3 (fun g hg e => by rcases e with e | e; exact O.ne T.blk (by decide) g hg e; exact O.ne_map T.map g hg e)
          generalize passL L n = L' at T3 hl3 hH4
          have Hob := Lib.hid hob
          clear T O hH hk3 hk hob
          go_wp2_with fail
          go_loopw [9, 54] (fun m j wx => ∃ (jn : Nat) (M : List HOp) (am : Option Addr) (cm : Nat), jn ≤ N.length ∧ j = .int .i64 jn ∧ m = .slice am M.length cm ∧ M.length ≤ jn ∧ (N.take jn).filter (fun x => decide (n < x.2.2)) = M ∧ Own wx w3.heap.size 27 3 opCells m M ∧ Keep NoB w3 wx) (fun _ j _ => N.length - (intOf j).toNat)
          case atStart => exact ⟨0, [], none, 0, Nat.zero_le _, rfl, rfl, Nat.le_refl _, by simp, Own.nil _ _ _ _ _, Keep.refl _ _⟩
          case round =>
            obtain ⟨jn, M, am, cm, hj, rfl, rfl, hM, hfilt, OM, hx⟩ := hrel
            have Hfilt := Lib.hid hfilt
            clear hfilt
            by_cases hjl : jn < N.length
            · obtain ⟨x, hxm⟩ : ∃ x, N[jn]? = some x := ⟨_, List.getElem?_eq_getElem hjl⟩
              obtain ⟨g, cap', hv, hg1, hg2, hcx⟩ := (O3.keep hx (fun _ _ h => h)).cells opCells_len hxm
              cases hv
              obtain ⟨xk, xs, xn⟩ := x
              have m0 := hcx 0 _ rfl
              have m1 := hcx 1 _ rfl
              have m2 := hcx 2 _ rfl
              simp only [Nat.add_zero] at m0
              have hob := blk_keep Hob.out hx (fun h => h)
              have x2 := blk_cell hob 2
              have hob1 := blk_lt hob
              simp at x2
              have Hxm := Lib.hid hxm
              clear hcx hxm hob
              by_cases hgt : n < xn
              · have hd1 : decide (n < xn) = true := by simpa using hgt
                obtain ⟨M', hM'⟩ : ∃ l, M ++ [(xk, xs, xn)] = l := ⟨_, rfl⟩
                have hM2 : M'.length ≤ jn + 1 := by rw [← hM']; simp; omega
                have hM3 : (N.take (jn + 1)).filter (fun x => decide (n < x.2.2)) = M' := by rw [List.take_add_one, Hxm.out, List.filter_append, Hfilt.out, ← hM']; simp [hgt]
                have HM' := Lib.hid hM'
                have HM3 := Lib.hid hM3
                clear hM' hM3
                go_wp2_with (at_builtin; refine wpList_append_one rfl _ _ 22 rfl Try.underlying22 info27' (by kernel_rfl) (by decide) (by decide) rfl ((OM.alloc _).alloc _) opCells_len (xk, xs, xn) rfl (by have := blk_new (wr.alloc (.cells #[.int .i64 xk, .string xs, .int .i64 xn] 27)) (.cells #[.int .i64 xk, .string xs, .int .i64 xn] 27); simpa using this) rfl (opCells_one _) (by omega) (by simp; have := hx.size; omega) HM'.out ?_; intro a4 c4 w4 O4 k4)
                have K4 : Keep NoB w3 w4 := ((hx.alloc _).alloc _).trans' k4 (fun i hi e => by have := OM.fresh i e; omega)
                clear k4 OM hx
                go_wp2_with fail
                go_roundw
                case rel => exact ⟨jn + 1, M', a4, c4, hjl, by go_num, rfl, hM2, HM3.out, O4, K4⟩
                case measure => simp [intOf]; omega
              · have hd1 : decide (n < xn) = false := by simpa using hgt
                have hM3 : (N.take (jn + 1)).filter (fun x => decide (n < x.2.2)) = M := by rw [List.take_add_one, Hxm.out, List.filter_append, Hfilt.out]; simp [hgt]
                have HM3 := Lib.hid hM3
                clear hM3
                go_wp2_with fail
                go_roundw
                case rel => exact ⟨jn + 1, M, am, cm, hjl, by go_num, rfl, by omega, HM3.out, OM.alloc _, hx.alloc _⟩
                case measure => simp [intOf]; omega
            · obtain rfl : M = N' := by rw [← Hfilt.out, ← HN'.out, List.take_of_length_le (by omega)]
              have K4 : Keep NoB w wr := K3.trans hx
              have T4 := T3.keep hx (fun h => h) (fun h => h)
              have O4 : Own wr w.heap.size 27 3 opCells (Value.slice am M.length cm) M := OM.mono K3.size
              clear K3 hx T3 O3 OM
              go_wp2_with fail
              go_meet
              exact ⟨L', fl', M, am, cm, rfl, by omega, hN4, T4, O4, hH4, K4⟩
        · go_wp2_with fail
          refine (clear_any tb mb limit floor L _ (T.keep (S := NoB) (by (repeat (with_reducible first | exact Keep.refl _ _ | assumption | refine Keep.alloc ?_ _ | refine Keep.drewN ?_ _ | refine Keep.drew ?_ | refine Keep.setCell ?_ (by first | (left; simp; done) | (left; simp; omega) | (right; simp [NoB, OneB, TwoB]; done)) _))) (fun h => h) (fun h => h))).mono ?_
          rintro _ w3 ⟨rfl, T3, hk3⟩
          have htl := blk_lt T.blk
          have hml := T.map.lt
          have K3 : Keep NoB w w3 := (hk.alloc _).trans' hk3 (fun i hi e => by have := hk.size; rcases e with e | e <;> omega)
          clear T O hk3 hk hH
          go_wp2_with fail
          go_meet
          exact ⟨[], 0, [], none, 0, rfl, by simp, by simp, T3, Own.nil _ _ _ _ _, by simp, K3⟩
        · have T4 := T.keep (S := NoB) ((Keep.refl _ wr).alloc (.cells #[.int .i64 kd, .string s, .int .i64 n] 27)) (fun h => h) (fun h => h)
          have O4 := O.alloc (.cells #[.int .i64 kd, .string s, .int .i64 n] 27)
          have K4 := hk.alloc (.cells #[.int .i64 kd, .string s, .int .i64 n] 27)
          go_wp2_with fail
          go_meet
          exact ⟨L, floor, N, a, cap, rfl, by omega, by omega, T4, O4, hH, K4⟩
      case rest =>
        clear T O hH hk hkd hop
        obtain ⟨L', fl', N', a4, c4, rfl, hL4, hN4, T4, O4, hH4, K4⟩ := hcut
        go_wp2_with fail
        go_loopw [75] (fun j wx => ∃ jn : Nat, jn ≤ N'.length ∧ j = .int .i64 jn ∧ Keep NoB wc wx) (fun j _ => N'.length - (intOf j).toNat)
        case atStart => exact ⟨0, Nat.zero_le _, rfl, Keep.refl _ _⟩
        case round =>
          obtain ⟨jn, hj, rfl, hx⟩ := hrel
          by_cases hjl : jn < N'.length
          · obtain ⟨x, hxm⟩ : ∃ x, N'[jn]? = some x := ⟨_, List.getElem?_eq_getElem hjl⟩
            have hhx := hH4 x (List.mem_of_getElem? hxm)
            obtain ⟨g, cap', hv, hg1, hg2, hcx⟩ := (O4.keep hx (fun _ _ h => h)).cells opCells_len hxm
            cases hv
            obtain ⟨xk, xs, xn⟩ := x
            obtain ⟨hheld, hxok⟩ := hhx
            have m0 := hcx 0 _ rfl
            have m1 := hcx 1 _ rfl
            have m2 := hcx 2 _ rfl
            simp only [Nat.add_zero] at m0
            clear hcx hxm
            have hxs : xs.size ≤ maxLen := hxok.2.1
            have hxn := bounds_i64 hxok.2.2
            obtain ⟨hxn1, hxn2⟩ := hxn
            simp only at hxn1 hxn2
            clear hxok
            by_cases hone : 1 ≤ xn
            · have hal := Lib.hid (hheld hone)
              have hd1 : decide (1 ≤ xn) = true := by simpa using hone
              clear hheld
              go_wp2_with fail
              refine (allows_any tb mb limit fl' L' xs (xn - 1) _ (T4.keep (S := NoB) (hx.alloc _) (fun h => h) (fun h => h)) hxs false hal.out).mono ?_
              rintro _ _ ⟨rfl, rfl⟩
              go_wp2_with fail
              go_roundw
              case rel => exact ⟨jn + 1, hjl, by go_num, hx.alloc _⟩
              case measure => simp [intOf]; omega
            · have hd1 : decide (1 ≤ xn) = false := by simpa using hone
              clear hheld
              go_wp2_with fail
              go_roundw
              case rel => exact ⟨jn + 1, hjl, by go_num, hx.alloc _⟩
              case measure => simp [intOf]; omega
          · go_wp2_with fail
            go_roundw
            case rel => exact ⟨k + 1, L', fl', N', a4, c4, hlt, h200, by go_num, rfl, hL4, hN4, T4.keep hx (fun h => h) (fun h => h), O4.keep hx (fun _ _ h => h), hH4, K4.trans hx⟩
            case measure => simp [intOf]; omega
    · have hout : (¬ k < len0 ∧ decide ((k : Int) < (len0 : Int)) = false) ∨ (k < len0 ∧ ¬ k < 100 ∧ decide ((k : Int) < 100) = false) := by
        by_cases h1 : k < len0
        · right
          have : ¬ k < 100 := fun h => hgo ⟨h1, h⟩
          exact ⟨h1, this, by simp; omega⟩
        · left
          exact ⟨h1, by simp; omega⟩
      clear hgo
      rcases hout with ⟨h1, hd⟩ | ⟨h1, h2, hd⟩
      all_goals
        go_wp2
        go_ret
        exact ⟨rfl, hk.below (fun _ _ h => h)⟩
end Go.Proofs.Ytcgjkmodbghdoaa
