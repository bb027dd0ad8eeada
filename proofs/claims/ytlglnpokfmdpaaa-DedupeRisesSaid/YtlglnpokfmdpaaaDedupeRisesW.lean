/- The walk of DedupeRises. -/
import Derived.Test.YtlglnpokfmdpaaaDedupeA
namespace Go.Proofs.Ytlglnpokfmdpaaa
open Go Go.RowKit Go.Maps

/-- What is told of a slice of integers that came in. -/
def IsRow (k : IntKind) (w : World) (a : Option Addr) (len cap : Nat) (zs : List Int) : Prop :=
  (a = none ∧ len = 0 ∧ cap = 0 ∧ zs = []) ∨
  ∃ x, a = some x ∧ len ≤ cap ∧ cap ≤ maxLen ∧ zs.length = cap ∧ (∀ i, i < zs.length → w.cell? (x.add i) = some (.int k (zs.getD i 0))) ∧ ∀ n ∈ zs, (Lit.int k n).wf = true

/-- .. as the walks want it. -/
theorem IsRow.at {k : IntKind} {w : World} {a : Option Addr} {len cap : Nat} {zs : List Int} (h : IsRow k w a len cap zs) :
    len ≤ maxLen ∧ (len = 0 ∨ ∃ b off, a = some ⟨b, off, none⟩ ∧ b < w.heap.size ∧ ∀ i, i < len → w.cell? ⟨b, off + i, none⟩ = some (.int k (zs.getD i 0))) ∧ ∀ i, (Lit.int k (zs.getD i 0)).wf = true := by
  have hz : (Lit.int k 0).wf = true := by cases k <;> decide
  rcases h with ⟨rfl, rfl, rfl, rfl⟩ | ⟨x, rfl, h1, h2, h3, h4, h5⟩
  · exact ⟨by decide, .inl rfl, fun i => by simpa using hz⟩
  · refine ⟨by omega, ?_, fun i => ?_⟩
    · by_cases h0 : len = 0
      · exact .inl h0
      · right
        obtain ⟨b, off, spot⟩ := x
        have hc := h4 0 (by omega)
        have hspot : spot = none := by simpa [Addr.add] using World.cell?_spot hc
        subst hspot
        have hh : ∀ i, (Addr.add ⟨b, off, none⟩ i : Addr) = ⟨b, off + i, none⟩ := fun i => by
          unfold Addr.add
          split
          · rename_i h; subst h; rfl
          · rfl
        refine ⟨b, off, rfl, ?_, fun i hi => by rw [← hh]; exact h4 i (by omega)⟩
        have := h4 0 (by omega)
        simp only [World.cell?, Addr.add, if_true] at this
        split at this
        · rename_i e; exact (Array.getElem?_eq_some_iff.1 e).1
        · cases this
    · by_cases hi : i < zs.length
      · have : zs.getD i 0 = zs[i] := by simp [List.getD, hi]
        rw [this]
        exact h5 _ (List.getElem_mem hi)
      · have : zs.getD i 0 = 0 := by simp [List.getD]; rw [List.getElem?_eq_none (by omega)]; rfl
        rw [this]; exact hz

def Lone (wr : World) (tb mb : Nat) (s last : Int) : Prop := ∃ e ix, Tab wr tb mb 3 [(kI s, (last, e, ix))]

theorem look_same (s last e ix : Int) : lookF 3 [(kI s, (last, e, ix))] s last = (2, e, ix) := by
  simp [lookF, lget, kI, Lit.sameKey]
theorem look_above (s last e ix r : Int) (h : last < r) : lookF 3 [(kI s, (last, e, ix))] s r = (1, 0, 0) := by
  simp [lookF, lget, kI, Lit.sameKey, h]
theorem look_below (s last e ix r : Int) (h : r < last) : lookF 3 [(kI s, (last, e, ix))] s r = (3, 0, 0) := by
  have : ¬ last < r := by omega
  simp [lookF, lget, kI, Lit.sameKey, h, this]
theorem put_same (s : Int) (x y : Last) : lput [(kI s, x)] (kI s) y = [(kI s, y)] := by
  simp [lput, ldel, lins, kI, Lit.sameKey]

set_option maxRecDepth 100000 in
set_option maxHeartbeats 400000 in
theorem rises_walk (a0 : Option Addr) (len0 cap0 : Nat) (z0 : List Int) (s : Int) (w : World) (h0 : IsRow .i64 w a0 len0 cap0 z0) (hs : (Lit.int .i64 s).wf = true) :
    Calls Try.prog 4 #[.slice a0 len0 cap0, .int .i64 s] w fun e w' => e = .returned (.bool true) ∧ Below w.heap.size w w' := by
  obtain ⟨hmax, hrow, hwf⟩ := h0.at
  unfold maxLen at hmax
  clear h0
  go_enter Try.func4, Try.ntmps4
  go_wp2_with fail
  refine (awake_any _).mono ?_
  rintro _ w1 ⟨rfl, hk1⟩
  go_wp2_with fail
  refine (new_any 3 _).mono ?_
  rintro _ w2 ⟨rfl, T2, hk2, hs2⟩
  have hne : w1.heap.size + 1 ≠ w1.heap.size := by omega
  have hlo : w.heap.size ≤ w1.heap.size := hk1.size
  have HS2 := Lib.hid hs2
  clear hs2
  go_wp2_with fail
  refine (note_any _ _ 3 s 0 0 0 [] _ T2 hne hs (by decide) true rfl [(kI s, (0, 0, 0))] rfl).mono ?_
  rintro _ w3 ⟨rfl, T3, hk3⟩
  go_wp2_with fail
  refine (look_any _ _ 3 s 0 _ _ T3 hs (2, 0, 0) (look_same ..)).mono ?_
  rintro _ w4 ⟨rfl, hk4⟩
  have hk : Keep NoB w w4 := ((hk1.trans hk2).trans' hk3 (fun i hi e => by have : i = w1.heap.size := e; omega)).trans' hk4 (fun i hi e => e)
  have T4 : Tab w4 (w1.heap.size + 1) w1.heap.size 3 [(kI s, (0, 0, 0))] := T3.keep hk4 (fun h => h) (fun h => h)
  generalize htb : w1.heap.size + 1 = tb at *
  generalize hmb : w1.heap.size = mb at *
  clear T2 T3 hk1 hk2 hk3 hk4 HS2
  have hlo2 : w.heap.size ≤ tb := by omega
  clear htb hmb
  go_wp2_with fail
  go_loopw [6, 9] (fun l i wr => ∃ (k : Nat) (last e ix : Int), k ≤ len0 ∧ i = .int .i64 k ∧ l = .int .i64 last ∧ Tab wr tb mb 3 [(kI s, (last, e, ix))] ∧ Keep NoB w wr) (fun _ i _ => len0 - (intOf i).toNat)
  case atStart => exact ⟨0, 0, 0, 0, Nat.zero_le _, rfl, rfl, T4.keep (S := NoB) ((Keep.refl _ _).alloc _) (fun h => h) (fun h => h), hk.alloc _⟩
  case round =>
    obtain ⟨k, last, e, ix, hk0, rfl, rfl, T, hk⟩ := hrel
    by_cases hlt : k < len0
    · by_cases h200 : k < 200
      · rcases hrow with h | ⟨b, off, rfl, hb, hc⟩
        · omega
        have hcw := hc k hlt
        have hwr := hwf k
        have hbr : b < wr.heap.size := Nat.lt_of_lt_of_le hb hk.size
        clear hc
        generalize z0.getD k 0 = r at hcw hwr
        have hcell : wr.cell? ⟨b, off + k, none⟩ = some (.int .i64 r) := (hk.cell (p := ⟨b, off + k, none⟩) hb (fun h => h)).trans hcw
        have hmr : mb < wr.heap.size := T.map.lt
        have htr : tb < wr.heap.size := blk_lt T.blk
        have hat0 := Lib.hid (blk_new wr (.cells #[.int .i64 1, .int .i64 k] 29))
        have hcw' := Lib.hid hcw
        clear hcw
        rcases Int.lt_trichotomy last r with hr | hr | hr
        · -- above
          go_wp2_with fail
          refine wp_region_tail 7 (by kernel_rfl) (by kernel_rfl) ?_
          simp only [List.take_succ_cons, List.take_zero, List.drop_succ_cons, List.drop_zero]
          repeat still_step
          refine wpStill_nil ?_
          go_wp2_with fail
          refine (note_any _ _ 3 s r 1 k _ _ (T.keep (S := NoB) (by (repeat (with_reducible first | exact Keep.refl _ _ | assumption | refine Keep.alloc ?_ _ | refine Keep.drewN ?_ _ | refine Keep.drew ?_ | refine Keep.setCell ?_ (by first | (left; simp; done) | (left; simp; omega) | (right; simp [NoB, OneB, TwoB]; done)) _))) (fun h => h) (fun h => h)) (by omega) hs (by simp [maxLen]) true (by rw [look_above _ _ _ _ _ hr]; rfl) [(kI s, (r, 1, k))] (by unfold noteF; rw [look_above _ _ _ _ _ hr]; simp [put_same])).mono ?_
          rintro _ w5 ⟨rfl, T5, hk5⟩
          have K5 : Keep NoB w w5 := ((hk.alloc _).drew).trans' hk5 (fun i hi e => by have : i = mb := e; omega)
          have hb5 : b < w5.heap.size := Nat.lt_of_lt_of_le hb K5.size
          have hat5 := blk_keep (blk_drew hat0.out) hk5 (fun e => by have : wr.heap.size = mb := e; omega)
          have hsz5 : wr.heap.size < w5.heap.size := blk_lt hat5
          have c5 : w5.cell? ⟨b, off + k, none⟩ = some (.int .i64 r) := (K5.cell (p := ⟨b, off + k, none⟩) hb (fun h => h)).trans hcw'.out
          have e50 := blk_cell hat5 0
          have e51 := blk_cell hat5 1
          have Hat5 := Lib.hid hat5
          clear hat5
          simp at e50 e51
          go_wp2_with fail
          refine (look_any _ _ 3 s r _ _ T5 hs (2, 1, k) (look_same ..)).mono ?_
          rintro _ w6 ⟨rfl, hk6⟩
          have K6 := K5.trans hk6
          have T6 := T5.keep hk6 (fun h => h) (fun h => h)
          have hb6 : b < w6.heap.size := Nat.lt_of_lt_of_le hb K6.size
          have hat6 := blk_keep Hat5.out hk6 (fun e => e)
          have hsz6 : wr.heap.size < w6.heap.size := blk_lt hat6
          have c6 : w6.cell? ⟨b, off + k, none⟩ = some (.int .i64 r) := (K6.cell (p := ⟨b, off + k, none⟩) hb (fun h => h)).trans hcw'.out
          have e60 := blk_cell hat6 0
          have e61 := blk_cell hat6 1
          have Hat6 := Lib.hid hat6
          clear hat6
          simp at e60 e61
          go_wp2_with fail
          refine (look_any _ _ 3 s r _ _ (T6.keep (S := NoB) ((Keep.refl _ _).alloc _) (fun h => h) (fun h => h)) hs (2, 1, k) (look_same ..)).mono ?_
          rintro _ w7 ⟨rfl, hk7⟩
          have K7 := (K6.alloc _).trans hk7
          have T7 := T6.keep (((Keep.refl NoB _).alloc _).trans hk7) (fun h => h) (fun h => h)
          have hb7 : b < w7.heap.size := Nat.lt_of_lt_of_le hb K7.size
          have hat7 := blk_keep (blk_alloc Hat6.out) hk7 (fun e => e)
          have hsz7 : wr.heap.size < w7.heap.size := blk_lt hat7
          have c7 : w7.cell? ⟨b, off + k, none⟩ = some (.int .i64 r) := (K7.cell (p := ⟨b, off + k, none⟩) hb (fun h => h)).trans hcw'.out
          have e70 := blk_cell hat7 0
          have e71 := blk_cell hat7 1
          have Hat7 := Lib.hid hat7
          clear hat7
          simp at e70 e71
          go_wp2_with fail
          go_roundw
          case rel => exact ⟨k + 1, r, 1, k, hlt, by go_num, rfl, T7.keep (S := NoB) ((Keep.refl _ _).alloc _) (fun h => h) (fun h => h), K7.alloc _⟩
          case measure => simp [intOf]; omega
        · -- the same
          subst hr
          go_wp2_with fail
          refine wp_region_tail 7 (by kernel_rfl) (by kernel_rfl) ?_
          simp only [List.take_succ_cons, List.take_zero, List.drop_succ_cons, List.drop_zero]
          repeat still_step
          refine wpStill_nil ?_
          go_wp2_with fail
          refine (note_any _ _ 3 s last 1 k _ _ (T.keep (S := NoB) (by (repeat (with_reducible first | exact Keep.refl _ _ | assumption | refine Keep.alloc ?_ _ | refine Keep.drewN ?_ _ | refine Keep.drew ?_ | refine Keep.setCell ?_ (by first | (left; simp; done) | (left; simp; omega) | (right; simp [NoB, OneB, TwoB]; done)) _))) (fun h => h) (fun h => h)) (by omega) hs (by simp [maxLen]) false (by rw [look_same]; rfl) [(kI s, (last, e, ix))] (by unfold noteF; rw [look_same]; simp)).mono ?_
          rintro _ w5 ⟨rfl, T5, hk5⟩
          have K5 : Keep NoB w w5 := ((hk.alloc _).drew).trans' hk5 (fun i hi e => by have : i = mb := e; omega)
          have hb5 : b < w5.heap.size := Nat.lt_of_lt_of_le hb K5.size
          have hat5 := blk_keep (blk_drew hat0.out) hk5 (fun e => by have : wr.heap.size = mb := e; omega)
          have hsz5 : wr.heap.size < w5.heap.size := blk_lt hat5
          have c5 : w5.cell? ⟨b, off + k, none⟩ = some (.int .i64 last) := (K5.cell (p := ⟨b, off + k, none⟩) hb (fun h => h)).trans hcw'.out
          have e50 := blk_cell hat5 0
          have e51 := blk_cell hat5 1
          have Hat5 := Lib.hid hat5
          clear hat5
          simp at e50 e51
          go_wp2_with fail
          refine (look_any _ _ 3 s last _ _ T5 hs (2, e, ix) (look_same ..)).mono ?_
          rintro _ w6 ⟨rfl, hk6⟩
          have K6 := K5.trans hk6
          have T6 := T5.keep hk6 (fun h => h) (fun h => h)
          have hb6 : b < w6.heap.size := Nat.lt_of_lt_of_le hb K6.size
          have hat6 := blk_keep Hat5.out hk6 (fun e => e)
          have hsz6 : wr.heap.size < w6.heap.size := blk_lt hat6
          have c6 : w6.cell? ⟨b, off + k, none⟩ = some (.int .i64 last) := (K6.cell (p := ⟨b, off + k, none⟩) hb (fun h => h)).trans hcw'.out
          have e60 := blk_cell hat6 0
          have e61 := blk_cell hat6 1
          have Hat6 := Lib.hid hat6
          clear hat6
          simp at e60 e61
          go_wp2_with fail
          go_roundw
          case rel => exact ⟨k + 1, last, e, ix, hlt, by go_num, rfl, T6.keep (S := NoB) ((Keep.refl _ _).alloc _) (fun h => h) (fun h => h), K6.alloc _⟩
          case measure => simp [intOf]; omega
        · -- below
          have hr' : ¬ last < r := by omega
          go_wp2_with fail
          refine wp_region_tail 7 (by kernel_rfl) (by kernel_rfl) ?_
          simp only [List.take_succ_cons, List.take_zero, List.drop_succ_cons, List.drop_zero]
          repeat still_step
          refine wpStill_nil ?_
          go_wp2_with fail
          refine (note_any _ _ 3 s r 1 k _ _ (T.keep (S := NoB) (by (repeat (with_reducible first | exact Keep.refl _ _ | assumption | refine Keep.alloc ?_ _ | refine Keep.drewN ?_ _ | refine Keep.drew ?_ | refine Keep.setCell ?_ (by first | (left; simp; done) | (left; simp; omega) | (right; simp [NoB, OneB, TwoB]; done)) _))) (fun h => h) (fun h => h)) (by omega) hs (by simp [maxLen]) false (by rw [look_below _ _ _ _ _ hr]; rfl) [(kI s, (last, e, ix))] (by unfold noteF; rw [look_below _ _ _ _ _ hr]; simp)).mono ?_
          rintro _ w5 ⟨rfl, T5, hk5⟩
          have K5 : Keep NoB w w5 := ((hk.alloc _).drew).trans' hk5 (fun i hi e => by have : i = mb := e; omega)
          have hb5 : b < w5.heap.size := Nat.lt_of_lt_of_le hb K5.size
          have hat5 := blk_keep (blk_drew hat0.out) hk5 (fun e => by have : wr.heap.size = mb := e; omega)
          have hsz5 : wr.heap.size < w5.heap.size := blk_lt hat5
          have c5 : w5.cell? ⟨b, off + k, none⟩ = some (.int .i64 r) := (K5.cell (p := ⟨b, off + k, none⟩) hb (fun h => h)).trans hcw'.out
          have e50 := blk_cell hat5 0
          have e51 := blk_cell hat5 1
          have Hat5 := Lib.hid hat5
          clear hat5
          simp at e50 e51
          go_wp2_with fail
          refine (look_any _ _ 3 s r _ _ T5 hs (3, 0, 0) (look_below _ _ _ _ _ hr)).mono ?_
          rintro _ w6 ⟨rfl, hk6⟩
          have K6 := K5.trans hk6
          have T6 := T5.keep hk6 (fun h => h) (fun h => h)
          have hb6 : b < w6.heap.size := Nat.lt_of_lt_of_le hb K6.size
          have hat6 := blk_keep Hat5.out hk6 (fun e => e)
          have hsz6 : wr.heap.size < w6.heap.size := blk_lt hat6
          have c6 : w6.cell? ⟨b, off + k, none⟩ = some (.int .i64 r) := (K6.cell (p := ⟨b, off + k, none⟩) hb (fun h => h)).trans hcw'.out
          have e60 := blk_cell hat6 0
          have e61 := blk_cell hat6 1
          have Hat6 := Lib.hid hat6
          clear hat6
          simp at e60 e61
          go_wp2_with fail
          go_roundw
          case rel => exact ⟨k + 1, last, e, ix, hlt, by go_num, rfl, T6.keep (S := NoB) ((Keep.refl _ _).alloc _) (fun h => h) (fun h => h), K6.alloc _⟩
          case measure => simp [intOf]; omega
      · have h200' : decide ((k : Int) < 200) = false := by simp; omega
        go_wp2_with fail
        refine (len_any tb mb 3 _ _ T).mono ?_
        rintro _ w5 ⟨rfl, rfl⟩
        go_wp2
        go_ret
        exact ⟨rfl, hk.below (fun _ _ h => h)⟩
    · have hlt' : decide ((k : Int) < (len0 : Int)) = false := by simp; omega
      go_wp2_with fail
      refine (len_any tb mb 3 _ _ T).mono ?_
      rintro _ w5 ⟨rfl, rfl⟩
      go_wp2
      go_ret
      exact ⟨rfl, hk.below (fun _ _ h => h)⟩
end Go.Proofs.Ytlglnpokfmdpaaa
