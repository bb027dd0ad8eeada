/- What the reference's cache comes to: Used, Find, Drop, Keys, Release. -/
import Derived.Test.YtgbcjnejlelndaaLruQ
import Derived.Test.YtgbcjnejlelndaaLibSub
import Derived.Test.YtgbcjnejlelndaaLibKeyS
import Derived.Test.YtgbcjnejlelndaaLibReg2
namespace Go.Proofs.Ytgbcjnejlelndaa
open Go Go.RowKit Go.Maps

abbrev T3 := ByteArray × Int × Int
def tCells (x : T3) : List Value := [.string x.1, .int .i64 x.2.1, .int .i64 x.2.2]
theorem tCells_len (x : T3) : (tCells x).length = 3 := rfl
theorem tCells_one (x : T3) : ∀ u ∈ tCells x, u.oneCell' = true := by
  intro u hu
  simp [tCells] at hu
  rcases hu with rfl | rfl | rfl <;> rfl
theorem info52' : (Try.prog.info? 52).map (fun i => (i.zero, i.size, i.bytes)) = some (some (.agg #[.string ⟨#[]⟩, .int .i64 0, .int .i64 0]), 3, 32) := by kernel_rfl

structure RC (w : World) (B rb : Nat) (a : Option Addr) (cap : Nat) (room kept : Int) (N : List T3) : Prop where
  blk : w.heap[rb]? = some (.cells #[.slice a N.length cap, .int .i64 room, .int .i64 kept] 49 (0, 0))
  own : Own w B 52 3 tCells (.slice a N.length cap) N
section
variable {w w' : World} {B rb : Nat} {a : Option Addr} {cap : Nat} {room kept : Int} {N : List T3}
theorem RC.keep {S : Nat → Prop} (T : RC w B rb a cap room kept N) (hk : Keep S w w') (h1 : ¬ S rb) (h2 : ∀ g, (Value.slice a N.length cap).ownBlock = some g → ¬ S g) : RC w' B rb a cap room kept N :=
  ⟨blk_keep T.blk hk h1, T.own.keep hk h2⟩
theorem RC.keep0 (T : RC w B rb a cap room kept N) (hk : Keep NoB w w') : RC w' B rb a cap room kept N := T.keep hk (fun h => h) (fun _ _ h => h)
end
def CPost (rb B : Nat) (room kept : Int) (v : Value) (N : List T3) (w : World) (e : Ending) (w' : World) : Prop :=
  e = .returned v ∧ (∃ a cap, RC w' B rb a cap room kept N) ∧ Keep (OneB rb) w w'
theorem ctake_one {α : Type} {N : List α} {k : Nat} {x : α} (hx : N[k]? = some x) : N.take (k + 1) = N.take k ++ [x] := by
  obtain ⟨h, e⟩ := List.getElem?_eq_some_iff.1 hx
  rw [List.take_succ_eq_append_getElem h, e]
def sum3 (N : List T3) : Int := (N.map (fun x => x.2.1)).sum
theorem sum3_add {N : List T3} {k : Nat} {x : T3} (hx : N[k]? = some x) : sum3 (N.take (k + 1)) = sum3 (N.take k) + x.2.1 := by
  unfold sum3
  rw [ctake_one hx, List.map_append, List.sum_append]
  simp
theorem sum3_nonneg {N : List T3} (h : ∀ x ∈ N, 0 ≤ x.2.1) : 0 ≤ sum3 N := by
  unfold sum3
  induction N with
  | nil => simp
  | cons x N ih =>
    have h1 := h x (by simp)
    have h2 := ih (fun y hy => h y (by simp [hy]))
    simp only [List.map_cons, List.sum_cons]
    omega
theorem sum3_take {N : List T3} (h : ∀ x ∈ N, 0 ≤ x.2.1) (k : Nat) : 0 ≤ sum3 (N.take k) ∧ sum3 (N.take k) ≤ sum3 N := by
  refine ⟨sum3_nonneg (fun x hx => h x (List.mem_of_mem_take hx)), ?_⟩
  have h1 := sum3_nonneg (N := N.drop k) (fun x hx => h x (List.mem_of_mem_drop hx))
  have h2 : sum3 N = sum3 (N.take k) + sum3 (N.drop k) := by
    unfold sum3
    rw [← List.sum_append, ← List.map_append, List.take_append_drop]
  omega


/-! ### Used -/
set_option maxHeartbeats 1000000 in
theorem rused_any (rb B : Nat) (a : Option Addr) (cap : Nat) (room kept : Int) (N : List T3) (w : World) (T : RC w B rb a cap room kept N) (hN : N.length ≤ 100000) (h0 : 0 ≤ kept) (hs : ∀ x ∈ N, 0 ≤ x.2.1) (hb : kept + sum3 N ≤ 9223372036854775807) (v : Int) (hv : kept + sum3 N = v) :
    Calls Try.prog 27 #[.pointer (some ⟨rb, 0, none⟩)] w fun e w' => e = .returned (.int .i64 v) ∧ w' = w := by
  have c0 := blk_cell T.blk 0
  have c1 := blk_cell T.blk 1
  have c2 := blk_cell T.blk 2
  have hlt := blk_lt T.blk
  have HT := Lib.hid T
  clear T
  simp at c0 c1 c2
  have Hs := Lib.hid hs
  clear hs
  go_enter Try.func27, Try.ntmps27
  go_wp2_with fail
  go_loopw [3, 4] (fun n iv wr => ∃ k : Nat, k ≤ N.length ∧ iv = .int .i64 (k : Int) ∧ n = .int .i64 (kept + sum3 (N.take k)) ∧ wr = w) (fun _ iv _ => N.length - (intOf iv).toNat)
  case atStart => exact ⟨0, Nat.zero_le _, rfl, by simp [sum3], rfl⟩
  case round =>
    obtain ⟨k, hk, rfl, rfl, rfl⟩ := hrel
    by_cases hkn : k < N.length
    · obtain ⟨x, hx⟩ : ∃ x, N[k]? = some x := ⟨_, List.getElem?_eq_getElem hkn⟩
      obtain ⟨g, cg, hvv, hg1, hg2, hcx⟩ := HT.out.own.cells tCells_len hx
      cases hvv
      have m1 := hcx 1 _ rfl
      (try simp at m1)
      have hst := sum3_take Hs.out k
      have hst2 := sum3_take Hs.out (k + 1)
      have hadd := sum3_add hx
      have hw : IntKind.i64.wrap (kept + sum3 (N.take k) + x.2.1) = kept + sum3 (N.take (k + 1)) := by rw [IntKind.wrap_i64]; omega
      have hx0 := Hs.out x (List.mem_of_getElem? hx)
      obtain ⟨x0, x1, x2⟩ := x
      simp only at m1 hw hx0 hadd
      obtain ⟨q, hq⟩ : ∃ q, kept + sum3 (N.take k) = q := ⟨_, rfl⟩
      obtain ⟨q', hq'⟩ : ∃ q, kept + sum3 (N.take (k + 1)) = q := ⟨_, rfl⟩
      rw [hq, hq'] at hw
      rw [hq]
      have hq1 : q + x1 = q' := by omega
      have Hq' := Lib.hid hq'
      have hq2 : 0 ≤ q' ∧ q' ≤ 9223372036854775807 := by omega
      clear hcx hx hst hst2 hadd hq hq'
      go_wp2_with fail
      go_roundw
      case rel => exact ⟨k + 1, hkn, by go_num, by rw [Hq'.out], trivial⟩
      case measure => simp [intOf]; omega
    · have hd : decide ((k : Int) < (N.length : Int)) = false := decide_eq_false (by omega)
      rw [List.take_of_length_le (by omega), hv]
      go_wp2
      go_ret
      exact ⟨rfl, rfl⟩

/-! ### Find -/
inductive FindV (N : List T3) (s : ByteArray) : Int → Prop
  | hit (j : Nat) (x : T3) (hx : N[j]? = some x) (he : x.1 = s) (hl : ∀ (i : Nat) (y : T3), i < j → N[i]? = some y → y.1 ≠ s) : FindV N s (j : Int)
  | miss (h : ∀ x ∈ N, x.1 ≠ s) : FindV N s (-1)
theorem find_case (s : ByteArray) : ∀ N : List T3, ∃ v, FindV N s v
  | [] => ⟨-1, .miss (by simp)⟩
  | y :: N => by
    by_cases h : y.1 = s
    · exact ⟨0, .hit 0 y rfl h (fun i _ hi => absurd hi (Nat.not_lt_zero i))⟩
    · obtain ⟨v, hv⟩ := find_case s N
      cases hv with
      | hit j x hx he hl =>
        refine ⟨((j + 1 : Nat) : Int), .hit (j + 1) x hx he (fun i z hi hz => ?_)⟩
        cases i with
        | zero => simp at hz; subst hz; exact h
        | succ i => exact hl i z (by omega) hz
      | miss hm => exact ⟨-1, .miss (fun x hx => by rcases List.mem_cons.1 hx with rfl | hx; exact h; exact hm x hx)⟩

set_option maxHeartbeats 1000000 in
theorem rfind_any (rb B : Nat) (a : Option Addr) (cap : Nat) (room kept : Int) (N : List T3) (s : ByteArray) (w : World) (T : RC w B rb a cap room kept N) (hN : N.length ≤ 100000) (v : Int) (hv : FindV N s v) :
    Calls Try.prog 34 #[.pointer (some ⟨rb, 0, none⟩), .string s] w fun e w' => e = .returned (.int .i64 v) ∧ w' = w := by
  have c0 := blk_cell T.blk 0
  have c1 := blk_cell T.blk 1
  have c2 := blk_cell T.blk 2
  have hlt := blk_lt T.blk
  have HT := Lib.hid T
  clear T
  simp at c0 c1 c2
  cases hv with
  | hit j x hx he hl =>
    have Hl := Lib.hid hl
    have Hx := Lib.hid hx
    have hj := (List.getElem?_eq_some_iff.1 hx).1
    clear hl hx
    go_enter Try.func34, Try.ntmps34
    go_wp2_with fail
    go_loopw [5] (fun iv wr => ∃ k : Nat, k ≤ j ∧ iv = .int .i64 (k : Int) ∧ wr = w) (fun iv _ => N.length - (intOf iv).toNat)
    case atStart => exact ⟨0, Nat.zero_le _, rfl, rfl⟩
    case round =>
      obtain ⟨k, hk, rfl, rfl⟩ := hrel
      have hkn : k < N.length := by omega
      by_cases hkj : k < j
      · obtain ⟨y, hy⟩ : ∃ y, N[k]? = some y := ⟨_, List.getElem?_eq_getElem hkn⟩
        have hne := tx_ne (Hl.out k y hkj hy)
        obtain ⟨g, cg, hvv, hg1, hg2, hcx⟩ := HT.out.own.cells tCells_len hy
        cases hvv
        have m0 := hcx 0 _ rfl
        simp only [Nat.add_zero] at m0
        obtain ⟨y0, y1, y2⟩ := y
        simp at m0
        clear hcx hy
        go_wp2_with fail
        go_roundw
        case rel => exact ⟨k + 1, hkj, by go_num, trivial⟩
        case measure => simp [intOf]; omega
      · obtain rfl : k = j := by omega
        obtain ⟨g, cg, hvv, hg1, hg2, hcx⟩ := HT.out.own.cells tCells_len Hx.out
        cases hvv
        have m0 := hcx 0 _ rfl
        simp only [Nat.add_zero] at m0
        obtain ⟨y0, y1, y2⟩ := x
        simp at m0
        have he' : y0 = s := he
        subst he'
        clear hcx
        go_wp2
        go_ret
        exact ⟨rfl, rfl⟩
  | miss hm =>
    have Hm := Lib.hid hm
    clear hm
    go_enter Try.func34, Try.ntmps34
    go_wp2_with fail
    go_loopw [5] (fun iv wr => ∃ k : Nat, k ≤ N.length ∧ iv = .int .i64 (k : Int) ∧ wr = w) (fun iv _ => N.length - (intOf iv).toNat)
    case atStart => exact ⟨0, Nat.zero_le _, rfl, rfl⟩
    case round =>
      obtain ⟨k, hk, rfl, rfl⟩ := hrel
      by_cases hkn : k < N.length
      · obtain ⟨y, hy⟩ : ∃ y, N[k]? = some y := ⟨_, List.getElem?_eq_getElem hkn⟩
        have hne := tx_ne (Hm.out y (List.mem_of_getElem? hy))
        obtain ⟨g, cg, hvv, hg1, hg2, hcx⟩ := HT.out.own.cells tCells_len hy
        cases hvv
        have m0 := hcx 0 _ rfl
        simp only [Nat.add_zero] at m0
        obtain ⟨y0, y1, y2⟩ := y
        simp at m0
        clear hcx hy
        go_wp2_with fail
        go_roundw
        case rel => exact ⟨k + 1, hkn, by go_num, trivial⟩
        case measure => simp [intOf]; omega
      · have hd : decide ((k : Int) < (N.length : Int)) = false := decide_eq_false (by omega)
        go_wp2
        go_ret
        exact ⟨rfl, rfl⟩
end Go.Proofs.Ytgbcjnejlelndaa
