/- The reference's cache: Drop told whole; Put, refused. -/
import Derived.Test.YtgbcjnejlelndaaLruP5
namespace Go.Proofs.Ytgbcjnejlelndaa
open Go Go.RowKit Go.Maps

/-- A list without a key, and whether it was there. -/
inductive DropV (N : List T3) (s : ByteArray) : List T3 → Bool → Prop
  | hit (i : Nat) (x : T3) (hx : N[i]? = some x) (he : x.1 = s) (hl : ∀ (i' : Nat) (y : T3), i' < i → N[i']? = some y → y.1 ≠ s) : DropV N s (N.take i ++ N.drop (i + 1)) true
  | miss (h : ∀ x ∈ N, x.1 ≠ s) : DropV N s N false
theorem drop_case (s : ByteArray) (N : List T3) : ∃ M b, DropV N s M b := by
  obtain ⟨v, hv⟩ := find_case s N
  cases hv with
  | hit j x hx he hl => exact ⟨_, true, .hit j x hx he hl⟩
  | miss h => exact ⟨_, false, .miss h⟩
theorem rdrop_any (rb B : Nat) (a : Option Addr) (cap : Nat) (room kept : Int) (N : List T3) (s : ByteArray) (w : World) (T : RC w B rb a cap room kept N) (hB : B ≤ w.heap.size) (hN : N.length ≤ 100000) (M : List T3) (b : Bool) (h : DropV N s M b) :
    Calls Try.prog 23 #[.pointer (some ⟨rb, 0, none⟩), .string s] w (CPost rb B room kept (.bool b) M w) := by
  cases h with
  | hit i x hx he hl => exact rdrop_yes rb B a cap room kept N s i x w T hB hN hx he hl _ rfl
  | miss hm =>
    refine (rdrop_no rb B a cap room kept N s w T hN hm).mono ?_
    rintro _ w' ⟨rfl, rfl⟩
    exact ⟨rfl, ⟨a, cap, T⟩, Keep.refl _ _⟩

set_option maxHeartbeats 4000000 in
theorem rput_no (rb B : Nat) (a : Option Addr) (cap : Nat) (room kept : Int) (N : List T3) (s : ByteArray) (z n : Int) (w : World) (T : RC w B rb a cap room kept N) (hB : B ≤ w.heap.size) (hN : N.length ≤ 100000) (h0 : 0 ≤ kept) (hk : kept ≤ room) (hr1 : room ≤ 9223372036854775807) (M : List T3) (b : Bool) (hM : DropV N s M b) (hz : z < 0 ∨ room - kept < z) :
    Calls Try.prog 21 #[.pointer (some ⟨rb, 0, none⟩), .agg #[.string s, .int .i64 z, .int .i64 n]] w (CPost rb B room kept (.tuple #[.slice none 0 0, .bool false]) M w) := by
  have HT := Lib.hid T
  have HM := Lib.hid hM
  have hrb := blk_lt T.blk
  have hw : IntKind.i64.wrap (room - kept) = room - kept := by rw [IntKind.wrap_i64]; omega
  clear T hM
  go_enter Try.func21, Try.ntmps21
  have k0 : Keep NoB w (w.alloc (.cells #[.string s, .int .i64 z, .int .i64 n] 52)) := (Keep.refl NoB w).alloc _
  have b0 := blk_new w (.cells #[.string s, .int .i64 z, .int .i64 n] 52)
  go_wp2_with fail
  refine (rdrop_any rb B a cap room kept N s _ (HT.out.keep0 k0) (Nat.le_trans hB k0.size) hN M b HM.out).mono ?_
  rintro _ w2 ⟨rfl, ⟨ra, rc, R2⟩, k2⟩
  have b2 := blk_keep b0 k2 (fun e => by have e' : w.heap.size = rb := e; omega)
  obtain ⟨xb, hxb⟩ : ∃ q, w.heap.size = q := ⟨_, rfl⟩
  rw [hxb] at b2 ⊢
  have x0 := blk_cell b2 0
  have x1 := blk_cell b2 1
  have x2 := blk_cell b2 2
  have xl := blk_lt b2
  have c1 := blk_cell R2.blk 1
  have c2 := blk_cell R2.blk 2
  have hlt := blk_lt R2.blk
  simp at x0 x1 x2 c1 c2
  have HR2 := Lib.hid R2
  have HK2 := Lib.hid (k0.none.trans k2)
  clear R2 k0 b0 k2 b2
  by_cases hz0 : z < 0
  · have d0 : decide (z < 0) = true := decide_eq_true hz0
    clear hz
    go_wp2_with fail
    go_quiet (fail)
    have kq : Keep NoB w2 (w2.drewN nq) := (Keep.refl NoB w2).drewN nq
    go_wp2
    exact bodyPost_ret (v := .tuple #[.slice none 0 0, .bool false]) (by simp [results, Try.results21, go_sem]) rfl ⟨rfl, ⟨ra, rc, HR2.out.keep0 kq⟩, HK2.out.trans kq.none⟩
  · have d0 : decide (z < 0) = false := decide_eq_false hz0
    have d1 : decide (room - kept < z) = true := decide_eq_true (by omega)
    clear hz
    go_wp2_with fail
    go_quiet (fail)
    have kq : Keep NoB w2 (w2.drewN nq) := (Keep.refl NoB w2).drewN nq
    go_wp2
    exact bodyPost_ret (v := .tuple #[.slice none 0 0, .bool false]) (by simp [results, Try.results21, go_sem]) rfl ⟨rfl, ⟨ra, rc, HR2.out.keep0 kq⟩, HK2.out.trans kq.none⟩
end Go.Proofs.Ytgbcjnejlelndaa
