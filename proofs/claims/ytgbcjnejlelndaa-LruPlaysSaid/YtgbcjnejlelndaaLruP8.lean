/- The reference's cache: Get of a key that isn't there, and without use. -/
import Derived.Test.YtgbcjnejlelndaaLruP7
namespace Go.Proofs.Ytgbcjnejlelndaa
open Go Go.RowKit Go.Maps

theorem rget_no (rb B : Nat) (a : Option Addr) (cap : Nat) (room kept : Int) (N : List T3) (s : ByteArray) (used : Bool) (w : World) (T : RC w B rb a cap room kept N) (hN : N.length ≤ 100000) (hm : ∀ x ∈ N, x.1 ≠ s) :
    Calls Try.prog 22 #[.pointer (some ⟨rb, 0, none⟩), .string s, .bool used] w fun e w' => e = .returned (.tuple #[.int .i64 0, .bool false]) ∧ w' = w := by
  have HT := Lib.hid T
  have Hm := Lib.hid hm
  clear T hm
  go_enter Try.func22, Try.ntmps22
  go_wp2_with fail
  refine (rfind_any rb B a cap room kept N s _ HT.out hN (-1) (.miss Hm.out)).mono ?_
  rintro _ w1 ⟨rfl, rfl⟩
  go_wp2
  exact bodyPost_ret (v := .tuple #[.int .i64 0, .bool false]) (by simp [results, Try.results22, go_sem]) rfl ⟨rfl, rfl⟩

set_option maxHeartbeats 1000000 in
theorem rget_peek (rb B : Nat) (a : Option Addr) (cap : Nat) (room kept : Int) (N : List T3) (s : ByteArray) (i : Nat) (z n : Int) (w : World) (T : RC w B rb a cap room kept N) (hN : N.length ≤ 100000) (hx : N[i]? = some (s, z, n)) (hl : ∀ (i' : Nat) (y : T3), i' < i → N[i']? = some y → y.1 ≠ s) :
    Calls Try.prog 22 #[.pointer (some ⟨rb, 0, none⟩), .string s, .bool false] w fun e w' => e = .returned (.tuple #[.int .i64 n, .bool true]) ∧ Keep NoB w w' := by
  have hi := (List.getElem?_eq_some_iff.1 hx).1
  have HF := Lib.hid (FindV.hit (N := N) (s := s) i (s, z, n) hx rfl hl)
  have HT := Lib.hid T
  obtain ⟨g, cg, hvv, hg1, hg2, hcx⟩ := T.own.cells tCells_len hx
  cases hvv
  have m0 := hcx 0 _ rfl
  have m1 := hcx 1 _ rfl
  have m2 := hcx 2 _ rfl
  simp only [Nat.add_zero] at m0
  have c0 := blk_cell T.blk 0
  have hlt := blk_lt T.blk
  simp at c0 m0 m1 m2
  clear T hcx hx hl
  go_enter Try.func22, Try.ntmps22
  go_wp2_with fail
  refine (rfind_any rb B _ cap room kept N s _ HT.out hN (i : Int) HF.out).mono ?_
  rintro _ w1 ⟨rfl, rfl⟩
  go_wp2
  exact bodyPost_ret (v := .tuple #[.int .i64 n, .bool true]) (by simp [results, Try.results22, go_sem]) rfl ⟨rfl, by (repeat (with_reducible first | exact Keep.refl _ _ | assumption | refine Keep.alloc ?_ _ | refine Keep.drewN ?_ _ | refine Keep.drew ?_ | refine Keep.setCell ?_ (by first | (left; simp; done) | (left; simp; omega) | (right; simp [NoB, OneB, TwoB]; done)) _))⟩
end Go.Proofs.Ytgbcjnejlelndaa
