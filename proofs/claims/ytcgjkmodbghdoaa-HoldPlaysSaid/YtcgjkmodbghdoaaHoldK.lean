/- What Keys of package holdoff comes to. -/
import Derived.Test.YtcgjkmodbghdoaaHoldA
import Derived.Test.YtcgjkmodbghdoaaLibKeyS
import Derived.Test.YtcgjkmodbghdoaaShelf
namespace Go.Proofs.Ytcgjkmodbghdoaa
open Go Go.RowKit Go.Maps Go.Sort

theorem info9' : (Try.prog.info? 9).map (fun i => (i.zero, i.size, i.bytes)) = some (some (.string ⟨#[]⟩), 1, 16) := by kernel_rfl

def KeysPost (M : List ByteArray) (w : World) (e : Ending) (w' : World) : Prop :=
  ∃ a c, e = .returned (.slice a M.length c) ∧ Own w' w.heap.size 9 1 cS (.slice a M.length c) M ∧ Keep NoB w w'

/-- The sort, over a slice of the call's own. -/
theorem sort_any (w : World) (B : Nat) (a : Option Addr) (c : Nat) (N M : List ByteArray) (O : Own w B 9 1 cS (.slice a N.length c) N) (hN : N.length ≤ 1000000) (hp : N.Perm M) (hr : M.Pairwise (fun x y => bs x < bs y)) :
    Calls Try.prog 21 #[.slice a N.length c] w fun e w' => e = .returned (.tuple #[]) ∧ Own w' B 9 1 cS (.slice a M.length c) M ∧ Keep (fun g => (Value.slice a N.length c).ownBlock = some g) w w' := by
  have hMl : N.length = M.length := hp.length_eq
  by_cases h0 : N = []
  · subst h0
    have hM : M = [] := by simpa using hp
    subst hM
    have hcon := Any.slices_Sort_string_none Try.laysSort a c w
    change Calls Try.prog 21 _ _ _ at hcon
    refine hcon.mono ?_
    rintro _ _ ⟨rfl, rfl⟩
    exact ⟨rfl, O, Keep.refl _ _⟩
  · obtain ⟨g, rfl, hg1, hg2⟩ := O.some h0
    have hcon := Any.slices_Sort_string Try.laysSort g 0 c (N.map bs) w O.holdsS hg2 (by simp; omega)
    rw [sortS_eq hp hr] at hcon
    change Calls Try.prog 21 _ _ _ at hcon
    rw [List.length_map] at hcon
    refine hcon.mono ?_
    rintro _ _ ⟨rfl, n, os, rfl⟩
    obtain ⟨O', K'⟩ := O.sortedS hMl.symm n os
    rw [hMl] at O'
    exact ⟨rfl, O', K'.mono (fun i h => by have : i = g := h; rw [this]; rfl)⟩


set_option maxHeartbeats 1000000 in
theorem keys_any (tb mb : Nat) (limit floor : Int) (L : List (Lit × Int)) (w : World) (T : Tab w tb mb limit floor L) (hn : L.length ≤ 100000) (M : List ByteArray) (hM : keysOf L = M) :
    Calls Try.prog 16 #[.pointer (some ⟨tb, 0, none⟩)] w (KeysPost M w) := by
  have hri := (T.map.rising law9).1
  have hap := T.map.apart law9
  have hks := keysS Try.underlying9 T.map
  have Hri := Lib.hid hri
  have Hap := Lib.hid hap
  have Hks := Lib.hid hks
  have HM := Lib.hid hM
  clear hri hap hks hM
  have c0 := blk_cell T.blk 0
  have c1 := blk_cell T.blk 1
  have c2 := blk_cell T.blk 2
  have hlt := blk_lt T.blk
  have hm := T.map
  clear T
  simp at c0 c1 c2
  go_enter Try.func16, Try.ntmps16
  go_wp2_with (first
    | (at_range; refine wpList_mrange _ rfl _ 46 rfl 9 3 law9 Try.underlying46 encI mb L rfl hm ?_; intro w0 hrg0 hk0 hs0))
  go_frame
  have Hg0 := Lib.hid hrg0
  have HS := Lib.hid (seenK_start L)
  clear hrg0 hs0 c0 c1 c2
  go_loopw [3] (fun o wr => ∃ (left : Lit → Bool) (cnt : Nat) (N : List ByteArray) (a : Option Addr) (c : Nat), RangeAt Try.prog 9 encI wr mb w.heap.size L left cnt ∧ o = .slice a N.length c ∧ Own wr (w.heap.size + 1) 9 1 cS (.slice a N.length c) N ∧ N.length + cnt ≤ L.length ∧ SeenK N L left ∧ Keep NoB w wr) (fun _ wr => wr.rangeLeft mb w.heap.size)
  case atStart => exact ⟨_, _, [], none, 0, Hg0.out, rfl, ⟨by simp, Or.inl ⟨rfl, rfl⟩⟩, by simp, HS.out, hk0⟩
  case round =>
    obtain ⟨left, cnt, N, a, c, hrg, rfl, O, hNc, hSN, hk⟩ := hrel
    have HSN := Lib.hid hSN
    clear hSN
    go_wp2_with (first
      | (at_next; refine wpList_mnext _ rfl _ rfl 9 law9 encI Value.string inv9 mb w.heap.size _ left cnt rfl hrg ?_ ?_))
    · intro _ hl0
      have hpm := seenK_end HSN.out hl0 Hks.out Hap.out Hri.out
      rw [HM.out] at hpm
      have hrM : M.Pairwise (fun x y => bs x < bs y) := by rw [← HM.out]; exact keysOf_rising Hks.out Hri.out
      have Hpm := Lib.hid hpm
      have HrM := Lib.hid hrM
      clear hl0 hpm hrM
      go_wp2_with fail
      refine (sort_any _ _ a c N M O (by omega) Hpm.out HrM.out).mono ?_
      rintro _ w5 ⟨rfl, O5, k5⟩
      have hNM : N.length = M.length := Hpm.out.length_eq
      have HNM := Lib.hid hNM
      have K5 : Keep NoB w w5 := hk.trans' k5 (fun i hi e => by have := O.fresh i e; omega)
      clear hNM k5
      go_wp2_with fail
      go_ret
      exact ⟨a, c, by rw [HNM.out]; rfl, O5.mono (Nat.le_succ _), K5⟩
    · intro s x kl w1 cnt1 hkey hl hx hrg1 hlt1 hk1 hs1 hen
      obtain ⟨n, e1, e2, _⟩ := keyOf_string_inv' Try.underlying9 hkey
      cases e1
      subst e2
      have hSN' := seenK_step HSN.out hl hx
      have HSN' := Lib.hid hSN'
      have K1 : Keep NoB w w1 := hk.trans' hk1 (fun j hj e => by have : j = w.heap.size := e; omega)
      have O1 := O.keep hk1 (fun g hg e => by have h1 := O.fresh g hg; have h2 : g = w.heap.size := e; omega)
      have hrl := hrg1.lt
      obtain ⟨N', hN'⟩ : ∃ l, N ++ [s] = l := ⟨_, rfl⟩
      have HN' := Lib.hid hN'
      have hN'l : N'.length = N.length + 1 := by rw [← hN']; simp
      have HN'l := Lib.hid hN'l
      have hlN : N.length ≤ 100000 := by omega
      have s1 := K1.size
      clear hN' hN'l hSN' hl hx hk1 hs1
      go_wp2_with (first
        | (at_builtin
           refine wpList_append_one rfl (.tmp 16) (.tmp 18) 38 rfl Try.underlying38 info9' (by kernel_rfl) (by decide) (by decide) rfl (O1.alloc _) cS_len s rfl (c := #[.string s]) (t' := 9) (f := (0, 0)) (blk_new w1 _) rfl (cS_one _) (by omega) (by simp; omega) HN'.out ?_
           intro a4 c4 w4 O4 k4
           have K2 : Keep NoB w1 (w1.alloc (.cells #[.string s] 9)) := (Keep.refl NoB w1).alloc _
           have hrg4 := (hrg1.keep K2 (fun h => h) (fun h => h)).keep k4 (fun e => O1.ne_map hrg1.map mb e rfl) (fun e => by have := O1.fresh _ e; omega)
           have K4 : Keep NoB w w4 := (K1.trans K2).trans' k4 (fun i hi e => by have := O1.fresh i e; omega)
           clear k4 K2))
      go_roundw
      case rel => exact ⟨_, cnt1, N', a4, c4, hrg4, rfl, O4, by have := HN'l.out; omega, by rw [← HN'.out]; exact HSN'.out, K4⟩
      case measure => rw [hrg4.left_eq, hrg.left_eq]; exact hlt1
end Go.Proofs.Ytcgjkmodbghdoaa
