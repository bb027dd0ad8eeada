/- What Turn of package link comes to. -/
import Derived.Test.YtbaojfjabhgohaaLinkG
namespace Go.Proofs.Ytbaojfjabhgohaa
open Go Go.RowKit Go.Maps

theorem flat_setAt {α : Type} {enc : α → List Value} {size : Nat} (henc : ∀ x, (enc x).length = size) (x y : α) (j : Nat) (u : Value) (hj : j < size) (hy : enc y = (enc x).set j u) : ∀ (N : List α) (i : Nat), N[i]? = some x → (N.set i y).flatMap enc = (N.flatMap enc).set (i * size + j) u
  | [], i, h => by simp at h
  | z :: N, 0, h => by
    simp at h
    subst h
    simp only [List.set_cons_zero, List.flatMap_cons, Nat.zero_mul, Nat.zero_add]
    rw [List.set_append_left _ _ (by rw [henc]; exact hj), hy]
  | z :: N, i + 1, h => by
    have ih := flat_setAt henc x y j u hj hy N i (by simpa using h)
    simp only [List.set_cons_succ, List.flatMap_cons]
    rw [List.set_append_right _ _ (by rw [henc, Nat.succ_mul]; omega), henc, ih]
    congr 2
    rw [Nat.succ_mul]
    omega

/-- A store into a row, at one element. -/
theorem Row.setAt {α : Type} {w : World} {B : Nat} {e : TypeId} {size : Nat} {enc : α → List Value} {g n cap : Nat} {N : List α} (h : Row w B e size enc (.slice (Option.some ⟨g, 0, none⟩) n cap) N) (henc : ∀ x, (enc x).length = size) {i : Nat} {x y : α} (hx : N[i]? = Option.some x) (j : Nat) (u : Value) (hj : j < size) (hy : enc y = (enc x).set j u) :
    Row (w.setCell ⟨g, i * size + j, none⟩ u) B e size enc (.slice (Option.some ⟨g, 0, none⟩) n cap) (N.set i y) := by
  obtain ⟨hn, _⟩ := h.room
  refine ⟨flat_len henc _, Or.inr ?_⟩
  rcases h.2 with ⟨h', _⟩ | ⟨g', cap', cur, h', hb, hg, hnc, hcm, hcs, htake⟩
  · cases h'
  · simp only [Value.slice.injEq, Option.some.injEq, Addr.mk.injEq, and_true, true_and] at h'
    obtain ⟨rfl, _, rfl⟩ := h'
    refine ⟨g, cap, _, by rw [List.length_set, hn], hb, blk_setCell hg u, by rw [List.length_set]; exact hnc, hcm, by simpa using hcs, ?_⟩
    rw [List.length_set, Array.toList_setIfInBounds, List.take_set, htake, flat_setAt henc x y j u hj hy N i hx]

theorem xor8 (a b : UInt8) : bits .xor .u8 (a.toNat : Int) (b.toNat : Int) = ((a ^^^ b).toNat : Int) := by
  have key : (BitVec.ofInt 8 (a.toNat : Int) ^^^ BitVec.ofInt 8 (b.toNat : Int)).toNat = (a ^^^ b).toNat := by
    rw [BitVec.toNat_xor, UInt8.toNat_xor]
    congr 1 <;> simp [BitVec.toNat_ofInt]
  show IntKind.u8.wrap ((BitVec.ofInt 8 (a.toNat : Int) ^^^ BitVec.ofInt 8 (b.toNat : Int)).toNat : Nat) = _
  rw [key]
  have := (a ^^^ b).toNat_lt
  exact IntWalk.u8_in _ (by omega)


set_option maxHeartbeats 1000000 in
theorem turn_out (B nb : Nat) (a : Option Addr) (cap : Nat) (room sent : Int) (N : List HE) (i at_ : Int) (by_ : UInt8) (w : World) (T : Net w B nb a cap room sent N) (h : i < 0 ∨ (N.length : Int) ≤ i) :
    Calls Try.prog 23 #[.pointer (some ⟨nb, 0, none⟩), .int .i64 i, .int .i64 at_, .int .u8 by_.toNat] w fun e w' => e = .returned (.bool false) ∧ Keep NoB w w' := by
  have c0 := blk_cell T.blk 0
  have c1 := blk_cell T.blk 1
  have c2 := blk_cell T.blk 2
  have hlt := blk_lt T.blk
  have HT := Lib.hid T
  have Hblk := Lib.hid T.blk
  clear T
  simp at c0 c1 c2
  by_cases h0 : i < 0
  · have d1 : decide (i < 0) = true := by simpa using h0
    clear h
    go_enter Try.func23, Try.ntmps23
    go_wp2
    go_ret
    exact ⟨rfl, Keep.refl _ _⟩
  · have d1 : decide (i < 0) = false := by simpa using h0
    have d2 : decide ((N.length : Int) ≤ i) = true := by simp; omega
    clear h
    go_enter Try.func23, Try.ntmps23
    go_wp2_with (go_at_call 12; refine (len_any B nb a cap room sent N _ HT.out).mono ?_; rintro _ _ ⟨rfl, rfl⟩)
    go_ret
    exact ⟨rfl, Keep.refl _ _⟩


set_option maxHeartbeats 1000000 in
theorem turn_no (B nb : Nat) (a : Option Addr) (cap : Nat) (room sent : Int) (N : List HE) (i : Nat) (at_ : Int) (by_ : UInt8) (x : HE) (w : World) (T : Net w B nb a cap room sent N) (hx : N[i]? = some x) (h : at_ < 0 ∨ (x.l.length : Int) ≤ at_ ∨ x.tn = true) :
    Calls Try.prog 23 #[.pointer (some ⟨nb, 0, none⟩), .int .i64 i, .int .i64 at_, .int .u8 by_.toNat] w fun e w' => e = .returned (.bool false) ∧ Keep NoB w w' := by
  have hi := (List.getElem?_eq_some_iff.1 hx).1
  obtain ⟨g, c', hv, hg1, hg2, hcx⟩ := T.row.cells hCells_len hx
  have hroom := T.row.room.2
  unfold maxLen at hroom
  obtain ⟨hroom1, hroom2⟩ := hroom
  cases hv
  have m2 := hcx 2 _ rfl
  have m3 := hcx 3 _ rfl
  have hfr := T.row.free (j := i * 4 + 3) (g := g) rfl
  have hrow := (T.each x (List.mem_of_getElem? hx)).1
  have hll := (T.each x (List.mem_of_getElem? hx)).2
  have HX := Lib.hid hx
  have d1 : decide ((i : Int) < 0) = false := by simp
  have d2 : decide (N.length ≤ i) = false := by simp; omega
  clear hcx hx
  have c0 := blk_cell T.blk 0
  have c1 := blk_cell T.blk 1
  have c2 := blk_cell T.blk 2
  have hlt := blk_lt T.blk
  have HT := Lib.hid T
  have Hblk := Lib.hid T.blk
  clear T
  simp at c0 c1 c2
  obtain ⟨xf, xt, xa, xc, xn, xl⟩ := x
  simp only [HE.v] at m2 m3 h hll
  by_cases h0 : at_ < 0
  · have d3 : decide (at_ < 0) = true := by simpa using h0
    clear h
    go_enter Try.func23, Try.ntmps23
    go_wp2_with (go_at_call 12; refine (len_any B nb _ cap room sent N _ HT.out).mono ?_; rintro _ _ ⟨rfl, rfl⟩)
    go_ret
    exact ⟨rfl, Keep.refl _ _⟩
  · have d3 : decide (at_ < 0) = false := by simpa using h0
    by_cases h1 : (xl.length : Int) ≤ at_
    · have d4 : decide ((xl.length : Int) ≤ at_) = true := by simpa using h1
      clear h
      go_enter Try.func23, Try.ntmps23
      go_wp2_with (go_at_call 12; refine (len_any B nb _ cap room sent N _ HT.out).mono ?_; rintro _ _ ⟨rfl, rfl⟩)
      go_ret
      exact ⟨rfl, Keep.refl _ _⟩
    · have d4 : decide ((xl.length : Int) ≤ at_) = false := by simpa using h1
      have hxn : xn = true := by
        rcases h with h | h | h
        · exact absurd h h0
        · exact absurd h h1
        · exact h
      subst hxn
      clear h
      go_enter Try.func23, Try.ntmps23
      go_wp2_with (go_at_call 12; refine (len_any B nb _ cap room sent N _ HT.out).mono ?_; rintro _ _ ⟨rfl, rfl⟩)
      go_ret
      exact ⟨rfl, Keep.refl _ _⟩

def HE.turned (x : HE) (at_ : Nat) (b : UInt8) : HE := { x with tn := true, l := x.l.set at_ b }
theorem HE.turned_v (x : HE) (at_ : Nat) (b : UInt8) : (x.turned at_ b).v = x.v := by simp [HE.turned, HE.v]

theorem set_v (N : List HE) (i : Nat) (x : HE) (at_ : Nat) (b : UInt8) (hx : N[i]? = some x) : (N.set i (x.turned at_ b)).map HE.v = N.map HE.v := by
  rw [List.map_set, HE.turned_v]
  apply List.ext_getElem?
  intro k
  by_cases h : k = i
  · subst h
    rw [List.getElem?_set_self (by simp; exact (List.getElem?_eq_some_iff.1 hx).1), List.getElem?_map, hx]
    rfl
  · rw [List.getElem?_set_ne (Ne.symm h)]

theorem apart_set {N : List HE} (h : N.Pairwise (fun x y => ∀ g, x.v.ownBlock = some g → y.v.ownBlock ≠ some g)) {i : Nat} {x : HE} (at_ : Nat) (b : UInt8) (hx : N[i]? = some x) : (N.set i (x.turned at_ b)).Pairwise (fun x y => ∀ g, x.v.ownBlock = some g → y.v.ownBlock ≠ some g) := by
  have h1 : (N.map HE.v).Pairwise (fun x y => ∀ g, Value.ownBlock x = some g → Value.ownBlock y ≠ some g) := List.pairwise_map.2 h
  rw [← set_v N i x at_ b hx] at h1
  exact List.pairwise_map.1 h1

theorem apart_ne {N : List HE} (h : N.Pairwise (fun x y => ∀ g, x.v.ownBlock = some g → y.v.ownBlock ≠ some g)) {i k : Nat} {x z : HE} (hx : N[i]? = some x) (hz : N[k]? = some z) (hne : k ≠ i) {g : Nat} (hg : x.v.ownBlock = some g) : z.v.ownBlock ≠ some g := by
  obtain ⟨hi, rfl⟩ := List.getElem?_eq_some_iff.1 hx
  obtain ⟨hk, rfl⟩ := List.getElem?_eq_some_iff.1 hz
  rw [List.pairwise_iff_getElem] at h
  rcases Nat.lt_or_gt_of_ne hne with hl | hl
  · intro e
    exact h k i hk hi hl g e hg
  · exact h i k hi hk hl g hg

def TurnPost (B nb : Nat) (a : Option Addr) (cap : Nat) (room sent : Int) (N' : List HE) (S : Nat → Prop) (w : World) (e : Ending) (w' : World) : Prop :=
  e = .returned (.bool true) ∧ Net w' B nb a cap room sent N' ∧ Keep S w w'

set_option maxHeartbeats 1000000 in
theorem turn_ok (B nb : Nat) (a : Option Addr) (cap : Nat) (room sent : Int) (N : List HE) (i at_ : Nat) (by_ b : UInt8) (x : HE) (w : World) (T : Net w B nb a cap room sent N) (hx : N[i]? = some x) (hb : x.l[at_]? = some b) (hn : x.tn = false) :
    Calls Try.prog 23 #[.pointer (some ⟨nb, 0, none⟩), .int .i64 i, .int .i64 at_, .int .u8 by_.toNat] w
      (TurnPost B nb a cap room sent (N.set i (x.turned at_ (b ^^^ by_))) (fun k => (Value.slice a N.length cap).ownBlock = some k ∨ x.v.ownBlock = some k) w) := by
  have hal := (List.getElem?_eq_some_iff.1 hb).1
  have hi := (List.getElem?_eq_some_iff.1 hx).1
  obtain ⟨g, c', hv, hg1, hg2, hcx⟩ := T.row.cells hCells_len hx
  have hroom := T.row.room.2
  unfold maxLen at hroom
  obtain ⟨hroom1, hroom2⟩ := hroom
  cases hv
  have m2 := hcx 2 _ rfl
  have m3 := hcx 3 _ rfl
  have hfr := T.row.free (j := i * 4 + 3) (g := g) rfl
  have hrow := (T.each x (List.mem_of_getElem? hx)).1
  have hll := (T.each x (List.mem_of_getElem? hx)).2
  have HX := Lib.hid hx
  have d1 : decide ((i : Int) < 0) = false := by simp
  have d2 : decide (N.length ≤ i) = false := by simp; omega
  clear hcx hx
  have hrr := hrow.room.2
  unfold maxLen at hrr
  obtain ⟨hrr1, hrr2⟩ := hrr
  obtain ⟨gb, cb, hvb, hgb1, hgb2, hcb⟩ := hrow.cells cU_len hb
  have mb := hcb 0 _ rfl
  have hfb := hrow.free (j := at_) (g := gb) (by rw [hvb]; rfl)
  have hngb := hrow.ne T.blk (by decide) gb (by rw [hvb]; rfl)
  have hng := T.row.ne T.blk (by decide) g rfl
  have hgg : gb ≠ g := by intro e; have := hrow.ne_own T.row (by decide) gb (by rw [hvb]; rfl); rw [e] at this; exact this rfl
  have c0 := blk_cell T.blk 0
  have c1 := blk_cell T.blk 1
  have c2 := blk_cell T.blk 2
  have hlt := blk_lt T.blk
  have HT := Lib.hid T
  have Hblk := Lib.hid T.blk
  clear T
  simp at c0 c1 c2
  obtain ⟨xf, xt, xa, xc, xn, xl⟩ := x
  simp only [HE.v] at m2 m3 hll hvb hal hn
  simp only [Value.slice.injEq] at hvb
  obtain ⟨rfl, _, rfl⟩ := hvb
  subst hn
  simp only [Nat.mul_one, Nat.add_zero] at mb
  have d3 : decide ((at_ : Int) < 0) = false := by simp
  have d4 : decide (xl.length ≤ at_) = false := by simp; omega
  have hxor := xor8 b by_
  have Hrow := Lib.hid hrow
  have HB := Lib.hid hb
  clear hcb hb hrow
  go_enter Try.func23, Try.ntmps23
  go_wp2_with (go_at_call 12; refine (len_any B nb _ cap room sent N _ HT.out).mono ?_; rintro _ w9 ⟨rfl, rfl⟩)
  go_ret
  rw [← UInt8.toNat_xor]
  have K1 : Keep (OneB gb) w9 (w9.setCell ⟨gb, at_, none⟩ (.int .u8 (b ^^^ by_).toNat)) := Keep.setCell (S := OneB gb) (p := ⟨gb, at_, none⟩) (Keep.refl _ w9) (Or.inr rfl) _
  have K2 : Keep (OneB g) (w9.setCell ⟨gb, at_, none⟩ (.int .u8 (b ^^^ by_).toNat)) ((w9.setCell ⟨gb, at_, none⟩ (.int .u8 (b ^^^ by_).toNat)).setCell ⟨g, i * 4 + 3, none⟩ (.bool true)) := Keep.setCell (S := OneB g) (p := ⟨g, i * 4 + 3, none⟩) (Keep.refl _ _) (Or.inr rfl) _
  have R1 := HT.out.row.keep K1 (fun j hj e => by have h1 : g = j := Option.some.inj hj; have h2 : j = gb := e; omega)
  have R2 := R1.setAt hCells_len HX.out (y := HE.turned ⟨xf, xt, some ⟨gb, 0, none⟩, xc, false, xl⟩ at_ (b ^^^ by_)) 3 (.bool true) (by decide) (by simp [hCells, HE.turned, HE.v])
  have r1 := Hrow.out.setAt cU_len (y := b ^^^ by_) HB.out 0 (.int .u8 (b ^^^ by_).toNat) (by decide) rfl
  simp only [Nat.mul_one, Nat.add_zero] at r1
  have r2 := r1.keep K2 (fun j hj e => by have h1 : gb = j := Option.some.inj hj; have h2 : j = g := e; omega)
  refine ⟨rfl, ⟨?_, ?_, ?_, apart_set HT.out.apart at_ (b ^^^ by_) HX.out⟩, ?_⟩
  · rw [List.length_set]
    exact blk_keep (blk_keep Hblk.out K1 (fun e => hngb e.symm)) K2 (fun e => hng e.symm)
  · rw [List.length_set]
    exact R2
  · intro z hz
    obtain ⟨k, hk⟩ := List.mem_iff_getElem?.1 hz
    by_cases hki : k = i
    · subst hki
      rw [List.getElem?_set_self hi] at hk
      cases hk
      refine ⟨?_, by simp [HE.turned]; omega⟩
      have : (HE.turned ⟨xf, xt, some ⟨gb, 0, none⟩, xc, false, xl⟩ at_ (b ^^^ by_)).v = .slice (some ⟨gb, 0, none⟩) xl.length xc := HE.turned_v _ _ _
      rw [this]
      exact r2
    · rw [List.getElem?_set_ne (Ne.symm hki)] at hk
      have hzz := HT.out.each z (List.mem_of_getElem? hk)
      refine ⟨(hzz.1.keep K1 (fun j hj e => ?_)).keep K2 (fun j hj e => ?_), hzz.2⟩
      · have h2 : j = gb := e
        subst h2
        exact apart_ne HT.out.apart HX.out hk hki rfl hj
      · have h2 : j = g := e
        subst h2
        exact hzz.1.ne_own HT.out.row (by decide) _ hj rfl
  · refine (K1.mono (fun k e => Or.inr (by have h2 : k = gb := e; subst h2; rfl))).trans (K2.mono (fun k e => Or.inl (by have h2 : k = g := e; subst h2; rfl)))
end Go.Proofs.Ytbaojfjabhgohaa
