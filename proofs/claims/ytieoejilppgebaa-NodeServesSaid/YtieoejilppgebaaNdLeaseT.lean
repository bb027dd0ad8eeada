/- What Tick and Again of package lease come to. -/
import Derived.Test.YtieoejilppgebaaNdLeaseV
namespace Go.Proofs.Ytieoejilppgebaa.Ls
open Go Go.RowKit Go.Maps
set_option maxRecDepth 100000

abbrev LL := List (Lit × (Int × Int))
def tickP (p : Lit × (Int × Int)) : Option (Lit × (Int × Int)) := if p.2.2 - 1 < 1 then none else some (p.1, (p.2.1, p.2.2 - 1))
/-- What a tick leaves. -/
def tickL (L : LL) : LL := L.filterMap tickP
/-- .. while entries are still to come. -/
def tickT (L : LL) (left : Lit → Bool) : LL := L.filterMap (fun p => if left p.1 then some p else tickP p)

theorem fm_congr {α β : Type} {f g : α → Option β} : ∀ {l : List α}, (∀ p ∈ l, f p = g p) → l.filterMap f = l.filterMap g
  | [], _ => rfl
  | a :: l, h => by
    rw [List.filterMap_cons, List.filterMap_cons, h a (by simp), fm_congr (fun p hp => h p (by simp [hp]))]

theorem tickP_key {p q : Lit × (Int × Int)} (h : tickP p = some q) : q.1 = p.1 := by
  unfold tickP at h
  split at h
  · cases h
  · cases h; rfl

theorem tickT_start (L : LL) (hk : ∀ p ∈ L, WideAt.IsKeyLit p.1) : tickT L (fun kl => (lget L kl).isSome) = L := by
  unfold tickT
  have : ∀ p ∈ L, (if (lget L p.1).isSome = true then some p else tickP p) = some p := fun p hp => by
    have : (lget L p.1).isSome = true := by
      unfold lget
      rw [Option.isSome_map, List.find?_isSome]
      exact ⟨p, hp, WideAt.sameKey_self (hk p hp)⟩
    rw [if_pos this]
  rw [fm_congr (g := some) this, List.filterMap_some]

theorem tickT_end (L : LL) (left : Lit → Bool) (h : ∀ k, left k = false) : tickT L left = tickL L := by
  unfold tickT tickL
  congr 1
  funext p
  simp [h]

theorem tickT_at (L : LL) (left : Lit → Bool) (kl : Lit) (x : Int × Int) (hl : left kl = true) (hg : lget (tickT L left) kl = some x) : (kl, x) ∈ L := by
  have hm := mem_of_lget hg
  obtain ⟨p, hp, he⟩ := List.mem_filterMap.1 hm
  split at he
  · cases he; exact hp
  · rename_i h
    have := tickP_key he
    simp only at this
    rw [← this, hl] at h
    exact absurd rfl h

theorem tick_one (L : LL) (ha : Apart L) (hk : ∀ p ∈ L, WideAt.IsKeyLit p.1) (kl : Lit) (x : Int × Int) (hm : (kl, x) ∈ L) (p : Lit × (Int × Int)) (hp : p ∈ L) (hs : p.1.sameKey kl = true) : p = (kl, x) := by
  have e := WideAt.sameKey_eq hs
  have h1 := lget_of_mem ha (hk p hp) (show (p.1, p.2) ∈ L from hp)
  have h2 := lget_of_mem ha (e ▸ hk p hp) hm
  rw [e] at h1
  exact Prod.ext e (Option.some.inj (h1.symm.trans h2))

theorem tickT_gone (L : LL) (left : Lit → Bool) (ha : Apart L) (hk : ∀ p ∈ L, WideAt.IsKeyLit p.1) (kl : Lit) (x : Int × Int) (hl : left kl = true) (hg : lget (tickT L left) kl = some x) (hx : x.2 - 1 < 1) :
    ldel (tickT L left) kl = tickT L (fun z => left z && !z.sameKey kl) := by
  have hm := tickT_at L left kl x hl hg
  unfold ldel tickT
  rw [List.filter_filterMap]
  apply fm_congr
  intro p hp
  cases hs : p.1.sameKey kl with
  | true =>
    have e := tick_one L ha hk kl x hm p hp hs
    subst e
    have hs' : kl.sameKey kl = true := hs
    simp [hl, hs', tickP, hx]
  | false =>
    have e1 : (left p.1 && !p.1.sameKey kl) = left p.1 := by rw [hs]; simp
    show _ = (if (left p.1 && !p.1.sameKey kl) = true then some p else tickP p)
    rw [e1]
    by_cases hlp : left p.1 = true
    · rw [if_pos hlp]
      simp [Option.filter, hs]
    · rw [if_neg hlp]
      cases ht : tickP p with
      | none => rfl
      | some q =>
        have := tickP_key ht
        simp [Option.filter, this, hs]

theorem tickT_stays (L : LL) (left : Lit → Bool) (ha : Apart L) (hk : ∀ p ∈ L, WideAt.IsKeyLit p.1) (kl : Lit) (x : Int × Int) (hl : left kl = true) (hg : lget (tickT L left) kl = some x) (hx : ¬ x.2 - 1 < 1) :
    lset (tickT L left) kl (x.1, x.2 - 1) = tickT L (fun z => left z && !z.sameKey kl) := by
  have hm := tickT_at L left kl x hl hg
  unfold lset tickT
  rw [List.map_filterMap]
  apply fm_congr
  intro p hp
  cases hs : p.1.sameKey kl with
  | true =>
    have e := tick_one L ha hk kl x hm p hp hs
    subst e
    have hs' : kl.sameKey kl = true := hs
    simp [hl, hs', tickP, hx]
  | false =>
    have e1 : (left p.1 && !p.1.sameKey kl) = left p.1 := by rw [hs]; simp
    show _ = (if (left p.1 && !p.1.sameKey kl) = true then some p else tickP p)
    rw [e1]
    by_cases hlp : left p.1 = true
    · rw [if_pos hlp]
      simp [hs]
    · rw [if_neg hlp]
      cases ht : tickP p with
      | none => rfl
      | some q =>
        have := tickP_key ht
        simp [this, hs]


set_option maxHeartbeats 400000 in
theorem tick_any (tb mb : Nat) (limit ticks last : Int) (L : LL) (w : World) (T : Tab w tb mb limit ticks last L) (hn : L.length < maxLen) (hb : ∀ p ∈ L, 1 ≤ p.2.2 ∧ p.2.2 ≤ 9223372036854775807) :
    Calls Try.prog 48 #[.pointer (some ⟨tb, 0, none⟩)] w (TabPost tb mb limit ticks last (tickL L) (.tuple #[]) w) := by
  have hri := T.map.rising law9
  have hap := T.map.apart law9
  have hkeys := Lib.hid hri.2
  have Hb := Lib.hid hb
  clear hri hb
  have c0 := blk_cell T.blk 0
  have c1 := blk_cell T.blk 1
  have c2 := blk_cell T.blk 2
  have c3 := blk_cell T.blk 3
  have f3 := blk_free T.blk 3
  have hlt := blk_lt T.blk
  have hm := T.map
  have hne := T.ne
  have hblk := Lib.hid T.blk
  clear T
  simp at c0 c1 c2 c3
  go_enter Try.func48, Try.ntmps48
  go_wp2_with (first
    | (at_range; refine wpList_mrange _ rfl _ 105 rfl 9 114 law9 Try.underlying105 encO mb L rfl hm ?_; intro w0 hrg0 hk0 hs0))
  go_frame
  have hb0 := blk_keep hblk.out hk0 (fun h => h)
  have hkk0 : Keep (TwoB tb mb) w w0 := hk0.none
  have hL0 := tickT_start L hkeys.out
  have Hg0 := Lib.hid (show RangeAt Try.prog 9 encO w0 mb w.heap.size (tickT L (fun kl => (lget L kl).isSome)) (fun kl => (lget L kl).isSome) L.length by rw [hL0]; exact hrg0)
  have Hb0 := Lib.hid hb0
  have hmw : mb < w.heap.size := hm.lt
  clear hL0 hrg0 hb0 c0 c1 c2 c3 f3 hs0
  go_loopw [2] (fun _ wr => ∃ left cnt, RangeAt Try.prog 9 encO wr mb w.heap.size (tickT L left) left cnt ∧ wr.heap[tb]? = some (.cells #[.int .i64 limit, .int .i64 ticks, .map (some mb), .int .i64 last] 112) ∧ Keep (TwoB tb mb) w wr) (fun _ wr => wr.rangeLeft mb w.heap.size)
  case atStart => exact ⟨_, _, Hg0.out, Hb0.out, hkk0⟩
  case round =>
    obtain ⟨left, cnt, hrg, hbl, hk⟩ := hrel
    have c2 := blk_cell hbl 2
    have hlr := blk_lt hbl
    have hwr : w.heap.size < wr.heap.size := hrg.lt
    have Hbl := Lib.hid hbl
    clear hbl
    simp at c2
    go_wp2_with (first
      | (at_next; refine wpList_mnext _ rfl _ rfl 9 law9 encO Value.string inv9 mb w.heap.size _ left cnt rfl hrg ?_ ?_))
    · intro _ hl0
      have hm1 := hrg.map
      rw [tickT_end L left hl0] at hm1
      go_wp2
      go_end0
      exact ⟨rfl, ⟨Hbl.out, hm1⟩, hk⟩
    · intro s x1 x2 kl w1 cnt1 hkey hl hx hrg1 hlt1 hk1 hs1 hen
      simp only [encO] at hen ⊢
      have hr1 : w.heap.size ≠ tb := by omega
      have d2 := (hk1.cell (p := ⟨tb, 2, none⟩) hlr (by simpa [OneB] using Ne.symm hr1)).trans c2
      have hbl1 := blk_keep Hbl.out hk1 (by simpa [OneB] using Ne.symm hr1)
      have hl1 := blk_lt hbl1
      have hm1 : mb < w1.heap.size := hrg1.map.lt
      have hw1 : w.heap.size < w1.heap.size := hrg1.lt
      have Hbl1 := Lib.hid hbl1
      have hkk : Keep (TwoB tb mb) w w1 := hk.trans' hk1 (fun j hj e => by have : j = w.heap.size := e; omega)
      have hin := Hb.out _ (tickT_at L left kl _ hl hx)
      simp only at hin hen
      obtain ⟨hin1, hin2⟩ := hin
      have hlen : (tickT L left).length ≤ L.length := List.length_filterMap_le _ _
      clear hbl1
      by_cases hxi : x2 - 1 < 1
      · have hg := Lib.hid (tickT_gone L left hap hkeys.out kl (x1, x2) hl hx hxi)
        go_wp2_with (first
          | (at_delete; refine wpList_mdrop_range _ rfl _ _ 105 9 rfl 114 law9 Try.underlying105 encO mb w.heap.size _ _ _ rfl (RangeAt.keep (S := NoB) hrg1 (by (repeat (with_reducible first | exact Keep.refl _ _ | assumption | refine Keep.alloc ?_ _ | refine Keep.drewN ?_ _ | refine Keep.drew ?_ | refine Keep.setCell ?_ (by first | (left; simp; done) | (left; simp; omega) | (right; simp [NoB, OneB, TwoB]; done)) _))) (fun h => h) (fun h => h)) _ _ rfl hkey ?_; intro w2 cnt2 hrg2 hle2 hturn; go_frame))
        rw [Maps.strike_twice, hg.out] at hrg2
        go_roundw
        case rel => exact ⟨_, cnt2, hrg2, (hturn.grown.block tb (by simp; omega) (by simpa using hne)).trans (blk_alloc Hbl1.out), (hkk.alloc _).turned hturn (Or.inr (Or.inr rfl))⟩
        case measure => rw [hrg2.left_eq, hrg.left_eq]; omega
      · have hg := Lib.hid (tickT_stays L left hap hkeys.out kl (x1, x2) hl hx hxi)
        go_wp2_with fail
        refine wp_region_tail 6 (by kernel_rfl) (by kernel_rfl) ?_
        simp only [List.take_succ_cons, List.take_zero, List.drop_succ_cons, List.drop_zero]
        repeat still_step
        refine wpStill_nil ?_
        refine wpList_mstore_range _ rfl _ _ _ 105 rfl 9 114 law9 Try.underlying105 encO mb w.heap.size _ _ cnt1 rfl (RangeAt.keep (S := NoB) hrg1 (by (repeat (with_reducible first | exact Keep.refl _ _ | assumption | refine Keep.alloc ?_ _ | refine Keep.drewN ?_ _ | refine Keep.drew ?_ | refine Keep.setCell ?_ (by first | (left; simp; done) | (left; simp; omega) | (right; simp [NoB, OneB, TwoB]; done)) _))) (fun h => h) (fun h => h)) (by omega) _ _ (x1, x2) (x1, x2 - 1) rfl rfl hkey hx ?_
        intro w2 hrg2 hturn
        rw [hg.out] at hrg2
        try go_frame
        go_wp2_with fail
        go_roundw
        case rel => exact ⟨_, cnt1, hrg2, (hturn.grown.block tb (by simp; omega) (by simpa using hne)).trans (blk_drew (blk_alloc Hbl1.out)), ((hkk.alloc _).drew).turned hturn (Or.inr (Or.inr rfl))⟩
        case measure => rw [hrg2.left_eq, hrg.left_eq]; exact hlt1
end Go.Proofs.Ytieoejilppgebaa.Ls
