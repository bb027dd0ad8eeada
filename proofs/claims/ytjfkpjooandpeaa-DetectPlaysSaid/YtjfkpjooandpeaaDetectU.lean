/- Live and Tick of package detect. -/
import Derived.Test.YtjfkpjooandpeaaDetectV
import Derived.Test.YtjfkpjooandpeaaShelf
namespace Go.Proofs.Ytjfkpjooandpeaa
open Go Go.RowKit Go.Maps Go.Sort

theorem info9' : (Try.prog.info? 9).map (fun i => (i.zero, i.size, i.bytes)) = some (some (.string ⟨#[]⟩), 1, 16) := by kernel_rfl

/-! ### plain: filters of maps -/
theorem lget_filter {L : DL} (ha : Apart L) (q : Lit × Int → Bool) (kl : Lit) (hk : WideAt.IsKeyLit kl) : lget (L.filter q) kl = (match lget L kl with | some v => if q (kl, v) then some v else none | none => none) := by
  have ha' : Apart (L.filter q) := List.Pairwise.sublist List.filter_sublist ha
  cases h : lget L kl with
  | none =>
    simp only
    cases h' : lget (L.filter q) kl with
    | none => rfl
    | some v =>
      have := lget_of_mem ha hk (List.mem_filter.1 (mem_of_lget h')).1
      rw [h] at this
      cases this
  | some v =>
    simp only
    by_cases hq : q (kl, v) = true
    · rw [if_pos hq]
      exact lget_of_mem ha' hk (List.mem_filter.2 ⟨mem_of_lget h, hq⟩)
    · rw [if_neg hq]
      cases h' : lget (L.filter q) kl with
      | none => rfl
      | some v' =>
        obtain ⟨h1, h2⟩ := List.mem_filter.1 (mem_of_lget h')
        have := lget_of_mem ha hk h1
        rw [h] at this
        cases this
        exact absurd h2 hq

theorem seenK_skip {N : List ByteArray} {L : DL} {left : Lit → Bool} (h : SeenK N L left) {s : ByteArray} (hx : lget L (kT s) = none) : SeenK N L (fun z => left z && !z.sameKey (kT s)) := by
  refine ⟨h.1, fun p => ?_⟩
  rw [h.2 p]
  constructor
  · rintro ⟨h1, h2⟩
    exact ⟨h1, by simp [h2]⟩
  · rintro ⟨h1, h2⟩
    refine ⟨h1, ?_⟩
    have h2' : (left (kT p) && !(kT p).sameKey (kT s)) = false := h2
    cases hs : (kT p).sameKey (kT s) with
    | true =>
      rw [WideAt.sameKey_eq hs, hx] at h1
      cases h1
    | false =>
      rw [hs] at h2'
      simpa using h2'

def liveL (L : DL) : DL := L.filter (fun p => decide (0 < p.2))
def diesL (L : DL) : DL := L.filter (fun p => decide (p.2 = 1))
def dec (n : Int) : Int := if n = 0 then 0 else n - 1
def tickL (L : DL) : DL := L.map (fun p => (p.1, dec p.2))
def midL (L : DL) (left : Lit → Bool) : DL := L.map (fun p => if left p.1 then p else (p.1, dec p.2))

theorem midL_start (L : DL) (hk : ∀ p ∈ L, WideAt.IsKeyLit p.1) : midL L (fun kl => (lget L kl).isSome) = L := by
  unfold midL
  conv => rhs; rw [← List.map_id L]
  apply List.map_congr_left
  intro p hp
  have : (lget L p.1).isSome = true := by
    unfold lget
    rw [Option.isSome_map, List.find?_isSome]
    exact ⟨p, hp, WideAt.sameKey_self (hk p hp)⟩
  simp [this]
theorem midL_end (L : DL) (left : Lit → Bool) (h : ∀ k, left k = false) : midL L left = tickL L := by
  unfold midL tickL
  congr 1
  funext p
  simp [h]
theorem midL_keys (L : DL) (left : Lit → Bool) : (midL L left).map (·.1) = L.map (·.1) := by
  unfold midL
  rw [List.map_map]
  apply List.map_congr_left
  intro p _
  simp only [Function.comp]
  split <;> rfl
theorem midL_apart {L : DL} (ha : Apart L) (left : Lit → Bool) : Apart (midL L left) := by
  have h1 : (L.map (·.1)).Pairwise (fun a b => a ≠ b) := List.pairwise_map.2 ha
  rw [← midL_keys L left] at h1
  exact List.pairwise_map.1 h1
theorem midL_at {L : DL} {left : Lit → Bool} {kl : Lit} {x : Int} (hl : left kl = true) (h : lget (midL L left) kl = some x) : (kl, x) ∈ L := by
  obtain ⟨p, hp, e⟩ := List.mem_map.1 (mem_of_lget h)
  by_cases hlp : left p.1 = true
  · rw [if_pos hlp] at e
    rw [← e]
    exact hp
  · rw [if_neg hlp] at e
    have : p.1 = kl := congrArg Prod.fst e
    rw [this] at hlp
    exact absurd hl hlp
theorem midL_stored {L : DL} {left : Lit → Bool} (ha : Apart L) {kl : Lit} (hk : WideAt.IsKeyLit kl) {x : Int} (hl : left kl = true) (h : lget (midL L left) kl = some x) (hx : x ≠ 0) :
    lset (midL L left) kl (x - 1) = midL L (fun z => left z && !z.sameKey kl) := by
  have hm := midL_at hl h
  unfold lset midL
  rw [List.map_map]
  apply List.map_congr_left
  intro p hp
  simp only [Function.comp]
  have e1 : (if left p.1 = true then p else (p.1, dec p.2)).1 = p.1 := by split <;> rfl
  rw [e1]
  by_cases hs : p.1.sameKey kl = true
  · have e := WideAt.sameKey_eq hs
    have hp' : (kl, p.2) ∈ L := by rw [← e]; exact hp
    have h1 := lget_of_mem ha hk hp'
    rw [lget_of_mem ha hk hm] at h1
    have e2 := Option.some.inj h1
    have e3 : (left p.1 && !p.1.sameKey kl) = false := by simp [hs]
    rw [if_pos hs]
    show _ = (if (left p.1 && !p.1.sameKey kl) = true then p else (p.1, dec p.2))
    rw [e3, if_neg (by simp), ← e2]
    unfold dec
    rw [if_neg hx]
  · have e3 : (left p.1 && !p.1.sameKey kl) = left p.1 := by simp [hs]
    rw [if_neg hs]
    show _ = (if (left p.1 && !p.1.sameKey kl) = true then p else (p.1, dec p.2))
    rw [e3]
theorem midL_zero {L : DL} {left : Lit → Bool} (ha : Apart L) {kl : Lit} (hk : WideAt.IsKeyLit kl) (hl : left kl = true) (h : lget (midL L left) kl = some 0) :
    midL L left = midL L (fun z => left z && !z.sameKey kl) := by
  have hm := midL_at hl h
  unfold midL
  apply List.map_congr_left
  intro p hp
  show _ = (if (left p.1 && !p.1.sameKey kl) = true then p else (p.1, dec p.2))
  by_cases hs : p.1.sameKey kl = true
  · have e := WideAt.sameKey_eq hs
    have hp' : (kl, p.2) ∈ L := by rw [← e]; exact hp
    have h1 := lget_of_mem ha hk hp'
    rw [lget_of_mem ha hk hm] at h1
    have e2 := Option.some.inj h1
    obtain ⟨p1, p2⟩ := p
    simp only at e e2
    subst e e2
    simp [dec]
  · have e3 : (left p.1 && !p.1.sameKey kl) = left p.1 := by simp [hs]
    rw [e3]

theorem filter_keysS {L : DL} (h : KeysS L) (q : Lit × Int → Bool) : KeysS (L.filter q) := fun p hp => h p (List.mem_filter.1 hp).1

/-! ### the walks -/
def KeysPost (M : List ByteArray) (w : World) (e : Ending) (w' : World) : Prop :=
  ∃ a c, e = .returned (.slice a M.length c) ∧ Own w' w.heap.size 9 1 cS (.slice a M.length c) M ∧ Keep NoB w w'

theorem sort_any (w : World) (B : Nat) (a : Option Addr) (c : Nat) (N M : List ByteArray) (O : Own w B 9 1 cS (.slice a N.length c) N) (hN : N.length ≤ 1000000) (hp : N.Perm M) (hr : M.Pairwise (fun x y => bs x < bs y)) :
    Calls Try.prog 22 #[.slice a N.length c] w fun e w' => e = .returned (.tuple #[]) ∧ Own w' B 9 1 cS (.slice a M.length c) M ∧ Keep (fun g => (Value.slice a N.length c).ownBlock = some g) w w' := by
  have hMl : N.length = M.length := hp.length_eq
  by_cases h0 : N = []
  · subst h0
    have hM : M = [] := by simpa using hp
    subst hM
    have hcon := Any.slices_Sort_string_none Try.laysSort a c w
    change Calls Try.prog 22 _ _ _ at hcon
    refine hcon.mono ?_
    rintro _ _ ⟨rfl, rfl⟩
    exact ⟨rfl, O, Keep.refl _ _⟩
  · obtain ⟨g, rfl, hg1, hg2⟩ := O.some h0
    have hcon := Any.slices_Sort_string Try.laysSort g 0 c (N.map bs) w O.holdsS hg2 (by simp; omega)
    rw [sortS_eq hp hr] at hcon
    change Calls Try.prog 22 _ _ _ at hcon
    rw [List.length_map] at hcon
    refine hcon.mono ?_
    rintro _ _ ⟨rfl, n, os, rfl⟩
    obtain ⟨O', K'⟩ := O.sortedS hMl.symm n os
    rw [hMl] at O'
    exact ⟨rfl, O', K'.mono (fun i h => by have : i = g := h; rw [this]; rfl)⟩


set_option maxHeartbeats 1000000 in
theorem live_any (tb mb : Nat) (pat ch : Int) (L : DL) (w : World) (T : Tab w tb mb pat ch L) (hn : L.length ≤ 100000) (M : List ByteArray) (hM : keysOf (liveL L) = M) :
    Calls Try.prog 17 #[.pointer (some ⟨tb, 0, none⟩)] w (KeysPost M w) := by
  have hri : (liveL L).Pairwise (fun p q => p.1.before q.1 = true) := List.Pairwise.sublist List.filter_sublist (T.map.rising law9).1
  have hapL := T.map.apart law9
  have hap : Apart (liveL L) := List.Pairwise.sublist List.filter_sublist hapL
  have hks : KeysS (liveL L) := filter_keysS (keysS Try.underlying9 T.map) _
  have hlf : (liveL L).length ≤ L.length := List.length_filter_le _ _
  have Hri := Lib.hid hri
  have HapL := Lib.hid hapL
  have Hap := Lib.hid hap
  have Hks := Lib.hid hks
  have HM := Lib.hid hM
  clear hri hap hapL hks hM
  have c0 := blk_cell T.blk 0
  have c1 := blk_cell T.blk 1
  have c2 := blk_cell T.blk 2
  have hlt := blk_lt T.blk
  have hm := T.map
  have hne := T.ne
  have hblk := Lib.hid T.blk
  clear T
  simp at c0 c1 c2
  go_enter Try.func17, Try.ntmps17
  go_wp2_with (first
    | (at_range; refine wpList_mrange _ rfl _ 46 rfl 9 3 law9 Try.underlying46 encI mb L rfl hm ?_; intro w0 hrg0 hk0 hs0))
  go_frame
  have Hg0 := Lib.hid hrg0
  have HS : SeenK [] (liveL L) (fun kl => (lget L kl).isSome) := by
    refine ⟨by simp, fun p => ⟨(fun h => by cases h), fun ⟨h1, h2⟩ => ?_⟩⟩
    have h2' : (lget L (kT p)).isSome = false := h2
    have h3 : lget (liveL L) (kT p) = _ := lget_filter HapL.out _ (kT p) (kT_key p)
    cases h4 : lget L (kT p) with
    | none => rw [h3, h4] at h1; cases h1
    | some v => rw [h4] at h2'; cases h2'
  have HS0 := Lib.hid HS
  clear hrg0 hs0 c0 c1 c2 HS
  go_loopw [3] (fun o wr => ∃ (left : Lit → Bool) (cnt : Nat) (N : List ByteArray) (a : Option Addr) (c : Nat), RangeAt Try.prog 9 encI wr mb w.heap.size L left cnt ∧ o = .slice a N.length c ∧ Own wr (w.heap.size + 1) 9 1 cS (.slice a N.length c) N ∧ N.length + cnt ≤ L.length ∧ SeenK N (liveL L) left ∧ Keep NoB w wr) (fun _ wr => wr.rangeLeft mb w.heap.size)
  case atStart => exact ⟨_, _, [], none, 0, Hg0.out, rfl, ⟨by simp, Or.inl ⟨rfl, rfl⟩⟩, by simp, HS0.out, hk0⟩
  case round =>
    obtain ⟨left, cnt, N, a, c, hrg, rfl, O, hNc, hSN, hk⟩ := hrel
    have HSN := Lib.hid hSN
    clear hSN
    go_wp2_with (first
      | (at_next; refine wpList_mnext _ rfl _ rfl 9 law9 encI Value.string inv9 mb w.heap.size _ left cnt rfl hrg ?_ ?_))
    · intro _ hl0
      have hpm := seenK_end HSN.out hl0 Hks.out Hap.out Hri.out
      rw [HM.out] at hpm
      have hrM : M.Pairwise (fun x y => bs x < bs y) := by rw [← HM.out]; exact keysOf_rising Hks.out Hri.out
      have Hpm := Lib.hid hpm
      have HrM := Lib.hid hrM
      clear hl0 hpm hrM
      go_wp2_with fail
      refine (sort_any _ _ a c N M O (by omega) Hpm.out HrM.out).mono ?_
      rintro _ w5 ⟨rfl, O5, k5⟩
      have hNM : N.length = M.length := Hpm.out.length_eq
      have HNM := Lib.hid hNM
      have K5 : Keep NoB w w5 := hk.trans' k5 (fun i hi e => by have := O.fresh i e; omega)
      clear hNM k5
      go_wp2_with fail
      go_ret
      exact ⟨a, c, by rw [HNM.out]; rfl, O5.mono (Nat.le_succ _), K5⟩
    · intro s x kl w1 cnt1 hkey hl hx hrg1 hlt1 hk1 hs1 hen
      simp only [encI] at hen ⊢
      obtain ⟨n, e1, e2, _⟩ := keyOf_string_inv' Try.underlying9 hkey
      cases e1
      subst e2
      have hfl : lget (liveL L) (kT s) = _ := lget_filter HapL.out _ (kT s) (kT_key s)
      rw [show lget L (kT s) = some x from hx] at hfl
      simp only at hfl
      have K1 : Keep NoB w w1 := hk.trans' hk1 (fun j hj e => by have : j = w.heap.size := e; omega)
      have O1 := O.keep hk1 (fun g hg e => by have h1 := O.fresh g hg; have h2 : g = w.heap.size := e; omega)
      have hrl := hrg1.lt
      have hlN : N.length ≤ 100000 := by omega
      have s1 := K1.size
      by_cases hx0 : 0 < x
      · rw [if_pos (by simpa using hx0)] at hfl
        have hSN' := seenK_step HSN.out hl hfl
        have HSN' := Lib.hid hSN'
        obtain ⟨N', hN'⟩ : ∃ l, N ++ [s] = l := ⟨_, rfl⟩
        have HN' := Lib.hid hN'
        have hN'l : N'.length = N.length + 1 := by rw [← hN']; simp
        have HN'l := Lib.hid hN'l
        clear hN' hN'l hSN' hl hx hk1 hs1 hfl
        go_wp2_with (first
          | (at_builtin
             refine wpList_append_one rfl (.tmp 20) (.tmp 22) 26 rfl Try.underlying26 info9' (by kernel_rfl) (by decide) (by decide) rfl (O1.alloc _) cS_len s rfl (c := #[.string s]) (t' := 9) (f := (0, 0)) (blk_new w1 _) rfl (cS_one _) (by omega) (by simp; omega) HN'.out ?_
             intro a4 c4 w4 O4 k4
             have K2 : Keep NoB w1 (w1.alloc (.cells #[.string s] 9)) := (Keep.refl NoB w1).alloc _
             have hrg4 := (hrg1.keep K2 (fun h => h) (fun h => h)).keep k4 (fun e => O1.ne_map hrg1.map mb e rfl) (fun e => by have := O1.fresh _ e; omega)
             have K4 : Keep NoB w w4 := (K1.trans K2).trans' k4 (fun i hi e => by have := O1.fresh i e; omega)
             clear k4 K2))
        go_roundw
        case rel => exact ⟨_, cnt1, N', a4, c4, hrg4, rfl, O4, by have := HN'l.out; omega, by rw [← HN'.out]; exact HSN'.out, K4⟩
        case measure => rw [hrg4.left_eq, hrg.left_eq]; exact hlt1
      · rw [if_neg (by simpa using hx0)] at hfl
        have HSN' := Lib.hid (seenK_skip HSN.out hfl)
        have hd : decide (0 < x) = false := by simpa using hx0
        clear hl hx hk1 hs1 hfl
        go_wp2_with fail
        go_roundw
        case rel => exact ⟨_, cnt1, N, a, c, hrg1, rfl, O1, by omega, HSN'.out, K1⟩
        case measure => rw [hrg1.left_eq, hrg.left_eq]; exact hlt1
end Go.Proofs.Ytjfkpjooandpeaa
