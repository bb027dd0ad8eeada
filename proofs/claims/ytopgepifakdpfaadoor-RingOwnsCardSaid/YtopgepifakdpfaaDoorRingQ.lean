/- The ring, plainly: points in their order, from a place on around; the first place of each node; the least way. -/
import Derived.Test.YtopgepifakdpfaaDoorLibSortS
namespace Go.Proofs.YtopgepifakdpfaaDoor
open Go Go.RowKit Go.Maps

abbrev BA := ByteArray
instance memDec (x : BA) (l : List BA) : Decidable (x ∈ l) := decidable_of_iff (∃ y ∈ l, y = x) (by simp)
/-! ### in the order of the first place -/
def dd : List BA → List BA → List BA
  | acc, [] => acc
  | acc, x :: r => if x ∈ acc then dd acc r else dd (acc ++ [x]) r
theorem dd_nil (acc : List BA) : dd acc [] = acc := by unfold dd; rfl
theorem dd_cons (acc : List BA) (x : BA) (r : List BA) : dd acc (x :: r) = if x ∈ acc then dd acc r else dd (acc ++ [x]) r := by conv => lhs; unfold dd
theorem dd_snoc : ∀ (l acc : List BA) (x : BA), dd acc (l ++ [x]) = if x ∈ dd acc l then dd acc l else dd acc l ++ [x]
  | [], acc, x => by rw [List.nil_append, dd_cons, dd_nil, dd_nil]
  | y :: l, acc, x => by
    rw [List.cons_append, dd_cons, dd_cons]
    split
    · exact dd_snoc l acc x
    · exact dd_snoc l (acc ++ [y]) x
theorem dd_take {l : List BA} {i : Nat} {x : BA} (h : l[i]? = some x) : dd [] (l.take (i + 1)) = if x ∈ dd [] (l.take i) then dd [] (l.take i) else dd [] (l.take i) ++ [x] := by
  obtain ⟨hl, e⟩ := List.getElem?_eq_some_iff.1 h
  rw [List.take_succ_eq_append_getElem hl, e, dd_snoc]
theorem dd_pre : ∀ (l acc : List BA), ∃ q, dd acc l = acc ++ q
  | [], acc => ⟨[], by rw [dd_nil, List.append_nil]⟩
  | x :: l, acc => by
    rw [dd_cons]
    split
    · exact dd_pre l acc
    · obtain ⟨q, h⟩ := dd_pre l (acc ++ [x])
      exact ⟨x :: q, by rw [h, List.append_assoc]; rfl⟩
theorem dd_app : ∀ (l l' acc : List BA), dd acc (l ++ l') = dd (dd acc l) l'
  | [], l', acc => by rw [List.nil_append, dd_nil]
  | x :: l, l', acc => by
    rw [List.cons_append, dd_cons, dd_cons]
    split
    · exact dd_app l l' acc
    · exact dd_app l l' (acc ++ [x])
/-- What a beginning tells is the beginning of what all tell. -/
theorem dd_begin (l : List BA) (i n : Nat) (h : (dd [] (l.take i)).length = n) : dd [] (l.take i) = (dd [] l).take n := by
  have e : dd [] l = dd (dd [] (l.take i)) (l.drop i) := by
    conv => lhs; rw [← List.take_append_drop i l]
    rw [dd_app]
  obtain ⟨q, hq⟩ := dd_pre (l.drop i) (dd [] (l.take i))
  rw [e, hq, ← h, List.take_left]
theorem dd_len (l : List BA) (i : Nat) : (dd [] (l.take i)).length ≤ (dd [] l).length := by
  have e : dd [] l = dd (dd [] (l.take i)) (l.drop i) := by
    conv => lhs; rw [← List.take_append_drop i l]
    rw [dd_app]
  obtain ⟨q, hq⟩ := dd_pre (l.drop i) (dd [] (l.take i))
  rw [e, hq, List.length_append]
  omega
theorem dd_nodup : ∀ (l acc : List BA), acc.Nodup → (dd acc l).Nodup
  | [], acc, h => by rw [dd_nil]; exact h
  | x :: l, acc, h => by
    rw [dd_cons]
    split
    · exact dd_nodup l acc h
    · rename_i hx
      refine dd_nodup l _ ?_
      rw [List.nodup_append]
      exact ⟨h, by simp, fun a ha b hb e => by rw [List.mem_singleton] at hb; subst hb; subst e; exact hx ha⟩
theorem dd_mem : ∀ (l acc : List BA) (x : BA), x ∈ dd acc l ↔ x ∈ acc ∨ x ∈ l
  | [], acc, x => by rw [dd_nil]; simp
  | y :: l, acc, x => by
    rw [dd_cons]
    split
    · rename_i hy
      rw [dd_mem l acc x, List.mem_cons]
      constructor
      · rintro (h | h)
        · exact Or.inl h
        · exact Or.inr (Or.inr h)
      · rintro (h | rfl | h)
        · exact Or.inl h
        · exact Or.inl hy
        · exact Or.inr h
    · rw [dd_mem l (acc ++ [y]) x, List.mem_append, List.mem_singleton, List.mem_cons]
      constructor
      · rintro ((h | h) | h)
        · exact Or.inl h
        · exact Or.inr (Or.inl h)
        · exact Or.inr (Or.inr h)
      · rintro (h | h | h)
        · exact Or.inl (Or.inl h)
        · exact Or.inl (Or.inr h)
        · exact Or.inr h

/-! ### by the way, then by the name -/
def ltW (W : BA → Int) (a b : BA) : Prop := W a < W b ∨ (W a = W b ∧ bs a < bs b)
def leR (x y : Int × BA) : Prop := x.1 < y.1 ∨ (x.1 = y.1 ∧ (x.2 = y.2 ∨ bs x.2 < bs y.2))
theorem bs_irr (a : BA) : ¬ bs a < bs a := List.lt_irrefl _
theorem bs_asym {a b : BA} (h : bs a < bs b) : ¬ bs b < bs a := fun h' => List.lt_irrefl _ (List.lt_trans h h')
theorem bs_total {a b : BA} (h : a ≠ b) : bs a < bs b ∨ bs b < bs a := by
  by_cases h1 : bs a < bs b
  · exact Or.inl h1
  · by_cases h2 : bs b < bs a
    · exact Or.inr h2
    · exact absurd (bs_inj (List.le_antisymm (List.not_lt.1 h2) (List.not_lt.1 h1))) h
theorem ltW_irr {W : BA → Int} (a : BA) : ¬ ltW W a a := by
  rintro (h | ⟨_, h⟩)
  · omega
  · exact bs_irr a h
theorem ltW_trans {W : BA → Int} {a b c : BA} (h1 : ltW W a b) (h2 : ltW W b c) : ltW W a c := by
  rcases h1 with h1 | ⟨h1, h1'⟩ <;> rcases h2 with h2 | ⟨h2, h2'⟩
  · exact Or.inl (by omega)
  · exact Or.inl (by omega)
  · exact Or.inl (by omega)
  · exact Or.inr ⟨by omega, List.lt_trans h1' h2'⟩
theorem ltW_asym {W : BA → Int} {a b : BA} (h : ltW W a b) : ¬ ltW W b a := fun h' => ltW_irr a (ltW_trans h h')
theorem ltW_total {W : BA → Int} {a b : BA} (h : a ≠ b) : ltW W a b ∨ ltW W b a := by
  rcases Int.lt_trichotomy (W a) (W b) with h1 | h1 | h1
  · exact Or.inl (Or.inl h1)
  · rcases bs_total h with h2 | h2
    · exact Or.inl (Or.inr ⟨h1, h2⟩)
    · exact Or.inr (Or.inr ⟨h1.symm, h2⟩)
  · exact Or.inr (Or.inl h1)
/-- The owners of a place: all nodes, by their ways. -/
def Ow (W : BA → Int) (L O : List BA) : Prop := O.Perm L ∧ O.Pairwise (ltW W)
theorem Ow.uniq {W : BA → Int} {L L' O O' : List BA} (h : Ow W L O) (h' : Ow W L' O') (hL : L.Perm L') : O = O' :=
  List.Perm.eq_of_pairwise (le := ltW W) (fun a b _ _ h1 h2 => absurd h2 (ltW_asym h1)) h.2 h'.2 (h.1.trans (hL.trans h'.1.symm))
theorem Ow.nodup {W : BA → Int} {L O : List BA} (h : Ow W L O) : O.Nodup := h.2.imp (fun {a b} h e => by subst e; exact ltW_irr a h)

theorem dd_pair {W : BA → Int} {R : List (Int × BA)} (hs : R.Pairwise leR) (h1 : ∀ x ∈ R, W x.2 ≤ x.1) (h2 : ∀ x ∈ R, (W x.2, x.2) ∈ R) : ∀ i, i ≤ R.length → (dd [] ((R.map (·.2)).take i)).Pairwise (ltW W)
  | 0, _ => by rw [List.take_zero, dd_nil]; exact List.Pairwise.nil
  | i + 1, hi => by
    have ih := dd_pair hs h1 h2 i (by omega)
    have hl : i < R.length := by omega
    obtain ⟨x, hx⟩ : ∃ x, R[i]? = some x := ⟨_, List.getElem?_eq_getElem hl⟩
    have hx' : (R.map (·.2))[i]? = some x.2 := by rw [List.getElem?_map, hx]; rfl
    rw [dd_take hx']
    split
    · exact ih
    · rename_i hn
      rw [List.pairwise_append]
      refine ⟨ih, by simp, fun a ha b hb => ?_⟩
      rw [List.mem_singleton] at hb
      subst hb
      have hmem := dd_mem ((R.map (·.2)).take i) [] a
      rw [hmem] at ha
      have ha2 := ha.resolve_left (by simp)
      obtain ⟨j, hj⟩ := List.getElem?_of_mem ha2
      have hji : j < i := by
        have := (List.getElem?_eq_some_iff.1 hj).1
        rw [List.length_take] at this
        omega
      rw [List.getElem?_take_of_lt hji, List.getElem?_map] at hj
      obtain ⟨y, hy, hya⟩ := Option.map_eq_some_iff.1 hj
      subst hya
      -- the point at i is the node's nearest
      have hxm := List.mem_of_getElem? hx
      obtain ⟨k, hk⟩ := List.getElem?_of_mem (h2 x hxm)
      have hki : i ≤ k := by
        rcases Nat.lt_or_ge k i with h | h
        · refine absurd ?_ hn
          rw [dd_mem]
          refine Or.inr (List.mem_of_getElem? (i := k) ?_)
          rw [List.getElem?_take_of_lt h, List.getElem?_map, hk]
          rfl
        · exact h
      have hgi := List.getElem?_eq_some_iff.1 hx
      have hgk := List.getElem?_eq_some_iff.1 hk
      have hgj := List.getElem?_eq_some_iff.1 hy
      obtain ⟨gi1, gi2⟩ := hgi
      obtain ⟨gk1, gk2⟩ := hgk
      obtain ⟨gj1, gj2⟩ := hgj
      rw [List.pairwise_iff_getElem] at hs
      have hwx : x.1 = W x.2 := by
        rcases Nat.lt_or_ge i k with h | h
        · have h3 := hs i k gi1 gk1 h
          rw [gi2, gk2] at h3
          have := h1 x hxm
          rcases h3 with h3 | ⟨h3, _⟩
          · simp only at h3; omega
          · simp only at h3; omega
        · have : i = k := by omega
          subst this
          rw [gi2] at gk2
          rw [gk2]
      have h3 := hs j i gj1 gi1 hji
      rw [gj2, gi2] at h3
      have hy1 := h1 y (List.mem_of_getElem? hy)
      have hne : y.2 ≠ x.2 := fun e => hn (by
        rw [dd_mem]
        refine Or.inr ?_
        rw [← e]
        exact List.mem_of_getElem? (i := j) (by rw [List.getElem?_take_of_lt hji, List.getElem?_map, hy]; rfl))
      rcases h3 with h3 | ⟨h3, h4 | h4⟩
      · exact Or.inl (by omega)
      · exact absurd h4 hne
      · by_cases h5 : W y.2 < W x.2
        · exact Or.inl h5
        · exact Or.inr ⟨by omega, h4⟩
/-- The first places of the nodes along a list that rises by way and name are the owners. -/
theorem dd_ow {W : BA → Int} {R : List (Int × BA)} {L : List BA} (hs : R.Pairwise leR) (h1 : ∀ x ∈ R, W x.2 ≤ x.1) (h2 : ∀ x ∈ R, (W x.2, x.2) ∈ R) (hL : L.Nodup) (hm : ∀ a, a ∈ L ↔ ∃ x ∈ R, x.2 = a) : Ow W L (dd [] (R.map (·.2))) := by
  have hp := dd_pair hs h1 h2 R.length (Nat.le_refl _)
  rw [List.take_of_length_le (by simp)] at hp
  refine ⟨?_, hp⟩
  refine (List.perm_ext_iff_of_nodup (dd_nodup _ _ List.nodup_nil) hL).2 (fun a => ?_)
  rw [dd_mem, hm]
  simp

/-! ### around the ring -/
def MM : Int := 18446744073709551616
def dist (h a : Int) : Int := (a - h) % MM
def rot (h : Int) (S : List (Int × BA)) : List (Int × BA) := S.filter (fun x => !decide (x.1 < h)) ++ S.filter (fun x => decide (x.1 < h))
/-- What the sort of the points compares. -/
def ltP (x y : Int × BA) : Bool := decide (x.1 < y.1 ∨ (x.1 = y.1 ∧ bs x.2 < bs y.2))
theorem split_at {S : List (Int × BA)} (hs : S.Pairwise (fun x y => ltP y x = false)) (h : Int) : S = S.filter (fun (x : Int × BA) => decide (x.1 < h)) ++ S.filter (fun x => !decide (x.1 < h)) := by
  induction S with
  | nil => rfl
  | cons x S ih =>
    have h2 := List.pairwise_cons.1 hs
    by_cases hx : x.1 < h
    · rw [List.filter_cons_of_pos (by simpa using hx), List.filter_cons_of_neg (by simpa using hx), List.cons_append, ← ih h2.2]
    · have hn : ∀ y ∈ S, ¬ y.1 < h := fun y hy hyh => by
        have h3 := h2.1 y hy
        simp only [ltP, decide_eq_false_iff_not, not_or] at h3
        omega
      have e1 : S.filter (fun x => decide (x.1 < h)) = [] := List.filter_eq_nil_iff.2 (fun y hy => by simpa using hn y hy)
      have e2 : S.filter (fun x => !decide (x.1 < h)) = S := List.filter_eq_self.2 (fun y hy => by simpa using hn y hy)
      rw [List.filter_cons_of_neg (by simpa using hx), List.filter_cons_of_pos (by simpa using hx), e1, e2, List.nil_append]
theorem rot_get {S : List (Int × BA)} (hs : S.Pairwise (fun x y => ltP y x = false)) (h : Int) (i : Nat) (hi : i < S.length) : (rot h S)[i]? = S[((S.countP (fun x => decide (x.1 < h))) + i) % S.length]? := by
  have e := split_at hs h
  have hA : (S.filter (fun x => decide (x.1 < h))).length = S.countP (fun x => decide (x.1 < h)) := by rw [List.countP_eq_length_filter]
  have hlen : (S.filter (fun x => decide (x.1 < h))).length + (S.filter (fun x => !decide (x.1 < h))).length = S.length := by
    conv => rhs; rw [e]
    rw [List.length_append]
  rw [← hA]
  unfold rot
  generalize S.filter (fun x => decide (x.1 < h)) = A at *
  generalize S.filter (fun x => !decide (x.1 < h)) = B at *
  subst e
  rw [List.length_append] at hi
  simp only [List.length_append]
  by_cases hb : i < B.length
  · rw [Nat.mod_eq_of_lt (by omega), List.getElem?_append_left hb, List.getElem?_append_right (by omega)]
    congr 1
    omega
  · have hm : (A.length + i) % (A.length + B.length) = i - B.length := by
      have : A.length + i = (i - B.length) + (A.length + B.length) := by omega
      rw [this, Nat.add_mod_right, Nat.mod_eq_of_lt (by omega)]
    rw [hm, List.getElem?_append_right (by omega), List.getElem?_append_left (by omega)]
theorem rot_mem {S : List (Int × BA)} {h : Int} {x : Int × BA} : x ∈ rot h S ↔ x ∈ S := by
  unfold rot
  rw [List.mem_append, List.mem_filter, List.mem_filter]
  by_cases hx : x.1 < h <;> simp [hx]
theorem rot_len (S : List (Int × BA)) (h : Int) : (rot h S).length = S.length := by
  unfold rot
  rw [List.length_append, Nat.add_comm, ← List.countP_eq_length_filter, ← List.countP_eq_length_filter]
  have h1 := List.length_eq_countP_add_countP (l := S) (fun (x : Int × BA) => decide (x.1 < h))
  have h2 : S.countP (fun a => decide ¬ (decide (a.1 < h) = true)) = S.countP (fun x => !decide (x.1 < h)) := List.countP_congr (fun x _ => by simp)
  rw [h1, h2]
theorem rot_rise {S : List (Int × BA)} (hs : S.Pairwise (fun x y => ltP y x = false)) {h : Int} (hh : 0 ≤ h ∧ h < MM) (hb : ∀ x ∈ S, 0 ≤ x.1 ∧ x.1 < MM) : ((rot h S).map (fun x => (dist h x.1, x.2))).Pairwise leR := by
  have hup : ∀ x ∈ S, ¬ x.1 < h → dist h x.1 = x.1 - h := fun x hx hn => by
    have := hb x hx
    exact Int.emod_eq_of_lt (by omega) (by omega)
  have hlo : ∀ x ∈ S, x.1 < h → dist h x.1 = x.1 - h + MM := fun x hx hn => by
    have := hb x hx
    have e : (x.1 - h) % MM = (x.1 - h + MM) % MM := by rw [Int.add_emod_right]
    unfold dist
    rw [e]
    exact Int.emod_eq_of_lt (by omega) (by omega)
  have hle : ∀ x y : Int × BA, ltP y x = false → x.1 < y.1 ∨ (x.1 = y.1 ∧ (x.2 = y.2 ∨ bs x.2 < bs y.2)) := fun x y hxy => by
    simp only [ltP, decide_eq_false_iff_not, not_or, not_and] at hxy
    by_cases h1 : x.1 < y.1
    · exact Or.inl h1
    · have h2 : x.1 = y.1 := by omega
      refine Or.inr ⟨h2, ?_⟩
      by_cases h3 : x.2 = y.2
      · exact Or.inl h3
      · exact Or.inr ((bs_total h3).resolve_right (hxy.2 h2.symm))
  rw [List.pairwise_map]
  unfold rot
  rw [List.pairwise_append]
  refine ⟨?_, ?_, ?_⟩
  · refine (List.Pairwise.and_mem.1 (hs.filter _)).imp (fun {x y} hxy => ?_)
    obtain ⟨hx, hy, hxy⟩ := hxy
    rw [List.mem_filter] at hx hy
    simp only [Bool.not_eq_true', decide_eq_false_iff_not] at hx hy
    have e1 := hup x hx.1 hx.2
    have e2 := hup y hy.1 hy.2
    unfold leR
    simp only [e1, e2]
    rcases hle x y hxy with h1 | ⟨h1, h2⟩
    · exact Or.inl (by omega)
    · exact Or.inr ⟨by omega, h2⟩
  · refine (List.Pairwise.and_mem.1 (hs.filter _)).imp (fun {x y} hxy => ?_)
    obtain ⟨hx, hy, hxy⟩ := hxy
    rw [List.mem_filter] at hx hy
    simp only [decide_eq_true_eq] at hx hy
    have e1 := hlo x hx.1 hx.2
    have e2 := hlo y hy.1 hy.2
    unfold leR
    simp only [e1, e2]
    rcases hle x y hxy with h1 | ⟨h1, h2⟩
    · exact Or.inl (by omega)
    · exact Or.inr ⟨by omega, h2⟩
  · intro x hx y hy
    rw [List.mem_filter] at hx hy
    simp only [Bool.not_eq_true', decide_eq_false_iff_not, decide_eq_true_eq] at hx hy
    have e1 := hup x hx.1 hx.2
    have e2 := hlo y hy.1 hy.2
    have b1 := hb x hx.1
    have b2 := hb y hy.1
    exact Or.inl (by simp only [e1, e2]; omega)

/-! ### the points of the nodes -/
def pts (pt : BA → Nat → Int) (L : List BA) : List (Int × BA) := L.flatMap (fun n => (List.range 16).map (fun j => (pt n j, n)))
theorem mem_pts {pt : BA → Nat → Int} {L : List BA} {x : Int × BA} : x ∈ pts pt L ↔ x.2 ∈ L ∧ ∃ j, j < 16 ∧ x.1 = pt x.2 j := by
  unfold pts
  rw [List.mem_flatMap]
  constructor
  · rintro ⟨n, hn, h⟩
    obtain ⟨j, hj, rfl⟩ := List.mem_map.1 h
    exact ⟨hn, j, List.mem_range.1 hj, rfl⟩
  · rintro ⟨hn, j, hj, e⟩
    exact ⟨x.2, hn, List.mem_map.2 ⟨j, List.mem_range.2 hj, by rw [← e]⟩⟩
/-- How far it is from h up to the nearest of a node's first k + 1 points. -/
def wayK (pt : BA → Nat → Int) (h : Int) (n : BA) : Nat → Int
  | 0 => dist h (pt n 0)
  | k + 1 => min (wayK pt h n k) (dist h (pt n (k + 1)))
theorem wayK_le {pt : BA → Nat → Int} {h : Int} {n : BA} : ∀ {k j : Nat}, j ≤ k → wayK pt h n k ≤ dist h (pt n j)
  | 0, j, hj => by rw [show j = 0 by omega]; exact Int.le_refl _
  | k + 1, j, hj => by
    unfold wayK
    by_cases e : j = k + 1
    · subst e; omega
    · have := wayK_le (pt := pt) (h := h) (n := n) (show j ≤ k by omega); omega
theorem wayK_at {pt : BA → Nat → Int} {h : Int} {n : BA} : ∀ k : Nat, ∃ j, j ≤ k ∧ wayK pt h n k = dist h (pt n j)
  | 0 => ⟨0, Nat.le_refl _, rfl⟩
  | k + 1 => by
    obtain ⟨j, hj, e⟩ := wayK_at (pt := pt) (h := h) (n := n) k
    unfold wayK
    by_cases hc : wayK pt h n k ≤ dist h (pt n (k + 1))
    · exact ⟨j, by omega, by omega⟩
    · exact ⟨k + 1, Nat.le_refl _, by omega⟩
def way (pt : BA → Nat → Int) (h : Int) (n : BA) : Int := wayK pt h n 15
/-- What a ring tells: along the sorted points, from a key's place on. -/
theorem ring_ow {pt : BA → Nat → Int} (hpt : ∀ n j, 0 ≤ pt n j ∧ pt n j < MM) {L : List BA} (hL : L.Nodup) {S : List (Int × BA)} (hp : S.Perm (pts pt L)) (hs : S.Pairwise (fun x y => ltP y x = false)) {h : Int} (hh : 0 ≤ h ∧ h < MM) :
    Ow (way pt h) L (dd [] ((rot h S).map (·.2))) := by
  have hmem : ∀ x, x ∈ rot h S ↔ x.2 ∈ L ∧ ∃ j, j < 16 ∧ x.1 = pt x.2 j := fun x => by rw [rot_mem, hp.mem_iff, mem_pts]
  have hr := rot_rise hs hh (fun x hx => by
    obtain ⟨_, j, _, e⟩ := mem_pts.1 (hp.mem_iff.1 hx)
    rw [e]
    exact hpt _ _)
  have e : (rot h S).map (·.2) = ((rot h S).map (fun x => (dist h x.1, x.2))).map (·.2) := by rw [List.map_map]; rfl
  rw [e]
  refine dd_ow hr (fun y hy => ?_) (fun y hy => ?_) hL (fun a => ?_)
  · obtain ⟨x, hx, rfl⟩ := List.mem_map.1 hy
    obtain ⟨_, j, hj, e⟩ := (hmem x).1 hx
    simp only
    rw [e]
    exact wayK_le (by omega)
  · obtain ⟨x, hx, rfl⟩ := List.mem_map.1 hy
    obtain ⟨hn, _, _, _⟩ := (hmem x).1 hx
    obtain ⟨j, hj, e⟩ := wayK_at (pt := pt) (h := h) (n := x.2) 15
    exact List.mem_map.2 ⟨(pt x.2 j, x.2), (hmem _).2 ⟨hn, j, by omega, rfl⟩, by simp only [way, e]⟩
  · constructor
    · intro ha
      exact ⟨(dist h (pt a 0), a), List.mem_map.2 ⟨(pt a 0, a), (hmem _).2 ⟨ha, 0, by decide, rfl⟩, rfl⟩, rfl⟩
    · rintro ⟨y, hy, rfl⟩
      obtain ⟨x, hx, rfl⟩ := List.mem_map.1 hy
      exact ((hmem x).1 hx).1
end Go.Proofs.YtopgepifakdpfaaDoor
