/- What Clear, Allows, Floor, Len and Pass of package holdoff come to. -/
import Derived.Test.YtieoejilppgebaaNdHoldW
namespace Go.Proofs.Ytieoejilppgebaa.Hd
open Go Go.RowKit Go.Maps
set_option maxRecDepth 100000


theorem clear_any (tb mb : Nat) (limit floor : Int) (L : List (Lit × Int)) (w : World) (T : Tab w tb mb limit floor L) :
    Calls Try.prog 36 #[.pointer (some ⟨tb, 0, none⟩)] w (NotePost tb mb limit 0 [] w) := by
  have c0 := blk_cell T.blk 0
  have c1 := blk_cell T.blk 1
  have c2 := blk_cell T.blk 2
  have f1 := blk_free T.blk 1
  have hlt := blk_lt T.blk
  have hm := T.map
  have hne := T.ne
  have hblk := Lib.hid T.blk
  clear T
  simp at c0 c1 c2
  go_enter Try.func36, Try.ntmps36
  go_wp2_with (refine wpList_mclear _ rfl _ 121 rfl 9 3 Try.underlying121 encI mb L rfl hm ?_; intro w1 hm1 ht1
               have hb1 := (ht1.grown.block tb hlt (by simpa using hne)).trans hblk.out
               have d1 := blk_cell hb1 1
               have d2 := blk_cell hb1 2
               have g1 := blk_free hb1 1
               have hl1 := blk_lt hb1
               have Hb := Lib.hid hb1
               clear hb1
               simp at d1 d2)
  go_end0
  refine ⟨rfl, ⟨?_, hm1.setCell (Ne.symm hne) _⟩, ?_⟩
  · have := blk_setCell (i := 1) Hb.out (.int .i64 0); simpa using this
  · exact ((Keep.refl _ w).turned ht1 (Or.inr (Or.inr rfl))).setCell (Or.inr (Or.inl rfl)) _

def allowsB (floor : Int) (L : List (Lit × Int)) (k : Lit) (a : Int) : Bool :=
  decide (floor ≤ a) && (match lget L k with | some n => decide (n ≤ a) | none => true)

theorem allows_any (tb mb : Nat) (limit floor : Int) (L : List (Lit × Int)) (s : ByteArray) (a : Int) (w : World) (T : Tab w tb mb limit floor L) (hs : s.size ≤ maxLen) (v : Bool) (hv : allowsB floor L (kS s) a = v) :
    Calls Try.prog 46 #[.pointer (some ⟨tb, 0, none⟩), .string s, .int .i64 a] w fun e w' => e = .returned (.bool v) ∧ w' = w := by
  have c0 := blk_cell T.blk 0
  have c1 := blk_cell T.blk 1
  have c2 := blk_cell T.blk 2
  have f1 := blk_free T.blk 1
  have hlt := blk_lt T.blk
  have hm := T.map
  have hne := T.ne
  have hblk := Lib.hid T.blk
  clear T
  simp at c0 c1 c2
  have hkey := WideMaps.keyOf_string_mk Try.underlying9 hs
  subst hv
  unfold allowsB
  by_cases h1 : floor ≤ a
  · cases hg : lget L (kS s) with
    | none =>
      rw [show (decide (floor ≤ a) && true) = true by simp [h1]]
      go_enter Try.func46, Try.ntmps46
      go_wp2_with (first
        | (at_lookup; refine wpList_lookok_miss _ rfl _ _ 121 rfl 9 3 law9 Try.underlying121 encI (zero3 _) mb L rfl (by repeat (with_reducible first | exact hm | refine MapAt.alloc ?_ _ | refine MapAt.drewN ?_ _ | refine MapAt.drew ?_ | refine MapAt.setCell ?_ (by simp; omega) _)) _ _ rfl hkey hg ?_))
      go_ret
      exact ⟨rfl, rfl⟩
    | some n =>
      by_cases h2 : n ≤ a
      · rw [show (decide (floor ≤ a) && decide (n ≤ a)) = true by simp [h1, h2]]
        go_enter Try.func46, Try.ntmps46
        go_wp2_with (first
          | (at_lookup; refine wpList_lookok_hit _ rfl _ _ 121 rfl 9 3 law9 Try.underlying121 encI (zero3 _) mb L rfl (by repeat (with_reducible first | exact hm | refine MapAt.alloc ?_ _ | refine MapAt.drewN ?_ _ | refine MapAt.drew ?_ | refine MapAt.setCell ?_ (by simp; omega) _)) _ _ rfl hkey _ hg ?_; simp only [encI]))
        go_ret
        exact ⟨rfl, rfl⟩
      · rw [show (decide (floor ≤ a) && decide (n ≤ a)) = false by simp [h2]]
        go_enter Try.func46, Try.ntmps46
        go_wp2_with (first
          | (at_lookup; refine wpList_lookok_hit _ rfl _ _ 121 rfl 9 3 law9 Try.underlying121 encI (zero3 _) mb L rfl (by repeat (with_reducible first | exact hm | refine MapAt.alloc ?_ _ | refine MapAt.drewN ?_ _ | refine MapAt.drew ?_ | refine MapAt.setCell ?_ (by simp; omega) _)) _ _ rfl hkey _ hg ?_; simp only [encI]))
        go_ret
        exact ⟨rfl, rfl⟩
  · rw [show (decide (floor ≤ a) && (match lget L (kS s) with | some n => decide (n ≤ a) | none => true)) = false by simp [h1]]
    have hd : decide (floor ≤ a) = false := by simpa using h1
    cases hg : lget L (kS s) with
    | none =>
      go_enter Try.func46, Try.ntmps46
      go_wp2_with (first
        | (at_lookup; refine wpList_lookok_miss _ rfl _ _ 121 rfl 9 3 law9 Try.underlying121 encI (zero3 _) mb L rfl (by repeat (with_reducible first | exact hm | refine MapAt.alloc ?_ _ | refine MapAt.drewN ?_ _ | refine MapAt.drew ?_ | refine MapAt.setCell ?_ (by simp; omega) _)) _ _ rfl hkey hg ?_))
      go_ret
      exact ⟨rfl, rfl⟩
    | some n =>
      go_enter Try.func46, Try.ntmps46
      go_wp2_with (first
        | (at_lookup; refine wpList_lookok_hit _ rfl _ _ 121 rfl 9 3 law9 Try.underlying121 encI (zero3 _) mb L rfl (by repeat (with_reducible first | exact hm | refine MapAt.alloc ?_ _ | refine MapAt.drewN ?_ _ | refine MapAt.drew ?_ | refine MapAt.setCell ?_ (by simp; omega) _)) _ _ rfl hkey _ hg ?_; simp only [encI]))
      go_ret
      exact ⟨rfl, rfl⟩

theorem len_any (tb mb : Nat) (limit floor : Int) (L : List (Lit × Int)) (w : World) (T : Tab w tb mb limit floor L) :
    Calls Try.prog 40 #[.pointer (some ⟨tb, 0, none⟩)] w fun e w' => e = .returned (.int .i64 L.length) ∧ w' = w := by
  have c0 := blk_cell T.blk 0
  have c1 := blk_cell T.blk 1
  have c2 := blk_cell T.blk 2
  have f1 := blk_free T.blk 1
  have hlt := blk_lt T.blk
  have hm := T.map
  have hne := T.ne
  have hblk := Lib.hid T.blk
  clear T
  simp at c0 c1 c2
  have hlen := fun ty => hm.len Try.underlying121 ty
  go_enter Try.func40, Try.ntmps40
  go_wp2
  go_ret
  exact ⟨rfl, rfl⟩

/-- What is left behind a Pass. -/
def passL (L : List (Lit × Int)) (i : Int) : List (Lit × Int) := L.filter (fun p => decide (i < p.2))
/-- .. while entries are still to come. -/
def passT (L : List (Lit × Int)) (i : Int) (left : Lit → Bool) : List (Lit × Int) := L.filter (fun p => decide (i < p.2) || left p.1)

theorem passT_start (L : List (Lit × Int)) (i : Int) (hk : ∀ p ∈ L, WideAt.IsKeyLit p.1) : passT L i (fun kl => (lget L kl).isSome) = L := by
  unfold passT
  rw [List.filter_eq_self]
  intro p hp
  have : (lget L p.1).isSome = true := by
    unfold lget
    rw [Option.isSome_map, List.find?_isSome]
    exact ⟨p, hp, WideAt.sameKey_self (hk p hp)⟩
  simp [this]

theorem passT_end (L : List (Lit × Int)) (i : Int) (left : Lit → Bool) (h : ∀ k, left k = false) : passT L i left = passL L i := by
  unfold passT passL
  congr 1
  funext p
  simp [h]

/-- An entry that stays has come. -/
theorem passT_stays (L : List (Lit × Int)) (i : Int) (left : Lit → Bool) (ha : Apart L) (hk : ∀ p ∈ L, WideAt.IsKeyLit p.1) (kl : Lit) (n : Int) (hn : i < n) (hl : left kl = true) (hg : lget (passT L i left) kl = some n) :
    passT L i (fun z => left z && !z.sameKey kl) = passT L i left := by
  unfold passT
  apply List.filter_congr
  intro p hp
  cases hs : p.1.sameKey kl with
  | false => simp [hs]
  | true =>
    have e := WideAt.sameKey_eq hs
    have hm := mem_of_lget hg
    have hm' : (kl, n) ∈ L := (List.mem_filter.1 hm).1
    have h1 := lget_of_mem ha (hk p hp) (show (p.1, p.2) ∈ L from hp)
    have h2 := lget_of_mem ha (e ▸ hk p hp) hm'
    rw [e] at h1
    have : p.2 = n := Option.some.inj (h1.symm.trans h2)
    simp [this, hn]

/-- An entry that goes has come, and is struck. -/
theorem passT_struck (L : List (Lit × Int)) (i : Int) (left : Lit → Bool) (ha : Apart L) (hk : ∀ p ∈ L, WideAt.IsKeyLit p.1) (kl : Lit) (n : Int) (hn : n ≤ i) (hg : lget (passT L i left) kl = some n) :
    ldel (passT L i left) kl = passT L i (fun z => left z && !z.sameKey kl) := by
  unfold passT ldel
  rw [List.filter_filter]
  apply List.filter_congr
  intro p hp
  cases hs : p.1.sameKey kl with
  | false => simp [hs]
  | true =>
    have e := WideAt.sameKey_eq hs
    have hm := mem_of_lget hg
    have hm' : (kl, n) ∈ L := (List.mem_filter.1 hm).1
    have h1 := lget_of_mem ha (hk p hp) (show (p.1, p.2) ∈ L from hp)
    have h2 := lget_of_mem ha (e ▸ hk p hp) hm'
    rw [e] at h1
    have : p.2 = n := Option.some.inj (h1.symm.trans h2)
    have : ¬ i < n := by omega
    simp_all

theorem strike_twice' (left : Lit → Bool) (kl : Lit) : (fun z : Lit => (left z && !z.sameKey kl) && !z.sameKey kl) = fun z => left z && !z.sameKey kl := Maps.strike_twice left kl

def PassPost (tb mb : Nat) (limit floor : Int) (L : List (Lit × Int)) (n : Int) (w : World) (e : Ending) (w' : World) : Prop :=
  e = .returned (.int .i64 n) ∧ Tab w' tb mb limit floor L ∧ Keep (TwoB tb mb) w w'

theorem pass_any (tb mb : Nat) (limit floor : Int) (L : List (Lit × Int)) (i : Int) (w : World) (T : Tab w tb mb limit floor L) (hn : L.length < maxLen) (fl' : Int) (hf' : (floor ≤ i ∧ fl' = 0) ∨ (i < floor ∧ fl' = floor)) :
    Calls Try.prog 47 #[.pointer (some ⟨tb, 0, none⟩), .int .i64 i] w (PassPost tb mb limit fl' (passL L i) ((L.length : Int) - (passL L i).length) w) := by
  have hf := Lib.hid hf'
  clear hf'
  have hri := T.map.rising law9
  have hap := T.map.apart law9
  have hkeys := Lib.hid hri.2
  have hle : (passL L i).length ≤ L.length := List.length_filter_le _ _
  clear hri
  unfold maxLen at hn
  have c0 := blk_cell T.blk 0
  have c1 := blk_cell T.blk 1
  have c2 := blk_cell T.blk 2
  have f1 := blk_free T.blk 1
  have hlt := blk_lt T.blk
  have hm := T.map
  have hne := T.ne
  have hblk := Lib.hid T.blk
  clear T
  simp at c0 c1 c2
  have hlen := fun ty => hm.len Try.underlying121 ty
  go_enter Try.func47, Try.ntmps47
  go_wp2_with (first
    | (at_range; refine wpList_mrange _ rfl _ 121 rfl 9 3 law9 Try.underlying121 encI mb L rfl hm ?_; intro w0 hrg0 hk0 hs0))
  go_frame
  have hb0 := blk_keep hblk.out hk0 (fun h => h)
  have hkk0 : Keep (TwoB tb mb) w w0 := hk0.none
  have hL0 := passT_start L i hkeys.out
  have Hg0 := Lib.hid (show RangeAt Try.prog 9 encI w0 mb w.heap.size (passT L i (fun kl => (lget L kl).isSome)) (fun kl => (lget L kl).isSome) L.length by rw [hL0]; exact hrg0)
  have Hb0 := Lib.hid hb0
  have HL := Lib.hid hlen
  clear hL0 hrg0 hb0 hlen c0 c1 c2 f1 hs0
  go_loopw [6] (fun _ wr => ∃ left cnt, RangeAt Try.prog 9 encI wr mb w.heap.size (passT L i left) left cnt ∧ wr.heap[tb]? = some (.cells #[.int .i64 limit, .int .i64 floor, .map (some mb)] 123) ∧ Keep (TwoB tb mb) w wr) (fun _ wr => wr.rangeLeft mb w.heap.size)
  case atStart => exact ⟨_, _, Hg0.out, Hb0.out, hkk0⟩
  case round =>
    obtain ⟨left, cnt, hrg, hbl, hk⟩ := hrel
    have c0 := blk_cell hbl 0
    have c1 := blk_cell hbl 1
    have c2 := blk_cell hbl 2
    have f1 := blk_free hbl 1
    have hlr := blk_lt hbl
    have Hbl := Lib.hid hbl
    clear hbl
    simp at c0 c1 c2
    go_wp2_with (first
      | (at_next; refine wpList_mnext _ rfl _ rfl 9 law9 encI Value.string inv9 mb w.heap.size _ left cnt rfl hrg ?_ ?_))
    · intro _ hl0
      have hm1 := hrg.map
      rw [passT_end L i left hl0] at hm1
      have hlen1 := fun ty => hm1.len Try.underlying121 ty
      have hlen2 := fun ty => (hm1.setCell (a := ⟨tb, 1, none⟩) (Ne.symm hne) (.int .i64 0)).len Try.underlying121 ty
      have Hm1 := Lib.hid hm1
      clear hm1
      rcases hf.out with ⟨h1, rfl⟩ | ⟨h1, rfl⟩
      · go_wp2
        go_ret
        refine ⟨rfl, ⟨?_, Hm1.out.setCell (Ne.symm hne) _⟩, hk.setCell (Or.inr (Or.inl rfl)) _⟩
        have := blk_setCell (i := 1) Hbl.out (.int .i64 0); simpa using this
      · go_wp2
        go_ret
        exact ⟨rfl, ⟨Hbl.out, Hm1.out⟩, hk⟩
    · intro s x kl w1 cnt1 hkey hl hx hrg1 hlt1 hk1 hs1 hen
      simp only [encI] at hen ⊢
      have hr1 : w.heap.size ≠ tb := by omega
      have d2 := (hk1.cell (p := ⟨tb, 2, none⟩) hlr (by simpa [OneB] using Ne.symm hr1)).trans c2
      have hbl1 := blk_keep Hbl.out hk1 (by simpa [OneB] using Ne.symm hr1)
      have hl1 := blk_lt hbl1
      have Hbl1 := Lib.hid hbl1
      have hkk : Keep (TwoB tb mb) w w1 := hk.trans' hk1 (fun j hj e => by have : j = w.heap.size := e; omega)
      clear hbl1
      by_cases hxi : x ≤ i
      · go_wp2_with (first
          | (at_delete; refine wpList_mdrop_range _ rfl _ _ 121 9 rfl 3 law9 Try.underlying121 encI mb w.heap.size _ _ _ rfl hrg1 _ _ rfl hkey ?_; intro w2 cnt2 hrg2 hle2 hturn; go_frame))
        rw [strike_twice'] at hrg2
        go_roundw
        case rel => exact ⟨_, cnt2, by rw [← passT_struck L i left hap hkeys.out kl x hxi hx]; exact hrg2, (hturn.grown.block tb hl1 (by simpa using hne)).trans Hbl1.out, hkk.turned hturn (Or.inr (Or.inr rfl))⟩
        case measure => rw [hrg2.left_eq, hrg.left_eq]; omega
      · go_wp2
        go_roundw
        case rel => exact ⟨_, cnt1, by rw [passT_stays L i left hap hkeys.out kl x (by omega) hl hx]; exact hrg1, Hbl1.out, hkk⟩
        case measure => rw [hrg1.left_eq, hrg.left_eq]; exact hlt1
end Go.Proofs.Ytieoejilppgebaa.Hd
