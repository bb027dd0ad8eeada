/- What the functions of package holdoff come to. -/
import Derived.Test.YtieoejilppgebaaRows
import Derived.Test.YtieoejilppgebaaLibMap
import Derived.Test.YtieoejilppgebaaLibRange
namespace Go.Proofs.Ytieoejilppgebaa.Hd
open Go Go.RowKit Go.Maps
set_option maxRecDepth 100000

def encI (x : Int) : Value := .int .i64 x
theorem law9 : Keyed Try.prog 9 := string_keyed Try.underlying9
theorem zero3 (w : World) : (zeroValue 3).run Try.prog w = .ok (.int .i64 0) w := by kernel_rfl
def kS (s : ByteArray) : Lit := .string s.data.toList
theorem kS_key (s : ByteArray) : WideAt.IsKeyLit (kS s) := trivial
theorem inv9 (key : Value) (kl : Lit) (h : keyOf Try.prog 9 key = some kl) : ∃ s, key = .string s := keyOf_string_inv Try.underlying9 h

/-- A table of package holdoff: the struct in block tb, its map in block mb. -/
structure Tab (w : World) (tb mb : Nat) (limit floor : Int) (L : List (Lit × Int)) : Prop where
  blk : w.heap[tb]? = some (.cells #[.int .i64 limit, .int .i64 floor, .map (some mb)] 123 (0, 0))
  map : MapAt Try.prog 9 encI w mb L

theorem Tab.keep {S : Nat → Prop} {w w' : World} {tb mb : Nat} {limit floor : Int} {L : List (Lit × Int)} (T : Tab w tb mb limit floor L) (hk : Keep S w w') (h1 : ¬ S tb) (h2 : ¬ S mb) : Tab w' tb mb limit floor L :=
  ⟨blk_keep T.blk hk h1, T.map.keep hk h2⟩
theorem Tab.ne {w : World} {tb mb : Nat} {limit floor : Int} {L : List (Lit × Int)} (T : Tab w tb mb limit floor L) : tb ≠ mb := by
  intro e
  obtain ⟨es, clock, h, _⟩ := T.map
  rw [← e, T.blk] at h
  cases h

theorem new_any (limit : Int) (w : World) :
    Calls Try.prog 52 #[.int .i64 limit] w fun e w' => e = .returned (.pointer (some ⟨w.heap.size + 1, 0, none⟩)) ∧ Tab w' (w.heap.size + 1) w.heap.size limit 0 [] ∧ Keep NoB w w' ∧ w'.heap.size = w.heap.size + 2 := by
  have hmm := @run_makeMap Try.prog
  go_enter Try.func52, Try.ntmps52
  go_wp2
  go_ret
  refine ⟨rfl, ⟨?_, ?_⟩, ?_, ?_⟩
  · have := blk_new (w.alloc (.map #[] 0)) (.cells #[.int .i64 limit, .int .i64 0, .map (some w.heap.size)] 123); simpa using this
  · exact (MapAt.made w).alloc _
  · (repeat (with_reducible first | exact Keep.refl _ _ | assumption | refine Keep.alloc ?_ _ | refine Keep.drewN ?_ _ | refine Keep.drew ?_ | refine Keep.setCell ?_ (by first | (left; simp; done) | (left; simp; omega) | (right; simp [NoB, OneB, TwoB]; done)) _))
  · simp


/-- What is noted. -/
def noteL (limit : Int) (L : List (Lit × Int)) (k : Lit) (i : Int) : List (Lit × Int) :=
  if i < 1 then L else match lget L k with
    | some n => lput L k (max n i)
    | none => if (L.length : Int) < limit then lput L k (max 0 i) else L
def noteFl (limit floor : Int) (L : List (Lit × Int)) (k : Lit) (i : Int) : Int :=
  if i < 1 then floor else match lget L k with
    | some _ => floor
    | none => if (L.length : Int) < limit then floor else max floor i

def NotePost (tb mb : Nat) (limit floor : Int) (L : List (Lit × Int)) (w : World) (e : Ending) (w' : World) : Prop :=
  e = .returned (.tuple #[]) ∧ Tab w' tb mb limit floor L ∧ Keep (TwoB tb mb) w w'

theorem note_zero (tb mb : Nat) (limit floor : Int) (L : List (Lit × Int)) (s : ByteArray) (i : Int) (w : World) (T : Tab w tb mb limit floor L) (hi : i < 1) :
    Calls Try.prog 45 #[.pointer (some ⟨tb, 0, none⟩), .string s, .int .i64 i] w (NotePost tb mb limit floor L w) := by
  have H := Lib.hid T
  clear T
  go_enter Try.func45, Try.ntmps45
  go_wp2
  go_end0
  exact ⟨rfl, H.out, Keep.refl _ _⟩

theorem note_there (tb mb : Nat) (limit floor : Int) (L : List (Lit × Int)) (s : ByteArray) (i : Int) (w : World) (T : Tab w tb mb limit floor L) (hs : s.size ≤ maxLen) (hn : L.length < maxLen) (hi : ¬ i < 1) (n m : Int) (hg : lget L (kS s) = some n)
    (hm3 : (n < i ∧ m = i) ∨ (n = i ∧ m = i) ∨ (i < n ∧ m = n)) :
    Calls Try.prog 45 #[.pointer (some ⟨tb, 0, none⟩), .string s, .int .i64 i] w (NotePost tb mb limit floor (lput L (kS s) m) w) := by
  have c0 := blk_cell T.blk 0
  have c1 := blk_cell T.blk 1
  have c2 := blk_cell T.blk 2
  have f1 := blk_free T.blk 1
  have hlt := blk_lt T.blk
  have hm := T.map
  have hne := T.ne
  have hblk := Lib.hid T.blk
  clear T
  simp at c0 c1 c2
  have hkey := WideMaps.keyOf_string_mk Try.underlying9 hs
  rcases hm3 with ⟨h1, rfl⟩ | ⟨rfl, rfl⟩ | ⟨h1, rfl⟩
  all_goals
    go_enter Try.func45, Try.ntmps45
    go_wp2_with (first
      | (at_lookup; refine wpList_lookok_hit _ rfl _ _ 121 rfl 9 3 law9 Try.underlying121 encI (zero3 _) mb L rfl (by repeat (with_reducible first | exact hm | refine MapAt.alloc ?_ _ | refine MapAt.drewN ?_ _ | refine MapAt.drew ?_ | refine MapAt.setCell ?_ (by simp; omega) _)) _ _ rfl hkey _ hg ?_; simp only [encI]))
    go_quiet (fail)
    go_wp2_with (first
      | (at_mapUpdate; refine wpList_mstore _ rfl _ _ _ 121 rfl 9 3 law9 Try.underlying121 encI mb L rfl (by repeat (with_reducible first | exact hm | refine MapAt.alloc ?_ _ | refine MapAt.drewN ?_ _ | refine MapAt.drew ?_ | refine MapAt.setCell ?_ (by simp; omega) _)) hn _ _ _ rfl rfl hkey ?_; intro w1 hm1 ht1))
    go_end0
    have hk : Keep (TwoB tb mb) w w1 := ((Keep.refl _ w).drewN nq).turned ht1 (Or.inr (Or.inr rfl))
    exact ⟨rfl, ⟨(ht1.grown.block tb (by simpa using hlt) (by simpa using hne)).trans hblk.out, hm1⟩, hk⟩

theorem note_new (tb mb : Nat) (limit floor : Int) (L : List (Lit × Int)) (s : ByteArray) (i : Int) (w : World) (T : Tab w tb mb limit floor L) (hs : s.size ≤ maxLen) (hn : L.length < maxLen) (hi : ¬ i < 1) (hg : lget L (kS s) = none) (hlim : (L.length : Int) < limit) :
    Calls Try.prog 45 #[.pointer (some ⟨tb, 0, none⟩), .string s, .int .i64 i] w (NotePost tb mb limit floor (lput L (kS s) i) w) := by
  have c0 := blk_cell T.blk 0
  have c1 := blk_cell T.blk 1
  have c2 := blk_cell T.blk 2
  have f1 := blk_free T.blk 1
  have hlt := blk_lt T.blk
  have hm := T.map
  have hne := T.ne
  have hblk := Lib.hid T.blk
  clear T
  simp at c0 c1 c2
  have hkey := WideMaps.keyOf_string_mk Try.underlying9 hs
  have hlen : ∀ (n : Nat) (ty : TypeId), (Builtin.len_ #[121] ty #[.map (some mb)]).run Try.prog (w.drewN n) = .ok (.int .i64 L.length) (w.drewN n) := fun n ty => (hm.drewN n).len Try.underlying121 ty
  go_enter Try.func45, Try.ntmps45
  go_wp2_with (first
    | (at_lookup; refine wpList_lookok_miss _ rfl _ _ 121 rfl 9 3 law9 Try.underlying121 encI (zero3 _) mb L rfl (by repeat (with_reducible first | exact hm | refine MapAt.alloc ?_ _ | refine MapAt.drewN ?_ _ | refine MapAt.drew ?_ | refine MapAt.setCell ?_ (by simp; omega) _)) _ _ rfl hkey hg ?_))
  go_quiet (fail)
  go_wp2_with (first
    | (at_mapUpdate; refine wpList_mstore _ rfl _ _ _ 121 rfl 9 3 law9 Try.underlying121 encI mb L rfl (by repeat (with_reducible first | exact hm | refine MapAt.alloc ?_ _ | refine MapAt.drewN ?_ _ | refine MapAt.drew ?_ | refine MapAt.setCell ?_ (by simp; omega) _)) hn _ _ _ rfl rfl hkey ?_; intro w1 hm1 ht1))
  go_end0
  have hk : Keep (TwoB tb mb) w w1 := ((Keep.refl _ w).drewN nq).turned ht1 (Or.inr (Or.inr rfl))
  exact ⟨rfl, ⟨(ht1.grown.block tb (by simpa using hlt) (by simpa using hne)).trans hblk.out, hm1⟩, hk⟩

theorem note_full (tb mb : Nat) (limit floor : Int) (L : List (Lit × Int)) (s : ByteArray) (i : Int) (w : World) (T : Tab w tb mb limit floor L) (hs : s.size ≤ maxLen) (hi : ¬ i < 1) (hg : lget L (kS s) = none) (hlim : ¬ (L.length : Int) < limit) (m : Int)
    (hm3 : (floor < i ∧ m = i) ∨ (floor = i ∧ m = i) ∨ (i < floor ∧ m = floor)) :
    Calls Try.prog 45 #[.pointer (some ⟨tb, 0, none⟩), .string s, .int .i64 i] w (NotePost tb mb limit m L w) := by
  have c0 := blk_cell T.blk 0
  have c1 := blk_cell T.blk 1
  have c2 := blk_cell T.blk 2
  have f1 := blk_free T.blk 1
  have hlt := blk_lt T.blk
  have hm := T.map
  have hne := T.ne
  have hblk := Lib.hid T.blk
  clear T
  simp at c0 c1 c2
  have hkey := WideMaps.keyOf_string_mk Try.underlying9 hs
  have hlen : ∀ (n : Nat) (ty : TypeId), (Builtin.len_ #[121] ty #[.map (some mb)]).run Try.prog (w.drewN n) = .ok (.int .i64 L.length) (w.drewN n) := fun n ty => (hm.drewN n).len Try.underlying121 ty
  have hd : decide ((L.length : Int) < limit) = false := by simpa using hlim
  rcases hm3 with ⟨h1, rfl⟩ | ⟨rfl, rfl⟩ | ⟨h1, rfl⟩
  all_goals
    go_enter Try.func45, Try.ntmps45
    go_wp2_with (first
      | (at_lookup; refine wpList_lookok_miss _ rfl _ _ 121 rfl 9 3 law9 Try.underlying121 encI (zero3 _) mb L rfl (by repeat (with_reducible first | exact hm | refine MapAt.alloc ?_ _ | refine MapAt.drewN ?_ _ | refine MapAt.drew ?_ | refine MapAt.setCell ?_ (by simp; omega) _)) _ _ rfl hkey hg ?_))
    go_quiet (fail)
    go_wp2
    go_end0
    refine ⟨rfl, ⟨?_, (hm.drewN nq).setCell (Ne.symm hne) _⟩, ?_⟩
    · have := fun x : Int => blk_setCell (i := 1) (show (w.drewN nq).heap[tb]? = _ from hblk.out) (.int .i64 x); simpa using this _
    · exact ((Keep.refl _ w).drewN nq).setCell (Or.inr (Or.inl rfl)) _

theorem note_any (tb mb : Nat) (limit floor : Int) (L : List (Lit × Int)) (s : ByteArray) (i : Int) (w : World) (T : Tab w tb mb limit floor L) (hs : s.size ≤ maxLen) (hn : L.length < maxLen)
    (fl' : Int) (L' : List (Lit × Int)) (hf : noteFl limit floor L (kS s) i = fl') (hL : noteL limit L (kS s) i = L') :
    Calls Try.prog 45 #[.pointer (some ⟨tb, 0, none⟩), .string s, .int .i64 i] w (NotePost tb mb limit fl' L' w) := by
  subst hf hL
  unfold noteFl noteL
  by_cases hi : i < 1
  · simpa only [if_pos hi] using note_zero tb mb limit floor L s i w T hi
  · simp only [if_neg hi]
    cases hg : lget L (kS s) with
    | some n => exact note_there tb mb limit floor L s i w T hs hn hi n _ hg (by omega)
    | none =>
      by_cases hl : (L.length : Int) < limit
      · simp only [if_pos hl]
        rw [show max 0 i = i by omega]
        exact note_new tb mb limit floor L s i w T hs hn hi hg hl
      · simp only [if_neg hl]
        exact note_full tb mb limit floor L s i w T hs hi hg hl _ (by omega)
end Go.Proofs.Ytieoejilppgebaa.Hd
