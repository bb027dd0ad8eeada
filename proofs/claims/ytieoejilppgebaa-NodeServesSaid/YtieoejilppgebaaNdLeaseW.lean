/- What the functions of package lease come to. -/
import Derived.Test.YtieoejilppgebaaRows
import Derived.Test.YtieoejilppgebaaLibMap
import Derived.Test.YtieoejilppgebaaLibRange
namespace Go.Proofs.Ytieoejilppgebaa.Ls
open Go Go.RowKit Go.Maps
set_option maxRecDepth 100000

def encO (x : Int × Int) : Value := .agg #[.int .i64 x.1, .int .i64 x.2]
theorem law9 : Keyed Try.prog 9 := string_keyed Try.underlying9
theorem zero61 (w : World) : (zeroValue 114).run Try.prog w = .ok (.agg #[.int .i64 0, .int .i64 0]) w := by kernel_rfl
def kS (s : ByteArray) : Lit := .string s.data.toList
theorem kS_key (s : ByteArray) : WideAt.IsKeyLit (kS s) := trivial
theorem inv9 (key : Value) (kl : Lit) (h : keyOf Try.prog 9 key = some kl) : ∃ s, key = .string s := keyOf_string_inv Try.underlying9 h

/-- A table of package lease: the struct in block tb, its map in block mb. -/
structure Tab (w : World) (tb mb : Nat) (limit ticks last : Int) (L : List (Lit × (Int × Int))) : Prop where
  blk : w.heap[tb]? = some (.cells #[.int .i64 limit, .int .i64 ticks, .map (some mb), .int .i64 last] 112 (0, 0))
  map : MapAt Try.prog 9 encO w mb L

section
variable {w w' : World} {tb mb : Nat} {limit ticks last : Int} {L : List (Lit × (Int × Int))}
theorem Tab.keep {S : Nat → Prop} (T : Tab w tb mb limit ticks last L) (hk : Keep S w w') (h1 : ¬ S tb) (h2 : ¬ S mb) : Tab w' tb mb limit ticks last L :=
  ⟨blk_keep T.blk hk h1, T.map.keep hk h2⟩
theorem Tab.ne (T : Tab w tb mb limit ticks last L) : tb ≠ mb := by
  intro e
  obtain ⟨es, clock, h, _⟩ := T.map
  rw [← e, T.blk] at h
  cases h
end

theorem new_any (limit ticks t' : Int) (w : World) (ht : max ticks 1 = t') :
    Calls Try.prog 59 #[.int .i64 limit, .int .i64 ticks] w fun e w' => e = .returned (.pointer (some ⟨w.heap.size + 1, 0, none⟩)) ∧ Tab w' (w.heap.size + 1) w.heap.size limit t' 0 [] ∧ Keep NoB w w' ∧ w'.heap.size = w.heap.size + 2 := by
  have hmm := @run_makeMap Try.prog
  have Ht := Lib.hid ht
  clear ht
  go_enter Try.func59, Try.ntmps59
  go_wp2_with (refine wpList_max2 _ rfl _ _ _ _ rfl _ _ rfl rfl t' Ht.out ?_)
  go_ret
  refine ⟨rfl, ⟨?_, ?_⟩, ?_, ?_⟩
  · have := blk_new (w.alloc (.map #[] 0)) (.cells #[.int .i64 limit, .int .i64 t', .map (some w.heap.size), .int .i64 0] 112); simpa using this
  · exact (MapAt.made w).alloc _
  · (repeat (with_reducible first | exact Keep.refl _ _ | assumption | refine Keep.alloc ?_ _ | refine Keep.drewN ?_ _ | refine Keep.drew ?_ | refine Keep.setCell ?_ (by first | (left; simp; done) | (left; simp; omega) | (right; simp [NoB, OneB, TwoB]; done)) _))
  · simp

theorem intAdd (x y : Int) (w : World) (h : -9223372036854775808 ≤ x + y ∧ x + y ≤ 9223372036854775807) : (Op.intArith .add .i64 x y).run Try.prog w = .ok (.int .i64 (x + y)) w := by
  have : IntKind.i64.wrap (x + y) = x + y := IntWalk.i64_in _ h
  simp [Op.intArith, this]

theorem add_any (tb : Nat) (last : Int) (w : World) (c3 : w.cell? ⟨tb, 3, none⟩ = some (.int .i64 last)) (f3 : w.frozen? ⟨tb, 3, none⟩ = false) (h0 : 0 ≤ last) (h1 : last < 9223372036854775807) :
    Calls Try.prog 55 #[.pointer (some ⟨tb, 3, none⟩), .int .i64 1] w fun e w' => e = .returned (.int .i64 (last + 1)) ∧ w' = w.setCell ⟨tb, 3, none⟩ (.int .i64 (last + 1)) := by
  have hadd := run_call_add (P := Try.prog) Try.func61 (by kernel_rfl) (by kernel_rfl) (by kernel_rfl) .i64 (by kernel_rfl) c3 f3 (intAdd last 1 w (by omega))
  go_enter Try.func55, Try.ntmps55
  go_wp2
  go_ret
  exact ⟨rfl, rfl⟩

theorem store_any (tb : Nat) (last v : Int) (w : World) (c3 : w.cell? ⟨tb, 3, none⟩ = some (.int .i64 last)) (f3 : w.frozen? ⟨tb, 3, none⟩ = false) :
    Calls Try.prog 60 #[.pointer (some ⟨tb, 3, none⟩), .int .i64 v] w fun e w' => e = .returned (.tuple #[]) ∧ w' = w.setCell ⟨tb, 3, none⟩ (.int .i64 v) := by
  have hst := run_call_store (P := Try.prog) (k := .i64) (y := v) Try.func62 (by kernel_rfl) (by kernel_rfl) (by kernel_rfl) (by kernel_rfl) c3 f3
  go_enter Try.func60, Try.ntmps60
  go_wp2
  go_end0
  exact ⟨rfl, rfl⟩


theorem len_any (tb mb : Nat) (limit ticks last : Int) (L : List (Lit × (Int × Int))) (w : World) (T : Tab w tb mb limit ticks last L) :
    Calls Try.prog 39 #[.pointer (some ⟨tb, 0, none⟩)] w fun e w' => e = .returned (.int .i64 L.length) ∧ w' = w := by
  have c0 := blk_cell T.blk 0
  have c1 := blk_cell T.blk 1
  have c2 := blk_cell T.blk 2
  have c3 := blk_cell T.blk 3
  have f3 := blk_free T.blk 3
  have hlt := blk_lt T.blk
  have hm := T.map
  have hne := T.ne
  have hblk := Lib.hid T.blk
  clear T
  simp at c0 c1 c2 c3
  have hlen := fun ty => hm.len Try.underlying105 ty
  go_enter Try.func39, Try.ntmps39
  go_wp2
  go_ret
  exact ⟨rfl, rfl⟩

def TabPost (tb mb : Nat) (limit ticks last : Int) (L : List (Lit × (Int × Int))) (v : Value) (w : World) (e : Ending) (w' : World) : Prop :=
  e = .returned v ∧ Tab w' tb mb limit ticks last L ∧ Keep (TwoB tb mb) w w'

theorem clear_any (tb mb : Nat) (limit ticks last : Int) (L : List (Lit × (Int × Int))) (w : World) (T : Tab w tb mb limit ticks last L) :
    Calls Try.prog 35 #[.pointer (some ⟨tb, 0, none⟩)] w (TabPost tb mb limit ticks last [] (.tuple #[]) w) := by
  have c0 := blk_cell T.blk 0
  have c1 := blk_cell T.blk 1
  have c2 := blk_cell T.blk 2
  have c3 := blk_cell T.blk 3
  have f3 := blk_free T.blk 3
  have hlt := blk_lt T.blk
  have hm := T.map
  have hne := T.ne
  have hblk := Lib.hid T.blk
  clear T
  simp at c0 c1 c2 c3
  go_enter Try.func35, Try.ntmps35
  go_wp2_with (refine wpList_mclear _ rfl _ 105 rfl 9 114 Try.underlying105 encO mb L rfl hm ?_; intro w1 hm1 ht1)
  go_end0
  exact ⟨rfl, ⟨(ht1.grown.block tb hlt (by simpa using hne)).trans hblk.out, hm1⟩, (Keep.refl _ w).turned ht1 (Or.inr (Or.inr rfl))⟩

theorem kill_any (tb mb : Nat) (limit ticks last : Int) (L : List (Lit × (Int × Int))) (s : ByteArray) (w : World) (T : Tab w tb mb limit ticks last L) (hs : s.size ≤ maxLen) (v : Bool) (hv : (lget L (kS s)).isSome = v) :
    Calls Try.prog 44 #[.pointer (some ⟨tb, 0, none⟩), .string s] w (TabPost tb mb limit ticks last (ldel L (kS s)) (.bool v) w) := by
  have c0 := blk_cell T.blk 0
  have c1 := blk_cell T.blk 1
  have c2 := blk_cell T.blk 2
  have c3 := blk_cell T.blk 3
  have f3 := blk_free T.blk 3
  have hlt := blk_lt T.blk
  have hm := T.map
  have hne := T.ne
  have hblk := Lib.hid T.blk
  clear T
  simp at c0 c1 c2 c3
  have hkey := WideMaps.keyOf_string_mk Try.underlying9 hs
  subst hv
  cases hg : lget L (kS s) with
  | none =>
    go_enter Try.func44, Try.ntmps44
    go_wp2_with (first
      | (at_lookup; refine wpList_lookok_miss _ rfl _ _ 105 rfl 9 114 law9 Try.underlying105 encO (zero61 _) mb L rfl (by repeat (with_reducible first | exact hm | refine MapAt.alloc ?_ _ | refine MapAt.drewN ?_ _ | refine MapAt.drew ?_ | refine MapAt.setCell ?_ (by simp; omega) _)) _ _ rfl hkey hg ?_)
      | (at_delete; refine wpList_mdrop _ rfl _ _ 105 9 rfl 114 law9 Try.underlying105 encO mb L rfl (by repeat (with_reducible first | exact hm | refine MapAt.alloc ?_ _ | refine MapAt.drewN ?_ _ | refine MapAt.drew ?_ | refine MapAt.setCell ?_ (by simp; omega) _)) _ _ rfl hkey ?_; intro w1 hm1 ht1))
    go_ret
    have hk := ((Keep.refl (TwoB tb mb) w).alloc (.cells #[.int .i64 0, .int .i64 0] 114)).turned ht1 (Or.inr (Or.inr rfl))
    exact ⟨rfl, ⟨(ht1.grown.block tb (by simp; omega) (by simpa using hne)).trans (blk_alloc hblk.out), hm1⟩, hk⟩
  | some x =>
    obtain ⟨x1, x2⟩ := x
    go_enter Try.func44, Try.ntmps44
    go_wp2_with (first
      | (at_lookup; refine wpList_lookok_hit _ rfl _ _ 105 rfl 9 114 law9 Try.underlying105 encO (zero61 _) mb L rfl (by repeat (with_reducible first | exact hm | refine MapAt.alloc ?_ _ | refine MapAt.drewN ?_ _ | refine MapAt.drew ?_ | refine MapAt.setCell ?_ (by simp; omega) _)) _ _ rfl hkey _ hg ?_; simp only [encO])
      | (at_delete; refine wpList_mdrop _ rfl _ _ 105 9 rfl 114 law9 Try.underlying105 encO mb L rfl (by repeat (with_reducible first | exact hm | refine MapAt.alloc ?_ _ | refine MapAt.drewN ?_ _ | refine MapAt.drew ?_ | refine MapAt.setCell ?_ (by simp; omega) _)) _ _ rfl hkey ?_; intro w1 hm1 ht1))
    go_ret
    have hk := ((Keep.refl (TwoB tb mb) w).alloc (.cells #[.int .i64 x1, .int .i64 x2] 114)).turned ht1 (Or.inr (Or.inr rfl))
    exact ⟨rfl, ⟨(ht1.grown.block tb (by simp; omega) (by simpa using hne)).trans (blk_alloc hblk.out), hm1⟩, hk⟩
end Go.Proofs.Ytieoejilppgebaa.Ls
