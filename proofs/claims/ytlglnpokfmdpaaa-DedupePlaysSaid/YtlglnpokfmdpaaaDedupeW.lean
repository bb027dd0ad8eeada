/- What the functions of package dedupe and the small functions of the laws come to. -/
import Derived.Test.YtlglnpokfmdpaaaRows
import Derived.Test.YtlglnpokfmdpaaaLibMap
namespace Go.Proofs.Ytlglnpokfmdpaaa
open Go Go.RowKit Go.Maps

abbrev Last := Int × Int × Int
def encLast (x : Last) : Value := .agg #[.int .i64 x.1, .int .i64 x.2.1, .int .i64 x.2.2]
theorem law3 : Keyed Try.prog 3 := int_keyed Try.underlying3
theorem zero58 (w : World) : (zeroValue 58).run Try.prog w = .ok (.agg #[.int .i64 0, .int .i64 0, .int .i64 0]) w := by kernel_rfl
def kI (s : Int) : Lit := .int .i64 s

/-- A table of package dedupe: the struct in block tb, its map in block mb. -/
structure Tab (w : World) (tb mb : Nat) (limit : Int) (L : List (Lit × Last)) : Prop where
  blk : w.heap[tb]? = some (.cells #[.int .i64 limit, .map (some mb)] 56 (0, 0))
  map : MapAt Try.prog 3 encLast w mb L

theorem Tab.keep {S : Nat → Prop} {w w' : World} {tb mb : Nat} {limit : Int} {L : List (Lit × Last)} (T : Tab w tb mb limit L) (hk : Keep S w w') (h1 : ¬ S tb) (h2 : ¬ S mb) : Tab w' tb mb limit L :=
  ⟨blk_keep T.blk hk h1, T.map.keep hk h2⟩

def lookF (limit : Int) (L : List (Lit × Last)) (s r : Int) : Int × Int × Int :=
  match lget L (kI s) with
  | none => if limit ≤ L.length then (4, 0, 0) else (1, 0, 0)
  | some x => if x.1 < r then (1, 0, 0) else if r < x.1 then (3, 0, 0) else (2, x.2.1, x.2.2)
def LookPost (v : Int × Int × Int) (w : World) (e : Ending) (w' : World) : Prop :=
  e = .returned (.tuple #[.int .i64 v.1, .agg #[.int .i64 v.2.1, .int .i64 v.2.2]]) ∧ Keep NoB w w'


theorem look_miss (tb mb : Nat) (limit s r : Int) (L : List (Lit × Last)) (w : World) (T : Tab w tb mb limit L) (hs : (Lit.int .i64 s).wf = true) (hg : lget L (kI s) = none) :
    Calls Try.prog 10 #[.pointer (some ⟨tb, 0, none⟩), .int .i64 s, .int .i64 r] w (LookPost (if limit ≤ L.length then (4, 0, 0) else (1, 0, 0)) w) := by
  have c0 := blk_cell T.blk 0
  have c1 := blk_cell T.blk 1
  have hlt := blk_lt T.blk
  have hm := T.map
  clear T
  simp at c0 c1
  have hkey := keyOf_int_mk Try.underlying3 hs
  have hlen : ∀ (o1 o2 : Obj) (n : Nat) (ty : TypeId), (Builtin.len_ #[54] ty #[.map (some mb)]).run Try.prog (((w.alloc o1).alloc o2).drewN n) = .ok (.int .i64 L.length) (((w.alloc o1).alloc o2).drewN n) := fun o1 o2 n ty => (((hm.alloc o1).alloc o2).drewN n).len Try.underlying54 ty
  by_cases hl : limit ≤ L.length
  all_goals
    first
      | have hd : decide (limit ≤ (L.length : Int)) = true := by simpa using hl
      | have hd : decide (limit ≤ (L.length : Int)) = false := by simpa using hl
    first
      | rw [if_pos hl]
      | rw [if_neg hl]
    go_enter Try.func10, Try.ntmps10
    go_wp2_with (first
      | (at_lookup; refine wpList_lookok_miss _ rfl _ _ 54 rfl 3 58 law3 Try.underlying54 encLast (zero58 _) mb L rfl (by repeat (with_reducible first | exact hm | refine MapAt.alloc ?_ _ | refine MapAt.drewN ?_ _ | refine MapAt.drew ?_ | refine MapAt.setCell ?_ (by simp; omega) _)) _ _ rfl hkey hg ?_)
      | go_in)
    go_quiet (fail)
    go_wp2
    refine bodyPost_ret ?_ rfl ⟨rfl, ?_⟩
    · simp [results, Try.results10, go_sem]
    · (repeat (with_reducible first | exact Keep.refl _ _ | assumption | refine Keep.alloc ?_ _ | refine Keep.drewN ?_ _ | refine Keep.drew ?_ | refine Keep.setCell ?_ (by first | (left; simp; done) | (left; simp; omega) | (right; simp [NoB, OneB, TwoB]; done)) _))

theorem look_hit (tb mb : Nat) (limit s r : Int) (L : List (Lit × Last)) (w : World) (T : Tab w tb mb limit L) (hs : (Lit.int .i64 s).wf = true) (x y z : Int) (hg : lget L (kI s) = some (x, y, z)) :
    Calls Try.prog 10 #[.pointer (some ⟨tb, 0, none⟩), .int .i64 s, .int .i64 r] w (LookPost (if x < r then (1, 0, 0) else if r < x then (3, 0, 0) else (2, y, z)) w) := by
  have c0 := blk_cell T.blk 0
  have c1 := blk_cell T.blk 1
  have hlt := blk_lt T.blk
  have hm := T.map
  clear T
  simp at c0 c1
  have hkey := keyOf_int_mk Try.underlying3 hs
  have hlen : ∀ (o1 o2 : Obj) (n : Nat) (ty : TypeId), (Builtin.len_ #[54] ty #[.map (some mb)]).run Try.prog (((w.alloc o1).alloc o2).drewN n) = .ok (.int .i64 L.length) (((w.alloc o1).alloc o2).drewN n) := fun o1 o2 n ty => (((hm.alloc o1).alloc o2).drewN n).len Try.underlying54 ty
  by_cases h1 : x < r
  · rw [if_pos h1]
    go_enter Try.func10, Try.ntmps10
    go_wp2_with (first
      | (at_lookup; refine wpList_lookok_hit _ rfl _ _ 54 rfl 3 58 law3 Try.underlying54 encLast (zero58 _) mb L rfl (by repeat (with_reducible first | exact hm | refine MapAt.alloc ?_ _ | refine MapAt.drewN ?_ _ | refine MapAt.drew ?_ | refine MapAt.setCell ?_ (by simp; omega) _)) _ _ rfl hkey _ hg ?_; simp only [encLast])
      | go_in)
    go_quiet (fail)
    go_wp2
    refine bodyPost_ret ?_ rfl ⟨rfl, ?_⟩
    · simp [results, Try.results10, go_sem]
    · (repeat (with_reducible first | exact Keep.refl _ _ | assumption | refine Keep.alloc ?_ _ | refine Keep.drewN ?_ _ | refine Keep.drew ?_ | refine Keep.setCell ?_ (by first | (left; simp; done) | (left; simp; omega) | (right; simp [NoB, OneB, TwoB]; done)) _))
  by_cases h2 : r < x
  · rw [if_neg h1, if_pos h2]
    go_enter Try.func10, Try.ntmps10
    go_wp2_with (first
      | (at_lookup; refine wpList_lookok_hit _ rfl _ _ 54 rfl 3 58 law3 Try.underlying54 encLast (zero58 _) mb L rfl (by repeat (with_reducible first | exact hm | refine MapAt.alloc ?_ _ | refine MapAt.drewN ?_ _ | refine MapAt.drew ?_ | refine MapAt.setCell ?_ (by simp; omega) _)) _ _ rfl hkey _ hg ?_; simp only [encLast])
      | go_in)
    go_quiet (fail)
    go_wp2
    refine bodyPost_ret ?_ rfl ⟨rfl, ?_⟩
    · simp [results, Try.results10, go_sem]
    · (repeat (with_reducible first | exact Keep.refl _ _ | assumption | refine Keep.alloc ?_ _ | refine Keep.drewN ?_ _ | refine Keep.drew ?_ | refine Keep.setCell ?_ (by first | (left; simp; done) | (left; simp; omega) | (right; simp [NoB, OneB, TwoB]; done)) _))
  · rw [if_neg h1, if_neg h2]
    go_enter Try.func10, Try.ntmps10
    go_wp2_with (first
      | (at_lookup; refine wpList_lookok_hit _ rfl _ _ 54 rfl 3 58 law3 Try.underlying54 encLast (zero58 _) mb L rfl (by repeat (with_reducible first | exact hm | refine MapAt.alloc ?_ _ | refine MapAt.drewN ?_ _ | refine MapAt.drew ?_ | refine MapAt.setCell ?_ (by simp; omega) _)) _ _ rfl hkey _ hg ?_; simp only [encLast])
      | go_in)
    go_quiet (fail)
    go_wp2
    go_region
    all_goals
      go_wp2
      refine bodyPost_ret ?_ rfl ⟨rfl, ?_⟩
      · simp [results, Try.results10, go_sem]
      · (repeat (with_reducible first | exact Keep.refl _ _ | assumption | refine Keep.alloc ?_ _ | refine Keep.drewN ?_ _ | refine Keep.drew ?_ | refine Keep.setCell ?_ (by first | (left; simp; done) | (left; simp; omega) | (right; simp [NoB, OneB, TwoB]; done)) _))

theorem look_any (tb mb : Nat) (limit s r : Int) (L : List (Lit × Last)) (w : World) (T : Tab w tb mb limit L) (hs : (Lit.int .i64 s).wf = true) (v : Int × Int × Int) (hv : lookF limit L s r = v) :
    Calls Try.prog 10 #[.pointer (some ⟨tb, 0, none⟩), .int .i64 s, .int .i64 r] w (LookPost v w) := by
  subst hv
  unfold lookF
  cases hg : lget L (kI s) with
  | none => exact look_miss tb mb limit s r L w T hs hg
  | some x => exact look_hit tb mb limit s r L w T hs x.1 x.2.1 x.2.2 hg

end Go.Proofs.Ytlglnpokfmdpaaa
