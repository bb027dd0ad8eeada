/- What the functions of package detect come to: Beat, Alive, Changes, the counter. -/
import Derived.Test.YtjfkpjooandpeaaRows
import Derived.Test.YtjfkpjooandpeaaLibRange
import Derived.Test.YtjfkpjooandpeaaLibKeyS
namespace Go.Proofs.Ytjfkpjooandpeaa
open Go Go.RowKit Go.Maps

def encI (x : Int) : Value := .int .i64 x
theorem law9 : Keyed Try.prog 9 := string_keyed Try.underlying9
theorem zero3 (w : World) : (zeroValue 3).run Try.prog w = .ok (.int .i64 0) w := by kernel_rfl
theorem inv9 (key : Value) (kl : Lit) (h : keyOf Try.prog 9 key = some kl) : ∃ s, key = .string s := keyOf_string_inv Try.underlying9 h

/-- A detector: the struct in block tb, its map in block mb. -/
structure Tab (w : World) (tb mb : Nat) (pat ch : Int) (L : List (Lit × Int)) : Prop where
  blk : w.heap[tb]? = some (.cells #[.int .i64 pat, .map (some mb), .int .i64 ch] 53 (0, 0))
  map : MapAt Try.prog 9 encI w mb L

theorem Tab.keep {S : Nat → Prop} {w w' : World} {tb mb : Nat} {pat ch : Int} {L : List (Lit × Int)} (T : Tab w tb mb pat ch L) (hk : Keep S w w') (h1 : ¬ S tb) (h2 : ¬ S mb) : Tab w' tb mb pat ch L :=
  ⟨blk_keep T.blk hk h1, T.map.keep hk h2⟩
theorem Tab.ne {w : World} {tb mb : Nat} {pat ch : Int} {L : List (Lit × Int)} (T : Tab w tb mb pat ch L) : tb ≠ mb := by
  intro e
  obtain ⟨es, clock, h, _⟩ := T.map
  rw [← e, T.blk] at h
  cases h

/-! ### the counter -/
theorem wrap1 (c : Int) (h0 : 0 ≤ c) (h1 : c ≤ 1000000000) : (Op.intArith .add .i64 c 1) = pure (.int .i64 (c + 1)) := by
  have h := IntKind.wrap_i64 (c + 1)
  have e : IntKind.i64.wrap (c + 1) = c + 1 := by rw [h]; omega
  simp [Op.intArith, e]

theorem cadd_any (tb : Nat) (c : Int) (w : World) (hc : w.cell? ⟨tb, 2, none⟩ = some (.int .i64 c)) (hz : w.frozen? ⟨tb, 2, none⟩ = false) (h0 : 0 ≤ c) (h1 : c ≤ 1000000000) :
    Calls Try.prog 21 #[.pointer (some ⟨tb, 2, none⟩), .int .i64 1] w fun e w' => e = .returned (.int .i64 (c + 1)) ∧ w' = w.setCell ⟨tb, 2, none⟩ (.int .i64 (c + 1)) := by
  have hadd := run_call_add (P := Try.prog) Try.func24 (by kernel_rfl) (by kernel_rfl) (by kernel_rfl) .i64 (by kernel_rfl) (y := 1) (s := c + 1) hc hz (by rw [wrap1 c h0 h1]; rfl)
  go_enter Try.func21, Try.ntmps21
  go_wp2
  go_ret
  exact ⟨rfl, rfl⟩

theorem cload_any (tb : Nat) (c : Int) (w : World) (hc : w.cell? ⟨tb, 2, none⟩ = some (.int .i64 c)) :
    Calls Try.prog 23 #[.pointer (some ⟨tb, 2, none⟩)] w fun e w' => e = .returned (.int .i64 c) ∧ w' = w := by
  have hload := run_call_load (P := Try.prog) Try.func27 (by kernel_rfl) (by kernel_rfl) (by kernel_rfl) .i64 (by kernel_rfl) hc
  go_enter Try.func23, Try.ntmps23
  go_wp2
  go_ret
  exact ⟨rfl, rfl⟩


theorem changes_any (tb mb : Nat) (pat ch : Int) (L : List (Lit × Int)) (w : World) (T : Tab w tb mb pat ch L) :
    Calls Try.prog 20 #[.pointer (some ⟨tb, 0, none⟩)] w fun e w' => e = .returned (.int .i64 ch) ∧ w' = w := by
  have c0 := blk_cell T.blk 0
  have c1 := blk_cell T.blk 1
  have c2 := blk_cell T.blk 2
  have f2 := blk_free T.blk 2
  have hlt := blk_lt T.blk
  have hm := T.map
  have hne := T.ne
  have hblk := Lib.hid T.blk
  clear T
  simp at c0 c1 c2
  go_enter Try.func20, Try.ntmps20
  go_wp2_with (go_at_call 23; refine (cload_any tb ch _ c2).mono ?_; rintro _ _ ⟨rfl, rfl⟩)
  go_ret
  exact ⟨rfl, rfl⟩

def aliveB (L : List (Lit × Int)) (k : Lit) : Bool := decide (0 < (lget L k).getD 0)

theorem alive_any (tb mb : Nat) (pat ch : Int) (L : List (Lit × Int)) (s : ByteArray) (w : World) (T : Tab w tb mb pat ch L) (hs : s.size ≤ maxLen) (v : Bool) (hv : aliveB L (kT s) = v) :
    Calls Try.prog 10 #[.pointer (some ⟨tb, 0, none⟩), .string s] w fun e w' => e = .returned (.bool v) ∧ w' = w := by
  have c0 := blk_cell T.blk 0
  have c1 := blk_cell T.blk 1
  have c2 := blk_cell T.blk 2
  have f2 := blk_free T.blk 2
  have hlt := blk_lt T.blk
  have hm := T.map
  have hne := T.ne
  have hblk := Lib.hid T.blk
  clear T
  simp at c0 c1 c2
  have hkey := WideMaps.keyOf_string_mk Try.underlying9 hs
  have hkey' : keyOf Try.prog 9 (.string s) = some (kT s) := hkey
  clear hkey
  subst hv
  unfold aliveB
  have hlook := hm.look law9 Try.underlying46 (zero3 w) hkey'
  clear hkey'
  cases hg : lget L (kT s) with
  | none =>
    rw [hg] at hlook
    simp only [Option.map_none, Option.getD_none] at hlook
    go_enter Try.func10, Try.ntmps10
    go_wp2
    go_ret
    exact ⟨rfl, rfl⟩
  | some n =>
    rw [hg] at hlook
    simp only [Option.map_some, Option.getD_some, encI] at hlook
    go_enter Try.func10, Try.ntmps10
    go_wp2
    go_ret
    exact ⟨rfl, rfl⟩
end Go.Proofs.Ytjfkpjooandpeaa
