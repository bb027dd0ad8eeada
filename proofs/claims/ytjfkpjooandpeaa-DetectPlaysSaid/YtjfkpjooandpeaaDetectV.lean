/- Beat and New of package detect; what a tick leaves (plain). -/
import Derived.Test.YtjfkpjooandpeaaDetectW
namespace Go.Proofs.Ytjfkpjooandpeaa
open Go Go.RowKit Go.Maps

abbrev DL := List (Lit × Int)
def DPost (tb mb : Nat) (pat ch : Int) (L : DL) (r : Value) (w : World) (e : Ending) (w' : World) : Prop :=
  e = .returned r ∧ Tab w' tb mb pat ch L ∧ Keep (TwoB tb mb) w w'



/-! ### Beat -/
theorem beat_no (tb mb : Nat) (pat ch : Int) (L : DL) (s : ByteArray) (w : World) (T : Tab w tb mb pat ch L) (hs : s.size ≤ maxLen) (hg : lget L (kT s) = none) :
    Calls Try.prog 11 #[.pointer (some ⟨tb, 0, none⟩), .string s] w fun e w' => e = .returned (.bool false) ∧ w' = w := by
  have c0 := blk_cell T.blk 0
  have c1 := blk_cell T.blk 1
  have c2 := blk_cell T.blk 2
  have f2 := blk_free T.blk 2
  have hlt := blk_lt T.blk
  have hm := T.map
  have hne := T.ne
  have hblk := Lib.hid T.blk
  clear T
  simp at c0 c1 c2
  have hkey : keyOf Try.prog 9 (.string s) = some (kT s) := WideMaps.keyOf_string_mk Try.underlying9 hs
  go_enter Try.func11, Try.ntmps11
  go_wp2_with (first
    | (at_lookup; refine wpList_lookok_miss _ rfl _ _ 46 rfl 9 3 law9 Try.underlying46 encI (zero3 _) mb L rfl (by repeat (with_reducible first | exact hm | refine MapAt.alloc ?_ _ | refine MapAt.drewN ?_ _ | refine MapAt.drew ?_ | refine MapAt.setCell ?_ (by simp; omega) _)) _ _ rfl hkey hg ?_))
  go_ret
  exact ⟨rfl, rfl⟩

theorem beat_zero (tb mb : Nat) (pat ch : Int) (L : DL) (s : ByteArray) (w : World) (T : Tab w tb mb pat ch L) (hs : s.size ≤ maxLen) (hn : L.length < maxLen) (hg : lget L (kT s) = some 0) (h0 : 0 ≤ ch) (h1 : ch ≤ 1000000000) :
    Calls Try.prog 11 #[.pointer (some ⟨tb, 0, none⟩), .string s] w (DPost tb mb pat (ch + 1) (lput L (kT s) pat) (.bool true) w) := by
  have c0 := blk_cell T.blk 0
  have c1 := blk_cell T.blk 1
  have c2 := blk_cell T.blk 2
  have f2 := blk_free T.blk 2
  have hlt := blk_lt T.blk
  have hm := T.map
  have hne := T.ne
  have hblk := Lib.hid T.blk
  clear T
  simp at c0 c1 c2
  have hkey : keyOf Try.prog 9 (.string s) = some (kT s) := WideMaps.keyOf_string_mk Try.underlying9 hs
  go_enter Try.func11, Try.ntmps11
  go_wp2_with (first
    | (at_lookup; refine wpList_lookok_hit _ rfl _ _ 46 rfl 9 3 law9 Try.underlying46 encI (zero3 _) mb L rfl (by repeat (with_reducible first | exact hm | refine MapAt.alloc ?_ _ | refine MapAt.drewN ?_ _ | refine MapAt.drew ?_ | refine MapAt.setCell ?_ (by simp; omega) _)) _ _ rfl hkey _ hg ?_; simp only [encI]))
  refine wp_region_tail 9 (by kernel_rfl) (by kernel_rfl) ?_
  simp only [List.take_succ_cons, List.take_zero, List.drop_succ_cons, List.drop_zero]
  repeat still_step
  refine wpStill_nil ?_
  refine wpList_mstore _ rfl _ _ _ 46 rfl 9 3 law9 Try.underlying46 encI mb L rfl (by repeat (with_reducible first | exact hm | refine MapAt.alloc ?_ _ | refine MapAt.drewN ?_ _ | refine MapAt.drew ?_ | refine MapAt.setCell ?_ (by simp; omega) _)) hn _ _ pat rfl rfl hkey ?_
  intro w1 hm1 ht1
  have hb1 := (ht1.grown.block tb (by simpa using hlt) (by simpa using hne)).trans (blk_drew hblk.out)
  have d2 := blk_cell hb1 2
  have g2 := blk_free hb1 2
  have Hb := Lib.hid hb1
  clear hb1
  simp at d2
  go_wp2_with (go_at_call 21; refine (cadd_any tb ch _ d2 g2 h0 h1).mono ?_; rintro _ w2 ⟨rfl, rfl⟩)
  go_ret
  refine ⟨rfl, ⟨?_, hm1.setCell (Ne.symm hne) _⟩, ?_⟩
  · have := blk_setCell (i := 2) Hb.out (.int .i64 (ch + 1)); simpa using this
  · exact (((Keep.refl _ w).drew).turned ht1 (Or.inr (Or.inr rfl))).setCell (Or.inr (Or.inl rfl)) _

theorem beat_more (tb mb : Nat) (pat ch : Int) (L : DL) (s : ByteArray) (w : World) (T : Tab w tb mb pat ch L) (hs : s.size ≤ maxLen) (hn : L.length < maxLen) (n : Int) (hg : lget L (kT s) = some n) (hz : (n == 0) = false) :
    Calls Try.prog 11 #[.pointer (some ⟨tb, 0, none⟩), .string s] w (DPost tb mb pat ch (lput L (kT s) pat) (.bool false) w) := by
  have c0 := blk_cell T.blk 0
  have c1 := blk_cell T.blk 1
  have c2 := blk_cell T.blk 2
  have f2 := blk_free T.blk 2
  have hlt := blk_lt T.blk
  have hm := T.map
  have hne := T.ne
  have hblk := Lib.hid T.blk
  clear T
  simp at c0 c1 c2
  have hkey : keyOf Try.prog 9 (.string s) = some (kT s) := WideMaps.keyOf_string_mk Try.underlying9 hs
  go_enter Try.func11, Try.ntmps11
  go_wp2_with (first
    | (at_lookup; refine wpList_lookok_hit _ rfl _ _ 46 rfl 9 3 law9 Try.underlying46 encI (zero3 _) mb L rfl (by repeat (with_reducible first | exact hm | refine MapAt.alloc ?_ _ | refine MapAt.drewN ?_ _ | refine MapAt.drew ?_ | refine MapAt.setCell ?_ (by simp; omega) _)) _ _ rfl hkey _ hg ?_; simp only [encI]))
  refine wp_region_tail 9 (by kernel_rfl) (by kernel_rfl) ?_
  simp only [List.take_succ_cons, List.take_zero, List.drop_succ_cons, List.drop_zero]
  repeat still_step
  refine wpStill_nil ?_
  refine wpList_mstore _ rfl _ _ _ 46 rfl 9 3 law9 Try.underlying46 encI mb L rfl (by repeat (with_reducible first | exact hm | refine MapAt.alloc ?_ _ | refine MapAt.drewN ?_ _ | refine MapAt.drew ?_ | refine MapAt.setCell ?_ (by simp; omega) _)) hn _ _ pat rfl rfl hkey ?_
  intro w1 hm1 ht1
  have hb1 := (ht1.grown.block tb (by simpa using hlt) (by simpa using hne)).trans (blk_drew hblk.out)
  have Hb := Lib.hid hb1
  clear hb1
  go_wp2
  go_ret
  exact ⟨rfl, ⟨Hb.out, hm1⟩, ((Keep.refl _ w).drew).turned ht1 (Or.inr (Or.inr rfl))⟩

/-! ### New -/
/-- What the walk is told of a slice of texts. -/
def IsStr (w : World) (a : Option Addr) (len : Nat) (z : Nat → ByteArray) : Prop :=
  len ≤ maxLen ∧ (∀ i, i < len → (z i).size ≤ maxLen) ∧ (len = 0 ∨ ∃ b off, a = some ⟨b, off, none⟩ ∧ b < w.heap.size ∧ ∀ i, i < len → w.cell? ⟨b, off + i, none⟩ = some (.string (z i)))

def newL (p : Int) (z : Nat → ByteArray) : Nat → DL
  | 0 => []
  | k + 1 => lput (newL p z k) (kT (z k)) p

theorem new_any (patience p : Int) (a : Option Addr) (len cap : Nat) (z : Nat → ByteArray) (w : World) (hI : IsStr w a len z) (hl : len ≤ 100000) (hp : max patience 1 = p) :
    Calls Try.prog 8 #[.int .i64 patience, .slice a len cap] w fun e w' => e = .returned (.pointer (some ⟨w.heap.size + 1, 0, none⟩)) ∧ Tab w' (w.heap.size + 1) w.heap.size p 0 (newL p z len) ∧ Keep NoB w w' ∧ (newL p z len).length ≤ len := by
  have hmm := @run_makeMap Try.prog
  obtain ⟨_, hok, hrow⟩ := hI
  have Hp := Lib.hid hp
  clear hp
  go_enter Try.func8, Try.ntmps8
  go_wp2_with (refine wpList_max2 _ rfl _ _ _ _ rfl _ _ rfl rfl p Hp.out ?_)
  have hT : Tab ((w.alloc (.map #[] 0)).alloc (.cells #[.int .i64 p, .map (some w.heap.size), .int .i64 0] 53)) (w.heap.size + 1) w.heap.size p 0 [] := by
    refine ⟨?_, (MapAt.made w).alloc _⟩
    have := blk_new (w.alloc (.map #[] 0)) (.cells #[.int .i64 p, .map (some w.heap.size), .int .i64 0] 53); simpa using this
  have hK : Keep NoB w ((w.alloc (.map #[] 0)).alloc (.cells #[.int .i64 p, .map (some w.heap.size), .int .i64 0] 53)) := by (repeat (with_reducible first | exact Keep.refl _ _ | assumption | refine Keep.alloc ?_ _ | refine Keep.drewN ?_ _ | refine Keep.drew ?_ | refine Keep.setCell ?_ (by first | (left; simp; done) | (left; simp; omega) | (right; simp [NoB, OneB, TwoB]; done)) _))
  try simp at hT
  generalize hW : World.alloc _ _ = W0 at hT hK ⊢
  clear hW
  generalize htb : w.heap.size + 1 = tb at hT ⊢
  generalize hmb : w.heap.size = mb at hT ⊢
  have hlo : w.heap.size ≤ tb := by omega
  have hlo2 : w.heap.size ≤ mb := by omega
  have Htb := Lib.hid htb
  have Hmb := Lib.hid hmb
  clear htb hmb
  go_loopw [15] (fun i wr => ∃ k : Nat, k ≤ len ∧ i = .int .i64 k ∧ Tab wr tb mb p 0 (newL p z k) ∧ (newL p z k).length ≤ k ∧ Keep NoB w wr) (fun i _ => len - (intOf i).toNat)
  case atStart => exact ⟨0, Nat.zero_le _, rfl, hT, Nat.le_refl _, hK⟩
  case round =>
    obtain ⟨k, hk0, rfl, T, hL, hk⟩ := hrel
    by_cases hlt : k < len
    · rcases hrow with h | ⟨b, off, rfl, hb, hc⟩
      · omega
      have hcw1 := hc k hlt
      have hs := hok k hlt
      have hN : newL p z (k + 1) = lput (newL p z k) (kT (z k)) p := rfl
      have hNl : (lput (newL p z k) (kT (z k)) p).length ≤ k + 1 := by
        rw [length_lput (T.map.apart law9)]
        split <;> omega
      have HN := Lib.hid hN
      clear hc hN
      generalize newL p z k = L at *
      generalize hzk : z k = s at hcw1 hs HN hNl
      clear hzk
      have hb0 : b < wr.heap.size := Nat.lt_of_lt_of_le hb hk.size
      have l01 : wr.cell? ⟨b, off + k, none⟩ = some (.string s) := (hk.cell (p := ⟨b, off + k, none⟩) hb (fun h => h)).trans hcw1
      clear hcw1
      have c0 := blk_cell T.blk 0
      have c1 := blk_cell T.blk 1
      have htlt := blk_lt T.blk
      have hm := T.map
      have hne := T.ne
      have hblk := Lib.hid T.blk
      clear T
      simp at c0 c1
      have hkey : keyOf Try.prog 9 (.string s) = some (kT s) := WideMaps.keyOf_string_mk Try.underlying9 hs
      go_wp2_with fail
      refine wp_region_tail 9 (by kernel_rfl) (by kernel_rfl) ?_
      simp only [List.take_succ_cons, List.take_zero, List.drop_succ_cons, List.drop_zero]
      repeat still_step
      refine wpStill_nil ?_
      refine wpList_mstore _ rfl _ _ _ 46 rfl 9 3 law9 Try.underlying46 encI mb L rfl (by repeat (with_reducible first | exact hm | refine MapAt.alloc ?_ _ | refine MapAt.drewN ?_ _ | refine MapAt.drew ?_ | refine MapAt.setCell ?_ (by simp; omega) _)) (by unfold maxLen; omega) _ _ p rfl rfl hkey ?_
      intro w1 hm1 ht1
      have hb1 := (ht1.grown.block tb (by simpa using htlt) (by simpa using hne)).trans (blk_drew hblk.out)
      have Hb := Lib.hid hb1
      clear hb1
      go_wp2_with fail
      go_roundw
      case rel => exact ⟨k + 1, hlt, by go_num, ⟨Hb.out, by rw [HN.out]; exact hm1⟩, by rw [HN.out]; exact hNl, hk.drew.turned ht1 (Or.inl hlo2)⟩
      case measure => simp [intOf]; omega
    · have e : k = len := by omega
      have e2 : newL p z k = newL p z len := by rw [e]
      have E2 := Lib.hid e2
      have hd : decide ((k : Int) < (len : Int)) = false := by simp; omega
      clear e e2
      go_wp2
      go_ret
      exact ⟨by rw [Htb.out]; rfl, by rw [Htb.out, Hmb.out, ← E2.out]; exact T, hk, by rw [← E2.out]; omega⟩
end Go.Proofs.Ytjfkpjooandpeaa
