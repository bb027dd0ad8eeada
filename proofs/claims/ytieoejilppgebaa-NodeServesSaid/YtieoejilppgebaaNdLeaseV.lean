/- What Use, Grant, Tick and Again of package lease come to. -/
import Derived.Test.YtieoejilppgebaaNdLeaseW
import Derived.Deep.RegionHeld3
namespace Go.Proofs.Ytieoejilppgebaa.Ls
open Go Go.RowKit Go.Maps
set_option maxRecDepth 100000



theorem use_miss (tb mb : Nat) (limit ticks last : Int) (L : List (Lit × (Int × Int))) (s : ByteArray) (t : Int) (w : World) (T : Tab w tb mb limit ticks last L) (hs : s.size ≤ maxLen) (hg : lget L (kS s) = none) :
    Calls Try.prog 26 #[.pointer (some ⟨tb, 0, none⟩), .string s, .int .i64 t] w (TabPost tb mb limit ticks last L (.bool false) w) := by
  have c0 := blk_cell T.blk 0
  have c1 := blk_cell T.blk 1
  have c2 := blk_cell T.blk 2
  have c3 := blk_cell T.blk 3
  have f3 := blk_free T.blk 3
  have hlt := blk_lt T.blk
  have hm := T.map
  have hne := T.ne
  have hblk := Lib.hid T.blk
  clear T
  simp at c0 c1 c2 c3
  have hkey := WideMaps.keyOf_string_mk Try.underlying9 hs
  go_enter Try.func26, Try.ntmps26
  go_wp2_with (first
    | (at_lookup; refine wpList_lookok_miss _ rfl _ _ 105 rfl 9 114 law9 Try.underlying105 encO (zero61 _) mb L rfl (by repeat (with_reducible first | exact hm | refine MapAt.alloc ?_ _ | refine MapAt.drewN ?_ _ | refine MapAt.drew ?_ | refine MapAt.setCell ?_ (by simp; omega) _)) _ _ rfl hkey hg ?_))
  go_ret
  exact ⟨rfl, ⟨blk_alloc hblk.out, hm.alloc _⟩, (Keep.refl _ w).alloc _⟩

theorem use_hit (tb mb : Nat) (limit ticks last : Int) (L : List (Lit × (Int × Int))) (s : ByteArray) (t x1 x2 : Int) (w : World) (T : Tab w tb mb limit ticks last L) (hs : s.size ≤ maxLen) (hg : lget L (kS s) = some (x1, x2)) :
    Calls Try.prog 26 #[.pointer (some ⟨tb, 0, none⟩), .string s, .int .i64 t] w (TabPost tb mb limit ticks last (if x1 = t then ldel L (kS s) else L) (.bool (decide (x1 = t))) w) := by
  have c0 := blk_cell T.blk 0
  have c1 := blk_cell T.blk 1
  have c2 := blk_cell T.blk 2
  have c3 := blk_cell T.blk 3
  have f3 := blk_free T.blk 3
  have hlt := blk_lt T.blk
  have hm := T.map
  have hne := T.ne
  have hblk := Lib.hid T.blk
  clear T
  simp at c0 c1 c2 c3
  have hkey := WideMaps.keyOf_string_mk Try.underlying9 hs
  by_cases hx : x1 = t
  · subst hx
    rw [if_pos rfl, decide_eq_true rfl]
    go_enter Try.func26, Try.ntmps26
    go_wp2_with (first
      | (at_lookup; refine wpList_lookok_hit _ rfl _ _ 105 rfl 9 114 law9 Try.underlying105 encO (zero61 _) mb L rfl (by repeat (with_reducible first | exact hm | refine MapAt.alloc ?_ _ | refine MapAt.drewN ?_ _ | refine MapAt.drew ?_ | refine MapAt.setCell ?_ (by simp; omega) _)) _ _ rfl hkey _ hg ?_; simp only [encO])
      | (at_delete; refine wpList_mdrop _ rfl _ _ 105 9 rfl 114 law9 Try.underlying105 encO mb L rfl (by repeat (with_reducible first | exact hm | refine MapAt.alloc ?_ _ | refine MapAt.drewN ?_ _ | refine MapAt.drew ?_ | refine MapAt.setCell ?_ (by simp; omega) _)) _ _ rfl hkey ?_; intro w1 hm1 ht1))
    go_ret
    have hk := ((Keep.refl (TwoB tb mb) w).alloc (.cells #[.int .i64 x1, .int .i64 x2] 114)).turned ht1 (Or.inr (Or.inr rfl))
    exact ⟨rfl, ⟨(ht1.grown.block tb (by simp; omega) (by simpa using hne)).trans (blk_alloc hblk.out), hm1⟩, hk⟩
  · rw [if_neg hx, decide_eq_false hx]
    have hd : (x1 != t) = true := by simpa using hx
    clear hx
    go_enter Try.func26, Try.ntmps26
    go_wp2_with (first
      | (at_lookup; refine wpList_lookok_hit _ rfl _ _ 105 rfl 9 114 law9 Try.underlying105 encO (zero61 _) mb L rfl (by repeat (with_reducible first | exact hm | refine MapAt.alloc ?_ _ | refine MapAt.drewN ?_ _ | refine MapAt.drew ?_ | refine MapAt.setCell ?_ (by simp; omega) _)) _ _ rfl hkey _ hg ?_; simp only [encO]))
    go_ret
    exact ⟨rfl, ⟨blk_alloc hblk.out, hm.alloc _⟩, (Keep.refl _ w).alloc _⟩

def useB (L : List (Lit × (Int × Int))) (k : Lit) (t : Int) : Bool := match lget L k with | some x => decide (x.1 = t) | none => false
def useL (L : List (Lit × (Int × Int))) (k : Lit) (t : Int) : List (Lit × (Int × Int)) := if useB L k t then ldel L k else L

theorem use_any (tb mb : Nat) (limit ticks last : Int) (L : List (Lit × (Int × Int))) (s : ByteArray) (t : Int) (w : World) (T : Tab w tb mb limit ticks last L) (hs : s.size ≤ maxLen) (v : Bool) (hv : useB L (kS s) t = v) (L' : List (Lit × (Int × Int))) (hL : useL L (kS s) t = L') :
    Calls Try.prog 26 #[.pointer (some ⟨tb, 0, none⟩), .string s, .int .i64 t] w (TabPost tb mb limit ticks last L' (.bool v) w) := by
  subst hL hv
  unfold useL useB
  cases hg : lget L (kS s) with
  | none => exact use_miss tb mb limit ticks last L s t w T hs hg
  | some x => simpa using use_hit tb mb limit ticks last L s t x.1 x.2 w T hs hg

theorem grant_full (tb mb : Nat) (limit ticks last : Int) (L : List (Lit × (Int × Int))) (s : ByteArray) (w : World) (T : Tab w tb mb limit ticks last L) (hlim : limit ≤ L.length) :
    Calls Try.prog 25 #[.pointer (some ⟨tb, 0, none⟩), .string s] w (TabPost tb mb limit ticks last L (.tuple #[.int .i64 0, .bool false]) w) := by
  have c0 := blk_cell T.blk 0
  have c1 := blk_cell T.blk 1
  have c2 := blk_cell T.blk 2
  have c3 := blk_cell T.blk 3
  have f3 := blk_free T.blk 3
  have hlt := blk_lt T.blk
  have hm := T.map
  have hne := T.ne
  have hblk := Lib.hid T.blk
  clear T
  simp at c0 c1 c2 c3
  have hlen : ∀ (n : Nat) (ty : TypeId), (Builtin.len_ #[105] ty #[.map (some mb)]).run Try.prog (w.drewN n) = .ok (.int .i64 L.length) (w.drewN n) := fun n ty => (hm.drewN n).len Try.underlying105 ty
  have hd : decide (limit ≤ (L.length : Int)) = true := by simpa using hlim
  go_enter Try.func25, Try.ntmps25
  go_wp2_with fail
  go_quiet (fail)
  go_wp2
  go_ret2
  exact ⟨rfl, ⟨hblk.out, hm⟩, (Keep.refl _ w).drewN _⟩

theorem grant_there (tb mb : Nat) (limit ticks last : Int) (L : List (Lit × (Int × Int))) (s : ByteArray) (w : World) (T : Tab w tb mb limit ticks last L) (hs : s.size ≤ maxLen) (hlim : ¬ limit ≤ L.length) (x1 x2 : Int) (hg : lget L (kS s) = some (x1, x2)) :
    Calls Try.prog 25 #[.pointer (some ⟨tb, 0, none⟩), .string s] w (TabPost tb mb limit ticks last L (.tuple #[.int .i64 0, .bool false]) w) := by
  have c0 := blk_cell T.blk 0
  have c1 := blk_cell T.blk 1
  have c2 := blk_cell T.blk 2
  have c3 := blk_cell T.blk 3
  have f3 := blk_free T.blk 3
  have hlt := blk_lt T.blk
  have hm := T.map
  have hne := T.ne
  have hblk := Lib.hid T.blk
  clear T
  simp at c0 c1 c2 c3
  have hkey := WideMaps.keyOf_string_mk Try.underlying9 hs
  have hlen : ∀ (n : Nat) (ty : TypeId), (Builtin.len_ #[105] ty #[.map (some mb)]).run Try.prog (w.drewN n) = .ok (.int .i64 L.length) (w.drewN n) := fun n ty => (hm.drewN n).len Try.underlying105 ty
  have hd : decide (limit ≤ (L.length : Int)) = false := by simpa using hlim
  go_enter Try.func25, Try.ntmps25
  go_wp2_with fail
  go_quiet (fail)
  generalize hWq : World.drewN w nq = W
  have kW : Keep NoB w W := by rw [← hWq]; exact (Keep.refl _ w).drewN nq
  have bW := blk_keep hblk.out kW (fun h => h)
  have mW := hm.keep kW (fun h => h)
  have zW : W.heap.size = w.heap.size := by rw [← hWq]; rfl
  clear hWq hlen c0 c1 c2 c3 f3
  have d1 := blk_cell bW 1
  have d2 := blk_cell bW 2
  have d3 := blk_cell bW 3
  have g3 := blk_free bW 3
  have hlW := blk_lt bW
  have HbW := Lib.hid bW
  have HzW := Lib.hid zW
  clear bW zW
  simp at d1 d2 d3
  go_wp2_with (first
    | (at_lookup; refine wpList_lookok_hit _ rfl _ _ 105 rfl 9 114 law9 Try.underlying105 encO (zero61 _) mb L rfl (by repeat (with_reducible first | exact mW | refine MapAt.alloc ?_ _ | refine MapAt.drewN ?_ _ | refine MapAt.drew ?_ | refine MapAt.setCell ?_ (by simp; omega) _)) _ _ rfl hkey _ hg ?_; simp only [encO]))
  go_ret2
  exact ⟨rfl, ⟨blk_alloc HbW.out, mW.alloc _⟩, kW.none.alloc _⟩

theorem grant_new (tb mb : Nat) (limit ticks last : Int) (L : List (Lit × (Int × Int))) (s : ByteArray) (w : World) (T : Tab w tb mb limit ticks last L) (hs : s.size ≤ maxLen) (hn : L.length < maxLen) (hlim : ¬ limit ≤ L.length) (hg : lget L (kS s) = none) (h0 : 0 ≤ last) (h1 : last < 9223372036854775807) :
    Calls Try.prog 25 #[.pointer (some ⟨tb, 0, none⟩), .string s] w (TabPost tb mb limit ticks (last + 1) (lput L (kS s) (last + 1, ticks)) (.tuple #[.int .i64 (last + 1), .bool true]) w) := by
  have c0 := blk_cell T.blk 0
  have c1 := blk_cell T.blk 1
  have c2 := blk_cell T.blk 2
  have c3 := blk_cell T.blk 3
  have f3 := blk_free T.blk 3
  have hlt := blk_lt T.blk
  have hm := T.map
  have hne := T.ne
  have hblk := Lib.hid T.blk
  clear T
  simp at c0 c1 c2 c3
  have hkey := WideMaps.keyOf_string_mk Try.underlying9 hs
  have hlen : ∀ (n : Nat) (ty : TypeId), (Builtin.len_ #[105] ty #[.map (some mb)]).run Try.prog (w.drewN n) = .ok (.int .i64 L.length) (w.drewN n) := fun n ty => (hm.drewN n).len Try.underlying105 ty
  have hd : decide (limit ≤ (L.length : Int)) = false := by simpa using hlim
  go_enter Try.func25, Try.ntmps25
  go_wp2_with fail
  go_quiet (fail)
  generalize hWq : World.drewN w nq = W
  have kW : Keep NoB w W := by rw [← hWq]; exact (Keep.refl _ w).drewN nq
  have bW := blk_keep hblk.out kW (fun h => h)
  have mW := hm.keep kW (fun h => h)
  have zW : W.heap.size = w.heap.size := by rw [← hWq]; rfl
  clear hWq hlen c0 c1 c2 c3 f3
  have d1 := blk_cell bW 1
  have d2 := blk_cell bW 2
  have d3 := blk_cell bW 3
  have g3 := blk_free bW 3
  have hlW := blk_lt bW
  have HbW := Lib.hid bW
  have HzW := Lib.hid zW
  clear bW zW
  simp at d1 d2 d3
  go_wp2_with (first
    | (at_lookup; refine wpList_lookok_miss _ rfl _ _ 105 rfl 9 114 law9 Try.underlying105 encO (zero61 _) mb L rfl (by repeat (with_reducible first | exact mW | refine MapAt.alloc ?_ _ | refine MapAt.drewN ?_ _ | refine MapAt.drew ?_ | refine MapAt.setCell ?_ (by simp; omega) _)) _ _ rfl hkey hg ?_))
  generalize hV : World.alloc _ _ = V
  have kV : Keep NoB w V := by rw [← hV]; exact kW.alloc _
  have bV := blk_keep hblk.out kV (fun h => h)
  have mV := hm.keep kV (fun h => h)
  clear hV d1 d2 d3 g3
  have e1 := blk_cell bV 1
  have e2 := blk_cell bV 2
  have e3 := blk_cell bV 3
  have j3 := blk_free bV 3
  have hlV := blk_lt bV
  have HbV := Lib.hid bV
  clear bV
  simp at e1 e2 e3
  go_region_held3 (fun w' => w'.cell? ⟨tb, 1, none⟩ = some (.int .i64 ticks)) (first | go_keep | exact i1 | exact (cell_setCell_ne (by omega)).trans ((cell_setCell_ne (by omega)).trans i1))
    (first
      | (go_at_call 55; refine (add_any tb last _ (by first | exact blk_cell (blk_drew HbV.out) 3 | exact blk_cell (blk_drew (blk_alloc (o' := .cells #[.int .i64 0, .int .i64 0] 114) HbV.out)) 3) (by first | exact blk_free (blk_drew HbV.out) 3 | exact blk_free (blk_drew (blk_alloc (o' := .cells #[.int .i64 0, .int .i64 0] 114) HbV.out)) 3) h0 h1).mono ?_; rintro _ w5 ⟨rfl, hw5⟩
         have k5 : Keep (OneB tb) V w5 := by
           rw [hw5]
           refine Keep.setCell (S := OneB tb) (p := ⟨tb, 3, none⟩) ?_ (Or.inr rfl) _
           (repeat (with_reducible first | exact Keep.refl _ _ | assumption | refine Keep.alloc ?_ _ | refine Keep.drewN ?_ _ | refine Keep.drew ?_ | refine Keep.setCell ?_ (by first | (left; simp; done) | (left; simp; omega) | (right; simp [NoB, OneB, TwoB]; done)) _))
         have b5 : w5.heap[tb]? = some (.cells #[.int .i64 limit, .int .i64 ticks, .map (some mb), .int .i64 (last + 1)] 112) := by
           rw [hw5]
           first
             | exact blk_setCell (i := 3) (blk_drew HbV.out) (.int .i64 (last + 1))
             | exact blk_setCell (i := 3) (blk_drew (blk_alloc (o' := .cells #[.int .i64 0, .int .i64 0] 114) HbV.out)) (.int .i64 (last + 1))
         have i1 := blk_cell b5 1
         have i2 := blk_cell b5 2
         have i3 := blk_lt b5
         have Hb5 := Lib.hid b5
         try
           have hq : w5.heap[V.heap.size]? = some (.cells #[.int .i64 0, .int .i64 0] 114) := by
             rw [hw5]
             exact (Below.heap_setCell _ _ _ _ (by simp; omega)).trans (blk_drew (blk_new V _))
           have q0 := blk_cell hq 0
           have q1 := blk_cell hq 1
           have q2 := blk_free hq 0
           have q3 := blk_free hq 1
           have q4 := blk_lt hq
           have Hq := Lib.hid hq
           clear hq
           simp at q0 q1
         clear hw5 b5
         simp at i1 i2))
  all_goals
    have hVmb : mb < V.heap.size := mV.lt
    have hmt : mb ≠ tb := Ne.symm hne
    first
      | (have hp := blk_setCell (i := 1) (blk_setCell (i := 0) Hq.out (.int .i64 (last + 1))) (.int .i64 ticks)
         have bX := (Below.heap_setCell (World.setCell w5 ⟨V.heap.size, 0, none⟩ (.int .i64 (last + 1))) ⟨V.heap.size, 1, none⟩ (.int .i64 ticks) tb (by simp; omega)).trans ((Below.heap_setCell w5 ⟨V.heap.size, 0, none⟩ (.int .i64 (last + 1)) tb (by simp; omega)).trans Hb5.out)
         simp at hp
         generalize hX : World.setCell _ _ _ = X at bX hp ⊢
         have hsub := Lib.hid (fun (w6 : World) (t : World.mapTurned X.drew w6 mb) => blk_cell ((t.grown.block V.heap.size (blk_lt hp) (by simp; omega)).trans hp) 0)
         have kX : Keep (OneB tb) V X := by
           rw [← hX]
           exact (k5.setCell (p := ⟨V.heap.size, 0, none⟩) (Or.inl (by simp)) _).setCell (p := ⟨V.heap.size, 1, none⟩) (Or.inl (by simp)) _)
      | (have hp := blk_new w5 (.cells #[.int .i64 (last + 1), .int .i64 ticks] 114)
         have bX := blk_alloc (o' := .cells #[.int .i64 (last + 1), .int .i64 ticks] 114) Hb5.out
         generalize hX : World.alloc _ _ = X at hp bX ⊢
         have hv5 : mb < w5.heap.size := Nat.lt_of_lt_of_le hVmb k5.size
         have hsub := Lib.hid (fun (w6 : World) (t : World.mapTurned X.drew w6 mb) => blk_cell ((t.grown.block w5.heap.size (blk_lt hp) (by simp; omega)).trans hp) 0)
         have kX : Keep (OneB tb) V X := by rw [← hX]; exact k5.alloc _)
    have mX := mV.keep kX (fun e => hmt e)
    clear hX
    have x0 := blk_cell hp 0
    have x1 := blk_cell hp 1
    have x2 := blk_cell bX 2
    have x3 := blk_lt hp
    have x4 := blk_lt bX
    have HbX := Lib.hid bX
    clear hp bX
    simp at x0 x1 x2
    go_wp2_with fail
    refine wp_region_tail 6 (by kernel_rfl) (by kernel_rfl) ?_
    simp only [List.take_succ_cons, List.take_zero, List.drop_succ_cons, List.drop_zero]
    repeat still_step
    refine wpStill_nil ?_
    refine wpList_mstore _ rfl _ _ _ 105 rfl 9 114 law9 Try.underlying105 encO mb L rfl mX.drew hn _ _ (last + 1, ticks) rfl rfl hkey ?_
    intro w6 m6 t6
    have y0 := hsub.out w6 t6
    simp at y0
    go_wp2
    go_ret2
    have hk6 : Keep (TwoB tb mb) w w6 := (((kV.none (S := TwoB tb mb)).trans (kX.mono (fun _ e => Or.inl e))).drew).turned t6 (Or.inr (Or.inr rfl))
    exact ⟨rfl, ⟨(t6.grown.block tb x4 (by simpa using hne)).trans HbX.out, m6⟩, hk6⟩
end Go.Proofs.Ytieoejilppgebaa.Ls
