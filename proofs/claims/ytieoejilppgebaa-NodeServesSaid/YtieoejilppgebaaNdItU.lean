/- Drop, Peek, Get, Used, Reserved, Release of package lru. -/
import Derived.Test.YtieoejilppgebaaNdItV
namespace Go.Proofs.Ytieoejilppgebaa.It
open Go Go.RowKit Go.Maps
set_option maxRecDepth 100000


/-- The answer of a look-up in the map. -/
theorem look_hit {w : World} {mb : Nat} {N : List TH} {k : ByteArray} {x : TH} (h : Leads w mb N) (hx : fnd N k = some x) : ∃ L, MapAt Try.prog 9 encB w mb L ∧ ((lget L (kS k)).map encB).getD (.pointer none) = .pointer (some ⟨x.b, 0, none⟩) := by
  obtain ⟨L, h1, _, h3⟩ := h
  exact ⟨L, h1, by rw [h3, hx]; rfl⟩
theorem look_miss {w : World} {mb : Nat} {N : List TH} {k : ByteArray} (h : Leads w mb N) (hx : fnd N k = none) : ∃ L, MapAt Try.prog 9 encB w mb L ∧ ((lget L (kS k)).map encB).getD (.pointer none) = .pointer none := by
  obtain ⟨L, h1, _, h3⟩ := h
  exact ⟨L, h1, by rw [h3, hx]; rfl⟩


theorem drop_hit (cb mb : Nat) (room kept : Int) (N : List TH) (k : ByteArray) (x : TH) (w : World) (T : Lru w cb mb room kept N) (hks : k.size ≤ maxLen) (hx : fnd N k = some x) :
    Calls Try.prog 43 #[.pointer (some ⟨cb, 0, none⟩), .string k] w (LruPost cb mb room kept N (dropK N k) (.bool true) w) := by
  obtain ⟨L, hm, hlk⟩ := look_hit T.leads hx
  obtain ⟨rfl, A, B, rfl, _⟩ := fnd_split hx
  have hkey := WideMaps.keyOf_string_mk Try.underlying9 hks
  have HLK := Lib.hid hlk
  rw [(dropK_split T.keys).1]
  obtain ⟨N, hN⟩ : ∃ l, A ++ x :: B = l := ⟨_, rfl⟩
  rw [hN] at T ⊢
  have HN := Lib.hid hN
  clear hx hN hlk
  have c3 := blk_cell T.ring.blk 3
  have c4 := blk_cell T.ring.blk 4
  have c5 := blk_cell T.ring.blk 5
  have c2 := blk_cell T.ring.blk 2
  have f4 := blk_free T.ring.blk 4
  have cl := blk_lt T.ring.blk
  have hcm := T.cm
  have hsum0 : 0 ≤ sumS N := sumS_pos T.pos
  have hk0 := T.kept0
  have hf := T.fits
  have hr := T.room1
  have HT := Lib.hid T
  clear T
  simp at c3 c4 c5 c2
  go_enter Try.func43, Try.ntmps43
  go_wp2_with (at_lookup; refine wpList_look _ rfl _ _ 101 rfl 9 98 law9 Try.underlying101 encB (zero56 _) mb L rfl (by repeat (with_reducible first | exact hm | refine MapAt.alloc ?_ _ | refine MapAt.drewN ?_ _ | refine MapAt.drew ?_ | refine MapAt.setCell ?_ (by simp; omega) _)) _ _ rfl hkey _ HLK.out ?_)
  have hT := HT.out
  rw [← HN.out] at hT
  refine (take_any cb mb room kept A B x _ hT).mono ?_
  rintro _ w2 ⟨rfl, T2, k2⟩
  rw [HN.out] at k2
  go_wp2
  go_ret
  exact ⟨rfl, T2, k2⟩

theorem drop_miss (cb mb : Nat) (room kept : Int) (N : List TH) (k : ByteArray) (w : World) (T : Lru w cb mb room kept N) (hks : k.size ≤ maxLen) (hx : fnd N k = none) :
    Calls Try.prog 43 #[.pointer (some ⟨cb, 0, none⟩), .string k] w fun e w' => e = .returned (.bool false) ∧ w = w' := by
  obtain ⟨L, hm, hlk⟩ := look_miss T.leads hx
  have hkey := WideMaps.keyOf_string_mk Try.underlying9 hks
  have HLK := Lib.hid hlk
  clear hx hlk
  have c3 := blk_cell T.ring.blk 3
  have c4 := blk_cell T.ring.blk 4
  have c5 := blk_cell T.ring.blk 5
  have c2 := blk_cell T.ring.blk 2
  have f4 := blk_free T.ring.blk 4
  have cl := blk_lt T.ring.blk
  have hcm := T.cm
  have hsum0 : 0 ≤ sumS N := sumS_pos T.pos
  have hk0 := T.kept0
  have hf := T.fits
  have hr := T.room1
  have HT := Lib.hid T
  clear T
  simp at c3 c4 c5 c2
  go_enter Try.func43, Try.ntmps43
  go_wp2_with (at_lookup; refine wpList_look _ rfl _ _ 101 rfl 9 98 law9 Try.underlying101 encB (zero56 _) mb L rfl (by repeat (with_reducible first | exact hm | refine MapAt.alloc ?_ _ | refine MapAt.drewN ?_ _ | refine MapAt.drew ?_ | refine MapAt.setCell ?_ (by simp; omega) _)) _ _ rfl hkey _ HLK.out ?_)
  go_ret
  exact ⟨rfl, rfl⟩

/-- Drop, whether the key is there or not. -/
def DropPost (cb mb : Nat) (room kept : Int) (N : List TH) (k : ByteArray) (w : World) (e : Ending) (w' : World) : Prop :=
  e = .returned (.bool (fnd N k).isSome) ∧ Lru w' cb mb room kept (dropK N k) ∧ Keep (LS cb mb N) w w'
theorem drop_any (cb mb : Nat) (room kept : Int) (N : List TH) (k : ByteArray) (w : World) (T : Lru w cb mb room kept N) (hks : k.size ≤ maxLen) :
    Calls Try.prog 43 #[.pointer (some ⟨cb, 0, none⟩), .string k] w (DropPost cb mb room kept N k w) := by
  cases hx : fnd N k with
  | none =>
    refine (drop_miss cb mb room kept N k w T hks hx).mono ?_
    rintro _ _ ⟨rfl, rfl⟩
    exact ⟨by rw [hx]; rfl, by rw [dropK_none (fnd_none hx)]; exact T, Keep.refl _ _⟩
  | some x =>
    refine (drop_hit cb mb room kept N k x w T hks hx).mono ?_
    rintro _ _ ⟨rfl, T', k'⟩
    exact ⟨by rw [hx]; rfl, T', k'⟩


theorem peek_hit (cb mb : Nat) (room kept : Int) (N : List TH) (k : ByteArray) (x : TH) (w : World) (T : Lru w cb mb room kept N) (hks : k.size ≤ maxLen) (hx : fnd N k = some x) :
    Calls Try.prog 33 #[.pointer (some ⟨cb, 0, none⟩), .string k] w fun e w' => e = .returned (.tuple #[iV x.v, .bool true]) ∧ Keep NoB w w' := by
  obtain ⟨L, hm, hlk⟩ := look_hit T.leads hx
  obtain ⟨rfl, A, B, rfl, _⟩ := fnd_split hx
  have hkey := WideMaps.keyOf_string_mk Try.underlying9 hks
  have HLK := Lib.hid hlk
  obtain ⟨p', n', hb⟩ := T.ring.seg.mem x (by simp)
  have x1 := blk_cell hb 1
  have x2 := blk_cell hb 2
  have x3 := blk_cell hb 3
  have x4 := blk_cell hb 4
  have x5 := blk_cell hb 5
  have xl := blk_lt hb
  simp at x1 x2 x3 x4 x5
  obtain ⟨N, hN⟩ : ∃ l, A ++ x :: B = l := ⟨_, rfl⟩
  rw [hN] at T
  clear hx hN hlk hb
  have c3 := blk_cell T.ring.blk 3
  have c4 := blk_cell T.ring.blk 4
  have c5 := blk_cell T.ring.blk 5
  have c2 := blk_cell T.ring.blk 2
  have f4 := blk_free T.ring.blk 4
  have cl := blk_lt T.ring.blk
  have hcm := T.cm
  have hsum0 : 0 ≤ sumS N := sumS_pos T.pos
  have hk0 := T.kept0
  have hf := T.fits
  have hr := T.room1
  have HT := Lib.hid T
  clear T
  simp at c3 c4 c5 c2
  go_enter Try.func33, Try.ntmps33
  go_wp2_with (at_lookup; refine wpList_look _ rfl _ _ 101 rfl 9 98 law9 Try.underlying101 encB (zero56 _) mb L rfl (by repeat (with_reducible first | exact hm | refine MapAt.alloc ?_ _ | refine MapAt.drewN ?_ _ | refine MapAt.drew ?_ | refine MapAt.setCell ?_ (by simp; omega) _)) _ _ rfl hkey _ HLK.out ?_)
  exact bodyPost_ret (v := .tuple #[iV x.v, .bool true]) (by simp [results, Try.results33, go_sem, iV]) rfl ⟨rfl, by (repeat (with_reducible first | exact Keep.refl _ _ | assumption | refine Keep.alloc ?_ _ | refine Keep.drewN ?_ _ | refine Keep.drew ?_ | refine Keep.setCell ?_ (by first | (left; simp; done) | (left; simp; omega) | (right; simp [NoB, OneB, TwoB]; done)) _))⟩

set_option maxHeartbeats 1000000 in
theorem peek_miss (cb mb : Nat) (room kept : Int) (N : List TH) (k : ByteArray) (w : World) (T : Lru w cb mb room kept N) (hks : k.size ≤ maxLen) (hx : fnd N k = none) :
    Calls Try.prog 33 #[.pointer (some ⟨cb, 0, none⟩), .string k] w fun e w' => e = .returned (.tuple #[.agg #[.int .i64 0, .int .i64 0, .bool false, .string ⟨#[]⟩, .int .i64 0], .bool false]) ∧ Keep NoB w w' := by
  obtain ⟨L, hm, hlk⟩ := look_miss T.leads hx
  have hkey := WideMaps.keyOf_string_mk Try.underlying9 hks
  have HLK := Lib.hid hlk
  clear hx hlk
  have c3 := blk_cell T.ring.blk 3
  have c4 := blk_cell T.ring.blk 4
  have c5 := blk_cell T.ring.blk 5
  have c2 := blk_cell T.ring.blk 2
  have f4 := blk_free T.ring.blk 4
  have cl := blk_lt T.ring.blk
  have hcm := T.cm
  have hsum0 : 0 ≤ sumS N := sumS_pos T.pos
  have hk0 := T.kept0
  have hf := T.fits
  have hr := T.room1
  have HT := Lib.hid T
  clear T
  simp at c3 c4 c5 c2
  go_enter Try.func33, Try.ntmps33
  go_wp2_with (at_lookup; refine wpList_look _ rfl _ _ 101 rfl 9 98 law9 Try.underlying101 encB (zero56 _) mb L rfl (by repeat (with_reducible first | exact hm | refine MapAt.alloc ?_ _ | refine MapAt.drewN ?_ _ | refine MapAt.drew ?_ | refine MapAt.setCell ?_ (by simp; omega) _)) _ _ rfl hkey _ HLK.out ?_)
  exact bodyPost_ret (v := .tuple #[.agg #[.int .i64 0, .int .i64 0, .bool false, .string ⟨#[]⟩, .int .i64 0], .bool false]) (by simp [results, Try.results33, go_sem, iV, iZ]) rfl ⟨rfl, by (repeat (with_reducible first | exact Keep.refl _ _ | assumption | refine Keep.alloc ?_ _ | refine Keep.drewN ?_ _ | refine Keep.drew ?_ | refine Keep.setCell ?_ (by first | (left; simp; done) | (left; simp; omega) | (right; simp [NoB, OneB, TwoB]; done)) _))⟩

set_option maxHeartbeats 1000000 in
theorem get_miss (cb mb : Nat) (room kept : Int) (N : List TH) (k : ByteArray) (w : World) (T : Lru w cb mb room kept N) (hks : k.size ≤ maxLen) (hx : fnd N k = none) :
    Calls Try.prog 24 #[.pointer (some ⟨cb, 0, none⟩), .string k] w fun e w' => e = .returned (.tuple #[.agg #[.int .i64 0, .int .i64 0, .bool false, .string ⟨#[]⟩, .int .i64 0], .bool false]) ∧ Keep NoB w w' := by
  have HX := Lib.hid hx
  clear hx
  have c3 := blk_cell T.ring.blk 3
  have c4 := blk_cell T.ring.blk 4
  have c5 := blk_cell T.ring.blk 5
  have c2 := blk_cell T.ring.blk 2
  have f4 := blk_free T.ring.blk 4
  have cl := blk_lt T.ring.blk
  have hcm := T.cm
  have hsum0 : 0 ≤ sumS N := sumS_pos T.pos
  have hk0 := T.kept0
  have hf := T.fits
  have hr := T.room1
  have HT := Lib.hid T
  clear T
  simp at c3 c4 c5 c2
  go_enter Try.func24, Try.ntmps24
  have k0 : Keep NoB w (w.alloc (.cells #[.int .i64 0, .int .i64 0, .bool false, .string ⟨#[]⟩, .int .i64 0] 77)) := (Keep.refl NoB w).alloc _
  go_wp2_with fail
  refine (peek_miss cb mb room kept N k _ (HT.out.keep0 k0) hks HX.out).mono ?_
  rintro _ w1 ⟨rfl, k1⟩
  have bq := blk_keep (blk_new w (.cells #[.int .i64 0, .int .i64 0, .bool false, .string ⟨#[]⟩, .int .i64 0] 77)) k1 (fun h => h)
  have q0 := blk_cell bq 0
  have q1 := blk_cell bq 1
  have q2 := blk_cell bq 2
  have q3 := blk_cell bq 3
  have q4 := blk_cell bq 4
  have g0 := blk_free bq 0
  have g1 := blk_free bq 1
  have g2 := blk_free bq 2
  have g3 := blk_free bq 3
  have g4 := blk_free bq 4
  have ql := blk_lt bq
  simp at q0 q1 q2 q3 q4
  have Hbq := Lib.hid bq
  clear bq
  go_wp2_with fail
  have y5 := blk_setCell (i := 4) (blk_setCell (i := 3) (blk_setCell (i := 2) (blk_setCell (i := 1) (blk_setCell (i := 0) (Hbq.out) (.int .i64 0)) (.int .i64 0)) (.bool false)) (.string ⟨#[]⟩)) (.int .i64 0)
  have K5 := ((((k0.trans k1).setCell (p := ⟨w.heap.size, 0, none⟩) (Or.inl (Nat.le_refl _)) (.int .i64 0)).setCell (p := ⟨w.heap.size, 1, none⟩) (Or.inl (Nat.le_refl _)) (.int .i64 0)).setCell (p := ⟨w.heap.size, 2, none⟩) (Or.inl (Nat.le_refl _)) (.bool false)).setCell (p := ⟨w.heap.size, 3, none⟩) (Or.inl (Nat.le_refl _)) (.string ⟨#[]⟩) |>.setCell (p := ⟨w.heap.size, 4, none⟩) (Or.inl (Nat.le_refl _)) (.int .i64 0)
  generalize World.setCell _ _ _ = W5 at y5 K5 ⊢
  have z5 := blk_alloc (o' := (.cells #[.int .i64 0, .int .i64 0, .bool false, .string ⟨#[]⟩, .int .i64 0] 77)) y5
  have d0 := blk_cell z5 0
  have d1 := blk_cell z5 1
  have d2 := blk_cell z5 2
  have d3 := blk_cell z5 3
  have d4 := blk_cell z5 4
  simp at d0 d1 d2 d3 d4
  exact bodyPost_ret (v := .tuple #[.agg #[.int .i64 0, .int .i64 0, .bool false, .string ⟨#[]⟩, .int .i64 0], .bool false]) (by simp [results, Try.results24, go_sem, d0, d1, d2, d3, d4]) rfl ⟨rfl, K5.alloc _⟩

theorem leads_move {w : World} {mb : Nat} {A B : List TH} {x : TH} (h : Leads w mb (A ++ x :: B)) (hk : ((A ++ x :: B).map (·.k)).Nodup) : Leads w mb (x :: (A ++ B)) := by
  obtain ⟨L, h1, h2, h3⟩ := h
  refine ⟨L, h1, by rw [h2]; simp; omega, fun k => ?_⟩
  rw [h3]
  by_cases e : k = x.k
  · subst e
    have h4 := (dropK_split hk).2.2
    have e1 : fnd A x.k = none := fnd_none_of (fun y hy => h4 y (by simp [hy]))
    unfold fnd at e1
    simp [fnd, List.find?_append, e1]
  · rw [fnd_mid e]
    have : decide (x.k = k) = false := by simpa using Ne.symm e
    simp [fnd, List.find?_cons, this]

set_option maxRecDepth 100000 in
set_option maxHeartbeats 8000000 in
theorem get_hit (cb mb : Nat) (room kept : Int) (N : List TH) (k : ByteArray) (x : TH) (w : World) (T : Lru w cb mb room kept N) (hks : k.size ≤ maxLen) (hx : fnd N k = some x) :
    Calls Try.prog 24 #[.pointer (some ⟨cb, 0, none⟩), .string k] w (LruPost cb mb room kept N (x :: dropK N k) (.tuple #[iV x.v, .bool true]) w) := by
  obtain ⟨L, hm, hlk⟩ := look_hit T.leads hx
  have HX := Lib.hid hx
  obtain ⟨rfl, A, B, hN, _⟩ := fnd_split hx
  have hkey := WideMaps.keyOf_string_mk Try.underlying9 hks
  have HLK := Lib.hid hlk
  have hd : dropK N x.k = A ++ B := by have := T.keys; rw [hN] at this ⊢; exact (dropK_split this).1
  rw [hd]
  have hsum : sumS N - x.s = sumS (A ++ B) := by rw [hN, sumS_append, sumS_append, sumS_cons]; omega
  have hsum2 : sumS (A ++ B) + x.s = sumS N := by omega
  have hsum3 : sumS (x :: (A ++ B)) = sumS N := by rw [sumS_cons]; omega
  have hp1 : sumS (A ++ B) ≤ sumS N := by have := T.pos x (by rw [hN]; simp); omega
  have hp0 : 0 ≤ sumS (A ++ B) := sumS_pos (fun y hy => T.pos y (by rw [hN]; simp at hy ⊢; rcases hy with h | h <;> simp [h]))
  have hx0 := T.pos x (by rw [hN]; simp)
  have HN := Lib.hid hN
  have Hsum := Lib.hid hsum
  have Hsum2 := Lib.hid hsum2
  have Hsum3 := Lib.hid hsum3
  have hxc := T.ring.ne x (by rw [hN]; simp)
  have xl := T.ring.lt x (by rw [hN]; simp)
  clear hx hlk hd hsum hsum2 hsum3 hN
  have c3 := blk_cell T.ring.blk 3
  have c4 := blk_cell T.ring.blk 4
  have c5 := blk_cell T.ring.blk 5
  have c2 := blk_cell T.ring.blk 2
  have f4 := blk_free T.ring.blk 4
  have cl := blk_lt T.ring.blk
  have hcm := T.cm
  have hsum0 : 0 ≤ sumS N := sumS_pos T.pos
  have hk0 := T.kept0
  have hf := T.fits
  have hr := T.room1
  have HT := Lib.hid T
  clear T
  simp at c3 c4 c5 c2
  go_enter Try.func24, Try.ntmps24
  have k0 : Keep NoB w (w.alloc (.cells #[.int .i64 0, .int .i64 0, .bool false, .string ⟨#[]⟩, .int .i64 0] 77)) := (Keep.refl NoB w).alloc _
  go_wp2_with fail
  refine (peek_hit cb mb room kept N x.k x _ (HT.out.keep0 k0) hks HX.out).mono ?_
  rintro _ w0 ⟨rfl, k01⟩
  have bq := blk_keep (blk_new w (.cells #[.int .i64 0, .int .i64 0, .bool false, .string ⟨#[]⟩, .int .i64 0] 77)) k01 (fun h => h)
  have kk := k0.trans k01
  have HT0 := Lib.hid (HT.out.keep0 kk)
  have hm0 := hm.keep kk (fun h => h)
  have e5 := blk_cell HT0.out.ring.blk 5
  have el := blk_lt HT0.out.ring.blk
  have xl0 := HT0.out.ring.lt x (by rw [HN.out]; simp)
  simp at e5
  have Hbq := Lib.hid bq
  have Hkk := Lib.hid kk
  have hm := hm0
  clear bq kk k01 c3 c4 c5 c2 f4 cl xl hm0
  obtain ⟨rb, hrb⟩ : ∃ q, w.heap.size = q := ⟨_, rfl⟩
  rw [hrb] at Hbq ⊢
  have hrb0 := Hbq.out
  have hrl := blk_lt hrb0
  clear hrb0
  go_wp2_with (at_lookup; refine wpList_look _ rfl _ _ 101 rfl 9 98 law9 Try.underlying101 encB (zero56 _) mb L rfl (by repeat (with_reducible first | exact hm | refine MapAt.alloc ?_ _ | refine MapAt.drewN ?_ _ | refine MapAt.drew ?_ | refine MapAt.setCell ?_ (by simp; omega) _)) _ _ rfl hkey _ HLK.out ?_)
  have bx0 := blk_new w0 (.cells #[.int .i64 x.v.e, .int .i64 x.v.i, .bool x.v.th, .string x.v.tx, .int .i64 x.v.a] 77)
  have kx : Keep NoB w0 (w0.alloc (.cells #[.int .i64 x.v.e, .int .i64 x.v.i, .bool x.v.th, .string x.v.tx, .int .i64 x.v.a] 77)) := (Keep.refl NoB w0).alloc _
  have HTx := Lib.hid (HT0.out.keep0 kx)
  have Hbr := Lib.hid (blk_keep Hbq.out kx (fun h => h))
  have Hkx := Lib.hid (Hkk.out.trans kx)
  have Hbx0 := Lib.hid bx0
  have hsz : rb < w0.heap.size := blk_lt Hbq.out
  generalize World.alloc w0 (.cells #[.int .i64 x.v.e, .int .i64 x.v.i, .bool x.v.th, .string x.v.tx, .int .i64 x.v.a] 77) = wx at HTx Hbr Hkx Hbx0 ⊢
  generalize w0.heap.size = qb at Hbx0 hsz ⊢
  clear kx bx0
  have hR := HTx.out.ring
  rw [HN.out] at hR
  refine (cut_any cb mb _ room kept A B x _ hR (sumS (A ++ B)) (by rw [← HN.out]; exact Hsum.out) (by omega) (by omega)).mono ?_
  rintro _ w1 ⟨rfl, R1, bx, k1⟩
  have cl1 := blk_lt R1.blk
  have xl1 := blk_lt bx
  have HR1 := Lib.hid R1
  have Hbx := Lib.hid bx
  clear R1 bx hR
  go_wp2_with fail
  have hnx : ∀ y ∈ A ++ B, y.b ≠ x.b := by
    have := HT.out.ring.nodup
    rw [HN.out] at this
    exact (nodup_mid this).2
  refine (push_any cb mb _ room kept (A ++ B) x _ HR1.out Hbx.out hnx (sumS N) Hsum2.out (by omega) (by omega)).mono ?_
  rintro _ w2 ⟨rfl, R2, k2⟩
  have hRS : ∀ i, RS cb (x :: (A ++ B)) i → RS cb N i := by
    rintro i (e | ⟨y, hy, e⟩)
    · exact Or.inl e
    · refine Or.inr ⟨y, ?_, e⟩
      rw [HN.out]
      simp at hy ⊢
      rcases hy with h | h | h <;> simp [h]
  have hK : Keep (RS cb N) wx w2 := by
    have e := HN.out
    rw [← e] at k1
    exact k1.trans (k2.mono hRS)
  have hRo : ∀ {g : Nat} {c : Array Value} {f : Nat × Nat}, wx.heap[g]? = some (.cells c 77 f) → ¬ RS cb N g := by
    rintro g c f h (e | ⟨y, hy, e⟩)
    · subst e
      rw [HTx.out.ring.blk] at h
      simp [cacheO] at h
    · subst e
      obtain ⟨p', n', h'⟩ := HTx.out.ring.seg.mem y hy
      rw [h'] at h
      simp [thing] at h
  have bq2 := blk_keep Hbr.out hK (hRo Hbr.out)
  have bz2 := blk_keep Hbx0.out hK (hRo Hbx0.out)
  have HR2 := Lib.hid R2
  have HK := Lib.hid hK
  have Hbq2 := Lib.hid bq2
  have q0 := blk_cell bq2 0
  have q1 := blk_cell bq2 1
  have q2 := blk_cell bq2 2
  have q3 := blk_cell bq2 3
  have q4 := blk_cell bq2 4
  have g0 := blk_free bq2 0
  have g1 := blk_free bq2 1
  have g2 := blk_free bq2 2
  have g3 := blk_free bq2 3
  have g4 := blk_free bq2 4
  have ql := blk_lt bq2
  simp at q0 q1 q2 q3 q4
  have z0 := blk_cell bz2 0
  have z1 := blk_cell bz2 1
  have z2 := blk_cell bz2 2
  have z3 := blk_cell bz2 3
  have z4 := blk_cell bz2 4
  have zl := blk_lt bz2
  simp at z0 z1 z2 z3 z4
  clear R2 hnx k1 k2 hRS hK hRo bq2 bz2
  go_wp2_with fail
  have hrw : w.heap.size ≤ rb := by omega
  have y5 := blk_setCell (i := 4) (blk_setCell (i := 3) (blk_setCell (i := 2) (blk_setCell (i := 1) (blk_setCell (i := 0) Hbq2.out (.int .i64 x.v.e)) (.int .i64 x.v.i)) (.bool x.v.th)) (.string x.v.tx)) (.int .i64 x.v.a)
  have K5 := ((((Keep.refl (OneB rb) w2).setCell (p := ⟨rb, 0, none⟩) (Or.inr rfl) (.int .i64 x.v.e)).setCell (p := ⟨rb, 1, none⟩) (Or.inr rfl) (.int .i64 x.v.i)).setCell (p := ⟨rb, 2, none⟩) (Or.inr rfl) (.bool x.v.th)).setCell (p := ⟨rb, 3, none⟩) (Or.inr rfl) (.string x.v.tx) |>.setCell (p := ⟨rb, 4, none⟩) (Or.inr rfl) (.int .i64 x.v.a)
  generalize World.setCell _ _ _ = W5 at y5 K5 ⊢
  have d0 := blk_cell y5 0
  have d1 := blk_cell y5 1
  have d2 := blk_cell y5 2
  have d3 := blk_cell y5 3
  have d4 := blk_cell y5 4
  simp at d0 d1 d2 d3 d4
  refine bodyPost_ret (v := .tuple #[iV x.v, .bool true]) (by simp [results, Try.results24, go_sem, iV, d0, d1, d2, d3, d4]) rfl ⟨rfl, ?_, ?_⟩
  · have hkeys := HT.out.keys
    have hL := (HTx.out.leads.keep HK.out (by rintro (e | ⟨y, hy, e⟩); exact hcm e.symm; exact HT.out.xm y hy e)).keep K5 (fun e => by
      have e' : mb = rb := e
      subst e'
      obtain ⟨es, c, h⟩ := HTx.out.leads.map
      rw [Hbr.out] at h
      cases h)
    rw [HN.out] at hkeys hL
    have hmem : ∀ y ∈ x :: (A ++ B), y ∈ N := fun y hy => by rw [HN.out]; simp at hy ⊢; rcases hy with h | h | h <;> simp [h]
    have hp : (A ++ x :: B).Perm (x :: (A ++ B)) := List.perm_middle
    have R5 : Ring W5 cb mb (sumS N) room kept (x :: (A ++ B)) := HR2.out.keep K5 (fun e => by
      have e' : cb = rb := e
      have := blk_lt HT.out.ring.blk
      omega) (fun y hy e => by
      have e' : y.b = rb := e
      have := HT.out.ring.lt y (hmem y hy)
      omega)
    exact ⟨by rw [Hsum3.out]; exact R5, leads_move hL hkeys, (hp.map (·.k)).nodup_iff.1 hkeys, fun y hy => HT.out.pos y (hmem y hy), fun y hy => HT.out.klen y (hmem y hy), hk0, by rw [Hsum3.out]; exact hf, hr⟩
  · have K6 : Keep (LS cb mb N) wx w2 := HK.out.mono (fun i h => Or.inr h)
    have K7 : Keep (LS cb mb N) w w2 := (Hkx.out.none (S := LS cb mb N)).trans' K6 (fun i hi h => h)
    exact K7.trans' K5 (fun i hi e => by have e' : i = rb := e; omega)

theorem used_any (cb mb : Nat) (room kept : Int) (N : List TH) (w : World) (T : Lru w cb mb room kept N) (u : Int) (hu : sumS N + kept = u) :
    Calls Try.prog 37 #[.pointer (some ⟨cb, 0, none⟩)] w fun e w' => e = .returned (.int .i64 u) ∧ Keep NoB w w' := by
  have hw : IntKind.i64.wrap (sumS N + kept) = u := by rw [hu]; have := T.fits; have := T.room1; have := sumS_pos T.pos; have := T.kept0; exact IntWalk.i64_in _ (by omega)
  clear hu
  have c3 := blk_cell T.ring.blk 3
  have c4 := blk_cell T.ring.blk 4
  have c5 := blk_cell T.ring.blk 5
  have c2 := blk_cell T.ring.blk 2
  have f4 := blk_free T.ring.blk 4
  have cl := blk_lt T.ring.blk
  have hcm := T.cm
  have hsum0 : 0 ≤ sumS N := sumS_pos T.pos
  have hk0 := T.kept0
  have hf := T.fits
  have hr := T.room1
  have HT := Lib.hid T
  clear T
  simp at c3 c4 c5 c2
  go_enter Try.func37, Try.ntmps37
  go_wp2_with fail
  go_quiet (fail)
  go_wp2_with fail
  go_ret
  exact ⟨rfl, (Keep.refl _ _).drewN _⟩

theorem reserved_any (cb mb : Nat) (room kept : Int) (N : List TH) (w : World) (T : Lru w cb mb room kept N) :
    Calls Try.prog 42 #[.pointer (some ⟨cb, 0, none⟩)] w fun e w' => e = .returned (.int .i64 kept) ∧ w = w' := by
  have c3 := blk_cell T.ring.blk 3
  have c4 := blk_cell T.ring.blk 4
  have c5 := blk_cell T.ring.blk 5
  have c2 := blk_cell T.ring.blk 2
  have f4 := blk_free T.ring.blk 4
  have cl := blk_lt T.ring.blk
  have hcm := T.cm
  have hsum0 : 0 ≤ sumS N := sumS_pos T.pos
  have hk0 := T.kept0
  have hf := T.fits
  have hr := T.room1
  have HT := Lib.hid T
  clear T
  simp at c3 c4 c5 c2
  go_enter Try.func42, Try.ntmps42
  go_wp2
  go_ret
  exact ⟨rfl, rfl⟩

theorem cache_set {w : World} {cb mb : Nat} {room kept : Int} {N : List TH} (T : Lru w cb mb room kept N) (k' : Int) (h0 : 0 ≤ k') (h1 : sumS N + k' ≤ room) {w' : World} (hb : w'.heap[cb]? = some (cacheO (hd none N) (ls none N) (sumS N) room k' mb)) (hk : Keep (OneB cb) w w') : Lru w' cb mb room k' N :=
  ⟨⟨hb, T.ring.seg.keep hk (fun x hx => T.ring.ne x hx), T.ring.nodup⟩, T.leads.keep hk (fun e => T.cm e.symm), T.keys, T.pos, T.klen, h0, h1, T.room1⟩

theorem blk_kept {w : World} {cb : Nat} {f l : Option Nat} {sum room kept k' : Int} {mb : Nat} (h : w.heap[cb]? = some (cacheO f l sum room kept mb)) : (w.setCell ⟨cb, 4, none⟩ (.int .i64 k')).heap[cb]? = some (cacheO f l sum room k' mb) := by
  have := blk_setCell (i := 4) h (.int .i64 k')
  simpa [cacheO] using this

theorem release_any (cb mb : Nat) (room kept : Int) (N : List TH) (n m k' : Int) (w : World) (T : Lru w cb mb room kept N) (hn : 0 < n) (hm : min n kept = m) (hk' : kept - m = k') :
    Calls Try.prog 32 #[.pointer (some ⟨cb, 0, none⟩), .int .i64 n] w (LruPost cb mb room k' N N (.tuple #[]) w) := by
  have hw : IntKind.i64.wrap (kept - m) = k' := by rw [hk']; have := T.fits; have := T.room1; have := sumS_pos T.pos; have := T.kept0; exact IntWalk.i64_in _ (by omega)
  have hk1 : 0 ≤ k' := by have := T.kept0; omega
  have hk2 : k' ≤ kept := by have := T.kept0; omega
  have hd0 : decide (0 < n) = true := by simpa using hn
  have hcase : (kept < n ∧ m = kept ∧ k' = 0) ∨ (¬ kept < n ∧ m = n ∧ k' = k') := by omega
  clear hm hk'
  have c3 := blk_cell T.ring.blk 3
  have c4 := blk_cell T.ring.blk 4
  have c5 := blk_cell T.ring.blk 5
  have c2 := blk_cell T.ring.blk 2
  have f4 := blk_free T.ring.blk 4
  have cl := blk_lt T.ring.blk
  have hcm := T.cm
  have hsum0 : 0 ≤ sumS N := sumS_pos T.pos
  have hk0 := T.kept0
  have hf := T.fits
  have hr := T.room1
  have HT := Lib.hid T
  clear T
  simp at c3 c4 c5 c2
  rcases hcase with ⟨hlt, rfl, rfl⟩ | ⟨hlt, rfl, _⟩
  all_goals
    go_enter Try.func32, Try.ntmps32
    go_wp2_with fail
    refine wp_region_tail 13 (by kernel_rfl) (by kernel_rfl) ?_
    simp only [List.take_succ_cons, List.take_zero, List.drop_succ_cons, List.drop_zero]
    repeat still_step
    refine wpStill_nil ?_
    go_wp2_with fail
    go_end0
    exact ⟨rfl, cache_set HT.out _ hk1 (by omega) (blk_kept HT.out.ring.blk) (((Keep.refl (OneB cb) w).setCell (p := ⟨cb, 4, none⟩) (Or.inr rfl) _).drew), (((Keep.refl (OneB cb) w).setCell (p := ⟨cb, 4, none⟩) (Or.inr rfl) _).drew).mono (fun i h => Or.inr (Or.inl h))⟩

theorem release_no (cb mb : Nat) (room kept : Int) (N : List TH) (n : Int) (w : World) (T : Lru w cb mb room kept N) (hn : n ≤ 0) :
    Calls Try.prog 32 #[.pointer (some ⟨cb, 0, none⟩), .int .i64 n] w fun e w' => e = .returned (.tuple #[]) ∧ w = w' := by
  have hd0 : decide (0 < n) = false := by simpa using hn
  have c3 := blk_cell T.ring.blk 3
  have c4 := blk_cell T.ring.blk 4
  have c5 := blk_cell T.ring.blk 5
  have c2 := blk_cell T.ring.blk 2
  have f4 := blk_free T.ring.blk 4
  have cl := blk_lt T.ring.blk
  have hcm := T.cm
  have hsum0 : 0 ≤ sumS N := sumS_pos T.pos
  have hk0 := T.kept0
  have hf := T.fits
  have hr := T.room1
  have HT := Lib.hid T
  clear T
  simp at c3 c4 c5 c2
  go_enter Try.func32, Try.ntmps32
  go_wp2_with fail
  go_end0
  exact ⟨rfl, rfl⟩
end Go.Proofs.Ytieoejilppgebaa.It
