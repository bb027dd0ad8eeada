/- Drop, Peek, Get, Used, Reserved, Release of package lru. -/
import Derived.Test.YtgbcjnejlelndaaLruV
namespace Go.Proofs.Ytgbcjnejlelndaa
open Go Go.RowKit Go.Maps


/-- The answer of a look-up in the map. -/
theorem look_hit {w : World} {mb : Nat} {N : List TH} {k : ByteArray} {x : TH} (h : Leads w mb N) (hx : fnd N k = some x) : ∃ L, MapAt Try.prog 9 encB w mb L ∧ ((lget L (kS k)).map encB).getD (.pointer none) = .pointer (some ⟨x.b, 0, none⟩) := by
  obtain ⟨L, h1, _, h3⟩ := h
  exact ⟨L, h1, by rw [h3, hx]; rfl⟩
theorem look_miss {w : World} {mb : Nat} {N : List TH} {k : ByteArray} (h : Leads w mb N) (hx : fnd N k = none) : ∃ L, MapAt Try.prog 9 encB w mb L ∧ ((lget L (kS k)).map encB).getD (.pointer none) = .pointer none := by
  obtain ⟨L, h1, _, h3⟩ := h
  exact ⟨L, h1, by rw [h3, hx]; rfl⟩


theorem drop_hit (cb mb : Nat) (room kept : Int) (N : List TH) (k : ByteArray) (x : TH) (w : World) (T : Lru w cb mb room kept N) (hks : k.size ≤ maxLen) (hx : fnd N k = some x) :
    Calls Try.prog 17 #[.pointer (some ⟨cb, 0, none⟩), .string k] w (LruPost cb mb room kept N (dropK N k) (.bool true) w) := by
  obtain ⟨L, hm, hlk⟩ := look_hit T.leads hx
  obtain ⟨rfl, A, B, rfl, _⟩ := fnd_split hx
  have hkey := WideMaps.keyOf_string_mk Try.underlying9 hks
  have HLK := Lib.hid hlk
  rw [(dropK_split T.keys).1]
  obtain ⟨N, hN⟩ : ∃ l, A ++ x :: B = l := ⟨_, rfl⟩
  rw [hN] at T ⊢
  have HN := Lib.hid hN
  clear hx hN hlk
  have c3 := blk_cell T.ring.blk 3
  have c4 := blk_cell T.ring.blk 4
  have c5 := blk_cell T.ring.blk 5
  have c2 := blk_cell T.ring.blk 2
  have f4 := blk_free T.ring.blk 4
  have cl := blk_lt T.ring.blk
  have hcm := T.cm
  have hsum0 : 0 ≤ sumS N := sumS_pos T.pos
  have hk0 := T.kept0
  have hf := T.fits
  have hr := T.room1
  have HT := Lib.hid T
  clear T
  simp at c3 c4 c5 c2
  go_enter Try.func17, Try.ntmps17
  go_wp2_with (at_lookup; refine wpList_look _ rfl _ _ 55 rfl 9 56 law9 Try.underlying55 encB (zero56 _) mb L rfl (by exact hm) _ _ rfl hkey _ HLK.out ?_)
  have hT := HT.out
  rw [← HN.out] at hT
  refine (take_any cb mb room kept A B x _ hT).mono ?_
  rintro _ w2 ⟨rfl, T2, k2⟩
  rw [HN.out] at k2
  go_wp2
  go_ret
  exact ⟨rfl, T2, k2⟩

theorem drop_miss (cb mb : Nat) (room kept : Int) (N : List TH) (k : ByteArray) (w : World) (T : Lru w cb mb room kept N) (hks : k.size ≤ maxLen) (hx : fnd N k = none) :
    Calls Try.prog 17 #[.pointer (some ⟨cb, 0, none⟩), .string k] w fun e w' => e = .returned (.bool false) ∧ w = w' := by
  obtain ⟨L, hm, hlk⟩ := look_miss T.leads hx
  have hkey := WideMaps.keyOf_string_mk Try.underlying9 hks
  have HLK := Lib.hid hlk
  clear hx hlk
  have c3 := blk_cell T.ring.blk 3
  have c4 := blk_cell T.ring.blk 4
  have c5 := blk_cell T.ring.blk 5
  have c2 := blk_cell T.ring.blk 2
  have f4 := blk_free T.ring.blk 4
  have cl := blk_lt T.ring.blk
  have hcm := T.cm
  have hsum0 : 0 ≤ sumS N := sumS_pos T.pos
  have hk0 := T.kept0
  have hf := T.fits
  have hr := T.room1
  have HT := Lib.hid T
  clear T
  simp at c3 c4 c5 c2
  go_enter Try.func17, Try.ntmps17
  go_wp2_with (at_lookup; refine wpList_look _ rfl _ _ 55 rfl 9 56 law9 Try.underlying55 encB (zero56 _) mb L rfl (by exact hm) _ _ rfl hkey _ HLK.out ?_)
  go_ret
  exact ⟨rfl, rfl⟩

/-- Drop, whether the key is there or not. -/
def DropPost (cb mb : Nat) (room kept : Int) (N : List TH) (k : ByteArray) (w : World) (e : Ending) (w' : World) : Prop :=
  e = .returned (.bool (fnd N k).isSome) ∧ Lru w' cb mb room kept (dropK N k) ∧ Keep (LS cb mb N) w w'
theorem drop_any (cb mb : Nat) (room kept : Int) (N : List TH) (k : ByteArray) (w : World) (T : Lru w cb mb room kept N) (hks : k.size ≤ maxLen) :
    Calls Try.prog 17 #[.pointer (some ⟨cb, 0, none⟩), .string k] w (DropPost cb mb room kept N k w) := by
  cases hx : fnd N k with
  | none =>
    refine (drop_miss cb mb room kept N k w T hks hx).mono ?_
    rintro _ _ ⟨rfl, rfl⟩
    exact ⟨by rw [hx]; rfl, by rw [dropK_none (fnd_none hx)]; exact T, Keep.refl _ _⟩
  | some x =>
    refine (drop_hit cb mb room kept N k x w T hks hx).mono ?_
    rintro _ _ ⟨rfl, T', k'⟩
    exact ⟨by rw [hx]; rfl, T', k'⟩

theorem peek_hit (cb mb : Nat) (room kept : Int) (N : List TH) (k : ByteArray) (x : TH) (w : World) (T : Lru w cb mb room kept N) (hks : k.size ≤ maxLen) (hx : fnd N k = some x) :
    Calls Try.prog 15 #[.pointer (some ⟨cb, 0, none⟩), .string k] w fun e w' => e = .returned (.tuple #[.int .i64 x.v, .bool true]) ∧ w = w' := by
  obtain ⟨L, hm, hlk⟩ := look_hit T.leads hx
  obtain ⟨rfl, A, B, rfl, _⟩ := fnd_split hx
  have hkey := WideMaps.keyOf_string_mk Try.underlying9 hks
  have HLK := Lib.hid hlk
  obtain ⟨p', n', hb⟩ := T.ring.seg.mem x (by simp)
  have x1 := blk_cell hb 1
  have xl := blk_lt hb
  simp at x1
  obtain ⟨N, hN⟩ : ∃ l, A ++ x :: B = l := ⟨_, rfl⟩
  rw [hN] at T
  clear hx hN hlk hb
  have c3 := blk_cell T.ring.blk 3
  have c4 := blk_cell T.ring.blk 4
  have c5 := blk_cell T.ring.blk 5
  have c2 := blk_cell T.ring.blk 2
  have f4 := blk_free T.ring.blk 4
  have cl := blk_lt T.ring.blk
  have hcm := T.cm
  have hsum0 : 0 ≤ sumS N := sumS_pos T.pos
  have hk0 := T.kept0
  have hf := T.fits
  have hr := T.room1
  have HT := Lib.hid T
  clear T
  simp at c3 c4 c5 c2
  go_enter Try.func15, Try.ntmps15
  go_wp2_with (at_lookup; refine wpList_look _ rfl _ _ 55 rfl 9 56 law9 Try.underlying55 encB (zero56 _) mb L rfl (by exact hm) _ _ rfl hkey _ HLK.out ?_)
  go_ret2
  exact ⟨rfl, rfl⟩

theorem peek_miss (cb mb : Nat) (room kept : Int) (N : List TH) (k : ByteArray) (w : World) (T : Lru w cb mb room kept N) (hks : k.size ≤ maxLen) (hx : fnd N k = none) :
    Calls Try.prog 15 #[.pointer (some ⟨cb, 0, none⟩), .string k] w fun e w' => e = .returned (.tuple #[.int .i64 0, .bool false]) ∧ w = w' := by
  obtain ⟨L, hm, hlk⟩ := look_miss T.leads hx
  have hkey := WideMaps.keyOf_string_mk Try.underlying9 hks
  have HLK := Lib.hid hlk
  clear hx hlk
  have c3 := blk_cell T.ring.blk 3
  have c4 := blk_cell T.ring.blk 4
  have c5 := blk_cell T.ring.blk 5
  have c2 := blk_cell T.ring.blk 2
  have f4 := blk_free T.ring.blk 4
  have cl := blk_lt T.ring.blk
  have hcm := T.cm
  have hsum0 : 0 ≤ sumS N := sumS_pos T.pos
  have hk0 := T.kept0
  have hf := T.fits
  have hr := T.room1
  have HT := Lib.hid T
  clear T
  simp at c3 c4 c5 c2
  go_enter Try.func15, Try.ntmps15
  go_wp2_with (at_lookup; refine wpList_look _ rfl _ _ 55 rfl 9 56 law9 Try.underlying55 encB (zero56 _) mb L rfl (by exact hm) _ _ rfl hkey _ HLK.out ?_)
  go_ret2
  exact ⟨rfl, rfl⟩

theorem get_miss (cb mb : Nat) (room kept : Int) (N : List TH) (k : ByteArray) (w : World) (T : Lru w cb mb room kept N) (hks : k.size ≤ maxLen) (hx : fnd N k = none) :
    Calls Try.prog 11 #[.pointer (some ⟨cb, 0, none⟩), .string k] w fun e w' => e = .returned (.tuple #[.int .i64 0, .bool false]) ∧ w = w' := by
  have HX := Lib.hid hx
  clear hx
  have c3 := blk_cell T.ring.blk 3
  have c4 := blk_cell T.ring.blk 4
  have c5 := blk_cell T.ring.blk 5
  have c2 := blk_cell T.ring.blk 2
  have f4 := blk_free T.ring.blk 4
  have cl := blk_lt T.ring.blk
  have hcm := T.cm
  have hsum0 : 0 ≤ sumS N := sumS_pos T.pos
  have hk0 := T.kept0
  have hf := T.fits
  have hr := T.room1
  have HT := Lib.hid T
  clear T
  simp at c3 c4 c5 c2
  go_enter Try.func11, Try.ntmps11
  go_wp2_with fail
  refine (peek_miss cb mb room kept N k w HT.out hks HX.out).mono ?_
  rintro _ _ ⟨rfl, rfl⟩
  go_wp2
  go_ret2
  exact ⟨rfl, rfl⟩

theorem leads_move {w : World} {mb : Nat} {A B : List TH} {x : TH} (h : Leads w mb (A ++ x :: B)) (hk : ((A ++ x :: B).map (·.k)).Nodup) : Leads w mb (x :: (A ++ B)) := by
  obtain ⟨L, h1, h2, h3⟩ := h
  refine ⟨L, h1, by rw [h2]; simp; omega, fun k => ?_⟩
  rw [h3]
  by_cases e : k = x.k
  · subst e
    have h4 := (dropK_split hk).2.2
    have e1 : fnd A x.k = none := fnd_none_of (fun y hy => h4 y (by simp [hy]))
    unfold fnd at e1
    simp [fnd, List.find?_append, e1]
  · rw [fnd_mid e]
    have : decide (x.k = k) = false := by simpa using Ne.symm e
    simp [fnd, List.find?_cons, this]

set_option maxHeartbeats 1000000 in
theorem get_hit (cb mb : Nat) (room kept : Int) (N : List TH) (k : ByteArray) (x : TH) (w : World) (T : Lru w cb mb room kept N) (hks : k.size ≤ maxLen) (hx : fnd N k = some x) :
    Calls Try.prog 11 #[.pointer (some ⟨cb, 0, none⟩), .string k] w (LruPost cb mb room kept N (x :: dropK N k) (.tuple #[.int .i64 x.v, .bool true]) w) := by
  obtain ⟨L, hm, hlk⟩ := look_hit T.leads hx
  have HX := Lib.hid hx
  obtain ⟨rfl, A, B, hN, _⟩ := fnd_split hx
  have hkey := WideMaps.keyOf_string_mk Try.underlying9 hks
  have HLK := Lib.hid hlk
  have hd : dropK N x.k = A ++ B := by have := T.keys; rw [hN] at this ⊢; exact (dropK_split this).1
  rw [hd]
  have hsum : sumS N - x.s = sumS (A ++ B) := by rw [hN, sumS_append, sumS_append, sumS_cons]; omega
  have hsum2 : sumS (A ++ B) + x.s = sumS N := by omega
  have hsum3 : sumS (x :: (A ++ B)) = sumS N := by rw [sumS_cons]; omega
  have hp1 : sumS (A ++ B) ≤ sumS N := by have := T.pos x (by rw [hN]; simp); omega
  have hp0 : 0 ≤ sumS (A ++ B) := sumS_pos (fun y hy => T.pos y (by rw [hN]; simp at hy ⊢; rcases hy with h | h <;> simp [h]))
  have hx0 := T.pos x (by rw [hN]; simp)
  have HN := Lib.hid hN
  have Hsum := Lib.hid hsum
  have Hsum2 := Lib.hid hsum2
  have Hsum3 := Lib.hid hsum3
  have hxc := T.ring.ne x (by rw [hN]; simp)
  have xl := T.ring.lt x (by rw [hN]; simp)
  clear hx hlk hd hsum hsum2 hsum3 hN
  have c3 := blk_cell T.ring.blk 3
  have c4 := blk_cell T.ring.blk 4
  have c5 := blk_cell T.ring.blk 5
  have c2 := blk_cell T.ring.blk 2
  have f4 := blk_free T.ring.blk 4
  have cl := blk_lt T.ring.blk
  have hcm := T.cm
  have hsum0 : 0 ≤ sumS N := sumS_pos T.pos
  have hk0 := T.kept0
  have hf := T.fits
  have hr := T.room1
  have HT := Lib.hid T
  clear T
  simp at c3 c4 c5 c2
  go_enter Try.func11, Try.ntmps11
  go_wp2_with fail
  refine (peek_hit cb mb room kept N x.k x w HT.out hks HX.out).mono ?_
  rintro _ w ⟨rfl, rfl⟩
  go_wp2_with (at_lookup; refine wpList_look _ rfl _ _ 55 rfl 9 56 law9 Try.underlying55 encB (zero56 _) mb L rfl (by exact hm) _ _ rfl hkey _ HLK.out ?_)
  have hR := HT.out.ring
  rw [HN.out] at hR
  refine (cut_any cb mb _ room kept A B x _ hR (sumS (A ++ B)) (by rw [← HN.out]; exact Hsum.out) (by omega) (by omega)).mono ?_
  rintro _ w1 ⟨rfl, R1, bx, k1⟩
  have cl1 := blk_lt R1.blk
  have xl1 := blk_lt bx
  have HR1 := Lib.hid R1
  have Hbx := Lib.hid bx
  clear R1 bx hR
  go_wp2_with fail
  have hnx : ∀ y ∈ A ++ B, y.b ≠ x.b := by
    have := HT.out.ring.nodup
    rw [HN.out] at this
    exact (nodup_mid this).2
  refine (push_any cb mb _ room kept (A ++ B) x _ HR1.out Hbx.out hnx (sumS N) Hsum2.out (by omega) (by omega)).mono ?_
  rintro _ w2 ⟨rfl, R2, k2⟩
  have hRS : ∀ i, RS cb (x :: (A ++ B)) i → RS cb N i := by
    rintro i (e | ⟨y, hy, e⟩)
    · exact Or.inl e
    · refine Or.inr ⟨y, ?_, e⟩
      rw [HN.out]
      simp at hy ⊢
      rcases hy with h | h | h <;> simp [h]
  have hK : Keep (RS cb N) w w2 := by
    have e := HN.out
    rw [← e] at k1
    exact k1.trans (k2.mono hRS)
  have HR2 := Lib.hid R2
  clear R2 hnx k1 k2 hRS
  go_wp2
  go_ret2
  have hkeys := HT.out.keys
  have hL := HT.out.leads.keep hK (by rintro (e | ⟨y, hy, e⟩); exact hcm e.symm; exact HT.out.xm y hy e)
  rw [HN.out] at hkeys hL
  have hmem : ∀ y ∈ x :: (A ++ B), y ∈ N := fun y hy => by rw [HN.out]; simp at hy ⊢; rcases hy with h | h | h <;> simp [h]
  refine ⟨rfl, ⟨by rw [Hsum3.out]; exact HR2.out, leads_move hL hkeys, ?_, fun y hy => HT.out.pos y (hmem y hy), fun y hy => HT.out.klen y (hmem y hy), hk0, by rw [Hsum3.out]; exact hf, hr⟩, hK.mono (fun i h => Or.inr h)⟩
  have hp : (A ++ x :: B).Perm (x :: (A ++ B)) := List.perm_middle
  exact (hp.map (·.k)).nodup_iff.1 hkeys

theorem used_any (cb mb : Nat) (room kept : Int) (N : List TH) (w : World) (T : Lru w cb mb room kept N) (u : Int) (hu : sumS N + kept = u) :
    Calls Try.prog 16 #[.pointer (some ⟨cb, 0, none⟩)] w fun e w' => e = .returned (.int .i64 u) ∧ Keep NoB w w' := by
  have hw : IntKind.i64.wrap (sumS N + kept) = u := by rw [hu]; have := T.fits; have := T.room1; have := sumS_pos T.pos; have := T.kept0; exact IntWalk.i64_in _ (by omega)
  clear hu
  have c3 := blk_cell T.ring.blk 3
  have c4 := blk_cell T.ring.blk 4
  have c5 := blk_cell T.ring.blk 5
  have c2 := blk_cell T.ring.blk 2
  have f4 := blk_free T.ring.blk 4
  have cl := blk_lt T.ring.blk
  have hcm := T.cm
  have hsum0 : 0 ≤ sumS N := sumS_pos T.pos
  have hk0 := T.kept0
  have hf := T.fits
  have hr := T.room1
  have HT := Lib.hid T
  clear T
  simp at c3 c4 c5 c2
  go_enter Try.func16, Try.ntmps16
  go_wp2_with fail
  go_quiet (fail)
  go_wp2_with fail
  go_ret
  exact ⟨rfl, (Keep.refl _ _).drewN _⟩

theorem reserved_any (cb mb : Nat) (room kept : Int) (N : List TH) (w : World) (T : Lru w cb mb room kept N) :
    Calls Try.prog 20 #[.pointer (some ⟨cb, 0, none⟩)] w fun e w' => e = .returned (.int .i64 kept) ∧ w = w' := by
  have c3 := blk_cell T.ring.blk 3
  have c4 := blk_cell T.ring.blk 4
  have c5 := blk_cell T.ring.blk 5
  have c2 := blk_cell T.ring.blk 2
  have f4 := blk_free T.ring.blk 4
  have cl := blk_lt T.ring.blk
  have hcm := T.cm
  have hsum0 : 0 ≤ sumS N := sumS_pos T.pos
  have hk0 := T.kept0
  have hf := T.fits
  have hr := T.room1
  have HT := Lib.hid T
  clear T
  simp at c3 c4 c5 c2
  go_enter Try.func20, Try.ntmps20
  go_wp2
  go_ret
  exact ⟨rfl, rfl⟩

theorem cache_set {w : World} {cb mb : Nat} {room kept : Int} {N : List TH} (T : Lru w cb mb room kept N) (k' : Int) (h0 : 0 ≤ k') (h1 : sumS N + k' ≤ room) {w' : World} (hb : w'.heap[cb]? = some (cacheO (hd none N) (ls none N) (sumS N) room k' mb)) (hk : Keep (OneB cb) w w') : Lru w' cb mb room k' N :=
  ⟨⟨hb, T.ring.seg.keep hk (fun x hx => T.ring.ne x hx), T.ring.nodup⟩, T.leads.keep hk (fun e => T.cm e.symm), T.keys, T.pos, T.klen, h0, h1, T.room1⟩

theorem blk_kept {w : World} {cb : Nat} {f l : Option Nat} {sum room kept k' : Int} {mb : Nat} (h : w.heap[cb]? = some (cacheO f l sum room kept mb)) : (w.setCell ⟨cb, 4, none⟩ (.int .i64 k')).heap[cb]? = some (cacheO f l sum room k' mb) := by
  have := blk_setCell (i := 4) h (.int .i64 k')
  simpa [cacheO] using this

theorem release_any (cb mb : Nat) (room kept : Int) (N : List TH) (n m k' : Int) (w : World) (T : Lru w cb mb room kept N) (hn : 0 < n) (hm : min n kept = m) (hk' : kept - m = k') :
    Calls Try.prog 19 #[.pointer (some ⟨cb, 0, none⟩), .int .i64 n] w (LruPost cb mb room k' N N (.tuple #[]) w) := by
  have hw : IntKind.i64.wrap (kept - m) = k' := by rw [hk']; have := T.fits; have := T.room1; have := sumS_pos T.pos; have := T.kept0; exact IntWalk.i64_in _ (by omega)
  have hk1 : 0 ≤ k' := by have := T.kept0; omega
  have hk2 : k' ≤ kept := by have := T.kept0; omega
  have hd0 : decide (0 < n) = true := by simpa using hn
  have hcase : (kept < n ∧ m = kept ∧ k' = 0) ∨ (¬ kept < n ∧ m = n ∧ k' = k') := by omega
  clear hm hk'
  have c3 := blk_cell T.ring.blk 3
  have c4 := blk_cell T.ring.blk 4
  have c5 := blk_cell T.ring.blk 5
  have c2 := blk_cell T.ring.blk 2
  have f4 := blk_free T.ring.blk 4
  have cl := blk_lt T.ring.blk
  have hcm := T.cm
  have hsum0 : 0 ≤ sumS N := sumS_pos T.pos
  have hk0 := T.kept0
  have hf := T.fits
  have hr := T.room1
  have HT := Lib.hid T
  clear T
  simp at c3 c4 c5 c2
  rcases hcase with ⟨hlt, rfl, rfl⟩ | ⟨hlt, rfl, _⟩
  all_goals
    go_enter Try.func19, Try.ntmps19
    go_wp2_with fail
    refine wp_region_tail 13 (by kernel_rfl) (by kernel_rfl) ?_
    simp only [List.take_succ_cons, List.take_zero, List.drop_succ_cons, List.drop_zero]
    repeat still_step
    refine wpStill_nil ?_
    go_wp2_with fail
    go_end0
    exact ⟨rfl, cache_set HT.out _ hk1 (by omega) (blk_kept HT.out.ring.blk) (((Keep.refl (OneB cb) w).setCell (p := ⟨cb, 4, none⟩) (Or.inr rfl) _).drew), (((Keep.refl (OneB cb) w).setCell (p := ⟨cb, 4, none⟩) (Or.inr rfl) _).drew).mono (fun i h => Or.inr (Or.inl h))⟩

theorem release_no (cb mb : Nat) (room kept : Int) (N : List TH) (n : Int) (w : World) (T : Lru w cb mb room kept N) (hn : n ≤ 0) :
    Calls Try.prog 19 #[.pointer (some ⟨cb, 0, none⟩), .int .i64 n] w fun e w' => e = .returned (.tuple #[]) ∧ w = w' := by
  have hd0 : decide (0 < n) = false := by simpa using hn
  have c3 := blk_cell T.ring.blk 3
  have c4 := blk_cell T.ring.blk 4
  have c5 := blk_cell T.ring.blk 5
  have c2 := blk_cell T.ring.blk 2
  have f4 := blk_free T.ring.blk 4
  have cl := blk_lt T.ring.blk
  have hcm := T.cm
  have hsum0 : 0 ≤ sumS N := sumS_pos T.pos
  have hk0 := T.kept0
  have hf := T.fits
  have hr := T.room1
  have HT := Lib.hid T
  clear T
  simp at c3 c4 c5 c2
  go_enter Try.func19, Try.ntmps19
  go_wp2_with fail
  go_end0
  exact ⟨rfl, rfl⟩
end Go.Proofs.Ytgbcjnejlelndaa
