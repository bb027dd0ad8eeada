/- What New, Len, Set, Clear and Drop of package marker come to. -/
import Derived.Test.YtieoejilppgebaaNdMarkerW
namespace Go.Proofs.Ytieoejilppgebaa.Mk
open Go Go.RowKit Go.Maps
set_option maxRecDepth 100000

def encT (_ : Unit) : Value := .bool true
theorem zero4 (w : World) : (zeroValue 4).run Try.prog w = .ok (.bool false) w := by kernel_rfl

/-- The map's list and the markers that it holds. -/
structure MS (L : List (Lit × Unit)) (M : List MK) : Prop where
  mem : ∀ x, mOk x → ((lget L (kM x)).isSome = true ↔ x ∈ M)
  key : ∀ p ∈ L, ∃ x, mOk x ∧ p.1 = kM x
  ok : ∀ x ∈ M, mOk x
  nd : M.Nodup
  len : L.length = M.length
theorem MS.nil : MS [] [] := ⟨fun x _ => by simp [lget_nil], by simp, by simp, List.nodup_nil, rfl⟩
theorem lget_kM_put {L : List (Lit × Unit)} {x y : MK} (hx : mOk x) (hy : mOk y) : (lget (lput L (kM x) ()) (kM y)).isSome = true ↔ (y = x ∨ (lget L (kM y)).isSome = true) := by
  by_cases e : y = x
  · subst e
    rw [lget_lput_same (kM_key y)]
    simp
  · rw [lget_lput_other (fun h => e (kM_inj hy hx h))]
    simp [e]
theorem lget_kM_del {L : List (Lit × Unit)} {x y : MK} (hx : mOk x) (hy : mOk y) : (lget (ldel L (kM x)) (kM y)).isSome = true ↔ (y ≠ x ∧ (lget L (kM y)).isSome = true) := by
  by_cases e : y = x
  · subst e
    rw [lget_ldel_same]
    simp
  · rw [lget_ldel_other (fun h => e (kM_inj hy hx h))]
    simp [e]
theorem ms_put {L : List (Lit × Unit)} {M M' : List MK} {x : MK} (h : MS L M) (ha : Apart L) (hx : mOk x) (hnd : M'.Nodup) (hm : ∀ y, y ∈ M' ↔ y = x ∨ y ∈ M) : MS (lput L (kM x) ()) M' := by
  refine ⟨fun y hy => ?_, fun p hp => ?_, fun y hy => ?_, hnd, ?_⟩
  · rw [lget_kM_put hx hy, hm, h.mem y hy]
  · unfold lput at hp
    rcases mem_lins.1 hp with rfl | hp
    · exact ⟨x, hx, rfl⟩
    · exact h.key p (List.mem_filter.1 hp).1
  · rcases (hm y).1 hy with rfl | hy
    · exact hx
    · exact h.ok y hy
  · rw [length_lput ha]
    by_cases hxm : x ∈ M
    · rw [if_pos ((h.mem x hx).2 hxm), h.len]
      refine ((List.perm_ext_iff_of_nodup h.nd hnd).2 fun y => ?_).length_eq
      rw [hm]
      exact ⟨Or.inr, fun e => e.elim (fun e => by rw [e]; exact hxm) id⟩
    · rw [if_neg (fun e => hxm ((h.mem x hx).1 e)), h.len]
      have : (x :: M).Perm M' := (List.perm_ext_iff_of_nodup (List.nodup_cons.2 ⟨hxm, h.nd⟩) hnd).2 fun y => by rw [hm]; simp
      have := this.length_eq
      simpa using this
theorem ms_del {L : List (Lit × Unit)} {M M' : List MK} {x : MK} (h : MS L M) (ha : Apart L) (hx : mOk x) (hnd : M'.Nodup) (hm : ∀ y, y ∈ M' ↔ y ≠ x ∧ y ∈ M) : MS (ldel L (kM x)) M' := by
  refine ⟨fun y hy => ?_, fun p hp => ?_, fun y hy => ?_, hnd, ?_⟩
  · rw [lget_kM_del hx hy, hm, h.mem y hy]
  · exact h.key p (List.mem_filter.1 hp).1
  · exact h.ok y ((hm y).1 hy).2
  · have hl := length_ldel (kM x) ha
    by_cases hxm : x ∈ M
    · rw [if_pos ((h.mem x hx).2 hxm), h.len] at hl
      have : M.Perm (x :: M') := (List.perm_ext_iff_of_nodup h.nd (List.nodup_cons.2 ⟨fun e => ((hm x).1 e).1 rfl, hnd⟩)).2 fun y => by
        rw [List.mem_cons, hm]
        by_cases e : y = x
        · subst e; simp [hxm]
        · simp [e]
      have := this.length_eq
      simp at this
      omega
    · rw [if_neg (fun e => hxm ((h.mem x hx).1 e)), h.len] at hl
      have : M.Perm M' := (List.perm_ext_iff_of_nodup h.nd hnd).2 fun y => by
        rw [hm]
        exact ⟨fun e => ⟨fun e' => hxm (e' ▸ e), e⟩, fun e => e.2⟩
      have := this.length_eq
      omega

/-- A table of package marker. -/
structure Tab (w : World) (tb mb : Nat) (limit : Int) (M : List MK) : Prop where
  blk : w.heap[tb]? = some (.cells #[.int .i64 limit, .map (some mb)] 95 (0, 0))
  map : ∃ L, MapAt Try.prog 97 encT w mb L ∧ MS L M
theorem Tab.keep {S : Nat → Prop} {w w' : World} {tb mb : Nat} {limit : Int} {M : List MK} (T : Tab w tb mb limit M) (hk : Keep S w w') (h1 : ¬ S tb) (h2 : ¬ S mb) : Tab w' tb mb limit M := by
  obtain ⟨L, hL, hM⟩ := T.map
  exact ⟨blk_keep T.blk hk h1, L, hL.keep hk h2, hM⟩
theorem Tab.ne {w : World} {tb mb : Nat} {limit : Int} {M : List MK} (T : Tab w tb mb limit M) : tb ≠ mb := by
  intro e
  obtain ⟨L, ⟨es, clock, h, _⟩, _⟩ := T.map
  rw [← e, T.blk] at h
  cases h

theorem new_any (limit : Int) (w : World) :
    Calls Try.prog 49 #[.int .i64 limit] w fun e w' => e = .returned (.pointer (some ⟨w.heap.size + 1, 0, none⟩)) ∧ Tab w' (w.heap.size + 1) w.heap.size limit [] ∧ Keep NoB w w' ∧ w'.heap.size = w.heap.size + 2 := by
  have hmm := @run_makeMap Try.prog
  go_enter Try.func49, Try.ntmps49
  go_wp2
  go_ret
  refine ⟨rfl, ⟨?_, [], ?_, MS.nil⟩, ?_, ?_⟩
  · have := blk_new (w.alloc (.map #[] 0)) (.cells #[.int .i64 limit, .map (some w.heap.size)] 95); simpa using this
  · exact (MapAt.made w).alloc _
  · (repeat (with_reducible first | exact Keep.refl _ _ | assumption | refine Keep.alloc ?_ _ | refine Keep.drewN ?_ _ | refine Keep.drew ?_ | refine Keep.setCell ?_ (by first | (left; simp; done) | (left; simp; omega) | (right; simp [NoB, OneB, TwoB]; done)) _))
  · simp

theorem len_any (tb mb : Nat) (limit : Int) (M : List MK) (w : World) (T : Tab w tb mb limit M) :
    Calls Try.prog 28 #[.pointer (some ⟨tb, 0, none⟩)] w fun e w' => e = .returned (.int .i64 M.length) ∧ w' = w := by
  have c1 := blk_cell T.blk 1
  obtain ⟨L, hL, hM⟩ := T.map
  have hlen := fun ty => hL.len Try.underlying93 ty
  rw [hM.len] at hlen
  clear T hL hM
  simp at c1
  go_enter Try.func28, Try.ntmps28
  go_wp2
  go_ret
  exact ⟨rfl, rfl⟩


theorem set_busy (tb mb : Nat) (limit : Int) (M : List MK) (s : ByteArray) (a b : Int) (w : World) (T : Tab w tb mb limit M) (hx : mOk (s, a, b)) (hn : (s, a, b) ∉ M) (hl : limit ≤ M.length) :
    Calls Try.prog 29 #[.pointer (some ⟨tb, 0, none⟩), .string s, .int .i64 a, .int .i64 b] w fun e w' => e = .returned (.int .i64 4) ∧ Keep NoB w w' := by
  have c0 := blk_cell T.blk 0
  have c1 := blk_cell T.blk 1
  have hlt := blk_lt T.blk
  have hne := T.ne
  have hblk := Lib.hid T.blk
  obtain ⟨L, hm, hM⟩ := T.map
  have Hap := Lib.hid (hm.apart law37)
  have HM := Lib.hid hM
  have hkey := keyOf_mV (s, a, b) hx
  simp only [mV] at hkey
  have Hm := Lib.hid hm
  have Hx := Lib.hid hx
  clear T hx
  simp at c0 c1
  have hlook := fun n : Nat => ((Hm.out.alloc (.cells #[.string s, .int .i64 a, .int .i64 b] 97)).drewN n).look law37 Try.underlying93 (zero4 _) hkey
  have hlen := fun (n : Nat) (ty : TypeId) => ((Hm.out.alloc (.cells #[.string s, .int .i64 a, .int .i64 b] 97)).drewN n).len Try.underlying93 ty
  have hg : lget L (kM (s, a, b)) = none := by
    cases h : lget L (kM (s, a, b)) with
    | none => rfl
    | some u => exact absurd ((HM.out.mem _ Hx.out).1 (by rw [h]; rfl)) hn
  rw [hg] at hlook
  rw [HM.out.len] at hlen
  simp only [Option.map_none, Option.getD_none] at hlook
  have hd : decide (limit ≤ (M.length : Int)) = true := decide_eq_true hl
  clear hm hM hkey hg hn
  go_enter Try.func29, Try.ntmps29
  go_wp2_with fail
  go_quiet (fail)
  go_wp2
  go_ret
  exact ⟨rfl, ((Keep.refl NoB w).alloc _).drewN _⟩
theorem set_ok (tb mb : Nat) (limit : Int) (M : List MK) (s : ByteArray) (a b : Int) (w : World) (T : Tab w tb mb limit M) (hx : mOk (s, a, b)) (hlen0 : M.length < maxLen) (hc : (s, a, b) ∈ M ∨ (M.length : Int) < limit) (M' : List MK) (hnd : M'.Nodup) (hmem : ∀ y, y ∈ M' ↔ y = (s, a, b) ∨ y ∈ M) :
    Calls Try.prog 29 #[.pointer (some ⟨tb, 0, none⟩), .string s, .int .i64 a, .int .i64 b] w fun e w' => e = .returned (.int .i64 0) ∧ Tab w' tb mb limit M' ∧ Keep (OneB mb) w w' := by
  have c0 := blk_cell T.blk 0
  have c1 := blk_cell T.blk 1
  have hlt := blk_lt T.blk
  have hne := T.ne
  have hblk := Lib.hid T.blk
  obtain ⟨L, hm, hM⟩ := T.map
  have Hap := Lib.hid (hm.apart law37)
  have HM := Lib.hid hM
  have hkey := keyOf_mV (s, a, b) hx
  simp only [mV] at hkey
  have Hm := Lib.hid hm
  have Hx := Lib.hid hx
  clear T hx
  simp at c0 c1
  have hlook := fun n : Nat => ((Hm.out.alloc (.cells #[.string s, .int .i64 a, .int .i64 b] 97)).drewN n).look law37 Try.underlying93 (zero4 _) hkey
  have hlen := fun (n : Nat) (ty : TypeId) => ((Hm.out.alloc (.cells #[.string s, .int .i64 a, .int .i64 b] 97)).drewN n).len Try.underlying93 ty
  rw [HM.out.len] at hlen
  have hL0 : L.length < maxLen := by rw [HM.out.len]; exact hlen0
  have Hms := Lib.hid (ms_put HM.out Hap.out Hx.out hnd hmem)
  have hcase : ((lget L (kM (s, a, b))) = some ()) ∨ ((lget L (kM (s, a, b))) = none ∧ decide (limit ≤ (M.length : Int)) = false) := by
    cases h : lget L (kM (s, a, b)) with
    | some u => exact Or.inl rfl
    | none =>
      right
      refine ⟨rfl, decide_eq_false ?_⟩
      rcases hc with hc | hc
      · have := (HM.out.mem _ Hx.out).2 hc
        rw [h] at this
        cases this
      · omega
  have HL0 := Lib.hid hL0
  have Hkey := Lib.hid hkey
  clear hm hM hlen0 hL0 hnd hmem hc
  rcases hcase with hg | ⟨hg, hd⟩
  all_goals
    rw [hg] at hlook
    simp only [Option.map_none, Option.getD_none, Option.map_some, Option.getD_some, encT] at hlook
    clear hg hkey
    go_enter Try.func29, Try.ntmps29
    go_wp2_with fail
    go_quiet (fail)
    go_wp2_with fail
    have kq : Keep NoB w ((w.alloc (.cells #[.string s, .int .i64 a, .int .i64 b] 97)).drewN nq) := ((Keep.refl NoB w).alloc _).drewN nq
    have Hmq := Lib.hid ((Hm.out.alloc (.cells #[.string s, .int .i64 a, .int .i64 b] 97)).drewN nq)
    refine wp_region_tail 5 (by kernel_rfl) (by kernel_rfl) ?_
    simp only [List.take_succ_cons, List.take_zero, List.drop_succ_cons, List.drop_zero]
    repeat still_step
    refine wpStill_nil ?_
    refine wpList_mstore _ rfl _ _ _ 93 rfl 97 4 law37 Try.underlying93 encT mb L rfl Hmq.out.drew HL0.out _ _ () rfl rfl Hkey.out ?_
    intro w1 hm1 ht1
    have hk : Keep (OneB mb) w w1 := (kq.none.drew).turned ht1 (Or.inr rfl)
    go_wp2
    go_ret
    exact ⟨rfl, ⟨blk_keep hblk.out hk hne, _, hm1, Hms.out⟩, hk⟩

theorem clear_no (tb mb : Nat) (limit : Int) (M : List MK) (s : ByteArray) (a b : Int) (w : World) (T : Tab w tb mb limit M) (hx : mOk (s, a, b)) (hn : (s, a, b) ∉ M) :
    Calls Try.prog 31 #[.pointer (some ⟨tb, 0, none⟩), .string s, .int .i64 a, .int .i64 b] w fun e w' => e = .returned (.bool false) ∧ Keep NoB w w' := by
  have c0 := blk_cell T.blk 0
  have c1 := blk_cell T.blk 1
  have hlt := blk_lt T.blk
  have hne := T.ne
  have hblk := Lib.hid T.blk
  obtain ⟨L, hm, hM⟩ := T.map
  have Hap := Lib.hid (hm.apart law37)
  have HM := Lib.hid hM
  have hkey := keyOf_mV (s, a, b) hx
  simp only [mV] at hkey
  have Hm := Lib.hid hm
  have Hx := Lib.hid hx
  clear T hx
  simp at c0 c1
  have hlook := fun n : Nat => ((Hm.out.alloc (.cells #[.string s, .int .i64 a, .int .i64 b] 97)).drewN n).look law37 Try.underlying93 (zero4 _) hkey
  have hg : lget L (kM (s, a, b)) = none := by
    cases h : lget L (kM (s, a, b)) with
    | none => rfl
    | some u => exact absurd ((HM.out.mem _ Hx.out).1 (by rw [h]; rfl)) hn
  rw [hg] at hlook
  simp only [Option.map_none, Option.getD_none] at hlook
  clear hm hM hkey hg hn
  go_enter Try.func31, Try.ntmps31
  go_wp2_with fail
  go_quiet (fail)
  go_wp2
  go_ret
  exact ⟨rfl, ((Keep.refl NoB w).alloc _).drewN _⟩

theorem clear_yes (tb mb : Nat) (limit : Int) (M : List MK) (s : ByteArray) (a b : Int) (w : World) (T : Tab w tb mb limit M) (hx : mOk (s, a, b)) (hn : (s, a, b) ∈ M) (M' : List MK) (hnd : M'.Nodup) (hmem : ∀ y, y ∈ M' ↔ y ≠ (s, a, b) ∧ y ∈ M) :
    Calls Try.prog 31 #[.pointer (some ⟨tb, 0, none⟩), .string s, .int .i64 a, .int .i64 b] w fun e w' => e = .returned (.bool true) ∧ Tab w' tb mb limit M' ∧ Keep (OneB mb) w w' := by
  have c0 := blk_cell T.blk 0
  have c1 := blk_cell T.blk 1
  have hlt := blk_lt T.blk
  have hne := T.ne
  have hblk := Lib.hid T.blk
  obtain ⟨L, hm, hM⟩ := T.map
  have Hap := Lib.hid (hm.apart law37)
  have HM := Lib.hid hM
  have hkey := keyOf_mV (s, a, b) hx
  simp only [mV] at hkey
  have Hm := Lib.hid hm
  have Hx := Lib.hid hx
  clear T hx
  simp at c0 c1
  have hlook := fun n : Nat => ((Hm.out.alloc (.cells #[.string s, .int .i64 a, .int .i64 b] 97)).drewN n).look law37 Try.underlying93 (zero4 _) hkey
  have hg : lget L (kM (s, a, b)) = some () := by
    have := (HM.out.mem _ Hx.out).2 hn
    cases h : lget L (kM (s, a, b)) with
    | none => rw [h] at this; cases this
    | some u => rfl
  rw [hg] at hlook
  simp only [Option.map_some, Option.getD_some, encT] at hlook
  have Hms := Lib.hid (ms_del HM.out Hap.out Hx.out hnd hmem)
  have Hkey := Lib.hid hkey
  clear hm hM hkey hg hn hnd hmem
  go_enter Try.func31, Try.ntmps31
  go_wp2_with fail
  go_quiet (fail)
  go_wp2_with fail
  have kq : Keep NoB w ((w.alloc (.cells #[.string s, .int .i64 a, .int .i64 b] 97)).drewN nq) := ((Keep.refl NoB w).alloc _).drewN nq
  have Hmq := Lib.hid ((Hm.out.alloc (.cells #[.string s, .int .i64 a, .int .i64 b] 97)).drewN nq)
  refine wp_region_tail 5 (by kernel_rfl) (by kernel_rfl) ?_
  simp only [List.take_succ_cons, List.take_zero, List.drop_succ_cons, List.drop_zero]
  repeat still_step
  refine wpStill_nil ?_
  refine wpList_mdrop _ rfl _ _ 93 97 rfl 4 law37 Try.underlying93 encT mb L rfl Hmq.out.drew _ _ rfl Hkey.out ?_
  intro w1 hm1 ht1
  have hk : Keep (OneB mb) w w1 := (kq.none.drew).turned ht1 (Or.inr rfl)
  go_wp2
  go_ret
  exact ⟨rfl, ⟨blk_keep hblk.out hk hne, _, hm1, Hms.out⟩, hk⟩

/-! ### no table -/
theorem nset_any (s : ByteArray) (a b : Int) (w : World) : Calls Try.prog 29 #[.pointer none, .string s, .int .i64 a, .int .i64 b] w fun e w' => e = .returned (.int .i64 4) ∧ Keep NoB w w' := by
  go_enter Try.func29, Try.ntmps29
  go_wp2_with fail
  go_quiet (fail)
  go_wp2
  go_ret
  exact ⟨rfl, ((Keep.refl NoB w).alloc _).drewN _⟩
theorem nclear_any (s : ByteArray) (a b : Int) (w : World) : Calls Try.prog 31 #[.pointer none, .string s, .int .i64 a, .int .i64 b] w fun e w' => e = .returned (.bool false) ∧ Keep NoB w w' := by
  go_enter Try.func31, Try.ntmps31
  go_wp2_with fail
  go_quiet (fail)
  go_wp2
  go_ret
  exact ⟨rfl, ((Keep.refl NoB w).alloc _).drewN _⟩
theorem nlen_any (w : World) : Calls Try.prog 28 #[.pointer none] w fun e w' => e = .returned (.int .i64 0) ∧ w' = w := by
  go_enter Try.func28, Try.ntmps28
  go_wp2
  go_ret
  exact ⟨rfl, rfl⟩
theorem nhas_any (s : ByteArray) (w : World) : Calls Try.prog 23 #[.pointer none, .string s] w fun e w' => e = .returned (.bool false) ∧ w' = w := by
  go_enter Try.func23, Try.ntmps23
  go_wp2
  go_ret
  exact ⟨rfl, rfl⟩
end Go.Proofs.Ytieoejilppgebaa.Mk
