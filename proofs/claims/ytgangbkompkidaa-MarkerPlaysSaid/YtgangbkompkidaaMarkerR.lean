/- What Upto and Past of package marker come to. -/
import Derived.Test.YtgangbkompkidaaMarkerS
namespace Go.Proofs.Ytgangbkompkidaa
open Go Go.RowKit Go.Maps Go.Sort

def uptoP (s : ByteArray) (a b : Int) (x : MK) : Bool := decide (x.1 = s ∧ x.2.1 = a ∧ x.2.2 ≤ b)
theorem upto_fn (s : ByteArray) (a b : Int) (sb ab bb : Nat) (x : MK) (w : World) (h1 : w.cell? ⟨sb, 0, none⟩ = some (.string s)) (h2 : w.cell? ⟨ab, 0, none⟩ = some (.int .i64 a)) (h3 : w.cell? ⟨bb, 0, none⟩ = some (.int .i64 b)) (l1 : sb < w.heap.size) (l2 : ab < w.heap.size) (l3 : bb < w.heap.size) (v : Bool) (hv : uptoP s a b x = v) :
    Calls Try.prog 23 #[.agg (mCells x).toArray, .pointer (some ⟨sb, 0, none⟩), .pointer (some ⟨ab, 0, none⟩), .pointer (some ⟨bb, 0, none⟩)] w fun e w' => e = .returned (.bool v) ∧ Keep NoB w w' := by
  subst hv
  unfold uptoP
  obtain ⟨x1, x2, x3⟩ := x
  simp only [mCells]
  by_cases e1 : x1 = s
  · have q1 : (x1.toList == s.toList) = true := by rw [e1]; simp
    by_cases e2 : x2 = a
    · have q2 : (x2 == a) = true := by simpa using e2
      by_cases e3 : x3 ≤ b
      · have q3 : decide (x3 ≤ b) = true := decide_eq_true e3
        have hp : decide (x1 = s ∧ x2 = a ∧ x3 ≤ b) = true := decide_eq_true ⟨e1, e2, e3⟩
        rw [hp]
        clear e1 e2 e3 hp
        go_enter Try.func23, Try.ntmps23
        go_wp2
        go_ret
        exact ⟨rfl, (Keep.refl NoB w).alloc _⟩
      · have q3 : decide (x3 ≤ b) = false := decide_eq_false e3
        have hp : decide (x1 = s ∧ x2 = a ∧ x3 ≤ b) = false := decide_eq_false (fun h => e3 h.2.2)
        rw [hp]
        clear e1 e2 e3 hp
        go_enter Try.func23, Try.ntmps23
        go_wp2
        go_ret
        exact ⟨rfl, (Keep.refl NoB w).alloc _⟩
    · have q2 : (x2 == a) = false := by simpa using e2
      have hp : decide (x1 = s ∧ x2 = a ∧ x3 ≤ b) = false := decide_eq_false (fun h => e2 h.2.1)
      rw [hp]
      clear e1 e2 hp
      go_enter Try.func23, Try.ntmps23
      go_wp2
      go_ret
      exact ⟨rfl, (Keep.refl NoB w).alloc _⟩
  · have q1 := tx_ne e1
    have hp : decide (x1 = s ∧ x2 = a ∧ x3 ≤ b) = false := decide_eq_false (fun h => e1 h.1)
    rw [hp]
    clear e1 hp
    go_enter Try.func23, Try.ntmps23
    go_wp2
    go_ret
    exact ⟨rfl, (Keep.refl NoB w).alloc _⟩
def pastP (a b : Int) (x : MK) : Bool := decide (x.2.1 = a ∧ x.2.2 ≤ b)
theorem past_fn (a b : Int) (ab bb : Nat) (x : MK) (w : World) (h2 : w.cell? ⟨ab, 0, none⟩ = some (.int .i64 a)) (h3 : w.cell? ⟨bb, 0, none⟩ = some (.int .i64 b)) (l2 : ab < w.heap.size) (l3 : bb < w.heap.size) (v : Bool) (hv : pastP a b x = v) :
    Calls Try.prog 29 #[.agg (mCells x).toArray, .pointer (some ⟨ab, 0, none⟩), .pointer (some ⟨bb, 0, none⟩)] w fun e w' => e = .returned (.bool v) ∧ Keep NoB w w' := by
  subst hv
  unfold pastP
  obtain ⟨x1, x2, x3⟩ := x
  simp only [mCells]
  by_cases e2 : x2 = a
  · have q2 : (x2 == a) = true := by simpa using e2
    by_cases e3 : x3 ≤ b
    · have q3 : decide (x3 ≤ b) = true := decide_eq_true e3
      have hp : decide (x2 = a ∧ x3 ≤ b) = true := decide_eq_true ⟨e2, e3⟩
      rw [hp]
      clear e2 e3 hp
      go_enter Try.func29, Try.ntmps29
      go_wp2
      go_ret
      exact ⟨rfl, (Keep.refl NoB w).alloc _⟩
    · have q3 : decide (x3 ≤ b) = false := decide_eq_false e3
      have hp : decide (x2 = a ∧ x3 ≤ b) = false := decide_eq_false (fun h => e3 h.2)
      rw [hp]
      clear e2 e3 hp
      go_enter Try.func29, Try.ntmps29
      go_wp2
      go_ret
      exact ⟨rfl, (Keep.refl NoB w).alloc _⟩
  · have q2 : (x2 == a) = false := by simpa using e2
    have hp : decide (x2 = a ∧ x3 ≤ b) = false := decide_eq_false (fun h => e2 h.1)
    rw [hp]
    clear e2 hp
    go_enter Try.func29, Try.ntmps29
    go_wp2
    go_ret
    exact ⟨rfl, (Keep.refl NoB w).alloc _⟩

/-! ### those -/
def goneN (p : MK → Bool) (M : List MK) (k : Nat) : List MK := (M.take k).filter (fun x => !p x) ++ M.drop k
theorem gone_at {p : MK → Bool} {M : List MK} {k : Nat} {x : MK} (hx : M[k]? = some x) : goneN p M k = (M.take k).filter (fun x => !p x) ++ x :: M.drop (k + 1) := by
  obtain ⟨h, e⟩ := List.getElem?_eq_some_iff.1 hx
  unfold goneN
  rw [List.drop_eq_getElem_cons h, e]
theorem gone_next {p : MK → Bool} {M : List MK} {k : Nat} {x : MK} (hx : M[k]? = some x) : goneN p M (k + 1) = (M.take k).filter (fun x => !p x) ++ ((if p x = true then [] else [x]) ++ M.drop (k + 1)) := by
  obtain ⟨h, e⟩ := List.getElem?_eq_some_iff.1 hx
  unfold goneN
  rw [List.take_succ_eq_append_getElem h, e, List.filter_append]
  by_cases hp : p x = true
  · simp [hp]
  · simp [hp]
theorem gone_nd {p : MK → Bool} {M : List MK} (h : M.Nodup) (k : Nat) : (goneN p M k).Nodup := by
  refine List.Sublist.nodup ?_ h
  unfold goneN
  conv => rhs; rw [← List.take_append_drop k M]
  exact List.Sublist.append List.filter_sublist (List.Sublist.refl _)
theorem gone_mem {p : MK → Bool} {M : List MK} (h : M.Nodup) {k : Nat} {x : MK} (hx : M[k]? = some x) (hp : p x = true) (y : MK) : y ∈ goneN p M (k + 1) ↔ y ≠ x ∧ y ∈ goneN p M k := by
  have hnd := gone_nd (p := p) h k
  rw [gone_at hx] at hnd
  rw [gone_next hx, if_pos hp, gone_at hx, List.nil_append]
  rw [List.nodup_append] at hnd
  obtain ⟨_, h2, h3⟩ := hnd
  have h4 := (List.nodup_cons.1 h2).1
  simp only [List.mem_append, List.mem_cons]
  constructor
  · rintro (hy | hy)
    · exact ⟨fun e => h3 y hy x (by simp) e, Or.inl hy⟩
    · exact ⟨fun e => h4 (e ▸ hy), Or.inr (Or.inr hy)⟩
  · rintro ⟨hne, hy | hy | hy⟩
    · exact Or.inl hy
    · exact absurd hy hne
    · exact Or.inr hy
theorem gone_len {p : MK → Bool} {M : List MK} {k : Nat} {x : MK} (hx : M[k]? = some x) (hp : p x = true) : (goneN p M k).length = (goneN p M (k + 1)).length + 1 := by
  rw [gone_next hx, if_pos hp, gone_at hx, List.nil_append, List.length_append, List.length_append, List.length_cons]
  omega
theorem gone_stay {p : MK → Bool} {M : List MK} {k : Nat} {x : MK} (hx : M[k]? = some x) (hp : ¬ p x = true) : goneN p M (k + 1) = goneN p M k := by
  rw [gone_next hx, if_neg hp, gone_at hx]
  rfl
theorem gone_all (p : MK → Bool) (M : List MK) : goneN p M M.length = M.filter (fun x => !p x) := by
  unfold goneN
  simp
theorem gone_le (p : MK → Bool) (M : List MK) (k : Nat) : (goneN p M k).length ≤ M.length := by
  unfold goneN
  rw [List.length_append, List.length_drop]
  have := List.length_filter_le (fun x => !p x) (M.take k)
  rw [List.length_take] at this
  omega

set_option maxHeartbeats 4000000 in
theorem those_upto (tb mb : Nat) (limit : Int) (M : List MK) (w : World) (T : Tab w tb mb limit M) (hn : M.length ≤ 100000) (hr : RiseM M) (s : ByteArray) (a b : Int) (sb ab bb : Nat) (h1 : w.cell? ⟨sb, 0, none⟩ = some (.string s)) (h2 : w.cell? ⟨ab, 0, none⟩ = some (.int .i64 a)) (h3 : w.cell? ⟨bb, 0, none⟩ = some (.int .i64 b)) (l1 : sb < w.heap.size) (l2 : ab < w.heap.size) (l3 : bb < w.heap.size) (m1 : sb ≠ mb) (m2 : ab ≠ mb) (m3 : bb ≠ mb) :
    Calls Try.prog 22 #[.pointer (some ⟨tb, 0, none⟩), .func (.func 23) #[] #[.pointer (some ⟨sb, 0, none⟩), .pointer (some ⟨ab, 0, none⟩), .pointer (some ⟨bb, 0, none⟩)]] w fun e w' => e = .returned (.int .i64 ((M.length : Int) - (goneN (uptoP s a b) M M.length).length)) ∧ Tab w' tb mb limit (goneN (uptoP s a b) M M.length) ∧ Keep (OneB mb) w w' := by
  have HT := Lib.hid T
  have Hr := Lib.hid hr
  clear T hr
  go_enter Try.func22, Try.ntmps22
  go_wp2_with fail
  refine (all_any tb mb limit M w HT.out hn Hr.out).mono ?_
  rintro _ w1 ⟨oa, oc, rfl, O1, k1⟩
  go_wp2_with fail
  have hmb : mb < w.heap.size := by obtain ⟨L, hm, _⟩ := HT.out.map; exact hm.lt
  have HT1 := Lib.hid (HT.out.keep k1 (fun h => h) (fun h => h))
  have HO1 := Lib.hid O1
  have Hk1 := Lib.hid k1
  have g0 : goneN (uptoP s a b) M 0 = M := by simp [goneN]
  have Hg0 := Lib.hid g0
  clear O1 k1 g0
  go_loopw [5, 11] (fun nv iv wr => ∃ k : Nat, k ≤ M.length ∧ iv = .int .i64 (k : Int) ∧ nv = .int .i64 ((M.length : Int) - ((goneN (uptoP s a b) M k).length : Int)) ∧ Tab wr tb mb limit (goneN (uptoP s a b) M k) ∧ Own wr w.heap.size 37 3 mCells (.slice oa M.length oc) M ∧ Keep (OneB mb) w wr) (fun _ iv _ => M.length - (intOf iv).toNat)
  case atStart => exact ⟨0, Nat.zero_le _, rfl, by rw [Hg0.out]; simp, by rw [Hg0.out]; exact HT1.out, HO1.out, Hk1.out.none⟩
  case round =>
    obtain ⟨k, hk, rfl, rfl, Tk, Ok, Kk⟩ := hrel
    have HTk := Lib.hid Tk
    have HOk := Lib.hid Ok
    have HKk := Lib.hid Kk
    clear Tk Ok Kk
    by_cases hkn : k < M.length
    · obtain ⟨x, hx⟩ : ∃ x, M[k]? = some x := ⟨_, List.getElem?_eq_getElem hkn⟩
      obtain ⟨g, cap', hvv, hg1, hg2, hcx⟩ := HOk.out.cells mCells_len hx
      have Hvv := Lib.hid hvv
      have Hx := Lib.hid hx
      cases hvv
      have r0 := hcx 0 _ rfl
      have r1 := hcx 1 _ rfl
      have r2 := hcx 2 _ rfl
      simp only [Nat.add_zero] at r0
      obtain ⟨x0, x1, x2⟩ := x
      simp at r0 r1 r2
      clear hcx hx Hvv
      obtain ⟨v, hv⟩ : ∃ v, uptoP s a b (x0, x1, x2) = v := ⟨_, rfl⟩
      have Hv := Lib.hid hv
      clear hv
      go_wp2_with fail
      have kA : Keep NoB wr (wr.alloc (.cells #[.string x0, .int .i64 x1, .int .i64 x2] 37)) := (Keep.refl NoB wr).alloc _
      have KA := HKk.out.trans kA.none
      refine (upto_fn s a b sb ab bb (x0, x1, x2) _ (KA.some h1 m1) (KA.some h2 m2) (KA.some h3 m3) (Nat.lt_of_lt_of_le l1 KA.size) (Nat.lt_of_lt_of_le l2 KA.size) (Nat.lt_of_lt_of_le l3 KA.size) v Hv.out).mono ?_
      rintro _ w2 ⟨rfl, k2⟩
      have T2 := HTk.out.keep (kA.trans k2) (fun h => h) (fun h => h)
      have bb2 := blk_keep (blk_new wr (.cells #[.string x0, .int .i64 x1, .int .i64 x2] 37)) k2 (fun h => h)
      have d1 := blk_cell T2.blk 1
      have dl := blk_lt T2.blk
      have z0 := blk_cell bb2 0
      have z1 := blk_cell bb2 1
      have z2 := blk_cell bb2 2
      have zl := blk_lt bb2
      simp at d1 z0 z1 z2
      obtain ⟨L, hm, hM⟩ := T2.map
      have hxM := List.mem_of_getElem? Hx.out
      have Hxo := Lib.hid (show mOk (x0, x1, x2) from by obtain ⟨_, _, h⟩ := HT.out.map; exact h.ok _ hxM)
      have Hkey := Lib.hid (keyOf_mV (x0, x1, x2) Hxo.out)
      have Hap := Lib.hid (hm.apart law37)
      have HM := Lib.hid hM
      have Hm := Lib.hid hm
      have HT2 := Lib.hid T2
      have HK2 := Lib.hid (KA.trans k2.none)
      have HO2 := Lib.hid (HOk.out.keep (kA.trans k2) (fun _ _ h => h))
      have hle := gone_le (uptoP s a b) M k
      obtain ⟨q, hq⟩ : ∃ q : Int, (M.length : Int) - ((goneN (uptoP s a b) M k).length : Int) = q := ⟨_, rfl⟩
      rw [hq]
      have hq0 : 0 ≤ q := by omega
      have hq1 : q ≤ 100000 := by omega
      have Hq := Lib.hid hq
      clear bb2 T2 hm hM hxM k2 kA KA r0 r1 r2 hle hq
      cases v
      · have hst := gone_stay (p := uptoP s a b) Hx.out (by rw [Hv.out]; simp)
        have Hst := Lib.hid hst
        clear hst
        go_wp2_with fail
        go_roundw
        case rel => exact ⟨k + 1, hkn, by go_num, by rw [Hst.out, Hq.out], by rw [Hst.out]; exact HT2.out, HO2.out, HK2.out⟩
        case measure => simp [intOf]; omega
      · have hmem := gone_mem (p := uptoP s a b) (by obtain ⟨_, _, h⟩ := HT.out.map; exact h.nd) Hx.out Hv.out
        have Hms := Lib.hid (ms_del HM.out Hap.out Hxo.out (gone_nd (p := uptoP s a b) (by obtain ⟨_, _, h⟩ := HT.out.map; exact h.nd) (k + 1)) hmem)
        have Hln := Lib.hid (gone_len Hx.out Hv.out)
        have hne := HT2.out.ne
        clear hmem
        go_wp2_with fail
        refine wp_region_tail 5 (by kernel_rfl) (by kernel_rfl) ?_
        simp only [List.take_succ_cons, List.take_zero, List.drop_succ_cons, List.drop_zero]
        repeat still_step
        refine wpStill_nil ?_
        refine wpList_mdrop _ rfl _ _ 51 37 rfl 4 law37 Try.underlying51 encT mb L rfl Hm.out.drew _ _ rfl Hkey.out ?_
        intro w5 hm5 ht5
        have k5 : Keep (OneB mb) w2 w5 := ((Keep.refl (OneB mb) w2).drew).turned ht5 (Or.inr rfl)
        have HT5 := Lib.hid (show Tab w5 tb mb limit (goneN (uptoP s a b) M (k + 1)) from ⟨blk_keep HT2.out.blk k5 hne, _, hm5, Hms.out⟩)
        have HO5 := Lib.hid (HO2.out.keep k5 (fun g hg e => by have := HO2.out.fresh g hg; have e' : g = mb := e; omega))
        have HK5 := Lib.hid (HK2.out.trans k5)
        clear hm5 ht5 k5
        go_wp2_with fail
        go_roundw
        case rel => exact ⟨k + 1, hkn, by go_num, congrArg (Value.int .i64) (by have h9 := Hq.out; have h8 := Hln.out; omega), HT5.out, HO5.out, HK5.out⟩
        case measure => simp [intOf]; omega
    · have hd : decide ((k : Int) < (M.length : Int)) = false := decide_eq_false (by omega)
      obtain rfl : k = M.length := by omega
      go_wp2
      go_ret
      exact ⟨rfl, HTk.out, HKk.out⟩
end Go.Proofs.Ytgangbkompkidaa
