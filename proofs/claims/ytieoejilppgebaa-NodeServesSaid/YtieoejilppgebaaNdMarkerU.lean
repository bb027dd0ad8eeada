/- What a marker's key reads as, told backwards; Has. -/
import Derived.Test.YtieoejilppgebaaNdMarkerV
import Derived.Test.YtieoejilppgebaaLibKeyS
namespace Go.Proofs.Ytieoejilppgebaa.Mk
open Go Go.RowKit Go.Maps
set_option maxRecDepth 100000

theorem lits9 {d : Nat} {c : Value} {ls : List Lit} (h : Try.prog.keyLits (d + 1) 9 [c] = some ls) : ∃ s : ByteArray, c = .string s ∧ s.size ≤ maxLen ∧ ls = [.string s.data.toList] := by
  rw [Program.keyLits.eq_def] at h
  simp only [Try.underlying9] at h
  cases c <;> simp at h
  exact ⟨_, rfl, h.1, h.2.symm⟩
theorem lits3 {d : Nat} {c : Value} {ls : List Lit} (h : Try.prog.keyLits (d + 1) 3 [c] = some ls) : ∃ n : Int, c = .int .i64 n ∧ (Lit.int .i64 n).wf = true ∧ ls = [.int .i64 n] := by
  rw [Program.keyLits.eq_def] at h
  simp only [Try.underlying3] at h
  cases c <;> simp at h
  obtain ⟨⟨rfl, h1⟩, h2⟩ := h
  exact ⟨_, rfl, h1, h2.symm⟩
theorem inv37 (key : Value) (kl : Lit) (h : keyOf Try.prog 97 key = some kl) : ∃ x : MK, mOk x ∧ key = mV x ∧ kl = kM x := by
  unfold keyOf at h
  rw [Try.underlying97] at h
  simp only [ktype37, Bool.true_and] at h
  split at h
  · rename_i hf
    cases key <;> simp [Value.formed, Try.underlying97] at hf
    rename_i cs
    obtain ⟨l⟩ := cs
    obtain ⟨d, hd⟩ := size_pos
    rw [hd] at h
    rw [cells37] at hf
    obtain _ | ⟨c0, _ | ⟨c1, _ | ⟨c2, _ | ⟨c3, r⟩⟩⟩⟩ := l
    · simp at hf
    · simp at hf
    · simp at hf
    · rw [Option.map_eq_some_iff] at h
      obtain ⟨ls, h1, h2⟩ := h
      rw [Program.keyLits.eq_def] at h1
      simp [Try.underlying97, cells37, cells9, cells3, Value.cells, Option.map_eq_some_iff, Option.bind_eq_some_iff] at h1
      obtain ⟨a, ha, b, ⟨b1, hb1, b2, ⟨c, hc, rfl⟩, rfl⟩, e⟩ := h1
      obtain ⟨s, rfl, hs, rfl⟩ := lits9 ha
      obtain ⟨n, rfl, hn, rfl⟩ := lits3 hb1
      obtain ⟨m, rfl, hm, rfl⟩ := lits3 hc
      refine ⟨(s, n, m), ⟨hs, hn, hm⟩, rfl, ?_⟩
      rw [← h2, ← e]
      rfl
    · simp at hf
  · cases h
theorem inv37' (key : Value) (kl : Lit) (h : keyOf Try.prog 97 key = some kl) : ∃ x : MK, key = mV x := by
  obtain ⟨x, _, e, _⟩ := inv37 key kl h
  exact ⟨x, e⟩
theorem key37 {x : MK} {kl : Lit} (h : keyOf Try.prog 97 (mV x) = some kl) : mOk x ∧ kl = kM x := by
  obtain ⟨y, hy, e, e2⟩ := inv37 _ _ h
  have : x = y := by
    simp only [mV, Value.agg.injEq, Array.mk.injEq, List.cons.injEq, Value.string.injEq, Value.int.injEq, and_true, true_and] at e
    exact Prod.ext e.1 (Prod.ext e.2.1 e.2.2)
  subst this
  exact ⟨hy, e2⟩

set_option maxHeartbeats 2000000 in
theorem has_any (tb mb : Nat) (limit : Int) (M : List MK) (s : ByteArray) (w : World) (T : Tab w tb mb limit M) (v : Bool) (hv : decide (∃ x ∈ M, x.1 = s) = v) :
    Calls Try.prog 23 #[.pointer (some ⟨tb, 0, none⟩), .string s] w fun e w' => e = .returned (.bool v) ∧ Keep NoB w w' := by
  have c1 := blk_cell T.blk 1
  have hlt := blk_lt T.blk
  obtain ⟨L, hm, hM⟩ := T.map
  have HM := Lib.hid hM
  have Hv := Lib.hid hv
  clear T hM hv
  simp at c1
  go_enter Try.func23, Try.ntmps23
  go_wp2_with (first
    | (at_range; refine wpList_mrange _ rfl _ 93 rfl 97 4 law37 Try.underlying93 encT mb L rfl hm ?_; intro w0 hrg0 hk0 hs0))
  go_frame
  have Hg0 := Lib.hid hrg0
  clear hrg0 hs0 c1
  go_loopw [4] (fun o wr => ∃ (left : Lit → Bool) (cnt : Nat), RangeAt Try.prog 97 encT wr mb w.heap.size L left cnt ∧ (∀ y ∈ M, left (kM y) = false → y.1 ≠ s) ∧ Keep NoB w wr) (fun _ wr => wr.rangeLeft mb w.heap.size)
  case atStart => exact ⟨_, _, Hg0.out, fun y hy h => by (have h3 := (HM.out.mem y (HM.out.ok y hy)).2 hy; rw [h3] at h; cases h), hk0⟩
  case round =>
    obtain ⟨left, cnt, hrg, hno, hk⟩ := hrel
    have Hno := Lib.hid hno
    clear hno
    go_wp2_with (first
      | (at_next; refine wpList_mnext _ rfl _ rfl 97 law37 encT mV inv37' mb w.heap.size _ left cnt rfl hrg ?_ ?_))
    · intro _ hl0
      have hv0 : v = false := by
        rw [← Hv.out]
        simp only [decide_eq_false_iff_not]
        rintro ⟨y, hy, e⟩
        exact Hno.out y hy (hl0 _) e
      subst hv0
      clear hl0
      go_wp2
      go_ret
      exact ⟨rfl, hk⟩
    · intro xs xa xb u kl w1 cnt1 hkey hl hx hrg1 hlt1 hk1 hs1 hen
      obtain ⟨hxo, e2⟩ := key37 hkey
      subst e2
      have hxM : (xs, xa, xb) ∈ M := (HM.out.mem _ hxo).1 (by rw [hx]; rfl)
      have hstep : ∀ y ∈ M, (left (kM y) && !(kM y).sameKey (kM (xs, xa, xb))) = false → y = (xs, xa, xb) ∨ y.1 ≠ s := by
        intro y hy h
        cases hly : left (kM y) with
        | false => exact Or.inr (Hno.out y hy hly)
        | true =>
          rw [hly] at h
          cases hsk : (kM y).sameKey (kM (xs, xa, xb)) with
          | false => rw [hsk] at h; cases h
          | true => exact Or.inl (kM_inj (HM.out.ok y hy) hxo (WideAt.sameKey_eq hsk))
      have Hstep := Lib.hid hstep
      clear hstep
      simp only [encT, mV] at hen ⊢
      have K1 : Keep NoB w w1 := hk.trans' hk1 (fun j hj e => by have : j = w.heap.size := e; omega)
      have hrl := hrg1.lt
      clear hl hx hk1 hs1 hkey
      by_cases hes : xs = s
      · subst hes
        have hv1 : v = true := by
          rw [← Hv.out]
          simp only [decide_eq_true_eq]
          exact ⟨_, hxM, rfl⟩
        subst hv1
        have hq : (xs.toList == xs.toList) = true := by simp
        go_wp2
        go_ret
        exact ⟨rfl, K1.alloc _⟩
      · have hq := tx_ne hes
        have Hes := Lib.hid hes
        clear hes
        go_wp2_with fail
        go_roundw
        case rel => exact ⟨_, cnt1, hrg1.keep ((Keep.refl NoB w1).alloc _) (fun h => h) (fun h => h), fun y hy h => (Hstep.out y hy h).elim (fun e => by rw [e]; exact Hes.out) id, K1.alloc _⟩
        case measure => rw [(hrg1.keep ((Keep.refl NoB w1).alloc _) (fun h => h) (fun h => h)).left_eq, hrg.left_eq]; exact hlt1
end Go.Proofs.Ytieoejilppgebaa.Mk
