/- Set and Clear of markers, told whole; lists of markers that rise and hold the same are the same. -/
import Derived.Test.YtgangbkompkidaaMarkerBoundW
import Derived.Test.YtgangbkompkidaaMarkerN
namespace Go.Proofs.Ytgangbkompkidaa
open Go Go.RowKit Go.Maps Go.Sort

instance (x : MK) (M : List MK) : Decidable (x ∈ M) := decidable_of_iff (∃ y ∈ M, y = x) (by simp)
theorem rise_ext {A B : List MK} (hA : RiseM A) (hB : RiseM B) (h : ∀ y, y ∈ A ↔ y ∈ B) : A = B :=
  List.Perm.eq_of_pairwise (le := mlt) (fun x y _ _ h1 h2 => absurd (mlt_trans h1 h2) (mlt_irrefl x)) hA hB ((List.perm_ext_iff_of_nodup (rise_nd hA) (rise_nd hB)).2 h)

/-- All but one. -/
def mdel (x : MK) (M : List MK) : List MK := M.filter (fun y => decide (y ≠ x))
theorem mdel_mem {x y : MK} {M : List MK} : y ∈ mdel x M ↔ y ≠ x ∧ y ∈ M := by
  unfold mdel
  rw [List.mem_filter]
  simp [and_comm]
theorem mdel_rise {x : MK} {M : List MK} (h : RiseM M) : RiseM (mdel x M) := rise_filter' h _
theorem mdel_len (x : MK) (M : List MK) : (mdel x M).length ≤ M.length := List.length_filter_le _ _
theorem mdel_not {x : MK} {M : List MK} (h : x ∉ M) : mdel x M = M := by
  unfold mdel
  rw [List.filter_eq_self]
  intro y hy
  have : y ≠ x := fun e => h (e ▸ hy)
  simpa using this
theorem mdel_in {x : MK} {M : List MK} (hr : RiseM M) (h : x ∈ M) : (mdel x M).length + 1 = M.length := by
  have hp : (x :: mdel x M).Perm M := (List.perm_ext_iff_of_nodup (List.nodup_cons.2 ⟨fun e => (mdel_mem.1 e).1 rfl, rise_nd (mdel_rise hr)⟩) (rise_nd hr)).2 fun y => by
    rw [List.mem_cons, mdel_mem]
    by_cases e : y = x
    · simp [e, h]
    · simp [e]
  have := hp.length_eq
  simpa using this

theorem clear_any (tb mb : Nat) (limit : Int) (M : List MK) (s : ByteArray) (a b : Int) (w : World) (T : Tab w tb mb limit M) (hx : mOk (s, a, b)) (hr : RiseM M) (v : Bool) (hv : decide ((s, a, b) ∈ M) = v) (M' : List MK) (hM' : mdel (s, a, b) M = M') :
    Calls Try.prog 15 #[.pointer (some ⟨tb, 0, none⟩), .string s, .int .i64 a, .int .i64 b] w fun e w' => e = .returned (.bool v) ∧ Tab w' tb mb limit M' ∧ Keep (OneB mb) w w' := by
  subst hM'
  cases v with
  | true =>
    have h : (s, a, b) ∈ M := by simpa using hv
    exact clear_yes tb mb limit M s a b w T hx h (mdel (s, a, b) M) (rise_nd (mdel_rise hr)) (fun y => mdel_mem)
  | false =>
    have h : (s, a, b) ∉ M := by simpa using hv
    rw [mdel_not h]
    refine (clear_no tb mb limit M s a b w T hx h).mono ?_
    rintro _ w' ⟨rfl, k⟩
    exact ⟨rfl, T.keep k (fun h => h) (fun h => h), k.none⟩

/-- The list behind a Set. -/
def msetM (limit : Int) (x : MK) (M : List MK) : List MK := if x ∈ M ∨ (M.length : Int) < limit then mput x M else M
theorem msetM_rise {limit : Int} {x : MK} {M : List MK} (h : RiseM M) : RiseM (msetM limit x M) := by
  unfold msetM
  split
  · exact mput_rise x M h
  · exact h
theorem msetM_len (limit : Int) (x : MK) (M : List MK) : (msetM limit x M).length ≤ M.length + 1 := by
  unfold msetM
  split
  · exact mput_len x M
  · omega
theorem msetM_ok {limit : Int} {x : MK} {M : List MK} (h : (M.length : Int) < limit) : msetM limit x M = mput x M := by
  unfold msetM
  rw [if_pos (Or.inr h)]

theorem set_any (tb mb : Nat) (limit : Int) (M : List MK) (s : ByteArray) (a b : Int) (w : World) (T : Tab w tb mb limit M) (hx : mOk (s, a, b)) (hr : RiseM M) (hlen0 : M.length < maxLen) (v : Bool) (hv : decide ((s, a, b) ∈ M ∨ (M.length : Int) < limit) = v) (M' : List MK) (hM' : msetM limit (s, a, b) M = M') :
    Calls Try.prog 12 #[.pointer (some ⟨tb, 0, none⟩), .string s, .int .i64 a, .int .i64 b] w fun e w' => e = .returned (.int .i64 (if v then 0 else 4)) ∧ Tab w' tb mb limit M' ∧ Keep (OneB mb) w w' := by
  subst hM'
  cases v with
  | true =>
    have h : (s, a, b) ∈ M ∨ (M.length : Int) < limit := by simpa using hv
    unfold msetM
    rw [if_pos h]
    exact set_ok tb mb limit M s a b w T hx hlen0 h (mput (s, a, b) M) (rise_nd (mput_rise _ _ hr)) (fun y => mput_mem _ _ _)
  | false =>
    have h : ¬ ((s, a, b) ∈ M ∨ (M.length : Int) < limit) := by simpa using hv
    unfold msetM
    rw [if_neg h]
    refine (set_busy tb mb limit M s a b w T hx (fun e => h (Or.inl e)) (by have : ¬ (M.length : Int) < limit := fun e => h (Or.inr e); omega)).mono ?_
    rintro _ w' ⟨rfl, k⟩
    exact ⟨rfl, T.keep k (fun h => h) (fun h => h), k.none⟩

/-! ### no table -/
theorem nthose_any (f : Value) (w : World) : Calls Try.prog 22 #[.pointer none, f] w fun e w' => e = .returned (.int .i64 0) ∧ w' = w := by
  go_enter Try.func22, Try.ntmps22
  go_wp2_with fail
  refine (nall_any _).mono ?_
  rintro _ w1 ⟨rfl, rfl⟩
  go_wp2_with fail
  go_loopw [5, 11] (fun nv iv wr => nv = .int .i64 0 ∧ iv = .int .i64 0 ∧ wr = w1) (fun _ _ _ => 0)
  case atStart => exact ⟨rfl, rfl, rfl⟩
  case round =>
    obtain ⟨rfl, rfl, rfl⟩ := hrel
    go_wp2
    go_ret
    exact ⟨rfl, rfl⟩
theorem nupto_any (s : ByteArray) (a b : Int) (w : World) : Calls Try.prog 13 #[.pointer none, .string s, .int .i64 a, .int .i64 b] w fun e w' => e = .returned (.int .i64 0) ∧ Keep NoB w w' := by
  go_enter Try.func13, Try.ntmps13
  go_wp2_with fail
  have kk : Keep NoB w (((w.alloc (.cells #[.string s] 9)).alloc (.cells #[.int .i64 a] 3)).alloc (.cells #[.int .i64 b] 3)) := (((Keep.refl NoB w).alloc _).alloc _).alloc _
  refine (nthose_any _ _).mono ?_
  rintro _ w2 ⟨rfl, rfl⟩
  go_wp2
  go_ret
  exact ⟨rfl, kk⟩
theorem npast_any (a b : Int) (w : World) : Calls Try.prog 16 #[.pointer none, .int .i64 a, .int .i64 b] w fun e w' => e = .returned (.int .i64 0) ∧ Keep NoB w w' := by
  go_enter Try.func16, Try.ntmps16
  go_wp2_with fail
  have kk : Keep NoB w ((w.alloc (.cells #[.int .i64 a] 3)).alloc (.cells #[.int .i64 b] 3)) := ((Keep.refl NoB w).alloc _).alloc _
  refine (nthose_any _ _).mono ?_
  rintro _ w2 ⟨rfl, rfl⟩
  go_wp2
  go_ret
  exact ⟨rfl, kk⟩
end Go.Proofs.Ytgangbkompkidaa
