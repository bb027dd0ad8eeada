/- Upto of package marker, whole; lists of markers in order; the document's example. -/
import Derived.Test.YtgangbkompkidaaMarkerR
namespace Go.Proofs.Ytgangbkompkidaa
open Go Go.RowKit Go.Maps Go.Sort

/-! ### lists in order -/
def mput (x : MK) : List MK → List MK
  | [] => [x]
  | y :: M => if Go.Proofs.ltOf cfM y x = true then y :: mput x M else if Go.Proofs.ltOf cfM x y = true then x :: y :: M else y :: M
theorem mput_mem (x : MK) : ∀ (M : List MK) (z : MK), z ∈ mput x M ↔ z = x ∨ z ∈ M
  | [], z => by simp [mput]
  | y :: M, z => by
    have ih := mput_mem x M z
    unfold mput
    split
    · rw [List.mem_cons, ih, List.mem_cons]
      constructor
      · rintro (h | h | h)
        · exact Or.inr (Or.inl h)
        · exact Or.inl h
        · exact Or.inr (Or.inr h)
      · rintro (h | h | h)
        · exact Or.inr (Or.inl h)
        · exact Or.inl h
        · exact Or.inr (Or.inr h)
    · rename_i h1
      split
      · rw [List.mem_cons]
      · rename_i h2
        have e : y = x := mlt_tri (fun h => h1 ((lt_cfM y x).2 h)) (fun h => h2 ((lt_cfM x y).2 h))
        subst e
        rw [List.mem_cons]
        constructor
        · exact fun h => Or.inr h
        · rintro (h | h)
          · exact Or.inl h
          · exact h
theorem mput_rise (x : MK) : ∀ M : List MK, RiseM M → RiseM (mput x M)
  | [], _ => by simp [mput, RiseM]
  | y :: M, h => by
    obtain ⟨h1, h2⟩ := List.pairwise_cons.1 h
    unfold mput
    split
    · rename_i hl
      refine List.pairwise_cons.2 ⟨fun z hz => ?_, mput_rise x M h2⟩
      rcases (mput_mem x M z).1 hz with rfl | hz
      · exact (lt_cfM _ _).1 hl
      · exact h1 z hz
    · split
      · rename_i hl
        refine List.pairwise_cons.2 ⟨fun z hz => ?_, h⟩
        have hxy := (lt_cfM _ _).1 hl
        rcases List.mem_cons.1 hz with rfl | hz
        · exact hxy
        · exact mlt_trans hxy (h1 z hz)
      · exact h
theorem rise_nd {M : List MK} (h : RiseM M) : M.Nodup := h.imp (fun {x y} h e => by rw [e] at h; exact mlt_irrefl _ h)
theorem rise_filter' {M : List MK} (h : RiseM M) (p : MK → Bool) : RiseM (M.filter p) := List.Pairwise.sublist List.filter_sublist h
theorem mput_len (x : MK) : ∀ M : List MK, (mput x M).length ≤ M.length + 1
  | [] => by simp [mput]
  | y :: M => by
    have := mput_len x M
    unfold mput
    split
    · simp; omega
    · split <;> simp
theorem mput_same {x : MK} {M : List MK} (h : RiseM M) (hx : x ∈ M) : (mput x M).length = M.length :=
  ((List.perm_ext_iff_of_nodup (rise_nd (mput_rise x M h)) (rise_nd h)).2 fun y => by rw [mput_mem]; exact ⟨fun e => e.elim (fun e => e ▸ hx) id, Or.inr⟩).length_eq

/-! ### Upto -/
def uptoM (s : ByteArray) (a b : Int) (M : List MK) : List MK := M.filter (fun x => !uptoP s a b x)
set_option maxHeartbeats 2000000 in
theorem upto_any (tb mb : Nat) (limit : Int) (M : List MK) (w : World) (T : Tab w tb mb limit M) (hn : M.length ≤ 100000) (hr : RiseM M) (s : ByteArray) (a b : Int) :
    Calls Try.prog 13 #[.pointer (some ⟨tb, 0, none⟩), .string s, .int .i64 a, .int .i64 b] w fun e w' => e = .returned (.int .i64 ((M.length : Int) - (uptoM s a b M).length)) ∧ Tab w' tb mb limit (uptoM s a b M) ∧ Keep (OneB mb) w w' := by
  have HT := Lib.hid T
  have Hr := Lib.hid hr
  have hmb : mb < w.heap.size := by obtain ⟨L, hm, _⟩ := T.map; exact hm.lt
  clear T hr
  go_enter Try.func13, Try.ntmps13
  go_wp2_with fail
  have b1 := blk_new w (.cells #[.string s] 9)
  have b2 := blk_new (w.alloc (.cells #[.string s] 9)) (.cells #[.int .i64 a] 3)
  have b3 := blk_new ((w.alloc (.cells #[.string s] 9)).alloc (.cells #[.int .i64 a] 3)) (.cells #[.int .i64 b] 3)
  have b1' := blk_alloc (o' := .cells #[.int .i64 b] 3) (blk_alloc (o' := .cells #[.int .i64 a] 3) b1)
  have b2' := blk_alloc (o' := .cells #[.int .i64 b] 3) b2
  have kk : Keep NoB w (((w.alloc (.cells #[.string s] 9)).alloc (.cells #[.int .i64 a] 3)).alloc (.cells #[.int .i64 b] 3)) := (((Keep.refl NoB w).alloc _).alloc _).alloc _
  have e2 : (w.alloc (.cells #[.string s] 9)).heap.size = w.heap.size + 1 := by simp
  have e3 : ((w.alloc (.cells #[.string s] 9)).alloc (.cells #[.int .i64 a] 3)).heap.size = w.heap.size + 2 := by simp
  rw [e2] at b2'
  rw [e3] at b3
  have c1 := blk_cell b1' 0
  have c2 := blk_cell b2' 0
  have c3 := blk_cell b3 0
  have l1 := blk_lt b1'
  have l2 := blk_lt b2'
  have l3 := blk_lt b3
  have hc := those_upto tb mb limit M _ (HT.out.keep kk (fun h => h) (fun h => h)) hn Hr.out s a b w.heap.size (w.heap.size + 1) (w.heap.size + 2) (by simpa using c1) (by simpa using c2) (by simpa using c3) l1 l2 l3 (by omega) (by omega) (by omega)
  rw [gone_all] at hc
  change Calls _ _ _ _ (fun e w' => e = .returned (.int .i64 ((M.length : Int) - (uptoM s a b M).length)) ∧ Tab w' tb mb limit (uptoM s a b M) ∧ Keep (OneB mb) _ w') at hc
  have Hkk := Lib.hid kk
  clear b1 b2 b3 b1' b2' e2 e3 c1 c2 c3 l1 l2 l3 kk
  refine hc.mono ?_
  rintro _ w2 ⟨rfl, T2, k2⟩
  have HT2 := Lib.hid T2
  clear T2
  go_wp2
  go_ret
  exact ⟨rfl, HT2.out, Hkk.out.none.trans k2⟩

/-! ### the document's example -/
def kA : ByteArray := ⟨#[97]⟩
def kB : ByteArray := ⟨#[98]⟩
end Go.Proofs.Ytgangbkompkidaa
