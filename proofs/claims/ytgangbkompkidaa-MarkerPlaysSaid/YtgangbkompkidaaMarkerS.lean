/- What All of package marker comes to. -/
import Derived.Test.YtgangbkompkidaaMarkerT
namespace Go.Proofs.Ytgangbkompkidaa
open Go Go.RowKit Go.Maps Go.Sort

theorem info37' : (Try.prog.info? 37).map (fun i => (i.zero, i.size, i.bytes)) = some (some (.agg #[.string ⟨#[]⟩, .int .i64 0, .int .i64 0]), 3, 32) := by kernel_rfl

/-! ### the order -/
def mlt (x y : MK) : Prop := bs x.1 < bs y.1 ∨ (x.1 = y.1 ∧ (x.2.1 < y.2.1 ∨ (x.2.1 = y.2.1 ∧ x.2.2 < y.2.2)))
theorem cmpI_neg (a b : Int) : cmpI a b < 0 ↔ a < b := by
  unfold cmpI
  by_cases h : a < b
  · simp [h]
  · by_cases h2 : b < a <;> simp [h, h2]
theorem cmpI_zero (a b : Int) : cmpI a b = 0 ↔ a = b := by
  unfold cmpI
  by_cases h : a < b
  · simp [h]; omega
  · by_cases h2 : b < a
    · simp [h, h2]; omega
    · simp [h, h2]; omega
theorem cmpS_neg (a b : ByteArray) : cmpS a b < 0 ↔ bs a < bs b := by
  unfold cmpS
  by_cases h : bs a < bs b
  · simp [h]
  · by_cases h2 : bs b < bs a <;> simp [h, h2]
theorem cmpS_zero (a b : ByteArray) : cmpS a b = 0 ↔ a = b := by
  unfold cmpS
  by_cases h : bs a < bs b
  · rw [if_pos h]
    constructor
    · intro e; cases e
    · intro e; rw [e] at h; exact absurd h (List.lt_irrefl _)
  · rw [if_neg h]
    by_cases h2 : bs b < bs a
    · rw [if_pos h2]
      constructor
      · intro e; cases e
      · intro e; rw [e] at h2; exact absurd h2 (List.lt_irrefl _)
    · rw [if_neg h2]
      constructor
      · intro _
        by_cases e : a = b
        · exact e
        · exact absurd (bs_tri h e) h2
      · intro _; rfl
theorem lt_cfM (x y : MK) : Go.Proofs.ltOf cfM x y = true ↔ mlt x y := by
  unfold Go.Proofs.ltOf cfM orI mlt
  have h1 := cmpS_zero x.1 y.1
  have h2 := cmpS_neg x.1 y.1
  have h3 := cmpI_zero x.2.1 y.2.1
  have h4 := cmpI_neg x.2.1 y.2.1
  have h5 := cmpI_neg x.2.2 y.2.2
  by_cases e1 : cmpS x.1 y.1 = 0
  · have e1' := h1.1 e1
    have n1 : ¬ bs x.1 < bs y.1 := by rw [e1']; exact List.lt_irrefl _
    by_cases e2 : cmpI x.2.1 y.2.1 = 0
    · have e2' := h3.1 e2
      have n2 : ¬ x.2.1 < y.2.1 := by omega
      simp only [e1, e2, if_true, decide_eq_true_eq, h5]
      constructor
      · intro h; exact Or.inr ⟨e1', Or.inr ⟨e2', h⟩⟩
      · rintro (h | ⟨_, h | ⟨_, h⟩⟩)
        · exact absurd h n1
        · exact absurd h n2
        · exact h
    · have e2' : ¬ x.2.1 = y.2.1 := fun e => e2 (h3.2 e)
      simp only [e1, e2, if_true, if_false, decide_eq_true_eq, h4]
      constructor
      · intro h; exact Or.inr ⟨e1', Or.inl h⟩
      · rintro (h | ⟨_, h | ⟨h, _⟩⟩)
        · exact absurd h n1
        · exact h
        · exact absurd h e2'
  · have e1' : ¬ x.1 = y.1 := fun e => e1 (h1.2 e)
    simp only [e1, if_false, decide_eq_true_eq, h2]
    constructor
    · intro h; exact Or.inl h
    · rintro (h | ⟨h, _⟩)
      · exact h
      · exact absurd h e1'
theorem mlt_irrefl (x : MK) : ¬ mlt x x := by
  rintro (h | ⟨_, h | ⟨_, h⟩⟩)
  · exact List.lt_irrefl _ h
  · omega
  · omega
theorem mlt_trans {x y z : MK} (h1 : mlt x y) (h2 : mlt y z) : mlt x z := by
  rcases h1 with h1 | ⟨e1, h1⟩
  · rcases h2 with h2 | ⟨e2, h2⟩
    · exact Or.inl (List.lt_trans h1 h2)
    · exact Or.inl (e2 ▸ h1)
  · rcases h2 with h2 | ⟨e2, h2⟩
    · exact Or.inl (e1 ▸ h2)
    · refine Or.inr ⟨e1.trans e2, ?_⟩
      omega
theorem mlt_tri {x y : MK} (h1 : ¬ mlt x y) (h2 : ¬ mlt y x) : x = y := by
  have e1 : x.1 = y.1 := by
    by_cases e : x.1 = y.1
    · exact e
    · exfalso
      by_cases h : bs x.1 < bs y.1
      · exact h1 (Or.inl h)
      · exact h2 (Or.inl (bs_tri h e))
  have a1 : ¬ (x.2.1 < y.2.1 ∨ (x.2.1 = y.2.1 ∧ x.2.2 < y.2.2)) := fun h => h1 (Or.inr ⟨e1, h⟩)
  have a2 : ¬ (y.2.1 < x.2.1 ∨ (y.2.1 = x.2.1 ∧ y.2.2 < x.2.2)) := fun h => h2 (Or.inr ⟨e1.symm, h⟩)
  exact Prod.ext e1 (Prod.ext (by omega) (by omega))
theorem swoM : SWO (Go.Proofs.ltOf cfM) where
  irrefl x := by
    cases h : Go.Proofs.ltOf cfM x x with
    | false => rfl
    | true => exact absurd ((lt_cfM x x).1 h) (mlt_irrefl x)
  trans x y z h1 h2 := (lt_cfM x z).2 (mlt_trans ((lt_cfM x y).1 h1) ((lt_cfM y z).1 h2))
  ntrans x y z h1 h2 := by
    have n1 : ¬ mlt x y := fun h => by rw [(lt_cfM x y).2 h] at h1; cases h1
    have n2 : ¬ mlt y z := fun h => by rw [(lt_cfM y z).2 h] at h2; cases h2
    cases h : Go.Proofs.ltOf cfM x z with
    | false => rfl
    | true =>
      exfalso
      have h3 := (lt_cfM x z).1 h
      by_cases h4 : mlt y x
      · exact n2 (mlt_trans h4 h3)
      · rw [mlt_tri n1 h4] at h3
        exact n2 h3
def RiseM (M : List MK) : Prop := M.Pairwise mlt

/-- The sort, over a slice of the call's own. -/
theorem sort_any (w : World) (B : Nat) (a : Option Addr) (c : Nat) (N M : List MK) (O : Own w B 37 3 mCells (.slice a N.length c) N) (hN : N.length ≤ 1000000) (hp : N.Perm M) (hr : RiseM M) :
    Calls Try.prog 24 #[.slice a N.length c, .func (.func 25) #[] #[]] w fun e w' => e = .returned (.tuple #[]) ∧ Own w' B 37 3 mCells (.slice a M.length c) M ∧ Keep (fun g => (Value.slice a N.length c).ownBlock = some g) w w' := by
  have hMl : N.length = M.length := hp.length_eq
  by_cases h0 : N = []
  · subst h0
    have hM : M = [] := by simpa using hp
    subst hM
    have hcon := AnyF.slices_SortFunc_none Try.sortMark a c (.func (.func 25) #[] #[]) w
    change Calls Try.prog 24 _ _ _ at hcon
    refine hcon.mono ?_
    rintro _ _ ⟨rfl, rfl⟩
    exact ⟨rfl, O, Keep.refl _ _⟩
  · obtain ⟨g, rfl, hg1, hg2⟩ := O.some h0
    have eg : ∀ args w, (callFunc 25 args).run Try.prog w = .ok (.enter 25 args) w := Go.Proofs.enters_of Try.func25 (by kernel_rfl) rfl
    have hcon := AnyQ.slices_SortFunc Try.sortMark 3 Try.isAgg37 Try.sizeOf37 mCells mCells_len (fun x v hv => mCells_one x v hv) cfM swoM 25 #[] g 0 c N.toArray w eg (fun _ _ _ _ x y => closure_any x y _) (O.holdsK mCells_len) hg2 (by simp; omega)
    change Calls Try.prog 24 _ _ _ at hcon
    refine hcon.mono ?_
    rintro _ _ ⟨rfl, d', n, os, hpp, hss, rfl⟩
    have hd : d'.size = N.length := by simpa using hpp.1
    obtain ⟨O', K'⟩ := O.sorted mCells_len hd n os
    have e : d'.toList = M := sorted_eq (lt := Go.Proofs.ltOf cfM) hpp hss hp (hr.imp (fun {x y} h => (lt_cfM x y).2 h)) (fun x y h1 h2 => mlt_irrefl x (mlt_trans ((lt_cfM x y).1 h1) ((lt_cfM y x).1 h2)))
    rw [e, hMl] at O'
    exact ⟨rfl, O', K'.mono (fun i h => by have : i = g := h; rw [this]; rfl)⟩

def SeenM (N M : List MK) (left : Lit → Bool) : Prop := N.Nodup ∧ ∀ y : MK, y ∈ N ↔ y ∈ M ∧ left (kM y) = false
theorem seenM_step {N M : List MK} {left : Lit → Bool} (h : SeenM N M left) (ho : ∀ y ∈ M, mOk y) {x : MK} (hx : x ∈ M) (hl : left (kM x) = true) : SeenM (N ++ [x]) M (fun z => left z && !z.sameKey (kM x)) := by
  refine ⟨?_, fun y => ?_⟩
  · rw [List.nodup_append]
    refine ⟨h.1, by simp, fun a ha b hb e => ?_⟩
    simp only [List.mem_singleton] at hb
    subst hb
    subst e
    have := ((h.2 _).1 ha).2
    rw [hl] at this
    cases this
  · rw [List.mem_append, h.2 y, List.mem_singleton]
    constructor
    · rintro (⟨h1, h2⟩ | rfl)
      · exact ⟨h1, by simp [h2]⟩
      · exact ⟨hx, by simp [WideAt.sameKey_self (kM_key _)]⟩
    · rintro ⟨h1, h2⟩
      cases hs : (kM y).sameKey (kM x) with
      | true => exact Or.inr (kM_inj (ho y h1) (ho x hx) (WideAt.sameKey_eq hs))
      | false =>
        left
        have h2' : (left (kM y) && !(kM y).sameKey (kM x)) = false := h2
        rw [hs] at h2'
        exact ⟨h1, by simpa using h2'⟩
theorem seenM_end {N M : List MK} {left : Lit → Bool} (h : SeenM N M left) (hl : ∀ kl, left kl = false) (hnd : M.Nodup) : N.Perm M := by
  rw [List.perm_ext_iff_of_nodup h.1 hnd]
  intro y
  rw [h.2 y]
  simp [hl]
theorem blk_new2 (w : World) (o1 o2 : Obj) : ((w.alloc o1).alloc o2).heap[w.heap.size + 1]? = some o2 := by
  have h := blk_new (w.alloc o1) o2
  have e : (w.alloc o1).heap.size = w.heap.size + 1 := by simp
  rw [e] at h
  exact h
def AllPost (M : List MK) (w : World) (e : Ending) (w' : World) : Prop :=
  ∃ a c, e = .returned (.slice a M.length c) ∧ Own w' w.heap.size 37 3 mCells (.slice a M.length c) M ∧ Keep NoB w w'

set_option maxHeartbeats 2000000 in
theorem all_any (tb mb : Nat) (limit : Int) (M : List MK) (w : World) (T : Tab w tb mb limit M) (hn : M.length ≤ 100000) (hr : RiseM M) :
    Calls Try.prog 14 #[.pointer (some ⟨tb, 0, none⟩)] w (AllPost M w) := by
  have c1 := blk_cell T.blk 1
  have hlt := blk_lt T.blk
  obtain ⟨L, hm, hM⟩ := T.map
  have hLM := hM.len
  have HM := Lib.hid hM
  have HLM := Lib.hid hLM
  have Hr := Lib.hid hr
  have HS := Lib.hid (show SeenM [] M (fun kl => (lget L kl).isSome) from ⟨by simp, fun y => ⟨(fun h => by cases h), fun ⟨h1, h2⟩ => by (have h3 := (hM.mem y (hM.ok y h1)).2 h1; have h2' : (lget L (kM y)).isSome = false := h2; rw [h3] at h2'; cases h2')⟩⟩)
  clear T hM hr hLM
  simp at c1
  go_enter Try.func14, Try.ntmps14
  go_wp2_with (first
    | (at_range; refine wpList_mrange _ rfl _ 51 rfl 37 4 law37 Try.underlying51 encT mb L rfl hm ?_; intro w0 hrg0 hk0 hs0))
  go_frame
  have Hg0 := Lib.hid hrg0
  clear hrg0 hs0 c1
  go_loopw [3] (fun o wr => ∃ (left : Lit → Bool) (cnt : Nat) (N : List MK) (a : Option Addr) (c : Nat), RangeAt Try.prog 37 encT wr mb w.heap.size L left cnt ∧ o = .slice a N.length c ∧ Own wr (w.heap.size + 1) 37 3 mCells (.slice a N.length c) N ∧ N.length + cnt ≤ M.length ∧ SeenM N M left ∧ Keep NoB w wr) (fun _ wr => wr.rangeLeft mb w.heap.size)
  case atStart => exact ⟨_, _, [], none, 0, Hg0.out, rfl, ⟨by simp, Or.inl ⟨rfl, rfl⟩⟩, by rw [HLM.out]; simp, HS.out, hk0⟩
  case round =>
    obtain ⟨left, cnt, N, a, c, hrg, rfl, O, hNc, hSN, hk⟩ := hrel
    have HSN := Lib.hid hSN
    clear hSN
    go_wp2_with (first
      | (at_next; refine wpList_mnext _ rfl _ rfl 37 law37 encT mV inv37' mb w.heap.size _ left cnt rfl hrg ?_ ?_))
    · intro _ hl0
      have hpm := seenM_end HSN.out hl0 HM.out.nd
      have Hpm := Lib.hid hpm
      clear hl0 hpm
      go_wp2_with fail
      refine (sort_any _ _ a c N M O (by omega) Hpm.out Hr.out).mono ?_
      rintro _ w5 ⟨rfl, O5, k5⟩
      have hNM : N.length = M.length := Hpm.out.length_eq
      have HNM := Lib.hid hNM
      have K5 : Keep NoB w w5 := hk.trans' k5 (fun i hi e => by have := O.fresh i e; omega)
      clear hNM k5
      go_wp2_with fail
      go_ret
      exact ⟨a, c, by rw [HNM.out]; rfl, O5.mono (Nat.le_succ _), K5⟩
    · intro xs xa xb u kl w1 cnt1 hkey hl hx hrg1 hlt1 hk1 hs1 hen
      obtain ⟨hxo, e2⟩ := key37 hkey
      subst e2
      have hxM : (xs, xa, xb) ∈ M := (HM.out.mem _ hxo).1 (by rw [hx]; rfl)
      simp only [encT, mV] at hen ⊢
      have HSN' := Lib.hid (seenM_step HSN.out HM.out.ok hxM hl)
      have K1 : Keep NoB w w1 := hk.trans' hk1 (fun j hj e => by have : j = w.heap.size := e; omega)
      have O1 := O.keep hk1 (fun g hg e => by have h1 := O.fresh g hg; have h2 : g = w.heap.size := e; omega)
      have hrl := hrg1.lt
      obtain ⟨N', hN'⟩ : ∃ l, N ++ [(xs, xa, xb)] = l := ⟨_, rfl⟩
      have HN' := Lib.hid hN'
      have hN'l : N'.length = N.length + 1 := by rw [← hN']; simp
      have HN'l := Lib.hid hN'l
      have hlN : N.length ≤ 100000 := by omega
      have s1 := K1.size
      clear hN' hN'l hl hx hk1 hs1 hkey
      go_wp2_with (first
        | (at_builtin
           refine wpList_append_one rfl (.tmp 16) (.tmp 18) 34 rfl Try.underlying34 info37' (by kernel_rfl) (by decide) (by decide) rfl ((O1.alloc _).alloc _) mCells_len (xs, xa, xb) rfl (c := #[.string xs, .int .i64 xa, .int .i64 xb]) (t' := 37) (f := (0, 0)) (blk_new2 w1 _ _) rfl (mCells_one _) (by omega) (by simp; omega) HN'.out ?_
           intro a4 c4 w4 O4 k4
           have K2 : Keep NoB w1 ((w1.alloc (.cells #[.string xs, .int .i64 xa, .int .i64 xb] 37)).alloc (.cells #[.string xs, .int .i64 xa, .int .i64 xb] 37)) := ((Keep.refl NoB w1).alloc _).alloc _
           have hrg4 := (hrg1.keep K2 (fun h => h) (fun h => h)).keep k4 (fun e => O1.ne_map hrg1.map mb e rfl) (fun e => by have := O1.fresh _ e; omega)
           have K4 : Keep NoB w w4 := (K1.trans K2).trans' k4 (fun i hi e => by have := O1.fresh i e; omega)
           clear k4 K2))
      go_roundw
      case rel => exact ⟨_, cnt1, N', a4, c4, hrg4, rfl, O4, by have := HN'l.out; omega, by rw [← HN'.out]; exact HSN'.out, K4⟩
      case measure => rw [hrg4.left_eq, hrg.left_eq]; exact hlt1
end Go.Proofs.Ytgangbkompkidaa
