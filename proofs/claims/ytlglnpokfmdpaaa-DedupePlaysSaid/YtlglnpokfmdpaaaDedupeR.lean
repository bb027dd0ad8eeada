/- What the reference's table of sessions comes to: Look and May; and the table's own answers where there is none. -/
import Derived.Test.YtlglnpokfmdpaaaDedupeLoadsW
namespace Go.Proofs.Ytlglnpokfmdpaaa
open Go Go.RowKit Go.Maps Go.Sort

/-! ### plain -/
/-- A session put in its place. -/
def dput (s : Int) (v : Last) : List SE → List SE
  | [] => [(s, v)]
  | y :: M => if y.1 < s then y :: dput s v M else if y.1 = s then (s, v) :: M else (s, v) :: y :: M
theorem dput_mem {s : Int} {v : Last} : ∀ {M : List SE} {x : SE}, x ∈ dput s v M → x = (s, v) ∨ x ∈ M
  | [], x, h => by simp [dput] at h; exact Or.inl h
  | y :: M, x, h => by
    unfold dput at h
    split at h
    · rcases List.mem_cons.1 h with rfl | h
      · exact Or.inr (by simp)
      · exact (dput_mem h).imp id (fun h => List.mem_cons_of_mem _ h)
    · split at h
      · rcases List.mem_cons.1 h with rfl | h
        · exact Or.inl rfl
        · exact Or.inr (List.mem_cons_of_mem _ h)
      · rcases List.mem_cons.1 h with rfl | h
        · exact Or.inl rfl
        · exact Or.inr h
theorem dput_len (s : Int) (v : Last) : ∀ M : List SE, (dput s v M).length ≤ M.length + 1
  | [] => by simp [dput]
  | y :: M => by
    have := dput_len s v M
    unfold dput
    split
    · simp; omega
    · split <;> simp
theorem dput_rise (s : Int) (v : Last) : ∀ M : List SE, RiseD M → RiseD (dput s v M)
  | [], _ => by simp [dput, RiseD]
  | y :: M, h => by
    obtain ⟨h1, h2⟩ := List.pairwise_cons.1 h
    unfold dput
    split
    · rename_i hl
      refine List.pairwise_cons.2 ⟨fun x hx => ?_, dput_rise s v M h2⟩
      rcases dput_mem hx with rfl | hx
      · exact hl
      · exact h1 x hx
    · rename_i hl
      split
      · rename_i he
        refine List.pairwise_cons.2 ⟨fun x hx => ?_, h2⟩
        have := h1 x hx
        show s < x.1
        omega
      · rename_i he
        refine List.pairwise_cons.2 ⟨fun x hx => ?_, h⟩
        show s < x.1
        rcases List.mem_cons.1 hx with rfl | hx
        · omega
        · have := h1 x hx
          omega
theorem absD_dput (s : Int) (v : Last) : ∀ (M : List SE), RiseD M → lput (absD M) (kI s) v = absD (dput s v M)
  | [], _ => rfl
  | y :: M, h => by
    obtain ⟨h1, h2⟩ := List.pairwise_cons.1 h
    have ih := absD_dput s v M h2
    unfold dput
    by_cases hl : y.1 < s
    · rw [if_pos hl]
      show _ = (kI y.1, y.2) :: absD (dput s v M)
      rw [← ih]
      unfold lput ldel absD
      rw [List.map_cons, List.filter_cons, if_pos (by show (!(kI y.1).sameKey (kI s)) = true; rw [kI_ne (by omega)]; rfl)]
      show (if (kI s).before (kI y.1) = true then _ else _) = _
      rw [kI_before, if_neg (by simp; omega)]
    · rw [if_neg hl]
      by_cases he : y.1 = s
      · rw [if_pos he]
        have hrest : ∀ x ∈ M, x.1 ≠ s := fun x hx e => by
          have := h1 x hx
          omega
        have hd : ldel (absD (y :: M)) (kI s) = absD M := by
          have h3 := absD_ldel hrest
          unfold ldel absD at h3 ⊢
          rw [List.map_cons, List.filter_cons, if_neg (by show ¬ (!(kI y.1).sameKey (kI s)) = true; rw [he, WideAt.sameKey_self (kI_key s)]; simp)]
          exact h3
        unfold lput
        rw [hd]
        cases M with
        | nil => rfl
        | cons z M =>
          have hz := h1 z (by simp)
          show (if (kI s).before (kI z.1) = true then _ else _) = _
          rw [kI_before, if_pos (by simp; omega)]
          rfl
      · rw [if_neg he]
        have hd : ldel (absD (y :: M)) (kI s) = absD (y :: M) := absD_ldel (by
          intro x hx e
          rcases List.mem_cons.1 hx with rfl | hx
          · exact he e
          · have := h1 x hx
            omega)
        unfold lput
        rw [hd]
        show (if (kI s).before (kI y.1) = true then _ else _) = _
        rw [kI_before, if_pos (by simp; omega)]
        rfl
theorem absD_apart {M : List SE} (h : RiseD M) : Apart (absD M) := by
  unfold Apart absD
  rw [List.pairwise_map]
  refine h.imp (fun {x y} hxy e => ?_)
  have : x.1 = y.1 := kI_inj e
  omega
theorem absD_some {M : List SE} (h : RiseD M) {x : SE} (hx : x ∈ M) : lget (absD M) (kI x.1) = some x.2 :=
  lget_of_mem (absD_apart h) (kI_key _) (List.mem_map.2 ⟨x, hx, rfl⟩)
theorem absD_none {M : List SE} {s : Int} (h : ∀ x ∈ M, x.1 ≠ s) : lget (absD M) (kI s) = none := by
  unfold lget absD
  rw [Option.map_eq_none_iff, List.find?_eq_none]
  intro q hq
  obtain ⟨x, hx, rfl⟩ := List.mem_map.1 hq
  show ¬ (kI x.1).sameKey (kI s) = true
  rw [kI_ne (h x hx)]
  simp
/-- The first that is the session, or none. -/
theorem first_se (s : Int) : ∀ M : List SE, (∃ (j : Nat) (x : SE), M[j]? = some x ∧ x.1 = s ∧ ∀ (i : Nat) (y : SE), i < j → M[i]? = some y → y.1 ≠ s) ∨ ∀ x ∈ M, x.1 ≠ s
  | [] => Or.inr (by simp)
  | y :: M => by
    by_cases h : y.1 = s
    · exact Or.inl ⟨0, y, rfl, h, fun i _ hi => absurd hi (Nat.not_lt_zero i)⟩
    · rcases first_se s M with ⟨j, x, h1, h2, h3⟩ | h1
      · refine Or.inl ⟨j + 1, x, h1, h2, fun i z hi hz => ?_⟩
        cases i with
        | zero => simp at hz; subst hz; exact h
        | succ i => exact h3 i z (by omega) hz
      · exact Or.inr (fun x hx => by rcases List.mem_cons.1 hx with rfl | hx; exact h; exact h1 x hx)

/-! ### the reference's table -/
structure RT (w : World) (B rb : Nat) (a : Option Addr) (cap : Nat) (limit : Int) (N : List SE) : Prop where
  blk : w.heap[rb]? = some (.cells #[.slice a N.length cap, .int .i64 limit] 46 (0, 0))
  own : Own w B 41 4 encSeen (.slice a N.length cap) N
def RBk (rb : Nat) (s : Value) (j : Nat) : Prop := j = rb ∨ s.ownBlock = some j

section
variable {w w' : World} {B rb : Nat} {a : Option Addr} {cap : Nat} {limit : Int} {N : List SE}
theorem RT.keep {S : Nat → Prop} (T : RT w B rb a cap limit N) (hk : Keep S w w') (h1 : ¬ S rb) (h2 : ∀ g, (Value.slice a N.length cap).ownBlock = some g → ¬ S g) : RT w' B rb a cap limit N :=
  ⟨blk_keep T.blk hk h1, T.own.keep hk h2⟩
theorem RT.keep0 (T : RT w B rb a cap limit N) (hk : Keep NoB w w') : RT w' B rb a cap limit N := T.keep hk (fun h => h) (fun _ _ h => h)
theorem RT.ne (T : RT w B rb a cap limit N) : ∀ g, (Value.slice a N.length cap).ownBlock = some g → g ≠ rb := T.own.ne T.blk (by decide)
end




theorem look_end {w wr : World} {xb : Nat} (kr : Keep NoB w wr) (br : wr.heap[xb]? = some (.cells #[.int .i64 0, .int .i64 0] 29 (0, 0))) (hxb : w.heap.size = xb) (p q : Value) :
    ((wr.setCell ⟨xb, 0, none⟩ p).setCell ⟨xb, 1, none⟩ q).cell? ⟨xb, 0, none⟩ = some p ∧ ((wr.setCell ⟨xb, 0, none⟩ p).setCell ⟨xb, 1, none⟩ q).cell? ⟨xb, 1, none⟩ = some q ∧ Keep NoB w ((wr.setCell ⟨xb, 0, none⟩ p).setCell ⟨xb, 1, none⟩ q) := by
  have b9 := blk_setCell (i := 1) (blk_setCell (i := 0) br p) q
  have k9 : Keep (OneB xb) wr ((wr.setCell ⟨xb, 0, none⟩ p).setCell ⟨xb, 1, none⟩ q) := ((Keep.refl (OneB xb) wr).setCell (p := ⟨xb, 0, none⟩) (Or.inr rfl) _).setCell (p := ⟨xb, 1, none⟩) (Or.inr rfl) _
  generalize (wr.setCell ⟨xb, 0, none⟩ p).setCell ⟨xb, 1, none⟩ q = w9 at b9 k9 ⊢
  have e0 := blk_cell b9 0
  have e1 := blk_cell b9 1
  simp at e0 e1
  exact ⟨e0, e1, kr.trans' k9 (fun i hi e => by have e' : i = xb := e; omega)⟩

theorem look_end2 {w wr : World} {xb : Nat} (kr : Keep NoB w wr) (br : wr.heap[xb]? = some (.cells #[.int .i64 0, .int .i64 0] 29 (0, 0))) (hxb : w.heap.size = xb) (p q : Value) (o : Obj) :
    (((wr.setCell ⟨xb, 0, none⟩ p).setCell ⟨xb, 1, none⟩ q).alloc o).cell? ⟨xb, 0, none⟩ = some p ∧ (((wr.setCell ⟨xb, 0, none⟩ p).setCell ⟨xb, 1, none⟩ q).alloc o).cell? ⟨xb, 1, none⟩ = some q ∧ Keep NoB w (((wr.setCell ⟨xb, 0, none⟩ p).setCell ⟨xb, 1, none⟩ q).alloc o) := by
  have b9 := blk_alloc (o' := o) (blk_setCell (i := 1) (blk_setCell (i := 0) br p) q)
  have k9 : Keep (OneB xb) wr (((wr.setCell ⟨xb, 0, none⟩ p).setCell ⟨xb, 1, none⟩ q).alloc o) := (((Keep.refl (OneB xb) wr).setCell (p := ⟨xb, 0, none⟩) (Or.inr rfl) _).setCell (p := ⟨xb, 1, none⟩) (Or.inr rfl) _).alloc _
  generalize ((wr.setCell ⟨xb, 0, none⟩ p).setCell ⟨xb, 1, none⟩ q).alloc o = w9 at b9 k9 ⊢
  have e0 := blk_cell b9 0
  have e1 := blk_cell b9 1
  simp at e0 e1
  exact ⟨e0, e1, kr.trans' k9 (fun i hi e => by have e' : i = xb := e; omega)⟩

set_option maxHeartbeats 2000000 in
theorem rlook_miss (rb B : Nat) (a : Option Addr) (cap : Nat) (limit s r : Int) (N : List SE) (w : World) (T : RT w B rb a cap limit N) (hN : N.length ≤ 100000) (hs : ∀ x ∈ N, x.1 ≠ s) :
    Calls Try.prog 18 #[.pointer (some ⟨rb, 0, none⟩), .int .i64 s, .int .i64 r] w (LookPost (if limit ≤ N.length then (4, 0, 0) else (1, 0, 0)) w) := by
  have c0 := blk_cell T.blk 0
  have c1 := blk_cell T.blk 1
  have hlt := blk_lt T.blk
  have HT := Lib.hid T
  clear T
  simp at c0 c1
  have Hs := Lib.hid hs
  clear hs
  by_cases hl : limit ≤ N.length
  all_goals
    first
      | have hd : decide (limit ≤ (N.length : Int)) = true := by simpa using hl
      | have hd : decide (limit ≤ (N.length : Int)) = false := by simpa using hl
    first
      | rw [if_pos hl]
      | rw [if_neg hl]
    go_enter Try.func18, Try.ntmps18
    go_wp2_with fail
    have k0 : Keep NoB w (w.alloc (.cells #[.int .i64 0, .int .i64 0] 29)) := (Keep.refl NoB w).alloc _
    have b0 := blk_new w (.cells #[.int .i64 0, .int .i64 0] 29)
    generalize World.alloc w (.cells #[.int .i64 0, .int .i64 0] 29) = w0 at k0 b0 ⊢
    obtain ⟨xb, hxb⟩ : ∃ t, w.heap.size = t := ⟨_, rfl⟩
    rw [hxb] at b0 ⊢
    have Hxb := Lib.hid hxb
    clear hxb
    clear c0 c1 hlt
    go_loopw [8] (fun iv wr => ∃ k : Nat, k ≤ N.length ∧ iv = .int .i64 (k : Int) ∧ Keep NoB w wr ∧ wr.heap[xb]? = some (.cells #[.int .i64 0, .int .i64 0] 29 (0, 0))) (fun iv _ => N.length - (intOf iv).toNat)
    case atStart => exact ⟨0, Nat.zero_le _, rfl, k0, b0⟩
    case round =>
      clear k0 b0
      obtain ⟨k, hk, rfl, kr, br⟩ := hrel
      have TT := HT.out.keep0 kr
      have d0 := blk_cell TT.blk 0
      have d1 := blk_cell TT.blk 1
      have dl := blk_lt TT.blk
      have HTT := Lib.hid TT
      clear TT
      simp at d0 d1
      by_cases hkn : k < N.length
      · obtain ⟨y, hx⟩ : ∃ y, N[k]? = some y := ⟨_, List.getElem?_eq_getElem hkn⟩
        have hyn := Hs.out y (List.mem_of_getElem? hx)
        have hbl : ∀ o, (wr.alloc o).heap[xb]? = some (.cells #[.int .i64 0, .int .i64 0] 29 (0, 0)) := fun o => blk_alloc br
        have Hbl := Lib.hid hbl
        obtain ⟨g, cap', hvv, hg1, hg2, hcx⟩ := HTT.out.own.cells encSeen_len hx
        cases hvv
        have m0 := hcx 0 _ rfl
        have m1 := hcx 1 _ rfl
        have m2 := hcx 2 _ rfl
        have m3 := hcx 3 _ rfl
        simp only [Nat.add_zero] at m0
        obtain ⟨y0, y1, y2, y3⟩ := y
        simp at m0 m1 m2 m3
        clear hcx hx
        have hne : (y0 != s) = true := by simpa using hyn
        clear hyn hbl br
        go_wp2_with fail
        go_roundw
        case rel => exact ⟨k + 1, hkn, by go_num, kr.alloc _, Hbl.out _⟩
        case measure => simp [intOf]; omega
      · have hd2 : decide ((k : Int) < (N.length : Int)) = false := decide_eq_false (by omega)
        have z0 := blk_cell br 0
        have z1 := blk_cell br 1
        have zl := blk_lt br
        have zf := fun i => blk_free br i
        have kq : ∀ q, Keep NoB w (wr.drewN q) := fun q => kr.drewN q
        have Hk := Lib.hid kr
        have Hb := Lib.hid br
        simp at z0 z1
        go_wp2_with fail
        go_quiet (fail)
        go_wp2_with fail
        obtain ⟨e0, e1, k9⟩ := look_end (Hk.out.drewN nq) Hb.out Hxb.out (.int .i64 0) (.int .i64 0)
        refine bodyPost_ret ?_ rfl ⟨rfl, ?_⟩
        · simp [results, Try.results18, go_sem, e0, e1]
        · exact k9


set_option maxHeartbeats 4000000 in
theorem rlook_hit (rb B : Nat) (a : Option Addr) (cap : Nat) (limit s r : Int) (N : List SE) (w : World) (T : RT w B rb a cap limit N) (hN : N.length ≤ 100000) (j : Nat) (h1 h2 h3 : Int) (hx : N[j]? = some (s, h1, h2, h3)) (hs : ∀ (i : Nat) (y : SE), i < j → N[i]? = some y → y.1 ≠ s) :
    Calls Try.prog 18 #[.pointer (some ⟨rb, 0, none⟩), .int .i64 s, .int .i64 r] w (LookPost (if h1 < r then (1, 0, 0) else if r < h1 then (3, 0, 0) else (2, h2, h3)) w) := by
  have c0 := blk_cell T.blk 0
  have c1 := blk_cell T.blk 1
  have hlt := blk_lt T.blk
  have HT := Lib.hid T
  clear T
  simp at c0 c1
  have Hs := Lib.hid hs
  have Hx := Lib.hid hx
  have hjn : j < N.length := (List.getElem?_eq_some_iff.1 hx).1
  clear hs hx
  obtain ⟨v, hv⟩ : ∃ v, (if h1 < r then ((1, 0, 0) : Int × Int × Int) else if r < h1 then (3, 0, 0) else (2, h2, h3)) = v := ⟨_, rfl⟩
  rw [hv]
  have Hv := Lib.hid hv
  clear hv
  go_enter Try.func18, Try.ntmps18
  go_wp2_with fail
  have k0 : Keep NoB w (w.alloc (.cells #[.int .i64 0, .int .i64 0] 29)) := (Keep.refl NoB w).alloc _
  have b0 := blk_new w (.cells #[.int .i64 0, .int .i64 0] 29)
  generalize World.alloc w (.cells #[.int .i64 0, .int .i64 0] 29) = w0 at k0 b0 ⊢
  obtain ⟨xb, hxb⟩ : ∃ t, w.heap.size = t := ⟨_, rfl⟩
  rw [hxb] at b0 ⊢
  have Hxb := Lib.hid hxb
  clear hxb c0 c1 hlt
  go_loopw [8] (fun iv wr => ∃ k : Nat, k ≤ j ∧ iv = .int .i64 (k : Int) ∧ Keep NoB w wr ∧ wr.heap[xb]? = some (.cells #[.int .i64 0, .int .i64 0] 29 (0, 0))) (fun iv _ => N.length - (intOf iv).toNat)
  case atStart => exact ⟨0, Nat.zero_le _, rfl, k0, b0⟩
  case round =>
    clear k0 b0
    obtain ⟨k, hk, rfl, kr, br⟩ := hrel
    have TT := HT.out.keep0 kr
    have d0 := blk_cell TT.blk 0
    have d1 := blk_cell TT.blk 1
    have dl := blk_lt TT.blk
    have HTT := Lib.hid TT
    clear TT
    simp at d0 d1
    by_cases hkj : k < j
    · have hkn : k < N.length := by omega
      obtain ⟨y, hx⟩ : ∃ y, N[k]? = some y := ⟨_, List.getElem?_eq_getElem hkn⟩
      have hyn := Hs.out k y hkj hx
      have hbl : ∀ o, (wr.alloc o).heap[xb]? = some (.cells #[.int .i64 0, .int .i64 0] 29 (0, 0)) := fun o => blk_alloc br
      have Hbl := Lib.hid hbl
      obtain ⟨g, cap', hvv, hg1, hg2, hcx⟩ := HTT.out.own.cells encSeen_len hx
      cases hvv
      have m0 := hcx 0 _ rfl
      have m1 := hcx 1 _ rfl
      have m2 := hcx 2 _ rfl
      have m3 := hcx 3 _ rfl
      simp only [Nat.add_zero] at m0
      obtain ⟨y0, y1, y2, y3⟩ := y
      simp at m0 m1 m2 m3
      clear hcx hx
      have hne : (y0 != s) = true := by simpa using hyn
      clear hyn hbl br
      go_wp2_with fail
      go_roundw
      case rel => exact ⟨k + 1, hkj, by go_num, kr.alloc _, Hbl.out _⟩
      case measure => simp [intOf]; omega
    · obtain rfl : k = j := by omega
      have hx := Hx.out
      obtain ⟨g, cap', hvv, hg1, hg2, hcx⟩ := HTT.out.own.cells encSeen_len hx
      cases hvv
      have m0 := hcx 0 _ rfl
      have m1 := hcx 1 _ rfl
      have m2 := hcx 2 _ rfl
      have m3 := hcx 3 _ rfl
      simp only [Nat.add_zero] at m0
      simp at m0 m1 m2 m3
      have z0 := blk_cell br 0
      have z1 := blk_cell br 1
      have zl := blk_lt br
      have zf := fun i => blk_free br i
      have kx := Lib.hid kr
      have bx := Lib.hid br
      simp at z0 z1
      clear hcx hx kr br
      rcases (by omega : h1 < r ∨ r < h1 ∨ r = h1) with hc | hc | rfl
      · have q1 : (r == h1) = false := by simp; omega
        have q2 : decide (r < h1) = false := decide_eq_false (by omega)
        have hv : v = (1, 0, 0) := by rw [← Hv.out, if_pos hc]
        subst hv
        clear hc
        go_wp2
        obtain ⟨e0, e1, k9⟩ := look_end2 kx.out bx.out Hxb.out (.int .i64 0) (.int .i64 0) (.cells #[.int .i64 s, .int .i64 h1, .int .i64 h2, .int .i64 h3] 41)
        refine bodyPost_ret ?_ rfl ⟨rfl, ?_⟩
        · simp [results, Try.results18, go_sem, e0, e1]
        · exact k9
      · have q1 : (r == h1) = false := by simp; omega
        have q2 : decide (r < h1) = true := decide_eq_true hc
        have hv : v = (3, 0, 0) := by rw [← Hv.out, if_neg (by omega), if_pos hc]
        subst hv
        clear hc
        go_wp2
        obtain ⟨e0, e1, k9⟩ := look_end2 kx.out bx.out Hxb.out (.int .i64 0) (.int .i64 0) (.cells #[.int .i64 s, .int .i64 h1, .int .i64 h2, .int .i64 h3] 41)
        refine bodyPost_ret ?_ rfl ⟨rfl, ?_⟩
        · simp [results, Try.results18, go_sem, e0, e1]
        · exact k9
      · have hv : v = (2, h2, h3) := by rw [← Hv.out, if_neg (by omega), if_neg (by omega)]
        subst hv
        go_wp2_with fail
        go_region
        all_goals
          go_wp2
          obtain ⟨e0, e1, k9⟩ := look_end2 kx.out bx.out Hxb.out (.int .i64 h2) (.int .i64 h3) (.cells #[.int .i64 s, .int .i64 r, .int .i64 h2, .int .i64 h3] 41)
          refine bodyPost_ret ?_ rfl ⟨rfl, ?_⟩
          · simp [results, Try.results18, go_sem, e0, e1]
          · exact k9.drew
end Go.Proofs.Ytlglnpokfmdpaaa
