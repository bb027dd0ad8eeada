/- The reference's Owners. -/
import Derived.Test.YtopgepifakdpfaaDoorRingNd
import Derived.Test.YtopgepifakdpfaaDoorRingH
namespace Go.Proofs.YtopgepifakdpfaaDoor
open Go Go.RowKit Go.Maps Go.Sort
set_option maxRecDepth 100000

theorem ow_there (W : BA → Int) {L : List BA} (hL : L.Nodup) : ∃ O, Ow W L O := by
  obtain ⟨M, h1, h2⟩ : ∃ M : List BA, M.Perm L ∧ M.Pairwise (fun x y => ¬ ltW W y x) := by
    refine ⟨L.mergeSort (fun x y => !decide (W y < W x ∨ (W y = W x ∧ bs y < bs x))), List.mergeSort_perm _ _, ?_⟩
    have := List.pairwise_mergeSort (le := fun x y : BA => !decide (W y < W x ∨ (W y = W x ∧ bs y < bs x))) (fun a b c h1 h2 => by
      simp only [Bool.not_eq_true', decide_eq_false_iff_not] at *
      intro h
      by_cases e : a = b
      · subst e; exact h2 h
      · rcases ltW_total (W := W) e with h3 | h3
        · exact h2 (ltW_trans h h3)
        · exact h1 h3) (fun a b => by
      simp only [Bool.or_eq_true, Bool.not_eq_true', decide_eq_false_iff_not]
      by_cases h : ltW W b a
      · exact Or.inr (ltW_asym h)
      · exact Or.inl h) L
    exact this.imp (fun {a b} h => by simp only [Bool.not_eq_true', decide_eq_false_iff_not] at h; exact h)
  have hn : M.Nodup := h1.nodup_iff.2 hL
  exact ⟨M, h1, (List.pairwise_and_iff.2 ⟨hn, h2⟩).imp (fun {a b} h => (ltW_total h.1).resolve_right h.2)⟩

/-- The least so far. -/
def Least (W : BA → Int) (R : List BA) (i b : Nat) : Prop := b < i ∧ ∀ p x y, p < i → R[p]? = some x → R[b]? = some y → p = b ∨ ltW W y x
theorem Least.start {W : BA → Int} (R : List BA) : Least W R 1 0 := ⟨Nat.zero_lt_one, fun p x y hp _ _ => Or.inl (by omega)⟩
theorem Least.next {W : BA → Int} {R : List BA} {i b : Nat} (h : Least W R i b) (hr : RiseB R) {x y : BA} (hx : R[i]? = some x) (hy : R[b]? = some y) : Least W R (i + 1) (if W x < W y then i else b) := by
  obtain ⟨hb, hl⟩ := h
  split
  · rename_i hc
    refine ⟨by omega, fun p u v hp hu hv => ?_⟩
    rw [hx] at hv
    cases hv
    by_cases e : p = i
    · exact Or.inl e
    · right
      rcases hl p u y (by omega) hu hy with e2 | h2
      · subst e2
        rw [hy] at hu
        cases hu
        exact Or.inl hc
      · exact ltW_trans (Or.inl hc) h2
  · rename_i hc
    refine ⟨by omega, fun p u v hp hu hv => ?_⟩
    rw [hy] at hv
    cases hv
    by_cases e : p = i
    · subst e
      rw [hx] at hu
      cases hu
      right
      obtain ⟨h1, e1⟩ := List.getElem?_eq_some_iff.1 hx
      obtain ⟨h2, e2⟩ := List.getElem?_eq_some_iff.1 hy
      have := List.pairwise_iff_getElem.1 hr b p h2 h1 hb
      rw [e1, e2] at this
      by_cases h3 : W y < W x
      · exact Or.inl h3
      · exact Or.inr ⟨by omega, this⟩
    · exact hl p u y (by omega) hu hy
theorem least_head {W : BA → Int} {R O : List BA} {b : Nat} (h : Least W R R.length b) (hp : R.Perm O) (ho : O.Pairwise (ltW W)) {y : BA} (hy : R[b]? = some y) : ∃ r, O = y :: r ∧ (R.take b ++ R.drop (b + 1)).Perm r := by
  obtain ⟨h2, e2⟩ := List.getElem?_eq_some_iff.1 hy
  have hy1 : y ∈ R := List.mem_of_getElem? hy
  have hperm : R.Perm (y :: (R.take b ++ R.drop (b + 1))) := by
    have : R = R.take b ++ y :: R.drop (b + 1) := by
      rw [← e2, List.getElem_cons_drop, List.take_append_drop]
    conv => lhs; rw [this]
    exact List.perm_middle
  cases O with
  | nil => exact absurd (hp.eq_nil ▸ hy1) (by simp)
  | cons z r =>
    have hz : z ∈ R := hp.mem_iff.2 (by simp)
    have e : z = y := by
      by_cases e : z = y
      · exact e
      · obtain ⟨p, hpl, hpe⟩ := List.getElem_of_mem hz
        have hy2 : y ∈ r := by
          rcases List.mem_cons.1 (hp.mem_iff.1 hy1) with h | h
          · exact absurd h.symm e
          · exact h
        have h3 := (List.pairwise_cons.1 ho).1 y hy2
        rcases h.2 p z y hpl (by rw [List.getElem?_eq_getElem hpl, hpe]) hy with e3 | h4
        · subst e3
          exact absurd (hpe.symm.trans e2) e
        · exact absurd h4 (ltW_asym h3)
    subst e
    exact ⟨r, rfl, (List.perm_cons z).1 (hperm.symm.trans hp)⟩

def ROwnersP (N : List BA) (key : BA) (n : Int) (w : World) (e : Ending) (w' : World) : Prop :=
  ∃ (a : Option Addr) (c : Nat) (L O O' : List BA), Nds N L ∧ Ow (way pt (hash key)) L O ∧ O.take n.toNat = O' ∧ e = .returned (.slice a O'.length c) ∧ RdS w' a O' ∧ Keep NoB w w' ∧ ∀ b off, a = some ⟨b, off, none⟩ → w.heap.size ≤ b


set_option maxHeartbeats 8000000 in
theorem rowners_any (w : World) (a0 : Option Addr) (c0 m : Nat) (N : List BA) (h : RdS w a0 N) (hm : N.length = m) (hl : m ≤ 1000) (hsz : ∀ x ∈ N, x.size ≤ 140737488355328) (key : BA) (hks : key.size ≤ maxLen) (n : Int) :
    Calls Tryd.prog 15 #[.slice a0 m c0, .string key, .int .i64 n] w (ROwnersP N key n w) := by
  have Hsz := Lib.hid hsz
  clear hsz
  go_enter Tryd.func15, Tryd.ntmps15
  go_wp2_with fail
  refine (rnodes_any w a0 c0 m N h hm hl).mono ?_
  rintro _ w1 ⟨la, lc, L, rfl, hNd, OL, k1⟩
  have hL8 := hNd.len
  have HNd := Lib.hid hNd
  have HOL := Lib.hid OL
  have Hk1 := Lib.hid k1
  have HsL := Lib.hid (show ∀ x ∈ L, x.size ≤ 140737488355328 from fun x hx => Hsz.out x (nds_mem hNd hx))
  clear hNd OL k1 h hm
  go_wp2_with fail
  obtain ⟨hv, hhv⟩ : ∃ q, hash key = q := ⟨_, rfl⟩
  refine (rhash_any key _ hks hv hhv).mono ?_
  rintro _ w2 ⟨rfl, rfl⟩
  obtain ⟨W, hW⟩ : ∃ W, way pt hv = W := ⟨_, rfl⟩
  obtain ⟨O, hO⟩ := ow_there W HNd.out.nodup
  have HO := Lib.hid hO
  have HW := Lib.hid (show hash key = hv ∧ way pt hv = W ∧ 0 ≤ hv ∧ hv < MM from ⟨hhv, hW, by rw [← hhv]; exact hash_rng key⟩)
  clear hO hW hhv
  go_wp2_with fail
  go_loopw [7, 9] (fun lv ov wr => ∃ (R O1 O2 : List BA) (la : Option Addr) (lc : Nat) (oa : Option Addr) (oc : Nat), lv = .slice la R.length lc ∧ ov = .slice oa O1.length oc ∧ Own wr w.heap.size 9 1 cS (.slice la R.length lc) R ∧ Own wr w.heap.size 9 1 cS (.slice oa O1.length oc) O1 ∧ (∀ g, (Value.slice oa O1.length oc).ownBlock = some g → (Value.slice la R.length lc).ownBlock = some g → False) ∧ RiseB R ∧ R.Perm O2 ∧ O1 ++ O2 = O ∧ O1.length ≤ n.toNat ∧ Keep NoB w wr) (fun lv _ _ => match lv with | .slice _ k _ => k | _ => 0)
  case atStart => exact ⟨L, [], O, la, lc, _, 0, rfl, rfl, HOL.out.alloc _, (Own.empty w1 Hk1.out.size 9 1 cS), fun g hg hg' => by have := HOL.out.lt g hg'; simp [Value.ownBlock] at hg; omega, HNd.out.2, HO.out.1.symm, rfl, Nat.zero_le _, Hk1.out.alloc _⟩
  case round =>
    clear HOL Hk1
    obtain ⟨R, O1, O2, la, lc, oa, oc, rfl, rfl, OR, OO, hsep, hRr, hRp, hOO, hOn, hkr⟩ := hrel
    have HOR := Lib.hid OR
    have HOO := Lib.hid OO
    have Hsep := Lib.hid hsep
    have HRr := Lib.hid hRr
    have HRp := Lib.hid hRp
    have HO12 := Lib.hid hOO
    have Hkr := Lib.hid hkr
    have hlO : O1.length + R.length = L.length := by rw [← HO.out.len, ← hOO, List.length_append, hRp.length_eq]
    have hsR : ∀ x ∈ R, x.size ≤ 140737488355328 := fun x hx => HsL.out x (HO.out.mem.1 (by rw [← hOO]; exact List.mem_append.2 (Or.inr (hRp.mem_iff.1 hx))))
    have HsR := Lib.hid hsR
    clear OR OO hsep hRr hRp hOO hkr hsR
    by_cases hgo : 0 < R.length ∧ (O1.length : Int) < n
    · obtain ⟨hR0, hOlt⟩ := hgo
      obtain ⟨q, hq⟩ : ∃ q, R.length = q := ⟨_, rfl⟩
      obtain ⟨g, hga, _, _⟩ := Own.some HOR.out (by intro e; rw [e] at hR0; simp at hR0)
      subst hga
      have hqr : RdS wr (some ⟨g, 0, none⟩) R := rds_own HOR.out
      have HqR := Lib.hid hqr
      have Hq := Lib.hid hq
      rw [hq] at hR0 hlO ⊢
      have d1 : decide ((0 : Int) < (q : Int)) = true := decide_eq_true (by omega)
      have d2 : decide ((O1.length : Int) < n) = true := decide_eq_true hOlt
      clear hq hqr
      go_wp2_with fail
      go_loopw [10, 11] (fun bv iv wz => ∃ i b : Nat, i ≤ q ∧ iv = .int .i64 (i : Int) ∧ bv = .int .i64 (b : Int) ∧ Least W R i b ∧ Keep NoB wr wz) (fun _ iv _ => q - (intOf iv).toNat)
      case atStart => exact ⟨1, 0, hR0, rfl, rfl, Least.start R, Keep.refl _ _⟩
      case round =>
        obtain ⟨i, b, hi, rfl, rfl, hle, hkz⟩ := hrel
        have Hle := Lib.hid hle
        have Hkz := Lib.hid hkz
        have hb : b < q := Nat.lt_of_lt_of_le hle.1 hi
        obtain ⟨y, hy⟩ : ∃ y, R[b]? = some y := ⟨_, List.getElem?_eq_getElem (by rw [Hq.out]; exact hb)⟩
        obtain ⟨yb, yo, hya, _, hyc⟩ := (HqR.out.keep0 hkz).at hy
        cases hya
        have Hy := Lib.hid hy
        clear hle hkz hy
        by_cases hgi : i < q
        · obtain ⟨x, hx⟩ : ∃ x, R[i]? = some x := ⟨_, List.getElem?_eq_getElem (by rw [Hq.out]; exact hgi)⟩
          obtain ⟨xb, xo, hxa, _, hxc⟩ := (HqR.out.keep0 Hkz.out).at hx
          cases hxa
          have Hst := Lib.hid (Hle.out.next HRr.out hx Hy.out)
          have Hzz := Lib.hid (show x.size ≤ 140737488355328 ∧ y.size ≤ 140737488355328 from ⟨HsR.out x (List.mem_of_getElem? hx), HsR.out y (List.mem_of_getElem? Hy.out)⟩)
          have d3 : decide ((i : Int) < (q : Int)) = true := decide_eq_true (by omega)
          have hw1 : IntKind.i64.wrap ((i : Int) + 1) = (i : Int) + 1 := IntWalk.i64_in _ (by omega)
          obtain ⟨wx, hwx⟩ : ∃ q, W x = q := ⟨_, rfl⟩
          obtain ⟨wy, hwy⟩ : ∃ q, W y = q := ⟨_, rfl⟩
          have Hwx := Lib.hid (show way pt hv x = wx by rw [HW.out.2.1]; exact hwx)
          have Hwy := Lib.hid (show way pt hv y = wy by rw [HW.out.2.1]; exact hwy)
          have hst := Hst.out
          rw [hwx, hwy] at hst
          obtain ⟨tb, htb⟩ : ∃ t, decide (wx < wy) = t := ⟨_, rfl⟩
          have Hst2 := Lib.hid (show Least W R (i + 1) (if tb = true then i else b) by
            rw [← htb]
            by_cases hc : wx < wy
            · rw [if_pos hc] at hst; rw [if_pos (decide_eq_true hc)]; exact hst
            · rw [if_neg hc] at hst; rw [if_neg (by rw [decide_eq_false hc]; decide)]; exact hst)
          have HS := Lib.hid (show wr.drew.cell? ⟨g, 0 + i, none⟩ = some (.string x) ∧ wr.drew.cell? ⟨g, 0 + b, none⟩ = some (.string y) from ⟨hxc, hyc⟩)
          have Hkd := Lib.hid (Hkz.out.trans ((Keep.refl NoB wr).drew))
          simp only [Nat.zero_add] at HS
          clear hx hst hwx hwy hxc hyc
          go_wp2_with fail
          refine wp_region_pl (fun u => u.cell? ⟨g, i, none⟩ = some (.string x) ∧ u.cell? ⟨g, b, none⟩ = some (.string y)) [] (.rd 0 (.rd 1 (.rd 2 (.rd 3 (.rd 4 (.rd 6 (.rd 7 (.rd 8 (.rd 9 (.rd 10 (.one 5 (.one 11 (.rd 12 .done))))))))))))) (by kernel_rfl) (by kernel_rfl) (by kernel_rfl) (by kernel_rfl) (by intro c b d v u h; cases d <;> exact h) ?_
          generalize wr.drew = wd at HS Hkd ⊢
          first
            | refine pl_get (i := 0) rfl rfl HS.out rfl (fun u hu => by (try dsimp only at hu); go_simp; rfl) (by simp only [List.setIfInBounds_toArray, List.set_cons_succ, List.set_cons_zero]; rfl) ?_
            | refine pl_skip (i := 0) rfl rfl HS.out rfl (by simp only [List.setIfInBounds_toArray, List.set_cons_succ, List.set_cons_zero]; rfl) ?_
          first
            | refine pl_get (i := 1) rfl rfl HS.out rfl (fun u hu => by (try dsimp only at hu); go_simp; rfl) (by simp only [List.setIfInBounds_toArray, List.set_cons_succ, List.set_cons_zero]; rfl) ?_
            | refine pl_skip (i := 1) rfl rfl HS.out rfl (by simp only [List.setIfInBounds_toArray, List.set_cons_succ, List.set_cons_zero]; rfl) ?_
          first
            | refine pl_get (i := 2) rfl rfl HS.out rfl (fun u hu => by (try dsimp only at hu); go_simp; rfl) (by simp only [List.setIfInBounds_toArray, List.set_cons_succ, List.set_cons_zero]; rfl) ?_
            | refine pl_skip (i := 2) rfl rfl HS.out rfl (by simp only [List.setIfInBounds_toArray, List.set_cons_succ, List.set_cons_zero]; rfl) ?_
          first
            | refine pl_get (i := 3) rfl rfl HS.out rfl (fun u hu => by (try dsimp only at hu); go_simp; rfl) (by simp only [List.setIfInBounds_toArray, List.set_cons_succ, List.set_cons_zero]; rfl) ?_
            | refine pl_skip (i := 3) rfl rfl HS.out rfl (by simp only [List.setIfInBounds_toArray, List.set_cons_succ, List.set_cons_zero]; rfl) ?_
          first
            | refine pl_get (i := 4) rfl rfl HS.out rfl (fun u hu => by (try dsimp only at hu); go_simp; rfl) (by simp only [List.setIfInBounds_toArray, List.set_cons_succ, List.set_cons_zero]; rfl) ?_
            | refine pl_skip (i := 4) rfl rfl HS.out rfl (by simp only [List.setIfInBounds_toArray, List.set_cons_succ, List.set_cons_zero]; rfl) ?_
          first
            | refine pl_get (i := 6) rfl rfl HS.out rfl (fun u hu => by (try dsimp only at hu); go_simp; rfl) (by simp only [List.setIfInBounds_toArray, List.set_cons_succ, List.set_cons_zero]; rfl) ?_
            | refine pl_skip (i := 6) rfl rfl HS.out rfl (by simp only [List.setIfInBounds_toArray, List.set_cons_succ, List.set_cons_zero]; rfl) ?_
          first
            | refine pl_get (i := 7) rfl rfl HS.out rfl (fun u hu => by (try dsimp only at hu); go_simp; rfl) (by simp only [List.setIfInBounds_toArray, List.set_cons_succ, List.set_cons_zero]; rfl) ?_
            | refine pl_skip (i := 7) rfl rfl HS.out rfl (by simp only [List.setIfInBounds_toArray, List.set_cons_succ, List.set_cons_zero]; rfl) ?_
          first
            | refine pl_get (i := 8) rfl rfl HS.out rfl (fun u hu => by (try dsimp only at hu); go_simp; rfl) (by simp only [List.setIfInBounds_toArray, List.set_cons_succ, List.set_cons_zero]; rfl) ?_
            | refine pl_skip (i := 8) rfl rfl HS.out rfl (by simp only [List.setIfInBounds_toArray, List.set_cons_succ, List.set_cons_zero]; rfl) ?_
          first
            | refine pl_get (i := 9) rfl rfl HS.out rfl (fun u hu => by (try dsimp only at hu); go_simp; rfl) (by simp only [List.setIfInBounds_toArray, List.set_cons_succ, List.set_cons_zero]; rfl) ?_
            | refine pl_skip (i := 9) rfl rfl HS.out rfl (by simp only [List.setIfInBounds_toArray, List.set_cons_succ, List.set_cons_zero]; rfl) ?_
          first
            | refine pl_get (i := 10) rfl rfl HS.out rfl (fun u hu => by (try dsimp only at hu); go_simp; rfl) (by simp only [List.setIfInBounds_toArray, List.set_cons_succ, List.set_cons_zero]; rfl) ?_
            | refine pl_skip (i := 10) rfl rfl HS.out rfl (by simp only [List.setIfInBounds_toArray, List.set_cons_succ, List.set_cons_zero]; rfl) ?_
          refine pl_one (i := 5) rfl ?_
          go_wp2_with ((go_at_call 27; refine (way_any hv x _ Hzz.out.1 HW.out.2.2 wx Hwx.out).mono ?_; rintro _ wz ⟨rfl, rfl⟩))
          refine pl_next (fun _ => HS.out) ?_
          refine pl_one (i := 11) rfl ?_
          go_wp2_with ((go_at_call 27; refine (way_any hv y _ Hzz.out.2 HW.out.2.2 wy Hwy.out).mono ?_; rintro _ wz ⟨rfl, rfl⟩))
          refine pl_next (fun _ => HS.out) ?_
          first
            | refine pl_get (i := 12) rfl rfl HS.out rfl (fun u hu => by (try dsimp only at hu); go_simp; rfl) (by simp only [List.setIfInBounds_toArray, List.set_cons_succ, List.set_cons_zero]; rfl) ?_
            | refine pl_skip (i := 12) rfl rfl HS.out rfl (by simp only [List.setIfInBounds_toArray, List.set_cons_succ, List.set_cons_zero]; rfl) ?_
          refine pl_done ?_
          cases tb
          · go_wp2_with fail
            go_roundw
            case rel => exact ⟨i + 1, b, hgi, by go_num, rfl, Hst2.out, Hkd.out⟩
            case measure => simp [intOf]; omega
          · go_wp2_with fail
            go_roundw
            case rel => exact ⟨i + 1, i, hgi, by go_num, rfl, Hst2.out, Hkd.out⟩
            case measure => simp [intOf]; omega
        · have d3 : decide ((i : Int) < (q : Int)) = false := decide_eq_false (by omega)
          have hiq : i = R.length := by rw [Hq.out]; omega
          have hle := Hle.out
          rw [hiq] at hle
          obtain ⟨O3, hO3, hRp3⟩ := least_head hle HRp.out (by have := HO.out.2; rw [← HO12.out] at this; exact (List.pairwise_append.1 this).2.1) Hy.out
          obtain ⟨O1', hO1'⟩ : ∃ l, O1 ++ [y] = l := ⟨_, rfl⟩
          obtain ⟨X, hX⟩ : ∃ l, R.take b = l := ⟨_, rfl⟩
          obtain ⟨Y, hY⟩ : ∃ l, R.drop (b + 1) = l := ⟨_, rfl⟩
          obtain ⟨R', hR'⟩ : ∃ l, X ++ Y = l := ⟨_, rfl⟩
          rw [hX, hY, hR'] at hRp3
          have hRr' : RiseB R' := by
            rw [← hR', ← hX, ← hY]
            have := HRr.out
            rw [← List.take_append_drop b R] at this
            have h1 := List.pairwise_append.1 this
            refine List.pairwise_append.2 ⟨h1.1, ?_, fun u hu v hv => h1.2.2 u hu v ?_⟩
            · have h2 := h1.2.1
              rw [← List.drop_drop]
              exact h2.sublist (List.drop_sublist _ _)
            · rw [← List.drop_drop] at hv
              exact List.mem_of_mem_drop hv
          have hXl : X.length ≤ 8 := by rw [← hX, List.length_take]; omega
          have hYl : Y.length ≤ 8 := by rw [← hY, List.length_drop, Hq.out]; omega
          have hR'l : R'.length + 1 = q := by rw [hRp3.length_eq, ← Hq.out, HRp.out.length_eq, hO3]; rfl
          have hO1l : O1'.length = O1.length + 1 := by rw [← hO1']; simp
          have hO4 : O1' ++ O3 = O := by rw [← hO1', ← HO12.out, hO3]; simp
          have HF := Lib.hid (show RiseB R' ∧ R'.Perm O3 ∧ O1' ++ O3 = O ∧ O1'.length ≤ n.toNat from ⟨hRr', hRp3, hO4, by omega⟩)
          have HX := Lib.hid hX
          have HY := Lib.hid hY
          have HR' := Lib.hid hR'
          have HO1' := Lib.hid hO1'
          have HXl := Lib.hid hXl
          have HYl := Lib.hid hYl
          have HRl := Lib.hid hR'l
          have HOl := Lib.hid hO1l
          have HOz := Lib.hid (HOO.out.keep Hkz.out (fun _ _ h => h))
          have HRz := Lib.hid (HOR.out.keep Hkz.out (fun _ _ h => h))
          have Hkw := Lib.hid (Hkr.out.trans Hkz.out)
          have hO1b : O1.length ≤ 8 := by omega
          have hw5 : IntKind.i64.wrap ((b : Int) + 1) = (b : Int) + 1 := IntWalk.i64_in _ (by omega)
          have p1 : (0 : Int) ≤ (b : Int) + 1 := by omega
          have p2 : (b : Int) + 1 ≤ (q : Int) := by omega
          have p3 : ((b : Int) + 1).toNat = b + 1 := by omega
          have p4 : ¬ (q : Int) < (b : Int) + 1 := by omega
          simp only [Nat.zero_add] at hyc
          have hws : w.heap.size ≤ wr.heap.size := Hkw.out.size
          clear hle hO3 hRp3 hO1' hX hY hR' hRr' hXl hYl hR'l hO1l hO4 hiq Hle
          have hroom := HOR.out.room
          rw [Hq.out] at hroom
          have hrm := hroom.2.1
          clear hroom
          by_cases hcap : lc = b + 1
          · have HY0 := Lib.hid (show Y = [] ∧ q - (b + 1) = 0 from ⟨by rw [← HY.out]; exact List.drop_of_length_le (by rw [Hq.out]; omega), by omega⟩)
            go_wp2_with (first
              | (at_builtin
                 (refine wpList_append_one (B := w.heap.size) rfl (.tmp 47) (.tmp 52) 22 rfl Tryd.underlying22 info9' (by kernel_rfl) (by decide) (by decide) rfl (HOz.out.alloc (.cells #[.string y] 9)) cS_len y rfl (c := #[.string y]) (t' := 9) (f := (0, 0)) (blk_new wr _) rfl (cS_one _) (by omega) (by simp; omega) HO1'.out ?_)
                 intro a4 c4 w4 O4 k4
                 have HO4 := Lib.hid O4
                 have HR4 := Lib.hid ((HRz.out.alloc (.cells #[.string y] 9)).keep k4 (fun g hg e => Hsep.out g e hg))
                 have Hk4 := Lib.hid ((HOz.out.alloc (.cells #[.string y] 9)).knob (Hkw.out.alloc _) k4)
                 have HqR4 := Lib.hid (rds_own HR4.out)
                 have HsT := Lib.hid (show ∀ c, Sub w4 cS (.slice (some ⟨g, 0, none⟩) b c) X from fun c => by have := rds_takeS HqR4.out (i := b) (by rw [Hq.out]; omega) c; rw [HX.out] at this; exact this)
                 clear O4 k4
                 skip)
              | (at_builtin
                 (refine wpList_append_sub rfl (.tmp 54) (.tmp 57) 22 rfl Tryd.underlying22 info9' (by kernel_rfl) (by decide) (by decide) rfl (Own.empty w4 (Nat.le_refl _) 9 1 cS) cS_len cS_one rfl ((HsT.out _).keep ((Keep.refl NoB w4).alloc (.cells #[] 9))) (by have := HXl.out; simp; omega) (by simp) (List.nil_append X) ?_)
                 intro a5 c5 w5 O5 k5
                 have k55 : Keep NoB w4 w5 := (Own.empty w4 (Nat.le_refl _) 9 1 cS).knob ((Keep.refl NoB w4).alloc _) k5
                 have HO5 := Lib.hid O5
                 have Hk5 := Lib.hid k55
                 have HqR5 := Lib.hid (HqR4.out.keep0 k55)
                 have HsD := Lib.hid (show ∀ c, Sub w5 cS (.slice (some ⟨g, b + 1, none⟩) (q - (b + 1)) c) Y from fun c => by have := rds_drop HqR5.out (b + 1) c Hq.out; rw [HY.out] at this; simpa [Addr.add] using this)
                 clear O5 k5 k55
                 skip)
              | (at_builtin
                 (refine wpList_append_sub rfl (.tmp 59) (.tmp 63) 22 rfl Tryd.underlying22 info9' (by kernel_rfl) (by decide) (by decide) rfl HO5.out cS_len cS_one rfl (by first | exact Sub.nil2 HY0.out.1 HY0.out.2 | exact HsD.out _) (by have := HXl.out; have := HYl.out; omega) (by have := Hk5.out.size; omega) HR'.out ?_)
                 intro a6 c6 w6 O6 k6
                 have k66 : Keep NoB w4 w6 := HO5.out.knob Hk5.out k6
                 have HO6 := Lib.hid O6
                 have Hk6 := Lib.hid k66
                 clear O6 k6 k66
                 skip))
            go_roundw
            case rel => exact ⟨R', O1', O3, a6, c6, a4, c4, rfl, rfl, HO6.out.mono (Hk4.out.size), HO4.out.keep Hk6.out (fun _ _ h => h), (fun g hg hg' => by have := HO6.out.fresh g hg'; have := HO4.out.lt g hg; omega), HF.out.1, HF.out.2.1, HF.out.2.2.1, HF.out.2.2.2, Hk4.out.trans Hk6.out⟩
            case measure => have := HRl.out; simp; omega
          · go_wp2_with (first
              | (at_builtin
                 (refine wpList_append_one (B := w.heap.size) rfl (.tmp 47) (.tmp 52) 22 rfl Tryd.underlying22 info9' (by kernel_rfl) (by decide) (by decide) rfl (HOz.out.alloc (.cells #[.string y] 9)) cS_len y rfl (c := #[.string y]) (t' := 9) (f := (0, 0)) (blk_new wr _) rfl (cS_one _) (by omega) (by simp; omega) HO1'.out ?_)
                 intro a4 c4 w4 O4 k4
                 have HO4 := Lib.hid O4
                 have HR4 := Lib.hid ((HRz.out.alloc (.cells #[.string y] 9)).keep k4 (fun g hg e => Hsep.out g e hg))
                 have Hk4 := Lib.hid ((HOz.out.alloc (.cells #[.string y] 9)).knob (Hkw.out.alloc _) k4)
                 have HqR4 := Lib.hid (rds_own HR4.out)
                 have HsT := Lib.hid (show ∀ c, Sub w4 cS (.slice (some ⟨g, 0, none⟩) b c) X from fun c => by have := rds_takeS HqR4.out (i := b) (by rw [Hq.out]; omega) c; rw [HX.out] at this; exact this)
                 clear O4 k4
                 skip)
              | (at_builtin
                 (refine wpList_append_sub rfl (.tmp 54) (.tmp 57) 22 rfl Tryd.underlying22 info9' (by kernel_rfl) (by decide) (by decide) rfl (Own.empty w4 (Nat.le_refl _) 9 1 cS) cS_len cS_one rfl ((HsT.out _).keep ((Keep.refl NoB w4).alloc (.cells #[] 9))) (by have := HXl.out; simp; omega) (by simp) (List.nil_append X) ?_)
                 intro a5 c5 w5 O5 k5
                 have k55 : Keep NoB w4 w5 := (Own.empty w4 (Nat.le_refl _) 9 1 cS).knob ((Keep.refl NoB w4).alloc _) k5
                 have HO5 := Lib.hid O5
                 have Hk5 := Lib.hid k55
                 have HqR5 := Lib.hid (HqR4.out.keep0 k55)
                 have HsD := Lib.hid (show ∀ c, Sub w5 cS (.slice (some ⟨g, b + 1, none⟩) (q - (b + 1)) c) Y from fun c => by have := rds_drop HqR5.out (b + 1) c Hq.out; rw [HY.out] at this; simpa [Addr.add] using this)
                 clear O5 k5 k55
                 skip)
              | (at_builtin
                 (refine wpList_append_sub rfl (.tmp 59) (.tmp 63) 22 rfl Tryd.underlying22 info9' (by kernel_rfl) (by decide) (by decide) rfl HO5.out cS_len cS_one rfl (by first | exact Sub.nil2 HY0.out.1 HY0.out.2 | exact HsD.out _) (by have := HXl.out; have := HYl.out; omega) (by have := Hk5.out.size; omega) HR'.out ?_)
                 intro a6 c6 w6 O6 k6
                 have k66 : Keep NoB w4 w6 := HO5.out.knob Hk5.out k6
                 have HO6 := Lib.hid O6
                 have Hk6 := Lib.hid k66
                 clear O6 k6 k66
                 skip))
            go_roundw
            case rel => exact ⟨R', O1', O3, a6, c6, a4, c4, rfl, rfl, HO6.out.mono (Hk4.out.size), HO4.out.keep Hk6.out (fun _ _ h => h), (fun g hg hg' => by have := HO6.out.fresh g hg'; have := HO4.out.lt g hg; omega), HF.out.1, HF.out.2.1, HF.out.2.2.1, HF.out.2.2.2, Hk4.out.trans Hk6.out⟩
            case measure => have := HRl.out; simp; omega
    · have hfin : O.take n.toNat = O1 := by
        rw [← HO12.out]
        by_cases hR0 : 0 < R.length
        · have h1 : ¬ (O1.length : Int) < n := fun e => hgo ⟨hR0, e⟩
          have h2 : O1.length = n.toNat := by omega
          rw [← h2, List.take_left']
          rfl
        · have h1 : R = [] := List.eq_nil_of_length_eq_zero (by omega)
          have h2 : O2 = [] := by have := HRp.out; rw [h1] at this; exact this.symm.eq_nil
          rw [h2, List.append_nil, List.take_of_length_le hOn]
      have Hfin := Lib.hid (show ROwnersP N key n w (.returned (.slice oa O1.length oc)) wr from ⟨oa, oc, L, O, O1, HNd.out, by rw [HW.out.1, HW.out.2.1]; exact HO.out, hfin, rfl, rds_own HOO.out, Hkr.out, fun b off e => HOO.out.fresh b (by rw [e]; rfl)⟩)
      have hd2 : (decide ((0 : Int) < (R.length : Int)) = false ∧ ¬ 0 < R.length) ∨ (decide ((0 : Int) < (R.length : Int)) = true ∧ 0 < R.length ∧ decide ((O1.length : Int) < n) = false ∧ ¬ (O1.length : Int) < n) := by
        by_cases hR0 : 0 < R.length
        · exact Or.inr ⟨decide_eq_true (by omega), hR0, decide_eq_false (fun e => hgo ⟨hR0, e⟩), fun e => hgo ⟨hR0, e⟩⟩
        · exact Or.inl ⟨decide_eq_false (by omega), hR0⟩
      clear hfin hgo
      rcases hd2 with ⟨d1, d2⟩ | ⟨d1, d2, d3, d4⟩
      all_goals
        go_wp2_with fail
        go_ret
        exact Hfin.out
end Go.Proofs.YtopgepifakdpfaaDoor
