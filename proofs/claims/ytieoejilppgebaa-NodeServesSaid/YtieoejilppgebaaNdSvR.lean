/- What each op of NodeServes leaves true of a node: plain lists. -/
import Derived.Test.YtieoejilppgebaaNdSvQ
namespace Go.Proofs.Ytieoejilppgebaa
open Go Go.RowKit Go.Maps
set_option maxRecDepth 100000

/-- What a cold node's tombstones know. -/
def CO (G : List EN) (W0 W1 : Nat) (s : NS) : Prop :=
  s.cold = true ∧ ∃ S : Nat, s.since = (S : Int) ∧ ∀ j x, S ≤ j → j < W1 → G[j]? = some x → j + 1 ≤ W0 ∨ Cov s.fl s.H (Hd.kS x.k) ((j : Int) + 1)
/-- What a call leaves alone. -/
def S4 (s s' : NS) : Prop := s'.fl = s.fl ∧ s'.H = s.H ∧ s'.cold = s.cold ∧ s'.since = s.since
theorem S4.refl (s : NS) : S4 s s := ⟨rfl, rfl, rfl, rfl⟩
theorem CO.same {G : List EN} {W0 W1 : Nat} {s s' : NS} (h : CO G W0 W1 s) (h4 : S4 s s') : CO G W0 W1 s' := by
  obtain ⟨h1, S, h2, h3⟩ := h
  obtain ⟨e1, e2, e3, e4⟩ := h4
  exact ⟨by rw [e3]; exact h1, S, by rw [e4]; exact h2, by rw [e1, e2]; exact h3⟩
theorem CO.app {G : List EN} {W0 W1 : Nat} {s : NS} (h : CO G W0 W1 s) (hw : W1 ≤ G.length) (e : EN) : CO (G ++ [e]) W0 W1 s := by
  obtain ⟨h1, S, h2, h3⟩ := h
  exact ⟨h1, S, h2, fun j x hj hjw hx => h3 j x hj hjw ((get_app (by omega)).1 hx)⟩
theorem CO.le {G : List EN} {W0 W1 : Nat} {s : NS} (h : CO G W0 W1 s) : CO G (W0 + 1) W1 s := by
  obtain ⟨h1, S, h2, h3⟩ := h
  exact ⟨h1, S, h2, fun j x hj hjw hx => (h3 j x hj hjw hx).imp (fun h => by omega) id⟩

section
variable {G : List EN} {W k : Nat} {s s' : NS}

theorem sv_get (h : NN G W k s) (ha : Apart s.L) {t : ByteArray} {v : Value} (hg : GetV s t s' v) :
    ∃ (kd : Int) (xv : IT) (tok : Int), v = ansV kd xv tok ∧ ((kd = 1 ∧ ∃ a : Nat, xv.a = (a : Int) ∧ a ≤ G.length ∧ vv xv = atI G t (max a W)) ∨ ((kd == 1) = false)) ∧ NN G W (k + 1) s' ∧ S4 s s' ∧ (∀ r, RK G W s r → RK G W s' r) ∧ (tok ≤ 0 ∨ tok ≤ s'.last) := by
  cases hg with
  | marked hm => exact ⟨2, _, 0, rfl, Or.inr rfl, h.le (Nat.le_succ k), S4.refl _, fun r hr => hr, Or.inl (Int.le_refl 0)⟩
  | hit hm x hf =>
    have hx := h.items x (fnd_mem hf)
    refine ⟨1, x.v, 0, rfl, Or.inl ⟨rfl, ?_⟩, ⟨h.w, ?_, ?_, h.nd, h.mlen, by have := h.llen; simp only; omega, h.tick, h.l0, by have := h.l1; simp only; omega, h.hlen⟩, ⟨rfl, rfl, rfl, rfl⟩, fun r hr => hr.of (Int.le_refl _) (fun t ht => ⟨t, ht⟩), Or.inl (Int.le_refl 0)⟩
    · obtain ⟨a, h1, h2, h3⟩ := hx
      rw [fnd_key hf] at h3
      exact ⟨a, h1, h2, h3⟩
    · intro y hy
      rcases List.mem_cons.1 hy with rfl | hy
      · exact hx
      · exact h.items y (It.dropK_mem hy).1
    · have := dropK_lt hf
      have := h.nlen
      simp only [List.length_cons]
      omega
  | miss hm hf v ok last' L' hr =>
    obtain ⟨g1, g2, g3⟩ := grant_len hr ha
    have h1 := h.llen
    have h2 := h.l0
    have h3 := h.l1
    have h4 := h.nlen
    have hk := hr
    unfold Ls.grantR at hr
    split at hr
    · cases hr
      exact ⟨3, _, 0, rfl, Or.inr rfl, h.le (Nat.le_succ k), ⟨rfl, rfl, rfl, rfl⟩, fun r hr => hr.of (Int.le_refl _) (fun t ht => ⟨t, ht⟩), Or.inl (Int.le_refl 0)⟩
    · cases hgg : lget s.L (Ls.kS t) with
      | some x =>
        rw [hgg] at hr
        cases hr
        exact ⟨3, _, 0, rfl, Or.inr rfl, h.le (Nat.le_succ k), ⟨rfl, rfl, rfl, rfl⟩, fun r hr => hr.of (Int.le_refl _) (fun t ht => ⟨t, ht⟩), Or.inl (Int.le_refl 0)⟩
      | none =>
        rw [hgg] at hr
        cases hr
        refine ⟨3, _, s.last + 1, rfl, Or.inr rfl, ⟨h.w, h.items, by simp only; omega, h.nd, h.mlen, by simp only; omega, ?_, by simp only; omega, by simp only; omega, h.hlen⟩, ⟨rfl, rfl, rfl, rfl⟩, fun r hr => hr.of (by simp only; omega) (fun t' ht' => ?_), Or.inr (Int.le_refl _)⟩
        · intro p hp
          rcases mem_lins.1 hp with rfl | hp
          · exact ⟨show (1 : Int) ≤ 10 by decide, show (10 : Int) ≤ 10 by decide⟩
          · exact h.tick p (List.mem_filter.1 hp).1
        · simp only at ht'
          by_cases e : Ls.kS r.k = Ls.kS t
          · rw [e, lget_lput_same (Ls.kS_key t)] at ht'
            have := hr.tok
            simp only [Option.some.injEq, Prod.mk.injEq] at ht'
            omega
          · rw [lget_lput_other e] at ht'
            exact ⟨t', ht'⟩
/-- The read that a miss began. -/
theorem rk_new (h : NN G W k s') (who tok : Int) (t : ByteArray) (ht : t.size ≤ 1000) (htok : tok ≤ s'.last) (v : IT) (hv : vv v = atI G t G.length) (hts : v.tx.size ≤ 1000) : RK G W s' ⟨who, (G.length : Int), t, tok, v⟩ :=
  ⟨⟨G.length, rfl, Nat.le_refl _, hv, fun t' ht' j x hj hjw => by have := h.w; omega⟩, htok, ht, hts⟩

theorem sv_put (h : NN G W k s) {t : ByteArray} {v : IT} {sz : Int} (hv : ∃ a : Nat, v.a = (a : Int) ∧ a ≤ G.length ∧ vv v = atI G t (max a W)) {r : Bool} (hp : PutR s t v sz s' r) : NN G W (k + 1) s' ∧ S4 s s' ∧ s'.L = s.L ∧ s'.last = s.last := by
  have h1 := h.llen
  have h3 := h.l1
  have h4 := h.nlen
  cases hp with
  | old xv ok hp hok ha => exact ⟨h.le (Nat.le_succ k), S4.refl _, rfl, rfl⟩
  | no xv ok hp hok hn =>
    exact ⟨⟨h.w, fun y hy => h.items y (It.dropK_mem hy).1, by have := dropK_le (N := s.N) (key := t); simp only; omega, h.nd, h.mlen, by simp only; omega, h.tick, h.l0, by simp only; omega, h.hlen⟩, ⟨rfl, rfl, rfl, rfl⟩, rfl, rfl⟩
  | new xv ok hp hok hn xb M hM =>
    refine ⟨⟨h.w, ?_, ?_, h.nd, h.mlen, by simp only; omega, h.tick, h.l0, by simp only; omega, h.hlen⟩, ⟨rfl, rfl, rfl, rfl⟩, rfl, rfl⟩
    · intro y hy
      rcases List.mem_cons.1 hy with rfl | hy
      · exact hv
      · rw [← hM] at hy
        exact h.items y (It.dropK_mem (List.mem_of_mem_take hy)).1
    · have h5 := dropK_le (N := s.N) (key := t)
      have h6 : M.length ≤ (It.dropK s.N t).length := by rw [← hM, List.length_take]; omega
      simp only [List.length_cons]
      omega

theorem sv_fill (h : NN G W k s) (ha : Apart s.L) {r : RR} (hr : RK G W s r) {sz : Int} {b : Bool} (v : IT) (hv : v = ⟨r.v.e, r.v.i, r.v.th, r.v.tx, r.a⟩) (hp : FillR s r.k r.tok v sz s' b) : NN G W (k + 1) s' ∧ S4 s s' ∧ (∀ q, RK G W s q → RK G W s' q) := by
  subst hv
  cases hp with
  | no hu => exact ⟨h.le (Nat.le_succ k), S4.refl _, fun q hq => hq⟩
  | yes hu s' b hp =>
    have hl := ldel_le (Ls.kS r.k) ha
    obtain ⟨⟨a, a1, a2, a3, a4⟩, _, _, _⟩ := hr
    have hlk : ∃ t, lget s.L (Ls.kS r.k) = some (r.tok, t) := by
      unfold Ls.useB at hu
      cases hg : lget s.L (Ls.kS r.k) with
      | none => rw [hg] at hu; cases hu
      | some x =>
        rw [hg] at hu
        simp only [decide_eq_true_eq] at hu
        exact ⟨x.2, by rw [← hu]⟩
    obtain ⟨t, hlk⟩ := hlk
    have h1 : NN G W k { s with last := s.last, L := ldel s.L (Ls.kS r.k) } := ⟨h.w, h.items, h.nlen, h.nd, h.mlen, by have := h.llen; simp only; omega, fun p hp => h.tick p (List.mem_filter.1 hp).1, h.l0, h.l1, h.hlen⟩
    obtain ⟨q1, q2, q3, q4⟩ := sv_put h1 ⟨a, a1, a2, by
      have e : atI G r.k (max a W) = atI G r.k a := atI_same (by omega) (fun j x hj hjm hx => a4 t hlk j x hj (by omega) hx)
      rw [e, ← a3]
      rfl⟩ hp
    refine ⟨q1, q2, fun q hq => hq.of (by rw [q4]; exact Int.le_refl _) (fun t' ht' => ?_)⟩
    rw [q3] at ht'
    by_cases e : Ls.kS q.k = Ls.kS r.k
    · rw [e, lget_ldel_same] at ht'; cases ht'
    · simp only at ht'
      rw [lget_ldel_other e] at ht'
      exact ⟨t', ht'⟩

theorem sv_mark (h : NN G W k s) {x : MK} {r : Int} (hm : MarkR s x s' r) : NN G W k s' ∧ S4 s s' ∧ s'.L = s.L ∧ s'.last = s.last := by
  cases hm with
  | there hx => exact ⟨h, S4.refl _, rfl, rfl⟩
  | busy hx hl => exact ⟨h, S4.refl _, rfl, rfl⟩
  | full hx hl n hn hf => exact ⟨h, S4.refl _, rfl, rfl⟩
  | ok hx hl n hn hf N' hN =>
    refine ⟨⟨h.w, fun y hy => h.items y (by simp only at hy; rw [← hN] at hy; exact List.mem_of_mem_take hy), ?_, List.nodup_cons.2 ⟨hx, h.nd⟩, by simp only [List.length_cons]; omega, h.llen, h.tick, h.l0, h.l1, h.hlen⟩, ⟨rfl, rfl, rfl, rfl⟩, rfl, rfl⟩
    have := h.nlen
    simp only
    rw [← hN, List.length_take]
    omega
theorem sv_unmark (h : NN G W k s) {x : MK} {r : Bool} (hm : UnmarkR s x s' r) : NN G W k s' ∧ S4 s s' ∧ s'.L = s.L ∧ s'.last = s.last := by
  cases hm with
  | no hx => exact ⟨h, S4.refl _, rfl, rfl⟩
  | yes hx k' hk => exact ⟨⟨h.w, h.items, h.nlen, h.nd.filter _, Nat.le_trans (List.length_filter_le _ _) h.mlen, h.llen, h.tick, h.l0, h.l1, h.hlen⟩, ⟨rfl, rfl, rfl, rfl⟩, rfl, rfl⟩
theorem RK.same {r : RR} (h : RK G W s r) (h1 : s'.L = s.L) (h2 : s'.last = s.last) : RK G W s' r :=
  h.of (by rw [h2]; exact Int.le_refl _) (fun t ht => ⟨t, by rw [← h1]; exact ht⟩)

theorem sv_tick (h : NN G W k s) (ha : Apart s.L) : NN G W k { s with last := s.last, L := Ls.tickL s.L } ∧ (∀ r, RK G W s r → RK G W { s with last := s.last, L := Ls.tickL s.L } r) := by
  refine ⟨⟨h.w, h.items, h.nlen, h.nd, h.mlen, Nat.le_trans (List.length_filterMap_le _ _) h.llen, fun p hp => ?_, h.l0, h.l1, h.hlen⟩, fun r hr => hr.of (Int.le_refl _) (fun t ht => ?_)⟩
  · obtain ⟨q, hq, e⟩ := List.mem_filterMap.1 hp
    have := h.tick q hq
    unfold Ls.tickP at e
    split at e
    · cases e
    · cases e; simp only; omega
  · have hm := mem_of_lget ht
    obtain ⟨q, hq, e⟩ := List.mem_filterMap.1 hm
    unfold Ls.tickP at e
    split at e
    · cases e
    · obtain ⟨q1, q2, q3⟩ := q
      simp only [Option.some.injEq, Prod.mk.injEq] at e
      obtain ⟨rfl, rfl, e3⟩ := e
      exact ⟨q3, lget_of_mem ha (Ls.kS_key r.k) hq⟩

theorem sv_flush (h : NN G W k s) : NN G W k { s with kept := s.kept, N := [], last := s.last, L := [], fl := 0, H := [] } ∧ (∀ r, RK G W s r → RK G W { s with kept := s.kept, N := [], last := s.last, L := [], fl := 0, H := [] } r) :=
  ⟨⟨h.w, fun x hx => (by cases hx), Nat.zero_le _, h.nd, h.mlen, Nat.zero_le _, fun p hp => (by cases hp), h.l0, h.l1, Nat.zero_le _⟩, fun r hr => hr.of (Int.le_refl _) (fun t ht => by cases ht)⟩
theorem sv_cold (h : NN G W k s) (W0 : Nat) : NN G W k { s with fl := 0, H := [], cold := true, since := (W : Int) } ∧ (∀ r, RK G W s r → RK G W { s with fl := 0, H := [], cold := true, since := (W : Int) } r) ∧ CO G W0 W { s with fl := 0, H := [], cold := true, since := (W : Int) } :=
  ⟨⟨h.w, h.items, h.nlen, h.nd, h.mlen, h.llen, h.tick, h.l0, h.l1, Nat.zero_le _⟩, fun r hr => hr.of (Int.le_refl _) (fun t ht => ⟨t, ht⟩), rfl, W, rfl, fun j x hj hjw => by omega⟩
theorem sv_pass (h : NN G W k s) {W0 : Nat} (hc : CO G W0 W s) (ha : Apart s.H) {fl' : Int} (hf : (s.fl ≤ (W0 : Int) ∧ fl' = 0) ∨ ((W0 : Int) < s.fl ∧ fl' = s.fl)) : NN G W k { s with fl := fl', H := Hd.passL s.H (W0 : Int) } ∧ (∀ r, RK G W s r → RK G W { s with fl := fl', H := Hd.passL s.H (W0 : Int) } r) ∧ CO G W0 W { s with fl := fl', H := Hd.passL s.H (W0 : Int) } := by
  refine ⟨⟨h.w, h.items, h.nlen, h.nd, h.mlen, h.llen, h.tick, h.l0, h.l1, Nat.le_trans (List.length_filter_le _ _) h.hlen⟩, fun r hr => hr.of (Int.le_refl _) (fun t ht => ⟨t, ht⟩), hc.1, ?_⟩
  obtain ⟨_, S, h2, h3⟩ := hc
  refine ⟨S, h2, fun j x hj hjw hx => ?_⟩
  by_cases e : j + 1 ≤ W0
  · exact Or.inl e
  · rcases h3 j x hj hjw hx with h4 | h4
    · exact Or.inl h4
    · exact Or.inr (cov_pass h4 ha (Hd.kS_key _) hf (by omega))

theorem sv_warm (h : NN G W k s) {W0 : Nat} (hc : CO G W0 W s) {t : ByteArray} {v : IT} (hv : ∃ a : Nat, v.a = (a : Int) ∧ a ≤ G.length ∧ W0 ≤ a ∧ vv v = atI G t a) {sz : Int} {r : Bool} (hp : WarmR s t v sz s' r) : NN G W (k + 1) s' ∧ S4 s s' ∧ s'.L = s.L ∧ s'.last = s.last := by
  cases hp with
  | no hn => exact ⟨h.le (Nat.le_succ k), S4.refl _, rfl, rfl⟩
  | there x hf => exact ⟨h.le (Nat.le_succ k), S4.refl _, rfl, rfl⟩
  | put hcold hs ha hf s' r hp =>
    obtain ⟨a, a1, a2, a3, a4⟩ := hv
    obtain ⟨_, S, h2, h3⟩ := hc
    refine sv_put h ⟨a, a1, a2, ?_⟩ hp
    rw [a4]
    refine (atI_same (by omega) (fun j x hj hjm hx e => ?_)).symm
    have hjW : j < W := by omega
    rcases h3 j x (by omega) hjW hx with h4 | h4
    · omega
    · subst e
      have := cov_allows h4 ha
      omega

theorem sv_inval (h : NN G W k s) (hN : (s.N.map (·.k)).Nodup) (ha : Apart s.L) (hH : Apart s.H) {x : EN} (hx : G[W]? = some x) :
    NN G (W + 1) k { s with kept := s.kept, N := invN s.N x.k ((W : Int) + 1), last := s.last, L := ldel s.L (Ls.kS x.k), fl := invFl s x.k ((W : Int) + 1), H := invH s x.k ((W : Int) + 1) } ∧
    (∀ r, RK G W s r → RK G (W + 1) { s with kept := s.kept, N := invN s.N x.k ((W : Int) + 1), last := s.last, L := ldel s.L (Ls.kS x.k), fl := invFl s x.k ((W : Int) + 1), H := invH s x.k ((W : Int) + 1) } r) ∧
    (∀ W0, CO G W0 W s → CO G W0 (W + 1) { s with kept := s.kept, N := invN s.N x.k ((W : Int) + 1), last := s.last, L := ldel s.L (Ls.kS x.k), fl := invFl s x.k ((W : Int) + 1), H := invH s x.k ((W : Int) + 1) }) := by
  have hWl : W < G.length := (List.getElem?_eq_some_iff.1 hx).1
  have hsub : ∀ y ∈ invN s.N x.k ((W : Int) + 1), y ∈ s.N := by
    intro y hy
    unfold invN at hy
    split at hy
    · exact (It.dropK_mem hy).1
    · exact hy
  have hle : (invN s.N x.k ((W : Int) + 1)).length ≤ s.N.length := by
    unfold invN
    split
    · exact dropK_le
    · exact Nat.le_refl _
  have hlen := ldel_le (Ls.kS x.k) ha
  refine ⟨⟨by omega, fun y hy => ?_, by have := h.nlen; simp only; omega, h.nd, h.mlen, by have := h.llen; simp only; omega, fun p hp => h.tick p (List.mem_filter.1 hp).1, h.l0, h.l1, ?_⟩, fun r hr => ?_, fun W0 hc => ?_⟩
  · obtain ⟨a, a1, a2, a3⟩ := h.items y (hsub y hy)
    refine ⟨a, a1, a2, ?_⟩
    rw [a3]
    by_cases hbig : W + 1 ≤ a
    · rw [show max a W = max a (W + 1) by omega]
    · refine (atI_same (by omega) (fun j z hj hjm hz e => ?_)).symm
      have hjW : j = W := by omega
      subst hjW
      rw [hx] at hz
      cases hz
      -- the item of this key would be gone
      simp only at hy
      unfold invN at hy
      have hfy : It.fnd s.N x.k = some y := by
        have hmy := hsub y (by unfold invN; exact hy)
        obtain ⟨A, B, hAB⟩ := List.append_of_mem hmy
        rw [hAB] at hN ⊢
        have h4 := (It.dropK_split hN).2.2
        unfold It.fnd
        rw [List.find?_append]
        have hA : List.find? (fun q : TH => decide (q.k = x.k)) A = none := List.find?_eq_none.2 (fun q hq => by
          have := h4 q (List.mem_append.2 (Or.inl hq))
          rw [← e] at *
          simpa [e] using this)
        rw [hA]
        simp [List.find?_cons, e]
      rw [pk_some hfy] at hy
      rw [if_pos ⟨rfl, by simp only; omega⟩] at hy
      exact (It.dropK_mem hy).2 e.symm
  · unfold invH
    simp only
    split
    · exact note_len32 hH h.hlen _ _
    · exact h.hlen
  · obtain ⟨⟨a, a1, a2, a3, a4⟩, h5, h6, h7⟩ := hr
    refine ⟨⟨a, a1, a2, a3, fun t ht j z hj hjW hz => ?_⟩, h5, h6, h7⟩
    simp only at ht
    by_cases e : Ls.kS r.k = Ls.kS x.k
    · rw [e, lget_ldel_same] at ht; cases ht
    · rw [lget_ldel_other e] at ht
      by_cases hjW' : j < W
      · exact a4 t ht j z hj hjW' hz
      · have hjeq : j = W := by omega
        subst hjeq
        rw [hx] at hz
        cases hz
        exact fun e' => e (by rw [e'])
  · obtain ⟨hcold, S, h2, h3⟩ := hc
    refine ⟨hcold, S, h2, fun j z hj hjW hz => ?_⟩
    unfold invFl invH
    simp only [hcold, if_true]
    by_cases hjW' : j < W
    · exact (h3 j z hj hjW' hz).imp id (fun h4 => cov_note h4 _ _)
    · have hjeq : j = W := by omega
      subst hjeq
      rw [hx] at hz
      cases hz
      exact Or.inr (cov_self _ _ _ _ (by omega))
end
end Go.Proofs.Ytieoejilppgebaa
