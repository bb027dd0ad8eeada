/- What NodeServes carries: plain lists: the log, what a node's items, leases and tombstones are worth. -/
import Derived.Test.YtieoejilppgebaaNdMarkedQ
import Derived.Test.YtieoejilppgebaaNdK
namespace Go.Proofs.Ytieoejilppgebaa
open Go Go.RowKit Go.Maps
set_option maxRecDepth 100000

/-- An entry of the log: index, key, text. -/
structure EN where
  i : Int
  k : ByteArray
  t : ByteArray
def lastK (G : List EN) (key : ByteArray) : Option EN := G.reverse.find? (fun x => decide (x.k = key))
/-- What a key has behind the first n entries. -/
def atI (G : List EN) (key : ByteArray) (n : Nat) : IT := match lastK (G.take n) key with | some x => ⟨1, x.i, true, x.t, 0⟩ | none => ⟨0, 0, false, ⟨#[]⟩, 0⟩
/-- The value of an item, without its index. -/
def vv (x : IT) : IT := ⟨x.e, x.i, x.th, x.tx, 0⟩

theorem vv_atI (G : List EN) (key : ByteArray) (n : Nat) : vv (atI G key n) = atI G key n := by
  unfold atI
  cases lastK (G.take n) key <;> rfl
theorem lastK_snoc (G : List EN) (x : EN) (key : ByteArray) : lastK (G ++ [x]) key = if x.k = key then some x else lastK G key := by
  unfold lastK
  rw [List.reverse_append]
  by_cases h : x.k = key
  · simp [List.find?_cons, h]
  · simp [List.find?_cons, h]
theorem atI_succ {G : List EN} {n : Nat} {x : EN} (h : G[n]? = some x) (key : ByteArray) : atI G key (n + 1) = if x.k = key then ⟨1, x.i, true, x.t, 0⟩ else atI G key n := by
  obtain ⟨hl, e⟩ := List.getElem?_eq_some_iff.1 h
  unfold atI
  rw [List.take_succ_eq_append_getElem hl, e, lastK_snoc]
  by_cases hk : x.k = key
  · simp [hk]
  · simp [hk]
theorem atI_over {G : List EN} {n : Nat} (h : G.length ≤ n) (key : ByteArray) : atI G key n = atI G key G.length := by
  unfold atI
  rw [List.take_of_length_le h, List.take_of_length_le (Nat.le_refl _)]
/-- No entry of the key between two places: it has the same behind both. -/
theorem atI_same {G : List EN} {key : ByteArray} {n m : Nat} (hnm : n ≤ m) (h : ∀ j x, n ≤ j → j < m → G[j]? = some x → x.k ≠ key) : atI G key m = atI G key n := by
  induction m with
  | zero => rw [show n = 0 by omega]
  | succ m ih =>
    by_cases e : n = m + 1
    · rw [e]
    · have h1 := ih (by omega) (fun j x hj hm hx => h j x hj (by omega) hx)
      rw [← h1]
      cases hg : G[m]? with
      | none =>
        have hl := List.getElem?_eq_none_iff.1 hg
        rw [atI_over (by omega : G.length ≤ m + 1), atI_over hl]
      | some x =>
        rw [atI_succ hg, if_neg (h m x (by omega) (by omega) hg)]
theorem atI_app {G : List EN} {x : EN} {key : ByteArray} {n : Nat} (h : n ≤ G.length) : atI (G ++ [x]) key n = atI G key n := by
  unfold atI
  rw [List.take_append_of_le_length h]
theorem get_app {G : List EN} {x y : EN} {j : Nat} (h : j < G.length) : (G ++ [x])[j]? = some y ↔ G[j]? = some y := by rw [List.getElem?_append_left h]

theorem atI_ts {G : List EN} {key : ByteArray} {n : Nat} (h : ∀ x ∈ G, x.t.size ≤ 1000) : (atI G key n).tx.size ≤ 1000 := by
  unfold atI
  cases hl : lastK (G.take n) key with
  | none => exact Nat.zero_le _
  | some x =>
    have hx := List.mem_of_find?_eq_some hl
    exact h x (List.mem_of_mem_take (List.mem_reverse.1 hx))

/-! ### tombstones -/
/-- Nothing of the key below n is allowed. -/
def Cov (fl : Int) (H : HL) (q : Lit) (n : Int) : Prop := n ≤ fl ∨ ∃ m, lget H q = some m ∧ n ≤ m
theorem cov_allows {fl : Int} {H : HL} {q : Lit} {n a : Int} (h : Cov fl H q n) (ha : Hd.allowsB fl H q a = true) : n ≤ a := by
  unfold Hd.allowsB at ha
  simp only [Bool.and_eq_true, decide_eq_true_eq] at ha
  rcases h with h | ⟨m, h1, h2⟩
  · omega
  · rw [h1] at ha
    simp only [decide_eq_true_eq] at ha
    omega
theorem cov_self (fl : Int) (H : HL) (s : ByteArray) (i : Int) (hi : 1 ≤ i) : Cov (Hd.noteFl 32 fl H (Hd.kS s) i) (Hd.noteL 32 H (Hd.kS s) i) (Hd.kS s) i := by
  unfold Hd.noteFl Hd.noteL
  have hi' : ¬ i < 1 := by omega
  simp only [if_neg hi']
  cases hg : lget H (Hd.kS s) with
  | some n => exact Or.inr ⟨max n i, lget_lput_same (Hd.kS_key s), by omega⟩
  | none =>
    simp only
    split
    · exact Or.inr ⟨max 0 i, lget_lput_same (Hd.kS_key s), by omega⟩
    · exact Or.inl (by omega)
theorem cov_note {fl : Int} {H : HL} {q : Lit} {n : Int} (h : Cov fl H q n) (s : ByteArray) (i : Int) : Cov (Hd.noteFl 32 fl H (Hd.kS s) i) (Hd.noteL 32 H (Hd.kS s) i) q n := by
  unfold Hd.noteFl Hd.noteL
  by_cases hi : i < 1
  · simp only [if_pos hi]; exact h
  simp only [if_neg hi]
  cases hg : lget H (Hd.kS s) with
  | some m =>
    simp only
    rcases h with h | ⟨m', h1, h2⟩
    · exact Or.inl h
    · by_cases e : q = Hd.kS s
      · subst e
        rw [hg] at h1
        cases h1
        exact Or.inr ⟨max m i, lget_lput_same (Hd.kS_key s), by omega⟩
      · exact Or.inr ⟨m', by rw [lget_lput_other e]; exact h1, h2⟩
  | none =>
    simp only
    split
    · rcases h with h | ⟨m', h1, h2⟩
      · exact Or.inl h
      · by_cases e : q = Hd.kS s
        · subst e; rw [hg] at h1; cases h1
        · exact Or.inr ⟨m', by rw [lget_lput_other e]; exact h1, h2⟩
    · rcases h with h | h
      · exact Or.inl (by omega)
      · exact Or.inr h
theorem cov_pass {fl fl' : Int} {H : HL} {q : Lit} {n i : Int} (h : Cov fl H q n) (ha : Apart H) (hq : WideAt.IsKeyLit q) (hf : (fl ≤ i ∧ fl' = 0) ∨ (i < fl ∧ fl' = fl)) (hi : i < n) : Cov fl' (Hd.passL H i) q n := by
  rcases h with h | ⟨m, h1, h2⟩
  · rcases hf with ⟨h3, h4⟩ | ⟨h3, rfl⟩
    · omega
    · exact Or.inl h
  · refine Or.inr ⟨m, ?_, h2⟩
    have hm : (q, m) ∈ Hd.passL H i := List.mem_filter.2 ⟨mem_of_lget h1, by simp; omega⟩
    have ha' : Apart (Hd.passL H i) := List.Pairwise.sublist List.filter_sublist ha
    exact lget_of_mem ha' hq hm
theorem note_len32 {H : HL} (ha : Apart H) (h : H.length ≤ 32) (s : ByteArray) (i : Int) : (Hd.noteL 32 H (Hd.kS s) i).length ≤ 32 := by
  unfold Hd.noteL
  split
  · exact h
  · cases hg : lget H (Hd.kS s) with
    | some m =>
      simp only
      rw [length_lput ha, hg]
      exact h
    | none =>
      simp only
      split
      · rename_i hl
        rw [length_lput ha, hg]
        simp only [Option.isSome_none, Bool.false_eq_true, if_false]
        omega
      · exact h

/-! ### one node over the log G, whose entries up to W are invalidated -/
def IOK (G : List EN) (W : Nat) (x : TH) : Prop := ∃ a : Nat, x.v.a = (a : Int) ∧ a ≤ G.length ∧ vv x.v = atI G x.k (max a W)
structure NN (G : List EN) (W : Nat) (k : Nat) (s : NS) : Prop where
  w : W ≤ G.length
  items : ∀ x ∈ s.N, IOK G W x
  nlen : s.N.length ≤ k
  nd : s.M.Nodup
  mlen : s.M.length ≤ 32
  llen : s.L.length ≤ k
  tick : ∀ p ∈ s.L, 1 ≤ p.2.2 ∧ p.2.2 ≤ 10
  l0 : 0 ≤ s.last
  l1 : s.last ≤ (k : Int)
  hlen : s.H.length ≤ 32
/-- What was read for a Fill. -/
structure RR where
  who : Int
  a : Int
  k : ByteArray
  tok : Int
  v : IT
/-- As long as a read's lease lives, its key had no entry since. -/
structure RK (G : List EN) (W : Nat) (s : NS) (r : RR) : Prop where
  a0 : ∃ a : Nat, r.a = (a : Int) ∧ a ≤ G.length ∧ vv r.v = atI G r.k a ∧ (∀ t, lget s.L (Ls.kS r.k) = some (r.tok, t) → ∀ j x, a ≤ j → j < W → G[j]? = some x → x.k ≠ r.k)
  tok : r.tok ≤ s.last
  ks : r.k.size ≤ 1000
  ts : r.v.tx.size ≤ 1000

section
variable {G : List EN} {W k : Nat} {s s' : NS}
theorem NN.le (h : NN G W k s) {k' : Nat} (hk : k ≤ k') : NN G W k' s :=
  ⟨h.w, h.items, by have := h.nlen; omega, h.nd, h.mlen, by have := h.llen; omega, h.tick, h.l0, by have := h.l1; omega, h.hlen⟩
theorem IOK.app {x : TH} (h : IOK G W x) (hw : W ≤ G.length) (e : EN) : IOK (G ++ [e]) W x := by
  obtain ⟨a, h1, h2, h3⟩ := h
  exact ⟨a, h1, by simp; omega, by rw [h3, atI_app (by omega)]⟩
theorem NN.app (h : NN G W k s) (e : EN) : NN (G ++ [e]) W k s :=
  ⟨by have := h.w; simp; omega, fun x hx => (h.items x hx).app h.w e, h.nlen, h.nd, h.mlen, h.llen, h.tick, h.l0, h.l1, h.hlen⟩
theorem RK.app {r : RR} (h : RK G W s r) (hw : W ≤ G.length) (e : EN) : RK (G ++ [e]) W s r := by
  obtain ⟨⟨a, h1, h2, h3, h4⟩, h5, h6, h7⟩ := h
  exact ⟨⟨a, h1, by simp; omega, by rw [h3, atI_app h2], fun t ht j x hj hjw hx => h4 t ht j x hj hjw ((get_app (by omega)).1 hx)⟩, h5, h6, h7⟩
/-- A read stays what it is where the leases of its key stay or go. -/
theorem RK.of {r : RR} (h : RK G W s r) (hl : s.last ≤ s'.last) (hL : ∀ t, lget s'.L (Ls.kS r.k) = some (r.tok, t) → ∃ t', lget s.L (Ls.kS r.k) = some (r.tok, t')) : RK G W s' r := by
  obtain ⟨⟨a, h1, h2, h3, h4⟩, h5, h6, h7⟩ := h
  exact ⟨⟨a, h1, h2, h3, fun t ht => by obtain ⟨t', ht'⟩ := hL t ht; exact h4 t' ht'⟩, Int.le_trans h5 hl, h6, h7⟩
end
end Go.Proofs.Ytieoejilppgebaa
