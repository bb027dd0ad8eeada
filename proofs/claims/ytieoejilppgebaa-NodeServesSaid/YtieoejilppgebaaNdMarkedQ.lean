/- What NodeMarked carries: plain lists. -/
import Derived.Test.YtieoejilppgebaaNdH
namespace Go.Proofs.Ytieoejilppgebaa
open Go Go.RowKit Go.Maps
set_option maxRecDepth 100000

theorem fnd_cons_ne {N : List TH} {x : TH} {key : ByteArray} (h : x.k ≠ key) : It.fnd (x :: N) key = It.fnd N key := by
  have : decide (x.k = key) = false := decide_eq_false h
  simp [It.fnd, List.find?_cons, this]
theorem fnd_cons_eq {N : List TH} {x : TH} {key : ByteArray} (h : x.k = key) : It.fnd (x :: N) key = some x := by simp [It.fnd, List.find?_cons, h]
theorem fnd_drop_ne {N : List TH} {t key : ByteArray} (h : t ≠ key) : It.fnd (It.dropK N t) key = It.fnd N key := by
  induction N with
  | nil => rfl
  | cons x N ih =>
    by_cases e : x.k = t
    · have h1 : It.dropK (x :: N) t = It.dropK N t := by simp [It.dropK, List.filter_cons, e]
      rw [h1, ih, fnd_cons_ne (by rw [e]; exact h)]
    · have h1 : It.dropK (x :: N) t = x :: It.dropK N t := by simp [It.dropK, List.filter_cons, e]
      rw [h1]
      by_cases e2 : x.k = key
      · rw [fnd_cons_eq e2, fnd_cons_eq e2]
      · rw [fnd_cons_ne e2, fnd_cons_ne e2, ih]
theorem fnd_mem {N : List TH} {key : ByteArray} {x : TH} (h : It.fnd N key = some x) : x ∈ N := List.mem_of_find?_eq_some h
theorem fnd_key {N : List TH} {key : ByteArray} {x : TH} (h : It.fnd N key = some x) : x.k = key := (It.fnd_split h).1
theorem dropK_le {N : List TH} {key : ByteArray} : (It.dropK N key).length ≤ N.length := List.length_filter_le _ _
theorem dropK_lt {N : List TH} {key : ByteArray} {x : TH} (h : It.fnd N key = some x) : (It.dropK N key).length + 1 ≤ N.length := by
  have h1 := fnd_mem h
  have h2 := fnd_key h
  unfold It.dropK
  induction N with
  | nil => cases h1
  | cons y N ih =>
    by_cases e : y.k = key
    · have : List.filter (fun x => decide (x.k ≠ key)) (y :: N) = List.filter (fun x => decide (x.k ≠ key)) N := by simp [List.filter_cons, e]
      rw [this]
      simp only [List.length_cons]
      exact Nat.succ_le_succ (List.length_filter_le _ _)
    · have h3 := fnd_cons_ne (N := N) e
      rw [h3] at h
      have h4 := ih h (fnd_mem h)
      have : List.filter (fun x => decide (x.k ≠ key)) (y :: N) = y :: List.filter (fun x => decide (x.k ≠ key)) N := by simp [List.filter_cons, e]
      rw [this]
      simp only [List.length_cons]
      exact Nat.succ_le_succ h4
theorem wayJ_all {lim : Int} {N : List TH} (h : It.sumS N ≤ lim) : It.wayJ lim N N.length = N.length := by
  cases N with
  | nil => rfl
  | cons x N =>
    rw [List.length_cons]
    unfold It.wayJ
    rw [if_neg (by rw [show (x :: N).take (N.length + 1) = x :: N from by simp]; omega)]
theorem take_all {lim : Int} {N : List TH} (h : It.sumS N ≤ lim) : N.take (It.wayJ lim N N.length) = N := by rw [wayJ_all h, List.take_length]

abbrev tX : ByteArray := ⟨#[120]⟩
/-- What a step leaves true: k fills at most. -/
structure MI (key : ByteArray) (se : Int) (k : Nat) (s : NS) : Prop where
  M : s.M = [(key, se, 5)]
  room : s.room = 100000
  kept : s.kept = (key.size : Int) + 32
  len : s.N.length ≤ k + 1
  big : ∀ y ∈ s.N, y.s ≤ 2032
  has : ∃ x, It.fnd s.N key = some x ∧ x.v.tx = tX ∧ x.v.a = 1
  L : s.L.length ≤ k + 1
  l0 : 0 ≤ s.last
  l1 : s.last ≤ (k : Int) + 2

section
variable {key : ByteArray} {se : Int} {k : Nat} {s s1 s2 : NS}
theorem MI.has_eq (h : MI key se k s) (t : ByteArray) : decide (∃ x ∈ s.M, x.1 = t) = decide (key = t) := by
  rw [h.M]
  simp
theorem MI.sum (h : MI key se k s) (hk : k ≤ 40) : It.sumS s.N ≤ 83312 := by
  have h1 := sumS_le h.big (by decide)
  have h2 := h.len
  omega

/-- Of the leases behind a Grant. -/
theorem grant_len {last : Int} {L : LL} {q : Lit} {v : Int} {ok : Bool} {last' : Int} {L' : LL} (h : Ls.grantR 32 10 last L q = (v, ok, last', L')) (ha : Apart L) : L'.length ≤ L.length + 1 ∧ last ≤ last' ∧ last' ≤ last + 1 := by
  unfold Ls.grantR at h
  split at h
  · cases h; omega
  · cases hg : lget L q with
    | some x => rw [hg] at h; cases h; omega
    | none =>
      rw [hg] at h
      cases h
      have := length_lput (k := q) (v := (last + 1, (10 : Int))) ha
      rw [hg] at this
      simp at this
      omega
theorem mi_get (h : MI key se k s) (ha : Apart s.L) {t : ByteArray} (ht : t ≠ key) {v : Value} (hg : GetV s t s1 v) : ∃ (kd : Int) (xv : IT) (tok : Int), v = ansV kd xv tok ∧ (kd == 2) = false ∧ MI key se k { s1 with L := [], last := 0 } ∧ s1.L.length ≤ k + 2 ∧ 0 ≤ s1.last ∧ s1.last ≤ (k : Int) + 3 := by
  have hne : decide (key = t) = false := decide_eq_false (fun e => ht e.symm)
  cases hg with
  | marked hm => rw [h.has_eq, hne] at hm; cases hm
  | hit hm x hf =>
    refine ⟨1, x.v, 0, rfl, rfl, ⟨h.M, h.room, h.kept, ?_, ?_, ?_, Nat.zero_le _, Int.le_refl _, by simp only; omega⟩, by have := h.L; simp only; omega, h.l0, by have := h.l1; simp only; omega⟩
    · have := dropK_lt hf
      have := h.len
      simp only [List.length_cons]
      omega
    · intro y hy
      rcases List.mem_cons.1 hy with rfl | hy
      · exact h.big _ (fnd_mem hf)
      · exact h.big _ (It.dropK_mem hy).1
    · obtain ⟨z, hz, h1, h2⟩ := h.has
      refine ⟨z, ?_, h1, h2⟩
      show It.fnd (x :: It.dropK s.N t) key = some z
      rw [fnd_cons_ne (by rw [fnd_key hf]; exact ht), fnd_drop_ne ht]
      exact hz
  | miss hm hf v ok last' L' hr =>
    obtain ⟨g1, g2, g3⟩ := grant_len hr ha
    have := h.L
    have := h.l0
    have := h.l1
    exact ⟨3, ⟨0, 0, false, ⟨#[]⟩, 0⟩, v, rfl, rfl, ⟨h.M, h.room, h.kept, h.len, h.big, h.has, Nat.zero_le _, Int.le_refl _, by simp only; omega⟩, by simp only; omega, by simp only; omega, by simp only; omega⟩

theorem mi_put (h : MI key se k { s1 with L := [], last := 0 }) (hk : k ≤ 40) {t : ByteArray} (ht : t ≠ key) (hts : t.size ≤ 1000) (hks : key.size ≤ 1000) {v : IT} (hv : v.tx = t) {sz : Int} (hsz : (t.size : Int) + (v.tx.size : Int) + 32 = sz) {r : Bool} (hp : PutR s1 t v sz s2 r) :
    MI key se (k + 1) { s2 with L := [], last := 0 } ∧ s2.L = s1.L ∧ s2.last = s1.last := by
  have hM := h.M
  have hr := h.room
  have hkp := h.kept
  have hN : s1.N.length ≤ k + 1 := h.len
  have hbig : ∀ y ∈ s1.N, y.s ≤ 2032 := h.big
  have hh : ∃ x, It.fnd s1.N key = some x ∧ x.v.tx = tX ∧ x.v.a = 1 := h.has
  rw [hv] at hsz
  cases hp with
  | old xv ok hp hok ha => exact ⟨⟨h.M, h.room, h.kept, by simp only; omega, h.big, h.has, Nat.zero_le _, Int.le_refl _, by simp only; omega⟩, rfl, rfl⟩
  | no xv ok hp hok hn =>
    refine ⟨⟨h.M, h.room, h.kept, ?_, fun y hy => hbig _ (It.dropK_mem hy).1, ?_, Nat.zero_le _, Int.le_refl _, by simp only; omega⟩, rfl, rfl⟩
    · have := dropK_le (N := s1.N) (key := t)
      simp only
      omega
    · obtain ⟨z, hz, h1, h2⟩ := hh
      exact ⟨z, by show It.fnd (It.dropK s1.N t) key = some z; rw [fnd_drop_ne ht]; exact hz, h1, h2⟩
  | new xv ok hp hok hn xb M hM' =>
    have hs2 : It.sumS (It.dropK s1.N t) ≤ 2032 * (It.dropK s1.N t).length := sumS_le (fun y hy => hbig _ (It.dropK_mem hy).1) (by decide)
    have hd := dropK_le (N := s1.N) (key := t)
    have hr' : s1.room = 100000 := hr
    have hk' : s1.kept = (key.size : Int) + 32 := hkp
    have hall : M = It.dropK s1.N t := by
      rw [← hM']
      exact take_all (by omega)
    subst hall
    refine ⟨⟨h.M, h.room, h.kept, ?_, ?_, ?_, Nat.zero_le _, Int.le_refl _, by simp only; omega⟩, rfl, rfl⟩
    · simp only [List.length_cons]
      omega
    · intro y hy
      rcases List.mem_cons.1 hy with rfl | hy
      · simp only; omega
      · exact hbig _ (It.dropK_mem hy).1
    · obtain ⟨z, hz, h1, h2⟩ := hh
      refine ⟨z, ?_, h1, h2⟩
      show It.fnd (_ :: It.dropK s1.N t) key = some z
      rw [fnd_cons_ne ht, fnd_drop_ne ht]
      exact hz
theorem ldel_le {L : LL} (q : Lit) (ha : Apart L) : (ldel L q).length ≤ L.length := by
  have := length_ldel q ha
  omega
theorem mi_fill (h : MI key se k { s1 with L := [], last := 0 }) (ha : Apart s1.L) (hL : s1.L.length ≤ k + 2) (h0 : 0 ≤ s1.last) (h1 : s1.last ≤ (k : Int) + 3) (hk : k ≤ 40) {t : ByteArray} (ht : t ≠ key) (hts : t.size ≤ 1000) (hks : key.size ≤ 1000) {tok : Int} {v : IT} (hv : v.tx = t) {sz : Int} (hsz : (t.size : Int) + (v.tx.size : Int) + 32 = sz) {r : Bool} (hp : FillR s1 t tok v sz s2 r) : MI key se (k + 1) s2 := by
  cases hp with
  | no hu => exact ⟨h.M, h.room, h.kept, by have : s1.N.length ≤ k + 1 := h.len; omega, h.big, h.has, by omega, h0, by omega⟩
  | yes hu s' r hp =>
    have hl := ldel_le (Ls.kS t) ha
    obtain ⟨q, e1, e2⟩ := mi_put (s1 := { s1 with last := s1.last, L := ldel s1.L (Ls.kS t) }) (s2 := s2) h hk ht hts hks hv hsz hp
    exact ⟨q.M, q.room, q.kept, q.len, q.big, q.has, by rw [e1]; simp only; omega, by rw [e2]; exact h0, by rw [e2]; simp only; omega⟩
theorem MI.le (h : MI key se k s) : MI key se (k + 1) s := ⟨h.M, h.room, h.kept, by have := h.len; omega, h.big, h.has, by have := h.L; omega, h.l0, by have := h.l1; omega⟩
theorem get_total (s : NS) (t : ByteArray) : ∃ s' v, GetV s t s' v := by
  cases hm : decide (∃ x ∈ s.M, x.1 = t) with
  | true => exact ⟨_, _, .marked hm⟩
  | false =>
    cases hf : It.fnd s.N t with
    | some x => exact ⟨_, _, .hit hm x hf⟩
    | none =>
      obtain ⟨⟨v, ok, last', L'⟩, hr⟩ : ∃ p, Ls.grantR 32 10 s.last s.L (Ls.kS t) = p := ⟨_, rfl⟩
      exact ⟨_, _, .miss hm hf v ok last' L' hr⟩
theorem MI.nPk (h : MI key se k s) : nPk s key = (⟨0, 0, false, ⟨#[]⟩, 0⟩, false) := nPk_mark (by rw [h.has_eq]; simp)
theorem MI.not_in (h : MI key se k s) (t : ByteArray) (n : Int) (hn : n < 5) : (t, se, n) ∉ s.M := by
  rw [h.M]
  simp
  intro _ e
  omega
end
end Go.Proofs.Ytieoejilppgebaa
