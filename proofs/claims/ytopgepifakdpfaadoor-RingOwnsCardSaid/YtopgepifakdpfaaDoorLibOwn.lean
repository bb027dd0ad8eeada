/- Laws of a slice that the call itself made, read as a list of elements. -/
import Derived.Test.YtopgepifakdpfaaDoorLibMap
import Derived.Laws.OwnMore
import Derived.OwnWalk
import Derived.Laws.AppendOwnNone
namespace Go.Proofs.YtopgepifakdpfaaDoor
open Go Go.RowKit Go.Maps

variable {α : Type}

theorem flat_get {enc : α → List Value} {size : Nat} (henc : ∀ x, (enc x).length = size) : ∀ (N : List α) (j i : Nat) (x : α), N[j]? = some x → i < size → (N.flatMap enc)[j * size + i]? = (enc x)[i]?
  | [], j, i, x, h, _ => by simp at h
  | y :: N, 0, i, x, h, hi => by
    simp at h; subst h
    simp only [List.flatMap_cons, Nat.zero_mul, Nat.zero_add]
    rw [List.getElem?_append_left (by rw [henc]; exact hi)]
  | y :: N, j + 1, i, x, h, hi => by
    have ih := flat_get henc N j i x (by simpa using h) hi
    simp only [List.flatMap_cons]
    rw [List.getElem?_append_right (by rw [henc, Nat.succ_mul]; omega), henc, ← ih]
    congr 1
    rw [Nat.succ_mul]; omega

theorem flat_len {enc : α → List Value} {size : Nat} (henc : ∀ x, (enc x).length = size) (N : List α) : (N.flatMap enc).length = N.length * size := by
  induction N with
  | nil => simp
  | cons x N ih => simp [ih, henc, Nat.succ_mul]; omega

theorem Keep.some {S : Nat → Prop} {w w' : World} (hk : Keep S w w') {p : Addr} {u : Value} (h : w.cell? p = some u) (hs : ¬ S p.block) : w'.cell? p = some u := (hk.cell (World.block_lt_of_cell? w p h) hs).trans h

/-- The slice v, whose row is one of the call's own blocks (from number B on), reads as the list N. -/
def Own (w : World) (B : Nat) (e : TypeId) (size : Nat) (enc : α → List Value) (v : Value) (N : List α) : Prop := w.ownsRow B e size v N.length (N.flatMap enc)

section
variable {w w' : World} {B : Nat} {e : TypeId} {size : Nat} {enc : α → List Value} {v : Value} {N : List α}

theorem Own.nil (w : World) (B : Nat) (e : TypeId) (size : Nat) (enc : α → List Value) : Own w B e size enc (.slice none 0 0) [] := World.ownsRow_nil w B e size
theorem Own.fresh (h : Own w B e size enc v N) : ∀ g, v.ownBlock = some g → B ≤ g := fun g hg => (World.ownsRow.lt h g hg).1
theorem Own.lt (h : Own w B e size enc v N) : ∀ g, v.ownBlock = some g → g < w.heap.size := fun g hg => (World.ownsRow.lt h g hg).2
theorem Own.keep {S : Nat → Prop} (h : Own w B e size enc v N) (hk : Keep S w w') (hS : ∀ g, v.ownBlock = some g → ¬ S g) : Own w' B e size enc v N := by
  refine ⟨h.1, ?_⟩
  rcases h.2 with hn | ⟨g, cap, cur, rfl, hb, hg, rest⟩
  · exact .inl hn
  · exact .inr ⟨g, cap, cur, rfl, hb, blk_keep hg hk (hS g rfl), rest⟩
theorem Own.mono {B' : Nat} (h : Own w B e size enc v N) (hB : B' ≤ B) : Own w B' e size enc v N := by
  refine ⟨h.1, ?_⟩
  rcases h.2 with hn | ⟨g, cap, cur, rfl, hb, rest⟩
  · exact .inl hn
  · exact .inr ⟨g, cap, cur, rfl, Nat.le_trans hB hb, rest⟩
theorem Own.alloc (h : Own w B e size enc v N) (o : Obj) : Own (w.alloc o) B e size enc v N := World.ownsRow.alloc h o
theorem Own.shape (h : Own w B e size enc v N) : ∃ a cap, v = .slice a N.length cap := by
  rcases h.2 with ⟨rfl, hn⟩ | ⟨g, cap, cur, rfl, _⟩
  · exact ⟨none, 0, by rw [hn]⟩
  · exact ⟨_, _, rfl⟩
/-- Its row is no block of another element type. -/
theorem Own.ne (h : Own w B e size enc v N) {b : Nat} {c : Array Value} {t : TypeId} {f : Nat × Nat} (hb : w.heap[b]? = some (.cells c t f)) (ht : e ≠ t) : ∀ g, v.ownBlock = some g → g ≠ b := by
  rcases h.2 with ⟨rfl, _⟩ | ⟨g', cap, cur, rfl, _, hg, _⟩
  · intro g hg; simp [Value.ownBlock] at hg
  · intro g hv e'
    simp [Value.ownBlock] at hv
    subst hv e'
    rw [hg] at hb
    cases hb
    exact ht rfl
theorem Own.ne_map {P : Program} {kt : TypeId} {β : Type} {enc' : β → Value} {L : List (Lit × β)} {b : Nat} (h : Own w B e size enc v N) (hm : MapAt P kt enc' w b L) : ∀ g, v.ownBlock = some g → g ≠ b := by
  obtain ⟨es, clock, hb, _⟩ := hm
  rcases h.2 with ⟨rfl, _⟩ | ⟨g', cap, cur, rfl, _, hg, _⟩
  · intro g hg; simp [Value.ownBlock] at hg
  · intro g hv e'
    simp [Value.ownBlock] at hv
    subst hv e'
    rw [hg] at hb
    cases hb
theorem Own.ne_own {B' : Nat} {e' : TypeId} {size' : Nat} {β : Type} {enc' : β → List Value} {v' : Value} {N' : List β} (h : Own w B e size enc v N) (h' : Own w B' e' size' enc' v' N') (he : e ≠ e') : ∀ g, v.ownBlock = some g → v'.ownBlock ≠ some g := by
  intro g hg hg'
  rcases h'.2 with ⟨rfl, _⟩ | ⟨g', cap, cur, rfl, _, hb, _⟩
  · simp [Value.ownBlock] at hg'
  · simp [Value.ownBlock] at hg'
    subst hg'
    exact h.ne hb he _ hg rfl
/-- Its cells. -/
theorem Own.cells (h : Own w B e size enc v N) (henc : ∀ x, (enc x).length = size) {j : Nat} {x : α} (hx : N[j]? = some x) :
    ∃ g cap, v = .slice (some ⟨g, 0, none⟩) N.length cap ∧ B ≤ g ∧ g < w.heap.size ∧ ∀ i u, (enc x)[i]? = some u → w.cell? ⟨g, j * size + i, none⟩ = some u := by
  rcases h.2 with ⟨rfl, hn⟩ | ⟨g, cap, cur, rfl, hb, hg, hnc, hcm, hcs, htake⟩
  · have := (List.getElem?_eq_some_iff.1 hx).1; omega
  · refine ⟨g, cap, rfl, hb, blk_lt hg, ?_⟩
    intro i u hu
    have hi : i < size := by rw [← henc x]; exact (List.getElem?_eq_some_iff.1 hu).1
    rw [← flat_get henc N j i x hx hi, ← htake, List.getElem?_take] at hu
    split at hu
    · rw [blk_cell hg]; simpa using hu
    · cases hu
theorem Own.free (h : Own w B e size enc v N) {g j : Nat} (hg : v.ownBlock = some g) : w.frozen? ⟨g, j, none⟩ = false := by
  rcases h.2 with ⟨rfl, hn⟩ | ⟨g', cap, cur, rfl, hb, hgg, _⟩
  · simp [Value.ownBlock] at hg
  · simp [Value.ownBlock] at hg
    subst hg
    exact blk_free hgg j
end

section
variable {P : Program} {w : World} {ops : Array Oper} {rest : List Oper} {o : Oper} {a : Act} {Q : Exit → Act → World → Prop}

/-- 's = append(s, x)' of one element, s the call's own: it may grow. -/
theorem wpList_append_one (hgd : o.guard = none) (s x : Operand) (t : TypeId) (ho : o.op = .call { callee := .builtin .append, args := #[s, x], argTypes := #[t, t] })
    {e : TypeId} {z : Value} {size bytes : Nat} (ht : P.underlying t = some (.slice e)) (hinfo : (P.info? e).map (fun i => (i.zero, i.size, i.bytes)) = some (some z, size, bytes)) (hzs : z.cells.size = size) (hsz : 0 < size) (hb0 : 0 < bytes)
    {B : Nat} {enc : α → List Value} {v : Value} {N : List α} (hs : a.eval s = v) (hown : Own w B e size enc v N) (henc : ∀ x, (enc x).length = size)
    (y : α) {nb : Nat} {c : Array Value} {t' : TypeId} {f : Nat × Nat} (hx : a.eval x = .slice (some ⟨nb, 0, none⟩) 1 1) (hblk : w.heap[nb]? = some (.cells c t' f)) (hc : c.toList = enc y) (h1 : ∀ u ∈ enc y, u.oneCell' = true)
    (hbytes : (N.length + 1) * bytes ≤ 140737488355328) (hbase : B ≤ w.heap.size) {N' : List α} (hN' : N ++ [y] = N')
    (h : ∀ a' cap' w', Own w' B e size enc (.slice a' N'.length cap') N' → Keep (fun g => v.ownBlock = some g) w w' → wpList P ops Q rest (a.put o.dst (.slice a' N'.length cap')) w') : wpList P ops Q (o :: rest) a w := by
  subst hN'
  obtain ⟨i, hi, hz, hs1, hs2⟩ := info_parts hinfo
  have hm : N.length + 1 ≤ maxLen := by
    have : N.length + 1 ≤ (N.length + 1) * bytes := Nat.le_mul_of_pos_right _ hb0
    unfold maxLen; omega
  refine wpList_append_own w hgd s x t ho B e i z size bytes ht hi hz hs1 hs2 hzs hsz v N.length (N.flatMap enc) hs hown ⟨nb, 0, none⟩ 1 1 (enc y) hx (by rw [henc, Nat.one_mul]) ?_ h1 hm hbytes hbase ?_
  · intro j u hu
    have hadd : (⟨nb, 0, none⟩ : Addr).add j = ⟨nb, j, none⟩ := by unfold Addr.add; split <;> simp_all
    rw [hadd, blk_cell hblk, ← hu, ← hc]
    simp
  · intro v' w' ho' hg' _
    have hO : Own w' B e size enc v' (N ++ [y]) := by
      have : w'.ownsRow B e size v' (N ++ [y]).length ((N ++ [y]).flatMap enc) := by simpa using ho'
      exact this
    obtain ⟨a', cap', rfl⟩ := hO.shape
    exact h a' cap' w' hO (Keep.of_grown hg' (fun k hk => hk))
end

theorem oneCells {enc : α → List Value} (h : ∀ x, ∀ u ∈ enc x, u.oneCell' = true) (M : List α) : ∀ u ∈ M.flatMap enc, u.oneCell' = true := by
  intro u hu
  obtain ⟨x, _, hx⟩ := List.mem_flatMap.1 hu
  exact h x u hx

/-- Its cells from element i on. -/
theorem Own.from {w : World} {B : Nat} {e : TypeId} {size : Nat} {enc : α → List Value} {g n cap : Nat} {N : List α} (h : Own w B e size enc (.slice (some ⟨g, 0, none⟩) n cap) N) (henc : ∀ x, (enc x).length = size) (i : Nat) :
    ∀ j u, ((N.drop i).flatMap enc)[j]? = some u → w.cell? ((⟨g, i * size, none⟩ : Addr).add j) = some u := by
  intro j u hu
  have hadd : (⟨g, i * size, none⟩ : Addr).add j = ⟨g, i * size + j, none⟩ := by unfold Addr.add; split <;> simp_all
  have hfull : (N.flatMap enc)[i * size + j]? = some u := by
    by_cases hi : i ≤ N.length
    · rw [← hu]
      conv => lhs; rw [← List.take_append_drop i N, List.flatMap_append]
      rw [List.getElem?_append_right (by rw [flat_len henc, List.length_take]; rw [Nat.min_eq_left hi]; omega), flat_len henc, List.length_take, Nat.min_eq_left hi]
      congr 1
      omega
    · rw [List.drop_eq_nil_of_le (by omega)] at hu; simp at hu
  have hlt : i * size + j < N.length * size := by rw [← flat_len henc]; exact (List.getElem?_eq_some_iff.1 hfull).1
  rcases h.2 with ⟨h', _⟩ | ⟨g', cap', cur, h', hb, hg, hnc, hcm, hcs, htake⟩
  · cases h'
  · cases h'
    rw [hadd, blk_cell hg]
    rw [← htake, List.getElem?_take_of_lt hlt] at hfull
    simpa using hfull

/-- An empty slice that is not nil. -/
theorem Own.empty (w : World) {B : Nat} (hB : B ≤ w.heap.size) (e : TypeId) (size : Nat) (enc : α → List Value) : Own (w.alloc (.cells #[] e)) B e size enc (.slice (some ⟨w.heap.size, 0, none⟩) 0 0) [] :=
  World.ownsRow_made w #[] 0 hB (Nat.zero_le _) (by simp)

theorem Own.room {w : World} {B : Nat} {e : TypeId} {size : Nat} {enc : α → List Value} {a : Option Addr} {n cap : Nat} {N : List α} (h : Own w B e size enc (.slice a n cap) N) : n = N.length ∧ n ≤ cap ∧ cap ≤ maxLen := by
  rcases h.2 with ⟨h', hn⟩ | ⟨g, cap', cur, h', hb, hg, hnc, hcm, _⟩
  · cases h'
    exact ⟨hn.symm, Nat.le_refl _, Nat.zero_le _⟩
  · cases h'
    exact ⟨rfl, hnc, hcm⟩
theorem Own.some {w : World} {B : Nat} {e : TypeId} {size : Nat} {enc : α → List Value} {a : Option Addr} {n cap : Nat} {N : List α} (h : Own w B e size enc (.slice a n cap) N) (hn : N ≠ []) : ∃ g, a = some ⟨g, 0, none⟩ ∧ B ≤ g ∧ g < w.heap.size := by
  rcases h.2 with ⟨h', hn'⟩ | ⟨g, cap', cur, h', hb, hg, hnc, hcm, _⟩
  · exact absurd (List.eq_nil_of_length_eq_zero hn') hn
  · cases h'
    exact ⟨g, rfl, hb, blk_lt hg⟩

section
variable {P : Program} {w : World} {ops : Array Oper} {rest : List Oper} {o : Oper} {a : Act} {Q : Exit → Act → World → Prop}

/-- 's = append(s, x...)', s the call's own, x read as the list M: it may grow. -/
theorem wpList_append_list (hgd : o.guard = none) (s x : Operand) (t : TypeId) (ho : o.op = .call { callee := .builtin .append, args := #[s, x], argTypes := #[t, t] })
    {e : TypeId} {z : Value} {size bytes : Nat} (ht : P.underlying t = some (.slice e)) (hinfo : (P.info? e).map (fun i => (i.zero, i.size, i.bytes)) = some (some z, size, bytes)) (hzs : z.cells.size = size) (hsz : 0 < size) (hb0 : 0 < bytes)
    {B : Nat} {enc : α → List Value} {v : Value} {N : List α} (hs : a.eval s = v) (hown : Own w B e size enc v N) (henc : ∀ x, (enc x).length = size) (h1 : ∀ x, ∀ u ∈ enc x, u.oneCell' = true)
    (M : List α) {ad : Addr} {m c : Nat} (hx : a.eval x = .slice (some ad) m c) (hm : m = M.length) (hnews : ∀ j u, (M.flatMap enc)[j]? = some u → w.cell? (ad.add j) = some u)
    (hbytes : (N.length + M.length) * bytes ≤ 140737488355328) (hbase : B ≤ w.heap.size) {N' : List α} (hN' : N ++ M = N')
    (h : ∀ a' cap' w', Own w' B e size enc (.slice a' N'.length cap') N' → Keep (fun g => v.ownBlock = some g) w w' → wpList P ops Q rest (a.put o.dst (.slice a' N'.length cap')) w') : wpList P ops Q (o :: rest) a w := by
  subst hN' hm
  obtain ⟨i, hi, hz, hs1, hs2⟩ := info_parts hinfo
  have hm : N.length + M.length ≤ maxLen := by
    have : N.length + M.length ≤ (N.length + M.length) * bytes := Nat.le_mul_of_pos_right _ hb0
    unfold maxLen; omega
  refine wpList_append_own w hgd s x t ho B e i z size bytes ht hi hz hs1 hs2 hzs hsz v N.length (N.flatMap enc) hs hown ad M.length c (M.flatMap enc) hx (flat_len henc M) hnews (oneCells h1 M) hm hbytes hbase ?_
  intro v' w' ho' hg' _
  have hO : Own w' B e size enc v' (N ++ M) := by
    have : w'.ownsRow B e size v' (N ++ M).length ((N ++ M).flatMap enc) := by simpa using ho'
    exact this
  obtain ⟨a', cap', rfl⟩ := hO.shape
  exact h a' cap' w' hO (Keep.of_grown hg' (fun k hk => hk))
end

section
variable {P : Program} {w : World} {ops : Array Oper} {o : Oper} {a : Act} {K : Act → World → Prop} {Q : Exit → Act → World → Prop} {E : Prop}

/-- 's = append(s, x)' of one element, at a step of a region that draws. -/
theorem step_append_one (hgd : o.guard = none) (s x : Operand) (t : TypeId) (ho : o.op = .call { callee := .builtin .append, args := #[s, x], argTypes := #[t, t] })
    {e : TypeId} {z : Value} {size bytes : Nat} (ht : P.underlying t = some (.slice e)) (hinfo : (P.info? e).map (fun i => (i.zero, i.size, i.bytes)) = some (some z, size, bytes)) (hzs : z.cells.size = size) (hsz : 0 < size) (hb0 : 0 < bytes)
    {B : Nat} {enc : α → List Value} {v : Value} {N : List α} (hs : a.eval s = v) (hown : Own w B e size enc v N) (henc : ∀ x, (enc x).length = size)
    (y : α) {nb : Nat} {c : Array Value} {t' : TypeId} {f : Nat × Nat} (hx : a.eval x = .slice (some ⟨nb, 0, none⟩) 1 1) (hblk : w.heap[nb]? = some (.cells c t' f)) (hc : c.toList = enc y) (h1 : ∀ u ∈ enc y, u.oneCell' = true)
    (hbytes : (N.length + 1) * bytes ≤ 140737488355328) (hbase : B ≤ w.heap.size) {N' : List α} (hN' : N ++ [y] = N')
    (h : ∀ a' cap' w', Own w' B e size enc (.slice a' N'.length cap') N' → Keep (fun g => v.ownBlock = some g) w w' → K (a.put o.dst (.slice a' N'.length cap')) w') :
    if Region.wanted o (yielded ops a.tmps) = true then Oper.wp P o a w K Q else E := by
  subst hN'
  obtain ⟨i, hi, hz, hs1, hs2⟩ := info_parts hinfo
  have hm : N.length + 1 ≤ maxLen := by
    have : N.length + 1 ≤ (N.length + 1) * bytes := Nat.le_mul_of_pos_right _ hb0
    unfold maxLen; omega
  have hw : Region.wanted o (yielded ops a.tmps) = true := by simp [Region.wanted, hgd]
  rw [if_pos hw]
  refine wp_append_own w s x t ho B e i z size bytes ht hi hz hs1 hs2 hzs hsz v N.length (N.flatMap enc) hs hown ⟨nb, 0, none⟩ 1 1 (enc y) hx (by rw [henc, Nat.one_mul]) ?_ h1 hm hbytes hbase ?_
  · intro j u hu
    have hadd : (⟨nb, 0, none⟩ : Addr).add j = ⟨nb, j, none⟩ := by unfold Addr.add; split <;> simp_all
    rw [hadd, blk_cell hblk, ← hu, ← hc]
    simp
  · intro v' w' ho' hg' _
    have hO : Own w' B e size enc v' (N ++ [y]) := by
      have : w'.ownsRow B e size v' (N ++ [y]).length ((N ++ [y]).flatMap enc) := by simpa using ho'
      exact this
    obtain ⟨a', cap', rfl⟩ := hO.shape
    exact h a' cap' w' hO (Keep.of_grown hg' (fun k hk => hk))
end
end Go.Proofs.YtopgepifakdpfaaDoor
