/- Laws of a slice that the call itself made, read as a list of elements. -/
import Derived.Test.YtcgjkmodbghdoaaLibMap
import Derived.Laws.OwnMore
import Derived.OwnWalk
import Derived.Laws.AppendOwnNone
namespace Go.Proofs.Ytcgjkmodbghdoaa
open Go Go.RowKit Go.Maps

variable {α : Type}

theorem flat_get {enc : α → List Value} {size : Nat} (henc : ∀ x, (enc x).length = size) : ∀ (N : List α) (j i : Nat) (x : α), N[j]? = some x → i < size → (N.flatMap enc)[j * size + i]? = (enc x)[i]?
  | [], j, i, x, h, _ => by simp at h
  | y :: N, 0, i, x, h, hi => by
    simp at h; subst h
    simp only [List.flatMap_cons, Nat.zero_mul, Nat.zero_add]
    rw [List.getElem?_append_left (by rw [henc]; exact hi)]
  | y :: N, j + 1, i, x, h, hi => by
    have ih := flat_get henc N j i x (by simpa using h) hi
    simp only [List.flatMap_cons]
    rw [List.getElem?_append_right (by rw [henc, Nat.succ_mul]; omega), henc, ← ih]
    congr 1
    rw [Nat.succ_mul]; omega

theorem flat_len {enc : α → List Value} {size : Nat} (henc : ∀ x, (enc x).length = size) (N : List α) : (N.flatMap enc).length = N.length * size := by
  induction N with
  | nil => simp
  | cons x N ih => simp [ih, henc, Nat.succ_mul]; omega

/-- The slice v, whose row is one of the call's own blocks (from number B on), reads as the list N. -/
def Own (w : World) (B : Nat) (e : TypeId) (size : Nat) (enc : α → List Value) (v : Value) (N : List α) : Prop := w.ownsRow B e size v N.length (N.flatMap enc)

section
variable {w w' : World} {B : Nat} {e : TypeId} {size : Nat} {enc : α → List Value} {v : Value} {N : List α}

theorem Own.nil (w : World) (B : Nat) (e : TypeId) (size : Nat) (enc : α → List Value) : Own w B e size enc (.slice none 0 0) [] := World.ownsRow_nil w B e size
theorem Own.fresh (h : Own w B e size enc v N) : ∀ g, v.ownBlock = some g → B ≤ g := fun g hg => (World.ownsRow.lt h g hg).1
theorem Own.lt (h : Own w B e size enc v N) : ∀ g, v.ownBlock = some g → g < w.heap.size := fun g hg => (World.ownsRow.lt h g hg).2
theorem Own.keep {S : Nat → Prop} (h : Own w B e size enc v N) (hk : Keep S w w') (hS : ∀ g, v.ownBlock = some g → ¬ S g) : Own w' B e size enc v N := by
  refine ⟨h.1, ?_⟩
  rcases h.2 with hn | ⟨g, cap, cur, rfl, hb, hg, rest⟩
  · exact .inl hn
  · exact .inr ⟨g, cap, cur, rfl, hb, blk_keep hg hk (hS g rfl), rest⟩
theorem Own.mono {B' : Nat} (h : Own w B e size enc v N) (hB : B' ≤ B) : Own w B' e size enc v N := by
  refine ⟨h.1, ?_⟩
  rcases h.2 with hn | ⟨g, cap, cur, rfl, hb, rest⟩
  · exact .inl hn
  · exact .inr ⟨g, cap, cur, rfl, Nat.le_trans hB hb, rest⟩
theorem Own.alloc (h : Own w B e size enc v N) (o : Obj) : Own (w.alloc o) B e size enc v N := World.ownsRow.alloc h o
theorem Own.shape (h : Own w B e size enc v N) : ∃ a cap, v = .slice a N.length cap := by
  rcases h.2 with ⟨rfl, hn⟩ | ⟨g, cap, cur, rfl, _⟩
  · exact ⟨none, 0, by rw [hn]⟩
  · exact ⟨_, _, rfl⟩
/-- Its row is no block of another element type. -/
theorem Own.ne (h : Own w B e size enc v N) {b : Nat} {c : Array Value} {t : TypeId} {f : Nat × Nat} (hb : w.heap[b]? = some (.cells c t f)) (ht : e ≠ t) : ∀ g, v.ownBlock = some g → g ≠ b := by
  rcases h.2 with ⟨rfl, _⟩ | ⟨g', cap, cur, rfl, _, hg, _⟩
  · intro g hg; simp [Value.ownBlock] at hg
  · intro g hv e'
    simp [Value.ownBlock] at hv
    subst hv e'
    rw [hg] at hb
    cases hb
    exact ht rfl
theorem Own.ne_map {P : Program} {kt : TypeId} {β : Type} {enc' : β → Value} {L : List (Lit × β)} {b : Nat} (h : Own w B e size enc v N) (hm : MapAt P kt enc' w b L) : ∀ g, v.ownBlock = some g → g ≠ b := by
  obtain ⟨es, clock, hb, _⟩ := hm
  rcases h.2 with ⟨rfl, _⟩ | ⟨g', cap, cur, rfl, _, hg, _⟩
  · intro g hg; simp [Value.ownBlock] at hg
  · intro g hv e'
    simp [Value.ownBlock] at hv
    subst hv e'
    rw [hg] at hb
    cases hb
theorem Own.ne_own {B' : Nat} {e' : TypeId} {size' : Nat} {β : Type} {enc' : β → List Value} {v' : Value} {N' : List β} (h : Own w B e size enc v N) (h' : Own w B' e' size' enc' v' N') (he : e ≠ e') : ∀ g, v.ownBlock = some g → v'.ownBlock ≠ some g := by
  intro g hg hg'
  rcases h'.2 with ⟨rfl, _⟩ | ⟨g', cap, cur, rfl, _, hb, _⟩
  · simp [Value.ownBlock] at hg'
  · simp [Value.ownBlock] at hg'
    subst hg'
    exact h.ne hb he _ hg rfl
/-- Its cells. -/
theorem Own.cells (h : Own w B e size enc v N) (henc : ∀ x, (enc x).length = size) {j : Nat} {x : α} (hx : N[j]? = some x) :
    ∃ g cap, v = .slice (some ⟨g, 0, none⟩) N.length cap ∧ B ≤ g ∧ g < w.heap.size ∧ ∀ i u, (enc x)[i]? = some u → w.cell? ⟨g, j * size + i, none⟩ = some u := by
  rcases h.2 with ⟨rfl, hn⟩ | ⟨g, cap, cur, rfl, hb, hg, hnc, hcm, hcs, htake⟩
  · have := (List.getElem?_eq_some_iff.1 hx).1; omega
  · refine ⟨g, cap, rfl, hb, blk_lt hg, ?_⟩
    intro i u hu
    have hi : i < size := by rw [← henc x]; exact (List.getElem?_eq_some_iff.1 hu).1
    rw [← flat_get henc N j i x hx hi, ← htake, List.getElem?_take] at hu
    split at hu
    · rw [blk_cell hg]; simpa using hu
    · cases hu
theorem Own.free (h : Own w B e size enc v N) {g j : Nat} (hg : v.ownBlock = some g) : w.frozen? ⟨g, j, none⟩ = false := by
  rcases h.2 with ⟨rfl, hn⟩ | ⟨g', cap, cur, rfl, hb, hgg, _⟩
  · simp [Value.ownBlock] at hg
  · simp [Value.ownBlock] at hg
    subst hg
    exact blk_free hgg j
end

section
variable {P : Program} {w : World} {ops : Array Oper} {rest : List Oper} {o : Oper} {a : Act} {Q : Exit → Act → World → Prop}

/-- 's = append(s, x)' of one element, s the call's own: it may grow. -/
theorem wpList_append_one (hgd : o.guard = none) (s x : Operand) (t : TypeId) (ho : o.op = .call { callee := .builtin .append, args := #[s, x], argTypes := #[t, t] })
    {e : TypeId} {z : Value} {size bytes : Nat} (ht : P.underlying t = some (.slice e)) (hinfo : (P.info? e).map (fun i => (i.zero, i.size, i.bytes)) = some (some z, size, bytes)) (hzs : z.cells.size = size) (hsz : 0 < size) (hb0 : 0 < bytes)
    {B : Nat} {enc : α → List Value} {v : Value} {N : List α} (hs : a.eval s = v) (hown : Own w B e size enc v N) (henc : ∀ x, (enc x).length = size)
    (y : α) {nb : Nat} {c : Array Value} {t' : TypeId} {f : Nat × Nat} (hx : a.eval x = .slice (some ⟨nb, 0, none⟩) 1 1) (hblk : w.heap[nb]? = some (.cells c t' f)) (hc : c.toList = enc y) (h1 : ∀ u ∈ enc y, u.oneCell' = true)
    (hbytes : (N.length + 1) * bytes ≤ 140737488355328) (hbase : B ≤ w.heap.size) {N' : List α} (hN' : N ++ [y] = N')
    (h : ∀ a' cap' w', Own w' B e size enc (.slice a' N'.length cap') N' → Keep (fun g => v.ownBlock = some g) w w' → wpList P ops Q rest (a.put o.dst (.slice a' N'.length cap')) w') : wpList P ops Q (o :: rest) a w := by
  subst hN'
  obtain ⟨i, hi, hz, hs1, hs2⟩ := info_parts hinfo
  have hm : N.length + 1 ≤ maxLen := by
    have : N.length + 1 ≤ (N.length + 1) * bytes := Nat.le_mul_of_pos_right _ hb0
    unfold maxLen; omega
  refine wpList_append_own w hgd s x t ho B e i z size bytes ht hi hz hs1 hs2 hzs hsz v N.length (N.flatMap enc) hs hown ⟨nb, 0, none⟩ 1 1 (enc y) hx (by rw [henc, Nat.one_mul]) ?_ h1 hm hbytes hbase ?_
  · intro j u hu
    have hadd : (⟨nb, 0, none⟩ : Addr).add j = ⟨nb, j, none⟩ := by unfold Addr.add; split <;> simp_all
    rw [hadd, blk_cell hblk, ← hu, ← hc]
    simp
  · intro v' w' ho' hg' _
    have hO : Own w' B e size enc v' (N ++ [y]) := by
      have : w'.ownsRow B e size v' (N ++ [y]).length ((N ++ [y]).flatMap enc) := by simpa using ho'
      exact this
    obtain ⟨a', cap', rfl⟩ := hO.shape
    exact h a' cap' w' hO (Keep.of_grown hg' (fun k hk => hk))
end
end Go.Proofs.Ytcgjkmodbghdoaa
