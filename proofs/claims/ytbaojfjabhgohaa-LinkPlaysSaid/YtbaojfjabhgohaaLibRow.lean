/- Laws of a slice whose row is one of the call's own blocks, read as a list; the block may be longer than the capacity. -/
import Derived.Test.YtbaojfjabhgohaaLibSet
import Derived.ArgAppend
namespace Go.Proofs.Ytbaojfjabhgohaa
open Go Go.RowKit Go.Maps

variable {α : Type}

/-- The slice v, whose row is one of the call's own blocks (from number B on), reads as the list N. -/
def Row (w : World) (B : Nat) (e : TypeId) (size : Nat) (enc : α → List Value) (v : Value) (N : List α) : Prop :=
  (N.flatMap enc).length = N.length * size ∧ ((v = .slice none 0 0 ∧ N.length = 0) ∨
    ∃ g cap cur, v = .slice (some ⟨g, 0, none⟩) N.length cap ∧ B ≤ g ∧ w.heap[g]? = some (.cells cur e (0, 0)) ∧ N.length ≤ cap ∧ cap ≤ maxLen ∧ cap * size ≤ cur.size ∧ cur.toList.take (N.length * size) = N.flatMap enc)

theorem Own.row {w : World} {B : Nat} {e : TypeId} {size : Nat} {enc : α → List Value} {v : Value} {N : List α} (h : Own w B e size enc v N) : Row w B e size enc v N := by
  refine ⟨h.1, ?_⟩
  rcases h.2 with hn | ⟨g, cap, cur, h1, h2, h3, h4, h5, h6, h7⟩
  · exact Or.inl hn
  · exact Or.inr ⟨g, cap, cur, h1, h2, h3, h4, h5, Nat.le_of_eq h6.symm, h7⟩

section
variable {w w' : World} {B : Nat} {e : TypeId} {size : Nat} {enc : α → List Value} {v : Value} {N : List α}

theorem Row.nil (w : World) (B : Nat) (e : TypeId) (size : Nat) (enc : α → List Value) : Row w B e size enc (.slice none 0 0) [] := ⟨by simp, Or.inl ⟨rfl, rfl⟩⟩
theorem Row.fresh (h : Row w B e size enc v N) : ∀ g, v.ownBlock = some g → B ≤ g := by
  rcases h.2 with ⟨rfl, _⟩ | ⟨g', cap, cur, rfl, hb, hg, _⟩
  · intro g hg; simp [Value.ownBlock] at hg
  · intro g hv; simp [Value.ownBlock] at hv; subst hv; exact hb
theorem Row.lt (h : Row w B e size enc v N) : ∀ g, v.ownBlock = some g → g < w.heap.size := by
  rcases h.2 with ⟨rfl, _⟩ | ⟨g', cap, cur, rfl, hb, hg, _⟩
  · intro g hg; simp [Value.ownBlock] at hg
  · intro g hv; simp [Value.ownBlock] at hv; subst hv; exact blk_lt hg
theorem Row.keep {S : Nat → Prop} (h : Row w B e size enc v N) (hk : Keep S w w') (hS : ∀ g, v.ownBlock = some g → ¬ S g) : Row w' B e size enc v N := by
  refine ⟨h.1, ?_⟩
  rcases h.2 with hn | ⟨g, cap, cur, rfl, hb, hg, rest⟩
  · exact .inl hn
  · exact .inr ⟨g, cap, cur, rfl, hb, blk_keep hg hk (hS g rfl), rest⟩
theorem Row.mono {B' : Nat} (h : Row w B e size enc v N) (hB : B' ≤ B) : Row w B' e size enc v N := by
  refine ⟨h.1, ?_⟩
  rcases h.2 with hn | ⟨g, cap, cur, rfl, hb, rest⟩
  · exact .inl hn
  · exact .inr ⟨g, cap, cur, rfl, Nat.le_trans hB hb, rest⟩
theorem Row.alloc (h : Row w B e size enc v N) (o : Obj) : Row (w.alloc o) B e size enc v N := h.keep (S := NoB) ((Keep.refl NoB w).alloc o) (fun _ _ h => h)
theorem Row.shape (h : Row w B e size enc v N) : ∃ a cap, v = .slice a N.length cap := by
  rcases h.2 with ⟨rfl, hn⟩ | ⟨g, cap, cur, rfl, _⟩
  · exact ⟨none, 0, by rw [hn]⟩
  · exact ⟨_, _, rfl⟩
/-- Its row is no block of another element type. -/
theorem Row.ne (h : Row w B e size enc v N) {b : Nat} {c : Array Value} {t : TypeId} {f : Nat × Nat} (hb : w.heap[b]? = some (.cells c t f)) (ht : e ≠ t) : ∀ g, v.ownBlock = some g → g ≠ b := by
  rcases h.2 with ⟨rfl, _⟩ | ⟨g', cap, cur, rfl, _, hg, _⟩
  · intro g hg; simp [Value.ownBlock] at hg
  · intro g hv e'
    simp [Value.ownBlock] at hv
    subst hv e'
    rw [hg] at hb
    cases hb
    exact ht rfl
theorem Row.ne_map {P : Program} {kt : TypeId} {β : Type} {enc' : β → Value} {L : List (Lit × β)} {b : Nat} (h : Row w B e size enc v N) (hm : MapAt P kt enc' w b L) : ∀ g, v.ownBlock = some g → g ≠ b := by
  obtain ⟨es, clock, hb, _⟩ := hm
  rcases h.2 with ⟨rfl, _⟩ | ⟨g', cap, cur, rfl, _, hg, _⟩
  · intro g hg; simp [Value.ownBlock] at hg
  · intro g hv e'
    simp [Value.ownBlock] at hv
    subst hv e'
    rw [hg] at hb
    cases hb
theorem Row.ne_own {B' : Nat} {e' : TypeId} {size' : Nat} {β : Type} {enc' : β → List Value} {v' : Value} {N' : List β} (h : Row w B e size enc v N) (h' : Row w B' e' size' enc' v' N') (he : e ≠ e') : ∀ g, v.ownBlock = some g → v'.ownBlock ≠ some g := by
  intro g hg hg'
  rcases h'.2 with ⟨rfl, _⟩ | ⟨g', cap, cur, rfl, _, hb, _⟩
  · simp [Value.ownBlock] at hg'
  · simp [Value.ownBlock] at hg'
    subst hg'
    exact h.ne hb he _ hg rfl
/-- Its cells. -/
theorem Row.cells (h : Row w B e size enc v N) (henc : ∀ x, (enc x).length = size) {j : Nat} {x : α} (hx : N[j]? = some x) :
    ∃ g cap, v = .slice (some ⟨g, 0, none⟩) N.length cap ∧ B ≤ g ∧ g < w.heap.size ∧ ∀ i u, (enc x)[i]? = some u → w.cell? ⟨g, j * size + i, none⟩ = some u := by
  rcases h.2 with ⟨rfl, hn⟩ | ⟨g, cap, cur, rfl, hb, hg, hnc, hcm, hcs, htake⟩
  · have := (List.getElem?_eq_some_iff.1 hx).1; omega
  · refine ⟨g, cap, rfl, hb, blk_lt hg, ?_⟩
    intro i u hu
    have hi : i < size := by rw [← henc x]; exact (List.getElem?_eq_some_iff.1 hu).1
    rw [← flat_get henc N j i x hx hi, ← htake, List.getElem?_take] at hu
    split at hu
    · rw [blk_cell hg]; simpa using hu
    · cases hu
theorem Row.free (h : Row w B e size enc v N) {g j : Nat} (hg : v.ownBlock = some g) : w.frozen? ⟨g, j, none⟩ = false := by
  rcases h.2 with ⟨rfl, hn⟩ | ⟨g', cap, cur, rfl, hb, hgg, _⟩
  · simp [Value.ownBlock] at hg
  · simp [Value.ownBlock] at hg
    subst hg
    exact blk_free hgg j
end

/-- Its cells from element i on. -/
theorem Row.from {w : World} {B : Nat} {e : TypeId} {size : Nat} {enc : α → List Value} {g n cap : Nat} {N : List α} (h : Row w B e size enc (.slice (some ⟨g, 0, none⟩) n cap) N) (henc : ∀ x, (enc x).length = size) (i : Nat) :
    ∀ j u, ((N.drop i).flatMap enc)[j]? = some u → w.cell? ((⟨g, i * size, none⟩ : Addr).add j) = some u := by
  intro j u hu
  have hadd : (⟨g, i * size, none⟩ : Addr).add j = ⟨g, i * size + j, none⟩ := by unfold Addr.add; split <;> simp_all
  have hfull : (N.flatMap enc)[i * size + j]? = some u := by
    by_cases hi : i ≤ N.length
    · rw [← hu]
      conv => lhs; rw [← List.take_append_drop i N, List.flatMap_append]
      rw [List.getElem?_append_right (by rw [flat_len henc, List.length_take]; rw [Nat.min_eq_left hi]; omega), flat_len henc, List.length_take, Nat.min_eq_left hi]
      congr 1
      omega
    · rw [List.drop_eq_nil_of_le (by omega)] at hu; simp at hu
  have hlt : i * size + j < N.length * size := by rw [← flat_len henc]; exact (List.getElem?_eq_some_iff.1 hfull).1
  rcases h.2 with ⟨h', _⟩ | ⟨g', cap', cur, h', hb, hg, hnc, hcm, hcs, htake⟩
  · cases h'
  · cases h'
    rw [hadd, blk_cell hg]
    rw [← htake, List.getElem?_take_of_lt hlt] at hfull
    simpa using hfull

theorem Row.room {w : World} {B : Nat} {e : TypeId} {size : Nat} {enc : α → List Value} {a : Option Addr} {n cap : Nat} {N : List α} (h : Row w B e size enc (.slice a n cap) N) : n = N.length ∧ n ≤ cap ∧ cap ≤ maxLen := by
  rcases h.2 with ⟨h', hn⟩ | ⟨g, cap', cur, h', hb, hg, hnc, hcm, _⟩
  · cases h'
    exact ⟨hn.symm, Nat.le_refl _, Nat.zero_le _⟩
  · cases h'
    exact ⟨rfl, hnc, hcm⟩
theorem Row.some {w : World} {B : Nat} {e : TypeId} {size : Nat} {enc : α → List Value} {a : Option Addr} {n cap : Nat} {N : List α} (h : Row w B e size enc (.slice a n cap) N) (hn : N ≠ []) : ∃ g, a = some ⟨g, 0, none⟩ ∧ B ≤ g ∧ g < w.heap.size := by
  rcases h.2 with ⟨h', hn'⟩ | ⟨g, cap', cur, h', hb, hg, hnc, hcm, _⟩
  · exact absurd (List.eq_nil_of_length_eq_zero hn') hn
  · cases h'
    exact ⟨g, rfl, hb, blk_lt hg⟩

/-- Its first elements alone. -/
theorem Row.cut {w : World} {B : Nat} {e : TypeId} {size : Nat} {enc : α → List Value} {g n cap : Nat} {N : List α} (h : Row w B e size enc (.slice (Option.some ⟨g, 0, none⟩) n cap) N) (henc : ∀ x, (enc x).length = size) (i c : Nat) (hi : i ≤ N.length) (hc : i ≤ c) (hcc : c ≤ cap) :
    Row w B e size enc (.slice (Option.some ⟨g, 0, none⟩) i c) (N.take i) := by
  have hl : (N.take i).length = i := by simp; omega
  refine ⟨flat_len henc _, Or.inr ?_⟩
  rcases h.2 with ⟨h', _⟩ | ⟨g', cap', cur, h', hb, hg, hnc, hcm, hcs, htake⟩
  · cases h'
  · cases h'
    refine ⟨g, c, cur, by rw [hl], hb, hg, by omega, by omega, Nat.le_trans (Nat.mul_le_mul_right _ hcc) hcs, ?_⟩
    rw [hl]
    have e1 : N.flatMap enc = (N.take i).flatMap enc ++ (N.drop i).flatMap enc := by rw [← List.flatMap_append, List.take_append_drop]
    have e2 : i * size = ((N.take i).flatMap enc).length := by rw [flat_len henc, hl]
    have e3 : cur.toList.take (i * size) = (cur.toList.take (N.length * size)).take (i * size) := by rw [List.take_take, Nat.min_eq_left (Nat.mul_le_mul_right _ hi)]
    rw [e3, htake, e1, e2]
    exact List.take_left

section
variable {P : Program}

/-- The law of 'append' onto such a row. -/
theorem run_append_rowed (w : World) (base : Nat) (t ty e : TypeId) (i : TypeInfo) (z : Value) (size bytes : Nat) (ht : P.underlying t = some (.slice e)) (hi : P.info? e = some i) (hz : i.zero = some z)
    (hsize : i.size = size) (hby : i.bytes = bytes) (hzs : z.cells.size = size) (hsz : 0 < size) {enc : α → List Value} (henc : ∀ x, (enc x).length = size)
    (v : Value) (N : List α) (hown : Row w base e size enc v N)
    (a : Addr) (c : Nat) (M : List α) (hnews : ∀ j u, (M.flatMap enc)[j]? = some u → w.cell? (a.add j) = some u) (h1 : ∀ u ∈ M.flatMap enc, u.oneCell' = true)
    (h63 : N.length + M.length ≤ maxLen) (hbytes : (N.length + M.length) * bytes ≤ 140737488355328) (hbase : base ≤ w.heap.size) :
    ∃ v' w', (Builtin.append_ #[t, t] ty #[v, .slice (some a) M.length c]).run P w = .ok v' w' ∧ Row w' base e size enc v' (N ++ M) ∧ w.grownBy w' v.ownBlock ∧
      ∀ g n c' j, v = .slice (some ⟨g, 0, none⟩) n c' → j < N.length * size → w'.cell? ⟨g, j, none⟩ = w.cell? ⟨g, j, none⟩ := by
  have hfull : ((N ++ M).flatMap enc).length = (N ++ M).length * size := flat_len henc _
  have toRow : ∀ w' v', w'.ownsRow base e size v' (N.length + M.length) (N.flatMap enc ++ M.flatMap enc) → Row w' base e size enc v' (N ++ M) := by
    intro w' v' h
    have : Own w' base e size enc v' (N ++ M) := by
      unfold Own
      rw [List.length_append, List.flatMap_append]
      exact h
    exact this.row
  rcases hown.2 with ⟨rfl, hn⟩ | ⟨g, cap, cur, rfl, hbg, hg, hnc, hcm, hcs, htake⟩
  · obtain rfl : N = [] := List.eq_nil_of_length_eq_zero hn
    obtain ⟨v', w', r1, r2, r3, _⟩ := run_append_own (P := P) w base t ty e i z size bytes ht hi hz hsize hby hzs hsz (.slice none 0 0) 0 [] (World.ownsRow_nil w base e size) a M.length c (M.flatMap enc) (flat_len henc M) hnews h1 (by simpa using h63) (by simpa using hbytes) hbase
    exact ⟨v', w', r1, toRow w' v' (by simpa using r2), r3, fun g n c' j h => by cases h⟩
  · have hlo : (N.flatMap enc).length = N.length * size := flat_len henc N
    by_cases hroom : N.length + M.length ≤ cap
    · subst hsize
      have hfit : N.length * i.size + (M.flatMap enc).length ≤ cur.size := by rw [flat_len henc, ← Nat.add_mul]; exact Nat.le_trans (Nat.mul_le_mul_right _ hroom) hcs
      have hr := run_append_room (P := P) w t ty e i ht hi g N.length cap cur hg a M.length c (M.flatMap enc) (flat_len henc M) hnews h1 hroom hfit
      refine ⟨_, _, hr, ⟨hfull, .inr ⟨g, cap, _, by rw [List.length_append], hbg, setRow_heap w g cur _ e _ hg, by rw [List.length_append]; exact hroom, hcm, ?_, ?_⟩⟩, ⟨rfl, rfl, rfl, by simp, fun k _ hk => setRow_other w g k _ (fun e => hk (by simp [Value.ownBlock, e]))⟩, ?_⟩
      rotate_left 2
      · intro g' n c' j h hj
        cases h
        rw [blk_cell (setRow_heap w g cur _ e _ hg), blk_cell hg]
        simp only [List.getElem?_toArray]
        have hlt : j < (cur.toList.take (N.length * i.size)).length := by
          have h1 := Nat.le_trans (Nat.mul_le_mul_right i.size hnc) hcs
          rw [List.length_take, Array.length_toList]
          exact Nat.lt_of_lt_of_le hj (Nat.le_min.2 ⟨Nat.le_refl _, h1⟩)
        rw [List.getElem?_append_left (by rw [List.length_append]; omega), List.getElem?_append_left hlt, List.getElem?_take_of_lt hj]
        simp
      · simp only [List.size_toArray, List.length_append, List.length_take, List.length_drop, Array.length_toList]
        omega
      · rw [htake, ← hfull, List.flatMap_append]
        exact List.take_left
    · have holds : ∀ j u, (N.flatMap enc)[j]? = some u → w.cell? ((⟨g, 0, none⟩ : Addr).add j) = some u := by
        intro j u hu
        have hj := (List.getElem?_eq_some_iff.1 hu).1
        have hadd : (⟨g, 0, none⟩ : Addr).add j = ⟨g, j, none⟩ := by unfold Addr.add; split <;> simp_all
        rw [hadd, blk_cell hg, ← hu, ← htake, List.getElem?_take_of_lt (by omega)]
        simp
      obtain ⟨v', w', r1, r2, r3⟩ := run_append_arg_grows (P := P) w t ty e i z size bytes ht hi hz hsize hby hzs hsz ⟨g, 0, none⟩ N.length cap (N.flatMap enc) hlo holds a M.length c (M.flatMap enc) (flat_len henc M) hnews (by omega) h63 hbytes
      refine ⟨v', w', r1, toRow w' v' ?_, ⟨r3.os, r3.tape, r3.output, r3.size, fun k hk _ => r3.block k hk (by simp)⟩, fun g' n c' j h hj => by
        cases h
        exact World.cell?_of_block (w := w) (r3.block g (blk_lt hg) (by simp))⟩
      refine ⟨r2.1, ?_⟩
      rcases r2.2 with h | ⟨g', cap', cur', h1', h2', h3'⟩
      · exact Or.inl h
      · exact Or.inr ⟨g', cap', cur', h1', Nat.le_trans hbase h2', h3'⟩
end

section
variable {P : Program} {w : World} {ops : Array Oper} {o : Oper} {a : Act} {K : Act → World → Prop} {Q : Exit → Act → World → Prop}

theorem wp_rowed' (s x : Operand) (t : TypeId) (ho : o.op = .call { callee := .builtin .append, args := #[s, x], argTypes := #[t, t] })
    {e : TypeId} {z : Value} {size bytes : Nat} (ht : P.underlying t = some (.slice e)) (hinfo : (P.info? e).map (fun i => (i.zero, i.size, i.bytes)) = some (some z, size, bytes)) (hzs : z.cells.size = size) (hsz : 0 < size) (hb0 : 0 < bytes)
    {B : Nat} {enc : α → List Value} {v : Value} {N : List α} (hs : a.eval s = v) (hown : Row w B e size enc v N) (henc : ∀ x, (enc x).length = size)
    (M : List α) (h1 : ∀ u ∈ M.flatMap enc, u.oneCell' = true) {ad : Addr} {m c : Nat} (hx : a.eval x = .slice (some ad) m c) (hm : m = M.length) (hnews : ∀ j u, (M.flatMap enc)[j]? = some u → w.cell? (ad.add j) = some u)
    (hbytes : (N.length + M.length) * bytes ≤ 140737488355328) (hbase : B ≤ w.heap.size) {N' : List α} (hN' : N ++ M = N')
    (h : ∀ a' cap' w', Row w' B e size enc (.slice a' N'.length cap') N' → Keep (fun g => v.ownBlock = some g) w w' → (∀ g n c' j, v = .slice (some ⟨g, 0, none⟩) n c' → j < N.length * size → w'.cell? ⟨g, j, none⟩ = w.cell? ⟨g, j, none⟩) → K (a.put o.dst (.slice a' N'.length cap')) w') : Oper.wp P o a w K Q := by
  subst hN' hm
  obtain ⟨i, hi, hz, hs1, hs2⟩ := info_parts hinfo
  have hm : N.length + M.length ≤ maxLen := by
    have : N.length + M.length ≤ (N.length + M.length) * bytes := Nat.le_mul_of_pos_right _ hb0
    unfold maxLen; omega
  obtain ⟨v', w', hr, hO, hg', hold⟩ := run_append_rowed (P := P) w B t o.type e i z size bytes ht hi hz hs1 hs2 hzs hsz henc v N hown ad c M hnews h1 hm hbytes hbase
  obtain ⟨a', cap', rfl⟩ := hO.shape
  unfold Oper.wp execOp
  simp only [ho, resolve, invoke, builtin, Sem.run_bind, Sem.run_pure, Result.andThen_ok, List.map_toArray, List.map_cons, List.map_nil, hs, hx, hr]
  exact h a' cap' w' hO (Keep.of_grown hg' (fun k hk => hk)) hold

theorem wp_rowed (s x : Operand) (t : TypeId) (ho : o.op = .call { callee := .builtin .append, args := #[s, x], argTypes := #[t, t] })
    {e : TypeId} {z : Value} {size bytes : Nat} (ht : P.underlying t = some (.slice e)) (hinfo : (P.info? e).map (fun i => (i.zero, i.size, i.bytes)) = some (some z, size, bytes)) (hzs : z.cells.size = size) (hsz : 0 < size) (hb0 : 0 < bytes)
    {B : Nat} {enc : α → List Value} {v : Value} {N : List α} (hs : a.eval s = v) (hown : Row w B e size enc v N) (henc : ∀ x, (enc x).length = size)
    (M : List α) (h1 : ∀ u ∈ M.flatMap enc, u.oneCell' = true) {ad : Addr} {m c : Nat} (hx : a.eval x = .slice (some ad) m c) (hm : m = M.length) (hnews : ∀ j u, (M.flatMap enc)[j]? = some u → w.cell? (ad.add j) = some u)
    (hbytes : (N.length + M.length) * bytes ≤ 140737488355328) (hbase : B ≤ w.heap.size) {N' : List α} (hN' : N ++ M = N')
    (h : ∀ a' cap' w', Row w' B e size enc (.slice a' N'.length cap') N' → Keep (fun g => v.ownBlock = some g) w w' → K (a.put o.dst (.slice a' N'.length cap')) w') : Oper.wp P o a w K Q :=
  wp_rowed' s x t ho ht hinfo hzs hsz hb0 hs hown henc M h1 hx hm hnews hbytes hbase hN' (fun a' cap' w' h2 h3 _ => h a' cap' w' h2 h3)

/-- 's = append(s, x)' of one element, the old elements' cells said to stand. -/
theorem wpList_row_one' {rest : List Oper} (hgd : o.guard = none) (s x : Operand) (t : TypeId) (ho : o.op = .call { callee := .builtin .append, args := #[s, x], argTypes := #[t, t] })
    {e : TypeId} {z : Value} {size bytes : Nat} (ht : P.underlying t = some (.slice e)) (hinfo : (P.info? e).map (fun i => (i.zero, i.size, i.bytes)) = some (some z, size, bytes)) (hzs : z.cells.size = size) (hsz : 0 < size) (hb0 : 0 < bytes)
    {B : Nat} {enc : α → List Value} {v : Value} {N : List α} (hs : a.eval s = v) (hown : Row w B e size enc v N) (henc : ∀ x, (enc x).length = size)
    (y : α) {nb : Nat} {c : Array Value} {t' : TypeId} {f : Nat × Nat} (hx : a.eval x = .slice (some ⟨nb, 0, none⟩) 1 1) (hblk : w.heap[nb]? = some (.cells c t' f)) (hc : c.toList = enc y) (h1 : ∀ u ∈ enc y, u.oneCell' = true)
    (hbytes : (N.length + 1) * bytes ≤ 140737488355328) (hbase : B ≤ w.heap.size) {N' : List α} (hN' : N ++ [y] = N')
    (h : ∀ a' cap' w', Row w' B e size enc (.slice a' N'.length cap') N' → Keep (fun g => v.ownBlock = some g) w w' → (∀ g n c' j, v = .slice (some ⟨g, 0, none⟩) n c' → j < N.length * size → w'.cell? ⟨g, j, none⟩ = w.cell? ⟨g, j, none⟩) → wpList P ops Q rest (a.put o.dst (.slice a' N'.length cap')) w') : wpList P ops Q (o :: rest) a w := by
  refine wpList_plain hgd fun _ hK => wp_rowed' s x t ho ht hinfo hzs hsz hb0 hs hown henc [y] (by simpa using h1) hx rfl ?_ hbytes hbase hN' (fun a' cap' w' h2 h3 h4 => hK _ _ (h a' cap' w' h2 h3 h4))
  intro j u hu
  have hadd : (⟨nb, 0, none⟩ : Addr).add j = ⟨nb, j, none⟩ := by unfold Addr.add; split <;> simp_all
  have hu' : (enc y)[j]? = some u := by simpa using hu
  rw [hadd, blk_cell hblk, ← hu', ← hc]
  simp

/-- 's = append(s, x)' of one element: it may grow. -/
theorem wpList_row_one {rest : List Oper} (hgd : o.guard = none) (s x : Operand) (t : TypeId) (ho : o.op = .call { callee := .builtin .append, args := #[s, x], argTypes := #[t, t] })
    {e : TypeId} {z : Value} {size bytes : Nat} (ht : P.underlying t = some (.slice e)) (hinfo : (P.info? e).map (fun i => (i.zero, i.size, i.bytes)) = some (some z, size, bytes)) (hzs : z.cells.size = size) (hsz : 0 < size) (hb0 : 0 < bytes)
    {B : Nat} {enc : α → List Value} {v : Value} {N : List α} (hs : a.eval s = v) (hown : Row w B e size enc v N) (henc : ∀ x, (enc x).length = size)
    (y : α) {nb : Nat} {c : Array Value} {t' : TypeId} {f : Nat × Nat} (hx : a.eval x = .slice (some ⟨nb, 0, none⟩) 1 1) (hblk : w.heap[nb]? = some (.cells c t' f)) (hc : c.toList = enc y) (h1 : ∀ u ∈ enc y, u.oneCell' = true)
    (hbytes : (N.length + 1) * bytes ≤ 140737488355328) (hbase : B ≤ w.heap.size) {N' : List α} (hN' : N ++ [y] = N')
    (h : ∀ a' cap' w', Row w' B e size enc (.slice a' N'.length cap') N' → Keep (fun g => v.ownBlock = some g) w w' → wpList P ops Q rest (a.put o.dst (.slice a' N'.length cap')) w') : wpList P ops Q (o :: rest) a w := by
  refine wpList_plain hgd fun _ hK => wp_rowed s x t ho ht hinfo hzs hsz hb0 hs hown henc [y] (by simpa using h1) hx rfl ?_ hbytes hbase hN' (fun a' cap' w' h2 h3 => hK _ _ (h a' cap' w' h2 h3))
  intro j u hu
  have hadd : (⟨nb, 0, none⟩ : Addr).add j = ⟨nb, j, none⟩ := by unfold Addr.add; split <;> simp_all
  have hu' : (enc y)[j]? = some u := by simpa using hu
  rw [hadd, blk_cell hblk, ← hu', ← hc]
  simp

/-- 's = append(s, x...)', x read as the list M: it may grow. -/
theorem wpList_row_list {rest : List Oper} (hgd : o.guard = none) (s x : Operand) (t : TypeId) (ho : o.op = .call { callee := .builtin .append, args := #[s, x], argTypes := #[t, t] })
    {e : TypeId} {z : Value} {size bytes : Nat} (ht : P.underlying t = some (.slice e)) (hinfo : (P.info? e).map (fun i => (i.zero, i.size, i.bytes)) = some (some z, size, bytes)) (hzs : z.cells.size = size) (hsz : 0 < size) (hb0 : 0 < bytes)
    {B : Nat} {enc : α → List Value} {v : Value} {N : List α} (hs : a.eval s = v) (hown : Row w B e size enc v N) (henc : ∀ x, (enc x).length = size) (h1 : ∀ x, ∀ u ∈ enc x, u.oneCell' = true)
    (M : List α) {ad : Addr} {m c : Nat} (hx : a.eval x = .slice (some ad) m c) (hm : m = M.length) (hnews : ∀ j u, (M.flatMap enc)[j]? = some u → w.cell? (ad.add j) = some u)
    (hbytes : (N.length + M.length) * bytes ≤ 140737488355328) (hbase : B ≤ w.heap.size) {N' : List α} (hN' : N ++ M = N')
    (h : ∀ a' cap' w', Row w' B e size enc (.slice a' N'.length cap') N' → Keep (fun g => v.ownBlock = some g) w w' → wpList P ops Q rest (a.put o.dst (.slice a' N'.length cap')) w') : wpList P ops Q (o :: rest) a w :=
  wpList_plain hgd fun _ hK => wp_rowed s x t ho ht hinfo hzs hsz hb0 hs hown henc M (oneCells h1 M) hx hm hnews hbytes hbase hN' (fun a' cap' w' h2 h3 => hK _ _ (h a' cap' w' h2 h3))

variable {E : Prop}
/-- 's = append(s, x)' of one element, at a step of a region that draws. -/
theorem step_row_one (hgd : o.guard = none) (s x : Operand) (t : TypeId) (ho : o.op = .call { callee := .builtin .append, args := #[s, x], argTypes := #[t, t] })
    {e : TypeId} {z : Value} {size bytes : Nat} (ht : P.underlying t = some (.slice e)) (hinfo : (P.info? e).map (fun i => (i.zero, i.size, i.bytes)) = some (some z, size, bytes)) (hzs : z.cells.size = size) (hsz : 0 < size) (hb0 : 0 < bytes)
    {B : Nat} {enc : α → List Value} {v : Value} {N : List α} (hs : a.eval s = v) (hown : Row w B e size enc v N) (henc : ∀ x, (enc x).length = size)
    (y : α) {nb : Nat} {c : Array Value} {t' : TypeId} {f : Nat × Nat} (hx : a.eval x = .slice (some ⟨nb, 0, none⟩) 1 1) (hblk : w.heap[nb]? = some (.cells c t' f)) (hc : c.toList = enc y) (h1 : ∀ u ∈ enc y, u.oneCell' = true)
    (hbytes : (N.length + 1) * bytes ≤ 140737488355328) (hbase : B ≤ w.heap.size) {N' : List α} (hN' : N ++ [y] = N')
    (h : ∀ a' cap' w', Row w' B e size enc (.slice a' N'.length cap') N' → Keep (fun g => v.ownBlock = some g) w w' → K (a.put o.dst (.slice a' N'.length cap')) w') :
    if Region.wanted o (yielded ops a.tmps) = true then Oper.wp P o a w K Q else E := by
  have hw : Region.wanted o (yielded ops a.tmps) = true := by simp [Region.wanted, hgd]
  rw [if_pos hw]
  refine wp_rowed s x t ho ht hinfo hzs hsz hb0 hs hown henc [y] (by simpa using h1) hx rfl ?_ hbytes hbase hN' h
  intro j u hu
  have hadd : (⟨nb, 0, none⟩ : Addr).add j = ⟨nb, j, none⟩ := by unfold Addr.add; split <;> simp_all
  have hu' : (enc y)[j]? = some u := by simpa using hu
  rw [hadd, blk_cell hblk, ← hu', ← hc]
  simp

/-- 's = append(s, x...)' at such a step. -/
theorem step_row_list (hgd : o.guard = none) (s x : Operand) (t : TypeId) (ho : o.op = .call { callee := .builtin .append, args := #[s, x], argTypes := #[t, t] })
    {e : TypeId} {z : Value} {size bytes : Nat} (ht : P.underlying t = some (.slice e)) (hinfo : (P.info? e).map (fun i => (i.zero, i.size, i.bytes)) = some (some z, size, bytes)) (hzs : z.cells.size = size) (hsz : 0 < size) (hb0 : 0 < bytes)
    {B : Nat} {enc : α → List Value} {v : Value} {N : List α} (hs : a.eval s = v) (hown : Row w B e size enc v N) (henc : ∀ x, (enc x).length = size) (h1 : ∀ x, ∀ u ∈ enc x, u.oneCell' = true)
    (M : List α) {ad : Addr} {m c : Nat} (hx : a.eval x = .slice (some ad) m c) (hm : m = M.length) (hnews : ∀ j u, (M.flatMap enc)[j]? = some u → w.cell? (ad.add j) = some u)
    (hbytes : (N.length + M.length) * bytes ≤ 140737488355328) (hbase : B ≤ w.heap.size) {N' : List α} (hN' : N ++ M = N')
    (h : ∀ a' cap' w', Row w' B e size enc (.slice a' N'.length cap') N' → Keep (fun g => v.ownBlock = some g) w w' → K (a.put o.dst (.slice a' N'.length cap')) w') :
    if Region.wanted o (yielded ops a.tmps) = true then Oper.wp P o a w K Q else E := by
  have hw : Region.wanted o (yielded ops a.tmps) = true := by simp [Region.wanted, hgd]
  rw [if_pos hw]
  exact wp_rowed s x t ho ht hinfo hzs hsz hb0 hs hown henc M (oneCells h1 M) hx hm hnews hbytes hbase hN' h
end
end Go.Proofs.Ytbaojfjabhgohaa
