/- A range over a map that is written in the round. -/
import Derived.Test.YtopgepifakdpfaaDoorLibMap
namespace Go.Proofs.YtopgepifakdpfaaDoor
open Go Go.RowKit Go.Maps Go.WideShapes Go.ChangeMaps Go.MapKept
open Go.WideElems (Fit rd rg pl rd_key rd_val rg_of rd_mk other_key)

section
variable {α : Type} {P : Program} {k : TypeId} {enc : α → Value} {w w' : World} {b r : Nat} {L : List (Lit × α)} {left : Lit → Bool} {cnt : Nat}

/-- The map in block b holds L; block r is a range over it, of whose entries those are still to come whose keys 'left' tells, cnt in number. -/
def RangeAt (P : Program) (k : TypeId) (enc : α → Value) (w : World) (b r : Nat) (L : List (Lit × α)) (left : Lit → Bool) (cnt : Nat) : Prop := ∃ n, w.ranges P k tokR b r n (toD enc L) left cnt

theorem RangeAt.map (h : RangeAt P k enc w b r L left cnt) : MapAt P k enc w b L := let ⟨_, h⟩ := h; .mk h.owns
theorem RangeAt.ne (h : RangeAt P k enc w b r L left cnt) : r ≠ b := let ⟨_, h⟩ := h; h.ne
theorem RangeAt.lt (h : RangeAt P k enc w b r L left cnt) : r < w.heap.size := let ⟨_, h⟩ := h; h.lt
theorem RangeAt.left_eq (h : RangeAt P k enc w b r L left cnt) : w.rangeLeft b r = cnt := let ⟨_, h⟩ := h; h.left_eq
theorem RangeAt.of_blocks (h : RangeAt P k enc w b r L left cnt) (hb : w'.heap[b]? = w.heap[b]?) (hr : w'.heap[r]? = w.heap[r]?) : RangeAt P k enc w' b r L left cnt := by
  obtain ⟨n, es, clock, since, seen, c0, h1, F, hs, hD, h2, rest⟩ := h
  exact ⟨n, es, clock, since, seen, c0, hb.trans h1, F, hs, hD, hr.trans h2, rest⟩
theorem RangeAt.keep {S : Nat → Prop} (h : RangeAt P k enc w b r L left cnt) (hk : Keep S w w') (hb : ¬ S b) (hr : ¬ S r) : RangeAt P k enc w' b r L left cnt :=
  h.of_blocks (hk.block b h.map.lt hb) (hk.block r h.lt hr)

theorem MapAt.range {t e : TypeId} (h : MapAt P k enc w b L) (K : Keyed P k) (ht : P.underlying t = some (.map k e)) :
    ∃ w', (Instr.range t (.map (some b))).run P w = .ok (.pointer (some ⟨w.heap.size, 0, none⟩)) w' ∧ RangeAt P k enc w' b w.heap.size L (fun kl => (lget L kl).isSome) L.length ∧ Keep NoB w w' ∧ w'.heap.size = w.heap.size + 1 := by
  obtain ⟨w', h1, h2, h3, h4⟩ := World.ownsMap.range h K ht
  have e1 : Maps.has (toD enc L) = fun kl => (lget L kl).isSome := funext fun kl => has_toD enc L kl
  rw [e1, size_toD] at h2
  exact ⟨w', h1, ⟨_, h2⟩, Keep.of_grown h3 (fun _ e => by cases e), h4⟩

theorem RangeAt.next (h : RangeAt P k enc w b r L left cnt) (K : Keyed P k) (ty : TypeId) :
    (cnt = 0 ∧ (∀ kl, left kl = false) ∧ (Instr.next (.pointer (some ⟨r, 0, none⟩)) false ty).run P w = .ok (.tuple #[.bool false]) w) ∨
    ∃ key x kl w' cnt', keyOf P k key = some kl ∧ left kl = true ∧ lget L kl = some x ∧ (Instr.next (.pointer (some ⟨r, 0, none⟩)) false ty).run P w = .ok (.tuple #[.bool true, key, enc x]) w' ∧
      RangeAt P k enc w' b r L (fun z => left z && !z.sameKey kl) cnt' ∧ cnt' < cnt ∧ Keep (OneB r) w w' ∧ w'.heap.size = w.heap.size ∧ (Instr.entry (.pointer (some ⟨r, 0, none⟩))).run P w' = .ok (.tuple #[key, enc x]) w' := by
  obtain ⟨n, h⟩ := h
  rcases h.next K ty with ⟨h1, h2, h3⟩ | ⟨key, v, kl, y, w', cnt', hkey, hl, hv, hat, hrun, hrg, hlt, hgr, hsz, hen⟩
  · exact Or.inl ⟨h1, h2, h3⟩
  · right
    simp only [tokR, Option.some.injEq] at hv
    subst hv
    simp only [atKey_toD] at hat
    cases hx : lget L kl with
    | none =>
      rw [hx] at hat
      have := hat .nil
      simp at this
    | some x =>
      rw [hx] at hat
      have := hat .nil
      simp only [DataW.held.injEq] at this
      subst this
      exact ⟨key, x, kl, w', cnt', hkey, hl, hx, hrun, ⟨n, hrg⟩, hlt, Keep.of_grown hgr (fun j e => by cases e; rfl), hsz, hen⟩

theorem RangeAt.drop {t e : TypeId} (h : RangeAt P k enc w b r L left cnt) (K : Keyed P k) (ht : P.underlying t = some (.map k e)) {key : Value} {kl : Lit} (hkey : keyOf P k key = some kl) (ty : TypeId) :
    ∃ w' cnt', (Builtin.delete_ #[t, k] ty #[.map (some b), key]).run P w = .ok (.tuple #[]) w' ∧ RangeAt P k enc w' b r (ldel L kl) (fun x => left x && !x.sameKey kl) cnt' ∧ cnt' ≤ cnt ∧ w.mapTurned w' b := by
  obtain ⟨n, h⟩ := h
  obtain ⟨w', cnt', h1, h2, h3, h4⟩ := h.drop K ht hkey ty
  rw [del_toD] at h2
  exact ⟨w', cnt', h1, ⟨n, h2⟩, h3, h4⟩

end

section
variable {α : Type} {P : Program} (w : World) {ops : Array Oper} {rest : List Oper} {o : Oper} {a : Act} {Q : Exit → Act → World → Prop}

theorem wpList_mrange (hg : o.guard = none) (m : Operand) (t : TypeId) (hop : o.op = Op.range t m) (k e : TypeId) (K : Keyed P k) (ht : P.underlying t = some (.map k e)) (enc : α → Value) (b : Nat) (L : List (Lit × α))
    (hm : a.eval m = .map (some b)) (h : MapAt P k enc w b L)
    (hK : ∀ w', RangeAt P k enc w' b w.heap.size L (fun kl => (lget L kl).isSome) L.length → Keep NoB w w' → w'.heap.size = w.heap.size + 1 → wpList P ops Q rest (a.put o.dst (.pointer (some ⟨w.heap.size, 0, none⟩))) w') :
    wpList P ops Q (o :: rest) a w := by
  refine wpList_plain hg fun K' hK' => ?_
  obtain ⟨w', hrun, r1, r2, r3⟩ := h.range K ht
  unfold Oper.wp
  simp [execOp, hop, hm, hrun, Result.andThen]
  exact hK' _ _ (hK w' r1 r2 r3)

/-- The step; 'mkK', 'invK': the keys' shape. -/
theorem wpList_mnext {κ : Type} (hg : o.guard = none) (it : Operand) (hop : o.op = Op.next it false) (k : TypeId) (K : Keyed P k) (enc : α → Value) (mkK : κ → Value)
    (invK : ∀ key kl, keyOf P k key = some kl → ∃ x, key = mkK x) (b r : Nat) (L : List (Lit × α)) (left : Lit → Bool) (cnt : Nat)
    (hit : a.eval it = .pointer (some ⟨r, 0, none⟩)) (h : RangeAt P k enc w b r L left cnt)
    (hDone : cnt = 0 → (∀ kl, left kl = false) → wpList P ops Q rest (a.put o.dst (.tuple #[.bool false])) w)
    (hMore : ∀ (s : κ) (x : α) (kl : Lit) (w' : World) (cnt' : Nat), keyOf P k (mkK s) = some kl → left kl = true → lget L kl = some x → RangeAt P k enc w' b r L (fun z => left z && !z.sameKey kl) cnt' → cnt' < cnt →
      Keep (OneB r) w w' → w'.heap.size = w.heap.size → (Instr.entry (.pointer (some ⟨r, 0, none⟩))).run P w' = .ok (.tuple #[mkK s, enc x]) w' → wpList P ops Q rest (a.put o.dst (.tuple #[.bool true, mkK s, enc x])) w') :
    wpList P ops Q (o :: rest) a w := by
  refine wpList_plain hg fun K' hK' => ?_
  unfold Oper.wp
  rcases h.next K o.type with ⟨h0, hl, hrun⟩ | ⟨key, x, kl, w', cnt', hkey, hlk, hx, hrun, hrg, hlt, hgr, hsz, hen⟩
  · simp [execOp, hop, hit, hrun, Result.andThen]
    exact hK' _ _ (hDone h0 hl)
  · obtain ⟨s, rfl⟩ := invK key kl hkey
    simp [execOp, hop, hit, hrun, Result.andThen]
    exact hK' _ _ (hMore s x kl w' cnt' hkey hlk hx hrg hlt hgr hsz hen)

theorem wpList_mdrop_range (hg : o.guard = none) (m x : Operand) (t k : TypeId) (hop : o.op = Op.call { callee := Callee.builtin Builtin.delete, args := #[m, x], argTypes := #[t, k] })
    (e : TypeId) (K : Keyed P k) (ht : P.underlying t = some (.map k e)) (enc : α → Value) (b r : Nat) (L : List (Lit × α)) (left : Lit → Bool) (cnt : Nat)
    (hm : a.eval m = .map (some b)) (h : RangeAt P k enc w b r L left cnt) (key : Value) (kl : Lit) (hx : a.eval x = key) (hkey : keyOf P k key = some kl)
    (hK : ∀ w' cnt', RangeAt P k enc w' b r (ldel L kl) (fun z => left z && !z.sameKey kl) cnt' → cnt' ≤ cnt → w.mapTurned w' b → wpList P ops Q rest (a.put o.dst (.tuple #[])) w') :
    wpList P ops Q (o :: rest) a w := by
  refine wpList_plain hg fun K' hK' => ?_
  obtain ⟨w', cnt', hrun, r1, r2, r3⟩ := h.drop K ht hkey o.type
  unfold Oper.wp
  simp [execOp, hop, resolve, invoke, builtin, hm, hx, hrun, Result.andThen]
  exact hK' _ _ (hK w' cnt' r1 r2 r3)
end

/-- An element laid at a key that is there. -/
def lset {α : Type} (L : List (Lit × α)) (k : Lit) (y : α) : List (Lit × α) := L.map (fun p => if p.1.sameKey k then (p.1, y) else p)

theorem keys_lset {α : Type} (L : List (Lit × α)) (k : Lit) (y : α) : (lset L k y).map (·.1) = L.map (·.1) := by
  unfold lset
  rw [List.map_map]
  apply List.map_congr_left
  intro p _
  simp only [Function.comp_def]
  split <;> rfl

theorem rising_lins {α : Type} {x : Lit × α} : ∀ {l : List (Lit × α)}, l.Pairwise (fun p q => p.1.before q.1 = true) → (∀ p ∈ l, x.1.before p.1 = true ∨ p.1.before x.1 = true) → (lins x l).Pairwise (fun p q => p.1.before q.1 = true)
  | [], _, _ => by simp [lins]
  | y :: r, h, hx => by
    obtain ⟨h1, h2⟩ := List.pairwise_cons.1 h
    unfold lins
    split
    · rename_i hb
      exact List.pairwise_cons.2 ⟨fun p hp => by
        rcases List.mem_cons.1 hp with e | hp
        · subst e; exact hb
        · exact before_trans hb (h1 p hp), h⟩
    · rename_i hb
      refine List.pairwise_cons.2 ⟨fun p hp => ?_, rising_lins h2 (fun p hp => hx p (by simp [hp]))⟩
      rcases mem_lins.1 hp with e | hp
      · subst e
        rcases hx y (by simp) with h | h
        · exact absurd h hb
        · exact h
      · exact h1 p hp

theorem eq_of_mem_rising' {α : Type} : ∀ {l₁ l₂ : List (Lit × α)}, l₁.Pairwise (fun p q => p.1.before q.1 = true) → l₂.Pairwise (fun p q => p.1.before q.1 = true) → (∀ p, p ∈ l₁ ↔ p ∈ l₂) → l₁ = l₂
  | [], [], _, _, _ => rfl
  | [], b :: s, _, _, h => by have := (h b).2 (by simp); simp at this
  | a :: r, [], _, _, h => by have := (h a).1 (by simp); simp at this
  | a :: r, b :: s, h1, h2, h => by
    obtain ⟨a1, a2⟩ := List.pairwise_cons.1 h1
    obtain ⟨b1, b2⟩ := List.pairwise_cons.1 h2
    have irr : ∀ x : Lit × α, ¬ x.1.before x.1 = true := fun x hx => by rw [before_irrefl] at hx; cases hx
    have hab : a = b := by
      rcases List.mem_cons.1 ((h a).1 (by simp)) with e | ha
      · exact e
      · rcases List.mem_cons.1 ((h b).2 (by simp)) with e | hb
        · exact e.symm
        · exact absurd (before_trans (a1 b hb) (b1 a ha)) (irr a)
    subst hab
    rw [eq_of_mem_rising' a2 b2 (fun p => ⟨fun hp => by
      rcases List.mem_cons.1 ((h p).1 (by simp [hp])) with e | hp'
      · have := a1 p hp; rw [e] at this; exact absurd this (irr a)
      · exact hp', fun hp => by
      rcases List.mem_cons.1 ((h p).2 (by simp [hp])) with e | hp'
      · have := b1 p hp; rw [e] at this; exact absurd this (irr a)
      · exact hp'⟩)]

/-- In a rising list whose keys are of one kind the two are one. -/
theorem lput_lset {α : Type} {L : List (Lit × α)} {k : Lit} {x y : α} (hr : L.Pairwise (fun p q => p.1.before q.1 = true)) (hk : WideAt.IsKeyLit k) (hg : lget L k = some x) : lput L k y = lset L k y := by
  have hap := apart_of_rising' hr
  have hm := mem_of_lget hg
  have hs : (lset L k y).Pairwise (fun p q => p.1.before q.1 = true) := by
    unfold lset
    rw [List.pairwise_map]
    refine hr.imp (fun {a b} h => ?_)
    split <;> split <;> exact h
  have tot : ∀ p ∈ ldel L k, k.before p.1 = true ∨ p.1.before k = true := fun p hp => by
    obtain ⟨hp, hne⟩ := List.mem_filter.1 hp
    have hne' : p.1 ≠ k := fun e => by rw [e, WideAt.sameKey_self hk] at hne; simp at hne
    obtain ⟨i, hi⟩ := List.getElem?_of_mem hm
    obtain ⟨j, hj⟩ := List.getElem?_of_mem hp
    obtain ⟨hi1, hi2⟩ := List.getElem?_eq_some_iff.1 hi
    obtain ⟨hj1, hj2⟩ := List.getElem?_eq_some_iff.1 hj
    rcases Nat.lt_trichotomy i j with h | h | h
    · have := List.pairwise_iff_getElem.1 hr i j hi1 hj1 h
      rw [hi2, hj2] at this
      exact Or.inl this
    · subst h
      rw [hi] at hj
      cases hj
      exact absurd rfl hne'
    · have := List.pairwise_iff_getElem.1 hr j i hj1 hi1 h
      rw [hi2, hj2] at this
      exact Or.inr this
  refine eq_of_mem_rising' (rising_lins (hr.filter _) (fun p hp => tot p hp)) hs (fun p => ?_)
  unfold lput lset
  rw [mem_lins, List.mem_map]
  constructor
  · rintro (rfl | hp)
    · exact ⟨(k, x), hm, by simp [WideAt.sameKey_self hk]⟩
    · obtain ⟨hp1, hp2⟩ := List.mem_filter.1 hp
      have : p.1.sameKey k = false := by simpa using hp2
      exact ⟨p, hp1, by simp [this]⟩
  · rintro ⟨q, hq, rfl⟩
    cases hs : q.1.sameKey k with
    | true =>
      left
      simp only [if_true]
      rw [WideAt.sameKey_eq hs]
    | false =>
      right
      simp only [Bool.false_eq_true, if_false]
      exact List.mem_filter.2 ⟨hq, by simp [hs]⟩

section
variable {α : Type} {P : Program} {k : TypeId} {enc : α → Value} {w w' : World} {b r : Nat} {L : List (Lit × α)} {left : Lit → Bool} {cnt : Nat}

theorem filter_map_born (seen : Array Nat) : ∀ (l l' : List MapEntry), l.map (·.born) = l'.map (·.born) → (l.filter fun e => !seen.contains e.born).length = (l'.filter fun e => !seen.contains e.born).length
  | [], [], _ => rfl
  | [], _ :: _, h => by simp at h
  | _ :: _, [], h => by simp at h
  | a :: l, a' :: l', h => by
    simp only [List.map_cons, List.cons.injEq] at h
    have ih := filter_map_born seen l l' h.2
    rw [List.filter_cons, List.filter_cons, h.1]
    split
    · rw [List.length_cons, List.length_cons, ih]
    · exact ih

/-- 'm[k] = v' in the round, at a key that is there: what is still to come stays so. -/
theorem RangeAt.store {t e : TypeId} (h : RangeAt P k enc w b r L left cnt) (K : Keyed P k) (ht : P.underlying t = some (.map k e)) (hn : L.length < maxLen) {key : Value} {kl : Lit} (x y : α)
    (hkey : keyOf P k key = some kl) (hx : lget L kl = some x) :
    ∃ w', (Instr.mapUpdate t (.map (some b)) key (enc y)).run P w = .ok () w' ∧ RangeAt P k enc w' b r (lset L kl y) left cnt ∧ w.mapTurned w' b := by
  have hput := lput_lset (y := y) (h.map.rising K).1 (K.key hkey) hx
  obtain ⟨w1, hrun1, hmap1, hturn1⟩ := h.map.store K ht hn y hkey
  have hne := h.ne
  refine ⟨w1, hrun1, ?_, hturn1⟩
  rw [hput] at hmap1
  obtain ⟨n, es, clock, since, seen, c0, hb, F, hs, hD, hr, hold, hcnt, hl1, hl2, hsc, hsk⟩ := h
  have hLn : L.length ≤ n := by
    have e1 : Maps.size (toD enc L) = es.size := by rw [hD]; simp [Maps.size, length_sorted]
    rw [size_toD] at e1
    omega
  rcases K.find w hkey es.toList F.keys with ⟨h1, h2⟩ | ⟨j, e0, h1, h2, h3⟩
  · -- the key is there
    exfalso
    have hmL : (kl, DataW.held (enc x)) ∈ (es.toList.map (rg P k tokR)).foldr DataW.insert [] := by
      simp only [toD, DataW.map.injEq] at hD
      rw [← hD]
      exact List.mem_map.2 ⟨(kl, x), mem_of_lget hx, rfl⟩
    obtain ⟨e1, he1, e2⟩ := List.mem_map.1 (mem_sorted.1 hmL)
    obtain ⟨z, hz⟩ := F.reads e1 he1
    have e3 := rd_key hz
    rw [rg_of hz] at e2
    rw [e2] at e3
    exact h2 e1 he1 (K.inj e3 hkey)
  · have hj : es[j]? = some e0 := by simpa using h2
    have hlist : (es.modify j (fun e' => { e' with key := key, val := enc y })).toList = es.toList.set j { e0 with key := key, val := enc y } := by rw [Array.toList_modify, ChangeMaps.modify_eq_set _ _ _ _ h2]
    have hrun2 : (Instr.mapUpdate t (.map (some b)) key (enc y)).run P w = .ok () (setBlock w b (.map (es.modify j fun e' => { e' with key := key, val := enc y }) clock)) := by
      simp [Instr.mapUpdate, run_underlying ht, MapKept.run_getObj_map hb, K.check w false hkey, h1, MapKept.run_setObj_map _ hb, Result.andThen, setBlock, hj, h3, K.stays w hkey]
    have hw1 : w1 = setBlock w b (.map (es.modify j fun e' => { e' with key := key, val := enc y }) clock) := by
      rw [hrun2] at hrun1
      injection hrun1 with _ h4
      exact h4.symm
    obtain ⟨es', clock', hb', F', hs', hD'⟩ := hmap1
    have hbs : w1.heap[b]? = some (.map (es.modify j fun e' => { e' with key := key, val := enc y }) clock) := by rw [hw1]; exact heap_setBlock_same hb _
    rw [hbs] at hb'
    injection hb' with hb'
    injection hb' with he hc
    subst he hc
    have hborn : (es.modify j (fun e' => { e' with key := key, val := enc y })).toList.map (·.born) = es.toList.map (·.born) := by
      rw [hlist, List.map_set]
      apply List.ext_getElem?
      intro i
      rw [List.getElem?_set]
      split
      · rename_i e
        subst e
        split
        · simp [h2]
        · rename_i hlt
          rw [List.getElem?_eq_none (by simpa using hlt)]
      · rfl
    have hmem : ∀ x' ∈ (es.modify j (fun e' => { e' with key := key, val := enc y })).toList, ∃ x0 ∈ es.toList, x'.born = x0.born ∧ x'.key = x0.key := fun x' hx' => by
      rw [hlist] at hx'
      obtain ⟨i, hi⟩ := List.getElem?_of_mem hx'
      rw [List.getElem?_set] at hi
      split at hi
      · split at hi
        · cases hi
          exact ⟨e0, List.mem_of_getElem? h2, rfl, h3.symm⟩
        · cases hi
      · exact ⟨x', List.mem_of_getElem? hi, rfl, rfl⟩
    have rgk : ∀ {x' x0 : MapEntry} {R R' : Value → Option (DataW Value × List MemPlace)}, (∃ z, rd P k R x' = some z) → (∃ z, rd P k R' x0 = some z) → x'.key = x0.key → (rg P k R x').1 = (rg P k R' x0).1 := fun {x' x0 R R'} ⟨z, hz⟩ ⟨z0, hz0⟩ e => by
      have a1 := rd_key hz
      have a2 := rd_key hz0
      rw [e, a2] at a1
      rw [rg_of hz, rg_of hz0]
      exact (Option.some.inj a1).symm
    refine ⟨n, es.modify j (fun e' => { e' with key := key, val := enc y }), clock, since, seen, c0, hbs, F', by rw [Array.size_modify]; exact hs, hD', ?_, ?_, ?_, ?_, ?_, hsc, hsk⟩
    · rw [hw1]; exact (heap_setBlock_other hb _ hne).trans hr
    · intro x' hx'
      obtain ⟨x0, h0, e1, _⟩ := hmem x' hx'
      rw [e1]
      exact hold x0 h0
    · rw [← hcnt]
      have e1 : ∀ a : Array MapEntry, (leftOf a seen).size = (a.toList.filter fun e => !seen.contains e.born).length := fun a => by
        unfold leftOf
        rw [← Array.toList_filter, Array.length_toList]
      rw [e1, e1]
      exact filter_map_born seen _ _ hborn
    · intro x' hx'
      obtain ⟨x0, h0, e1, e2⟩ := hmem x' hx'
      rw [rgk (F'.reads x' hx') (F.reads x0 h0) e2, e1]
      exact hl1 x0 h0
    · intro kl' hkl'
      obtain ⟨x0, h0, e1⟩ := hl2 kl' hkl'
      obtain ⟨i, hi⟩ := List.getElem?_of_mem h0
      by_cases hij : i = j
      · subst hij
        rw [h2] at hi
        cases hi
        have hin : ({ e0 with key := key, val := enc y } : MapEntry) ∈ (es.modify i (fun e' => { e' with key := key, val := enc y })).toList := by
          rw [hlist]
          exact List.mem_of_getElem? (i := i) (by rw [List.getElem?_set_self (List.getElem?_eq_some_iff.1 h2).1])
        exact ⟨_, hin, (rgk (F'.reads _ hin) (F.reads _ h0) h3.symm).trans e1⟩
      · have hin : x0 ∈ (es.modify j (fun e' => { e' with key := key, val := enc y })).toList := by
          rw [hlist]
          exact List.mem_of_getElem? (i := i) (by rw [List.getElem?_set_ne (Ne.symm hij)]; exact hi)
        exact ⟨x0, hin, (rgk (F'.reads _ hin) (F.reads _ h0) rfl).trans e1⟩
end

section
variable {α : Type} {P : Program} (w : World) {ops : Array Oper} {rest : List Oper} {o : Oper} {a : Act} {Q : Exit → Act → World → Prop}
theorem wpList_mstore_range (hg : o.guard = none) (m x v : Operand) (t : TypeId) (hop : o.op = Op.mapUpdate t m x v)
    (k e : TypeId) (K : Keyed P k) (ht : P.underlying t = some (.map k e)) (enc : α → Value) (b r : Nat) (L : List (Lit × α)) (left : Lit → Bool) (cnt : Nat)
    (hm : a.eval m = .map (some b)) (h : RangeAt P k enc w b r L left cnt) (hn : L.length < maxLen) (key : Value) (kl : Lit) (y0 y : α) (hx : a.eval x = key) (hv : a.eval v = enc y) (hkey : keyOf P k key = some kl) (hy : lget L kl = some y0)
    (hK : ∀ w', RangeAt P k enc w' b r (lset L kl y) left cnt → w.mapTurned w' b → wpList P ops Q rest (a.put o.dst undef) w') :
    wpList P ops Q (o :: rest) a w := by
  refine wpList_plain hg fun K' hK' => ?_
  obtain ⟨w', hrun, r1, r2⟩ := h.store K ht hn y0 y hkey hy
  unfold Oper.wp
  simp [execOp, hop, hm, hx, hv, hrun, Result.andThen]
  exact hK' _ _ (hK w' r1 r2)
end

theorem keyOf_string_inv {P : Program} {k : TypeId} (hk : P.underlying k = some .string) {key : Value} {kl : Lit} (h : keyOf P k key = some kl) : ∃ s, key = .string s := by
  cases key <;> simp [keyOf, hk, mapKey] at h
  exact ⟨_, rfl⟩

#print axioms wpList_mnext
end Go.Proofs.YtopgepifakdpfaaDoor
