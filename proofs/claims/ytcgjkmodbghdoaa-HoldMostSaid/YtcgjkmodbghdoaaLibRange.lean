/- A range over a map that is written in the round. -/
import Derived.Test.YtcgjkmodbghdoaaLibMap
namespace Go.Proofs.Ytcgjkmodbghdoaa
open Go Go.RowKit Go.Maps Go.WideShapes Go.ChangeMaps Go.MapKept
open Go.WideElems (Fit rd rg pl rd_key rd_val rg_of rd_mk other_key)

section
variable {α : Type} {P : Program} {k : TypeId} {enc : α → Value} {w w' : World} {b r : Nat} {L : List (Lit × α)} {left : Lit → Bool} {cnt : Nat}

/-- The map in block b holds L; block r is a range over it, of whose entries those are still to come whose keys 'left' tells, cnt in number. -/
def RangeAt (P : Program) (k : TypeId) (enc : α → Value) (w : World) (b r : Nat) (L : List (Lit × α)) (left : Lit → Bool) (cnt : Nat) : Prop := ∃ n, w.ranges P k tokR b r n (toD enc L) left cnt

theorem RangeAt.map (h : RangeAt P k enc w b r L left cnt) : MapAt P k enc w b L := let ⟨_, h⟩ := h; .mk h.owns
theorem RangeAt.ne (h : RangeAt P k enc w b r L left cnt) : r ≠ b := let ⟨_, h⟩ := h; h.ne
theorem RangeAt.lt (h : RangeAt P k enc w b r L left cnt) : r < w.heap.size := let ⟨_, h⟩ := h; h.lt
theorem RangeAt.left_eq (h : RangeAt P k enc w b r L left cnt) : w.rangeLeft b r = cnt := let ⟨_, h⟩ := h; h.left_eq
theorem RangeAt.of_blocks (h : RangeAt P k enc w b r L left cnt) (hb : w'.heap[b]? = w.heap[b]?) (hr : w'.heap[r]? = w.heap[r]?) : RangeAt P k enc w' b r L left cnt := by
  obtain ⟨n, es, clock, since, seen, c0, h1, F, hs, hD, h2, rest⟩ := h
  exact ⟨n, es, clock, since, seen, c0, hb.trans h1, F, hs, hD, hr.trans h2, rest⟩
theorem RangeAt.keep {S : Nat → Prop} (h : RangeAt P k enc w b r L left cnt) (hk : Keep S w w') (hb : ¬ S b) (hr : ¬ S r) : RangeAt P k enc w' b r L left cnt :=
  h.of_blocks (hk.block b h.map.lt hb) (hk.block r h.lt hr)

theorem MapAt.range {t e : TypeId} (h : MapAt P k enc w b L) (K : Keyed P k) (ht : P.underlying t = some (.map k e)) :
    ∃ w', (Instr.range t (.map (some b))).run P w = .ok (.pointer (some ⟨w.heap.size, 0, none⟩)) w' ∧ RangeAt P k enc w' b w.heap.size L (fun kl => (lget L kl).isSome) L.length ∧ Keep NoB w w' ∧ w'.heap.size = w.heap.size + 1 := by
  obtain ⟨w', h1, h2, h3, h4⟩ := World.ownsMap.range h K ht
  have e1 : Maps.has (toD enc L) = fun kl => (lget L kl).isSome := funext fun kl => has_toD enc L kl
  rw [e1, size_toD] at h2
  exact ⟨w', h1, ⟨_, h2⟩, Keep.of_grown h3 (fun _ e => by cases e), h4⟩

theorem RangeAt.next (h : RangeAt P k enc w b r L left cnt) (K : Keyed P k) (ty : TypeId) :
    (cnt = 0 ∧ (∀ kl, left kl = false) ∧ (Instr.next (.pointer (some ⟨r, 0, none⟩)) false ty).run P w = .ok (.tuple #[.bool false]) w) ∨
    ∃ key x kl w' cnt', keyOf P k key = some kl ∧ left kl = true ∧ lget L kl = some x ∧ (Instr.next (.pointer (some ⟨r, 0, none⟩)) false ty).run P w = .ok (.tuple #[.bool true, key, enc x]) w' ∧
      RangeAt P k enc w' b r L (fun z => left z && !z.sameKey kl) cnt' ∧ cnt' < cnt ∧ Keep (OneB r) w w' ∧ w'.heap.size = w.heap.size ∧ (Instr.entry (.pointer (some ⟨r, 0, none⟩))).run P w' = .ok (.tuple #[key, enc x]) w' := by
  obtain ⟨n, h⟩ := h
  rcases h.next K ty with ⟨h1, h2, h3⟩ | ⟨key, v, kl, y, w', cnt', hkey, hl, hv, hat, hrun, hrg, hlt, hgr, hsz, hen⟩
  · exact Or.inl ⟨h1, h2, h3⟩
  · right
    simp only [tokR, Option.some.injEq] at hv
    subst hv
    simp only [atKey_toD] at hat
    cases hx : lget L kl with
    | none =>
      rw [hx] at hat
      have := hat .nil
      simp at this
    | some x =>
      rw [hx] at hat
      have := hat .nil
      simp only [DataW.held.injEq] at this
      subst this
      exact ⟨key, x, kl, w', cnt', hkey, hl, hx, hrun, ⟨n, hrg⟩, hlt, Keep.of_grown hgr (fun j e => by cases e; rfl), hsz, hen⟩

theorem RangeAt.drop {t e : TypeId} (h : RangeAt P k enc w b r L left cnt) (K : Keyed P k) (ht : P.underlying t = some (.map k e)) {key : Value} {kl : Lit} (hkey : keyOf P k key = some kl) (ty : TypeId) :
    ∃ w' cnt', (Builtin.delete_ #[t, k] ty #[.map (some b), key]).run P w = .ok (.tuple #[]) w' ∧ RangeAt P k enc w' b r (ldel L kl) (fun x => left x && !x.sameKey kl) cnt' ∧ cnt' ≤ cnt ∧ w.mapTurned w' b := by
  obtain ⟨n, h⟩ := h
  obtain ⟨w', cnt', h1, h2, h3, h4⟩ := h.drop K ht hkey ty
  rw [del_toD] at h2
  exact ⟨w', cnt', h1, ⟨n, h2⟩, h3, h4⟩

end

section
variable {α : Type} {P : Program} (w : World) {ops : Array Oper} {rest : List Oper} {o : Oper} {a : Act} {Q : Exit → Act → World → Prop}

theorem wpList_mrange (hg : o.guard = none) (m : Operand) (t : TypeId) (hop : o.op = Op.range t m) (k e : TypeId) (K : Keyed P k) (ht : P.underlying t = some (.map k e)) (enc : α → Value) (b : Nat) (L : List (Lit × α))
    (hm : a.eval m = .map (some b)) (h : MapAt P k enc w b L)
    (hK : ∀ w', RangeAt P k enc w' b w.heap.size L (fun kl => (lget L kl).isSome) L.length → Keep NoB w w' → w'.heap.size = w.heap.size + 1 → wpList P ops Q rest (a.put o.dst (.pointer (some ⟨w.heap.size, 0, none⟩))) w') :
    wpList P ops Q (o :: rest) a w := by
  refine wpList_plain hg fun K' hK' => ?_
  obtain ⟨w', hrun, r1, r2, r3⟩ := h.range K ht
  unfold Oper.wp
  simp [execOp, hop, hm, hrun, Result.andThen]
  exact hK' _ _ (hK w' r1 r2 r3)

/-- The step; 'mkK', 'invK': the keys' shape. -/
theorem wpList_mnext {κ : Type} (hg : o.guard = none) (it : Operand) (hop : o.op = Op.next it false) (k : TypeId) (K : Keyed P k) (enc : α → Value) (mkK : κ → Value)
    (invK : ∀ key kl, keyOf P k key = some kl → ∃ x, key = mkK x) (b r : Nat) (L : List (Lit × α)) (left : Lit → Bool) (cnt : Nat)
    (hit : a.eval it = .pointer (some ⟨r, 0, none⟩)) (h : RangeAt P k enc w b r L left cnt)
    (hDone : cnt = 0 → (∀ kl, left kl = false) → wpList P ops Q rest (a.put o.dst (.tuple #[.bool false])) w)
    (hMore : ∀ (s : κ) (x : α) (kl : Lit) (w' : World) (cnt' : Nat), keyOf P k (mkK s) = some kl → left kl = true → lget L kl = some x → RangeAt P k enc w' b r L (fun z => left z && !z.sameKey kl) cnt' → cnt' < cnt →
      Keep (OneB r) w w' → w'.heap.size = w.heap.size → (Instr.entry (.pointer (some ⟨r, 0, none⟩))).run P w' = .ok (.tuple #[mkK s, enc x]) w' → wpList P ops Q rest (a.put o.dst (.tuple #[.bool true, mkK s, enc x])) w') :
    wpList P ops Q (o :: rest) a w := by
  refine wpList_plain hg fun K' hK' => ?_
  unfold Oper.wp
  rcases h.next K o.type with ⟨h0, hl, hrun⟩ | ⟨key, x, kl, w', cnt', hkey, hlk, hx, hrun, hrg, hlt, hgr, hsz, hen⟩
  · simp [execOp, hop, hit, hrun, Result.andThen]
    exact hK' _ _ (hDone h0 hl)
  · obtain ⟨s, rfl⟩ := invK key kl hkey
    simp [execOp, hop, hit, hrun, Result.andThen]
    exact hK' _ _ (hMore s x kl w' cnt' hkey hlk hx hrg hlt hgr hsz hen)

theorem wpList_mdrop_range (hg : o.guard = none) (m x : Operand) (t k : TypeId) (hop : o.op = Op.call { callee := Callee.builtin Builtin.delete, args := #[m, x], argTypes := #[t, k] })
    (e : TypeId) (K : Keyed P k) (ht : P.underlying t = some (.map k e)) (enc : α → Value) (b r : Nat) (L : List (Lit × α)) (left : Lit → Bool) (cnt : Nat)
    (hm : a.eval m = .map (some b)) (h : RangeAt P k enc w b r L left cnt) (key : Value) (kl : Lit) (hx : a.eval x = key) (hkey : keyOf P k key = some kl)
    (hK : ∀ w' cnt', RangeAt P k enc w' b r (ldel L kl) (fun z => left z && !z.sameKey kl) cnt' → cnt' ≤ cnt → w.mapTurned w' b → wpList P ops Q rest (a.put o.dst (.tuple #[])) w') :
    wpList P ops Q (o :: rest) a w := by
  refine wpList_plain hg fun K' hK' => ?_
  obtain ⟨w', cnt', hrun, r1, r2, r3⟩ := h.drop K ht hkey o.type
  unfold Oper.wp
  simp [execOp, hop, resolve, invoke, builtin, hm, hx, hrun, Result.andThen]
  exact hK' _ _ (hK w' cnt' r1 r2 r3)
end

theorem keyOf_string_inv {P : Program} {k : TypeId} (hk : P.underlying k = some .string) {key : Value} {kl : Lit} (h : keyOf P k key = some kl) : ∃ s, key = .string s := by
  cases key <;> simp [keyOf, hk, mapKey] at h
  exact ⟨_, rfl⟩

#print axioms wpList_mnext
end Go.Proofs.Ytcgjkmodbghdoaa
