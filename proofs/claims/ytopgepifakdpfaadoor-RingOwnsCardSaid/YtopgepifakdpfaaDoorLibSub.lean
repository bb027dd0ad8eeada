/- Appends of a part of a slice, nil or not. -/
import Derived.Test.YtopgepifakdpfaaDoorLibKs
namespace Go.Proofs.YtopgepifakdpfaaDoor
open Go Go.RowKit Go.Maps

/-- A slice, nil or not, that reads as the list M. -/
def Sub {α : Type} (w : World) (enc : α → List Value) (v : Value) (M : List α) : Prop :=
  ∃ ad c, v = .slice ad M.length c ∧ (M = [] ∨ ∃ b off, ad = some ⟨b, off, none⟩ ∧ b < w.heap.size ∧ ∀ j u, (M.flatMap enc)[j]? = some u → w.cell? ⟨b, off + j, none⟩ = some u)

section
variable {α : Type} {w w' : World} {enc : α → List Value} {v : Value} {M N : List α} {B : Nat} {e : TypeId} {size : Nat}
theorem Sub.keep (h : Sub w enc v M) (hk : Keep NoB w w') : Sub w' enc v M := by
  obtain ⟨ad, c, hv, h⟩ := h
  refine ⟨ad, c, hv, ?_⟩
  rcases h with h | ⟨b, off, ha, hb, hc⟩
  · exact Or.inl h
  · exact Or.inr ⟨b, off, ha, Nat.lt_of_lt_of_le hb hk.size, fun j u hu => hk.some (hc j u hu) (fun h => h)⟩
theorem Sub.nil {ad : Option Addr} {c : Nat} : Sub w enc (.slice ad 0 c) ([] : List α) := ⟨ad, c, rfl, Or.inl rfl⟩
theorem Sub.nil2 {ad : Option Addr} {n c : Nat} (hM : M = []) (hn : n = 0) : Sub w enc (.slice ad n c) M := by
  subst hM hn
  exact Sub.nil
/-- The beginning of a slice of one's own. -/
theorem Own.take {a : Option Addr} {cap : Nat} (h : Own w B e size enc (.slice a N.length cap) N) (henc : ∀ x, (enc x).length = size) {i : Nat} (hi : i ≤ N.length) (c : Nat) : Sub w enc (.slice a i c) (N.take i) := by
  refine ⟨a, c, by rw [List.length_take, Nat.min_eq_left hi], ?_⟩
  by_cases hN : N = []
  · exact Or.inl (by rw [hN]; simp)
  · obtain ⟨g, rfl, _, hg⟩ := Own.some h hN
    refine Or.inr ⟨g, 0, rfl, hg, fun j u hu => ?_⟩
    have h0 := h.from henc 0 j u
    simp only [Nat.zero_mul, List.drop_zero] at h0
    have hadd : (⟨g, 0, none⟩ : Addr).add j = ⟨g, 0 + j, none⟩ := by unfold Addr.add; split <;> simp_all
    rw [hadd] at h0
    apply h0
    conv => lhs; rw [← List.take_append_drop i N, List.flatMap_append]
    rw [List.getElem?_append_left (List.getElem?_eq_some_iff.1 hu).1]
    exact hu
/-- What is left from i on. -/
theorem Own.drop {g cap : Nat} (h : Own w B e size enc (.slice (Option.some ⟨g, 0, none⟩) N.length cap) N) (henc : ∀ x, (enc x).length = size) (i : Nat) (c : Nat) : Sub w enc (.slice (Option.some ⟨g, i * size, none⟩) (N.length - i) c) (N.drop i) := by
  refine ⟨_, c, by rw [List.length_drop], ?_⟩
  by_cases hN : N = []
  · exact Or.inl (by rw [hN]; simp)
  · obtain ⟨g', e', _, hg⟩ := Own.some h hN
    cases e'
    refine Or.inr ⟨g, i * size, rfl, hg, fun j u hu => ?_⟩
    have h0 := h.from henc i j u hu
    have hadd : (⟨g, i * size, none⟩ : Addr).add j = ⟨g, i * size + j, none⟩ := by
      unfold Addr.add
      split
      · rename_i h; subst h; rfl
      · rfl
    rw [hadd] at h0
    exact h0
/-- What an own slice may be. -/
theorem Own.shape2 {a : Option Addr} {n cap : Nat} (h : Own w B e size enc (.slice a n cap) N) : (a = Option.none ∧ cap = 0 ∧ N = []) ∨ ∃ g, a = Option.some ⟨g, 0, Option.none⟩ ∧ B ≤ g ∧ g < w.heap.size := by
  rcases h.2 with ⟨h', hn⟩ | ⟨g, cap', cur, h', hb, hg, _⟩
  · cases h'
    exact Or.inl ⟨rfl, rfl, List.eq_nil_of_length_eq_zero hn⟩
  · cases h'
    exact Or.inr ⟨g, rfl, hb, blk_lt hg⟩
end

theorem run_append_own_none {P : Program} (w : World) {base : Nat} (t ty e : TypeId) (i : TypeInfo) {size : Nat} (ht : P.underlying t = some (.slice e)) (hi : P.info? e = some i) {v : Value} {n : Nat} {xs : List Value} (hown : w.ownsRow base e size v n xs) (c : Nat) :
    (Builtin.append_ #[t, t] ty #[v, .slice none 0 c]).run P w = .ok v w := by
  rcases hown.2 with ⟨rfl, hn⟩ | ⟨g, cap, cur, rfl, hbg, hg, hnc, hcm, hcs, htake⟩
  · subst hn
    simp [Builtin.append_, run_underlying ht, sizeOf, typeInfo, hi, Builtin.lenOf, Builtin.firstCells]
  · simp [Builtin.append_, run_underlying ht, sizeOf, typeInfo, hi, Builtin.lenOf, Builtin.firstCells, hnc, storeCells]

section
variable {α : Type} {P : Program} {w : World} {ops : Array Oper} {rest : List Oper} {o : Oper} {a : Act} {Q : Exit → Act → World → Prop}
/-- 's = append(s, x...)', x a part of a slice, nil or not. -/
theorem wpList_append_sub (hgd : o.guard = none) (s x : Operand) (t : TypeId) (ho : o.op = .call { callee := .builtin .append, args := #[s, x], argTypes := #[t, t] })
    {e : TypeId} {z : Value} {size bytes : Nat} (ht : P.underlying t = some (.slice e)) (hinfo : (P.info? e).map (fun i => (i.zero, i.size, i.bytes)) = some (some z, size, bytes)) (hzs : z.cells.size = size) (hsz : 0 < size) (hb0 : 0 < bytes)
    {B : Nat} {enc : α → List Value} {v : Value} {N : List α} (hs : a.eval s = v) (hown : Own w B e size enc v N) (henc : ∀ x, (enc x).length = size) (h1 : ∀ x, ∀ u ∈ enc x, u.oneCell' = true)
    {u : Value} {M : List α} (hx : a.eval x = u) (hr : Sub w enc u M)
    (hbytes : (N.length + M.length) * bytes ≤ 140737488355328) (hbase : B ≤ w.heap.size) {N' : List α} (hN' : N ++ M = N')
    (h : ∀ a' cap' w', Own w' B e size enc (.slice a' N'.length cap') N' → Keep (fun g => v.ownBlock = some g) w w' → wpList P ops Q rest (a.put o.dst (.slice a' N'.length cap')) w') : wpList P ops Q (o :: rest) a w := by
  obtain ⟨ad, c, rfl, hr⟩ := hr
  cases ad with
  | some ad =>
    refine wpList_append_list hgd s x t ho ht hinfo hzs hsz hb0 hs hown henc h1 M hx rfl ?_ hbytes hbase hN' h
    intro j y hj
    rcases hr with rfl | ⟨b, off, ha, _, hc⟩
    · simp at hj
    · cases ha
      have hadd : (⟨b, off, none⟩ : Addr).add j = ⟨b, off + j, none⟩ := by
        unfold Addr.add
        split
        · rename_i h; subst h; rfl
        · rfl
      rw [hadd]
      exact hc j y hj
  | none =>
    have hM : M = [] := by
      rcases hr with h0 | ⟨b, off, ha, _⟩
      · exact h0
      · cases ha
    subst hM
    rw [List.append_nil] at hN'
    subst hN'
    obtain ⟨i, hi, _⟩ := info_parts hinfo
    obtain ⟨a', c', rfl⟩ := hown.shape
    have hrun := run_append_own_none (P := P) w t o.type e i ht hi hown c
    refine wpList_plain hgd fun K hK => ?_
    unfold Oper.wp
    simp [execOp, ho, resolve, invoke, builtin, hs, hx, hrun, Result.andThen]
    exact hK _ _ (h a' c' w hown (Keep.refl _ _))
end
end Go.Proofs.YtopgepifakdpfaaDoor
