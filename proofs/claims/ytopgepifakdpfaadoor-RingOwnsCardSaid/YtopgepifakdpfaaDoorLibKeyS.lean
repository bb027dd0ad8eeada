/- The keys of a map from texts, collected in a range. -/
import Derived.Test.YtopgepifakdpfaaDoorLibRange
import Derived.Test.YtopgepifakdpfaaDoorLibSortS
namespace Go.Proofs.YtopgepifakdpfaaDoor
open Go Go.RowKit Go.Maps Go.Sort

variable {α : Type}

theorem MapAt.key_of {P : Program} {k : TypeId} {enc : α → Value} {w : World} {b : Nat} {L : List (Lit × α)} (h : MapAt P k enc w b L) {p : Lit × α} (hp : p ∈ L) : ∃ key, keyOf P k key = some p.1 := by
  obtain ⟨es, clock, hb, F, hs, hD⟩ := h
  have hmL : (p.1, DataW.held (enc p.2)) ∈ (es.toList.map (Go.WideElems.rg P k tokR)).foldr DataW.insert [] := by
    simp only [toD, DataW.map.injEq] at hD
    rw [← hD]
    exact List.mem_map.2 ⟨p, hp, rfl⟩
  obtain ⟨e1, he1, e2⟩ := List.mem_map.1 (mem_sorted.1 hmL)
  obtain ⟨z, hz⟩ := F.reads e1 he1
  have e3 := Go.WideElems.rd_key hz
  rw [Go.WideElems.rg_of hz] at e2
  rw [e2] at e3
  exact ⟨_, e3⟩

theorem keyOf_string_inv' {P : Program} {k : TypeId} (hk : P.underlying k = some .string) {key : Value} {kl : Lit} (h : keyOf P k key = some kl) : ∃ s : ByteArray, key = .string s ∧ kl = .string (bs s) ∧ s.size ≤ maxLen := by
  obtain ⟨s, rfl⟩ := keyOf_string_inv hk h
  by_cases hs : s.size ≤ maxLen
  · have := WideMaps.keyOf_string_mk hk hs
    rw [this] at h
    cases h
    exact ⟨s, rfl, rfl, hs⟩
  · simp [keyOf, hk, mapKey, hs] at h

/-- The key of a text. -/
def kT (s : ByteArray) : Lit := .string (bs s)
theorem kT_key (s : ByteArray) : WideAt.IsKeyLit (kT s) := trivial
theorem kT_inj {a b : ByteArray} (h : kT a = kT b) : a = b := bs_inj (by simpa [kT] using h)
def txt : Lit → ByteArray
  | .string l => ⟨l.toArray⟩
  | _ => ⟨#[]⟩
theorem txt_kT (s : ByteArray) : txt (kT s) = s := bs_mk s
/-- All keys, rising. -/
def keysOf (L : List (Lit × α)) : List ByteArray := L.map (fun p => txt p.1)
theorem keysOf_length (L : List (Lit × α)) : (keysOf L).length = L.length := by simp [keysOf]
def KeysS (L : List (Lit × α)) : Prop := ∀ p ∈ L, ∃ s : ByteArray, p.1 = kT s ∧ s.size ≤ maxLen

theorem keysS {P : Program} {k : TypeId} (hk : P.underlying k = some .string) {enc : α → Value} {w : World} {b : Nat} {L : List (Lit × α)} (h : MapAt P k enc w b L) : KeysS L := by
  intro p hp
  obtain ⟨key, h1⟩ := h.key_of hp
  obtain ⟨s, _, e, hs⟩ := keyOf_string_inv' hk h1
  exact ⟨s, e, hs⟩

theorem keysOf_mem {L : List (Lit × α)} (hk : KeysS L) (ha : Apart L) (s : ByteArray) : s ∈ keysOf L ↔ (lget L (kT s)).isSome = true := by
  unfold keysOf
  rw [List.mem_map]
  constructor
  · rintro ⟨q, hq, rfl⟩
    obtain ⟨s, e, _⟩ := hk q hq
    obtain ⟨q1, q2⟩ := q
    simp only at e
    subst e
    rw [txt_kT, lget_of_mem ha (kT_key _) hq]
    rfl
  · intro h
    obtain ⟨v, hv⟩ := Option.isSome_iff_exists.1 h
    exact ⟨_, mem_of_lget hv, txt_kT s⟩
theorem keysOf_rising {L : List (Lit × α)} (hk : KeysS L) (hr : L.Pairwise (fun p q => p.1.before q.1 = true)) : (keysOf L).Pairwise (fun x y => bs x < bs y) := by
  unfold keysOf
  rw [List.pairwise_map]
  refine List.Pairwise.imp_of_mem (fun {p q} hp hq h => ?_) hr
  obtain ⟨s, e, _⟩ := hk p hp
  obtain ⟨s', e', _⟩ := hk q hq
  rw [e, e'] at h ⊢
  rw [txt_kT, txt_kT]
  exact before_lt h

/-- What a range has brought so far. -/
def SeenK (N : List ByteArray) (L : List (Lit × α)) (left : Lit → Bool) : Prop := N.Nodup ∧ ∀ s : ByteArray, s ∈ N ↔ (lget L (kT s)).isSome = true ∧ left (kT s) = false
theorem seenK_start (L : List (Lit × α)) : SeenK [] L (fun kl => (lget L kl).isSome) := by
  refine ⟨by simp, fun p => ⟨(fun h => by cases h), fun ⟨h1, h2⟩ => ?_⟩⟩
  have h2' : (lget L (kT p)).isSome = false := h2
  rw [h1] at h2'
  cases h2'
theorem seenK_step {N : List ByteArray} {L : List (Lit × α)} {left : Lit → Bool} (h : SeenK N L left) {s : ByteArray} {x : α} (hl : left (kT s) = true) (hx : lget L (kT s) = some x) : SeenK (N ++ [s]) L (fun z => left z && !z.sameKey (kT s)) := by
  refine ⟨?_, fun p => ?_⟩
  · rw [List.nodup_append]
    refine ⟨h.1, by simp, fun a ha' b hb e => ?_⟩
    simp only [List.mem_singleton] at hb
    subst hb
    subst e
    have := ((h.2 _).1 ha').2
    rw [hl] at this
    cases this
  · rw [List.mem_append, h.2 p, List.mem_singleton]
    constructor
    · rintro (⟨h1, h2⟩ | rfl)
      · exact ⟨h1, by simp [h2]⟩
      · exact ⟨by rw [hx]; rfl, by simp [WideAt.sameKey_self (kT_key _)]⟩
    · rintro ⟨h1, h2⟩
      cases hs : (kT p).sameKey (kT s) with
      | true => exact Or.inr (kT_inj (WideAt.sameKey_eq hs))
      | false =>
        left
        have h2' : (left (kT p) && !(kT p).sameKey (kT s)) = false := h2
        rw [hs] at h2'
        exact ⟨h1, by simpa using h2'⟩
theorem seenK_end {N : List ByteArray} {L : List (Lit × α)} {left : Lit → Bool} (h : SeenK N L left) (hl : ∀ kl, left kl = false) (hk : KeysS L) (ha : Apart L) (hr : L.Pairwise (fun p q => p.1.before q.1 = true)) : N.Perm (keysOf L) := by
  have h2 : (keysOf L).Nodup := (keysOf_rising hk hr).imp (fun {x y} h e => by rw [e] at h; exact absurd h (List.lt_irrefl _))
  rw [List.perm_ext_iff_of_nodup h.1 h2]
  intro p
  rw [h.2 p, keysOf_mem hk ha p]
  simp [hl]

/-! ### the tests of texts, in the walk's form -/
theorem tx_ne {x y : ByteArray} (h : x ≠ y) : (x.toList == y.toList) = false := by
  rw [ByteArray.toList_eq, ByteArray.toList_eq, beq_eq_false_iff_ne]
  exact fun e => h (bs_inj e)
theorem less_of : ∀ {a b : List UInt8}, a < b → Op.bytesLess a b = true
  | _, [], h => by simp at h
  | [], _ :: _, _ => rfl
  | x :: a, y :: b, h => by
    rw [List.cons_lt_cons_iff] at h
    simp only [Op.bytesLess, Bool.or_eq_true, Bool.and_eq_true, decide_eq_true_eq, beq_iff_eq]
    rcases h with h | ⟨rfl, h⟩
    · exact Or.inl h
    · exact Or.inr ⟨rfl, less_of h⟩
theorem of_less : ∀ {a b : List UInt8}, Op.bytesLess a b = true → a < b
  | _, [], h => by simp [Op.bytesLess] at h
  | [], _ :: _, _ => by simp
  | x :: a, y :: b, h => by
    rw [List.cons_lt_cons_iff]
    simp only [Op.bytesLess, Bool.or_eq_true, Bool.and_eq_true, decide_eq_true_eq, beq_iff_eq] at h
    rcases h with h | ⟨rfl, h⟩
    · exact Or.inl h
    · exact Or.inr ⟨rfl, of_less h⟩
theorem tx_lt {x y : ByteArray} (h : bs x < bs y) : Op.bytesLess x.toList y.toList = true := by
  rw [ByteArray.toList_eq, ByteArray.toList_eq]
  exact less_of h
end Go.Proofs.YtopgepifakdpfaaDoor
