/- What a type's cells hold, by kinds: structs of whole numbers, texts, bools and slices, whatever their nesting; slices of these. -/
import Derived.Deep.Slices
import Derived.Deep.Fields
import Derived.ProofKit
import Derived.Below
import Derived.Carry
import Derived.OpenShut
import Derived.SizedLaws
namespace Go.Proofs.YtopgepifakdpfaaDoor
open Go Go.RowKit Go.ChangeShapes Go.WideShapes Go.Deep

/-- The kinds of cells. -/
inductive CK where
  | i (k : IntKind) | s | b | sl (e : TypeId)

def flatFs (F : TypeId → Option (List CK)) (P : Program) : List Field → Nat → Option (List CK)
  | [], _ => some []
  | f :: r, o =>
    if f.offset = o then
      match F f.type with
      | some ks => if P.cellsOf f.type = ks.length then (flatFs F P r (o + ks.length)).map (ks ++ ·) else none
      | none => none
    else none

def rep (ks : List CK) : Nat → List CK
  | 0 => []
  | n + 1 => ks ++ rep ks n

/-- The kinds of a type's cells, nested structs laid flat. -/
def flat (P : Program) : Nat → TypeId → Option (List CK)
  | 0, _ => none
  | n + 1, t =>
    match P.underlying t with
    | some .bool => some [.b]
    | some (.int k) => some [.i k]
    | some .string => some [.s]
    | some (.slice e) => some [.sl e]
    | some (.struct fs) =>
      match flatFs (flat P n) P fs.toList 0 with
      | some ks => if P.cellsOf t = ks.length then some ks else none
      | none => none
    | some (.array m e) =>
      match flat P n e with
      | some ks => if P.cellsOf e = ks.length ∧ P.cellsOf t = m * ks.length then some (rep ks m) else none
      | none => none
    | _ => none

section
variable {H : Type} (enc : TypeId × Value → H) (P : Program) (w : World) (base : Nat) (sp : Nat → Bool) (held : Bool)

/-- A cell holds what its kind says. -/
def CKok : CK → Value → Prop
  | .i k, v => ∃ n, v = .int k n ∧ (Lit.int k n).wf = true
  | .s, v => ∃ s : ByteArray, v = .string s ∧ s.size ≤ maxLen
  | .b, v => ∃ c, v = .bool c
  | .sl e, v => v = .slice none 0 0 ∨ ∃ a len cap, v = .slice (some a) len cap ∧ len ≤ cap ∧ cap ≤ maxLen ∧
      ∀ i, i < len → ∃ cs n x, w.cells? base (a.add (i * P.cellsOf e)) (P.cellsOf e) = some cs ∧ DataW.trod enc P w base sp held n e cs = some x

def CKall : List CK → List Value → Prop
  | [], [] => True
  | k :: ks, v :: vs => CKok enc P w base sp held k v ∧ CKall ks vs
  | _, _ => False

variable {enc P w base sp held}

theorem CKall.append : ∀ {ks : List CK} {vs : List Value} {ks' : List CK} {vs' : List Value}, CKall enc P w base sp held ks vs → CKall enc P w base sp held ks' vs' → CKall enc P w base sp held (ks ++ ks') (vs ++ vs')
  | [], [], _, _, _, h => h
  | _ :: _, _ :: _, _, _, h, h' => ⟨h.1, CKall.append h.2 h'⟩
  | [], _ :: _, _, _, h, _ => h.elim
  | _ :: _, [], _, _, h, _ => h.elim

theorem CKall.length : ∀ {ks : List CK} {vs : List Value}, CKall enc P w base sp held ks vs → vs.length = ks.length
  | [], [], _ => rfl
  | _ :: _, _ :: _, h => by simp [CKall.length h.2]
  | [], _ :: _, h => h.elim
  | _ :: _, [], h => h.elim

theorem trod_sl {t e : TypeId} (ht : P.underlying t = some (.slice e)) {fuel : Nat} {cs : List Value} {x : DataW H × List MemPlace} (h : DataW.trod enc P w base sp held fuel t cs = some x) : CKall enc P w base sp held [.sl e] cs := by
  rcases open_slice ht h with ⟨rfl, _⟩ | ⟨a, len, cap, m, n, D, Pl, rfl, _, hl, hm, hmm, _, hi⟩
  · exact ⟨Or.inl rfl, trivial⟩
  · refine ⟨Or.inr ⟨a, len, cap, rfl, hl, hm, fun i hi' => ?_⟩, trivial⟩
    obtain ⟨cs', h1, h2⟩ := hi i (by rw [hmm]; split <;> omega)
    exact ⟨cs', n, _, h1, h2⟩

theorem trod_fs {F : TypeId → Option (List CK)} {n : Nat} {cs : List Value}
    (hF : ∀ t ks, F t = some ks → ∀ cs x, DataW.trod enc P w base sp held n t cs = some x → CKall enc P w base sp held ks cs) :
    ∀ (fs : List Field) (o : Nat) (ks : List CK) (xs : List (DataW H × List MemPlace)), flatFs F P fs o = some ks → xs.length = fs.length → cs.length = o + ks.length →
      (∀ (i : Nat) (f : Field), fs[i]? = some f → DataW.trod enc P w base sp held n f.type ((cs.drop f.offset).take (P.cellsOf f.type)) = xs[i]?) → CKall enc P w base sp held ks (cs.drop o)
  | [], o, ks, xs, h, hx, hl, hi => by
    simp only [flatFs, Option.some.injEq] at h
    subst h
    have : cs.drop o = [] := List.drop_eq_nil_of_le (by simp at hl; omega)
    rw [this]
    trivial
  | f :: r, o, ks, xs, h, hx, hl, hi => by
    unfold flatFs at h
    split at h
    · rename_i ho
      split at h
      · rename_i k1 hk1
        split at h
        · rename_i hc
          obtain ⟨k2, hk2, rfl⟩ := Option.map_eq_some_iff.1 h
          match xs, hx with
          | x :: xs', hx =>
            have h0 := hi 0 f rfl
            rw [ho, hc] at h0
            have a1 := hF _ _ hk1 _ _ (h0.trans (by rfl))
            have e1 : cs.drop o = (cs.drop o).take k1.length ++ cs.drop (o + k1.length) := by
              rw [← List.drop_drop]
              exact (List.take_append_drop _ _).symm
            rw [e1]
            refine CKall.append a1 (trod_fs hF r (o + k1.length) k2 xs' hk2 (by simpa using hx) (by simp at hl; omega) (fun i f' hf => ?_))
            exact (hi (i + 1) f' (by simpa using hf)).trans (by simp)
          | [], hx => simp at hx
        · cases h
      · cases h
    · cases h

theorem trod_rep {n : Nat} {e : TypeId} {ks : List CK} {cs : List Value} (hF : ∀ cs x, DataW.trod enc P w base sp held n e cs = some x → CKall enc P w base sp held ks cs) (hc : P.cellsOf e = ks.length) :
    ∀ (m o : Nat), cs.length = (o + m) * ks.length → (∀ i, i < o + m → ∃ x, DataW.trod enc P w base sp held n e ((cs.drop (i * P.cellsOf e)).take (P.cellsOf e)) = some x) → CKall enc P w base sp held (rep ks m) (cs.drop (o * ks.length))
  | 0, o, hl, _ => by
    have : cs.drop (o * ks.length) = [] := List.drop_eq_nil_of_le (by rw [hl]; simp)
    rw [this]
    trivial
  | m + 1, o, hl, hi => by
    obtain ⟨x, hx⟩ := hi o (by omega)
    rw [hc] at hx
    have a1 := hF _ _ hx
    have e1 : cs.drop (o * ks.length) = (cs.drop (o * ks.length)).take ks.length ++ cs.drop ((o + 1) * ks.length) := by
      rw [Nat.succ_mul, ← List.drop_drop]
      exact (List.take_append_drop _ _).symm
    rw [e1]
    exact CKall.append a1 (trod_rep hF hc m (o + 1) (by rw [hl]; congr 1; omega) (fun i hi' => hi i (by omega)))

theorem trod_flat : ∀ (n : Nat) (t : TypeId) (ks : List CK), flat P n t = some ks → ∀ (fuel : Nat) (cs : List Value) (x : DataW H × List MemPlace), DataW.trod enc P w base sp held fuel t cs = some x → CKall enc P w base sp held ks cs
  | 0, _, _, h, _, _, _, _ => by cases h
  | n + 1, t, ks, h, fuel, cs, x, hx => by
    unfold flat at h
    split at h
    · rename_i hu
      cases h
      obtain ⟨c, rfl, _⟩ := DataW.trod_bool hu hx
      exact ⟨⟨c, rfl⟩, trivial⟩
    · rename_i k hu
      cases h
      obtain ⟨c, rfl, _, hw⟩ := DataW.trod_int hu hx
      exact ⟨⟨c, rfl, hw⟩, trivial⟩
    · rename_i hu
      cases h
      obtain ⟨c, rfl, _, hw⟩ := DataW.trod_string hu hx
      exact ⟨⟨c, rfl, hw⟩, trivial⟩
    · rename_i e hu
      cases h
      exact trod_sl hu hx
    · rename_i fs hu
      split at h
      · rename_i ks' hf
        split at h
        · rename_i hc
          cases h
          obtain ⟨xs, m, _, _, hcl, hxl, hi⟩ := DataW.trod_struct hu hx
          have := trod_fs (cs := cs) (fun t ks h cs x hx => trod_flat n t ks h m cs x hx) fs.toList 0 ks xs hf (by simpa using hxl) (by rw [hcl, hc]; simp) (fun i f hf => hi i f (by simpa using hf))
          simpa using this
        · cases h
      · cases h
    · rename_i m e hu
      split at h
      · rename_i ks' hf
        split at h
        · rename_i hc
          cases h
          have key : ∃ k, cs.length = P.cellsOf t ∧ ∀ i, i < m → ∃ y, DataW.trod enc P w base sp held k e ((cs.drop (i * P.cellsOf e)).take (P.cellsOf e)) = some y := by
            obtain ⟨xs, k, _, _, hl, hxl, hi⟩ := DataW.trod_array hu hx
            exact ⟨k, hl, fun i hi' => ⟨_, (hi i hi').trans (List.getElem?_eq_getElem (by omega))⟩⟩
          obtain ⟨k, hl, hi⟩ := key
          have := trod_rep (cs := cs) (fun cs x hx => trod_flat n e ks' hf k cs x hx) hc.1 m 0 (by rw [hl, hc.2]; simp) (fun i hi' => hi i (by omega))
          simpa using this
        · cases h
      · cases h
    · cases h

/-- A slice's elements, laid flat: where it is not empty it leads to a row of cells, element i's C cells from off + i * C on. -/
def RowAt (w : World) (a : Option Addr) (len C : Nat) (R : Nat → List Value → Prop) : Prop :=
  len = 0 ∨ ∃ b off, a = some ⟨b, off, none⟩ ∧ b < w.heap.size ∧ ∀ i, i < len → ∃ cs : List Value, R i cs ∧ cs.length = C ∧ ∀ j, j < C → w.cell? ⟨b, off + i * C + j, none⟩ = cs[j]?

theorem add_plain (b off n : Nat) : (Addr.add ⟨b, off, none⟩ n : Addr) = ⟨b, off + n, none⟩ := by
  unfold Addr.add
  split
  · rename_i h; subst h; rfl
  · rfl

/-- A slice's cell opened: its elements' cells by their kinds. -/
theorem row_of_ck {e : TypeId} {v : Value} {n : Nat} {ks : List CK} (hf : flat P n e = some ks) (hc : P.cellsOf e = ks.length) (hpos : 0 < ks.length) (h : CKok enc P w base sp held (.sl e) v) :
    ∃ a len cap, v = .slice a len cap ∧ len ≤ cap ∧ cap ≤ maxLen ∧ RowAt w a len ks.length (fun _ cs => CKall enc P w base sp held ks cs) := by
  rcases h with rfl | ⟨a, len, cap, rfl, hl, hm, hi⟩
  · exact ⟨none, 0, 0, rfl, Nat.le_refl _, Nat.zero_le _, Or.inl rfl⟩
  · refine ⟨some a, len, cap, rfl, hl, hm, ?_⟩
    by_cases h0 : len = 0
    · exact Or.inl h0
    · right
      obtain ⟨b, off, spot⟩ := a
      rw [hc] at hi
      obtain ⟨cs0, n0, x0, hcs0, _⟩ := hi 0 (by omega)
      obtain ⟨_, hl0, hat0⟩ := World.cells?_some hcs0
      have hcell := hat0 0 hpos
      have hv : ∃ u, w.cell? ⟨b, off, spot⟩ = some u := by
        have : (cs0[0]?).isSome = true := by simp; omega
        obtain ⟨u, hu⟩ := Option.isSome_iff_exists.1 this
        exact ⟨u, by rw [hu] at hcell; simpa [Addr.add] using hcell⟩
      obtain ⟨u, hu⟩ := hv
      have hspot : spot = none := by simpa using World.cell?_spot hu
      subst hspot
      refine ⟨b, off, rfl, ?_, fun i hi' => ?_⟩
      · simp only [World.cell?] at hu
        split at hu
        · rename_i e; exact (Array.getElem?_eq_some_iff.1 e).1
        · cases hu
      · obtain ⟨cs, n', x, hcs, hx⟩ := hi i hi'
        obtain ⟨_, hl1, hat⟩ := World.cells?_some hcs
        exact ⟨cs, trod_flat n e ks hf n' cs x hx, hl1, fun j hj => by rw [← hat j hj, add_plain, add_plain]⟩

/-- A slice among the arguments. -/
theorem open_row {t e : TypeId} {r : Reach} {b0 : Nat} {v : Value} {d : DataW H} {p : List MemPlace} {n : Nat} {ks : List CK} (ht : P.underlying t = some (.slice e)) (hf : flat P n e = some ks) (hc : P.cellsOf e = ks.length) (hpos : 0 < ks.length)
    (hv : Value.okWide P w r b0 t v) (h : DataW.Trod enc P w base sp held t v d p) :
    ∃ a len cap, v = .slice a len cap ∧ len ≤ cap ∧ cap ≤ maxLen ∧ RowAt w a len ks.length (fun _ cs => CKall enc P w base sp held ks cs) := by
  obtain ⟨a0, len, cap, rfl⟩ := okWide_slice ht hv
  obtain ⟨fuel, hx⟩ := h
  have := trod_sl ht hx
  simp [Value.cells] at this
  exact row_of_ck hf hc hpos this.1

/-- A struct by value among the arguments. -/
theorem open_flat {t : TypeId} {fs : Array Field} {r : Reach} {b0 : Nat} {v : Value} {d : DataW H} {p : List MemPlace} {n : Nat} {ks : List CK} (ht : P.underlying t = some (.struct fs)) (hf : flat P n t = some ks)
    (hv : Value.okWide P w r b0 t v) (h : DataW.Trod enc P w base sp held t v d p) : ∃ cs, v = .agg cs ∧ CKall enc P w base sp held ks cs.toList := by
  obtain ⟨cs, rfl, _⟩ := okWide_struct ht hv
  obtain ⟨fuel, hx⟩ := h
  exact ⟨cs, rfl, by simpa [Value.cells] using trod_flat n t ks hf fuel _ _ hx⟩

/-- The places of a list chosen one by one. -/
theorem choose_row {α : Type} {w : World} {a : Option Addr} {len C : Nat} {R : Nat → List Value → Prop} [Inhabited α] (h : RowAt w a len C R) (S : α → List Value) (hS : ∀ i cs, R i cs → ∃ x, cs = S x) :
    ∃ z : Nat → α, len = 0 ∨ ∃ b off, a = some ⟨b, off, none⟩ ∧ b < w.heap.size ∧ ∀ i, i < len → R i (S (z i)) ∧ ∀ j, j < C → w.cell? ⟨b, off + i * C + j, none⟩ = (S (z i))[j]? := by
  rcases h with h0 | ⟨b, off, ha, hb, hi⟩
  · exact ⟨fun _ => default, Or.inl h0⟩
  · have : ∀ i, ∃ x : α, i < len → R i (S x) ∧ ∀ j, j < C → w.cell? ⟨b, off + i * C + j, none⟩ = (S x)[j]? := fun i => by
      by_cases hlt : i < len
      · obtain ⟨cs, h1, _, h3⟩ := hi i hlt
        obtain ⟨x, rfl⟩ := hS i cs h1
        exact ⟨x, fun _ => ⟨h1, h3⟩⟩
      · exact ⟨default, fun h => absurd h hlt⟩
    exact ⟨fun i => Classical.choose (this i), Or.inr ⟨b, off, ha, hb, fun i hlt => Classical.choose_spec (this i) hlt⟩⟩
end

section
variable {H : Type} {enc : TypeId × Value → H} {P : Program} {w : World} {base : Nat} {sp : Nat → Bool} {held : Bool}
/-- The form's own reach bounds a slice among the arguments. -/
theorem row_len {t e : TypeId} {r : Reach} {b0 : Nat} {v : Value} {d : DataW H} {p : List MemPlace} (ht : P.underlying t = some (.slice e)) (hb : 1 ≤ P.bytesOf e) (h : DataW.Trod enc P w base sp held t v d p)
    {ts : List TypeId} {ds : List (DataW H)} (hsz : (DataW.weightsEach P ts ds).all (· ≤ reachBytes) = true) {j : Nat} (hj : ts[j]? = some t) (hd : ds[j]? = some d) (_hv : Value.okWide P w r b0 t v)
    {a : Option Addr} {len cap : Nat} (e1 : v = .slice a len cap) : len ≤ 140737488351232 := by
  subst e1
  obtain ⟨fuel, hx⟩ := h
  rcases open_slice ht hx with ⟨hc, _⟩ | ⟨a', len', cap', m, n, D, Pl, hc, _, _, _, _, hx', _⟩
  · simp [Value.cells] at hc
    omega
  · simp [Value.cells] at hc
    obtain ⟨_, rfl, _⟩ := hc
    injection hx' with hd' _
    subst hd'
    have h1 := sized_slice hsz hj hd ht
    simp only [List.length_map, List.length_range] at h1
    have h2 : len * 1 ≤ (len + (m - len)) * P.bytesOf e := Nat.mul_le_mul (by omega) hb
    have h3 : reachBytes = 140737488351232 := by decide
    omega
end

#print axioms row_len
end Go.Proofs.YtopgepifakdpfaaDoor
