/- How many bytes of two texts differ: plain lists. -/
import Derived.Test.YtbaojfjabhgohaaLinkTn
namespace Go.Proofs.Ytbaojfjabhgohaa
open Go Go.RowKit Go.Maps

/-- In how many of the first c places they differ. -/
def dcnt (p q : List UInt8) : Nat → Nat
  | 0 => 0
  | c + 1 => dcnt p q c + if p[c]? = q[c]? then 0 else 1

theorem dcnt_same (p : List UInt8) : ∀ c, dcnt p p c = 0
  | 0 => rfl
  | c + 1 => by simp [dcnt, dcnt_same p c]

theorem dcnt_set (p : List UInt8) (a : Nat) (x y : UInt8) (hx : p[a]? = some x) : ∀ c, dcnt (p.set a y) p c = if a < c ∧ x ≠ y then 1 else 0
  | 0 => by simp [dcnt]
  | c + 1 => by
    have ih := dcnt_set p a x y hx c
    have ha := (List.getElem?_eq_some_iff.1 hx).1
    simp only [dcnt, ih]
    by_cases h : c = a
    · subst h
      rw [List.getElem?_set_self ha, hx]
      by_cases e : x = y
      · simp [e]
      · have : ¬ y = x := fun h => e h.symm
        simp [e, this]
    · rw [List.getElem?_set_ne (Ne.symm h)]
      have : (a < c + 1) ↔ (a < c) := by omega
      simp [this]

theorem xor_ne (b b0 : UInt8) : b ≠ b ^^^ b0 ↔ b0 ≠ 0 := by
  constructor
  · intro h e
    subst e
    simp at h
  · intro h e
    apply h
    have h1 : b ^^^ (b ^^^ b0) = b ^^^ b := by rw [← e]
    rw [← UInt8.xor_assoc, UInt8.xor_self, UInt8.zero_xor] at h1
    exact h1

theorem dcnt_le (p q : List UInt8) : ∀ c, dcnt p q c ≤ c
  | 0 => Nat.le_refl _
  | c + 1 => by
    have := dcnt_le p q c
    simp only [dcnt]
    split <;> omega

/-- The texts kept as strings, the first k of them. -/
def Was (z : Nat → TX) (k : Nat) (M : List ByteArray) : Prop := ∀ i, i < k → M[i]? = some ⟨(z i).l.toArray⟩

theorem was_set {z : Nat → TX} {k : Nat} {M : List ByteArray} (h : Was z k M) (hk : k < M.length) : Was z (k + 1) (M.set k ⟨(z k).l.toArray⟩) := by
  intro i hi
  by_cases e : i = k
  · subst e
    rw [List.getElem?_set_self hk]
  · rw [List.getElem?_set_ne (Ne.symm e)]
    exact h i (by omega)

/-- What a packet of the net reads as, of which text it was made. -/
def Made (z : Nat → TX) (len i q : Nat) (y : UInt8) (ok : Bool) (N : List HE) : Prop :=
  ∀ (m : Nat) (x : HE), N[m]? = some x → x.l = if ok = true ∧ (m = i ∨ len ≤ m) then (z i).l.set q y else (z m).l

theorem made_no {z : Nat → TX} {N : List HE} (h : Packs z N) (len i q : Nat) (y : UInt8) : Made z len i q y false N := by
  intro m x hx
  simp [(h m x hx).2.2.2]

theorem made_yes {z : Nat → TX} {N : List HE} (h : Packs z N) (i q : Nat) (y : UInt8) (x : HE) (hx : N[i]? = some x) (u : HE) (hu : u.l = (x.turned q y).l) : Made z N.length i q y true (N.set i (x.turned q y) ++ [u]) := by
  have hi := (List.getElem?_eq_some_iff.1 hx).1
  have hxl := (h i x hx).2.2.2
  intro m v hv
  by_cases hm : m < N.length
  · rw [List.getElem?_append_left (by simpa using hm)] at hv
    by_cases hmi : m = i
    · subst hmi
      rw [List.getElem?_set_self hi] at hv
      cases hv
      simp [HE.turned, hxl]
    · rw [List.getElem?_set_ne (Ne.symm hmi)] at hv
      have : ¬ N.length ≤ m := by omega
      simp [hmi, this, (h m v hv).2.2.2]
  · have hmn : m = N.length := by
      have := (List.getElem?_eq_some_iff.1 hv).1
      simp at this
      omega
    subst hmn
    rw [List.getElem?_append_right (by simp)] at hv
    simp at hv
    subst hv
    simp [hu, HE.turned, hxl]
end Go.Proofs.Ytbaojfjabhgohaa
