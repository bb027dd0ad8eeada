/- The tokens that were granted and the table of leases: plain lists, no program. -/
import Derived.Test.YtmndmgfianhbpaaLeaseBoundW
import Derived.Test.YtmndmgfianhbpaaLibSet
namespace Go.Proofs.Ytmndmgfianhbpaa
open Go Go.RowKit Go.Maps

/-- Of the tokens, their keys and their ages those are alive that the table has. -/
def OI (T last : Int) (L : LL) (Tk : List Int) (Ks : List ByteArray) (Sn : List Int) : Prop :=
  Ks.length = Tk.length ∧ Sn.length = Tk.length ∧ (∀ t ∈ Tk, t ≤ last) ∧ (∀ x ∈ Sn, -1 ≤ x ∧ x < T) ∧ ∀ s t l, lget L (kS s) = some (t, l) ↔ l ≤ T ∧ ∃ i : Nat, Tk[i]? = some t ∧ Ks[i]? = some s ∧ Sn[i]? = some (T - l)

theorem kS_ne {s q : ByteArray} (h : s ≠ q) : kS s ≠ kS q := by
  intro e
  simp only [kS, Lit.string.injEq] at e
  apply h
  cases s; cases q
  simp only [ByteArray.mk.injEq]
  exact Array.toList_inj.1 e

theorem strNe {a b : ByteArray} (h : a ≠ b) : (a.toList == b.toList) = false := by
  rw [ByteArray.toList_eq, ByteArray.toList_eq, beq_eq_false_iff_ne]
  intro e
  apply h
  cases a; cases b
  simp at e
  simp [e]

theorem oi_nil (T : Int) : OI T 0 [] [] [] [] := ⟨rfl, rfl, by simp, by simp, by intro s t l; simp [lget_nil]⟩

theorem snoc_get {α : Type} {l : List α} {x y : α} {i : Nat} (h : (l ++ [x])[i]? = some y) : (i < l.length ∧ l[i]? = some y) ∨ (i = l.length ∧ y = x) := by
  rcases Nat.lt_trichotomy i l.length with h1 | h1 | h1
  · left; rw [List.getElem?_append_left h1] at h; exact ⟨h1, h⟩
  · right; subst h1; simp at h; exact ⟨rfl, h.symm⟩
  · rw [List.getElem?_eq_none (by simp; omega)] at h; cases h

theorem oi_grant {T last : Int} {L : LL} {Tk : List Int} {Ks : List ByteArray} {Sn : List Int} (h : OI T last L Tk Ks Sn) (s : ByteArray) (hT : 1 ≤ T) (hg : lget L (kS s) = none) :
    OI T (last + 1) (lput L (kS s) (last + 1, T)) (Tk ++ [last + 1]) (Ks ++ [s]) (Sn ++ [0]) := by
  obtain ⟨h1, h2, h3, h4, h5⟩ := h
  refine ⟨by simp [h1], by simp [h2], ?_, ?_, ?_⟩
  · intro t ht
    rcases List.mem_append.1 ht with ht | ht
    · have := h3 t ht; omega
    · simp at ht; omega
  · intro x hx
    rcases List.mem_append.1 hx with hx | hx
    · exact h4 x hx
    · simp at hx; omega
  · intro q t l
    by_cases e : q = s
    · subst e
      rw [lget_lput_same (kS_key q)]
      constructor
      · intro he
        cases he
        exact ⟨Int.le_refl _, Tk.length, by simp, by simp [← h1], by simp [← h2]⟩
      · rintro ⟨hl, i, a1, a2, a3⟩
        rcases snoc_get a1 with ⟨i1, b1⟩ | ⟨i1, b1⟩
        · rcases snoc_get a2 with ⟨_, b2⟩ | ⟨i2, _⟩
          · rcases snoc_get a3 with ⟨_, b3⟩ | ⟨i3, _⟩
            · have := (h5 q t l).2 ⟨hl, i, b1, b2, b3⟩
              rw [hg] at this
              cases this
            · omega
          · omega
        · rcases snoc_get a3 with ⟨i3, _⟩ | ⟨_, b3⟩
          · omega
          · rw [b1, show l = T by omega]
    · rw [lget_lput_other (kS_ne e), h5]
      constructor
      · rintro ⟨hl, i, a1, a2, a3⟩
        have l1 := (List.getElem?_eq_some_iff.1 a1).1
        exact ⟨hl, i, by rw [List.getElem?_append_left l1]; exact a1, by rw [List.getElem?_append_left (by omega)]; exact a2, by rw [List.getElem?_append_left (by omega)]; exact a3⟩
      · rintro ⟨hl, i, a1, a2, a3⟩
        rcases snoc_get a2 with ⟨i2, b2⟩ | ⟨_, b2⟩
        · rcases snoc_get a1 with ⟨_, b1⟩ | ⟨i1, _⟩
          · rcases snoc_get a3 with ⟨_, b3⟩ | ⟨i3, _⟩
            · exact ⟨hl, i, b1, b2, b3⟩
            · omega
          · omega
        · exact absurd b2 e

/-- Of the ages the first jn have been looked at: each is what f makes of it. -/
def St (f : Int → ByteArray → Int → Int) (Tk : List Int) (Ks : List ByteArray) (Sn : List Int) (jn : Nat) (M : List Int) : Prop :=
  M.length = Sn.length ∧ ∀ (i : Nat) (x t : Int) (q : ByteArray), Sn[i]? = some x → Tk[i]? = some t → Ks[i]? = some q → M[i]? = some (if i < jn then f t q x else x)

section
variable {f : Int → ByteArray → Int → Int} {Tk : List Int} {Ks : List ByteArray} {Sn M : List Int} {jn : Nat} {x t : Int} {q : ByteArray}
theorem st_start : St f Tk Ks Sn 0 Sn := ⟨rfl, fun i x t q h _ _ => by simpa using h⟩
theorem st_read (h : St f Tk Ks Sn jn M) (a : Sn[jn]? = some x) (b : Tk[jn]? = some t) (c : Ks[jn]? = some q) : M[jn]? = some x := by
  have := h.2 jn x t q a b c
  simpa using this
theorem st_set (h : St f Tk Ks Sn jn M) (a : Sn[jn]? = some x) (b : Tk[jn]? = some t) (c : Ks[jn]? = some q) (y : Int) (hy : f t q x = y) : St f Tk Ks Sn (jn + 1) (M.set jn y) := by
  refine ⟨by simp [h.1], fun i x' t' q' a' b' c' => ?_⟩
  have hl := (List.getElem?_eq_some_iff.1 a).1
  by_cases e : i = jn
  · subst e
    rw [a] at a'; rw [b] at b'; rw [c] at c'
    cases a'; cases b'; cases c'
    rw [List.getElem?_set_self (by rw [h.1]; exact hl)]
    simp [hy]
  · rw [List.getElem?_set_ne (Ne.symm e), h.2 i x' t' q' a' b' c']
    by_cases h1 : i < jn
    · simp [h1, Nat.lt_succ_of_lt h1]
    · have : ¬ i < jn + 1 := by omega
      simp [h1, this]
theorem st_miss (h : St f Tk Ks Sn jn M) (a : Sn[jn]? = some x) (b : Tk[jn]? = some t) (c : Ks[jn]? = some q) (hy : f t q x = x) : St f Tk Ks Sn (jn + 1) M := by
  have h1 := st_read h a b c
  have h2 := st_set h a b c x hy
  have hl := (List.getElem?_eq_some_iff.1 h1)
  have : M.set jn x = M := by
    apply List.ext_getElem?
    intro i
    by_cases e : i = jn
    · subst e
      rw [List.getElem?_set_self hl.1, h1]
    · rw [List.getElem?_set_ne (Ne.symm e)]
  rw [this] at h2
  exact h2
theorem st_end (h : St f Tk Ks Sn jn M) (hj : Sn.length ≤ jn) (h1 : Ks.length = Tk.length) (h2 : Sn.length = Tk.length) {i : Nat} {y : Int} (hy : M[i]? = some y) : ∃ x t q, Sn[i]? = some x ∧ Tk[i]? = some t ∧ Ks[i]? = some q ∧ y = f t q x := by
  have hl := (List.getElem?_eq_some_iff.1 hy).1
  rw [h.1] at hl
  have a := List.getElem?_eq_getElem hl
  have b := List.getElem?_eq_getElem (show i < Tk.length by omega)
  have c := List.getElem?_eq_getElem (show i < Ks.length by omega)
  have := h.2 i _ _ _ a b c
  rw [hy, if_pos (by omega)] at this
  exact ⟨_, _, _, a, b, c, Option.some.inj this⟩
theorem st_at (h : St f Tk Ks Sn jn M) (hj : Sn.length ≤ jn) {i : Nat} (a : Sn[i]? = some x) (b : Tk[i]? = some t) (c : Ks[i]? = some q) : M[i]? = some (f t q x) := by
  have := h.2 i x t q a b c
  rw [if_pos (by have := (List.getElem?_eq_some_iff.1 a).1; omega)] at this
  exact this
end

/-- What is struck. -/
def strk (P : Int → ByteArray → Bool) (t : Int) (q : ByteArray) (x : Int) : Int := if P t q then -1 else x

theorem oi_strike {P : Int → ByteArray → Bool} {T last : Int} {L L' : LL} {Tk : List Int} {Ks : List ByteArray} {Sn M : List Int} (h : OI T last L Tk Ks Sn) (hT : 1 ≤ T) {jn : Nat} (hj : Sn.length ≤ jn) (hS : St (strk P) Tk Ks Sn jn M)
    (hL : ∀ s t l, lget L' (kS s) = some (t, l) ↔ lget L (kS s) = some (t, l) ∧ P t s = false) : OI T last L' Tk Ks M := by
  obtain ⟨h1, h2, h3, h4, h5⟩ := h
  refine ⟨h1, by rw [hS.1, h2], h3, ?_, ?_⟩
  · intro y hy
    obtain ⟨i, hi⟩ := List.mem_iff_getElem?.1 hy
    obtain ⟨x, t, q, a, b, c, rfl⟩ := st_end hS hj h1 h2 hi
    have := h4 x (List.mem_of_getElem? a)
    unfold strk
    split <;> omega
  · intro s t l
    rw [hL, h5]
    constructor
    · rintro ⟨⟨hl, i, b, c, a⟩, hP⟩
      refine ⟨hl, i, b, c, ?_⟩
      rw [st_at hS hj a b c]
      simp [strk, hP]
    · rintro ⟨hl, i, b, c, a⟩
      obtain ⟨x, t', q', a', b', c', e⟩ := st_end hS hj h1 h2 a
      rw [b] at b'; rw [c] at c'
      cases b'; cases c'
      unfold strk at e
      split at e
      · omega
      · rename_i hP
        rw [e]
        exact ⟨⟨hl, i, b, c, a'⟩, by simpa using hP⟩

def pKey (s : ByteArray) : Int → ByteArray → Bool := fun _ q => decide (q = s)
def pUse (n : Int) (s : ByteArray) : Int → ByteArray → Bool := fun t q => decide (t = n) && decide (q = s)
def pAll : Int → ByteArray → Bool := fun _ _ => true

theorem kill_get (L : LL) (s0 : ByteArray) (s : ByteArray) (t l : Int) : lget (ldel L (kS s0)) (kS s) = some (t, l) ↔ lget L (kS s) = some (t, l) ∧ pKey s0 t s = false := by
  by_cases e : s = s0
  · subst e
    rw [lget_ldel_same]
    simp [pKey]
  · rw [lget_ldel_other (kS_ne e)]
    simp [pKey, e]

theorem clear_get (L : LL) (s : ByteArray) (t l : Int) : lget ([] : LL) (kS s) = some (t, l) ↔ lget L (kS s) = some (t, l) ∧ pAll t s = false := by
  simp [lget_nil, pAll]

theorem use_get (L : LL) (s0 : ByteArray) (n : Int) (s : ByteArray) (t l : Int) : lget (useL L (kS s0) n) (kS s) = some (t, l) ↔ lget L (kS s) = some (t, l) ∧ pUse n s0 t s = false := by
  unfold useL
  split
  · rename_i hu
    unfold useB at hu
    by_cases e : s = s0
    · subst e
      rw [lget_ldel_same]
      cases hg : lget L (kS s) with
      | none => simp
      | some x =>
        rw [hg] at hu
        simp at hu
        simp [pUse]
        intro h1
        rw [h1] at hu
        simpa using hu
    · rw [lget_ldel_other (kS_ne e)]
      simp [pUse, e]
  · rename_i hu
    constructor
    · intro hg
      refine ⟨hg, ?_⟩
      by_cases e : s = s0
      · subst e
        unfold useB at hu
        rw [hg] at hu
        simp at hu
        simp [pUse, hu]
      · simp [pUse, e]
    · exact fun h => h.1

/-- Is one of the first jn alive, with that token and that key? -/
def Good (n : Int) (s : ByteArray) (Tk : List Int) (Ks : List ByteArray) (Sn : List Int) (jn : Nat) (g : Bool) : Prop :=
  g = true ↔ ∃ (i : Nat) (x : Int), i < jn ∧ Tk[i]? = some n ∧ Ks[i]? = some s ∧ Sn[i]? = some x ∧ 0 ≤ x

section
variable {n : Int} {s : ByteArray} {Tk : List Int} {Ks : List ByteArray} {Sn : List Int} {jn : Nat} {g : Bool}
theorem good_start : Good n s Tk Ks Sn 0 false := by simp [Good]
theorem good_hit {x : Int} (a : Sn[jn]? = some x) (b : Tk[jn]? = some n) (c : Ks[jn]? = some s) (hx : 0 ≤ x) : Good n s Tk Ks Sn (jn + 1) true :=
  ⟨fun _ => ⟨jn, x, by omega, b, c, a, hx⟩, fun _ => rfl⟩
theorem good_miss {x t : Int} {q : ByteArray} (h : Good n s Tk Ks Sn jn g) (a : Sn[jn]? = some x) (b : Tk[jn]? = some t) (c : Ks[jn]? = some q) (hm : t ≠ n ∨ q ≠ s ∨ ¬ 0 ≤ x) : Good n s Tk Ks Sn (jn + 1) g := by
  unfold Good at *
  rw [h]
  constructor
  · rintro ⟨i, y, h1, h2⟩
    exact ⟨i, y, by omega, h2⟩
  · rintro ⟨i, y, h1, h2, h3, h4, h5⟩
    by_cases e : i = jn
    · subst e
      rw [a] at h4; rw [b] at h2; rw [c] at h3
      cases h4; cases h2; cases h3
      rcases hm with hm | hm | hm
      · exact absurd rfl hm
      · exact absurd rfl hm
      · exact absurd h5 hm
    · exact ⟨i, y, by omega, h2, h3, h4, h5⟩
theorem good_end {T last : Int} {L : LL} (h : OI T last L Tk Ks Sn) (hG : Good n s Tk Ks Sn jn g) (hj : Tk.length ≤ jn) : useB L (kS s) n = g := by
  obtain ⟨h1, h2, h3, h4, h5⟩ := h
  have key : useB L (kS s) n = true ↔ g = true := by
    refine Iff.trans ?_ (show g = true ↔ _ from hG).symm
    unfold useB
    constructor
    · intro hu
      cases hg : lget L (kS s) with
      | none => rw [hg] at hu; cases hu
      | some x =>
        rw [hg] at hu
        simp at hu
        obtain ⟨t, l⟩ := x
        simp only at hu
        subst hu
        obtain ⟨hl, i, b, c, a⟩ := (h5 s t l).1 hg
        have := (List.getElem?_eq_some_iff.1 b).1
        exact ⟨i, _, by omega, b, c, a, by omega⟩
    · rintro ⟨i, x, hi, b, c, a, hx⟩
      have := (h5 s n (T - x)).2 ⟨by omega, i, b, c, by rw [a]; congr 1; omega⟩
      rw [this]
      simp
  cases g
  · have : ¬ useB L (kS s) n = true := fun e => by have := key.1 e; cases this
    simpa using this
  · exact key.2 rfl
end

/-- What a tick makes of an age. -/
def aged (T : Int) (_ : Int) (_ : ByteArray) (x : Int) : Int := if 0 ≤ x then (if T ≤ x + 1 then -1 else x + 1) else x

theorem tick_get {L : LL} (ha : Apart L) (ha' : Apart (tickL L)) (s : ByteArray) (t l : Int) : lget (tickL L) (kS s) = some (t, l) ↔ lget L (kS s) = some (t, l + 1) ∧ 1 ≤ l := by
  constructor
  · intro h
    obtain ⟨p, hp, he⟩ := List.mem_filterMap.1 (mem_of_lget h)
    unfold tickP at he
    split at he
    · cases he
    · obtain ⟨p1, p2, p3⟩ := p
      simp only [Option.some.injEq, Prod.mk.injEq] at he
      obtain ⟨rfl, rfl, rfl⟩ := he
      rename_i h2
      simp only at h2
      exact ⟨lget_of_mem ha (kS_key s) (by rw [show p3 - 1 + 1 = p3 by omega]; exact hp), by omega⟩
  · rintro ⟨h, hl⟩
    refine lget_of_mem ha' (kS_key s) (List.mem_filterMap.2 ⟨_, mem_of_lget h, ?_⟩)
    unfold tickP
    rw [if_neg (by simp only; omega)]
    simp only
    rw [show l + 1 - 1 = l by omega]

theorem oi_tick {T last : Int} {L L' : LL} {Tk : List Int} {Ks : List ByteArray} {Sn M : List Int} (h : OI T last L Tk Ks Sn) (hT : 1 ≤ T) {jn : Nat} (hj : Sn.length ≤ jn) (hS : St (aged T) Tk Ks Sn jn M)
    (hL : ∀ s t l, lget L' (kS s) = some (t, l) ↔ lget L (kS s) = some (t, l + 1) ∧ 1 ≤ l) : OI T last L' Tk Ks M := by
  obtain ⟨h1, h2, h3, h4, h5⟩ := h
  refine ⟨h1, by rw [hS.1, h2], h3, ?_, ?_⟩
  · intro y hy
    obtain ⟨i, hi⟩ := List.mem_iff_getElem?.1 hy
    obtain ⟨x, t, q, a, b, c, rfl⟩ := st_end hS hj h1 h2 hi
    have := h4 x (List.mem_of_getElem? a)
    unfold aged
    split
    · split <;> omega
    · omega
  · intro s t l
    rw [hL, h5]
    constructor
    · rintro ⟨⟨hl, i, b, c, a⟩, hP⟩
      refine ⟨by omega, i, b, c, ?_⟩
      rw [st_at hS hj a b c]
      unfold aged
      rw [if_pos (by omega), if_neg (by omega)]
      congr 1
      omega
    · rintro ⟨hl, i, b, c, a⟩
      obtain ⟨x, t', q', a', b', c', e⟩ := st_end hS hj h1 h2 a
      rw [b] at b'; rw [c] at c'
      cases b'; cases c'
      have := h4 x (List.mem_of_getElem? a')
      unfold aged at e
      split at e
      · split at e
        · omega
        · exact ⟨⟨by omega, i, b, c, by rw [a']; congr 1; omega⟩, by omega⟩
      · omega

theorem oi_grown {T last : Int} {L : LL} {Tk : List Int} {Ks : List ByteArray} {Sn : List Int} (h : OI T last L Tk Ks Sn) {t : Int} (ht : t ∈ Tk) : t ≤ last := h.2.2.1 t ht
theorem oi_age {T last : Int} {L : LL} {Tk : List Int} {Ks : List ByteArray} {Sn : List Int} (h : OI T last L Tk Ks Sn) {i : Nat} {x : Int} (hx : Sn[i]? = some x) : -1 ≤ x ∧ x < T := h.2.2.2.1 x (List.mem_of_getElem? hx)
end Go.Proofs.Ytmndmgfianhbpaa
