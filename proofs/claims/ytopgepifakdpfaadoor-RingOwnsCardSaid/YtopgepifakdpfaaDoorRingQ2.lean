/- The nodes of a ring, plainly: the first eight different ones, rising; one more, one less. -/
import Derived.Test.YtopgepifakdpfaaDoorRingQ
namespace Go.Proofs.YtopgepifakdpfaaDoor
open Go Go.RowKit Go.Maps

def fe : List BA → List BA → List BA
  | acc, [] => acc
  | acc, x :: r => if acc.length < 8 ∧ ¬ x ∈ acc then fe (acc ++ [x]) r else fe acc r
theorem fe_nil (acc : List BA) : fe acc [] = acc := by unfold fe; rfl
theorem fe_cons (acc : List BA) (x : BA) (r : List BA) : fe acc (x :: r) = if acc.length < 8 ∧ ¬ x ∈ acc then fe (acc ++ [x]) r else fe acc r := by conv => lhs; unfold fe
theorem fe_app : ∀ (l l' acc : List BA), fe acc (l ++ l') = fe (fe acc l) l'
  | [], l', acc => by rw [List.nil_append, fe_nil]
  | x :: l, l', acc => by
    rw [List.cons_append, fe_cons, fe_cons]
    split
    · exact fe_app l l' (acc ++ [x])
    · exact fe_app l l' acc
theorem fe_take {l : List BA} {i : Nat} {x : BA} (h : l[i]? = some x) : fe [] (l.take (i + 1)) = if (fe [] (l.take i)).length < 8 ∧ ¬ x ∈ fe [] (l.take i) then fe [] (l.take i) ++ [x] else fe [] (l.take i) := by
  obtain ⟨hl, e⟩ := List.getElem?_eq_some_iff.1 h
  rw [List.take_succ_eq_append_getElem hl, e, fe_app, fe_cons, fe_nil, fe_nil]
theorem fe_len : ∀ (l acc : List BA), acc.length ≤ 8 → (fe acc l).length ≤ 8
  | [], acc, h => by rw [fe_nil]; exact h
  | x :: l, acc, h => by
    rw [fe_cons]
    split
    · rename_i h1
      exact fe_len l _ (by rw [List.length_append]; simp only [List.length_cons, List.length_nil]; omega)
    · exact fe_len l acc h
theorem fe_nodup : ∀ (l acc : List BA), acc.Nodup → (fe acc l).Nodup
  | [], acc, h => by rw [fe_nil]; exact h
  | x :: l, acc, h => by
    rw [fe_cons]
    split
    · rename_i h1
      refine fe_nodup l _ ?_
      rw [List.nodup_append]
      exact ⟨h, by simp, fun a ha b hb e => by rw [List.mem_singleton] at hb; subst hb; subst e; exact h1.2 ha⟩
    · exact fe_nodup l acc h
theorem fe_mem : ∀ (l acc : List BA), acc.length + l.length ≤ 8 → ∀ x, x ∈ fe acc l ↔ x ∈ acc ∨ x ∈ l
  | [], acc, _, x => by rw [fe_nil]; simp
  | y :: l, acc, h, x => by
    rw [List.length_cons] at h
    rw [fe_cons]
    by_cases hy : y ∈ acc
    · rw [if_neg (fun h => h.2 hy), fe_mem l acc (by omega) x, List.mem_cons]
      constructor
      · rintro (h | h)
        · exact Or.inl h
        · exact Or.inr (Or.inr h)
      · rintro (h | rfl | h)
        · exact Or.inl h
        · exact Or.inl hy
        · exact Or.inr h
    · rw [if_pos ⟨by omega, hy⟩, fe_mem l _ (by rw [List.length_append]; simp only [List.length_cons, List.length_nil]; omega) x, List.mem_append, List.mem_singleton, List.mem_cons, or_assoc]
theorem fe_self : ∀ (l acc : List BA), (acc ++ l).Nodup → (acc ++ l).length ≤ 8 → fe acc l = acc ++ l
  | [], acc, _, _ => by rw [fe_nil, List.append_nil]
  | x :: l, acc, h, h8 => by
    have e : acc ++ x :: l = (acc ++ [x]) ++ l := by rw [List.append_assoc]; rfl
    have hx : ¬ x ∈ acc := fun hx => by
      rw [List.nodup_append] at h
      exact h.2.2 x hx x (by simp) rfl
    have hl : acc.length < 8 := by rw [List.length_append, List.length_cons] at h8; omega
    rw [fe_cons, if_pos ⟨hl, hx⟩, e]
    rw [e] at h h8
    exact fe_self l _ h h8
/-- One node more. -/
theorem fe_with {L : List BA} (h : L.Nodup) (h8 : L.length ≤ 8) (x : BA) : fe [] (L ++ [x]) = if L.length < 8 ∧ ¬ x ∈ L then L ++ [x] else L := by
  rw [fe_app, fe_self L [] (by simpa using h) (by simpa using h8), List.nil_append, fe_cons, fe_nil, fe_nil]

def RiseB (L : List BA) : Prop := L.Pairwise (fun a b => bs a < bs b)
theorem RiseB.nodup {L : List BA} (h : RiseB L) : L.Nodup := h.imp (fun {a b} h e => by subst e; exact bs_irr a h)
/-- The nodes that a ring has which was made of l. -/
def Nds (l L : List BA) : Prop := L.Perm (fe [] l) ∧ RiseB L
theorem Nds.len {l L : List BA} (h : Nds l L) : L.length ≤ 8 := by rw [h.1.length_eq]; exact fe_len l [] (by simp)
theorem Nds.nodup {l L : List BA} (h : Nds l L) : L.Nodup := h.2.nodup
theorem rise_uniq {L L' : List BA} (h : RiseB L) (h' : RiseB L') (hp : L.Perm L') : L = L' :=
  List.Perm.eq_of_pairwise (le := fun a b => bs a < bs b) (fun a b _ _ h1 h2 => absurd h2 (bs_asym h1)) h h' hp
theorem Nds.same {l l' L L' : List BA} (h : Nds l L) (h' : Nds l' L') (hp : (fe [] l).Perm (fe [] l')) : L = L' := rise_uniq h.2 h'.2 (h.1.trans (hp.trans h'.1.symm))
/-- Up to eight: the order makes no difference. -/
theorem fe_perm {l l' : List BA} (h8 : l.length ≤ 8) (hp : l.Perm l') : (fe [] l).Perm (fe [] l') := by
  refine (List.perm_ext_iff_of_nodup (fe_nodup _ _ List.nodup_nil) (fe_nodup _ _ List.nodup_nil)).2 (fun a => ?_)
  rw [fe_mem l [] (by simpa using h8), fe_mem l' [] (by rw [← hp.length_eq]; simpa using h8), hp.mem_iff]
/-- A ring of what a ring has is that ring. -/
theorem nds_self {L L' : List BA} (hr : RiseB L) (h8 : L.length ≤ 8) (h : Nds L L') : L' = L := by
  refine rise_uniq h.2 hr (h.1.trans ?_)
  rw [fe_self L [] (by simpa using hr.nodup) (by simpa using h8), List.nil_append]
theorem nds_with {L L' : List BA} (hr : RiseB L) (h8 : L.length ≤ 8) {x : BA} (h : Nds (L ++ [x]) L') : (L' = L ∧ (L.length = 8 ∨ x ∈ L)) ∨ (L'.Perm (L ++ [x]) ∧ ¬ x ∈ L ∧ L.length < 8) := by
  have h1 := h.1
  rw [fe_with hr.nodup h8] at h1
  split at h1
  · rename_i hc
    exact Or.inr ⟨h1, hc.2, hc.1⟩
  · rename_i hc
    refine Or.inl ⟨rise_uniq h.2 hr h1, ?_⟩
    by_cases hx : x ∈ L
    · exact Or.inr hx
    · refine Or.inl ?_
      rcases Nat.lt_or_ge L.length 8 with h3 | h3
      · exact absurd ⟨h3, hx⟩ hc
      · omega
def wo (x : BA) (L : List BA) : List BA := L.filter (fun y => !decide (y = x))
theorem wo_rise {L : List BA} (h : RiseB L) (x : BA) : RiseB (wo x L) := h.filter _
theorem wo_len (L : List BA) (x : BA) : (wo x L).length ≤ L.length := List.length_filter_le _ _
theorem wo_none {L : List BA} {x : BA} (h : ¬ x ∈ L) : wo x L = L := List.filter_eq_self.2 (fun y hy => by simp; rintro rfl; exact h hy)
theorem mem_wo {L : List BA} {x y : BA} : y ∈ wo x L ↔ y ∈ L ∧ y ≠ x := by unfold wo; rw [List.mem_filter]; simp

/-! ### owners -/
section
variable {W : BA → Int} {L O L' O' : List BA}
theorem ow_wo (h : Ow W L O) (x : BA) : Ow W (wo x L) (wo x O) := ⟨h.1.filter _, h.2.filter _⟩
theorem Ow.mem (h : Ow W L O) {x : BA} : x ∈ O ↔ x ∈ L := h.1.mem_iff
theorem Ow.len (h : Ow W L O) : O.length = L.length := h.1.length_eq
/-- One node less. -/
theorem ow_less {x : BA} (h : Ow W L O) (h' : Ow W (wo x L) O') : O' = wo x O := h'.uniq (ow_wo h x) (List.Perm.refl _)
theorem wo_head {x a : BA} {r : List BA} (h : (a :: r).Nodup) : wo x (a :: r) = if a = x then r else a :: wo x r := by
  unfold wo
  split
  · rename_i e
    subst e
    rw [List.filter_cons_of_neg (by simp)]
    exact wo_none (List.nodup_cons.1 h).1
  · rename_i e
    rw [List.filter_cons_of_pos (by simpa using e)]
/-- One node more: the first is the same one, or the new one. -/
theorem ow_more (h : Ow W L O) {x : BA} (hx : ¬ x ∈ L) (h' : Ow W L' O') (hp : L'.Perm (L ++ [x])) : O'.head? = some x ∨ O'.head? = O.head? := by
  have e1 : wo x (L ++ [x]) = L := by
    unfold wo
    rw [List.filter_append]
    have := wo_none hx
    unfold wo at this
    rw [this, List.filter_cons_of_neg (by simp)]
    simp
  have e2 : O = wo x O' := h.uniq (ow_wo h' x) (by rw [show wo x L' = L'.filter (fun y => !decide (y = x)) from rfl]; have := hp.filter (fun y => !decide (y = x)); rw [show (L ++ [x]).filter (fun y => !decide (y = x)) = L from e1] at this; exact this.symm)
  cases O' with
  | nil =>
    have := hp.length_eq
    rw [← h'.len] at this
    simp at this
  | cons a r =>
    have h3 := wo_head (x := x) h'.nodup
    by_cases e : a = x
    · left; rw [e]; rfl
    · right
      rw [if_neg e] at h3
      rw [e2, h3]
      rfl
end
end Go.Proofs.YtopgepifakdpfaaDoor
