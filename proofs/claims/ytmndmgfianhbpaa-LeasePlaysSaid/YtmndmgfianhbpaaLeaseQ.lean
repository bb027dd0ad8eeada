/- The table of leases and the reference's list answer alike: plain lists, no program. -/
import Derived.Test.YtmndmgfianhbpaaLeaseS
namespace Go.Proofs.Ytmndmgfianhbpaa
open Go Go.RowKit Go.Maps

def toL (D now : Int) (x : RL) : Lit × (Int × Int) := (kS x.1, (x.2.1, x.2.2 - now + D))
def Sim (D now : Int) (L : LL) (N : List RL) : Prop := L.Perm (N.map (toL D now))

theorem sim_len {D now : Int} {L : LL} {N : List RL} (h : Sim D now L N) : L.length = N.length := by
  have := h.length_eq
  simpa using this

theorem sim_apart {D now : Int} {L : LL} {N : List RL} (h : Sim D now L N) (ha : Apart L) : N.Pairwise (fun x y => x.1 ≠ y.1) := by
  have h1 : (N.map (toL D now)).Pairwise (fun p q => p.1 ≠ q.1) := (h.pairwise_iff (fun {a b} hab => Ne.symm hab)).1 ha
  rw [List.pairwise_map] at h1
  refine h1.imp ?_
  intro x y hxy e
  exact hxy (by simp [toL, e])

theorem sim_get {D now : Int} {L : LL} {N : List RL} (h : Sim D now L N) (ha : Apart L) (s : ByteArray) : lget L (kS s) = (N.find? (rhas s)).map (fun x => (x.2.1, x.2.2 - now + D)) := by
  cases hf : N.find? (rhas s) with
  | none =>
    have hn := List.find?_eq_none.1 hf
    simp only [Option.map_none]
    cases hg : lget L (kS s) with
    | none => rfl
    | some v =>
      have hm := h.mem_iff.1 (mem_of_lget hg)
      obtain ⟨x, hx, he⟩ := List.mem_map.1 hm
      have : kS x.1 = kS s := by have := congrArg Prod.fst he; simpa [toL] using this
      exact absurd (by simp [rhas, kS_inj this]) (hn x hx)
  | some x =>
    have hx := List.mem_of_find?_eq_some hf
    have hs : x.1 = s := by have := List.find?_some hf; simpa [rhas] using this
    have hm : (kS s, (x.2.1, x.2.2 - now + D)) ∈ L := h.mem_iff.2 (List.mem_map.2 ⟨x, hx, by simp [toL, hs]⟩)
    rw [lget_of_mem ha (kS_key s) hm]
    rfl

theorem lins_perm {α : Type} (x : Lit × α) : ∀ l : List (Lit × α), (lins x l).Perm (x :: l)
  | [] => by simp [lins]
  | y :: l => by
    unfold lins
    split
    · exact List.Perm.refl _
    · exact ((lins_perm x l).cons y).trans (List.Perm.swap x y l)

theorem ldel_none {α : Type} {L : List (Lit × α)} {k : Lit} (h : lget L k = none) : ldel L k = L := by
  unfold ldel
  rw [List.filter_eq_self]
  intro p hp
  unfold lget at h
  rw [Option.map_eq_none_iff, List.find?_eq_none] at h
  have := h p hp
  simpa using this

theorem sim_grant {D now : Int} {L : LL} {N : List RL} (h : Sim D now L N) (s : ByteArray) (t u : Int) (hg : lget L (kS s) = none) (T : Int) (hT : u - now + D = T) : Sim D now (lput L (kS s) (t, T)) (N ++ [(s, t, u)]) := by
  unfold Sim lput
  rw [ldel_none hg]
  refine (lins_perm _ L).trans ?_
  rw [List.map_append]
  refine List.Perm.trans ?_ List.perm_append_comm
  simp only [List.map_cons, List.map_nil, List.singleton_append, toL, hT]
  exact h.cons _

theorem erase_filter (s : ByteArray) : ∀ {N : List RL}, N.Pairwise (fun x y => x.1 ≠ y.1) → N.eraseP (rhas s) = N.filter (fun x => !rhas s x)
  | [], _ => rfl
  | x :: N, h => by
    rw [List.pairwise_cons] at h
    by_cases hx : x.1 = s
    · rw [List.eraseP_cons_of_pos (by simp [rhas, hx]), List.filter_cons_of_neg (by simp [rhas, hx]), eq_comm, List.filter_eq_self]
      intro y hy
      have := h.1 y hy
      simp [rhas]
      intro e
      exact this (hx.trans e.symm)
    · rw [List.eraseP_cons_of_neg (by simp [rhas, hx]), List.filter_cons_of_pos (by simp [rhas, hx]), erase_filter s h.2]

theorem sim_drop {D now : Int} {L : LL} {N : List RL} (h : Sim D now L N) (ha : Apart L) (s : ByteArray) : Sim D now (ldel L (kS s)) (N.eraseP (rhas s)) := by
  unfold Sim ldel
  rw [erase_filter s (sim_apart h ha)]
  refine (h.filter _).trans ?_
  rw [List.filter_map]
  have : (fun x => !rhas s x) = ((fun p : Lit × (Int × Int) => !p.1.sameKey (kS s)) ∘ toL D now) := by
    funext x
    simp only [Function.comp, toL]
    by_cases hx : x.1 = s
    · simp [rhas, hx, WideAt.sameKey_self (kS_key s)]
    · have : (kS x.1).sameKey (kS s) = false := sameKey_ne (fun e => hx (kS_inj e))
      simp [rhas, hx, this]
  rw [this]

theorem sim_tick {D now : Int} {L : LL} {N : List RL} (h : Sim D now L N) (hD : D = 0 ∨ (0 ≤ D ∧ ∀ x ∈ N, now + 1 < x.2.2)) : Sim D (now + 1) (tickL L) (N.filter (fun x => decide (now + 1 < x.2.2))) := by
  unfold Sim tickL
  refine (h.filterMap tickP).trans ?_
  rw [List.filterMap_map, ← List.filterMap_eq_filter, List.map_filterMap]
  rw [fm_congr (g := fun x => Option.map (toL D (now + 1)) (Option.guard (fun x : RL => decide (now + 1 < x.2.2)) x))]
  intro x hx
  simp only [Function.comp, tickP, toL, Option.guard]
  by_cases hlt : now + 1 < x.2.2
  · have : ¬ (x.2.2 - now + D - 1 < 1) := by rcases hD with h | h <;> omega
    simp [hlt, this, toL]
    omega
  · have : x.2.2 - now + D - 1 < 1 := by
      rcases hD with h | h
      · omega
      · exact absurd (h.2 x hx) hlt
    simp [hlt, this]
end Go.Proofs.Ytmndmgfianhbpaa
