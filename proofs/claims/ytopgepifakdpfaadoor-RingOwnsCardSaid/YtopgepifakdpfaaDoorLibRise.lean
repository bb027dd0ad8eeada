/- Lists of names with values, rising by name, beside the map's list (plain). -/
import Derived.Test.YtopgepifakdpfaaDoorLibKeyS
namespace Go.Proofs.YtopgepifakdpfaaDoor
open Go Go.RowKit Go.Maps Go.Sort

theorem lt_before : ∀ {a b : List UInt8}, a < b → bytesBefore a b = true
  | _, [], h => by simp at h
  | [], _ :: _, _ => rfl
  | x :: a, y :: b, h => by
    rw [List.cons_lt_cons_iff] at h
    simp only [bytesBefore, Bool.or_eq_true, Bool.and_eq_true, decide_eq_true_eq, beq_iff_eq]
    rcases h with h | ⟨rfl, h⟩
    · exact Or.inl h
    · exact Or.inr ⟨rfl, lt_before h⟩
theorem before_not {a b : List UInt8} (h : ¬ a < b) : bytesBefore a b = false := by
  cases e : bytesBefore a b with
  | true => exact absurd (before_lt e) h
  | false => rfl
theorem bs_tri {a b : ByteArray} (h1 : ¬ bs a < bs b) (h2 : a ≠ b) : bs b < bs a := by
  by_cases hc : bs b < bs a
  · exact hc
  · exact absurd (bs_inj (List.le_antisymm (List.not_lt.1 hc) (List.not_lt.1 h1))) h2
theorem tx_nlt {x y : ByteArray} (h : ¬ bs x < bs y) : Op.bytesLess x.toList y.toList = false := by
  rw [ByteArray.toList_eq, ByteArray.toList_eq]
  cases e : Op.bytesLess x.data.toList y.data.toList with
  | true => exact absurd (of_less e) h
  | false => rfl
theorem kT_ne {a b : ByteArray} (h : a ≠ b) : (kT a).sameKey (kT b) = false := sameKey_ne (fun e => h (kT_inj e))
theorem kT_before (a b : ByteArray) : (kT a).before (kT b) = bytesBefore (bs a) (bs b) := rfl

section
variable {α : Type}
def fK (x : ByteArray × α) : Lit × α := (kT x.1, x.2)
def absR (N : List (ByteArray × α)) : List (Lit × α) := N.map fK
def Rise (N : List (ByteArray × α)) : Prop := N.Pairwise (fun x y => bs x.1 < bs y.1)
theorem absR_len (N : List (ByteArray × α)) : (absR N).length = N.length := by simp [absR]
def rput : List (ByteArray × α) → ByteArray → α → List (ByteArray × α)
  | [], s, v => [(s, v)]
  | y :: N, s, v => if bs y.1 < bs s then y :: rput N s v else if y.1 = s then (s, v) :: N else (s, v) :: y :: N
def rplace : List (ByteArray × α) → ByteArray → Nat
  | [], _ => 0
  | y :: N, s => if bs y.1 < bs s then rplace N s + 1 else 0
theorem rplace_le (s : ByteArray) : ∀ N : List (ByteArray × α), rplace N s ≤ N.length
  | [] => by simp [rplace]
  | y :: N => by
    unfold rplace
    split
    · have := rplace_le s N
      simp
      omega
    · simp
theorem rplace_lt (s : ByteArray) : ∀ (N : List (ByteArray × α)) (i : Nat) (x : ByteArray × α), N[i]? = some x → i < rplace N s → bs x.1 < bs s
  | [], i, x, h, _ => by simp at h
  | y :: N, 0, x, h, hi => by
    simp at h
    subst h
    unfold rplace at hi
    split at hi
    · assumption
    · omega
  | y :: N, i + 1, x, h, hi => by
    unfold rplace at hi
    split at hi
    · exact rplace_lt s N i x (by simpa using h) (by omega)
    · omega
theorem rplace_at (s : ByteArray) : ∀ (N : List (ByteArray × α)) (x : ByteArray × α), N[rplace N s]? = some x → ¬ bs x.1 < bs s
  | [], x, h => by simp at h
  | y :: N, x, h => by
    unfold rplace at h
    split at h
    · exact rplace_at s N x (by simpa using h)
    · rename_i hn
      simp at h
      subst h
      exact hn
theorem rput_there (s : ByteArray) (v : α) : ∀ (N : List (ByteArray × α)) (x : ByteArray × α), N[rplace N s]? = some x → x.1 = s → rput N s v = N.set (rplace N s) (s, v)
  | [], x, h, _ => by simp at h
  | y :: N, x, h, e => by
    by_cases hl : bs y.1 < bs s
    · have e1 : rplace (y :: N) s = rplace N s + 1 := by simp [rplace, hl]
      rw [e1] at h ⊢
      simp only [rput, hl, if_true, List.set_cons_succ]
      rw [rput_there s v N x (by simpa using h) e]
    · have e1 : rplace (y :: N) s = 0 := by simp [rplace, hl]
      rw [e1] at h ⊢
      simp at h
      subst h
      simp only [rput, if_neg hl, if_pos e, List.set_cons_zero]
theorem rput_new (s : ByteArray) (v : α) : ∀ (N : List (ByteArray × α)), (∀ x, N[rplace N s]? = some x → x.1 ≠ s) → rput N s v = N.take (rplace N s) ++ [(s, v)] ++ N.drop (rplace N s)
  | [], _ => rfl
  | y :: N, h => by
    by_cases hl : bs y.1 < bs s
    · have e : rplace (y :: N) s = rplace N s + 1 := by simp [rplace, hl]
      rw [e] at h ⊢
      simp [rput, hl, rput_new s v N (fun x hx => h x (by simpa using hx))]
    · have e : rplace (y :: N) s = 0 := by simp [rplace, hl]
      rw [e] at h ⊢
      have := h y (by simp)
      simp [rput, hl, this]
theorem rput_mem {s : ByteArray} {v : α} : ∀ {N : List (ByteArray × α)} {x : ByteArray × α}, x ∈ rput N s v → x = (s, v) ∨ x ∈ N
  | [], x, h => by simp [rput] at h; exact Or.inl h
  | y :: N, x, h => by
    unfold rput at h
    split at h
    · rcases List.mem_cons.1 h with rfl | h
      · exact Or.inr (by simp)
      · exact (rput_mem h).imp id (fun h => List.mem_cons_of_mem _ h)
    · split at h
      · rcases List.mem_cons.1 h with rfl | h
        · exact Or.inl rfl
        · exact Or.inr (List.mem_cons_of_mem _ h)
      · rcases List.mem_cons.1 h with rfl | h
        · exact Or.inl rfl
        · exact Or.inr h
theorem rput_len (s : ByteArray) (v : α) : ∀ N : List (ByteArray × α), (rput N s v).length ≤ N.length + 1
  | [] => by simp [rput]
  | y :: N => by
    have := rput_len s v N
    unfold rput
    split
    · simp; omega
    · split <;> simp
theorem rput_rise (s : ByteArray) (v : α) : ∀ N : List (ByteArray × α), Rise N → Rise (rput N s v)
  | [], _ => by simp [rput, Rise]
  | y :: N, h => by
    obtain ⟨h1, h2⟩ := List.pairwise_cons.1 h
    unfold rput
    split
    · rename_i hl
      refine List.pairwise_cons.2 ⟨fun x hx => ?_, rput_rise s v N h2⟩
      rcases rput_mem hx with rfl | hx
      · exact hl
      · exact h1 x hx
    · rename_i hl
      split
      · rename_i he
        refine List.pairwise_cons.2 ⟨fun x hx => ?_, h2⟩
        have := h1 x hx
        rw [he] at this
        exact this
      · rename_i he
        have hsy := bs_tri hl he
        refine List.pairwise_cons.2 ⟨fun x hx => ?_, h⟩
        rcases List.mem_cons.1 hx with rfl | hx
        · exact hsy
        · exact List.lt_trans hsy (h1 x hx)
theorem rise_filter {N : List (ByteArray × α)} (h : Rise N) (q : ByteArray × α → Bool) : Rise (N.filter q) := List.Pairwise.sublist List.filter_sublist h

/-- Is it there: at its place, or nowhere. -/
theorem rplace_none {s : ByteArray} : ∀ {N : List (ByteArray × α)}, Rise N → (∀ x, N[rplace N s]? = some x → x.1 ≠ s) → ∀ x ∈ N, x.1 ≠ s
  | [], _, _ => by simp
  | y :: N, h, hn => by
    obtain ⟨h1, h2⟩ := List.pairwise_cons.1 h
    intro x hx
    by_cases hl : bs y.1 < bs s
    · have e : rplace (y :: N) s = rplace N s + 1 := by simp [rplace, hl]
      rw [e] at hn
      rcases List.mem_cons.1 hx with rfl | hx
      · intro e; rw [e] at hl; exact List.lt_irrefl _ hl
      · exact rplace_none h2 (fun x hx => hn x (by simpa using hx)) x hx
    · have e : rplace (y :: N) s = 0 := by simp [rplace, hl]
      rw [e] at hn
      have hy := hn y (by simp)
      have hsy := bs_tri hl hy
      rcases List.mem_cons.1 hx with rfl | hx
      · exact hy
      · intro e
        have := h1 x hx
        rw [e] at this
        exact List.lt_asymm this hsy
theorem rplace_case (N : List (ByteArray × α)) (s : ByteArray) : (∃ x, N[rplace N s]? = some x ∧ x.1 = s) ∨ (∀ x, N[rplace N s]? = some x → x.1 ≠ s) := by
  cases h : N[rplace N s]? with
  | none => exact Or.inr (fun x hx => by cases hx)
  | some x =>
    by_cases hx : x.1 = s
    · exact Or.inl ⟨x, rfl, hx⟩
    · exact Or.inr (fun y hy => by cases hy; exact hx)

theorem absR_apart {N : List (ByteArray × α)} (h : Rise N) : Apart (absR N) := by
  unfold Apart absR
  rw [List.pairwise_map]
  refine h.imp (fun {x y} hxy e => ?_)
  have : x.1 = y.1 := kT_inj e
  rw [this] at hxy
  exact List.lt_irrefl _ hxy
theorem absR_none {N : List (ByteArray × α)} {s : ByteArray} (h : ∀ x ∈ N, x.1 ≠ s) : lget (absR N) (kT s) = none := by
  unfold lget absR
  rw [Option.map_eq_none_iff, List.find?_eq_none]
  intro q hq
  obtain ⟨x, hx, rfl⟩ := List.mem_map.1 hq
  show ¬ (kT x.1).sameKey (kT s) = true
  rw [kT_ne (h x hx)]
  simp
theorem absR_some {N : List (ByteArray × α)} (h : Rise N) {x : ByteArray × α} (hx : x ∈ N) : lget (absR N) (kT x.1) = some x.2 :=
  lget_of_mem (absR_apart h) (kT_key _) (List.mem_map.2 ⟨x, hx, rfl⟩)
theorem absR_ldel {N : List (ByteArray × α)} {s : ByteArray} (h : ∀ x ∈ N, x.1 ≠ s) : ldel (absR N) (kT s) = absR N := by
  unfold ldel absR
  rw [List.filter_eq_self]
  intro q hq
  obtain ⟨x, hx, rfl⟩ := List.mem_map.1 hq
  show (!(kT x.1).sameKey (kT s)) = true
  rw [kT_ne (h x hx)]
  rfl
theorem absR_put (s : ByteArray) (v : α) : ∀ (N : List (ByteArray × α)), Rise N → lput (absR N) (kT s) v = absR (rput N s v)
  | [], _ => rfl
  | y :: N, h => by
    obtain ⟨h1, h2⟩ := List.pairwise_cons.1 h
    have ih := absR_put s v N h2
    unfold rput
    by_cases hl : bs y.1 < bs s
    · rw [if_pos hl]
      have hne : y.1 ≠ s := fun e => by rw [e] at hl; exact List.lt_irrefl _ hl
      have hns : ¬ bs s < bs y.1 := List.lt_asymm hl
      show _ = fK y :: absR (rput N s v)
      rw [← ih]
      unfold lput ldel absR
      rw [List.map_cons, List.filter_cons, if_pos (by show (!(kT y.1).sameKey (kT s)) = true; rw [kT_ne hne]; rfl)]
      show (if (kT s).before (kT y.1) = true then _ else _) = _
      rw [kT_before, before_not hns, if_neg (by simp)]
    · rw [if_neg hl]
      by_cases he : y.1 = s
      · rw [if_pos he]
        have hrest : ∀ x ∈ N, x.1 ≠ s := fun x hx e => by
          have := h1 x hx
          rw [he, e] at this
          exact List.lt_irrefl _ this
        have hd : ldel (absR (y :: N)) (kT s) = absR N := by
          have h3 := absR_ldel hrest
          unfold ldel absR at h3 ⊢
          rw [List.map_cons, List.filter_cons, if_neg (by show ¬ (!(kT y.1).sameKey (kT s)) = true; rw [he, WideAt.sameKey_self (kT_key s)]; simp)]
          exact h3
        unfold lput
        rw [hd]
        cases N with
        | nil => rfl
        | cons z N =>
          have hz := h1 z (by simp)
          rw [he] at hz
          show (if (kT s).before (kT z.1) = true then _ else _) = _
          rw [kT_before, lt_before hz, if_pos rfl]
          rfl
      · rw [if_neg he]
        have hsy := bs_tri hl he
        have hd : ldel (absR (y :: N)) (kT s) = absR (y :: N) := absR_ldel (by
          intro x hx e
          rcases List.mem_cons.1 hx with rfl | hx
          · exact he e
          · have := h1 x hx
            rw [e] at this
            exact List.lt_asymm this hsy)
        unfold lput
        rw [hd]
        show (if (kT s).before (kT y.1) = true then _ else _) = _
        rw [kT_before, lt_before hsy, if_pos rfl]
        rfl
theorem absR_filter (N : List (ByteArray × α)) (q : α → Bool) : (absR N).filter (fun p => q p.2) = absR (N.filter (fun x => q x.2)) := by
  unfold absR
  rw [List.filter_map]
  rfl
theorem keysOf_absR (N : List (ByteArray × α)) : keysOf (absR N) = N.map (·.1) := by
  unfold keysOf absR
  rw [List.map_map]
  apply List.map_congr_left
  intro x _
  exact txt_kT x.1
end
end Go.Proofs.YtopgepifakdpfaaDoor
