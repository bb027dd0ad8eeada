/- The reference's New; the detector that is nil. -/
import Derived.Test.YtjfkpjooandpeaaDetectR3
namespace Go.Proofs.Ytjfkpjooandpeaa
open Go Go.RowKit Go.Maps Go.Sort

/-! ### the detector that is nil -/
theorem ntick_any (w : World) : Calls Try.prog 9 #[.pointer none] w fun e w' => e = .returned (.slice none 0 0) ∧ w' = w := by
  go_enter Try.func9, Try.ntmps9
  go_wp2
  go_ret
  exact ⟨rfl, rfl⟩
theorem nbeat_any (s : ByteArray) (w : World) : Calls Try.prog 11 #[.pointer none, .string s] w fun e w' => e = .returned (.bool false) ∧ w' = w := by
  go_enter Try.func11, Try.ntmps11
  go_wp2
  go_ret
  exact ⟨rfl, rfl⟩
theorem nalive_any (s : ByteArray) (w : World) : Calls Try.prog 10 #[.pointer none, .string s] w fun e w' => e = .returned (.bool false) ∧ w' = w := by
  go_enter Try.func10, Try.ntmps10
  go_wp2
  go_ret
  exact ⟨rfl, rfl⟩
theorem nchanges_any (w : World) : Calls Try.prog 20 #[.pointer none] w fun e w' => e = .returned (.int .i64 0) ∧ w' = w := by
  go_enter Try.func20, Try.ntmps20
  go_wp2
  go_ret
  exact ⟨rfl, rfl⟩
theorem nlive_any (w : World) : Calls Try.prog 17 #[.pointer none] w fun e w' => e = .returned (.slice none 0 0) ∧ w' = w := by
  have hcon := Any.slices_Sort_string_none Try.laysSort none 0 w
  change Calls Try.prog 22 _ _ _ at hcon
  go_enter Try.func17, Try.ntmps17
  go_wp2_with fail
  refine hcon.mono ?_
  rintro _ w ⟨rfl, rfl⟩
  go_wp2
  go_ret
  exact ⟨rfl, rfl⟩

/-! ### plain: the place of a new name -/
theorem lt_before : ∀ {a b : List UInt8}, a < b → bytesBefore a b = true
  | _, [], h => by simp at h
  | [], _ :: _, _ => rfl
  | x :: a, y :: b, h => by
    rw [List.cons_lt_cons_iff] at h
    simp only [bytesBefore, Bool.or_eq_true, Bool.and_eq_true, decide_eq_true_eq, beq_iff_eq]
    rcases h with h | ⟨rfl, h⟩
    · exact Or.inl h
    · exact Or.inr ⟨rfl, lt_before h⟩
theorem before_not {a b : List UInt8} (h : ¬ a < b) : bytesBefore a b = false := by
  cases e : bytesBefore a b with
  | true => exact absurd (before_lt e) h
  | false => rfl

def Rise (N : List RN) : Prop := N.Pairwise (fun x y => bs x.1 < bs y.1)
def rins : List RN → ByteArray → List RN
  | [], s => [(s, 0)]
  | y :: N, s => if bs y.1 < bs s then y :: rins N s else if y.1 = s then y :: N else (s, 0) :: y :: N
def rplace : List RN → ByteArray → Nat
  | [], _ => 0
  | y :: N, s => if bs y.1 < bs s then rplace N s + 1 else 0
theorem rplace_le (s : ByteArray) : ∀ N, rplace N s ≤ N.length
  | [] => by simp [rplace]
  | y :: N => by
    unfold rplace
    split
    · have := rplace_le s N
      simp
      omega
    · simp
theorem rplace_lt (s : ByteArray) : ∀ (N : List RN) (i : Nat) (x : RN), N[i]? = some x → i < rplace N s → bs x.1 < bs s
  | [], i, x, h, _ => by simp at h
  | y :: N, 0, x, h, hi => by
    simp at h
    subst h
    unfold rplace at hi
    split at hi
    · assumption
    · omega
  | y :: N, i + 1, x, h, hi => by
    unfold rplace at hi
    split at hi
    · exact rplace_lt s N i x (by simpa using h) (by omega)
    · omega
theorem rplace_at (s : ByteArray) : ∀ (N : List RN) (x : RN), N[rplace N s]? = some x → ¬ bs x.1 < bs s
  | [], x, h => by simp at h
  | y :: N, x, h => by
    unfold rplace at h
    split at h
    · exact rplace_at s N x (by simpa using h)
    · rename_i hn
      simp at h
      subst h
      exact hn
/-- There already: nothing turns. -/
theorem rins_there (s : ByteArray) : ∀ (N : List RN) (x : RN), N[rplace N s]? = some x → x.1 = s → rins N s = N
  | [], x, h, _ => by simp at h
  | y :: N, x, h, e => by
    unfold rplace at h
    unfold rins
    split at h
    · rename_i hl
      rw [if_pos hl, rins_there s N x (by simpa using h) e]
    · rename_i hn
      simp at h
      subst h
      rw [if_neg hn, if_pos e]
theorem rins_new (s : ByteArray) : ∀ (N : List RN), (∀ x, N[rplace N s]? = some x → x.1 ≠ s) → rins N s = N.take (rplace N s) ++ [(s, 0)] ++ N.drop (rplace N s)
  | [], _ => rfl
  | y :: N, h => by
    by_cases hl : bs y.1 < bs s
    · have e : rplace (y :: N) s = rplace N s + 1 := by simp [rplace, hl]
      rw [e] at h ⊢
      simp [rins, hl, rins_new s N (fun x hx => h x (by simpa using hx))]
    · have e : rplace (y :: N) s = 0 := by simp [rplace, hl]
      rw [e] at h ⊢
      have := h y (by simp)
      simp [rins, hl, this]
def fN (p : Int) (x : RN) : Lit × Int := (kT x.1, p)
theorem kT_ne {a b : ByteArray} (h : a ≠ b) : (kT a).sameKey (kT b) = false := sameKey_ne (fun e => h (kT_inj e))
theorem rise_ldel {N : List RN} {s : ByteArray} {p : Int} (h : ∀ x ∈ N, x.1 ≠ s) : ldel (N.map (fN p)) (kT s) = N.map (fN p) := by
  unfold ldel
  rw [List.filter_eq_self]
  intro q hq
  obtain ⟨x, hx, rfl⟩ := List.mem_map.1 hq
  show (!(kT x.1).sameKey (kT s)) = true
  rw [kT_ne (h x hx)]
  rfl
theorem kT_before (a b : ByteArray) : (kT a).before (kT b) = bytesBefore (bs a) (bs b) := rfl
theorem lput_ins (p : Int) (s : ByteArray) : ∀ (N : List RN), Rise N → lput (N.map (fN p)) (kT s) p = (rins N s).map (fN p)
  | [], _ => rfl
  | y :: N, h => by
    obtain ⟨h1, h2⟩ := List.pairwise_cons.1 h
    have ih := lput_ins p s N h2
    unfold rins
    by_cases hl : bs y.1 < bs s
    · rw [if_pos hl, List.map_cons, List.map_cons, ← ih]
      have hne : y.1 ≠ s := fun e => by rw [e] at hl; exact List.lt_irrefl _ hl
      have hns : ¬ bs s < bs y.1 := List.lt_asymm hl
      unfold lput ldel
      rw [List.filter_cons, if_pos (by show (!(kT y.1).sameKey (kT s)) = true; rw [kT_ne hne]; rfl)]
      show (if (kT s).before (kT y.1) = true then _ else _) = _
      rw [kT_before, before_not hns, if_neg (by simp)]
    · rw [if_neg hl]
      by_cases he : y.1 = s
      · rw [if_pos he]
        have hrest : ∀ x ∈ N, x.1 ≠ s := fun x hx e => by
          have := h1 x hx
          rw [he, e] at this
          exact List.lt_irrefl _ this
        have hd : ldel ((y :: N).map (fN p)) (kT s) = N.map (fN p) := by
          rw [List.map_cons]
          unfold ldel
          rw [List.filter_cons, if_neg (by show ¬ (!(kT y.1).sameKey (kT s)) = true; rw [he, WideAt.sameKey_self (kT_key s)]; simp)]
          exact rise_ldel hrest
        unfold lput
        rw [hd]
        cases N with
        | nil => simp [lins, fN, he]
        | cons z N =>
          have hz := h1 z (by simp)
          rw [he] at hz
          show (if (kT s).before (kT z.1) = true then _ else _) = _
          rw [kT_before, lt_before hz, if_pos rfl]
          simp [fN, he]
      · rw [if_neg he]
        have hsy : bs s < bs y.1 := by
          by_cases hc : bs s < bs y.1
          · exact hc
          · exact absurd (bs_inj (List.le_antisymm (List.not_lt.1 hc) (List.not_lt.1 hl))) he
        have hd : ldel ((y :: N).map (fN p)) (kT s) = (y :: N).map (fN p) := rise_ldel (by
          intro x hx e
          rcases List.mem_cons.1 hx with rfl | hx
          · exact he e
          · have := h1 x hx
            rw [e] at this
            exact List.lt_asymm this hsy)
        unfold lput
        rw [hd]
        show (if (kT s).before (kT y.1) = true then _ else _) = _
        rw [kT_before, lt_before hsy, if_pos rfl]
        rfl
end Go.Proofs.Ytjfkpjooandpeaa
