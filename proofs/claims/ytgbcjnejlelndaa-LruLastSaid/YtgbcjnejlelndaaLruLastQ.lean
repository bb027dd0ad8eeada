/- Which keys are left, where all things are of one size: plain lists. -/
import Derived.Test.YtgbcjnejlelndaaLruQ
namespace Go.Proofs.Ytgbcjnejlelndaa
open Go Go.RowKit Go.Maps

def useK (U : List ByteArray) (k : ByteArray) : List ByteArray := k :: U.filter (fun u => decide (u ≠ k))

theorem sumS_same {N : List TH} {s : Int} (h : ∀ x ∈ N, x.s = s) : sumS N = N.length * s := by
  induction N with
  | nil => simp [sumS]
  | cons x N ih =>
    rw [sumS_cons, ih (fun y hy => h y (by simp [hy])), h x (by simp), List.length_cons]
    rw [Int.natCast_add, Int.add_mul]
    simp
    omega

theorem wayJ_same {N : List TH} {s lim : Int} {q : Nat} (h : ∀ x ∈ N, x.s = s) (hq : ∀ j : Nat, (j : Int) * s ≤ lim ↔ j ≤ q) : ∀ j, j ≤ N.length → wayJ lim N j = min j q
  | 0, _ => by simp [wayJ]
  | j + 1, hj => by
    have e : sumS (N.take (j + 1)) = ((j + 1 : Nat) : Int) * s := by
      rw [sumS_same (fun x hx => h x (List.mem_of_mem_take hx)), List.length_take, Nat.min_eq_left hj]
    unfold wayJ
    rw [e]
    by_cases hc : j + 1 ≤ q
    · rw [if_neg (by have := (hq (j + 1)).2 hc; omega)]
      omega
    · rw [if_pos (Int.not_le.1 (fun h => hc ((hq (j + 1)).1 h))), wayJ_same h hq j (by omega)]
      omega

theorem filter_ne {l : List ByteArray} {k : ByteArray} (h : k ∉ l) : l.filter (fun u => decide (u ≠ k)) = l := List.filter_eq_self.2 (fun y hy => decide_eq_true (fun e => h (by rw [← e]; exact hy)))

theorem take_use_miss {U : List ByteArray} {k : ByteArray} {q : Nat} (h : k ∉ U.take (q + 1)) : (useK U k).take (q + 1) = k :: U.take q := by
  unfold useK
  rw [List.take_succ_cons]
  congr 1
  have e : U = U.take (q + 1) ++ U.drop (q + 1) := (List.take_append_drop _ _).symm
  conv => lhs; rw [e, List.filter_append, filter_ne h]
  by_cases hl : q + 1 ≤ U.length
  · rw [List.take_append_of_le_length (by rw [List.length_take]; omega), List.take_take]
    congr 1
    omega
  · rw [List.drop_eq_nil_of_le (by omega)]
    simp only [List.filter_nil, List.append_nil]
    rw [List.take_take]
    congr 1
    omega

theorem take_use_hit {U : List ByteArray} {k : ByteArray} {q : Nat} (hn : U.Nodup) (h : k ∈ U.take q) : (useK U k).take q = k :: (U.take q).filter (fun u => decide (u ≠ k)) := by
  obtain ⟨A, B', he⟩ := List.append_of_mem h
  obtain ⟨q', rfl⟩ : ∃ q', q = q' + 1 := by
    cases q with
    | zero => simp at h
    | succ q => exact ⟨q, rfl⟩
  have e : U = A ++ k :: (B' ++ U.drop (q' + 1)) := by
    conv => lhs; rw [← List.take_append_drop (q' + 1) U, he]
    simp
  have hn2 := hn
  rw [e, List.nodup_append] at hn2
  obtain ⟨_, h2, h3⟩ := hn2
  rw [List.nodup_cons] at h2
  have hA : k ∉ A := fun hk => h3 k hk k (by simp) rfl
  have hB : k ∉ B' ++ U.drop (q' + 1) := h2.1
  have hB' : k ∉ B' := fun hk => hB (by simp [hk])
  have hl : A.length + 1 + B'.length ≤ q' + 1 := by
    have := congrArg List.length he
    simp at this
    omega
  unfold useK
  rw [List.take_succ_cons]
  congr 1
  rw [he]
  have f1 : U.filter (fun u => decide (u ≠ k)) = A ++ (B' ++ U.drop (q' + 1)) := by
    conv => lhs; rw [e]
    rw [List.filter_append, filter_ne hA, List.filter_cons]
    simp only [ne_eq, not_true_eq_false, decide_false, Bool.false_eq_true, if_false]
    rw [filter_ne hB]
  have f2 : (A ++ k :: B').filter (fun u => decide (u ≠ k)) = A ++ B' := by
    rw [List.filter_append, filter_ne hA, List.filter_cons]
    simp only [ne_eq, not_true_eq_false, decide_false, Bool.false_eq_true, if_false]
    rw [filter_ne hB']
  rw [f1, f2, ← List.append_assoc]
  by_cases hd : U.length ≤ q' + 1
  · rw [List.drop_eq_nil_of_le hd, List.append_nil, List.take_of_length_le (by simp; omega)]
  · have : (A ++ B').length = q' := by
      have := congrArg List.length he
      simp at this
      simp
      omega
    rw [← this, List.take_left]

theorem nodup_use {U : List ByteArray} (h : U.Nodup) (k : ByteArray) : (useK U k).Nodup := by
  unfold useK
  rw [List.nodup_cons]
  exact ⟨by simp, h.filter _⟩
theorem length_use (U : List ByteArray) (k : ByteArray) : (useK U k).length ≤ U.length + 1 := by
  unfold useK
  have := List.length_filter_le (fun u => decide (u ≠ k)) U
  simp only [List.length_cons]
  omega

/-- The cache's keys are those that were used last. -/
structure Lasts (s : Int) (q : Nat) (N : List TH) (U : List ByteArray) : Prop where
  keys : N.map (·.k) = U.take q
  same : ∀ x ∈ N, x.s = s
  nd : U.Nodup

theorem lasts_start (s : Int) (q : Nat) : Lasts s q [] [] := ⟨by simp, by simp, by simp⟩

theorem map_dropK (N : List TH) (k : ByteArray) : (dropK N k).map (·.k) = (N.map (·.k)).filter (fun u => decide (u ≠ k)) := by
  unfold dropK
  rw [List.filter_map]
  rfl

theorem lasts_hit {s : Int} {q : Nat} {N : List TH} {U : List ByteArray} (h : Lasts s q N U) {k : ByteArray} {x : TH} (hx : fnd N k = some x) : Lasts s q (x :: dropK N k) (useK U k) := by
  have hm := fnd_mem hx
  have hk := (fnd_split hx).1
  refine ⟨?_, fun y hy => ?_, nodup_use h.nd k⟩
  · have hin : k ∈ U.take q := by rw [← h.keys, ← hk]; exact List.mem_map.2 ⟨x, hm, rfl⟩
    rw [take_use_hit h.nd hin, List.map_cons, map_dropK, h.keys, hk]
  · rcases List.mem_cons.1 hy with rfl | hy
    · exact h.same _ hm
    · exact h.same _ (dropK_mem hy).1

theorem lasts_miss {s room : Int} {q : Nat} {N : List TH} {U : List ByteArray} (h : Lasts s q N U) {k : ByteArray} (hx : fnd N k = none) (hq : ∀ j : Nat, (j : Int) * s ≤ room ↔ j ≤ q) (hs : s ≤ room) (b : Nat) (v : Int) :
    Lasts s q (⟨b, k, v, s⟩ :: (dropK N k).take (wayJ (room - s - 0) (dropK N k) (dropK N k).length)) (useK U k) := by
  rw [dropK_none (fnd_none hx)]
  obtain ⟨q', rfl⟩ : ∃ q', q = q' + 1 := by
    cases q with
    | zero => have := (hq 1).1 (by omega); omega
    | succ q => exact ⟨q, rfl⟩
  have hq' : ∀ j : Nat, (j : Int) * s ≤ room - s - 0 ↔ j ≤ q' := fun j => by
    have := hq (j + 1)
    rw [Int.natCast_add, Int.add_mul] at this
    simp at this
    omega
  have hno : k ∉ U.take (q' + 1) := by
    rw [← h.keys]
    intro hm
    obtain ⟨y, hy, e⟩ := List.mem_map.1 hm
    exact fnd_none hx y hy e
  refine ⟨?_, fun y hy => ?_, nodup_use h.nd k⟩
  · rw [take_use_miss hno, List.map_cons, wayJ_same h.same hq' _ (Nat.le_refl _), List.map_take, h.keys, List.take_take]
    congr 1
    have hl : N.length = min (q' + 1) U.length := by rw [← List.length_take, ← h.keys, List.length_map]
    rw [hl]
    by_cases hu : U.length ≤ q'
    · rw [List.take_of_length_le (by omega), List.take_of_length_le (by omega)]
    · congr 1
      omega
  · rcases List.mem_cons.1 hy with rfl | hy
    · rfl
    · exact h.same _ (List.mem_of_mem_take hy)

theorem lasts_none {s : Int} {N : List TH} {U : List ByteArray} (h : Lasts s 0 N U) (k : ByteArray) : Lasts s 0 (dropK N k) (useK U k) := by
  have : N = [] := by have := h.keys; simpa using this
  subst this
  exact ⟨by simp [dropK], by simp [dropK], nodup_use h.nd k⟩

theorem quot_le {room s : Int} (h0 : 0 ≤ room) (hs : 0 < s) : ∀ j : Nat, (j : Int) * s ≤ room ↔ j ≤ (room / s).toNat := fun j => by
  have h := Int.le_ediv_iff_mul_le hs (a := (j : Int)) (b := room)
  have h2 : 0 ≤ room / s := Int.ediv_nonneg h0 (by omega)
  rw [← h]
  omega

theorem i64_and255 (n : Int) : bits .and .i64 n 255 = n % 256 := by
  have h127 : (BitVec.ofInt 64 255).toNat = 2 ^ 8 - 1 := by decide
  have key : (BitVec.ofInt 64 n &&& BitVec.ofInt 64 255).toNat = (n % ((2 ^ 64 : Nat) : Int)).toNat % 2 ^ 8 := by
    rw [BitVec.toNat_and, BitVec.toNat_ofInt, h127, Nat.and_two_pow_sub_one_eq_mod]
  show IntKind.i64.wrap ((BitVec.ofInt 64 n &&& BitVec.ofInt 64 255).toNat : Nat) = n % 256
  rw [key, IntKind.wrap_i64]
  omega
theorem i64_and15 (n : Int) : bits .and .i64 n 15 = n % 16 := by
  have h127 : (BitVec.ofInt 64 15).toNat = 2 ^ 4 - 1 := by decide
  have key : (BitVec.ofInt 64 n &&& BitVec.ofInt 64 15).toNat = (n % ((2 ^ 64 : Nat) : Int)).toNat % 2 ^ 4 := by
    rw [BitVec.toNat_and, BitVec.toNat_ofInt, h127, Nat.and_two_pow_sub_one_eq_mod]
  show IntKind.i64.wrap ((BitVec.ofInt 64 n &&& BitVec.ofInt 64 15).toNat : Nat) = n % 16
  rw [key, IntKind.wrap_i64]
  omega
end Go.Proofs.Ytgbcjnejlelndaa
