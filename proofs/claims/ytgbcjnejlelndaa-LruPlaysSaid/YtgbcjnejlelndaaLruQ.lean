/- What the loops of chapter 6's laws carry; contracts over it. -/
import Derived.Test.YtgbcjnejlelndaaLruR
namespace Go.Proofs.Ytgbcjnejlelndaa
open Go Go.RowKit Go.Maps

/-- The cache's blocks are the call's own. -/
def Fresh (B cb mb : Nat) (N : List TH) : Prop := B ≤ cb ∧ B ≤ mb ∧ ∀ x ∈ N, B ≤ x.b
theorem Fresh.ls {B cb mb : Nat} {N : List TH} (h : Fresh B cb mb N) {i : Nat} (hi : LS cb mb N i) : B ≤ i := by
  rcases hi with rfl | rfl | ⟨y, hy, rfl⟩
  · exact h.2.1
  · exact h.1
  · exact h.2.2 y hy

/-- A cache of the call's own, in the world wr that w became. -/
structure St (w wr : World) (cb mb : Nat) (room kept : Int) (N : List TH) (k : Nat) : Prop where
  T : Lru wr cb mb room kept N
  fr : Fresh w.heap.size cb mb N
  len : N.length ≤ k
  hk : Keep NoB w wr

section
variable {w wr w' : World} {cb mb : Nat} {room kept kept' : Int} {N N' : List TH} {k k' : Nat}
theorem St.post (S : St w wr cb mb room kept N k) (h : Lru w' cb mb room kept' N') (hk : Keep (LS cb mb N) wr w') (hf : ∀ x ∈ N', x ∈ N ∨ wr.heap.size ≤ x.b) (hl : N'.length ≤ k') : St w w' cb mb room kept' N' k' :=
  ⟨h, ⟨S.fr.1, S.fr.2.1, fun x hx => by rcases hf x hx with h1 | h1; exact S.fr.2.2 x h1; exact Nat.le_trans S.hk.size h1⟩, hl, S.hk.trans' hk (fun i hi hl => by have := S.fr.ls hl; omega)⟩
theorem St.keep (S : St w wr cb mb room kept N k) (hk : Keep NoB wr w') : St w w' cb mb room kept N k :=
  ⟨S.T.keep0 hk, S.fr, S.len, S.hk.trans hk⟩
theorem St.le (S : St w wr cb mb room kept N k) (h : k ≤ k') : St w wr cb mb room kept N k' := ⟨S.T, S.fr, Nat.le_trans S.len h, S.hk⟩
end

/-- Blocks of other kinds than the cache's stay as they are. -/
def Oth (w w' : World) : Prop := ∀ (b : Nat) (c : Array Value) (t : TypeId) (f : Nat × Nat), w.heap[b]? = some (Obj.cells c t f) → t ≠ 60 → t ≠ 64 → w'.heap[b]? = some (Obj.cells c t f)
theorem Oth.refl (w : World) : Oth w w := fun _ _ _ _ h _ _ => h
theorem Oth.trans {w w' w'' : World} (h : Oth w w') (h' : Oth w' w'') : Oth w w'' := fun b c t f e e1 e2 => h' b c t f (h b c t f e e1 e2) e1 e2
theorem Oth.of0 {w w' : World} (h : Keep NoB w w') : Oth w w' := fun b _ _ _ e _ _ => blk_keep e h (fun h => h)
theorem Oth.of {w w' : World} {cb mb : Nat} {room kept : Int} {N : List TH} (T : Lru w cb mb room kept N) (h : Keep (LS cb mb N) w w') : Oth w w' := fun b _ _ _ e e1 e2 => blk_keep e h (T.other e e1 e2)

theorem st_new {w w1 w2 : World} {r : Int} (k1 : Keep NoB w w1) (T : Lru w2 (w1.heap.size + 1) w1.heap.size r 0 []) (k2 : Keep NoB w1 w2) : St w w2 (w1.heap.size + 1) w1.heap.size r 0 [] 0 :=
  ⟨T, ⟨Nat.le_succ_of_le k1.size, k1.size, by simp⟩, Nat.le_refl _, k1.trans k2⟩

def getN (N : List TH) (key : ByteArray) : List TH :=
  match fnd N key with
  | some x => x :: dropK N key
  | none => N
def getV (N : List TH) (key : ByteArray) : Int :=
  match fnd N key with
  | some x => x.v
  | none => 0
theorem getN_some {N : List TH} {key : ByteArray} {x : TH} (h : fnd N key = some x) : getN N key = x :: dropK N key := by unfold getN; rw [h]
theorem getN_none {N : List TH} {key : ByteArray} (h : fnd N key = none) : getN N key = N := by unfold getN; rw [h]
theorem getV_some {N : List TH} {key : ByteArray} {x : TH} (h : fnd N key = some x) : getV N key = x.v := by unfold getV; rw [h]
theorem getV_none {N : List TH} {key : ByteArray} (h : fnd N key = none) : getV N key = 0 := by unfold getV; rw [h]
theorem fnd_mem {N : List TH} {key : ByteArray} {x : TH} (h : fnd N key = some x) : x ∈ N := List.mem_of_find?_eq_some h
theorem getN_mem {N : List TH} {key : ByteArray} {y : TH} (h : y ∈ getN N key) : y ∈ N := by
  cases hf : fnd N key with
  | none => rwa [getN_none hf] at h
  | some x =>
    rw [getN_some hf, List.mem_cons] at h
    rcases h with rfl | h
    · exact fnd_mem hf
    · exact (dropK_mem h).1
theorem dropK_lt {N : List TH} {key : ByteArray} {x : TH} (h : fnd N key = some x) : (dropK N key).length + 1 ≤ N.length := by
  obtain ⟨h1, A, B, rfl, _⟩ := fnd_split h
  have h2 : (dropK A key).length ≤ A.length := List.length_filter_le _ _
  have h3 : (dropK B key).length ≤ B.length := List.length_filter_le _ _
  have : dropK (A ++ x :: B) key = dropK A key ++ dropK B key := by simp [dropK, List.filter_append, List.filter_cons, h1]
  rw [this]
  simp
  omega
theorem dropK_len {N : List TH} {key : ByteArray} : (dropK N key).length ≤ N.length := List.length_filter_le _ _
theorem getN_len {N : List TH} {key : ByteArray} : (getN N key).length ≤ N.length := by
  cases hf : fnd N key with
  | none => rw [getN_none hf]; exact Nat.le_refl _
  | some x => rw [getN_some hf]; have := dropK_lt hf; simp; omega
theorem wayJ_all {lim : Int} {N : List TH} (h : sumS N ≤ lim) : wayJ lim N N.length = N.length := by
  cases N with
  | nil => rfl
  | cons x N =>
    rw [List.length_cons]
    unfold wayJ
    rw [if_neg (by rw [show (x :: N).take (N.length + 1) = x :: N from by simp]; omega)]
theorem goneK_all {N : List TH} : goneK N N.length = [] := by simp [goneK]
/-- Where something goes it would not fit. -/
theorem gone_lim {lim : Int} {N : List TH} {gone : List ByteArray} (hg : goneK N (wayJ lim N N.length) = gone) (h : gone.length ≠ 0) : lim < sumS N := by
  by_cases hl : lim < sumS N
  · exact hl
  · rw [wayJ_all (by omega), goneK_all] at hg
    subst hg
    simp at h
theorem dropK_cons_self {N : List TH} {x : TH} {key : ByteArray} (h : x.k = key) : dropK (x :: N) key = dropK N key := by simp [dropK, List.filter_cons, h]
theorem dropK_idem {N : List TH} {key : ByteArray} : dropK (dropK N key) key = dropK N key := by simp [dropK, List.filter_filter]
theorem sumS_drop {N : List TH} (h : ∀ x ∈ N, 0 ≤ x.s) (key : ByteArray) : sumS (dropK N key) ≤ sumS N := by
  induction N with
  | nil => simp [dropK]
  | cons x N ih =>
    have h1 := h x (by simp)
    have h2 := ih (fun y hy => h y (by simp [hy]))
    by_cases e : x.k = key
    · rw [dropK_cons_self e, sumS_cons]; omega
    · have : dropK (x :: N) key = x :: dropK N key := by simp [dropK, List.filter_cons, e]
      rw [this, sumS_cons, sumS_cons]; omega

section
variable {w wr : World} {cb mb : Nat} {room kept : Int} {N : List TH} {k : Nat}
theorem peek_st (S : St w wr cb mb room kept N k) (key : ByteArray) (hks : key.size ≤ maxLen) (v : Int) (hv : getV N key = v) (b : Bool) (hb : (fnd N key).isSome = b) :
    Calls Try.prog 15 #[.pointer (some ⟨cb, 0, none⟩), .string key] wr fun e w' => e = .returned (.tuple #[.int .i64 v, .bool b]) ∧ wr = w' := by
  subst hv hb
  cases hf : fnd N key with
  | none => rw [getV_none hf]; exact peek_miss cb mb room kept N key wr S.T hks hf
  | some x => rw [getV_some hf]; exact peek_hit cb mb room kept N key x wr S.T hks hf
theorem get_st (S : St w wr cb mb room kept N k) (key : ByteArray) (hks : key.size ≤ maxLen) (v : Int) (hv : getV N key = v) (b : Bool) (hb : (fnd N key).isSome = b) :
    Calls Try.prog 11 #[.pointer (some ⟨cb, 0, none⟩), .string key] wr fun e w' => e = .returned (.tuple #[.int .i64 v, .bool b]) ∧ St w w' cb mb room kept (getN N key) k ∧ Oth wr w' := by
  subst hv hb
  cases hf : fnd N key with
  | none =>
    rw [getV_none hf, getN_none hf]
    refine (get_miss cb mb room kept N key wr S.T hks hf).mono ?_
    rintro _ _ ⟨rfl, rfl⟩
    exact ⟨rfl, S, Oth.refl _⟩
  | some x =>
    rw [getV_some hf]
    refine (get_hit cb mb room kept N key x wr S.T hks hf).mono ?_
    rintro _ _ ⟨rfl, T, hk⟩
    rw [← getN_some hf] at T
    exact ⟨rfl, S.post T hk (fun y hy => Or.inl (getN_mem hy)) (Nat.le_trans getN_len S.len), Oth.of S.T hk⟩
theorem drop_st (S : St w wr cb mb room kept N k) (key : ByteArray) (hks : key.size ≤ maxLen) (b : Bool) (hb : (fnd N key).isSome = b) :
    Calls Try.prog 17 #[.pointer (some ⟨cb, 0, none⟩), .string key] wr fun e w' => e = .returned (.bool b) ∧ St w w' cb mb room kept (dropK N key) k ∧ Oth wr w' := by
  subst hb
  refine (drop_any cb mb room kept N key wr S.T hks).mono ?_
  rintro _ _ ⟨rfl, T, hk⟩
  exact ⟨rfl, S.post T hk (fun y hy => Or.inl (dropK_mem hy).1) (Nat.le_trans dropK_len S.len), Oth.of S.T hk⟩
theorem used_st (S : St w wr cb mb room kept N k) (u : Int) (hu : sumS N + kept = u) :
    Calls Try.prog 16 #[.pointer (some ⟨cb, 0, none⟩)] wr fun e w' => e = .returned (.int .i64 u) ∧ St w w' cb mb room kept N k ∧ Keep NoB wr w' := by
  refine (used_any cb mb room kept N wr S.T u hu).mono ?_
  rintro _ _ ⟨rfl, hk⟩
  exact ⟨rfl, S.keep hk, hk⟩
theorem putno_st (S : St w wr cb mb room kept N k) (key : ByteArray) (s v : Int) (hks : key.size ≤ maxLen) (h : s < 0 ∨ room - kept < s) :
    Calls Try.prog 12 #[.pointer (some ⟨cb, 0, none⟩), .string key, .int .i64 s, .int .i64 v] wr fun e w' => e = .returned (.tuple #[.slice none 0 0, .bool false]) ∧ St w w' cb mb room kept (dropK N key) k ∧ Oth wr w' := by
  refine (put_no cb mb room kept N key s v wr S.T hks h).mono ?_
  rintro _ _ ⟨rfl, T, hk⟩
  exact ⟨rfl, S.post T hk (fun y hy => Or.inl (dropK_mem hy).1) (Nat.le_trans dropK_len S.len), Oth.of S.T hk⟩
def PutSt (w wr : World) (cb mb : Nat) (room kept : Int) (M : List TH) (key : ByteArray) (s v : Int) (gone : List ByteArray) (k : Nat) (e : Ending) (w' : World) : Prop :=
  ∃ a c b, e = .returned (.tuple #[.slice a gone.length c, .bool true]) ∧ Own w' wr.heap.size 9 1 cS (.slice a gone.length c) gone ∧ St w w' cb mb room kept (⟨b, key, v, s⟩ :: M) k ∧ Oth wr w'
theorem put_st (S : St w wr cb mb room kept N k) (key : ByteArray) (s v : Int) (hks : key.size ≤ maxLen) (hn0 : 0 ≤ s) (hn1 : s ≤ room - kept) (hk0 : k ≤ 100000) (M : List TH) (gone : List ByteArray)
    (hM : (dropK N key).take (wayJ (room - s - kept) (dropK N key) (dropK N key).length) = M) (hg : goneK (dropK N key) (wayJ (room - s - kept) (dropK N key) (dropK N key).length) = gone) :
    Calls Try.prog 12 #[.pointer (some ⟨cb, 0, none⟩), .string key, .int .i64 s, .int .i64 v] wr (PutSt w wr cb mb room kept M key s v gone (k + 1)) := by
  refine (put_ok cb mb room kept N key s v wr S.T hks hn0 hn1 (Nat.le_trans S.len hk0) M gone hM hg).mono ?_
  rintro _ w' ⟨a, c, b, rfl, hb, O, T, hk⟩
  have hMN : ∀ y ∈ M, y ∈ N := fun y hy => by rw [← hM] at hy; exact (dropK_mem (List.mem_of_mem_take hy)).1
  have hMl : M.length ≤ N.length := by rw [← hM, List.length_take]; have := dropK_len (N := N) (key := key); omega
  refine ⟨a, c, b, rfl, O, S.post T hk (fun y hy => ?_) (by have := S.len; simp; omega), Oth.of S.T hk⟩
  rcases List.mem_cons.1 hy with rfl | hy
  · exact Or.inr hb
  · exact Or.inl (hMN y hy)
theorem resno_st (S : St w wr cb mb room kept N k) (n : Int) (h : n < 0 ∨ room - kept < n) :
    Calls Try.prog 18 #[.pointer (some ⟨cb, 0, none⟩), .int .i64 n] wr fun e w' => e = .returned (.tuple #[.slice none 0 0, .bool false]) ∧ St w w' cb mb room kept N k ∧ Oth wr w' := by
  refine (reserve_no cb mb room kept N n wr S.T h).mono ?_
  rintro _ _ ⟨rfl, hk⟩
  exact ⟨rfl, S.keep hk, Oth.of0 hk⟩
def ResSt (w wr : World) (cb mb : Nat) (room kept : Int) (M : List TH) (gone : List ByteArray) (k : Nat) (e : Ending) (w' : World) : Prop :=
  ∃ a c, e = .returned (.tuple #[.slice a gone.length c, .bool true]) ∧ Own w' wr.heap.size 9 1 cS (.slice a gone.length c) gone ∧ St w w' cb mb room kept M k ∧ Oth wr w'
theorem res_st (S : St w wr cb mb room kept N k) (n : Int) (hn0 : 0 ≤ n) (hn1 : n ≤ room - kept) (hk0 : k ≤ 100000) (M : List TH) (gone : List ByteArray)
    (hM : N.take (wayJ (room - n - kept) N N.length) = M) (hg : goneK N (wayJ (room - n - kept) N N.length) = gone) :
    Calls Try.prog 18 #[.pointer (some ⟨cb, 0, none⟩), .int .i64 n] wr (ResSt w wr cb mb room (kept + n) M gone k) := by
  refine (reserve_ok cb mb room kept N n wr S.T hn0 hn1 (Nat.le_trans S.len hk0) M gone hM hg).mono ?_
  rintro _ w' ⟨a, c, rfl, O, T, hk⟩
  have hMl : M.length ≤ N.length := by rw [← hM, List.length_take]; omega
  exact ⟨a, c, rfl, O, S.post T hk (fun y hy => by rw [← hM] at hy; exact Or.inl (List.mem_of_mem_take hy)) (Nat.le_trans hMl S.len), Oth.of S.T hk⟩
theorem rel_st (S : St w wr cb mb room kept N k) (n k' : Int) (hk' : kept - (if 0 < n then min n kept else 0) = k') :
    Calls Try.prog 19 #[.pointer (some ⟨cb, 0, none⟩), .int .i64 n] wr fun e w' => e = .returned (.tuple #[]) ∧ St w w' cb mb room k' N k ∧ Oth wr w' := by
  by_cases hn : 0 < n
  · rw [if_pos hn] at hk'
    refine (release_any cb mb room kept N n _ k' wr S.T hn rfl hk').mono ?_
    rintro _ _ ⟨rfl, T, hk⟩
    exact ⟨rfl, S.post T hk (fun y hy => Or.inl hy) S.len, Oth.of S.T hk⟩
  · rw [if_neg hn] at hk'
    obtain rfl : kept = k' := by omega
    refine (release_no cb mb room kept N n wr S.T (by omega)).mono ?_
    rintro _ _ ⟨rfl, rfl⟩
    exact ⟨rfl, S, Oth.refl _⟩
theorem keys_st (S : St w wr cb mb room kept N k) (hk0 : k ≤ 100000) (G : List ByteArray) (hG : N.map (·.k) = G) :
    Calls Try.prog 14 #[.pointer (some ⟨cb, 0, none⟩)] wr (KeysPost G wr) := keys_any cb mb room kept N wr S.T (Nat.le_trans S.len hk0) G hG
end

/-! ### the ops -/
structure LOp where
  k : Int
  key : ByteArray
  s : Int
  n : Int
instance : Inhabited LOp := ⟨⟨0, ⟨#[]⟩, 0, 0⟩⟩
def lCells (x : LOp) : List Value := [.int .i64 x.k, .string x.key, .int .i64 x.s, .int .i64 x.n]
def lOk (x : LOp) : Prop := (Lit.int .i64 x.k).wf = true ∧ x.key.size ≤ maxLen ∧ (Lit.int .i64 x.s).wf = true ∧ (Lit.int .i64 x.n).wf = true
/-- What the walk is told of a slice of ops. -/
def IsL (w : World) (a : Option Addr) (len : Nat) (z : Nat → LOp) : Prop :=
  len ≤ maxLen ∧ (∀ i, i < len → lOk (z i)) ∧ (len = 0 ∨ ∃ b off, a = some ⟨b, off, none⟩ ∧ b < w.heap.size ∧ ∀ i, i < len → ∀ j, j < 4 → w.cell? ⟨b, off + i * 4 + j, none⟩ = (lCells (z i))[j]?)
structure LTh where
  key : ByteArray
  s : Int
  g : Bool
instance : Inhabited LTh := ⟨⟨⟨#[]⟩, 0, false⟩⟩
def thCells (x : LTh) : List Value := [.string x.key, .int .i64 x.s, .bool x.g]
def thOk (x : LTh) : Prop := x.key.size ≤ maxLen ∧ (Lit.int .i64 x.s).wf = true
/-- .. of things. -/
def IsTh (w : World) (a : Option Addr) (len : Nat) (z : Nat → LTh) : Prop :=
  len ≤ maxLen ∧ (∀ i, i < len → thOk (z i)) ∧ (len = 0 ∨ ∃ b off, a = some ⟨b, off, none⟩ ∧ b < w.heap.size ∧ ∀ i, i < len → ∀ j, j < 3 → w.cell? ⟨b, off + i * 3 + j, none⟩ = (thCells (z i))[j]?)
/-- .. of texts. -/
def IsStr (w : World) (a : Option Addr) (len : Nat) (z : Nat → ByteArray) : Prop :=
  len ≤ maxLen ∧ (∀ i, i < len → (z i).size ≤ maxLen) ∧ (len = 0 ∨ ∃ b off, a = some ⟨b, off, none⟩ ∧ b < w.heap.size ∧ ∀ i, i < len → w.cell? ⟨b, off + i, none⟩ = some (.string (z i)))
end Go.Proofs.Ytgbcjnejlelndaa
