/- The state of a cache of package lru; take, Drop, Peek, Get, New. -/
import Derived.Test.YtieoejilppgebaaNdItW
namespace Go.Proofs.Ytieoejilppgebaa.It
open Go Go.RowKit Go.Maps
set_option maxRecDepth 100000

/-! ### plain lists -/
def sumS (N : List TH) : Int := (N.map (·.s)).sum
theorem sumS_nil : sumS [] = 0 := rfl
theorem sumS_cons (x : TH) (N : List TH) : sumS (x :: N) = x.s + sumS N := by simp [sumS]
theorem sumS_append (A B : List TH) : sumS (A ++ B) = sumS A + sumS B := by simp [sumS]
theorem sumS_pos {N : List TH} (h : ∀ x ∈ N, 0 ≤ x.s) : 0 ≤ sumS N := by
  induction N with
  | nil => simp [sumS]
  | cons x N ih =>
    rw [sumS_cons]
    have := h x (by simp)
    have := ih (fun y hy => h y (by simp [hy]))
    omega
def fnd (N : List TH) (k : ByteArray) : Option TH := N.find? (fun x => decide (x.k = k))
def dropK (N : List TH) (k : ByteArray) : List TH := N.filter (fun x => decide (x.k ≠ k))
theorem fnd_split {N : List TH} {k : ByteArray} {x : TH} (h : fnd N k = some x) : x.k = k ∧ ∃ A B, N = A ++ x :: B ∧ ∀ y ∈ A, y.k ≠ k := by
  unfold fnd at h
  obtain ⟨h1, A, B, h2, h3⟩ := List.find?_eq_some_iff_append.1 h
  exact ⟨by simpa using h1, A, B, h2, fun y hy => by simpa using h3 y hy⟩
theorem fnd_none {N : List TH} {k : ByteArray} (h : fnd N k = none) : ∀ y ∈ N, y.k ≠ k := by
  intro y hy
  have := List.find?_eq_none.1 h y hy
  simpa using this
theorem fnd_none_of {N : List TH} {k : ByteArray} (h : ∀ y ∈ N, y.k ≠ k) : fnd N k = none := List.find?_eq_none.2 (fun y hy => by simpa using h y hy)
theorem dropK_none {N : List TH} {k : ByteArray} (h : ∀ y ∈ N, y.k ≠ k) : dropK N k = N := List.filter_eq_self.2 (fun y hy => by simpa using h y hy)
theorem dropK_split {A B : List TH} {x : TH} (h : ((A ++ x :: B).map (·.k)).Nodup) : dropK (A ++ x :: B) x.k = A ++ B ∧ ((A ++ B).map (·.k)).Nodup ∧ ∀ y ∈ A ++ B, y.k ≠ x.k := by
  have hp : (A ++ x :: B).Perm (x :: (A ++ B)) := List.perm_middle
  have h1 := (hp.map (·.k)).nodup_iff.1 h
  rw [List.map_cons, List.nodup_cons] at h1
  have h2 : ∀ y ∈ A ++ B, y.k ≠ x.k := fun y hy e => h1.1 (List.mem_map.2 ⟨y, hy, e⟩)
  refine ⟨?_, h1.2, h2⟩
  have e : dropK (A ++ x :: B) x.k = dropK A x.k ++ dropK B x.k := by simp [dropK, List.filter_append]
  rw [e, dropK_none (fun y hy => h2 y (by simp [hy])), dropK_none (fun y hy => h2 y (by simp [hy]))]
theorem fnd_mid {A B : List TH} {x : TH} {k : ByteArray} (h : k ≠ x.k) : fnd (A ++ x :: B) k = fnd (A ++ B) k := by
  have : decide (x.k = k) = false := by simpa using Ne.symm h
  simp [fnd, List.find?_append, List.find?_cons, this]

/-- How many of the first j things stay, where the sum is to be at most lim. -/
def wayJ (lim : Int) (N : List TH) : Nat → Nat
  | 0 => 0
  | j + 1 => if lim < sumS (N.take (j + 1)) then wayJ lim N j else j + 1
theorem wayJ_le (lim : Int) (N : List TH) : ∀ j, wayJ lim N j ≤ j
  | 0 => Nat.le_refl _
  | j + 1 => by
    unfold wayJ
    split
    · have := wayJ_le lim N j; omega
    · exact Nat.le_refl _
theorem wayJ_fit (lim : Int) (N : List TH) (h : 0 ≤ lim) : ∀ j, sumS (N.take (wayJ lim N j)) ≤ lim
  | 0 => by simpa [wayJ, sumS] using h
  | j + 1 => by
    unfold wayJ
    split
    · exact wayJ_fit lim N h j
    · omega

/-! ### the state -/
def kS (s : ByteArray) : Lit := .string s.data.toList
theorem kS_key (s : ByteArray) : WideAt.IsKeyLit (kS s) := trivial
theorem kS_inj {a b : ByteArray} (h : kS a = kS b) : a = b := by
  simp only [kS, Lit.string.injEq] at h
  obtain ⟨⟨a⟩⟩ := a
  obtain ⟨⟨b⟩⟩ := b
  simp at h
  simp [h]
def encB (b : Nat) : Value := .pointer (some ⟨b, 0, none⟩)
theorem law9 : Keyed Try.prog 9 := string_keyed Try.underlying9
theorem zero56 (w : World) : (zeroValue 98).run Try.prog w = .ok (.pointer none) w := by kernel_rfl

/-- The map leads to the things. -/
def Leads (w : World) (mb : Nat) (N : List TH) : Prop := ∃ L : List (Lit × Nat), MapAt Try.prog 9 encB w mb L ∧ L.length = N.length ∧ ∀ k, lget L (kS k) = (fnd N k).map (·.b)

/-- A cache: the struct in block cb, its map in block mb, its things N, the latest first. -/
structure Lru (w : World) (cb mb : Nat) (room kept : Int) (N : List TH) : Prop where
  ring : Ring w cb mb (sumS N) room kept N
  leads : Leads w mb N
  keys : (N.map (·.k)).Nodup
  pos : ∀ x ∈ N, 0 ≤ x.s
  klen : ∀ x ∈ N, x.k.size ≤ maxLen
  kept0 : 0 ≤ kept
  fits : sumS N + kept ≤ room
  room1 : room ≤ 9223372036854775807

/-- The blocks of the cache. -/
def LS (cb mb : Nat) (N : List TH) : Nat → Prop := fun k => k = mb ∨ RS cb N k

section
variable {w w' : World} {cb mb : Nat} {room kept : Int} {N : List TH}
theorem Leads.keep {S : Nat → Prop} (h : Leads w mb N) (hk : Keep S w w') (hS : ¬ S mb) : Leads w' mb N := by
  obtain ⟨L, h1, h2⟩ := h
  exact ⟨L, h1.keep hk hS, h2⟩
theorem Lru.keep {S : Nat → Prop} (T : Lru w cb mb room kept N) (hk : Keep S w w') (h : ∀ k, LS cb mb N k → ¬ S k) : Lru w' cb mb room kept N :=
  ⟨T.ring.keep hk (h _ (Or.inr RS.cb)) (fun x hx => h _ (Or.inr (RS.mem hx))), T.leads.keep hk (h _ (Or.inl rfl)), T.keys, T.pos, T.klen, T.kept0, T.fits, T.room1⟩
theorem Lru.keep0 (T : Lru w cb mb room kept N) (hk : Keep NoB w w') : Lru w' cb mb room kept N := T.keep hk (fun _ _ h => h)
theorem Leads.map (h : Leads w mb N) : ∃ es c, w.heap[mb]? = some (.map es c) := by
  obtain ⟨L, ⟨es, clock, hb, _⟩, _⟩ := h
  exact ⟨es, clock, hb⟩
theorem Lru.cm (T : Lru w cb mb room kept N) : cb ≠ mb := by
  obtain ⟨es, c, h⟩ := T.leads.map
  intro e
  rw [← e, T.ring.blk] at h
  simp [cacheO] at h
theorem Lru.xm (T : Lru w cb mb room kept N) : ∀ x ∈ N, x.b ≠ mb := by
  intro x hx e
  obtain ⟨es, c, h⟩ := T.leads.map
  obtain ⟨p', n', h'⟩ := T.ring.seg.mem x hx
  rw [e, h] at h'
  simp [thing] at h'
/-- A block of another kind is none of the cache's. -/
theorem Lru.other (T : Lru w cb mb room kept N) {b : Nat} {c : Array Value} {t : TypeId} {f : Nat × Nat} (h : w.heap[b]? = some (.cells c t f)) (h1 : t ≠ 103) (h2 : t ≠ 120) : ¬ LS cb mb N b := by
  rintro (rfl | rfl | ⟨y, hy, rfl⟩)
  · obtain ⟨es, c', h'⟩ := T.leads.map
    rw [h] at h'; cases h'
  · rw [T.ring.blk] at h; simp [cacheO] at h; exact h1 h.2.1.symm
  · obtain ⟨p', n', h'⟩ := T.ring.seg.mem y hy
    rw [h'] at h; simp [thing] at h; exact h2 h.2.1.symm
end

theorem new_any (room r : Int) (w : World) (hr : max room 0 = r) (h1 : r ≤ 9223372036854775807) :
    Calls Try.prog 50 #[.int .i64 room] w fun e w' => e = .returned (.pointer (some ⟨w.heap.size + 1, 0, none⟩)) ∧ Lru w' (w.heap.size + 1) w.heap.size r 0 [] ∧ Keep NoB w w' ∧ w'.heap.size = w.heap.size + 2 := by
  have hmm := @run_makeMap Try.prog
  have Hr := Lib.hid hr
  have hr0 : 0 ≤ r := by omega
  clear hr
  go_enter Try.func50, Try.ntmps50
  go_wp2_with (refine wpList_max2 _ rfl _ _ _ _ rfl _ _ rfl rfl r Hr.out ?_)
  go_ret
  refine ⟨rfl, ⟨⟨?_, trivial, by simp⟩, ⟨[], (MapAt.made w).alloc _, rfl, fun k => rfl⟩, by simp, by simp, by simp, by omega, by simp [sumS]; omega, h1⟩, ?_, ?_⟩
  · have := blk_new (w.alloc (.map #[] 0)) (.cells #[.pointer none, .pointer none, .int .i64 0, .int .i64 r, .int .i64 0, .map (some w.heap.size)] 103)
    simpa [cacheO, ptr_none, hd, ls, sumS] using this
  · (repeat (with_reducible first | exact Keep.refl _ _ | assumption | refine Keep.alloc ?_ _ | refine Keep.drewN ?_ _ | refine Keep.drew ?_ | refine Keep.setCell ?_ (by first | (left; simp; done) | (left; simp; omega) | (right; simp [NoB, OneB, TwoB]; done)) _))
  · simp

/-- What a call leaves of the cache. -/
def LruPost (cb mb : Nat) (room kept : Int) (N N' : List TH) (v : Value) (w : World) (e : Ending) (w' : World) : Prop :=
  e = .returned v ∧ Lru w' cb mb room kept N' ∧ Keep (LS cb mb N) w w'

theorem leads_drop {w w' : World} {mb : Nat} {A B : List TH} {x : TH} (L : List (Lit × Nat)) (hm : MapAt Try.prog 9 encB w mb L) (hl : L.length = (A ++ x :: B).length) (hg : ∀ k, lget L (kS k) = (fnd (A ++ x :: B) k).map (·.b)) (hk : ((A ++ x :: B).map (·.k)).Nodup)
    (hm' : MapAt Try.prog 9 encB w' mb (ldel L (kS x.k))) : Leads w' mb (A ++ B) := by
  obtain ⟨_, h2, h3⟩ := dropK_split hk
  refine ⟨_, hm', ?_, fun k => ?_⟩
  · have h4 := length_ldel (kS x.k) (hm.apart law9)
    have h5 : (lget L (kS x.k)).isSome = true := by
      rw [hg]
      cases hf : fnd (A ++ x :: B) x.k with
      | none => exact absurd rfl (fnd_none hf x (by simp))
      | some y => rfl
    rw [h5, hl] at h4
    simp at h4 ⊢
    omega
  · by_cases e : k = x.k
    · subst e
      rw [lget_ldel_same, fnd_none_of h3]
      rfl
    · rw [lget_ldel_other (fun e' => e (kS_inj e')), hg, fnd_mid e]

set_option maxRecDepth 100000 in
set_option maxHeartbeats 8000000 in
theorem take_any (cb mb : Nat) (room kept : Int) (A B : List TH) (x : TH) (w : World) (T : Lru w cb mb room kept (A ++ x :: B)) :
    Calls Try.prog 58 #[.pointer (some ⟨cb, 0, none⟩), .pointer (some ⟨x.b, 0, none⟩)] w (LruPost cb mb room kept (A ++ x :: B) (A ++ B) (.tuple #[]) w) := by
  have hsum : sumS (A ++ x :: B) - x.s = sumS (A ++ B) := by rw [sumS_append, sumS_append, sumS_cons]; omega
  have hp0 : 0 ≤ sumS (A ++ B) := sumS_pos (fun y hy => T.pos y (by simp at hy ⊢; rcases hy with h | h <;> simp [h]))
  have hx0 := T.pos x (by simp)
  have hf := T.fits
  have hr := T.room1
  have hk0 := T.kept0
  have hks := T.klen x (by simp)
  have hkey := WideMaps.keyOf_string_mk Try.underlying9 hks
  have HT := Lib.hid T
  have hxm := T.xm x (by simp)
  have hcm := T.cm
  have c0 := blk_cell T.ring.blk 0
  have cl := blk_lt T.ring.blk
  have xl := T.ring.lt x (by simp)
  clear T c0
  go_enter Try.func58, Try.ntmps58
  go_wp2_with fail
  refine (cut_any cb mb _ room kept A B x w HT.out.ring (sumS (A ++ B)) hsum (by omega) (by omega)).mono ?_
  rintro _ w1 ⟨rfl, R1, bx, k1⟩
  have c5 := blk_cell R1.blk 5
  have x0 := blk_cell bx 0
  have cl1 := blk_lt R1.blk
  have xl1 := blk_lt bx
  obtain ⟨L, hm, hl, hg⟩ := HT.out.leads
  have hm1 := hm.keep k1 (by rintro (e | ⟨y, hy, e⟩); exact hcm e.symm; exact HT.out.xm y hy e)
  have HG := Lib.hid hg
  have HR1 := Lib.hid R1
  have HM := Lib.hid hm
  simp at c5 x0
  clear R1 bx hg hm
  go_wp2_with fail
  refine wp_region_tail 8 (by kernel_rfl) (by kernel_rfl) ?_
  simp only [List.take_succ_cons, List.take_zero, List.drop_succ_cons, List.drop_zero]
  repeat still_step
  refine wpStill_nil ?_
  go_wp2_with (at_delete; refine wpList_mdrop _ rfl _ _ 101 9 rfl 98 law9 Try.underlying101 encB mb L rfl (by exact hm1) _ _ rfl hkey ?_; intro w2 hm2 ht2)
  go_end0
  have K2 : Keep (OneB mb) w1 w2 := (Keep.refl (OneB mb) w1).drew.turned ht2 (Or.inr rfl)
  have hsub : ∀ y ∈ A ++ B, y ∈ A ++ x :: B := fun y hy => by simp at hy ⊢; rcases hy with h | h <;> simp [h]
  refine ⟨rfl, ⟨HR1.out.keep K2 hcm (fun y hy => HT.out.xm y (hsub y hy)), leads_drop L HM.out hl HG.out HT.out.keys hm2, (dropK_split HT.out.keys).2.1, fun y hy => HT.out.pos y (hsub y hy), fun y hy => HT.out.klen y (hsub y hy), hk0, by omega, hr⟩, ?_⟩
  exact (k1.mono (fun i h => Or.inr h)).trans (K2.mono (fun i h => Or.inl h))
end Go.Proofs.Ytieoejilppgebaa.It
