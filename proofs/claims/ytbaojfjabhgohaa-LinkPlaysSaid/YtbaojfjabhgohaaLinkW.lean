/- What fresh, New, Len, Sent and Look of package link come to. -/
import Derived.Test.YtbaojfjabhgohaaRows
import Derived.Test.YtbaojfjabhgohaaLibRow
import Derived.Laws.CopyOwn
import Derived.Deep.RegionHeld3
namespace Go.Proofs.Ytbaojfjabhgohaa
open Go Go.RowKit Go.Maps

def cU (b : UInt8) : List Value := [.int .u8 b.toNat]
theorem cU_len (b : UInt8) : (cU b).length = 1 := rfl
theorem cU_one (b : UInt8) : ∀ u ∈ cU b, u.oneCell' = true := by intro u hu; simp [cU] at hu; subst hu; rfl
theorem info5' : (Try.prog.info? 5).map (fun i => (i.zero, i.size, i.bytes)) = some (some (.int .u8 0), 1, 1) := by kernel_rfl
theorem size5 : (Try.prog.info? 5).map (·.size) = some 1 := by kernel_rfl

/-- A slice that reads as the bytes l. -/
def Rd (w : World) (v : Value) (l : List UInt8) : Prop :=
  ∃ a c, v = .slice a l.length c ∧ l.length ≤ c ∧ ∀ j b, l[j]? = some b → ∃ ad, a = some ad ∧ w.cell? (ad.add j) = some (.int .u8 b.toNat)

theorem flat_cU (l : List UInt8) : l.flatMap cU = l.map (fun b => Value.int .u8 b.toNat) := by
  induction l with
  | nil => rfl
  | cons x l ih => simp [cU, ih]

theorem Row.rd {w : World} {B : Nat} {v : Value} {l : List UInt8} (h : Row w B 5 1 cU v l) : Rd w v l := by
  obtain ⟨a, c, rfl⟩ := h.shape
  refine ⟨a, c, rfl, h.room.2.1, fun j b hj => ?_⟩
  obtain ⟨g, c', hv, _, _, h3⟩ := h.cells cU_len hj
  cases hv
  have := h3 0 _ rfl
  refine ⟨_, rfl, ?_⟩
  have hadd : (⟨g, 0, none⟩ : Addr).add j = ⟨g, j, none⟩ := by unfold Addr.add; split <;> simp_all
  rw [hadd]
  simpa using this

theorem Rd.keep {w w' : World} {v : Value} {l : List UInt8} {S : Nat → Prop} (h : Rd w v l) (hk : Keep S w w') (hS : ∀ a n c, v = .slice (some a) n c → ¬ S a.block) : Rd w' v l := by
  obtain ⟨a, c, rfl, h1, h2⟩ := h
  refine ⟨a, c, rfl, h1, fun j b hj => ?_⟩
  obtain ⟨ad, rfl, h3⟩ := h2 j b hj
  refine ⟨ad, rfl, hk.some h3 ?_⟩
  have : (ad.add j).block = ad.block := by unfold Addr.add; split <;> rfl
  rw [this]
  exact hS _ _ _ rfl

def FreshPost (f t : Int) (l : List UInt8) (w : World) (e : Ending) (w' : World) : Prop :=
  ∃ g, e = .returned (.agg #[.int .i64 f, .int .i64 t, .slice (some ⟨g, 0, none⟩) l.length l.length]) ∧ w.heap.size ≤ g ∧ Row w' w.heap.size 5 1 cU (.slice (some ⟨g, 0, none⟩) l.length l.length) l ∧ Keep NoB w w'

theorem row_of_splice {w : World} {g B : Nat} {l : List UInt8} {cur : List Value} (hB : B ≤ g) (hl : l.length ≤ maxLen) (hc : cur.length = l.length) (h : w.heap[g]? = some (.cells (splice cur 0 (l.map (fun b => Value.int .u8 b.toNat))).toArray 5 (0, 0))) :
    Row w B 5 1 cU (.slice (some ⟨g, 0, none⟩) l.length l.length) l := by
  refine ⟨by rw [flat_len cU_len], Or.inr ⟨g, l.length, _, rfl, hB, h, Nat.le_refl _, hl, ?_, ?_⟩⟩
  · simp [splice, hc]
  · rw [flat_cU]
    simp [splice, hc]

theorem blk_other {w : World} {b : Nat} {o : Obj} {p : Addr} {u : Value} (h : w.heap[b]? = some o) (hne : b ≠ p.block) : (w.setCell p u).heap[b]? = some o := by
  rw [Below.heap_setCell _ _ _ _ hne]
  exact h

theorem rd_cells {w w1 : World} {l : List UInt8} {a : Option Addr} {cs : List Value} (hr : ∀ j b, l[j]? = some b → ∃ ad, a = some ad ∧ w.cell? (ad.add j) = some (.int .u8 b.toNat)) (hcs : l.map (fun b => Value.int .u8 b.toNat) = cs) (hk : Keep NoB w w1) (hpos : 0 < cs.length) :
    ∃ ad, a = some ad ∧ ∀ j v, cs[j]? = some v → w1.cell? (ad.add j) = some v := by
  subst hcs
  have h0 : 0 < l.length := by simpa using hpos
  obtain ⟨ad, rfl, _⟩ := hr 0 _ (List.getElem?_eq_getElem h0)
  refine ⟨ad, rfl, fun j v hv => ?_⟩
  rw [List.getElem?_map] at hv
  cases hj : l[j]? with
  | none => rw [hj] at hv; cases hv
  | some b =>
    rw [hj] at hv
    cases hv
    obtain ⟨ad', h1, h2⟩ := hr j b hj
    cases h1
    exact hk.some h2 (fun h => h)

set_option maxHeartbeats 1000000 in
theorem fresh_any (f t : Int) (v : Value) (l : List UInt8) (w : World) (h : Rd w v l) (hl : l.length ≤ 1000000) :
    Calls Try.prog 26 #[.agg #[.int .i64 f, .int .i64 t, v]] w (FreshPost f t l w) := by
  obtain ⟨a, c, rfl, hc, hr⟩ := h
  obtain ⟨i, hi, hz, hs1, hs2⟩ := info_parts info5'
  have HR := Lib.hid hr
  clear hr
  obtain ⟨cs, hcs⟩ : ∃ cs, l.map (fun b => Value.int .u8 b.toNat) = cs := ⟨_, rfl⟩
  have hcl : cs.length = l.length := by rw [← hcs]; simp
  have hc1 : ∀ u ∈ cs, u.oneCell' = true := by rw [← hcs, ← flat_cU]; exact oneCells cU_one l
  have HCL := Lib.hid hcl
  have HC1 := Lib.hid hc1
  have HCS := Lib.hid hcs
  clear hcl hc1 hcs
  go_enter Try.func26, Try.ntmps26
  go_wp2_with (first
    | (refine wpList_make_full _ rfl _ _ 27 rfl (w.heap.size) 5 i (.int .u8 0) 1 Try.underlying27 hi hz hs1 .i64 .i64 _ _ l.length rfl rfl rfl rfl (by rw [hs2]; omega) (by unfold maxLen; omega) (by simp; omega) ?_; intro w1 O1 g1
       have k1 : Keep NoB (World.alloc (World.alloc w (.cells #[.int .i64 f, .int .i64 t, .slice a l.length c] 32)) (.cells #[.int .i64 0, .int .i64 0, .slice none 0 0] 32)) w1 := Keep.of_grown g1 (fun k e => by cases e)
       have K1 : Keep NoB w w1 := (((Keep.refl NoB w).alloc _).alloc _).trans k1
       have b1 := blk_keep (blk_alloc (o' := .cells #[.int .i64 0, .int .i64 0, .slice none 0 0] 32) (blk_new w (.cells #[.int .i64 f, .int .i64 t, .slice a l.length c] 32))) k1 (fun h => h)
       have b2 : w1.heap[w.heap.size + 1]? = some (.cells #[.int .i64 0, .int .i64 0, .slice none 0 0] 32) := blk_keep (by have := blk_new (World.alloc w (.cells #[.int .i64 f, .int .i64 t, .slice a l.length c] 32)) (.cells #[.int .i64 0, .int .i64 0, .slice none 0 0] 32); simpa using this) k1 (fun h => h)
       have c0 := blk_cell b1 0
       have c1 := blk_cell b1 1
       have c2 := blk_cell b1 2
       have c3 := blk_lt b1
       have c4 := blk_lt b2
       have HB1 := Lib.hid b1
       have HB2 := Lib.hid b2
       simp at c0 c1 c2
       clear b1 b2 k1 g1
       obtain ⟨cur, hg1, hcur⟩ : ∃ cur : List Value, w1.heap[w.heap.size + 1 + 1]? = some (.cells cur.toArray 5 (0, 0)) ∧ cur.length = l.length := by
         rcases O1.2 with ⟨h', _⟩ | ⟨g, cap, cur, h', hb, hg, _, _, hcs, _⟩
         · cases h'
         · simp only [Value.slice.injEq, Option.some.injEq, Addr.mk.injEq, and_true, true_and] at h'
           obtain ⟨h1, h2⟩ := h'
           refine ⟨cur.toList, ?_, ?_⟩
           · rw [← h1] at hg; simpa using hg
           · simp; omega
       have HG1 := Lib.hid hg1
       have HCU := Lib.hid hcur
       clear hg1 hcur O1)
    | (refine wpList_copy_splice rfl (.tmp 8) (.tmp 10) 27 27 rfl 5 Try.underlying27 size5 _ _ _ _ _ _ rfl rfl (w.heap.size + 1 + 1) 0 cur 5 HG1.out cs (by rw [HCL.out]; exact (Nat.min_self _).symm) (fun hpos => ⟨rfl, rd_cells HR.out HCS.out K1 hpos⟩) (by rw [HCL.out, HCU.out]; omega) HC1.out (w.heap.size + 1 + 1) w1 (RowKit.Below.refl _ _) (Nat.le_refl _) ?_
       intro w2 HG2 hB2
       have d0 := blk_cell ((hB2.block _ (by omega)).trans HB1.out) 0
       have d1 := blk_cell ((hB2.block _ (by omega)).trans HB1.out) 1
       have d2 := blk_cell ((hB2.block _ (by omega)).trans HB1.out) 2
       have d3 := blk_free ((hB2.block _ (by omega)).trans HB1.out) 2
       have e0 := blk_cell ((hB2.block _ (by omega)).trans HB2.out) 0
       have e1 := blk_cell ((hB2.block _ (by omega)).trans HB2.out) 1
       have e2 := blk_cell ((hB2.block _ (by omega)).trans HB2.out) 2
       have e5 := blk_free ((hB2.block _ (by omega)).trans HB2.out) 0
       have e6 := blk_free ((hB2.block _ (by omega)).trans HB2.out) 1
       have e7 := blk_free ((hB2.block _ (by omega)).trans HB2.out) 2
       have d4 := blk_lt ((hB2.block _ (by omega)).trans HB1.out)
       have e4 := blk_lt ((hB2.block _ (by omega)).trans HB2.out)
       simp at d0 d1 d2 e0 e1 e2))
  go_wp2_with fail
  have hB2n := (hB2.block (w.heap.size + 1) (by omega)).trans HB2.out
  have x1 := blk_setCell (i := 2) (blk_setCell (i := 1) (blk_setCell (i := 0) (blk_other (p := ⟨w.heap.size, 2, none⟩) (u := .slice (some ⟨w.heap.size + 1 + 1, 0, none⟩) l.length l.length) hB2n (by simp)) (.int .i64 f)) (.int .i64 t)) (.slice (some ⟨w.heap.size + 1 + 1, 0, none⟩) l.length l.length)
  have x2 := blk_other (p := ⟨w.heap.size + 1, 2, none⟩) (u := .slice (some ⟨w.heap.size + 1 + 1, 0, none⟩) l.length l.length) (blk_other (p := ⟨w.heap.size + 1, 1, none⟩) (u := .int .i64 t) (blk_other (p := ⟨w.heap.size + 1, 0, none⟩) (u := .int .i64 f) (blk_other (p := ⟨w.heap.size, 2, none⟩) (u := .slice (some ⟨w.heap.size + 1 + 1, 0, none⟩) l.length l.length) HG2.out (by simp; omega)) (by simp)) (by simp)) (by simp)
  have KW : Keep NoB w ((((w2.setCell ⟨w.heap.size, 2, none⟩ (.slice (some ⟨w.heap.size + 1 + 1, 0, none⟩) l.length l.length)).setCell ⟨w.heap.size + 1, 0, none⟩ (.int .i64 f)).setCell ⟨w.heap.size + 1, 1, none⟩ (.int .i64 t)).setCell ⟨w.heap.size + 1, 2, none⟩ (.slice (some ⟨w.heap.size + 1 + 1, 0, none⟩) l.length l.length)) :=
    ((((show Keep NoB w w2 from ⟨hB2.os.trans K1.os, hB2.tape.trans K1.tape, hB2.output.trans K1.output, Nat.le_trans K1.size hB2.size, fun k hk hs => (hB2.block k (by omega)).trans (K1.block k hk hs)⟩).setCell (Or.inl (by simp)) _).setCell (Or.inl (by simp)) _).setCell (Or.inl (by simp)) _).setCell (Or.inl (by simp)) _
  generalize World.setCell _ _ _ = W4 at x1 x2 KW ⊢
  have d0 := blk_cell x1 0
  have d1 := blk_cell x1 1
  have d2 := blk_cell x1 2
  simp at d0 d1 d2
  refine bodyPost_ret (v := .agg #[.int .i64 f, .int .i64 t, .slice (some ⟨w.heap.size + 1 + 1, 0, none⟩) l.length l.length]) (by simp [results, Try.results26, go_sem, d0, d1, d2]) rfl ?_
  refine ⟨_, rfl, by omega, ?_, KW⟩
  rw [← HCS.out] at x2
  exact row_of_splice (by omega) (by unfold maxLen; omega) HCU.out x2
end Go.Proofs.Ytbaojfjabhgohaa
