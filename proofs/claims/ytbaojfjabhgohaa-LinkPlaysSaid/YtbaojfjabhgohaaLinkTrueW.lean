/- The walk of LinkTrue. -/
import Derived.Test.YtbaojfjabhgohaaLinkA
import Derived.Deep.Cut
import Derived.Deep.CutRange
import Derived.Deep.CutBlock
import Derived.OpenShut
namespace Go.Proofs.Ytbaojfjabhgohaa
open Go Go.RowKit Go.Maps

/-- An op of the laws. -/
structure LkOp where
  k : Int
  f : Int
  t : Int
  i : Int
  j : Int
  c : Int
  a : Option Addr
  cap : Nat
  l : List UInt8
def LkOp.v (x : LkOp) : Value := .slice x.a x.l.length x.cap
def lkCells (x : LkOp) : List Value := [.int .i64 x.k, .int .i64 x.f, .int .i64 x.t, .int .i64 x.i, .int .i64 x.j, .int .u8 x.c, x.v]
def lkOk (w : World) (x : LkOp) : Prop := (Lit.int .i64 x.k).wf = true ∧ (Lit.int .i64 x.f).wf = true ∧ (Lit.int .i64 x.t).wf = true ∧ (Lit.int .i64 x.i).wf = true ∧ (Lit.int .i64 x.j).wf = true ∧ (Lit.int .u8 x.c).wf = true ∧ Rd w x.v x.l ∧ x.l.length ≤ maxLen

/-- What the walk is told of a slice of ops. -/
def IsLk (w : World) (a : Option Addr) (len : Nat) (z : Nat → LkOp) : Prop :=
  len ≤ maxLen ∧ (∀ i, i < len → lkOk w (z i)) ∧
    (len = 0 ∨ ∃ b off, a = some ⟨b, off, none⟩ ∧ b < w.heap.size ∧ ∀ i, i < len → ∀ j, j < 7 → w.cell? ⟨b, off + i * 7 + j, none⟩ = (lkCells (z i))[j]?)

/-- What was sent: from, to, where its bytes lie, its bytes. -/
structure SE where
  f : Int
  t : Int
  a : Option Addr
  c : Nat
  l : List UInt8
def SE.v (x : SE) : Value := .slice x.a x.l.length x.c
def sCells (x : SE) : List Value := [.int .i64 x.f, .int .i64 x.t, x.v]
theorem sCells_len (x : SE) : (sCells x).length = 3 := rfl
theorem sCells_one (x : SE) : ∀ u ∈ sCells x, u.oneCell' = true := by
  intro u hu
  simp [sCells, SE.v] at hu
  rcases hu with rfl | rfl | rfl <;> rfl
theorem info32' : (Try.prog.info? 32).map (fun i => (i.zero, i.size, i.bytes)) = some (some (.agg #[.int .i64 0, .int .i64 0, .slice none 0 0]), 3, 40) := by kernel_rfl

abbrev Key := Int × Int × List UInt8
def SE.key (x : SE) : Key := (x.f, x.t, x.l)
def HE.key (x : HE) : Key := (x.f, x.t, x.l)

/-- What is on its way was sent. -/
def Sub (N : List HE) (M : List SE) : Prop := ∃ R : List Key, (M.map SE.key).Perm (N.map HE.key ++ R)

theorem Sub.nil : Sub [] [] := ⟨[], by simp⟩
theorem Sub.send {N : List HE} {M : List SE} (h : Sub N M) (x : HE) (y : SE) (e : x.key = y.key) : Sub (N ++ [x]) (M ++ [y]) := by
  obtain ⟨R, h⟩ := h
  refine ⟨R, ?_⟩
  simp only [List.map_append, List.map_cons, List.map_nil, e]
  refine (h.append_right _).trans ?_
  rw [List.append_assoc, List.append_assoc]
  exact List.Perm.append_left _ List.perm_append_comm
theorem Sub.drop {N : List HE} {M : List SE} (h : Sub N M) (p : HE → Bool) : Sub (N.filter p) M := by
  obtain ⟨R, h⟩ := h
  refine ⟨(N.filter (fun x => !p x)).map HE.key ++ R, h.trans ?_⟩
  rw [← List.append_assoc, ← List.map_append]
  exact ((List.filter_append_perm p N).symm.map _).append_right _
theorem Sub.len {N : List HE} {M : List SE} (h : Sub N M) : N.length ≤ M.length := by
  obtain ⟨R, h⟩ := h
  have := h.length_eq
  simp at this
  omega
theorem perm_out {α : Type} {l : List α} {i : Nat} {x : α} (h : l[i]? = some x) : l.Perm (x :: (l.take i ++ l.drop (i + 1))) := by
  obtain ⟨hi, rfl⟩ := List.getElem?_eq_some_iff.1 h
  conv => lhs; rw [← List.take_append_drop i l, List.drop_eq_getElem_cons hi]
  exact List.perm_middle
theorem Sub.take {N : List HE} {M : List SE} (h : Sub N M) {i j : Nat} {x : HE} {y : SE} (hx : N[i]? = some x) (hy : M[j]? = some y) (e : x.key = y.key) : Sub (N.take i ++ N.drop (i + 1)) (M.take j ++ M.drop (j + 1)) := by
  obtain ⟨R, h⟩ := h
  refine ⟨R, ?_⟩
  have h1 := (perm_out hx).map HE.key
  have h2 := (perm_out hy).map SE.key
  have h3 := (h2.symm.trans h).trans (h1.append_right R)
  simp only [List.map_cons, List.cons_append, e] at h3
  exact h3.cons_inv
theorem Sub.has {N : List HE} {M : List SE} (h : Sub N M) {i : Nat} {x : HE} (hx : N[i]? = some x) : ∃ (j : Nat) (y : SE), M[j]? = some y ∧ y.key = x.key := by
  obtain ⟨R, h⟩ := h
  have : x.key ∈ M.map SE.key := h.mem_iff.2 (List.mem_append.2 (Or.inl (List.mem_map.2 ⟨x, List.mem_of_getElem? hx, rfl⟩)))
  obtain ⟨y, hy, e⟩ := List.mem_map.1 this
  obtain ⟨j, hj⟩ := List.mem_iff_getElem?.1 hy
  exact ⟨j, y, hj, e⟩

/-- The search: where a packet like this was found among the first jn. -/
def Found (M : List SE) (q : Key) (jn : Nat) (at_ : Int) : Prop :=
  (at_ = -1 ∧ ∀ i y, i < jn → M[i]? = some y → y.key ≠ q) ∨ ∃ (i : Nat) (y : SE), at_ = (i : Int) ∧ i < jn ∧ M[i]? = some y ∧ y.key = q

theorem found_start (M : List SE) (q : Key) : Found M q 0 (-1) := Or.inl ⟨rfl, fun i y h => by omega⟩
theorem found_old {M : List SE} {q : Key} {jn : Nat} {a : Int} (h : Found M q jn a) (ha : 0 ≤ a) : Found M q (jn + 1) a := by
  rcases h with ⟨rfl, _⟩ | ⟨i, y, h1, h2, h3⟩
  · omega
  · exact Or.inr ⟨i, y, h1, by omega, h3⟩
theorem found_new {M : List SE} {q : Key} {jn : Nat} {y : SE} (hy : M[jn]? = some y) (e : y.key = q) : Found M q (jn + 1) (jn : Int) := Or.inr ⟨jn, y, rfl, by omega, hy, e⟩
theorem found_not {M : List SE} {q : Key} {jn : Nat} {a : Int} {y : SE} (h : Found M q jn a) (ha : a < 0) (hy : M[jn]? = some y) (e : y.key ≠ q) : Found M q (jn + 1) a := by
  rcases h with ⟨rfl, h⟩ | ⟨i, y', h1, h2, h3⟩
  · refine Or.inl ⟨rfl, fun i z hi hz => ?_⟩
    by_cases hij : i = jn
    · subst hij
      rw [hy] at hz
      cases hz
      exact e
    · exact h i z (by omega) hz
  · omega
theorem found_end {N : List HE} {M : List SE} (hS : Sub N M) {i : Nat} {x : HE} (hx : N[i]? = some x) {a : Int} {jn : Nat} (h : Found M x.key jn a) (hj : M.length ≤ jn) : ∃ (j : Nat) (y : SE), a = (j : Int) ∧ M[j]? = some y ∧ x.key = y.key := by
  rcases h with ⟨_, h⟩ | ⟨j, y, h1, h2, h3, h4⟩
  · obtain ⟨j, y, hy, e⟩ := hS.has hx
    exact absurd e (h j y (by have := (List.getElem?_eq_some_iff.1 hy).1; omega) hy)
  · exact ⟨j, y, h1, h3, h4.symm⟩

theorem bytes_ne {a b : List UInt8} (h : a ≠ b) : ((⟨a.toArray⟩ : ByteArray).toList == (⟨b.toArray⟩ : ByteArray).toList) = false := by
  rw [ByteArray.toList_eq, ByteArray.toList_eq, beq_eq_false_iff_ne]
  intro e
  exact h (by simpa using e)

/-- The net, and what was sent. -/
structure Both (w : World) (B nb : Nat) (k : Nat) (vs : Value) : Prop where
  ex : ∃ (N : List HE) (a : Option Addr) (cap : Nat) (sent : Int) (M : List SE), Net w B nb a cap 1000 sent N ∧ Row w B 32 3 sCells vs M ∧ (∀ y ∈ M, Row w B 5 1 cU y.v y.l) ∧ Sub N M ∧ N.length ≤ k ∧ M.length ≤ k ∧ 0 ≤ sent ∧ sent ≤ k



set_option maxRecDepth 100000 in
set_option maxHeartbeats 20000000 in
theorem true_walk (a0 : Option Addr) (len0 cap0 : Nat) (z : Nat → LkOp) (w : World) (h0 : IsLk w a0 len0 z) :
    Calls Try.prog 3 #[.slice a0 len0 cap0] w fun e w' => e = .returned (.bool true) ∧ Below w.heap.size w w' := by
  obtain ⟨hmax, hok, hrow⟩ := h0
  unfold maxLen at hmax
  go_enter Try.func3, Try.ntmps3
  go_wp2_with fail
  refine (awake_any _).mono ?_
  rintro _ w1 ⟨rfl, hk1⟩
  go_wp2_with fail
  refine (new_any 1000 _ hk1.size).mono ?_
  rintro _ w2 ⟨rfl, T2, hk2, hs2⟩
  have hlo : w.heap.size ≤ w1.heap.size := hk1.size
  have hk : Keep NoB w w2 := hk1.trans hk2
  generalize hnb : w1.heap.size = nb at *
  clear hk1 hk2 hs2 hnb
  go_wp2_with fail
  have B2 : Both w2 w.heap.size nb 0 (.slice none 0 0) := ⟨⟨[], none, 0, 0, [], T2, Row.nil _ _ _ _ _, by simp, Sub.nil, by simp, by simp, by omega, by omega⟩⟩
  clear T2
  go_loopw [4, 5] (fun vs i wr => ∃ k : Nat, k ≤ len0 ∧ k ≤ 100 ∧ i = .int .i64 k ∧ Both wr w.heap.size nb k vs ∧ Keep NoB w wr) (fun _ i _ => len0 - (intOf i).toNat)
  case atStart => exact ⟨0, Nat.zero_le _, Nat.zero_le _, rfl, B2, hk⟩
  case round =>
    clear B2 hk
    obtain ⟨k, hk0, hk100, rfl, hB, hk⟩ := hrel
    by_cases hgo : k < len0 ∧ k < 100
    · obtain ⟨hlt, h200⟩ := hgo
      have h200i : decide ((k : Int) < 100) = true := by simp; omega
      rcases hrow with h | ⟨b, off, rfl, hb, hc⟩
      · omega
      have hcw := hc k hlt
      have hop := hok k hlt
      clear hc
      generalize hzk : z k = x at hcw hop
      clear hzk
      obtain ⟨kd, xf, xt, xi, xj, xc, xa, xcap, xl⟩ := x
      have hcw0 := hcw 0 (by omega)
      have hcw1 := hcw 1 (by omega)
      have hcw2 := hcw 2 (by omega)
      have hcw3 := hcw 3 (by omega)
      have hcw4 := hcw 4 (by omega)
      have hcw5 := hcw 5 (by omega)
      have hcw6 := hcw 6 (by omega)
      simp only [lkCells, Nat.add_zero, List.getElem?_cons_zero, List.getElem?_cons_succ, LkOp.v] at hcw0 hcw1 hcw2 hcw3 hcw4 hcw5 hcw6
      have hb0 : b < wr.heap.size := Nat.lt_of_lt_of_le hb hk.size
      have l0 := (hk.cell (p := ⟨b, off + k * 7, none⟩) hb (fun h => h)).trans hcw0
      have l1 := (hk.cell (p := ⟨b, off + k * 7 + 1, none⟩) hb (fun h => h)).trans hcw1
      have l2 := (hk.cell (p := ⟨b, off + k * 7 + 2, none⟩) hb (fun h => h)).trans hcw2
      have l3 := (hk.cell (p := ⟨b, off + k * 7 + 3, none⟩) hb (fun h => h)).trans hcw3
      have l4 := (hk.cell (p := ⟨b, off + k * 7 + 4, none⟩) hb (fun h => h)).trans hcw4
      have l5 := (hk.cell (p := ⟨b, off + k * 7 + 5, none⟩) hb (fun h => h)).trans hcw5
      have l6 := (hk.cell (p := ⟨b, off + k * 7 + 6, none⟩) hb (fun h => h)).trans hcw6
      obtain ⟨_, _, _, _, _, _, hrd, hll⟩ := hop
      simp only [LkOp.v] at hrd hll
      unfold maxLen at hll
      clear hcw hcw0 hcw1 hcw2 hcw3 hcw4 hcw5 hcw6
      by_cases hbig : 1000 < xl.length
      · have hd9 : decide (1000 < (xl.length : Int)) = true := by simp; omega
        go_wp2_with fail
        go_ret
        exact ⟨rfl, (hk.alloc _).below (fun _ _ h => h)⟩
      have hd9 : decide (1000 < (xl.length : Int)) = false := by simp; omega
      have hkd : kd = 0 ∨ kd = 5 ∨ ((kd == 0) = false ∧ (kd == 5) = false) := by simp; omega
      obtain ⟨N, a, cap, sent, M, TN, RM, hM, hS, hN, hMl, hs0, hs1⟩ := hB.ex
      obtain ⟨aM, cM, rfl⟩ := RM.shape
      have HM := Lib.hid hM
      have HS0 := Lib.hid hS
      clear hB hM hS
      rcases hkd with rfl | rfl | ⟨e0, e5⟩
      · as_aux_lemma =>
        go_wp2_with fail
        have TV := TN.keep0 ((Keep.refl NoB wr).alloc (.cells #[.int .i64 0, .int .i64 xf, .int .i64 xt, .int .i64 xi, .int .i64 xj, .int .u8 xc, .slice xa xl.length xcap] 29))
        have RMV := RM.alloc (.cells #[.int .i64 0, .int .i64 xf, .int .i64 xt, .int .i64 xi, .int .i64 xj, .int .u8 xc, .slice xa xl.length xcap] 29)
        have HMV := Lib.hid (show ∀ y ∈ M, Row (World.alloc wr (.cells #[.int .i64 0, .int .i64 xf, .int .i64 xt, .int .i64 xi, .int .i64 xj, .int .u8 xc, .slice xa xl.length xcap] 29)) w.heap.size 5 1 cU y.v y.l from fun y hy => (HM.out y hy).alloc _)
        have KV := hk.alloc (.cells #[.int .i64 0, .int .i64 xf, .int .i64 xt, .int .i64 xi, .int .i64 xj, .int .u8 xc, .slice xa xl.length xcap] 29)
        have RDV := hrd.keep KV (fun _ _ _ _ h => h)
        have sV := KV.size
        have bV := blk_new wr (.cells #[.int .i64 0, .int .i64 xf, .int .i64 xt, .int .i64 xi, .int .i64 xj, .int .u8 xc, .slice xa xl.length xcap] 29)
        generalize World.alloc wr (.cells #[.int .i64 0, .int .i64 xf, .int .i64 xt, .int .i64 xi, .int .i64 xj, .int .u8 xc, .slice xa xl.length xcap] 29) = V at TV RMV HMV KV RDV sV bV ⊢
        generalize wr.heap.size = ob at bV ⊢
        clear l0 l1 l2 l3 l4 l5 l6 hb0
        refine (send_ok w.heap.size nb a cap 1000 sent N xf xt _ xl _ TV sV RDV (by omega) (by omega) (by omega) hs0 (by omega)).mono ?_
        rintro _ w5 ⟨a5, c5, g5, rfl, T5, k5⟩
        have hon : ob ≠ nb := by intro e; have h1 := TV.blk; rw [← e, bV] at h1; cases h1
        have b5 := blk_keep bV k5 (fun e => by rcases e with e | e; exact hon e; exact TV.row.ne bV (by decide) _ e rfl)
        have RM5 := RMV.keep k5 (fun g hg e => by rcases e with e | e; exact RMV.ne TV.blk (by decide) g hg e; exact RMV.ne_own TV.row (by decide) g hg e)
        have hM5 : ∀ y ∈ M, Row w5 w.heap.size 5 1 cU y.v y.l := fun y hy => (HMV.out y hy).keep k5 (fun g hg e => by rcases e with e | e; exact (HMV.out y hy).ne TV.blk (by decide) g hg e; exact (HMV.out y hy).ne_own TV.row (by decide) g hg e)
        have K5 : Keep NoB w w5 := KV.trans' k5 (fun i hi e => by have := SN_out TV hlo i e; omega)
        have RD5 := hrd.keep K5 (fun _ _ _ _ h => h)
        have s5 := K5.size
        have HM5 := Lib.hid hM5
        have HT5 := Lib.hid T5
        have Hb5 := Lib.hid b5
        have y0 := blk_cell b5 1
        have y1 := blk_cell b5 2
        have y2 := blk_cell b5 6
        have y3 := blk_lt b5
        simp at y0 y1 y2
        clear k5 hM5 T5 b5 TV RMV KV RDV bV HMV sV hon TN RM hk
        go_wp2_with fail
        refine wp_region_plan (fun u => u.cell? ⟨ob, 1, none⟩ = some (.int .i64 xf) ∧ u.cell? ⟨ob, 2, none⟩ = some (.int .i64 xt) ∧ u.cell? ⟨ob, 6, none⟩ = some (.slice xa xl.length xcap)) [12] [(true, 0), (true, 1), (true, 2), (true, 3), (true, 4), (true, 6), (true, 7), (false, 5), (false, 8), (false, 9), (false, 10), (false, 11), (false, 12)] (by kernel_rfl) (by kernel_rfl) (by kernel_rfl) (by kernel_rfl) (by intro c b d v u h; cases d <;> exact h) ?_
        have HS := Lib.hid (show w5.drew.cell? ⟨ob, 1, none⟩ = some (.int .i64 xf) ∧ w5.drew.cell? ⟨ob, 2, none⟩ = some (.int .i64 xt) ∧ w5.drew.cell? ⟨ob, 6, none⟩ = some (.slice xa xl.length xcap) from ⟨y0, y1, y2⟩)
        clear y0 y1 y2
        refine plan_get (i := 0) rfl rfl HS.out rfl (fun u hu => by (try dsimp only at hu); go_simp; rfl) (by simp only [List.setIfInBounds_toArray, List.set_cons_succ, List.set_cons_zero]; rfl) ?_
        refine plan_get (i := 1) rfl rfl HS.out rfl (fun u hu => by (try dsimp only at hu); go_simp; rfl) (by simp only [List.setIfInBounds_toArray, List.set_cons_succ, List.set_cons_zero]; rfl) ?_
        refine plan_get (i := 2) rfl rfl HS.out rfl (fun u hu => by (try dsimp only at hu); go_simp; rfl) (by simp only [List.setIfInBounds_toArray, List.set_cons_succ, List.set_cons_zero]; rfl) ?_
        refine plan_get (i := 3) rfl rfl HS.out rfl (fun u hu => by (try dsimp only at hu); go_simp; rfl) (by simp only [List.setIfInBounds_toArray, List.set_cons_succ, List.set_cons_zero]; rfl) ?_
        refine plan_get (i := 4) rfl rfl HS.out rfl (fun u hu => by (try dsimp only at hu); go_simp; rfl) (by simp only [List.setIfInBounds_toArray, List.set_cons_succ, List.set_cons_zero]; rfl) ?_
        refine plan_get (i := 6) rfl rfl HS.out rfl (fun u hu => by (try dsimp only at hu); go_simp; rfl) (by simp only [List.setIfInBounds_toArray, List.set_cons_succ, List.set_cons_zero]; rfl) ?_
        refine plan_get (i := 7) rfl rfl HS.out rfl (fun u hu => by (try dsimp only at hu); go_simp; rfl) (by simp only [List.setIfInBounds_toArray, List.set_cons_succ, List.set_cons_zero]; rfl) ?_
        refine plan_one (i := 5) rfl ?_
        go_wp2_with (fail)
        have K1 : Keep NoB w5 (World.drew (World.alloc w5 (.cells #[] 5))) := ((Keep.refl NoB w5).alloc _).drew
        have O0 : Row (World.drew (World.alloc w5 (.cells #[] 5))) w.heap.size 5 1 cU (.slice (some ⟨w5.heap.size, 0, none⟩) 0 0) [] := ((Own.empty w5 s5 5 1 cU).row).keep (S := NoB) ((Keep.refl NoB _).drew) (fun _ _ h => h)
        generalize World.drew (World.alloc w5 (.cells #[] 5)) = Z at K1 O0 ⊢
        have HSZ := Lib.hid (show Z.cell? ⟨ob, 1, none⟩ = some (.int .i64 xf) ∧ Z.cell? ⟨ob, 2, none⟩ = some (.int .i64 xt) ∧ Z.cell? ⟨ob, 6, none⟩ = some (.slice xa xl.length xcap) from ⟨K1.some HS.out.1 (fun h => h), K1.some HS.out.2.1 (fun h => h), K1.some HS.out.2.2 (fun h => h)⟩)
        have sZ := K1.size
        refine after_next (fun _ => HSZ.out) ?_
        refine plan_one (i := 8) rfl ?_
        go_wp2_with ((refine wpList_row_rd rfl (.tmp 110) (.tmp 112) rfl rfl O0 rfl (RD5.keep K1 (fun _ _ _ _ h => h)) (by simp; omega) (by omega) (List.nil_append xl) ?_; intro a6 c6 w6 R6 k6))
        have K6 : Keep NoB w5 w6 := K1.trans' k6 (fun i hi e => by have h1 : w5.heap.size = i := Option.some.inj e; omega)
        have HS6 := Lib.hid (show w6.cell? ⟨ob, 1, none⟩ = some (.int .i64 xf) ∧ w6.cell? ⟨ob, 2, none⟩ = some (.int .i64 xt) ∧ w6.cell? ⟨ob, 6, none⟩ = some (.slice xa xl.length xcap) from ⟨K6.some HS.out.1 (fun h => h), K6.some HS.out.2.1 (fun h => h), K6.some HS.out.2.2 (fun h => h)⟩)
        have s6 := K6.size
        clear k6 K1 O0 sZ
        refine after_next (fun _ => HS6.out) ?_
        refine plan_one (i := 9) rfl ?_
        go_wp2_with (fail)
        refine after_next (fun _ => HS6.out) ?_
        refine plan_one (i := 10) rfl ?_
        go_wp2_with (fail)
        have K7 : Keep NoB w6 (World.alloc w6 (.cells #[.int .i64 xf, .int .i64 xt, .slice a6 xl.length c6] 32)) := (Keep.refl NoB w6).alloc _
        have HS7 := Lib.hid (show (World.alloc w6 (.cells #[.int .i64 xf, .int .i64 xt, .slice a6 xl.length c6] 32)).cell? ⟨ob, 1, none⟩ = some (.int .i64 xf) ∧ (World.alloc w6 (.cells #[.int .i64 xf, .int .i64 xt, .slice a6 xl.length c6] 32)).cell? ⟨ob, 2, none⟩ = some (.int .i64 xt) ∧ (World.alloc w6 (.cells #[.int .i64 xf, .int .i64 xt, .slice a6 xl.length c6] 32)).cell? ⟨ob, 6, none⟩ = some (.slice xa xl.length xcap) from ⟨K7.some HS6.out.1 (fun h => h), K7.some HS6.out.2.1 (fun h => h), K7.some HS6.out.2.2 (fun h => h)⟩)
        refine after_next (fun _ => HS7.out) ?_
        obtain ⟨M', hM'⟩ : ∃ l', M ++ [⟨xf, xt, a6, c6, xl⟩] = l' := ⟨_, rfl⟩
        have hMl' : M'.length ≤ k + 1 := by rw [← hM']; simp; omega
        have HM' := Lib.hid hM'
        clear hM'
        refine plan_one (i := 11) rfl ?_
        go_wp2_with ((refine wpList_row_one rfl (.tmp 105) (.tmp 115) 26 rfl Try.underlying26 info32' (by kernel_rfl) (by decide) (by decide) rfl ((RM5.keep K6 (fun _ _ h => h)).keep K7 (fun _ _ h => h)) sCells_len ⟨xf, xt, a6, c6, xl⟩ rfl (blk_new w6 _) rfl (sCells_one _) (by omega) (by simp; omega) HM'.out ?_; intro a8 c8 w8 R8 k8))
        replace k8 : Keep (fun k => (Value.slice aM M.length cM).ownBlock = some k) _ w8 := k8
        have K67 : Keep NoB w5 (World.alloc w6 (.cells #[.int .i64 xf, .int .i64 xt, .slice a6 xl.length c6] 32)) := K6.trans K7
        have T7 := HT5.out.keep0 K67
        have T8 := T7.keep k8 (fun e => RM5.ne HT5.out.blk (by decide) _ e rfl) (fun g hg e => RM5.ne_own HT5.out.row (by decide) g e hg) (fun y hy g hg e => RM5.ne_own (HT5.out.each y hy).1 (by decide) g e hg)
        have R68 := (R6.alloc (.cells #[.int .i64 xf, .int .i64 xt, .slice a6 xl.length c6] 32))
        have hM8 : ∀ y ∈ M', Row w8 w.heap.size 5 1 cU y.v y.l := by
          intro y hy
          rw [← HM'.out] at hy
          rcases List.mem_append.1 hy with hy | hy
          · exact ((HM5.out y hy).keep K67 (fun _ _ h => h)).keep k8 (fun g hg e => RM5.ne_own (HM5.out y hy) (by decide) g e hg)
          · simp at hy
            subst hy
            exact R68.keep k8 (fun g hg e => ((RM5.keep K6 (fun _ _ h => h)).keep K7 (fun _ _ h => h)).ne_own R68 (by decide) g e hg)
        have K8 : Keep NoB w w8 := (K5.trans K67).trans' k8 (fun i hi e => by have := RM5.fresh i e; omega)
        have hb7 := blk_keep (blk_keep Hb5.out K67 (fun h => h)) k8 (fun e => RM5.ne Hb5.out (by decide) _ e rfl)
        have HS8 := Lib.hid (show w8.cell? ⟨ob, 1, none⟩ = some (.int .i64 xf) ∧ w8.cell? ⟨ob, 2, none⟩ = some (.int .i64 xt) ∧ w8.cell? ⟨ob, 6, none⟩ = some (.slice xa xl.length xcap) from ⟨by simpa using blk_cell hb7 1, by simpa using blk_cell hb7 2, by simpa using blk_cell hb7 6⟩)
        have hS8 := HS0.out.send ⟨xf, xt, some ⟨g5, 0, none⟩, xl.length, false, xl⟩ ⟨xf, xt, a6, c6, xl⟩ rfl
        rw [HM'.out] at hS8
        have hNl : (N ++ [(⟨xf, xt, some ⟨g5, 0, none⟩, xl.length, false, xl⟩ : HE)]).length ≤ k + 1 := by simp; omega
        have HFIN := Lib.hid (show Both w8 w.heap.size nb (k + 1) (.slice a8 M'.length c8) from ⟨⟨_, a5, c5, sent + 1, M', T8, R8, hM8, hS8, hNl, hMl', by omega, by omega⟩⟩)
        clear hS8 hM8 T8 T7 R68 R8 k8 hb7 hNl R6 K67 K6 K7 RM5 RD5
        refine after_next (fun _ => HS8.out) ?_
        refine plan_one (i := 12) rfl ?_
        go_wp2_with (fail)
        refine after_next (fun h => by cases h) ?_
        refine plan_done ?_
        go_wp2_with fail
        go_roundw
        case rel => exact ⟨k + 1, hlt, h200, by go_num, HFIN.out, K8⟩
        case measure => simp [intOf]; omega
      · as_aux_lemma =>
        go_wp2_with fail
        have TV := TN.keep0 ((Keep.refl NoB wr).alloc (.cells #[.int .i64 5, .int .i64 xf, .int .i64 xt, .int .i64 xi, .int .i64 xj, .int .u8 xc, .slice xa xl.length xcap] 29))
        have RMV := RM.alloc (.cells #[.int .i64 5, .int .i64 xf, .int .i64 xt, .int .i64 xi, .int .i64 xj, .int .u8 xc, .slice xa xl.length xcap] 29)
        have HMV := Lib.hid (show ∀ y ∈ M, Row (World.alloc wr (.cells #[.int .i64 5, .int .i64 xf, .int .i64 xt, .int .i64 xi, .int .i64 xj, .int .u8 xc, .slice xa xl.length xcap] 29)) w.heap.size 5 1 cU y.v y.l from fun y hy => (HM.out y hy).alloc _)
        have KV := hk.alloc (.cells #[.int .i64 5, .int .i64 xf, .int .i64 xt, .int .i64 xi, .int .i64 xj, .int .u8 xc, .slice xa xl.length xcap] 29)
        have RDV := hrd.keep KV (fun _ _ _ _ h => h)
        have sV := KV.size
        have bV := blk_new wr (.cells #[.int .i64 5, .int .i64 xf, .int .i64 xt, .int .i64 xi, .int .i64 xj, .int .u8 xc, .slice xa xl.length xcap] 29)
        generalize World.alloc wr (.cells #[.int .i64 5, .int .i64 xf, .int .i64 xt, .int .i64 xi, .int .i64 xj, .int .u8 xc, .slice xa xl.length xcap] 29) = V at TV RMV HMV KV RDV sV bV ⊢
        generalize wr.heap.size = ob at bV ⊢
        clear l0 l1 l2 l3 l4 l5 l6 hb0
        refine (drop_any w.heap.size nb a cap 1000 sent N xi _ TV sV (by omega) _ rfl).mono ?_
        rintro _ w5 ⟨a5, c5, rfl, T5, k5⟩
        have RM5 := RMV.keep k5 (fun g hg e => RMV.ne TV.blk (by decide) g hg e)
        have hM5 : ∀ y ∈ M, Row w5 w.heap.size 5 1 cU y.v y.l := fun y hy => (HMV.out y hy).keep k5 (fun g hg e => (HMV.out y hy).ne TV.blk (by decide) g hg e)
        have K5 : Keep NoB w w5 := KV.trans' k5 (fun i hi e => by have : i = nb := e; omega)
        have hS5 := HS0.out.drop (keepP xi)
        have hN5 : (N.filter (keepP xi)).length ≤ k := Nat.le_trans (List.length_filter_le _ _) hN
        have HFIN := Lib.hid (show Both w5 w.heap.size nb (k + 1) (.slice aM M.length cM) from ⟨⟨_, a5, c5, sent, M, T5, RM5, hM5, hS5, by omega, by omega, hs0, by omega⟩⟩)
        clear hM5 T5 RM5 k5 TV RMV KV RDV bV HMV sV TN RM hk hS5 hN5
        go_wp2_with fail
        go_roundw
        case rel => exact ⟨k + 1, hlt, h200, by go_num, HFIN.out, K5⟩
        case measure => simp [intOf]; omega
      · as_aux_lemma =>
        by_cases hin : 0 ≤ xi ∧ xi < (N.length : Int)
        · obtain ⟨i, rfl⟩ : ∃ i : Nat, xi = (i : Int) := ⟨xi.toNat, by omega⟩
          have hi : i < N.length := by omega
          obtain ⟨x, hx⟩ : ∃ x, N[i]? = some x := ⟨_, List.getElem?_eq_getElem hi⟩
          have HX := Lib.hid hx
          clear hx hin
          go_wp2_with fail
          have TV := TN.keep0 ((Keep.refl NoB wr).alloc (.cells #[.int .i64 kd, .int .i64 xf, .int .i64 xt, .int .i64 (i : Int), .int .i64 xj, .int .u8 xc, .slice xa xl.length xcap] 29))
          have RMV := RM.alloc (.cells #[.int .i64 kd, .int .i64 xf, .int .i64 xt, .int .i64 (i : Int), .int .i64 xj, .int .u8 xc, .slice xa xl.length xcap] 29)
          have HMV := Lib.hid (show ∀ y ∈ M, Row (World.alloc wr (.cells #[.int .i64 kd, .int .i64 xf, .int .i64 xt, .int .i64 (i : Int), .int .i64 xj, .int .u8 xc, .slice xa xl.length xcap] 29)) w.heap.size 5 1 cU y.v y.l from fun y hy => (HM.out y hy).alloc _)
          have KV := hk.alloc (.cells #[.int .i64 kd, .int .i64 xf, .int .i64 xt, .int .i64 (i : Int), .int .i64 xj, .int .u8 xc, .slice xa xl.length xcap] 29)
          have RDV := hrd.keep KV (fun _ _ _ _ h => h)
          have sV := KV.size
          have bV := blk_new wr (.cells #[.int .i64 kd, .int .i64 xf, .int .i64 xt, .int .i64 (i : Int), .int .i64 xj, .int .u8 xc, .slice xa xl.length xcap] 29)
          generalize World.alloc wr (.cells #[.int .i64 kd, .int .i64 xf, .int .i64 xt, .int .i64 (i : Int), .int .i64 xj, .int .u8 xc, .slice xa xl.length xcap] 29) = V at TV RMV HMV KV RDV sV bV ⊢
          generalize wr.heap.size = ob at bV ⊢
          clear l0 l1 l2 l3 l4 l5 l6 hb0
          refine (take_in w.heap.size nb a cap 1000 sent N i x _ TV sV HX.out (by omega)).mono ?_
          rintro _ w5 ⟨a5, c5, g5, rfl, hg5, R5, T5, k5⟩
          have RM5 := RMV.keep k5 (fun g hg e => by rcases e with e | e; exact RMV.ne TV.blk (by decide) g hg e; exact RMV.ne_own TV.row (by decide) g hg e)
          have hM5 : ∀ y ∈ M, Row w5 w.heap.size 5 1 cU y.v y.l := fun y hy => (HMV.out y hy).keep k5 (fun g hg e => by rcases e with e | e; exact (HMV.out y hy).ne TV.blk (by decide) g hg e; exact (HMV.out y hy).ne_own TV.row (by decide) g hg e)
          have K5 : Keep NoB w w5 := KV.trans' k5 (fun i hi e => by have := SN_out TV hlo i e; omega)
          have s5 := K5.size
          have HM5 := Lib.hid hM5
          have HT5 := Lib.hid T5
          obtain ⟨pf, pt, pa, pc, pn, pl⟩ := x
          simp only at R5
          clear k5 hM5 T5 TV RMV KV RDV bV HMV sV TN RM hk
          go_wp2_with fail
          have KW := K5.alloc (.cells #[.int .i64 pf, .int .i64 pt, .slice (some ⟨g5, 0, none⟩) pl.length pl.length] 32)
          have TW := HT5.out.keep0 ((Keep.refl NoB w5).alloc (.cells #[.int .i64 pf, .int .i64 pt, .slice (some ⟨g5, 0, none⟩) pl.length pl.length] 32))
          have RMW := RM5.alloc (.cells #[.int .i64 pf, .int .i64 pt, .slice (some ⟨g5, 0, none⟩) pl.length pl.length] 32)
          have RW := R5.alloc (.cells #[.int .i64 pf, .int .i64 pt, .slice (some ⟨g5, 0, none⟩) pl.length pl.length] 32)
          have HMW := Lib.hid (show ∀ y ∈ M, Row (World.alloc w5 (.cells #[.int .i64 pf, .int .i64 pt, .slice (some ⟨g5, 0, none⟩) pl.length pl.length] 32)) w.heap.size 5 1 cU y.v y.l from fun y hy => (HM5.out y hy).alloc _)
          have bp := blk_new w5 (.cells #[.int .i64 pf, .int .i64 pt, .slice (some ⟨g5, 0, none⟩) pl.length pl.length] 32)
          generalize World.alloc w5 (.cells #[.int .i64 pf, .int .i64 pt, .slice (some ⟨g5, 0, none⟩) pl.length pl.length] 32) = V2 at KW TW RMW RW HMW bp ⊢
          generalize w5.heap.size = pb at bp ⊢
          have HTW := Lib.hid TW
          have Hbp := Lib.hid bp
          have HRW := Lib.hid RW
          have sW := KW.size
          clear TW bp RW HT5 R5 RM5 HM5 K5 s5
          go_loopw [9, 45] (fun at_ j wx => ∃ (jn : Nat) (av : Int), jn ≤ M.length ∧ j = .int .i64 jn ∧ at_ = .int .i64 av ∧ Found M (pf, pt, pl) jn av ∧ -1 ≤ av ∧ Keep NoB V2 wx) (fun _ j _ => M.length - (intOf j).toNat)
          case atStart => exact ⟨0, -1, Nat.zero_le _, rfl, rfl, found_start _ _, by omega, Keep.refl _ _⟩
          case round =>
            obtain ⟨jn, av, hj, rfl, rfl, hF, hav, hkx⟩ := hrel
            have HF := Lib.hid hF
            clear hF
            by_cases hjl : jn < M.length
            · by_cases ha : 0 ≤ av
              · have hd1 : decide (av < 0) = false := by simp; omega
                have HF2 := Lib.hid (found_old HF.out ha)
                go_wp2_with fail
                go_quiet (fail)
                go_wp2_with fail
                go_roundw
                case rel => exact ⟨jn + 1, av, hjl, by go_num, rfl, HF2.out, hav, hkx.drewN nq⟩
                case measure => simp [intOf]; omega
              · have ha' : av < 0 := by omega
                have hd1 : decide (av < 0) = true := by simp; omega
                obtain ⟨y, hy⟩ : ∃ y, M[jn]? = some y := ⟨_, List.getElem?_eq_getElem hjl⟩
                obtain ⟨g, cc, hvv, hg1, hg2, hcx⟩ := (RMW.keep hkx (fun _ _ h => h)).cells sCells_len hy
                cases hvv
                have hyr := (HMW.out y (List.mem_of_getElem? hy)).keep hkx (fun _ _ h => h)
                obtain ⟨yf, yt, ya, yc, yl⟩ := y
                have m0 := hcx 0 _ rfl
                have m1 := hcx 1 _ rfl
                have m2 := hcx 2 _ rfl
                simp only [Nat.add_zero, SE.v] at m0 m1 m2 hyr
                have bpx := blk_keep Hbp.out hkx (fun h => h)
                have p0 := blk_cell bpx 0
                have p1 := blk_cell bpx 1
                have p2 := blk_cell bpx 2
                have p3 := blk_lt bpx
                simp at p0 p1 p2
                have HY := Lib.hid hy
                have hs1' : ∀ n, (convert 27 9 (.slice ya yl.length yc)).run Try.prog (wr.drewN n) = .ok (.string ⟨yl.toArray⟩) (wr.drewN n) := fun n => (hyr.keep (S := NoB) ((Keep.refl NoB wr).drewN n) (fun _ _ h => h)).rd.str
                have hs2' : ∀ n, (convert 27 9 (.slice (some ⟨g5, 0, none⟩) pl.length pl.length)).run Try.prog (wr.drewN n) = .ok (.string ⟨pl.toArray⟩) (wr.drewN n) := fun n => ((HRW.out.keep hkx (fun _ _ h => h)).keep (S := NoB) ((Keep.refl NoB wr).drewN n) (fun _ _ h => h)).rd.str
                clear hcx hy bpx hyr
                by_cases h1 : yf = pf
                · subst h1
                  have hd2 : (yf == yf) = true := by simp
                  by_cases h2 : yt = pt
                  · subst h2
                    have hd3 : (yt == yt) = true := by simp
                    by_cases h3 : yl = pl
                    · subst h3
                      have HF2 := Lib.hid (found_new HY.out (q := (yf, yt, yl)) rfl)
                      have hd4 : ((⟨yl.toArray⟩ : ByteArray).toList == (⟨yl.toArray⟩ : ByteArray).toList) = true := by simp
                      go_wp2_with fail
                      go_quiet (fail)
                      go_wp2_with fail
                      go_roundw
                      case rel => exact ⟨jn + 1, (jn : Int), hjl, by go_num, rfl, HF2.out, by omega, hkx.drewN nq⟩
                      case measure => simp [intOf]; omega
                    · have HF2 := Lib.hid (found_not HF.out ha' HY.out (by simp [SE.key, h3]))
                      have hd4 := bytes_ne h3
                      have hd6 : (yl == pl) = false := by simpa using h3
                      go_wp2_with fail
                      go_quiet (fail)
                      go_wp2_with fail
                      go_roundw
                      case rel => exact ⟨jn + 1, av, hjl, by go_num, rfl, HF2.out, hav, hkx.drewN nq⟩
                      case measure => simp [intOf]; omega
                  · have HF2 := Lib.hid (found_not HF.out ha' HY.out (by simp [SE.key, h2]))
                    have hd3 : (yt == pt) = false := by simpa using h2
                    clear h2
                    go_wp2_with fail
                    go_quiet (fail)
                    go_wp2_with fail
                    go_roundw
                    case rel => exact ⟨jn + 1, av, hjl, by go_num, rfl, HF2.out, hav, hkx.drewN nq⟩
                    case measure => simp [intOf]; omega
                · have HF2 := Lib.hid (found_not HF.out ha' HY.out (by simp [SE.key, h1]))
                  have hd2 : (yf == pf) = false := by simpa using h1
                  clear h1
                  go_wp2_with fail
                  go_quiet (fail)
                  go_wp2_with fail
                  go_roundw
                  case rel => exact ⟨jn + 1, av, hjl, by go_num, rfl, HF2.out, hav, hkx.drewN nq⟩
                  case measure => simp [intOf]; omega
            · obtain ⟨j, y, rfl, hy, hxy⟩ := found_end HS0.out HX.out (show Found M (HE.key ⟨pf, pt, pa, pc, pn, pl⟩) jn av from HF.out) (by omega)
              have hjM := (List.getElem?_eq_some_iff.1 hy).1
              have HS1 := Lib.hid (HS0.out.take HX.out hy hxy)
              have hM1 : (M.take j).length = j := by simp; omega
              have hM2 : (M.drop (j + 1)).length = M.length - (j + 1) := by simp
              obtain ⟨g, rfl, hg1, hg2⟩ := RMW.some (by intro e; rw [e] at hjM; simp at hjM)
              have hroom := RMW.room.2
              unfold maxLen at hroom
              obtain ⟨hroom1, hroom2⟩ := hroom
              have RMx := RMW.keep hkx (fun _ _ h => h)
              obtain ⟨M1, hM1'⟩ : ∃ l, M.take j = l := ⟨_, rfl⟩
              obtain ⟨M2, hM2'⟩ : ∃ l, M.drop (j + 1) = l := ⟨_, rfl⟩
              obtain ⟨M', hM'⟩ : ∃ l, M1 ++ M2 = l := ⟨_, rfl⟩
              have HR1 := Lib.hid (show Row wr.drew w.heap.size 32 3 sCells (.slice (some ⟨g, 0, none⟩) j cM) M1 by rw [← hM1']; exact RMx.cut sCells_len j cM (by omega) (by omega) (Nat.le_refl _))
              have HN2 := Lib.hid (show ∀ jj u, (M2.flatMap sCells)[jj]? = some u → wr.drew.cell? ((⟨g, (j + 1) * 3, none⟩ : Addr).add jj) = some u by show ∀ jj u, (M2.flatMap sCells)[jj]? = some u → wr.cell? ((⟨g, (j + 1) * 3, none⟩ : Addr).add jj) = some u; rw [← hM2']; exact RMx.from sCells_len (j + 1))
              rw [hM1'] at hM1
              rw [hM2'] at hM2
              have hMl' : M'.length ≤ k := by rw [← hM', List.length_append]; omega
              have hfin := Lib.hid (show M.take j ++ M.drop (j + 1) = M' by rw [hM1', hM2', hM'])
              have HM1 := Lib.hid hM1
              have HM2 := Lib.hid hM2
              have HM' := Lib.hid hM'
              have hcase : cM = j + 1 ∨ cM ≠ j + 1 := by omega
              have Hcase := Lib.hid hcase
              have sX : w.heap.size ≤ wr.heap.size := Nat.le_trans sW hkx.size
              have HRMx := Lib.hid RMx
              clear hcase hM1 hM2 hM1' hM2' hM' hy hxy RMx
              have f1 : (0 : Int) ≤ (j : Int) := by omega
              have f2 : (j : Int) + 1 ≤ (M.length : Int) := by omega
              have f3 : (M.length : Int) ≤ (cM : Int) := by omega
              have f4 : (0 : Int) ≤ (j : Int) + 1 := by omega
              have f5 : (j : Int) ≤ (cM : Int) := by omega
              have f6 : (j : Int) ≤ (M.length : Int) := by omega
              have f9 : (j : Int) ≤ (j : Int) + 1 := by omega
              have f7 : IntKind.i64.wrap ((j : Int) + 1) = (j : Int) + 1 := IntWalk.i64_in _ (by omega)
              have f8 : ((j : Int) + 1).toNat = j + 1 := by omega
              clear hroom2
              go_wp2_with fail
              have HR1b := Lib.hid (show cM = j + 1 → Row wr.drew w.heap.size 32 3 sCells (.slice (some ⟨g, 0, none⟩) j (j + 1)) M1 from fun e => by have := HR1.out; rw [e] at this; exact this)
              rcases Hcase.out with hcap | hcap
              all_goals
                refine wp_region_plan (fun _ => True) [8] [(true, 0), (true, 1), (true, 2), (true, 3), (true, 4), (true, 5), (true, 6), (false, 7), (false, 8)] (by kernel_rfl) (by kernel_rfl) (by kernel_rfl) (by kernel_rfl) (by intro c b d v u h; cases d <;> exact h) ?_
                refine plan_get (i := 0) rfl rfl trivial rfl (fun u hu => by (try dsimp only at hu); go_simp; rfl) (by simp only [List.setIfInBounds_toArray, List.set_cons_succ, List.set_cons_zero]; rfl) ?_
                refine plan_get (i := 1) rfl rfl trivial rfl (fun u hu => by (try dsimp only at hu); go_simp; rfl) (by simp only [List.setIfInBounds_toArray, List.set_cons_succ, List.set_cons_zero]; rfl) ?_
                refine plan_get (i := 2) rfl rfl trivial rfl (fun u hu => by (try dsimp only at hu); go_simp; rfl) (by simp only [List.setIfInBounds_toArray, List.set_cons_succ, List.set_cons_zero]; rfl) ?_
                refine plan_get (i := 3) rfl rfl trivial rfl (fun u hu => by (try dsimp only at hu); go_simp; rfl) (by simp only [List.setIfInBounds_toArray, List.set_cons_succ, List.set_cons_zero]; rfl) ?_
                refine plan_get (i := 4) rfl rfl trivial rfl (fun u hu => by (try dsimp only at hu); go_simp; rfl) (by simp only [List.setIfInBounds_toArray, List.set_cons_succ, List.set_cons_zero]; rfl) ?_
                refine plan_get (i := 5) rfl rfl trivial rfl (fun u hu => by (try dsimp only at hu); go_simp; rfl) (by simp only [List.setIfInBounds_toArray, List.set_cons_succ, List.set_cons_zero]; rfl) ?_
                refine plan_get (i := 6) rfl rfl trivial rfl (fun u hu => by (try dsimp only at hu); go_simp; rfl) (by simp only [List.setIfInBounds_toArray, List.set_cons_succ, List.set_cons_zero]; rfl) ?_
                refine plan_one (i := 7) rfl ?_
                go_wp2_with (((first | refine wpList_row_list rfl (.tmp 88) (.tmp 92) 26 rfl Try.underlying26 info32' (by kernel_rfl) (by decide) (by decide) rfl HR1.out sCells_len sCells_one M2 rfl HM2.out.symm (by intro jj u hu; first | (with_reducible exact HN2.out jj u hu) | (have e0 : M2 = [] := List.eq_nil_of_length_eq_zero (by have := HM2.out; omega); rw [e0] at hu; simp at hu)) (by have := HM1.out; have := HM2.out; omega) (by show w.heap.size ≤ wr.heap.size; omega) HM'.out ?_ | refine wpList_row_list rfl (.tmp 88) (.tmp 92) 26 rfl Try.underlying26 info32' (by kernel_rfl) (by decide) (by decide) rfl (HR1b.out hcap) sCells_len sCells_one M2 rfl HM2.out.symm (by intro jj u hu; first | (with_reducible exact HN2.out jj u hu) | (have e0 : M2 = [] := List.eq_nil_of_length_eq_zero (by have := HM2.out; omega); rw [e0] at hu; simp at hu)) (by have := HM1.out; have := HM2.out; omega) (by show w.heap.size ≤ wr.heap.size; omega) HM'.out ?_); intro a8 c8 w8 R8 k8))
                replace k8 : Keep (fun k => (Value.slice (some ⟨g, 0, none⟩) M.length cM).ownBlock = some k) wr.drew w8 := k8
                have KX : Keep NoB V2 wr.drew := hkx.drew
                have T8 := (HTW.out.keep0 KX).keep k8 (fun e => HRMx.out.ne (HTW.out.keep0 hkx).blk (by decide) _ e rfl) (fun g' hg e => RMW.ne_own HTW.out.row (by decide) g' e hg) (fun y hy g' hg e => RMW.ne_own (HTW.out.each y hy).1 (by decide) g' e hg)
                have hsub : ∀ y ∈ M', y ∈ M := by
                  intro y hy
                  rw [← hfin.out] at hy
                  rcases List.mem_append.1 hy with hy | hy
                  · exact List.mem_of_mem_take hy
                  · exact List.mem_of_mem_drop hy
                have hM8 : ∀ y ∈ M', Row w8 w.heap.size 5 1 cU y.v y.l := fun y hy => ((HMW.out y (hsub y hy)).keep KX (fun _ _ h => h)).keep k8 (fun g' hg e => RMW.ne_own (HMW.out y (hsub y hy)) (by decide) g' e hg)
                have K8 : Keep NoB w w8 := (KW.trans KX).trans' k8 (fun i hi e => by have := RMW.fresh i e; omega)
                have hS8 := HS1.out
                rw [hfin.out] at hS8
                have hNl : (N.take i ++ N.drop (i + 1)).length ≤ k := by simp; omega
                have HFIN := Lib.hid (show Both w8 w.heap.size nb (k + 1) (.slice a8 M'.length c8) from ⟨⟨_, a5, c5, sent, M', T8, R8, hM8, hS8, by omega, by omega, hs0, by omega⟩⟩)
                clear hM8 T8 KX k8 hS8 hsub R8 hNl
                refine after_next (fun _ => trivial) ?_
                refine plan_one (i := 8) rfl ?_
                go_wp2_with (fail)
                refine after_next (fun h => by cases h) ?_
                refine plan_done ?_
                go_wp2_with fail
                go_roundw
                case rel => exact ⟨k + 1, hlt, h200, by go_num, HFIN.out, K8⟩
                case measure => simp [intOf]; omega
        · have hout2 : xi < 0 ∨ (N.length : Int) ≤ xi := by omega
          have Hout := Lib.hid hout2
          clear hin hout2
          go_wp2_with fail
          have TV := TN.keep0 ((Keep.refl NoB wr).alloc (.cells #[.int .i64 kd, .int .i64 xf, .int .i64 xt, .int .i64 xi, .int .i64 xj, .int .u8 xc, .slice xa xl.length xcap] 29))
          have RMV := RM.alloc (.cells #[.int .i64 kd, .int .i64 xf, .int .i64 xt, .int .i64 xi, .int .i64 xj, .int .u8 xc, .slice xa xl.length xcap] 29)
          have HMV := Lib.hid (show ∀ y ∈ M, Row (World.alloc wr (.cells #[.int .i64 kd, .int .i64 xf, .int .i64 xt, .int .i64 xi, .int .i64 xj, .int .u8 xc, .slice xa xl.length xcap] 29)) w.heap.size 5 1 cU y.v y.l from fun y hy => (HM.out y hy).alloc _)
          have KV := hk.alloc (.cells #[.int .i64 kd, .int .i64 xf, .int .i64 xt, .int .i64 xi, .int .i64 xj, .int .u8 xc, .slice xa xl.length xcap] 29)
          have RDV := hrd.keep KV (fun _ _ _ _ h => h)
          have sV := KV.size
          have bV := blk_new wr (.cells #[.int .i64 kd, .int .i64 xf, .int .i64 xt, .int .i64 xi, .int .i64 xj, .int .u8 xc, .slice xa xl.length xcap] 29)
          generalize World.alloc wr (.cells #[.int .i64 kd, .int .i64 xf, .int .i64 xt, .int .i64 xi, .int .i64 xj, .int .u8 xc, .slice xa xl.length xcap] 29) = V at TV RMV HMV KV RDV sV bV ⊢
          generalize wr.heap.size = ob at bV ⊢
          clear l0 l1 l2 l3 l4 l5 l6 hb0
          refine (take_out w.heap.size nb a cap 1000 sent N xi _ TV Hout.out).mono ?_
          rintro _ w5 ⟨rfl, k5⟩
          have RM5 := RMV.keep k5 (fun _ _ h => h)
          have T5 := TV.keep0 k5
          have hM5 : ∀ y ∈ M, Row w5 w.heap.size 5 1 cU y.v y.l := fun y hy => (HMV.out y hy).keep k5 (fun _ _ h => h)
          have K5 : Keep NoB w w5 := KV.trans k5
          have HFIN := Lib.hid (fun o => (show Both (w5.alloc o) w.heap.size nb (k + 1) (.slice aM M.length cM) from ⟨⟨_, a, cap, sent, M, T5.keep0 ((Keep.refl NoB w5).alloc o), RM5.alloc o, fun y hy => (hM5 y hy).alloc o, HS0.out, by omega, by omega, hs0, by omega⟩⟩))
          clear hM5 T5 RM5 k5 TV RMV KV RDV bV HMV sV TN RM hk
          go_wp2_with fail
          go_roundw
          case rel => exact ⟨k + 1, hlt, h200, by go_num, HFIN.out _, K5.alloc _⟩
          case measure => simp [intOf]; omega
    · have hout : (¬ k < len0 ∧ decide ((k : Int) < (len0 : Int)) = false) ∨ (k < len0 ∧ ¬ k < 100 ∧ decide ((k : Int) < 100) = false) := by
        by_cases h1 : k < len0
        · right
          have : ¬ k < 100 := fun h => hgo ⟨h1, h⟩
          exact ⟨h1, this, by simp; omega⟩
        · left
          exact ⟨h1, by simp; omega⟩
      clear hgo
      obtain ⟨N, a, cap, sent, M, TN, RM, hM, hS, hN, hMl, hs0, hs1⟩ := hB.ex
      obtain ⟨aM, cM, rfl⟩ := RM.shape
      have hle := hS.len
      have hd5 : decide ((N.length : Int) ≤ (M.length : Int)) = true := by simp; omega
      clear hB hM hS RM
      rcases hout with ⟨h1, hd⟩ | ⟨h1, h2, hd⟩
      all_goals
        go_wp2_with fail
        refine (len_any w.heap.size nb a cap 1000 sent N _ TN).mono ?_
        rintro _ _ ⟨rfl, rfl⟩
        go_wp2
        go_ret
        exact ⟨rfl, hk.below (fun _ _ h => h)⟩
end Go.Proofs.Ytbaojfjabhgohaa
