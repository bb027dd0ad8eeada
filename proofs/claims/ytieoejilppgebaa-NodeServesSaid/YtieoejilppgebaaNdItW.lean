/- What cut and push of package lru come to. -/
import Derived.Test.YtieoejilppgebaaRows
import Derived.Test.YtieoejilppgebaaLibOwn
namespace Go.Proofs.Ytieoejilppgebaa.It
open Go Go.RowKit Go.Maps
set_option maxRecDepth 100000

/-- A key's value as of an index: epoch, index, is it there, text; as of. -/
structure IT where
  e : Int
  i : Int
  th : Bool
  tx : ByteArray
  a : Int
abbrev iV (v : IT) : Value := .agg #[.int .i64 v.e, .int .i64 v.i, .bool v.th, .string v.tx, .int .i64 v.a]
def iZ : IT := ⟨0, 0, false, ⟨#[]⟩, 0⟩
/-- A thing: its block, its key, value, size. -/
structure TH where
  b : Nat
  k : ByteArray
  v : IT
  s : Int

def ptr : Option Nat → Value
  | none => .pointer none
  | some b => .pointer (some ⟨b, 0, none⟩)
def hd (n : Option Nat) : List TH → Option Nat
  | [] => n
  | x :: _ => some x.b
def ls (p : Option Nat) : List TH → Option Nat
  | [] => p
  | x :: r => ls (some x.b) r
theorem ptr_none : ptr none = .pointer none := rfl
theorem ptr_some (b : Nat) : ptr (some b) = .pointer (some ⟨b, 0, none⟩) := rfl
theorem hd_nil (n : Option Nat) : hd n [] = n := rfl
theorem hd_cons (n : Option Nat) (x : TH) (r : List TH) : hd n (x :: r) = some x.b := rfl
def thing (x : TH) (p n : Option Nat) : Obj := .cells #[.string x.k, .int .i64 x.v.e, .int .i64 x.v.i, .bool x.v.th, .string x.v.tx, .int .i64 x.v.a, .int .i64 x.s, ptr p, ptr n] 120 (0, 0)
def cacheO (f l : Option Nat) (sum room kept : Int) (mb : Nat) : Obj := .cells #[ptr f, ptr l, .int .i64 sum, .int .i64 room, .int .i64 kept, .map (some mb)] 103 (0, 0)

/-- A part of the ring: between p (later) and n (old). -/
def Seg (w : World) (p n : Option Nat) : List TH → Prop
  | [] => True
  | x :: r => w.heap[x.b]? = some (thing x p (hd n r)) ∧ Seg w (some x.b) n r

theorem seg_append {w : World} : ∀ {A B : List TH} {p n : Option Nat}, Seg w p n (A ++ B) ↔ Seg w p (hd n B) A ∧ Seg w (ls p A) n B
  | [], B, p, n => by simp [Seg, ls]
  | x :: A, B, p, n => by
    have e : hd n (A ++ B) = hd (hd n B) A := by cases A <;> rfl
    simp only [List.cons_append, Seg, seg_append (A := A), ls, e, and_assoc]
theorem ls_append {A B : List TH} {p : Option Nat} : ls p (A ++ B) = ls (ls p A) B := by
  induction A generalizing p with
  | nil => rfl
  | cons x A ih => simp [ls, ih]
theorem hd_append {A B : List TH} {n : Option Nat} : hd n (A ++ B) = hd (hd n B) A := by cases A <;> rfl
theorem Seg.mem {w : World} : ∀ {N : List TH} {p n : Option Nat}, Seg w p n N → ∀ x ∈ N, ∃ p' n', w.heap[x.b]? = some (thing x p' n')
  | [], _, _, _, x, hx => by cases hx
  | y :: N, p, n, h, x, hx => by
    rcases List.mem_cons.1 hx with rfl | hx
    · exact ⟨_, _, h.1⟩
    · exact Seg.mem h.2 x hx
theorem Seg.of_block {w w' : World} : ∀ {N : List TH} {p n : Option Nat}, Seg w p n N → (∀ x ∈ N, w'.heap[x.b]? = w.heap[x.b]?) → Seg w' p n N
  | [], _, _, _, _ => trivial
  | y :: N, p, n, h, hk => ⟨(hk y (by simp)).trans h.1, Seg.of_block h.2 (fun x hx => hk x (by simp [hx]))⟩
theorem Seg.keep {S : Nat → Prop} {w w' : World} {N : List TH} {p n : Option Nat} (h : Seg w p n N) (hk : Keep S w w') (hS : ∀ x ∈ N, ¬ S x.b) : Seg w' p n N :=
  h.of_block (fun x hx => by obtain ⟨p', n', hx'⟩ := h.mem x hx; exact hk.block _ (blk_lt hx') (hS x hx))

/-- The ring of things in the cache's block cb. -/
structure Ring (w : World) (cb mb : Nat) (sum room kept : Int) (N : List TH) : Prop where
  blk : w.heap[cb]? = some (cacheO (hd none N) (ls none N) sum room kept mb)
  seg : Seg w none none N
  nodup : (N.map (·.b)).Nodup

/-- The blocks of the ring. -/
def RS (cb : Nat) (N : List TH) : Nat → Prop := fun k => k = cb ∨ ∃ y ∈ N, y.b = k

section
variable {w w' : World} {cb mb : Nat} {sum room kept : Int} {N : List TH}
theorem Ring.keep {S : Nat → Prop} (T : Ring w cb mb sum room kept N) (hk : Keep S w w') (h1 : ¬ S cb) (h2 : ∀ x ∈ N, ¬ S x.b) : Ring w' cb mb sum room kept N :=
  ⟨blk_keep T.blk hk h1, T.seg.keep hk h2, T.nodup⟩
theorem Ring.keep0 (T : Ring w cb mb sum room kept N) (hk : Keep NoB w w') : Ring w' cb mb sum room kept N := T.keep hk (fun h => h) (fun _ _ h => h)
theorem Ring.ne (T : Ring w cb mb sum room kept N) : ∀ x ∈ N, x.b ≠ cb := by
  intro x hx e
  obtain ⟨p', n', h⟩ := T.seg.mem x hx
  rw [e, T.blk] at h
  simp [thing, cacheO] at h
theorem Ring.lt (T : Ring w cb mb sum room kept N) : ∀ x ∈ N, x.b < w.heap.size := by
  intro x hx
  obtain ⟨p', n', h⟩ := T.seg.mem x hx
  exact blk_lt h
end

theorem blk_other {w : World} {b : Nat} {o : Obj} {p : Addr} {u : Value} (h : w.heap[b]? = some o) (hne : b ≠ p.block) : (w.setCell p u).heap[b]? = some o := by
  rw [Below.heap_setCell _ _ _ _ hne]
  exact h

/-- How the thing x stands after a cut, and what is left of the ring. -/
def CutPost (cb mb : Nat) (sum room kept : Int) (N : List TH) (x : TH) (S : Nat → Prop) (w : World) (e : Ending) (w' : World) : Prop :=
  e = .returned (.tuple #[]) ∧ Ring w' cb mb sum room kept N ∧ w'.heap[x.b]? = some (thing x none none) ∧ Keep S w w'


theorem seg_set {w w' : World} {A : List TH} {p n : Option Nat} (h : Seg w p n A) (S : Nat → Prop) (hk : Keep S w w') (hS : ∀ x ∈ A, ¬ S x.b) : Seg w' p n A := h.keep hk hS

theorem nodup_mid {A B : List TH} {x : TH} (h : ((A ++ x :: B).map (·.b)).Nodup) : ((A ++ B).map (·.b)).Nodup ∧ ∀ y, y ∈ A ++ B → y.b ≠ x.b := by
  have hp : (A ++ x :: B).Perm (x :: (A ++ B)) := List.perm_middle
  have h1 := (hp.map (·.b)).nodup_iff.1 h
  rw [List.map_cons, List.nodup_cons] at h1
  exact ⟨h1.2, fun y hy e => h1.1 (List.mem_map.2 ⟨y, hy, e⟩)⟩

theorem nil_or_snoc {α : Type} (A : List α) : A = [] ∨ ∃ A' y, A = A' ++ [y] := by
  rcases List.eq_nil_or_concat A with h | ⟨A', y, h⟩
  · exact Or.inl h
  · exact Or.inr ⟨A', y, by simpa using h⟩

def setO (i : Nat) (v : Value) : Obj → Obj
  | .cells c t f => .cells (c.setIfInBounds i v) t f
  | o => o
theorem heap_setC (w : World) (b i : Nat) (v : Value) (k : Nat) : (w.setCell ⟨b, i, none⟩ v).heap[k]? = if k = b then (w.heap[k]?).map (setO i v) else w.heap[k]? := by
  by_cases h : k = b
  · subst h
    simp only [if_true, World.setCell, Array.getElem?_modify]
    cases w.heap[k]? with
    | none => rfl
    | some o => cases o <;> rfl
  · rw [if_neg h, Below.heap_setCell _ _ _ _ h]
theorem heap_drew (w : World) : w.drew.heap = w.heap := rfl

theorem nodup_sep {A B : List TH} {y : TH} (h : ((A ++ y :: B).map (·.b)).Nodup) : (∀ a ∈ A, a.b ≠ y.b) ∧ (∀ a ∈ B, a.b ≠ y.b) :=
  ⟨fun a ha => (nodup_mid h).2 a (by simp [ha]), fun a ha => (nodup_mid h).2 a (by simp [ha])⟩

theorem RS.cb {cb : Nat} {N : List TH} : RS cb N cb := Or.inl rfl
theorem RS.mem {cb : Nat} {N : List TH} {y : TH} (h : y ∈ N) : RS cb N y.b := Or.inr ⟨y, h, rfl⟩

set_option maxRecDepth 100000 in
set_option maxHeartbeats 8000000 in
theorem cut_any (cb mb : Nat) (sum room kept : Int) (A B : List TH) (x : TH) (w : World) (T : Ring w cb mb sum room kept (A ++ x :: B)) (d : Int) (hdd : sum - x.s = d) (h1 : -9223372036854775808 ≤ d) (h2 : d ≤ 9223372036854775807) :
    Calls Try.prog 53 #[.pointer (some ⟨cb, 0, none⟩), .pointer (some ⟨x.b, 0, none⟩)] w (CutPost cb mb d room kept (A ++ B) x (RS cb (A ++ x :: B)) w) := by
  have hw : IntKind.i64.wrap (sum - x.s) = d := by rw [hdd]; exact IntWalk.i64_in _ ⟨h1, h2⟩
  obtain ⟨hA, hx, hB⟩ := seg_append.1 T.seg
  have hnd := (nodup_mid T.nodup).1
  have hsx := (nodup_mid T.nodup).2
  have hbx := T.blk
  rw [hd_append, ls_append] at hbx
  have HT := Lib.hid T
  have HN := Lib.hid hnd
  have HSX := Lib.hid hsx
  have hxc := T.ne x (by simp)
  clear T hnd hsx
  simp only [ls, hd_nil, hd_cons] at hA hx hB hbx
  clear hdd
  obtain ⟨xb, xk, xv, xs⟩ := x
  simp only at *
  rcases nil_or_snoc A with rfl | ⟨A', y, rfl⟩
  · cases B with
    | nil =>
      have x0 := blk_cell hx 0
      have x2 := blk_cell hx 6
      have x3 := blk_cell hx 7
      have x4 := blk_cell hx 8
      have xf3 := blk_free hx 7
      have xf4 := blk_free hx 8
      have xl := blk_lt hx
      simp [ptr_none, ptr_some, hd_nil, hd_cons, ls] at x0 x2 x3 x4
      have c0 := blk_cell hbx 0
      have c1 := blk_cell hbx 1
      have c2 := blk_cell hbx 2
      have cf0 := blk_free hbx 0
      have cf1 := blk_free hbx 1
      have cf2 := blk_free hbx 2
      have cl := blk_lt hbx
      simp [ptr_none, ptr_some, hd_nil, hd_cons, ls] at c0 c1 c2
      have Hhx := Lib.hid hx
      have Hhb := Lib.hid hbx
      clear hx hbx hA hB
      have hcx : cb ≠ xb := fun e => hxc e.symm
      go_enter Try.func53, Try.ntmps53
      go_wp2_with fail
      refine wp_region_tail 11 (by kernel_rfl) (by kernel_rfl) ?_
      simp only [List.take_succ_cons, List.take_zero, List.drop_succ_cons, List.drop_zero]
      repeat still_step
      refine wpStill_nil ?_
      go_wp2_with fail
      go_end0
      have ex := Hhx.out
      have eb := Hhb.out
      have r1 : RS cb [(⟨xb, xk, xv, xs⟩ : TH)] cb := RS.cb
      have r2 : RS cb [(⟨xb, xk, xv, xs⟩ : TH)] xb := RS.mem (y := ⟨xb, xk, xv, xs⟩) (by simp)
      refine ⟨rfl, ⟨?_, trivial, HN.out⟩, ?_, ?_⟩
      · (simp only [heap_setC, heap_drew, ↓reduceIte, Option.map_some, hd_append, ls_append, *] <;> rfl)
      · (simp only [heap_setC, heap_drew, ↓reduceIte, Option.map_some, hd_append, ls_append, *] <;> rfl)
      · (repeat (with_reducible first | exact Keep.refl _ _ | refine Keep.drew ?_ | refine Keep.setCell ?_ (Or.inr (by assumption)) _))
    | cons z B' =>
      obtain ⟨zb, zk, zv, zs⟩ := z
      obtain ⟨hz, hB'⟩ := hB
      simp only [hd_nil, hd_cons] at hz hB' hx
      have hzx := HSX.out ⟨zb, zk, zv, zs⟩ (by simp)
      have hzc := HT.out.ne ⟨zb, zk, zv, zs⟩ (by simp)
      have sz := (nodup_sep HN.out).2
      have Hsz := Lib.hid sz
      clear sz
      have x0 := blk_cell hx 0
      have x2 := blk_cell hx 6
      have x3 := blk_cell hx 7
      have x4 := blk_cell hx 8
      have xf3 := blk_free hx 7
      have xf4 := blk_free hx 8
      have xl := blk_lt hx
      simp [ptr_none, ptr_some, hd_nil, hd_cons, ls] at x0 x2 x3 x4
      have c0 := blk_cell hbx 0
      have c1 := blk_cell hbx 1
      have c2 := blk_cell hbx 2
      have cf0 := blk_free hbx 0
      have cf1 := blk_free hbx 1
      have cf2 := blk_free hbx 2
      have cl := blk_lt hbx
      simp [ptr_none, ptr_some, hd_nil, hd_cons, ls] at c0 c1 c2
      have z3 := blk_free hz 7
      have zl := blk_lt hz
      have zc := blk_cell hz 7
      simp [ptr_none, ptr_some] at zc
      have Hhx := Lib.hid hx
      have Hhb := Lib.hid hbx
      have Hhz := Lib.hid hz
      have HB' := Lib.hid hB'
      clear hx hbx hA hz hB'
      have hcx : cb ≠ xb := fun e => hxc e.symm
      have hxz : xb ≠ zb := fun e => hzx e.symm
      have hcz : cb ≠ zb := fun e => hzc e.symm
      go_enter Try.func53, Try.ntmps53
      go_wp2_with fail
      refine wp_region_tail 10 (by kernel_rfl) (by kernel_rfl) ?_
      simp only [List.take_succ_cons, List.take_zero, List.drop_succ_cons, List.drop_zero]
      repeat still_step
      refine wpStill_nil ?_
      go_wp2_with fail
      refine wp_region_tail 11 (by kernel_rfl) (by kernel_rfl) ?_
      simp only [List.take_succ_cons, List.take_zero, List.drop_succ_cons, List.drop_zero]
      repeat still_step
      refine wpStill_nil ?_
      go_wp2_with fail
      go_end0
      have ex := Hhx.out
      have eb := Hhb.out
      have ez := Hhz.out
      have r1 : RS cb ((⟨xb, xk, xv, xs⟩ : TH) :: ⟨zb, zk, zv, zs⟩ :: B') cb := RS.cb
      have r2 : RS cb ((⟨xb, xk, xv, xs⟩ : TH) :: ⟨zb, zk, zv, zs⟩ :: B') xb := RS.mem (y := ⟨xb, xk, xv, xs⟩) (by simp)
      have r3 : RS cb ((⟨xb, xk, xv, xs⟩ : TH) :: ⟨zb, zk, zv, zs⟩ :: B') zb := RS.mem (y := ⟨zb, zk, zv, zs⟩) (by simp)
      have key : ∀ a ∈ B', a.b ≠ xb ∧ a.b ≠ zb ∧ a.b ≠ cb := fun a ha => ⟨HSX.out a (by simp [ha]), Hsz.out a ha, HT.out.ne a (by simp [ha])⟩
      refine ⟨rfl, ⟨?_, ⟨?_, HB'.out.of_block (fun a ha => ?_)⟩, HN.out⟩, ?_, ?_⟩
      · (simp only [heap_setC, heap_drew, ↓reduceIte, Option.map_some, hd_append, ls_append, *] <;> rfl)
      · (simp only [heap_setC, heap_drew, ↓reduceIte, Option.map_some, hd_append, ls_append, *] <;> rfl)
      · obtain ⟨k1, k2, k3⟩ := key a ha
        simp only [heap_setC, heap_drew, ↓reduceIte, *]
      · (simp only [heap_setC, heap_drew, ↓reduceIte, Option.map_some, hd_append, ls_append, *] <;> rfl)
      · (repeat (with_reducible first | exact Keep.refl _ _ | refine Keep.drew ?_ | refine Keep.setCell ?_ (Or.inr (by assumption)) _))
  · obtain ⟨yb, yk, yv, ys⟩ := y
    obtain ⟨hA', hy, _⟩ := seg_append.1 hA
    simp only [hd_nil, hd_cons, ls, ls_append, hd_append] at hA' hy hx hbx
    have hyx := HSX.out ⟨yb, yk, yv, ys⟩ (by simp)
    have hyc := HT.out.ne ⟨yb, yk, yv, ys⟩ (by simp)
    have hxy : xb ≠ yb := fun e => hyx e.symm
    have hcy : cb ≠ yb := fun e => hyc e.symm
    have hcx : cb ≠ xb := fun e => hxc e.symm
    have y4 := blk_free hy 8
    have yl := blk_lt hy
    have yc := blk_cell hy 8
    simp [ptr_none, ptr_some] at yc
    have Hhy := Lib.hid hy
    have HA' := Lib.hid hA'
    have hny : ((A' ++ ((⟨yb, yk, yv, ys⟩ : TH) :: B)).map (·.b)).Nodup := by have := HN.out; simpa using this
    have sy := (nodup_sep hny).1
    have sy2 := (nodup_sep hny).2
    have Hsy := Lib.hid sy
    have Hsy2 := Lib.hid sy2
    clear hA hy hA' hny sy sy2
    have key : ∀ a ∈ A', a.b ≠ xb ∧ a.b ≠ yb ∧ a.b ≠ cb := fun a ha => ⟨HSX.out a (by simp [ha]), Hsy.out a ha, HT.out.ne a (by simp [ha])⟩
    have Key := Lib.hid key
    clear key
    cases B with
    | nil =>
      have x0 := blk_cell hx 0
      have x2 := blk_cell hx 6
      have x3 := blk_cell hx 7
      have x4 := blk_cell hx 8
      have xf3 := blk_free hx 7
      have xf4 := blk_free hx 8
      have xl := blk_lt hx
      simp [ptr_none, ptr_some, hd_nil, hd_cons, ls] at x0 x2 x3 x4
      have c1 := blk_cell hbx 1
      have c2 := blk_cell hbx 2
      have cf1 := blk_free hbx 1
      have cf2 := blk_free hbx 2
      have cl := blk_lt hbx
      simp [ls, ptr_none, ptr_some] at c1 c2
      have Hhx := Lib.hid hx
      have Hhb := Lib.hid hbx
      clear hx hbx hB
      go_enter Try.func53, Try.ntmps53
      go_wp2_with fail
      refine wp_region_tail 10 (by kernel_rfl) (by kernel_rfl) ?_
      simp only [List.take_succ_cons, List.take_zero, List.drop_succ_cons, List.drop_zero]
      repeat still_step
      refine wpStill_nil ?_
      go_wp2_with fail
      refine wp_region_tail 11 (by kernel_rfl) (by kernel_rfl) ?_
      simp only [List.take_succ_cons, List.take_zero, List.drop_succ_cons, List.drop_zero]
      repeat still_step
      refine wpStill_nil ?_
      go_wp2_with fail
      go_end0
      have ex := Hhx.out
      have eb := Hhb.out
      have ey := Hhy.out
      have r1 : RS cb (A' ++ [⟨yb, yk, yv, ys⟩] ++ [(⟨xb, xk, xv, xs⟩ : TH)]) cb := RS.cb
      have r2 : RS cb (A' ++ [⟨yb, yk, yv, ys⟩] ++ [(⟨xb, xk, xv, xs⟩ : TH)]) xb := RS.mem (y := ⟨xb, xk, xv, xs⟩) (by simp)
      have r3 : RS cb (A' ++ [⟨yb, yk, yv, ys⟩] ++ [(⟨xb, xk, xv, xs⟩ : TH)]) yb := RS.mem (y := ⟨yb, yk, yv, ys⟩) (by simp)
      refine ⟨rfl, ⟨?_, seg_append.2 ⟨seg_append.2 ⟨HA'.out.of_block (fun a ha => ?_), ?_, trivial⟩, trivial⟩, HN.out⟩, ?_, ?_⟩
      · (simp only [heap_setC, heap_drew, ↓reduceIte, Option.map_some, hd_append, ls_append, *] <;> rfl)
      · obtain ⟨k1, k2, k3⟩ := Key.out a ha
        simp only [heap_setC, heap_drew, ↓reduceIte, *]
      · (simp only [heap_setC, heap_drew, ↓reduceIte, Option.map_some, hd_append, ls_append, *] <;> rfl)
      · (simp only [heap_setC, heap_drew, ↓reduceIte, Option.map_some, hd_append, ls_append, *] <;> rfl)
      · (repeat (with_reducible first | exact Keep.refl _ _ | refine Keep.drew ?_ | refine Keep.setCell ?_ (Or.inr (by assumption)) _))
    | cons z B' =>
      obtain ⟨zb, zk, zv, zs⟩ := z
      obtain ⟨hz, hB'⟩ := hB
      simp only [hd_nil, hd_cons, ls] at hz hB' hx hbx
      have hzx := HSX.out ⟨zb, zk, zv, zs⟩ (by simp)
      have hzc := HT.out.ne ⟨zb, zk, zv, zs⟩ (by simp)
      have hzy := Hsy2.out ⟨zb, zk, zv, zs⟩ (by simp)
      have hnz : ((A' ++ [(⟨yb, yk, yv, ys⟩ : TH)] ++ ((⟨zb, zk, zv, zs⟩ : TH) :: B')).map (·.b)).Nodup := HN.out
      have sz := (nodup_sep hnz).1
      have sz2 := (nodup_sep hnz).2
      have Hsz := Lib.hid sz
      have Hsz2 := Lib.hid sz2
      have x0 := blk_cell hx 0
      have x2 := blk_cell hx 6
      have x3 := blk_cell hx 7
      have x4 := blk_cell hx 8
      have xf3 := blk_free hx 7
      have xf4 := blk_free hx 8
      have xl := blk_lt hx
      simp [ptr_none, ptr_some, hd_nil, hd_cons, ls] at x0 x2 x3 x4
      have c2 := blk_cell hbx 2
      have cf1 := blk_free hbx 1
      have cf2 := blk_free hbx 2
      have cl := blk_lt hbx
      simp at c2
      have z3 := blk_free hz 7
      have zl := blk_lt hz
      have zc := blk_cell hz 7
      simp [ptr_none, ptr_some] at zc
      have Hhx := Lib.hid hx
      have Hhb := Lib.hid hbx
      have Hhz := Lib.hid hz
      have HB' := Lib.hid hB'
      clear hx hbx hz hB' hnz sz sz2
      have hxz : xb ≠ zb := fun e => hzx e.symm
      have hcz : cb ≠ zb := fun e => hzc e.symm
      have hyz : yb ≠ zb := fun e => hzy e.symm
      go_enter Try.func53, Try.ntmps53
      go_wp2_with fail
      refine wp_region_tail 10 (by kernel_rfl) (by kernel_rfl) ?_
      simp only [List.take_succ_cons, List.take_zero, List.drop_succ_cons, List.drop_zero]
      repeat still_step
      refine wpStill_nil ?_
      go_wp2_with fail
      refine wp_region_tail 10 (by kernel_rfl) (by kernel_rfl) ?_
      simp only [List.take_succ_cons, List.take_zero, List.drop_succ_cons, List.drop_zero]
      repeat still_step
      refine wpStill_nil ?_
      go_wp2_with fail
      refine wp_region_tail 11 (by kernel_rfl) (by kernel_rfl) ?_
      simp only [List.take_succ_cons, List.take_zero, List.drop_succ_cons, List.drop_zero]
      repeat still_step
      refine wpStill_nil ?_
      go_wp2_with fail
      go_end0
      have ex := Hhx.out
      have eb := Hhb.out
      have ey := Hhy.out
      have ez := Hhz.out
      have r1 : RS cb (A' ++ [⟨yb, yk, yv, ys⟩] ++ (⟨xb, xk, xv, xs⟩ : TH) :: ⟨zb, zk, zv, zs⟩ :: B') cb := RS.cb
      have r2 : RS cb (A' ++ [⟨yb, yk, yv, ys⟩] ++ (⟨xb, xk, xv, xs⟩ : TH) :: ⟨zb, zk, zv, zs⟩ :: B') xb := RS.mem (y := ⟨xb, xk, xv, xs⟩) (by simp)
      have r3 : RS cb (A' ++ [⟨yb, yk, yv, ys⟩] ++ (⟨xb, xk, xv, xs⟩ : TH) :: ⟨zb, zk, zv, zs⟩ :: B') yb := RS.mem (y := ⟨yb, yk, yv, ys⟩) (by simp)
      have r4 : RS cb (A' ++ [⟨yb, yk, yv, ys⟩] ++ (⟨xb, xk, xv, xs⟩ : TH) :: ⟨zb, zk, zv, zs⟩ :: B') zb := RS.mem (y := ⟨zb, zk, zv, zs⟩) (by simp)
      refine ⟨rfl, ⟨?_, seg_append.2 ⟨seg_append.2 ⟨HA'.out.of_block (fun a ha => ?_), ?_, trivial⟩, ?_, HB'.out.of_block (fun a ha => ?_)⟩, HN.out⟩, ?_, ?_⟩
      · (simp only [heap_setC, heap_drew, ↓reduceIte, Option.map_some, hd_append, ls_append, *] <;> rfl)
      · obtain ⟨k1, k2, k3⟩ := Key.out a ha
        have k4 : a.b ≠ zb := Hsz.out a (by simp [ha])
        simp only [heap_setC, heap_drew, ↓reduceIte, *]
      · (simp only [heap_setC, heap_drew, ↓reduceIte, Option.map_some, hd_append, ls_append, *] <;> rfl)
      · (simp only [heap_setC, heap_drew, ↓reduceIte, Option.map_some, hd_append, ls_append, *] <;> rfl)
      · have k1 : a.b ≠ xb := HSX.out a (by simp [ha])
        have k2 : a.b ≠ yb := Hsy2.out a (by simp [ha])
        have k3 : a.b ≠ cb := HT.out.ne a (by simp [ha])
        have k4 : a.b ≠ zb := Hsz2.out a ha
        simp only [heap_setC, heap_drew, ↓reduceIte, *]
      · (simp only [heap_setC, heap_drew, ↓reduceIte, Option.map_some, hd_append, ls_append, *] <;> rfl)
      · (repeat (with_reducible first | exact Keep.refl _ _ | refine Keep.drew ?_ | refine Keep.setCell ?_ (Or.inr (by assumption)) _))

/-- The ring with one thing more. -/
def PushPost (cb mb : Nat) (sum room kept : Int) (N : List TH) (S : Nat → Prop) (w : World) (e : Ending) (w' : World) : Prop :=
  e = .returned (.tuple #[]) ∧ Ring w' cb mb sum room kept N ∧ Keep S w w'

set_option maxRecDepth 100000 in
set_option maxHeartbeats 8000000 in
theorem push_any (cb mb : Nat) (sum room kept : Int) (N : List TH) (x : TH) (w : World) (T : Ring w cb mb sum room kept N) (hx : w.heap[x.b]? = some (thing x none none)) (hnx : ∀ y ∈ N, y.b ≠ x.b) (d : Int) (hdd : sum + x.s = d) (h1 : -9223372036854775808 ≤ d) (h2 : d ≤ 9223372036854775807) :
    Calls Try.prog 54 #[.pointer (some ⟨cb, 0, none⟩), .pointer (some ⟨x.b, 0, none⟩)] w (PushPost cb mb d room kept (x :: N) (RS cb (x :: N)) w) := by
  have hw : IntKind.i64.wrap (sum + x.s) = d := by rw [hdd]; exact IntWalk.i64_in _ ⟨h1, h2⟩
  have hxc : x.b ≠ cb := by
    intro e
    rw [e, T.blk] at hx
    simp [thing, cacheO] at hx
  have hnd : ((x :: N).map (·.b)).Nodup := by
    rw [List.map_cons, List.nodup_cons]
    refine ⟨fun h => ?_, T.nodup⟩
    obtain ⟨y, hy, e⟩ := List.mem_map.1 h
    exact hnx y hy e
  have hbx := T.blk
  have hS := T.seg
  have HND := Lib.hid hnd
  have HNX := Lib.hid hnx
  have HT := Lib.hid T
  clear hdd hnx hnd T
  obtain ⟨xb, xk, xv, xs⟩ := x
  simp only at *
  have hcx : cb ≠ xb := fun e => hxc e.symm
  cases N with
  | nil =>
    simp only [hd_nil, hd_cons, ls] at hbx
    have x0 := blk_cell hx 6
    have x4 := blk_cell hx 8
    have xf4 := blk_free hx 8
    have xl := blk_lt hx
    simp [ptr_none] at x0 x4
    have c0 := blk_cell hbx 0
    have c1 := blk_cell hbx 1
    have c2 := blk_cell hbx 2
    have cf0 := blk_free hbx 0
    have cf1 := blk_free hbx 1
    have cf2 := blk_free hbx 2
    have cl := blk_lt hbx
    simp [ptr_none, ptr_some, hd_nil, hd_cons, ls] at c0 c1 c2
    have Hhx := Lib.hid hx
    have Hhb := Lib.hid hbx
    clear hx hbx hS
    go_enter Try.func54, Try.ntmps54
    go_wp2_with fail
    refine wp_region_tail 11 (by kernel_rfl) (by kernel_rfl) ?_
    simp only [List.take_succ_cons, List.take_zero, List.drop_succ_cons, List.drop_zero]
    repeat still_step
    refine wpStill_nil ?_
    go_wp2_with fail
    go_end0
    have ex := Hhx.out
    have eb := Hhb.out
    have r1 : RS cb [(⟨xb, xk, xv, xs⟩ : TH)] cb := RS.cb
    have r2 : RS cb [(⟨xb, xk, xv, xs⟩ : TH)] xb := RS.mem (y := ⟨xb, xk, xv, xs⟩) (by simp)
    refine ⟨rfl, ⟨?_, ⟨?_, trivial⟩, HND.out⟩, ?_⟩
    · (simp only [heap_setC, heap_drew, ↓reduceIte, Option.map_some, hd_append, ls_append, *] <;> rfl)
    · (simp only [heap_setC, heap_drew, ↓reduceIte, Option.map_some, hd_append, ls_append, *] <;> rfl)
    · (repeat (with_reducible first | exact Keep.refl _ _ | refine Keep.drew ?_ | refine Keep.setCell ?_ (Or.inr (by assumption)) _))
  | cons z B' =>
    obtain ⟨zb, zk, zv, zs⟩ := z
    obtain ⟨hz, hB'⟩ := hS
    simp only [hd_nil, hd_cons, ls] at hz hB' hbx
    have hzx := HNX.out ⟨zb, zk, zv, zs⟩ (by simp)
    have hzc := HT.out.ne ⟨zb, zk, zv, zs⟩ (by simp)
    have hxz : xb ≠ zb := fun e => hzx e.symm
    have hcz : cb ≠ zb := fun e => hzc e.symm
    have hnz : ((([] : List TH) ++ ((⟨zb, zk, zv, zs⟩ : TH) :: B')).map (·.b)).Nodup := HT.out.nodup
    have sz2 := (nodup_sep hnz).2
    have Hsz2 := Lib.hid sz2
    have x0 := blk_cell hx 6
    have x4 := blk_cell hx 8
    have xf4 := blk_free hx 8
    have xl := blk_lt hx
    simp [ptr_none] at x0 x4
    have c0 := blk_cell hbx 0
    have c2 := blk_cell hbx 2
    have cf0 := blk_free hbx 0
    have cf1 := blk_free hbx 1
    have cf2 := blk_free hbx 2
    have cl := blk_lt hbx
    simp [ptr_none, ptr_some] at c0 c2
    have z3 := blk_free hz 7
    have zl := blk_lt hz
    have zc := blk_cell hz 7
    simp [ptr_none] at zc
    have Hhx := Lib.hid hx
    have Hhb := Lib.hid hbx
    have Hhz := Lib.hid hz
    have HB' := Lib.hid hB'
    clear hx hbx hz hB' hnz sz2
    go_enter Try.func54, Try.ntmps54
    go_wp2_with fail
    refine wp_region_tail 11 (by kernel_rfl) (by kernel_rfl) ?_
    simp only [List.take_succ_cons, List.take_zero, List.drop_succ_cons, List.drop_zero]
    repeat still_step
    refine wpStill_nil ?_
    go_wp2_with fail
    go_end0
    have ex := Hhx.out
    have eb := Hhb.out
    have ez := Hhz.out
    have r1 : RS cb ((⟨xb, xk, xv, xs⟩ : TH) :: ⟨zb, zk, zv, zs⟩ :: B') cb := RS.cb
    have r2 : RS cb ((⟨xb, xk, xv, xs⟩ : TH) :: ⟨zb, zk, zv, zs⟩ :: B') xb := RS.mem (y := ⟨xb, xk, xv, xs⟩) (by simp)
    have r3 : RS cb ((⟨xb, xk, xv, xs⟩ : TH) :: ⟨zb, zk, zv, zs⟩ :: B') zb := RS.mem (y := ⟨zb, zk, zv, zs⟩) (by simp)
    refine ⟨rfl, ⟨?_, ⟨?_, ?_, HB'.out.of_block (fun a ha => ?_)⟩, HND.out⟩, ?_⟩
    · (simp only [heap_setC, heap_drew, ↓reduceIte, Option.map_some, hd_append, ls_append, *] <;> rfl)
    · (simp only [heap_setC, heap_drew, ↓reduceIte, Option.map_some, hd_append, ls_append, *] <;> rfl)
    · (simp only [heap_setC, heap_drew, ↓reduceIte, Option.map_some, hd_append, ls_append, *] <;> rfl)
    · have k1 : a.b ≠ xb := HNX.out a (by simp [ha])
      have k3 : a.b ≠ cb := HT.out.ne a (by simp [ha])
      have k4 : a.b ≠ zb := Hsz2.out a ha
      simp only [heap_setC, heap_drew, ↓reduceIte, *]
    · (repeat (with_reducible first | exact Keep.refl _ _ | refine Keep.drew ?_ | refine Keep.setCell ?_ (Or.inr (by assumption)) _))
end Go.Proofs.Ytieoejilppgebaa.It
