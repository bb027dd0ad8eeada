/- Laws of a map in memory that reads as a sorted list of keys and elements; a world that turns at named blocks alone. -/
import Derived.Maps.RangeWalk
import Derived.Maps.Ext
import Derived.WalkKit
import Derived.Lib.Hide
import Derived.BigQuiet
import Derived.Deep.QuietTactic
import Derived.StillTailTactics
import Derived.WalkLawsBesides
import Derived.WalkSpells
import Derived.Deep.RegionWith
namespace Go.Proofs.YtopgepifakdpfaaDoor
open Go Go.RowKit Go.Maps Go.WideShapes Go.ChangeMaps Go.MapKept
open Go.WideElems (Fit rd rg pl rd_key rd_val rg_of other_key)

/-! ### worlds -/
/-- Of the blocks that w has none but those of S has turned; nothing else has. -/
structure Keep (S : Nat → Prop) (w w' : World) : Prop where
  os : w'.os = w.os
  tape : w'.tape = w.tape
  output : w'.output = w.output
  size : w.heap.size ≤ w'.heap.size
  block : ∀ k, k < w.heap.size → ¬ S k → w'.heap[k]? = w.heap[k]?

def NoB : Nat → Prop := fun _ => False
def OneB (a : Nat) : Nat → Prop := fun k => k = a
def TwoB (a b : Nat) : Nat → Prop := fun k => k = a ∨ k = b

section
variable {S T : Nat → Prop} {w w' w'' : World}
theorem Keep.refl (S : Nat → Prop) (w : World) : Keep S w w := ⟨rfl, rfl, rfl, Nat.le_refl _, fun _ _ _ => rfl⟩
theorem Keep.trans (h : Keep S w w') (k : Keep S w' w'') : Keep S w w'' :=
  ⟨k.os.trans h.os, k.tape.trans h.tape, k.output.trans h.output, Nat.le_trans h.size k.size, fun i hi hs => (k.block i (Nat.lt_of_lt_of_le hi h.size) hs).trans (h.block i hi hs)⟩
/-- What the second step turns of the first one's old blocks lies in S. -/
theorem Keep.trans' (h : Keep S w w') (k : Keep T w' w'') (hT : ∀ i, i < w.heap.size → T i → S i) : Keep S w w'' :=
  ⟨k.os.trans h.os, k.tape.trans h.tape, k.output.trans h.output, Nat.le_trans h.size k.size, fun i hi hs => (k.block i (Nat.lt_of_lt_of_le hi h.size) (fun ht => hs (hT i hi ht))).trans (h.block i hi hs)⟩
theorem Keep.mono (h : Keep S w w') (hT : ∀ i, S i → T i) : Keep T w w' := ⟨h.os, h.tape, h.output, h.size, fun i hi hs => h.block i hi (fun ht => hs (hT i ht))⟩
theorem Keep.alloc (h : Keep S w w') (o : Obj) : Keep S w (w'.alloc o) :=
  h.trans ⟨rfl, rfl, rfl, by simp, fun k hk _ => Below.heap_alloc _ _ _ hk⟩
theorem Keep.drew (h : Keep S w w') : Keep S w w'.drew := ⟨h.os, h.tape, h.output, h.size, h.block⟩
theorem Keep.drewN (h : Keep S w w') (n : Nat) : Keep S w (w'.drewN n) := ⟨h.os, h.tape, h.output, h.size, h.block⟩
theorem Keep.setCell (h : Keep S w w') {p : Addr} (hp : w.heap.size ≤ p.block ∨ S p.block) (u : Value) : Keep S w (w'.setCell p u) :=
  ⟨h.os, h.tape, h.output, by simp [World.setCell]; exact h.size, fun k hk hs => by
    rw [Below.heap_setCell _ _ _ _ (by rcases hp with h1 | h1; omega; intro e; exact hs (e ▸ h1))]
    exact h.block k hk hs⟩
theorem Keep.of_grown {row : Option Nat} (h : w.grownBy w' row) (hr : ∀ k, row = some k → S k) : Keep S w w' :=
  ⟨h.os, h.tape, h.output, h.size, fun k hk hs => h.block k hk (fun e => hs (hr k e.symm))⟩
theorem Keep.of_turned {b : Nat} (h : w.mapTurned w' b) (hb : S b) : Keep S w w' := Keep.of_grown h.grown (fun k e => by cases e; exact hb)
theorem Keep.turned {b : Nat} (h : Keep S w w') (ht : w'.mapTurned w'' b) (hb : w.heap.size ≤ b ∨ S b) : Keep S w w'' :=
  h.trans' (Keep.of_turned (S := OneB b) ht rfl) (fun i hi e => by rcases hb with h1 | h1; · have : i = b := e; omega
                                                                   · have : i = b := e; rw [this]; exact h1)
theorem Keep.none (h : Keep NoB w w') : Keep S w w' := h.mono (fun _ e => e.elim)
theorem Keep.of_below (h : Below w.heap.size w w') : Keep S w w' := ⟨h.os, h.tape, h.output, h.size, fun k hk _ => h.block k hk⟩
theorem Keep.below (h : Keep S w w') (hS : ∀ k, k < w.heap.size → ¬ S k) : Below w.heap.size w w' := ⟨h.os, h.tape, h.output, h.size, fun k hk => h.block k hk (hS k hk)⟩
theorem Keep.below' {B : Nat} (h : Keep S w w') (hB : B ≤ w.heap.size) (hS : ∀ k, k < B → ¬ S k) : Below B w w' := ⟨h.os, h.tape, h.output, h.size, fun k hk => h.block k (by omega) (hS k hk)⟩
theorem Keep.cell (h : Keep S w w') {p : Addr} (hp : p.block < w.heap.size) (hs : ¬ S p.block) : w'.cell? p = w.cell? p := World.cell?_of_block (w := w) (h.block p.block hp hs)
theorem Keep.frozen (h : Keep S w w') {p : Addr} (hp : p.block < w.heap.size) (hs : ¬ S p.block) : w'.frozen? p = w.frozen? p := World.frozen?_of_block (w := w) (h.block p.block hp hs)
end

theorem blk_cell {w : World} {b : Nat} {c : Array Value} {t : TypeId} {f : Nat × Nat} (h : w.heap[b]? = some (.cells c t f)) (i : Nat) : w.cell? ⟨b, i, none⟩ = c[i]? := by
  simp [World.cell?, h]
theorem blk_free {w : World} {b : Nat} {c : Array Value} {t : TypeId} (h : w.heap[b]? = some (.cells c t (0, 0))) (i : Nat) : w.frozen? ⟨b, i, none⟩ = false := by
  simp [World.frozen?, h]
theorem blk_lt {w : World} {b : Nat} {o : Obj} (h : w.heap[b]? = some o) : b < w.heap.size := (Array.getElem?_eq_some_iff.1 h).1
theorem blk_setCell {w : World} {b i : Nat} {c : Array Value} {t : TypeId} {f : Nat × Nat} (h : w.heap[b]? = some (.cells c t f)) (v : Value) :
    (w.setCell ⟨b, i, none⟩ v).heap[b]? = some (.cells (c.setIfInBounds i v) t f) := by
  simp [World.setCell, Array.getElem?_modify, h]
theorem blk_new (w : World) (o : Obj) : (w.alloc o).heap[w.heap.size]? = some o := (MapKept.heap_alloc w o).1
theorem blk_alloc {w : World} {b : Nat} {o o' : Obj} (h : w.heap[b]? = some o) : (w.alloc o').heap[b]? = some o := (Below.heap_alloc w o' b (blk_lt h)).trans h
theorem blk_drew {w : World} {b : Nat} {o : Obj} (h : w.heap[b]? = some o) : w.drew.heap[b]? = some o := h
theorem blk_keep {S : Nat → Prop} {w w' : World} {b : Nat} {o : Obj} (h : w.heap[b]? = some o) (hk : Keep S w w') (hs : ¬ S b) : w'.heap[b]? = some o := (hk.block b (blk_lt h) hs).trans h

/-! ### lists of keys and elements -/
section
variable {α : Type}
def lget (L : List (Lit × α)) (k : Lit) : Option α := (L.find? (fun p => p.1.sameKey k)).map (·.2)
def lins (x : Lit × α) : List (Lit × α) → List (Lit × α)
  | [] => [x]
  | y :: r => if x.1.before y.1 then x :: y :: r else y :: lins x r
def ldel (L : List (Lit × α)) (k : Lit) : List (Lit × α) := L.filter (fun p => !p.1.sameKey k)
def lput (L : List (Lit × α)) (k : Lit) (v : α) : List (Lit × α) := lins (k, v) (ldel L k)

def toD (enc : α → Value) (L : List (Lit × α)) : DataW Value := .map (L.map fun p => (p.1, .held (enc p.2)))
def tokR (v : Value) : Option (DataW Value × List MemPlace) := some (.held v, [])

variable (enc : α → Value) (L : List (Lit × α)) (k : Lit) (v : α)

theorem insert_toD (x : Lit × α) : ∀ L : List (Lit × α), DataW.insert (x.1, .held (enc x.2)) (L.map fun p => (p.1, .held (enc p.2))) = (lins x L).map fun p => (p.1, .held (enc p.2))
  | [] => rfl
  | y :: r => by
    unfold lins
    simp only [List.map_cons, DataW.insert]
    split
    · simp
    · simp [insert_toD x r]

theorem del_toD : (toD enc L).del k = toD enc (ldel L k) := by
  simp [toD, DataW.del, ldel, List.filter_map, Function.comp_def]

theorem put_toD : (toD enc L).put k (.held (enc v)) = toD enc (lput L k v) := by
  simp only [toD, DataW.put, lput, ldel]
  rw [← insert_toD enc (k, v)]
  simp [List.filter_map, Function.comp_def]

theorem has_toD : Maps.has (toD enc L) k = (lget L k).isSome := by
  simp only [toD, Maps.has, lget, List.any_map, Function.comp_def, Option.isSome_map]
  rw [Bool.eq_iff_iff, List.find?_isSome, List.any_eq_true]

theorem atKey_toD (z : DataW Value) : (toD enc L).atKey k z = match lget L k with | some v => .held (enc v) | none => z := by
  simp only [toD, DataW.atKey, lget, List.find?_map, Function.comp_def]
  cases L.find? (fun p => p.1.sameKey k) <;> rfl

theorem size_toD : Maps.size (toD enc L) = L.length := by simp [toD, Maps.size]
end

/-! ### a map in memory -/
section
variable {α : Type} {P : Program} {k : TypeId} {enc : α → Value} {w w' : World} {b : Nat} {L : List (Lit × α)}

/-- Block b is a map, keys of type k, that holds L, its keys rising. -/
def MapAt (P : Program) (k : TypeId) (enc : α → Value) (w : World) (b : Nat) (L : List (Lit × α)) : Prop := w.ownsMap P k tokR b L.length (toD enc L)

theorem MapAt.mk {n : Nat} (h : w.ownsMap P k tokR b n (toD enc L)) : MapAt P k enc w b L := by
  obtain ⟨es, clock, hb, F, hs, hD⟩ := h
  refine ⟨es, clock, hb, F, ?_, hD⟩
  have : Maps.size (toD enc L) = es.size := by rw [hD]; simp [Maps.size, length_sorted]
  rw [size_toD] at this
  omega

theorem MapAt.lt (h : MapAt P k enc w b L) : b < w.heap.size := World.ownsMap.lt h
theorem MapAt.made (w : World) : MapAt P k enc (w.alloc (.map #[] 0)) w.heap.size [] := World.ownsMap_made w P k tokR
theorem MapAt.of_block (h : MapAt P k enc w b L) (hb : w'.heap[b]? = w.heap[b]?) : MapAt P k enc w' b L := by
  obtain ⟨es, clock, h1, r⟩ := h
  exact ⟨es, clock, hb.trans h1, r⟩
theorem MapAt.keep {S : Nat → Prop} (h : MapAt P k enc w b L) (hk : Keep S w w') (hs : ¬ S b) : MapAt P k enc w' b L := h.of_block (hk.block b h.lt hs)
theorem MapAt.alloc (h : MapAt P k enc w b L) (o : Obj) : MapAt P k enc (w.alloc o) b L := World.ownsMap.alloc h o
theorem MapAt.drew (h : MapAt P k enc w b L) : MapAt P k enc w.drew b L := h
theorem MapAt.drewN (h : MapAt P k enc w b L) (n : Nat) : MapAt P k enc (w.drewN n) b L := h
theorem MapAt.setCell (h : MapAt P k enc w b L) {a : Addr} (ha : b ≠ a.block) (u : Value) : MapAt P k enc (w.setCell a u) b L := World.ownsMap.setCell h ha u

theorem MapAt.rising (h : MapAt P k enc w b L) (K : Keyed P k) : L.Pairwise (fun p q => p.1.before q.1 = true) ∧ ∀ p ∈ L, WideAt.IsKeyLit p.1 := by
  obtain ⟨es, hes, h1, h2⟩ := World.ownsMap.canon h K
  simp only [toD, DataW.map.injEq] at hes
  subst hes
  rw [List.pairwise_map] at h1
  exact ⟨h1, fun p hp => h2 _ (List.mem_map.2 ⟨p, hp, rfl⟩)⟩

theorem MapAt.look_ok {t e : TypeId} (h : MapAt P k enc w b L) (K : Keyed P k) (ht : P.underlying t = some (.map k e)) {z : Value} (hz : (zeroValue e).run P w = .ok z w) {key : Value} {kl : Lit} (hkey : keyOf P k key = some kl) :
    (Instr.lookup t (.map (some b)) key true).run P w = .ok (.tuple #[((lget L kl).map enc).getD z, .bool (lget L kl).isSome]) w := by
  obtain ⟨v, ps, hrun, hv⟩ := World.ownsMap.look_ok h K ht hz (zd := .held z) (zp := []) rfl hkey
  rw [has_toD] at hrun
  rw [atKey_toD] at hv
  have : v = ((lget L kl).map enc).getD z := by
    simp only [tokR, Option.some.injEq, Prod.mk.injEq] at hv
    cases hl : lget L kl <;> rw [hl] at hv <;> simp_all
  rw [hrun, this]

theorem MapAt.look {t e : TypeId} (h : MapAt P k enc w b L) (K : Keyed P k) (ht : P.underlying t = some (.map k e)) {z : Value} (hz : (zeroValue e).run P w = .ok z w) {key : Value} {kl : Lit} (hkey : keyOf P k key = some kl) :
    (Instr.lookup t (.map (some b)) key false).run P w = .ok (((lget L kl).map enc).getD z) w := by
  obtain ⟨v, ps, hrun, hv⟩ := World.ownsMap.lookup h K ht hz (zd := .held z) (zp := []) rfl hkey
  rw [atKey_toD] at hv
  have : v = ((lget L kl).map enc).getD z := by
    simp only [tokR, Option.some.injEq, Prod.mk.injEq] at hv
    cases hl : lget L kl <;> rw [hl] at hv <;> simp_all
  rw [hrun, this]

theorem MapAt.len {t e : TypeId} (h : MapAt P k enc w b L) (ht : P.underlying t = some (.map k e)) (ty : TypeId) : (Builtin.len_ #[t] ty #[.map (some b)]).run P w = .ok (.int .i64 L.length) w := by
  have := World.ownsMap.len h ht ty
  rwa [size_toD] at this

theorem MapAt.store {t e : TypeId} (h : MapAt P k enc w b L) (K : Keyed P k) (ht : P.underlying t = some (.map k e)) (hn : L.length < maxLen) {key : Value} {kl : Lit} (x : α)
    (hkey : keyOf P k key = some kl) : ∃ w', (Instr.mapUpdate t (.map (some b)) key (enc x)).run P w = .ok () w' ∧ MapAt P k enc w' b (lput L kl x) ∧ w.mapTurned w' b := by
  obtain ⟨w', hrun, h1, h2⟩ := World.ownsMap.store h K ht hn (d := .held (enc x)) (ps := []) hkey rfl
  rw [put_toD] at h1
  exact ⟨w', hrun, .mk h1, h2⟩

theorem MapAt.drop {t e : TypeId} (h : MapAt P k enc w b L) (K : Keyed P k) (ht : P.underlying t = some (.map k e)) {key : Value} {kl : Lit} (hkey : keyOf P k key = some kl) (ty : TypeId) :
    ∃ w', (Builtin.delete_ #[t, k] ty #[.map (some b), key]).run P w = .ok (.tuple #[]) w' ∧ MapAt P k enc w' b (ldel L kl) ∧ w.mapTurned w' b := by
  obtain ⟨w', hrun, h1, h2⟩ := World.ownsMap.drop h K ht hkey ty
  rw [del_toD] at h1
  exact ⟨w', hrun, .mk h1, h2⟩

theorem MapAt.clear {t e : TypeId} (h : MapAt P k enc w b L) (ht : P.underlying t = some (.map k e)) (ty : TypeId) :
    ∃ w', (Builtin.clear_ #[t] ty #[.map (some b)]).run P w = .ok (.tuple #[]) w' ∧ MapAt P k enc w' b [] ∧ w.mapTurned w' b := by
  obtain ⟨es, clock, hb, F, hs, hD⟩ := h
  refine ⟨setBlock w b (.map #[] clock), ?_, ⟨#[], clock, heap_setBlock_same hb _, ⟨by simp, stamped_empty _, by simp⟩, Nat.le_refl _, rfl⟩, ⟨es, clock, #[], clock, hb, rfl⟩⟩
  simp [Builtin.clear_, run_underlying ht, MapKept.run_getObj_map hb, MapKept.run_setObj_map _ hb, Result.andThen, setBlock]
end

/-! ### at the operation -/
section
variable {α : Type} {P : Program} (w : World) {ops : Array Oper} {rest : List Oper} {o : Oper} {a : Act} {Q : Exit → Act → World → Prop}

theorem wpList_lookok (hg : o.guard = none) (m x : Operand) (t : TypeId) (hop : o.op = Op.lookup t m x true)
    (k e : TypeId) (K : Keyed P k) (ht : P.underlying t = some (.map k e)) (enc : α → Value) {z : Value} (hz : (zeroValue e).run P w = .ok z w) (b : Nat) (L : List (Lit × α))
    (hm : a.eval m = .map (some b)) (h : MapAt P k enc w b L) (key : Value) (kl : Lit) (hx : a.eval x = key) (hkey : keyOf P k key = some kl)
    (hK : wpList P ops Q rest (a.put o.dst (.tuple #[((lget L kl).map enc).getD z, .bool (lget L kl).isSome])) w) :
    wpList P ops Q (o :: rest) a w := by
  refine wpList_plain hg fun K' hK' => ?_
  have hrun := h.look_ok K ht hz hkey
  unfold Oper.wp
  simp [execOp, hop, hm, hx, hrun, Result.andThen]
  exact hK' _ _ (by simpa using hK)

/-- .. where the key is there. -/
theorem wpList_lookok_hit (hg : o.guard = none) (m x : Operand) (t : TypeId) (hop : o.op = Op.lookup t m x true)
    (k e : TypeId) (K : Keyed P k) (ht : P.underlying t = some (.map k e)) (enc : α → Value) {z : Value} (hz : (zeroValue e).run P w = .ok z w) (b : Nat) (L : List (Lit × α))
    (hm : a.eval m = .map (some b)) (h : MapAt P k enc w b L) (key : Value) (kl : Lit) (hx : a.eval x = key) (hkey : keyOf P k key = some kl) (y : α) (hy : lget L kl = some y)
    (hK : wpList P ops Q rest (a.put o.dst (.tuple #[enc y, .bool true])) w) :
    wpList P ops Q (o :: rest) a w :=
  wpList_lookok w hg m x t hop k e K ht enc hz b L hm h key kl hx hkey (by rw [hy]; exact hK)

/-- .. where it is not. -/
theorem wpList_lookok_miss (hg : o.guard = none) (m x : Operand) (t : TypeId) (hop : o.op = Op.lookup t m x true)
    (k e : TypeId) (K : Keyed P k) (ht : P.underlying t = some (.map k e)) (enc : α → Value) {z : Value} (hz : (zeroValue e).run P w = .ok z w) (b : Nat) (L : List (Lit × α))
    (hm : a.eval m = .map (some b)) (h : MapAt P k enc w b L) (key : Value) (kl : Lit) (hx : a.eval x = key) (hkey : keyOf P k key = some kl) (hy : lget L kl = none)
    (hK : wpList P ops Q rest (a.put o.dst (.tuple #[z, .bool false])) w) :
    wpList P ops Q (o :: rest) a w :=
  wpList_lookok w hg m x t hop k e K ht enc hz b L hm h key kl hx hkey (by rw [hy]; exact hK)

theorem wpList_look (hg : o.guard = none) (m x : Operand) (t : TypeId) (hop : o.op = Op.lookup t m x false)
    (k e : TypeId) (K : Keyed P k) (ht : P.underlying t = some (.map k e)) (enc : α → Value) {z : Value} (hz : (zeroValue e).run P w = .ok z w) (b : Nat) (L : List (Lit × α))
    (hm : a.eval m = .map (some b)) (h : MapAt P k enc w b L) (key : Value) (kl : Lit) (hx : a.eval x = key) (hkey : keyOf P k key = some kl) (v : Value) (hv : ((lget L kl).map enc).getD z = v)
    (hK : wpList P ops Q rest (a.put o.dst v) w) :
    wpList P ops Q (o :: rest) a w := by
  refine wpList_plain hg fun K' hK' => ?_
  have hrun := h.look K ht hz hkey
  rw [hv] at hrun
  unfold Oper.wp
  simp [execOp, hop, hm, hx, hrun, Result.andThen]
  exact hK' _ _ hK

theorem wpList_mlen (hg : o.guard = none) (m : Operand) (t : TypeId) (hop : o.op = Op.call { callee := Callee.builtin Builtin.len, args := #[m], argTypes := #[t] })
    (k e : TypeId) (ht : P.underlying t = some (.map k e)) (enc : α → Value) (b : Nat) (L : List (Lit × α)) (hm : a.eval m = .map (some b)) (h : MapAt P k enc w b L)
    (hK : wpList P ops Q rest (a.put o.dst (.int .i64 L.length)) w) :
    wpList P ops Q (o :: rest) a w := by
  refine wpList_plain hg fun K' hK' => ?_
  unfold Oper.wp
  simp [execOp, hop, resolve, invoke, builtin, hm, h.len ht o.type, Result.andThen]
  exact hK' _ _ hK

theorem wpList_mstore (hg : o.guard = none) (m x v : Operand) (t : TypeId) (hop : o.op = Op.mapUpdate t m x v)
    (k e : TypeId) (K : Keyed P k) (ht : P.underlying t = some (.map k e)) (enc : α → Value) (b : Nat) (L : List (Lit × α))
    (hm : a.eval m = .map (some b)) (h : MapAt P k enc w b L) (hn : L.length < maxLen) (key : Value) (kl : Lit) (y : α) (hx : a.eval x = key) (hv : a.eval v = enc y) (hkey : keyOf P k key = some kl)
    (hK : ∀ w', MapAt P k enc w' b (lput L kl y) → w.mapTurned w' b → wpList P ops Q rest (a.put o.dst undef) w') :
    wpList P ops Q (o :: rest) a w := by
  refine wpList_plain hg fun K' hK' => ?_
  obtain ⟨w', hrun, r1, r2⟩ := h.store K ht hn y hkey
  unfold Oper.wp
  simp [execOp, hop, hm, hx, hv, hrun, Result.andThen]
  exact hK' _ _ (hK w' r1 r2)

theorem wpList_mdrop (hg : o.guard = none) (m x : Operand) (t k : TypeId) (hop : o.op = Op.call { callee := Callee.builtin Builtin.delete, args := #[m, x], argTypes := #[t, k] })
    (e : TypeId) (K : Keyed P k) (ht : P.underlying t = some (.map k e)) (enc : α → Value) (b : Nat) (L : List (Lit × α))
    (hm : a.eval m = .map (some b)) (h : MapAt P k enc w b L) (key : Value) (kl : Lit) (hx : a.eval x = key) (hkey : keyOf P k key = some kl)
    (hK : ∀ w', MapAt P k enc w' b (ldel L kl) → w.mapTurned w' b → wpList P ops Q rest (a.put o.dst (.tuple #[])) w') :
    wpList P ops Q (o :: rest) a w := by
  refine wpList_plain hg fun K' hK' => ?_
  obtain ⟨w', hrun, r1, r2⟩ := h.drop K ht hkey o.type
  unfold Oper.wp
  simp [execOp, hop, resolve, invoke, builtin, hm, hx, hrun, Result.andThen]
  exact hK' _ _ (hK w' r1 r2)

theorem wpList_mclear (hg : o.guard = none) (m : Operand) (t : TypeId) (hop : o.op = Op.call { callee := Callee.builtin Builtin.clear, args := #[m], argTypes := #[t] })
    (k e : TypeId) (ht : P.underlying t = some (.map k e)) (enc : α → Value) (b : Nat) (L : List (Lit × α))
    (hm : a.eval m = .map (some b)) (h : MapAt P k enc w b L)
    (hK : ∀ w', MapAt P k enc w' b [] → w.mapTurned w' b → wpList P ops Q rest (a.put o.dst (.tuple #[])) w') :
    wpList P ops Q (o :: rest) a w := by
  refine wpList_plain hg fun K' hK' => ?_
  obtain ⟨w', hrun, r1, r2⟩ := h.clear ht o.type
  unfold Oper.wp
  simp [execOp, hop, resolve, invoke, builtin, hm, hrun, Result.andThen]
  exact hK' _ _ (hK w' r1 r2)
end

section
variable {P : Program} (w : World) {ops : Array Oper} {rest : List Oper} {o : Oper} {a : Act} {Q : Exit → Act → World → Prop}
/-- 'max(x, y)' of two ints, its value under a name. -/
theorem wpList_max2 (hg : o.guard = none) (x y : Operand) (t1 t2 : TypeId) (hop : o.op = Op.call { callee := Callee.builtin Builtin.max, args := #[x, y], argTypes := #[t1, t2] }) (p q : Int)
    (hx : a.eval x = .int .i64 p) (hy : a.eval y = .int .i64 q) (m : Int) (hm : max p q = m) (hK : wpList P ops Q rest (a.put o.dst (.int .i64 m)) w) : wpList P ops Q (o :: rest) a w := by
  refine wpList_plain hg fun K' hK' => ?_
  have e : (if q > p then q else p) = m := by rw [← hm]; split <;> omega
  unfold Oper.wp
  simp [execOp, hop, resolve, invoke, builtin, hx, hy, run_max_int2, Result.andThen]
  have e' : (if p < q then q else p) = m := e
  rw [e']
  exact hK' _ _ hK
/-- 'min(x, y)'. -/
theorem wpList_min2 (hg : o.guard = none) (x y : Operand) (t1 t2 : TypeId) (hop : o.op = Op.call { callee := Callee.builtin Builtin.min, args := #[x, y], argTypes := #[t1, t2] }) (p q : Int)
    (hx : a.eval x = .int .i64 p) (hy : a.eval y = .int .i64 q) (m : Int) (hm : min p q = m) (hK : wpList P ops Q rest (a.put o.dst (.int .i64 m)) w) : wpList P ops Q (o :: rest) a w := by
  refine wpList_plain hg fun K' hK' => ?_
  have e : (if q < p then q else p) = m := by rw [← hm]; split <;> omega
  unfold Oper.wp
  simp [execOp, hop, resolve, invoke, builtin, hx, hy, run_min_int2, Result.andThen]
  have e' : (if q < p then q else p) = m := e
  rw [e']
  exact hK' _ _ hK
end

/-! ### what one gives behind another -/
section
variable {α : Type} {L : List (Lit × α)} {k k' : Lit} {v : α}

theorem find_lins_hit {f : Lit × α → Bool} {x : Lit × α} (hx : f x = true) : ∀ l : List (Lit × α), (∀ p ∈ l, f p = false) → (lins x l).find? f = some x
  | [], _ => by simp [lins, hx]
  | y :: r, h => by
    unfold lins
    split
    · simp [hx]
    · simp [h y (by simp), find_lins_hit hx r (fun p hp => h p (by simp [hp]))]

theorem find_lins_miss {f : Lit × α → Bool} {x : Lit × α} (hx : f x = false) : ∀ l : List (Lit × α), (lins x l).find? f = l.find? f
  | [] => by simp [lins, hx]
  | y :: r => by
    unfold lins
    split
    · simp [hx]
    · cases hy : f y <;> simp [hy, find_lins_miss hx r]

theorem lget_lput_same (hk : WideAt.IsKeyLit k) : lget (lput L k v) k = some v := by
  unfold lget lput
  rw [find_lins_hit (f := fun p => p.1.sameKey k) (WideAt.sameKey_self hk) _ (fun p hp => by simpa using (List.mem_filter.1 hp).2)]
  rfl

theorem lget_lput_other (hne : k' ≠ k) : lget (lput L k v) k' = lget L k' := by
  unfold lget lput ldel
  rw [find_lins_miss (f := fun p => p.1.sameKey k') (sameKey_ne hne.symm), find_filter_keep (f := fun p : Lit × α => p.1.sameKey k') (g := fun p => !p.1.sameKey k) (fun p h => by rw [WideAt.sameKey_eq h, sameKey_ne hne]; rfl)]

theorem lget_ldel_same : lget (ldel L k) k = none := by
  unfold lget ldel
  rw [List.find?_eq_none.2 (fun p hp => by simpa using (List.mem_filter.1 hp).2)]
  rfl

theorem lget_ldel_other (hne : k' ≠ k) : lget (ldel L k) k' = lget L k' := by
  unfold lget ldel
  rw [find_filter_keep (f := fun p : Lit × α => p.1.sameKey k') (g := fun p => !p.1.sameKey k) (fun p h => by rw [WideAt.sameKey_eq h, sameKey_ne hne]; rfl)]

theorem length_lins (x : Lit × α) : ∀ l : List (Lit × α), (lins x l).length = l.length + 1
  | [] => rfl
  | y :: r => by
    unfold lins
    split
    · rfl
    · simp [length_lins x r]

theorem mem_lins {x p : Lit × α} : ∀ {l : List (Lit × α)}, p ∈ lins x l ↔ p = x ∨ p ∈ l
  | [] => by simp [lins]
  | y :: r => by
    unfold lins
    split
    · simp
    · simp only [List.mem_cons, mem_lins (l := r)]
      constructor
      · rintro (h | h | h) <;> simp [h]
      · rintro (h | h | h) <;> simp [h]

/-- No key stands twice. -/
def Apart (L : List (Lit × α)) : Prop := L.Pairwise (fun p q => p.1 ≠ q.1)

theorem apart_of_rising' (h : L.Pairwise (fun p q => p.1.before q.1 = true)) : Apart L :=
  h.imp (fun {a b} hab e => by rw [e, before_irrefl] at hab; cases hab)

theorem MapAt.apart {P : Program} {kt : TypeId} {enc : α → Value} {w : World} {b : Nat} (h : MapAt P kt enc w b L) (K : Keyed P kt) : Apart L := apart_of_rising' (h.rising K).1

theorem length_ldel (k : Lit) : ∀ {L : List (Lit × α)}, Apart L → (ldel L k).length + (if (lget L k).isSome then 1 else 0) = L.length
  | [], _ => rfl
  | y :: r, h => by
    obtain ⟨h1, h2⟩ := List.pairwise_cons.1 h
    have ih := length_ldel k h2
    cases hy : y.1.sameKey k
    · have e1 : ldel (y :: r) k = y :: ldel r k := by simp [ldel, hy]
      have e2 : lget (y :: r) k = lget r k := by simp [lget, hy]
      rw [e1, e2, List.length_cons, List.length_cons]
      omega
    · have hr : lget r k = none := by
        unfold lget
        rw [List.find?_eq_none.2 (fun p hp hpk => h1 p hp ((WideAt.sameKey_eq hy).trans (WideAt.sameKey_eq hpk).symm))]
        rfl
      have e1 : ldel (y :: r) k = ldel r k := by simp [ldel, hy]
      have e2 : lget (y :: r) k = some y.2 := by simp [lget, hy]
      rw [hr] at ih
      rw [e1, e2, List.length_cons]
      simpa using ih

theorem length_lput (h : Apart L) : (lput L k v).length = if (lget L k).isSome then L.length else L.length + 1 := by
  have := length_ldel k h
  unfold lput
  rw [length_lins]
  split <;> simp_all

theorem mem_of_lget (h : lget L k = some v) : (k, v) ∈ L := by
  unfold lget at h
  cases hf : L.find? (fun p => p.1.sameKey k) with
  | none => rw [hf] at h; cases h
  | some p =>
    rw [hf] at h
    have h1 := List.mem_of_find?_eq_some hf
    have h2 := List.find?_some hf
    have h3 := WideAt.sameKey_eq h2
    obtain ⟨a, c⟩ := p
    simp at h h3
    subst h h3
    exact h1

theorem lget_of_mem (ha : Apart L) (hk : WideAt.IsKeyLit k) (h : (k, v) ∈ L) : lget L k = some v := by
  induction L with
  | nil => cases h
  | cons y r ih =>
    obtain ⟨h1, h2⟩ := List.pairwise_cons.1 ha
    rcases List.mem_cons.1 h with e | h'
    · subst e
      simp [lget, WideAt.sameKey_self hk]
    · have hne : y.1 ≠ k := h1 _ h'
      have := ih h2 h'
      unfold lget at this ⊢
      rw [List.find?_cons, sameKey_ne hne]
      exact this

theorem lget_nil : lget ([] : List (Lit × α)) k = none := rfl
end

/-- A region that draws, its first n operations reading alone, the rest in one order: the world behind the draw under its own name. -/
theorem wp_region_tail {P : Program} {id : Nat} {Q : Exit → Act → World → Prop} {a : Act} {w : World} {l : List Oper} (n : Nat) (hm : P.follows .mixedOrders = true) (hB : Region.lexTailB .any l.toArray n = true)
    (h : wpStill P l.toArray w.drew (fun a' => wpList P l.toArray Q (l.drop n) a' w.drew) (l.take n) a) : (Code.region id l.toArray true).wp P Q a w := wp_region_still_tail n hm hB h

/-- A world that w may have become, blocks of S turned and new ones laid. -/
def Gr (S : Nat → Prop) (w : World) : Type := { W : World // Keep S w W }
instance {S : Nat → Prop} {w : World} : Inhabited (Gr S w) := ⟨⟨w, Keep.refl S w⟩⟩
def plus {S : Nat → Prop} (w : World) (g : Gr S w) : World := g.1
theorem plus_keep {S : Nat → Prop} {w : World} (g : Gr S w) : Keep S w (plus w g) := g.2
theorem plus_of {S : Nat → Prop} {w W : World} (h : Keep S w W) : ∃ g : Gr S w, W = plus w g := ⟨⟨W, h⟩, rfl⟩
theorem plus_cell {S : Nat → Prop} {w : World} {b i : Nat} {v : Value} (h : w.cell? ⟨b, i, none⟩ = some v) (hb : b < w.heap.size) (hs : ¬ S b) (g : Gr S w) : (plus w g).cell? ⟨b, i, none⟩ = some v :=
  ((plus_keep g).cell (p := ⟨b, i, none⟩) hb hs).trans h

/-- A region that draws, whose operations read alone and whose calls turn blocks of S alone and lay new ones: one walk, in the order of the text. -/
theorem wp_region_calm {P : Program} {id : Nat} {Q : Exit → Act → World → Prop} {a : Act} {w : World} {l : List Oper} (S : Nat → Prop) (hm : P.follows .mixedOrders = true) (hB : Region.lexB .any l.toArray = true)
    (h : wpQuiet P l.toArray (fun w' => ∃ g : Gr S w, w' = plus w g) (fun a' => ∀ w', (∃ g : Gr S w, w' = plus w g) → Q .normal a' w') l a) : (Code.region id l.toArray true).wp P Q a w :=
  wp_region_quiet (C := fun w' => ∃ g : Gr S w, w' = plus w g) hm hB (plus_of (Keep.refl S w).drew) (by simpa using h)

/-- A callee's contract, met there. -/
theorem calm_call {P : Program} {f : FuncId} {args : Array Value} {S : Nat → Prop} {w : World} {g : Gr S w} {v : Value} (h : Calls P f args (plus w g) fun e w' => e = .returned v ∧ Keep S (plus w g) w') :
    Calls P f args (plus w g) fun e w'' => e = .returned v ∧ ∃ g' : Gr S w, w'' = plus w g' :=
  h.mono fun _ _ ⟨he, hk⟩ => ⟨he, plus_of ((plus_keep g).trans' hk (fun _ _ e => e))⟩

theorem cell_setCell_ne {w : World} {x y i j : Nat} {u : Value} (h : x ≠ y) : (w.setCell ⟨y, i, none⟩ u).cell? ⟨x, j, none⟩ = w.cell? ⟨x, j, none⟩ :=
  World.cell?_of_block (w := w) (Below.heap_setCell _ _ _ _ h)

#print axioms MapAt.clear
end Go.Proofs.YtopgepifakdpfaaDoor
