/- What New, Len, Sent, Look and Send of package link come to. -/
import Derived.Test.YtbaojfjabhgohaaLinkW
import Derived.Deep.RegionLaw
namespace Go.Proofs.Ytbaojfjabhgohaa
open Go Go.RowKit Go.Maps

/-- A packet on its way: from, to, where its bytes lie, whether it was turned, its bytes. -/
structure HE where
  f : Int
  t : Int
  a : Option Addr
  c : Nat
  tn : Bool
  l : List UInt8
def HE.v (x : HE) : Value := .slice x.a x.l.length x.c
def hCells (x : HE) : List Value := [.int .i64 x.f, .int .i64 x.t, x.v, .bool x.tn]
theorem hCells_len (x : HE) : (hCells x).length = 4 := rfl
theorem hCells_one (x : HE) : ∀ u ∈ hCells x, u.oneCell' = true := by
  intro u hu
  simp [hCells, HE.v] at hu
  rcases hu with rfl | rfl | rfl | rfl <;> rfl
theorem info70' : (Try.prog.info? 70).map (fun i => (i.zero, i.size, i.bytes)) = some (some (.agg #[.int .i64 0, .int .i64 0, .slice none 0 0, .bool false]), 4, 48) := by kernel_rfl

/-- A net: the struct in block nb, its list in a row of its own, each packet's bytes in a row of its own. -/
structure Net (w : World) (B nb : Nat) (a : Option Addr) (cap : Nat) (room sent : Int) (N : List HE) : Prop where
  blk : w.heap[nb]? = some (.cells #[.int .i64 room, .slice a N.length cap, .int .i64 sent] 67 (0, 0))
  row : Row w B 70 4 hCells (.slice a N.length cap) N
  each : ∀ x ∈ N, Row w B 5 1 cU x.v x.l ∧ x.l.length ≤ 1000000
  apart : N.Pairwise (fun x y => ∀ g, x.v.ownBlock = some g → y.v.ownBlock ≠ some g)

/-- What a call turns of the old blocks. -/
def SN (nb : Nat) (v : Value) : Nat → Prop := fun k => k = nb ∨ v.ownBlock = some k

section
variable {w w' : World} {B nb : Nat} {a : Option Addr} {cap : Nat} {room sent : Int} {N : List HE}
theorem Net.keep {S : Nat → Prop} (T : Net w B nb a cap room sent N) (hk : Keep S w w') (h1 : ¬ S nb) (h2 : ∀ g, (Value.slice a N.length cap).ownBlock = some g → ¬ S g) (h3 : ∀ x ∈ N, ∀ g, x.v.ownBlock = some g → ¬ S g) : Net w' B nb a cap room sent N :=
  ⟨blk_keep T.blk hk h1, T.row.keep hk h2, fun x hx => ⟨(T.each x hx).1.keep hk (h3 x hx), (T.each x hx).2⟩, T.apart⟩
theorem Net.keep0 (T : Net w B nb a cap room sent N) (hk : Keep NoB w w') : Net w' B nb a cap room sent N := T.keep hk (fun h => h) (fun _ _ h => h) (fun _ _ _ _ h => h)
theorem Net.ne (T : Net w B nb a cap room sent N) : ∀ g, (Value.slice a N.length cap).ownBlock = some g → g ≠ nb := T.row.ne T.blk (by decide)
theorem Net.ne1 (T : Net w B nb a cap room sent N) {x : HE} (hx : x ∈ N) : ∀ g, x.v.ownBlock = some g → g ≠ nb ∧ (Value.slice a N.length cap).ownBlock ≠ some g := fun g hg => ⟨(T.each x hx).1.ne T.blk (by decide) g hg, (T.each x hx).1.ne_own T.row (by decide) g hg⟩
end

theorem new_any (room : Int) (w : World) {B : Nat} (_hB : B ≤ w.heap.size) :
    Calls Try.prog 8 #[.int .i64 room] w fun e w' => e = .returned (.pointer (some ⟨w.heap.size, 0, none⟩)) ∧ Net w' B w.heap.size none 0 room 0 [] ∧ Keep NoB w w' ∧ w'.heap.size = w.heap.size + 1 := by
  go_enter Try.func8, Try.ntmps8
  go_wp2
  go_ret
  exact ⟨rfl, ⟨blk_new w _, Row.nil _ _ _ _ _, by simp, by simp⟩, (Keep.refl _ w).alloc _, by simp⟩

theorem intAdd (x y : Int) (w : World) (h : -9223372036854775808 ≤ x + y ∧ x + y ≤ 9223372036854775807) : (Op.intArith .add .i64 x y).run Try.prog w = .ok (.int .i64 (x + y)) w := by
  have : IntKind.i64.wrap (x + y) = x + y := IntWalk.i64_in _ h
  simp [Op.intArith, this]

theorem add_any (nb : Nat) (n : Int) (w : World) (c3 : w.cell? ⟨nb, 2, none⟩ = some (.int .i64 n)) (f3 : w.frozen? ⟨nb, 2, none⟩ = false) (h0 : 0 ≤ n) (h1 : n < 9223372036854775807) :
    Calls Try.prog 27 #[.pointer (some ⟨nb, 2, none⟩), .int .i64 1] w fun e w' => e = .returned (.int .i64 (n + 1)) ∧ w' = w.setCell ⟨nb, 2, none⟩ (.int .i64 (n + 1)) := by
  have hadd := run_call_add (P := Try.prog) Try.func29 (by kernel_rfl) (by kernel_rfl) (by kernel_rfl) .i64 (by kernel_rfl) c3 f3 (intAdd n 1 w (by omega))
  go_enter Try.func27, Try.ntmps27
  go_wp2
  go_ret
  exact ⟨rfl, rfl⟩

theorem load_any (nb : Nat) (n : Int) (w : World) (c3 : w.cell? ⟨nb, 2, none⟩ = some (.int .i64 n)) :
    Calls Try.prog 28 #[.pointer (some ⟨nb, 2, none⟩)] w fun e w' => e = .returned (.int .i64 n) ∧ w' = w := by
  have hload := run_call_load (P := Try.prog) Try.func30 (by kernel_rfl) (by kernel_rfl) (by kernel_rfl) .i64 (by kernel_rfl) c3
  go_enter Try.func28, Try.ntmps28
  go_wp2
  go_ret
  exact ⟨rfl, rfl⟩


theorem len_any (B nb : Nat) (a : Option Addr) (cap : Nat) (room sent : Int) (N : List HE) (w : World) (T : Net w B nb a cap room sent N) :
    Calls Try.prog 12 #[.pointer (some ⟨nb, 0, none⟩)] w fun e w' => e = .returned (.int .i64 N.length) ∧ w' = w := by
  have c0 := blk_cell T.blk 0
  have c1 := blk_cell T.blk 1
  have c2 := blk_cell T.blk 2
  have hlt := blk_lt T.blk
  have HT := Lib.hid T
  have Hblk := Lib.hid T.blk
  clear T
  simp at c0 c1 c2
  go_enter Try.func12, Try.ntmps12
  go_wp2
  go_ret
  exact ⟨rfl, rfl⟩

theorem sent_any (B nb : Nat) (a : Option Addr) (cap : Nat) (room sent : Int) (N : List HE) (w : World) (T : Net w B nb a cap room sent N) :
    Calls Try.prog 17 #[.pointer (some ⟨nb, 0, none⟩)] w fun e w' => e = .returned (.int .i64 sent) ∧ w' = w := by
  have c0 := blk_cell T.blk 0
  have c1 := blk_cell T.blk 1
  have c2 := blk_cell T.blk 2
  have hlt := blk_lt T.blk
  have HT := Lib.hid T
  have Hblk := Lib.hid T.blk
  clear T
  simp at c0 c1 c2
  go_enter Try.func17, Try.ntmps17
  go_wp2_with fail
  refine (load_any nb sent w c2).mono ?_
  rintro _ _ ⟨rfl, rfl⟩
  go_wp2
  go_ret
  exact ⟨rfl, rfl⟩

def zP : Value := .agg #[.int .i64 0, .int .i64 0, .slice none 0 0]


theorem look_out (B nb : Nat) (a : Option Addr) (cap : Nat) (room sent : Int) (N : List HE) (i : Int) (w : World) (T : Net w B nb a cap room sent N) (hi : i < 0 ∨ N.length ≤ i) :
    Calls Try.prog 16 #[.pointer (some ⟨nb, 0, none⟩), .int .i64 i] w fun e w' => e = .returned (.tuple #[.agg #[.int .i64 0, .int .i64 0, .slice none 0 0], .bool false]) ∧ Keep NoB w w' := by
  have HT := Lib.hid T
  clear T
  rcases hi with hi | hi
  · go_enter Try.func16, Try.ntmps16
    go_wp2
    exact bodyPost_ret (v := .tuple #[.agg #[.int .i64 0, .int .i64 0, .slice none 0 0], .bool false]) (by simp [results, Try.results16, go_sem]) rfl ⟨rfl, by (repeat (with_reducible first | exact Keep.refl _ _ | assumption | refine Keep.alloc ?_ _ | refine Keep.drewN ?_ _ | refine Keep.drew ?_ | refine Keep.setCell ?_ (by first | (left; simp; done) | (left; simp; omega) | (right; simp [NoB, OneB, TwoB]; done)) _))⟩
  · have h0 : ¬ i < 0 := by omega
    have hd : decide ((N.length : Int) ≤ i) = true := by simpa using hi
    go_enter Try.func16, Try.ntmps16
    go_wp2_with fail
    refine (len_any B nb a cap room sent N _ (HT.out.keep0 (by (repeat (with_reducible first | exact Keep.refl _ _ | assumption | refine Keep.alloc ?_ _ | refine Keep.drewN ?_ _ | refine Keep.drew ?_ | refine Keep.setCell ?_ (by first | (left; simp; done) | (left; simp; omega) | (right; simp [NoB, OneB, TwoB]; done)) _))))).mono ?_
    rintro _ _ ⟨rfl, rfl⟩
    go_wp2
    exact bodyPost_ret (v := .tuple #[.agg #[.int .i64 0, .int .i64 0, .slice none 0 0], .bool false]) (by simp [results, Try.results16, go_sem]) rfl ⟨rfl, by (repeat (with_reducible first | exact Keep.refl _ _ | assumption | refine Keep.alloc ?_ _ | refine Keep.drewN ?_ _ | refine Keep.drew ?_ | refine Keep.setCell ?_ (by first | (left; simp; done) | (left; simp; omega) | (right; simp [NoB, OneB, TwoB]; done)) _))⟩

def LookPost (x : HE) (w : World) (e : Ending) (w' : World) : Prop :=
  ∃ g, e = .returned (.tuple #[.agg #[.int .i64 x.f, .int .i64 x.t, .slice (some ⟨g, 0, none⟩) x.l.length x.l.length], .bool true]) ∧ w.heap.size ≤ g ∧ Row w' w.heap.size 5 1 cU (.slice (some ⟨g, 0, none⟩) x.l.length x.l.length) x.l ∧ Keep NoB w w'

theorem look_in (B nb : Nat) (a : Option Addr) (cap : Nat) (room sent : Int) (N : List HE) (i : Nat) (x : HE) (w : World) (T : Net w B nb a cap room sent N) (hx : N[i]? = some x) :
    Calls Try.prog 16 #[.pointer (some ⟨nb, 0, none⟩), .int .i64 i] w (LookPost x w) := by
  have hi := (List.getElem?_eq_some_iff.1 hx).1
  have hxe := T.each x (List.mem_of_getElem? hx)
  obtain ⟨g, c', hv, hg1, hg2, hcx⟩ := T.row.cells hCells_len hx
  have hroom := T.row.room.2
  unfold maxLen at hroom
  obtain ⟨hroom1, hroom2⟩ := hroom
  cases hv
  have c0 := blk_cell T.blk 0
  have c1 := blk_cell T.blk 1
  have c2 := blk_cell T.blk 2
  have hlt := blk_lt T.blk
  have HT := Lib.hid T
  have Hblk := Lib.hid T.blk
  clear T
  simp at c0 c1 c2
  have m0 := hcx 0 _ rfl
  have m1 := hcx 1 _ rfl
  have m2 := hcx 2 _ rfl
  simp only [Nat.add_zero] at m0
  have Hxe := Lib.hid hxe
  have HX := Lib.hid hx
  have h0 : ¬ (i : Int) < 0 := by omega
  have hd : decide ((N.length : Int) ≤ (i : Int)) = false := by simp; omega
  clear hcx hx hxe
  obtain ⟨xf, xt, xa, xc, xn, xl⟩ := x
  simp only [HE.v] at m0 m1 m2 Hxe ⊢
  go_enter Try.func16, Try.ntmps16
  go_wp2_with fail
  refine (len_any B nb _ cap room sent N _ (HT.out.keep0 (by (repeat (with_reducible first | exact Keep.refl _ _ | assumption | refine Keep.alloc ?_ _ | refine Keep.drewN ?_ _ | refine Keep.drew ?_ | refine Keep.setCell ?_ (by first | (left; simp; done) | (left; simp; omega) | (right; simp [NoB, OneB, TwoB]; done)) _))))).mono ?_
  rintro _ _ ⟨rfl, rfl⟩
  go_wp2_with fail
  refine (fresh_any xf xt _ xl _ (Hxe.out.1.rd.keep (S := NoB) (by (repeat (with_reducible first | exact Keep.refl _ _ | assumption | refine Keep.alloc ?_ _ | refine Keep.drewN ?_ _ | refine Keep.drew ?_ | refine Keep.setCell ?_ (by first | (left; simp; done) | (left; simp; omega) | (right; simp [NoB, OneB, TwoB]; done)) _))) (fun _ _ _ _ h => h)) Hxe.out.2).mono ?_
  rintro _ w4 ⟨g4, rfl, hg4, R4, k4⟩
  have bq := blk_keep (blk_new w (.cells #[.int .i64 0, .int .i64 0, .slice none 0 0] 32)) k4 (fun h => h)
  have q0 := blk_cell bq 0
  have q1 := blk_cell bq 1
  have q2 := blk_cell bq 2
  have q3 := blk_free bq 0
  have q4 := blk_free bq 1
  have q5 := blk_free bq 2
  have q6 := blk_lt bq
  have Hbq := Lib.hid bq
  simp at q0 q1 q2
  clear bq
  go_wp2_with fail
  have x1 := blk_setCell (i := 2) (blk_setCell (i := 1) (blk_setCell (i := 0) Hbq.out (.int .i64 xf)) (.int .i64 xt)) (.slice (some ⟨g4, 0, none⟩) xl.length xl.length)
  have R5 : Row _ w.heap.size 5 1 cU (.slice (some ⟨g4, 0, none⟩) xl.length xl.length) xl := ((R4.mono (by simp)).keep (((Keep.refl (OneB w.heap.size) w4).setCell (p := ⟨w.heap.size, 0, none⟩) (Or.inr rfl) (.int .i64 xf)).setCell (p := ⟨w.heap.size, 1, none⟩) (Or.inr rfl) (.int .i64 xt) |>.setCell (p := ⟨w.heap.size, 2, none⟩) (Or.inr rfl) (.slice (some ⟨g4, 0, none⟩) xl.length xl.length)) (fun g hg e => by have := R4.fresh g hg; simp at this; have e2 : g = w.heap.size := e; omega))
  have K5 : Keep NoB w _ := (((((Keep.refl NoB w).alloc _).trans k4).setCell (p := ⟨w.heap.size, 0, none⟩) (Or.inl (by simp)) (.int .i64 xf)).setCell (p := ⟨w.heap.size, 1, none⟩) (Or.inl (by simp)) (.int .i64 xt)).setCell (p := ⟨w.heap.size, 2, none⟩) (Or.inl (by simp)) (.slice (some ⟨g4, 0, none⟩) xl.length xl.length)
  generalize World.setCell _ _ _ = W4 at x1 R5 K5 ⊢
  have d0 := blk_cell x1 0
  have d1 := blk_cell x1 1
  have d2 := blk_cell x1 2
  simp at d0 d1 d2
  refine bodyPost_ret (v := .tuple #[.agg #[.int .i64 xf, .int .i64 xt, .slice (some ⟨g4, 0, none⟩) xl.length xl.length], .bool true]) (by simp [results, Try.results16, go_sem, d0, d1, d2]) rfl ?_
  exact ⟨g4, rfl, by simp at hg4; omega, R5, K5⟩
end Go.Proofs.Ytbaojfjabhgohaa
