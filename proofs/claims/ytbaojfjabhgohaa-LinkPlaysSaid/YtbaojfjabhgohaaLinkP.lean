/- What the reference's net comes to: Has, Send, Take, Double, Drop. -/
import Derived.Test.YtbaojfjabhgohaaLinkB
import Derived.Test.YtbaojfjabhgohaaLinkTn
import Derived.Test.YtbaojfjabhgohaaLibPrt
import Derived.Test.YtbaojfjabhgohaaLibReg2
namespace Go.Proofs.Ytbaojfjabhgohaa
open Go Go.RowKit Go.Maps

structure RP where
  f : Int
  t : Int
  x : ByteArray
  tn : Bool
def pCells (p : RP) : List Value := [.int .i64 p.f, .int .i64 p.t, .string p.x, .bool p.tn]
theorem pCells_len (x : RP) : (pCells x).length = 4 := rfl
theorem pCells_one (x : RP) : ∀ u ∈ pCells x, u.oneCell' = true := by
  intro u hu
  simp [pCells] at hu
  rcases hu with rfl | rfl | rfl | rfl <;> rfl
theorem info50' : (Try.prog.info? 50).map (fun i => (i.zero, i.size, i.bytes)) = some (some (.agg #[.int .i64 0, .int .i64 0, .string ⟨#[]⟩, .bool false]), 4, 40) := by kernel_rfl

structure RN (w : World) (B rb : Nat) (a : Option Addr) (cap : Nat) (room sent : Int) (N : List RP) : Prop where
  blk : w.heap[rb]? = some (.cells #[.slice a N.length cap, .int .i64 room, .int .i64 sent] 47 (0, 0))
  own : Own w B 50 4 pCells (.slice a N.length cap) N
section
variable {w w' : World} {B rb : Nat} {a : Option Addr} {cap : Nat} {room sent : Int} {N : List RP}
theorem RN.keep {S : Nat → Prop} (T : RN w B rb a cap room sent N) (hk : Keep S w w') (h1 : ¬ S rb) (h2 : ∀ g, (Value.slice a N.length cap).ownBlock = some g → ¬ S g) : RN w' B rb a cap room sent N :=
  ⟨blk_keep T.blk hk h1, T.own.keep hk h2⟩
theorem RN.keep0 (T : RN w B rb a cap room sent N) (hk : Keep NoB w w') : RN w' B rb a cap room sent N := T.keep hk (fun h => h) (fun _ _ h => h)
theorem RN.ne (T : RN w B rb a cap room sent N) : ∀ g, (Value.slice a N.length cap).ownBlock = some g → g ≠ rb := T.own.ne T.blk (by decide)
end
def RPost (rb B : Nat) (room sent : Int) (v : Value) (N : List RP) (w : World) (e : Ending) (w' : World) : Prop :=
  e = .returned v ∧ (∃ a cap, RN w' B rb a cap room sent N) ∧ Keep (OneB rb) w w'


/-! ### Has -/
theorem rhas_any (rb B : Nat) (a : Option Addr) (cap : Nat) (room sent : Int) (N : List RP) (i : Int) (w : World) (T : RN w B rb a cap room sent N) (v : Bool) (hv : decide (0 ≤ i ∧ i < N.length) = v) :
    Calls Try.prog 19 #[.pointer (some ⟨rb, 0, none⟩), .int .i64 i] w fun e w' => e = .returned (.bool v) ∧ w' = w := by
  have c0 := blk_cell T.blk 0
  have c1 := blk_cell T.blk 1
  have c2 := blk_cell T.blk 2
  have hlt := blk_lt T.blk
  have HT := Lib.hid T
  clear T
  simp at c0 c1 c2
  by_cases h0 : 0 ≤ i
  · have d0 : decide (0 ≤ i) = true := decide_eq_true h0
    by_cases h1 : i < N.length
    · have d1 : decide (i < (N.length : Int)) = true := decide_eq_true h1
      obtain rfl : v = true := by rw [← hv]; exact decide_eq_true ⟨h0, h1⟩
      clear hv
      go_enter Try.func19, Try.ntmps19
      go_wp2
      go_ret
      exact ⟨rfl, rfl⟩
    · have d1 : decide (i < (N.length : Int)) = false := decide_eq_false h1
      obtain rfl : v = false := by rw [← hv]; exact decide_eq_false (fun e => h1 e.2)
      clear hv
      go_enter Try.func19, Try.ntmps19
      go_wp2
      go_ret
      exact ⟨rfl, rfl⟩
  · have d0 : decide (0 ≤ i) = false := decide_eq_false h0
    obtain rfl : v = false := by rw [← hv]; exact decide_eq_false (fun e => h0 e.1)
    clear hv
    go_enter Try.func19, Try.ntmps19
    go_wp2
    go_ret
    exact ⟨rfl, rfl⟩

/-! ### Take -/
theorem Own.empty2 {α : Type} (w : World) (o : Obj) (e : TypeId) (size : Nat) (enc : α → List Value) : Own ((w.alloc o).alloc (.cells #[] e)) (w.alloc o).heap.size e size enc (.slice (Option.some ⟨w.heap.size + 1, 0, Option.none⟩) 0 0) [] := by
  have h := Own.empty (w.alloc o) (Nat.le_refl _) e size enc
  have e2 : (w.alloc o).heap.size = w.heap.size + 1 := by simp
  rw [e2] at h ⊢
  exact h

theorem rtake_out (rb B : Nat) (a : Option Addr) (cap : Nat) (room sent : Int) (N : List RP) (i : Int) (w : World) (T : RN w B rb a cap room sent N) (hi : ¬ (0 ≤ i ∧ i < N.length)) :
    Calls Try.prog 21 #[.pointer (some ⟨rb, 0, none⟩), .int .i64 i] w fun e w' => e = .returned (.tuple #[.agg #[.int .i64 0, .int .i64 0, .string ⟨#[]⟩, .bool false], .bool false]) ∧ Keep NoB w w' := by
  have HT := Lib.hid T
  have Hi := Lib.hid hi
  clear T hi
  go_enter Try.func21, Try.ntmps21
  go_wp2_with fail
  have k0 : Keep NoB w (w.alloc (.cells #[.int .i64 0, .int .i64 0, .string ⟨#[]⟩, .bool false] 50)) := (Keep.refl NoB w).alloc _
  refine (rhas_any rb B a cap room sent N i _ (HT.out.keep0 k0) false (decide_eq_false Hi.out)).mono ?_
  rintro _ w1 ⟨rfl, rfl⟩
  go_wp2
  exact bodyPost_ret (v := .tuple #[.agg #[.int .i64 0, .int .i64 0, .string ⟨#[]⟩, .bool false], .bool false]) (by simp [results, Try.results21, go_sem]) rfl ⟨rfl, by (repeat (with_reducible first | exact Keep.refl _ _ | assumption | refine Keep.alloc ?_ _ | refine Keep.drewN ?_ _ | refine Keep.drew ?_ | refine Keep.setCell ?_ (by first | (left; simp; done) | (left; simp; omega) | (right; simp [NoB, OneB, TwoB]; done)) _))⟩

set_option maxHeartbeats 4000000 in
theorem rtake_in (rb B : Nat) (a : Option Addr) (cap : Nat) (room sent : Int) (N : List RP) (i : Nat) (x : RP) (w : World) (T : RN w B rb a cap room sent N) (hB : B ≤ w.heap.size) (hN : N.length ≤ 1000000) (hx : N[i]? = some x) (N' : List RP) (hN' : N.take i ++ N.drop (i + 1) = N') :
    Calls Try.prog 21 #[.pointer (some ⟨rb, 0, none⟩), .int .i64 (i : Int)] w (RPost rb B room sent (.tuple #[.agg (pCells x).toArray, .bool true]) N' w) := by
  have hi := (List.getElem?_eq_some_iff.1 hx).1
  have HT0 := Lib.hid T
  have Hx := Lib.hid hx
  obtain ⟨p0, p1, p2, p3⟩ := x
  clear T hx
  go_enter Try.func21, Try.ntmps21
  go_wp2_with fail
  have k0 : Keep NoB w (w.alloc (.cells #[.int .i64 0, .int .i64 0, .string ⟨#[]⟩, .bool false] 50)) := (Keep.refl NoB w).alloc _
  have z0 := blk_new w (.cells #[.int .i64 0, .int .i64 0, .string ⟨#[]⟩, .bool false] 50)
  generalize World.alloc w (.cells #[.int .i64 0, .int .i64 0, .string ⟨#[]⟩, .bool false] 50) = w0 at k0 z0 ⊢
  have hrbw := blk_lt HT0.out.blk
  obtain ⟨zb, hzb⟩ : ∃ t, w.heap.size = t := ⟨_, rfl⟩
  have hzlt := blk_lt z0
  rw [hzb] at z0 hzlt hrbw ⊢
  have T0 := HT0.out.keep0 k0
  have hBz : B ≤ zb := by omega
  have Hzb := Lib.hid hzb
  clear hzb
  refine (rhas_any rb B a cap room sent N i _ T0 true (decide_eq_true ⟨by omega, by omega⟩)).mono ?_
  rintro _ w1 ⟨rfl, rfl⟩
  obtain ⟨g, cg, hvv, hg1, hg2, hcx⟩ := T0.own.cells pCells_len Hx.out
  cases hvv
  have r0 := hcx 0 _ rfl
  have r1 := hcx 1 _ rfl
  have r2 := hcx 2 _ rfl
  have r3 := hcx 3 _ rfl
  simp only [Nat.add_zero] at r0
  simp at r0 r1 r2 r3
  have c0 := blk_cell T0.blk 0
  have hlt := blk_lt T0.blk
  simp at c0
  have HT1 := Lib.hid T0
  have Hk0 := Lib.hid k0
  have Hz0 := Lib.hid z0
  have hwi : IntKind.i64.wrap ((i : Int) + 1) = ((i + 1 : Nat) : Int) := by rw [IntKind.wrap_i64]; omega
  have kP : Keep NoB w1 (w1.alloc (.cells #[.int .i64 p0, .int .i64 p1, .string p2, .bool p3] 50)) := (Keep.refl NoB w1).alloc _
  have bP := blk_new w1 (.cells #[.int .i64 p0, .int .i64 p1, .string p2, .bool p3] 50)
  have hVlt := blk_lt bP
  have TV := HT1.out.keep0 kP
  have zV := blk_keep Hz0.out kP (fun h => h)
  have HkV := Lib.hid (Hk0.out.trans kP)
  have HbP := Lib.hid bP
  have HzV := Lib.hid zV
  have HO := Lib.hid TV.own
  have Hblk := Lib.hid TV.blk
  clear kP bP zV hcx
  have d0 := blk_cell TV.blk 0
  have dl := blk_lt TV.blk
  simp at d0
  clear TV
  obtain ⟨M1, hM1⟩ : ∃ l, N.take i = l := ⟨_, rfl⟩
  obtain ⟨M2, hM2⟩ : ∃ l, N.drop (i + 1) = l := ⟨_, rfl⟩
  have hM1l : M1.length = i := by rw [← hM1, List.length_take]; omega
  have hM2l : M2.length = N.length - (i + 1) := by rw [← hM2, List.length_drop]
  rw [hM1, hM2] at hN'
  have HN' := Lib.hid hN'
  have HM1 := Lib.hid hM1
  have HM2 := Lib.hid hM2
  have HM1l := Lib.hid hM1l
  have HM2l := Lib.hid hM2l
  have Hroom := Lib.hid HO.out.room
  clear hM1 hM2 hM1l hM2l hN' T0
  by_cases hcap : cap = i + 1
  all_goals
    have hsub1 : ∀ c, Prt (w1.alloc (.cells #[.int .i64 p0, .int .i64 p1, .string p2, .bool p3] 50)) pCells (.slice _ i c) M1 := fun c => by rw [← HM1.out]; exact Own.take (i := i) HO.out pCells_len (by omega) c
    have hnc := Hroom.out.2.1
    have hcm := Hroom.out.2.2
    unfold maxLen at hcm
    have Hsub1 := Lib.hid hsub1
    clear hsub1
    go_wp2_with (first
      | (at_builtin
         (refine wpList_append_prt rfl (.tmp 20) (.tmp 26) 45 rfl Try.underlying45 info50' (by kernel_rfl) (by decide) (by decide) rfl (Own.empty2 w1 _ 50 4 pCells) pCells_len pCells_one rfl ((Hsub1.out _).keep ((Keep.refl NoB (w1.alloc (.cells #[.int .i64 p0, .int .i64 p1, .string p2, .bool p3] 50))).alloc _)) (by rw [HM1l.out]; simp; omega) (by simp) (List.nil_append M1) ?_)
         intro a1 q1 w2 O1 k1
         have k11 : Keep NoB (w1.alloc (.cells #[.int .i64 p0, .int .i64 p1, .string p2, .bool p3] 50)) w2 := (Own.empty2 w1 _ 50 4 pCells).knob ((Keep.refl NoB (w1.alloc (.cells #[.int .i64 p0, .int .i64 p1, .string p2, .bool p3] 50))).alloc _) k1
         have s1 := k11.size
         have b1 := blk_keep Hblk.out k11 (fun h => h)
         have e0 := blk_cell b1 0
         have el := blk_lt b1
         simp at e0
         clear k1 b1
         skip)
      | (at_builtin
         (refine wpList_append_prt rfl (.tmp 29) (.tmp 36) 45 rfl Try.underlying45 info50' (by kernel_rfl) (by decide) (by decide) rfl O1 pCells_len pCells_one rfl (by first | exact Prt.nil2 (by have := HM2l.out; exact List.eq_nil_of_length_eq_zero (by omega)) (by omega) | (have h9 := (Own.drop HO.out pCells_len (i + 1) (cap - (i + 1))).keep k11; rw [HM2.out] at h9; exact h9)) (by rw [HM2l.out, HM1l.out]; omega) (by omega) HN'.out ?_)
         intro a3 q3 w3 O3 k3
         have k33 : Keep NoB (w1.alloc (.cells #[.int .i64 p0, .int .i64 p1, .string p2, .bool p3] 50)) w3 := O1.knob k11 k3
         have b3 := blk_keep Hblk.out k33 (fun h => h)
         have yl := blk_lt b3
         have y0 := blk_cell b3 0
         have yf := fun j => blk_free b3 j
         have Hb3 := Lib.hid b3
         have p3b := blk_keep HbP.out k33 (fun h => h)
         have z3b := blk_keep HzV.out k33 (fun h => h)
         have P0 := blk_cell p3b 0
         have P1 := blk_cell p3b 1
         have P2 := blk_cell p3b 2
         have P3 := blk_cell p3b 3
         have Pl := blk_lt p3b
         have Z0 := fun j => blk_free z3b j
         have Q0 := blk_cell z3b 0
         have Q1 := blk_cell z3b 1
         have Q2 := blk_cell z3b 2
         have Q3 := blk_cell z3b 3
         have Zl := blk_lt z3b
         have Hz3 := Lib.hid z3b
         simp at y0 P0 P1 P2 P3 Q0 Q1 Q2 Q3
         clear k3 b3 p3b z3b))
    go_wp2
    have hzw := Hzb.out
    have b5 := blk_setCell (i := 0) Hb3.out (.slice a3 N'.length q3)
    have z5 := blk_other (p := ⟨rb, 0, none⟩) (u := .slice a3 N'.length q3) Hz3.out (by show zb ≠ rb; omega)
    have O5 := O3.keep ((Keep.refl (OneB rb) w3).setCell (p := ⟨rb, 0, none⟩) (Or.inr rfl) (.slice a3 N'.length q3)) (fun g hg e => O3.ne Hb3.out (by decide) g hg e)
    have k5 : Keep (OneB rb) w _ := ((HkV.out.trans k33).none).trans ((Keep.refl (OneB rb) w3).setCell (p := ⟨rb, 0, none⟩) (Or.inr rfl) (.slice a3 N'.length q3))
    simp at b5
    generalize w3.setCell ⟨rb, 0, none⟩ (.slice a3 N'.length q3) = W5 at b5 z5 O5 k5 ⊢
    have z9 := blk_setCell (i := 3) (blk_setCell (i := 2) (blk_setCell (i := 1) (blk_setCell (i := 0) z5 (.int .i64 p0)) (.int .i64 p1)) (.string p2)) (.bool p3)
    have k9 : Keep (OneB zb) W5 _ := ((((Keep.refl (OneB zb) W5).setCell (p := ⟨zb, 0, none⟩) (Or.inr rfl) (.int .i64 p0)).setCell (p := ⟨zb, 1, none⟩) (Or.inr rfl) (.int .i64 p1)).setCell (p := ⟨zb, 2, none⟩) (Or.inr rfl) (.string p2)).setCell (p := ⟨zb, 3, none⟩) (Or.inr rfl) (.bool p3)
    generalize World.setCell _ _ _ = W9 at z9 k9 ⊢
    have e0 := blk_cell z9 0
    have e1 := blk_cell z9 1
    have e2 := blk_cell z9 2
    have e3 := blk_cell z9 3
    simp at e0 e1 e2 e3
    refine bodyPost_ret (v := .tuple #[.agg #[.int .i64 p0, .int .i64 p1, .string p2, .bool p3], .bool true]) (by simp [results, Try.results21, go_sem, e0, e1, e2, e3]) rfl ?_
    exact ⟨rfl, ⟨a3, q3, ⟨blk_keep b5 k9 (fun e => by have e' : rb = zb := e; omega), (O5.keep k9 (fun g hg e => by have := O5.fresh g hg; have e' : g = zb := e; omega)).mono (by have := HkV.out.size; omega)⟩⟩, k5.trans' k9 (fun j hj e => by have e' : j = zb := e; omega)⟩
end Go.Proofs.Ytbaojfjabhgohaa
