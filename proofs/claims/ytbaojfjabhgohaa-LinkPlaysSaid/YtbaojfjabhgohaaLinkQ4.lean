/- The reference's Turn. -/
import Derived.Test.YtbaojfjabhgohaaLinkP
import Derived.Lib.ConvBytes
namespace Go.Proofs.Ytbaojfjabhgohaa
open Go Go.RowKit Go.Maps

theorem rturn_out (rb B : Nat) (a : Option Addr) (cap : Nat) (room sent : Int) (N : List RP) (i at_ by_ : Int) (w : World) (T : RN w B rb a cap room sent N) (hi : ¬ (0 ≤ i ∧ i < N.length)) :
    Calls Try.prog 24 #[.pointer (some ⟨rb, 0, none⟩), .int .i64 i, .int .i64 at_, .int .u8 by_] w fun e w' => e = .returned (.bool false) ∧ w' = w := by
  have HT := Lib.hid T
  have Hi := Lib.hid hi
  clear T hi
  go_enter Try.func24, Try.ntmps24
  go_wp2_with fail
  refine (rhas_any rb B a cap room sent N i _ HT.out false (decide_eq_false Hi.out)).mono ?_
  rintro _ w1 ⟨rfl, rfl⟩
  go_wp2
  go_ret
  exact ⟨rfl, rfl⟩

theorem rturn_no (rb B : Nat) (a : Option Addr) (cap : Nat) (room sent : Int) (N : List RP) (i : Nat) (x : RP) (at_ by_ : Int) (w : World) (T : RN w B rb a cap room sent N) (hx : N[i]? = some x) (hN : N.length ≤ 1000000) (h : at_ < 0 ∨ (x.x.size : Int) ≤ at_ ∨ x.tn = true) :
    Calls Try.prog 24 #[.pointer (some ⟨rb, 0, none⟩), .int .i64 (i : Int), .int .i64 at_, .int .u8 by_] w fun e w' => e = .returned (.bool false) ∧ w' = w := by
  have hi := (List.getElem?_eq_some_iff.1 hx).1
  have HT := Lib.hid T
  obtain ⟨g, cg, hvv, hg1, hg2, hcx⟩ := T.own.cells pCells_len hx
  cases hvv
  have r0 := hcx 0 _ rfl
  have r1 := hcx 1 _ rfl
  have r2 := hcx 2 _ rfl
  have r3 := hcx 3 _ rfl
  simp only [Nat.add_zero] at r0
  obtain ⟨p0, p1, p2, p3⟩ := x
  simp at r0 r1 r2 r3
  have c0 := blk_cell T.blk 0
  have hlt := blk_lt T.blk
  simp at c0
  clear hcx T hx
  simp only at h
  by_cases h0 : at_ < 0
  · have d0 : decide (at_ < 0) = true := decide_eq_true h0
    clear h
    go_enter Try.func24, Try.ntmps24
    go_wp2_with fail
    refine (rhas_any rb B _ cap room sent N i _ HT.out true (decide_eq_true ⟨by omega, by omega⟩)).mono ?_
    rintro _ w1 ⟨rfl, rfl⟩
    go_wp2
    go_ret
    exact ⟨rfl, rfl⟩
  · have d0 : decide (at_ < 0) = false := decide_eq_false h0
    by_cases h1 : (p2.size : Int) ≤ at_
    · have d1 : decide ((p2.size : Int) ≤ at_) = true := decide_eq_true h1
      clear h
      go_enter Try.func24, Try.ntmps24
      go_wp2_with fail
      refine (rhas_any rb B _ cap room sent N i _ HT.out true (decide_eq_true ⟨by omega, by omega⟩)).mono ?_
      rintro _ w1 ⟨rfl, rfl⟩
      go_wp2
      go_ret
      exact ⟨rfl, rfl⟩
    · have d1 : decide ((p2.size : Int) ≤ at_) = false := decide_eq_false h1
      obtain rfl : p3 = true := by
        rcases h with h | h | h
        · exact absurd h h0
        · exact absurd h h1
        · exact h
      clear h
      go_enter Try.func24, Try.ntmps24
      go_wp2_with fail
      refine (rhas_any rb B _ cap room sent N i _ HT.out true (decide_eq_true ⟨by omega, by omega⟩)).mono ?_
      rintro _ w1 ⟨rfl, rfl⟩
      go_wp2
      go_ret
      exact ⟨rfl, rfl⟩

/-- The world behind '[]byte(s)'. -/
structure BW (w W : World) (g cap : Nat) (l : List UInt8) : Prop where
  k : Keep NoB w W
  geq : w.heap.size = g
  sz : W.heap.size = g + 1
  le : l.length ≤ cap
  cell : ∀ j b, l[j]? = some b → W.cell? ⟨g, j, none⟩ = some (.int .u8 b.toNat)
  free : ∀ j, j < l.length → W.frozen? ⟨g, j, none⟩ = false
  typ : ∃ c f, W.heap[g]? = some (.cells c 5 f)
theorem bw_of (w : World) (l : List UInt8) : ∃ cap, (convert 9 27 (.string ⟨l.toArray⟩)).run Try.prog w = .ok (.slice (some ⟨w.heap.size, 0, none⟩) l.length cap) (Lib.bytesWorld w 5 ⟨l.toArray⟩) ∧ BW w (Lib.bytesWorld w 5 ⟨l.toArray⟩) w.heap.size cap l := by
  have hsz : (ByteArray.mk l.toArray).size = l.length := by show l.toArray.size = _; simp
  have hrun := Lib.run_convert_string_bytes (P := Try.prog) w 9 27 5 ⟨l.toArray⟩ Try.underlying9 Try.underlying27 Try.underlying5
  rw [hsz] at hrun
  refine ⟨_, hrun, ⟨⟨rfl, rfl, rfl, by rw [Lib.bytesWorld_size]; omega, fun j hj _ => Lib.bytesWorld_at_old w 5 _ j hj⟩, rfl, Lib.bytesWorld_size w 5 _, grownCap_ge _ _ _ _, fun j b hb => ?_, fun j hj => ?_, ⟨_, _, Lib.bytesWorld_at_new w 5 _⟩⟩⟩
  · have hj := (List.getElem?_eq_some_iff.1 hb).1
    rw [Lib.bytesWorld_cell w 5 _ j (by rw [hsz]; exact hj)]
    simp [List.getD, hb]
  · have h : l.length ≤ (Lib.bytesCells w 5 ⟨l.toArray⟩).size := by simp [Lib.bytesCells]
    simp [World.frozen?, Lib.bytesWorld_at_new]
    omega

theorem Own.setAt {α : Type} {w : World} {B : Nat} {e : TypeId} {size : Nat} {enc : α → List Value} {g cap : Nat} {N : List α} (h : Own w B e size enc (.slice (Option.some ⟨g, 0, Option.none⟩) N.length cap) N) (henc : ∀ x, (enc x).length = size) {i : Nat} {x y : α} (hx : N[i]? = Option.some x) (j : Nat) (u : Value) (hj : j < size) (hy : enc y = (enc x).set j u) :
    Own (w.setCell ⟨g, i * size + j, Option.none⟩ u) B e size enc (.slice (Option.some ⟨g, 0, Option.none⟩) (N.set i y).length cap) (N.set i y) := by
  have O3 := (World.ownsRow.stored h (i * size + j) u).1
  rw [← flat_setAt henc x y j u hj hy N i hx] at O3
  unfold Own
  rw [List.length_set]
  exact O3

set_option maxHeartbeats 4000000 in
theorem rturn_yes (rb B : Nat) (a : Option Addr) (cap : Nat) (room sent : Int) (N : List RP) (i at_ : Nat) (p0 p1 : Int) (l : List UInt8) (by_ b : UInt8) (w : World) (T : RN w B rb a cap room sent N) (hB : B ≤ w.heap.size) (hx : N[i]? = some ⟨p0, p1, ⟨l.toArray⟩, false⟩) (hN : N.length ≤ 1000000) (hl : l.length ≤ 1000000) (hb : l[at_]? = some b) :
    Calls Try.prog 24 #[.pointer (some ⟨rb, 0, none⟩), .int .i64 (i : Int), .int .i64 (at_ : Int), .int .u8 by_.toNat] w (fun e w' => e = .returned (.bool true) ∧ RN w' B rb a cap room sent (N.set i ⟨p0, p1, ⟨(l.set at_ (b ^^^ by_)).toArray⟩, true⟩) ∧ Keep (fun k => (Value.slice a N.length cap).ownBlock = some k) w w') := by
  have hi := (List.getElem?_eq_some_iff.1 hx).1
  have ha := (List.getElem?_eq_some_iff.1 hb).1
  have HT := Lib.hid T
  obtain ⟨g, cg, hvv, hg1, hg2, hcx⟩ := T.own.cells pCells_len hx
  cases hvv
  have r0 := hcx 0 _ rfl
  have r1 := hcx 1 _ rfl
  have r2 := hcx 2 _ rfl
  have r3 := hcx 3 _ rfl
  simp only [Nat.add_zero] at r0
  simp at r0 r1 r2 r3
  have c0 := blk_cell T.blk 0
  have hlt := blk_lt T.blk
  have hgr := T.ne g rfl
  have hof := fun j => T.own.free (g := g) (j := j) rfl
  simp at c0
  have d0 : decide ((at_ : Int) < 0) = false := decide_eq_false (by omega)
  have hsz : (ByteArray.mk l.toArray).size = l.length := by show l.toArray.size = _; simp
  have d1 : decide (l.length ≤ at_) = false := decide_eq_false (by omega)
  have HX := Lib.hid hx
  have HB := Lib.hid hb
  have hxor := xor8 b by_
  have hroom := T.own.room.2
  unfold maxLen at hroom
  obtain ⟨hroom1, hroom2⟩ := hroom
  clear hcx T hx hb
  go_enter Try.func24, Try.ntmps24
  go_wp2_with fail
  refine (rhas_any rb B _ cap room sent N i _ HT.out true (decide_eq_true ⟨by omega, by omega⟩)).mono ?_
  rintro _ w1 ⟨rfl, rfl⟩
  obtain ⟨bc, hrun, hW⟩ := bw_of w1 l
  obtain ⟨W, hWe⟩ : ∃ W, Lib.bytesWorld w1 5 ⟨l.toArray⟩ = W := ⟨_, rfl⟩
  rw [hWe] at hW hrun
  obtain ⟨gb, hgb⟩ : ∃ t, w1.heap.size = t := ⟨_, rfl⟩
  rw [hgb] at hrun hW
  have kW := Lib.hid hW.k
  have HW := Lib.hid hW
  have b0 := hW.cell at_ b HB.out
  have b1 := hW.free at_ ha
  have b2 := hW.le
  have b3 := hW.sz
  have s0 := hW.k.some r0 (fun h => h)
  have s1 := hW.k.some r1 (fun h => h)
  have s2 := hW.k.some r2 (fun h => h)
  have s3 := hW.k.some r3 (fun h => h)
  have sc := hW.k.some c0 (fun h => h)
  have hggb : g < gb := by omega
  have hrgb : rb < gb := by omega
  clear hW hWe hgb
  go_wp2_with fail
  rw [← UInt8.toNat_xor]
  obtain ⟨l', hl'⟩ : ∃ q, l.set at_ (b ^^^ by_) = q := ⟨_, rfl⟩
  have hl'l : l'.length = l.length := by rw [← hl']; simp
  have hrd : Rd (W.setCell ⟨gb, at_, none⟩ (.int .u8 (b ^^^ by_).toNat)) (.slice (some ⟨gb, 0, none⟩) l.length bc) l' := by
    refine ⟨some ⟨gb, 0, none⟩, bc, by rw [hl'l], by omega, fun j c hj => ⟨_, rfl, ?_⟩⟩
    rw [show (⟨gb, 0, none⟩ : Addr).add j = ⟨gb, j, none⟩ by unfold Addr.add; split <;> simp_all]
    obtain ⟨cc, ff, ht⟩ := HW.out.typ
    rw [blk_cell (blk_setCell (i := at_) ht _)]
    by_cases hja : j = at_
    · subst hja
      rw [← hl', List.getElem?_set_self ha] at hj
      cases hj
      have hcs : j < cc.size := by
        rw [blk_cell ht] at b0
        exact (Array.getElem?_eq_some_iff.1 b0).1
      simp [hcs]
    · rw [← hl', List.getElem?_set_ne (Ne.symm hja)] at hj
      have := HW.out.cell j c hj
      rw [blk_cell ht] at this
      rw [Array.getElem?_setIfInBounds_ne (Ne.symm hja)]
      exact this
  have k2 : Keep (OneB gb) W (W.setCell ⟨gb, at_, none⟩ (.int .u8 (b ^^^ by_).toNat)) := (Keep.refl (OneB gb) W).setCell (p := ⟨gb, at_, none⟩) (Or.inr rfl) _
  have K2 := Lib.hid (kW.out.trans' k2 (fun j hj e => by have e' : j = gb := e; have := HW.out.geq; omega))
  generalize W.setCell ⟨gb, at_, none⟩ (.int .u8 (b ^^^ by_).toNat) = W2 at hrd k2 K2 ⊢
  have sc2 := K2.out.some c0 (fun h => h)
  have HL' := Lib.hid hl'
  clear hl' b0 b1 b3 s0 s1 s2 s3 sc k2 hxor
  refine wp_region_pl (fun u => u.cell? ⟨rb, 0, none⟩ = some (.slice (some ⟨g, 0, none⟩) N.length cap) ∧ Rd u (.slice (some ⟨gb, 0, none⟩) l.length bc) l') [9] (.rd 0 (.rd 1 (.rd 2 (.rd 3 (.rd 4 (.rd 5 (.rd 6 (.one 7 (.one 8 (.one 9 .done)))))))))) (by kernel_rfl) (by kernel_rfl) (by kernel_rfl) (by kernel_rfl) (by intro c b d v u h; cases d <;> exact h) ?_
  have kd0 : Keep NoB W2 W2.drew := (Keep.refl NoB W2).drew
  have HS0 := Lib.hid (show W2.drew.cell? ⟨rb, 0, none⟩ = some (.slice (some ⟨g, 0, none⟩) N.length cap) ∧ Rd W2.drew (.slice (some ⟨gb, 0, none⟩) l.length bc) l' from ⟨kd0.some sc2 (fun h => h), hrd.keep kd0 (fun _ _ _ _ h => h)⟩)
  have K3 := Lib.hid (K2.out.trans kd0)
  clear kd0 sc2 hrd K2
  generalize W2.drew = W3 at HS0 K3 ⊢
  first
    | refine pl_get (i := 0) rfl rfl HS0.out rfl (fun u hu => by (try dsimp only at hu); go_simp; rfl) (by simp only [List.setIfInBounds_toArray, List.set_cons_succ, List.set_cons_zero]; rfl) ?_
    | refine pl_skip (i := 0) rfl rfl HS0.out rfl (by simp only [List.setIfInBounds_toArray, List.set_cons_succ, List.set_cons_zero]; rfl) ?_
  first
    | refine pl_get (i := 1) rfl rfl HS0.out rfl (fun u hu => by (try dsimp only at hu); go_simp; rfl) (by simp only [List.setIfInBounds_toArray, List.set_cons_succ, List.set_cons_zero]; rfl) ?_
    | refine pl_skip (i := 1) rfl rfl HS0.out rfl (by simp only [List.setIfInBounds_toArray, List.set_cons_succ, List.set_cons_zero]; rfl) ?_
  first
    | refine pl_get (i := 2) rfl rfl HS0.out rfl (fun u hu => by (try dsimp only at hu); go_simp; rfl) (by simp only [List.setIfInBounds_toArray, List.set_cons_succ, List.set_cons_zero]; rfl) ?_
    | refine pl_skip (i := 2) rfl rfl HS0.out rfl (by simp only [List.setIfInBounds_toArray, List.set_cons_succ, List.set_cons_zero]; rfl) ?_
  first
    | refine pl_get (i := 3) rfl rfl HS0.out rfl (fun u hu => by (try dsimp only at hu); go_simp; rfl) (by simp only [List.setIfInBounds_toArray, List.set_cons_succ, List.set_cons_zero]; rfl) ?_
    | refine pl_skip (i := 3) rfl rfl HS0.out rfl (by simp only [List.setIfInBounds_toArray, List.set_cons_succ, List.set_cons_zero]; rfl) ?_
  first
    | refine pl_get (i := 4) rfl rfl HS0.out rfl (fun u hu => by (try dsimp only at hu); go_simp; rfl) (by simp only [List.setIfInBounds_toArray, List.set_cons_succ, List.set_cons_zero]; rfl) ?_
    | refine pl_skip (i := 4) rfl rfl HS0.out rfl (by simp only [List.setIfInBounds_toArray, List.set_cons_succ, List.set_cons_zero]; rfl) ?_
  first
    | refine pl_get (i := 5) rfl rfl HS0.out rfl (fun u hu => by (try dsimp only at hu); go_simp; rfl) (by simp only [List.setIfInBounds_toArray, List.set_cons_succ, List.set_cons_zero]; rfl) ?_
    | refine pl_skip (i := 5) rfl rfl HS0.out rfl (by simp only [List.setIfInBounds_toArray, List.set_cons_succ, List.set_cons_zero]; rfl) ?_
  refine pl_get (i := 6) rfl rfl HS0.out rfl (v := .string ⟨l'.toArray⟩) (fun u hu => by
    have hc := hu.2.str
    show (execOp _ _).run Try.prog u = _
    simp [execOp, Act.eval]
    simp [hc, Result.andThen]) (by simp only [List.setIfInBounds_toArray, List.set_cons_succ, List.set_cons_zero]; rfl) ?_
  have T3 := HT.out.keep0 K3.out
  have t0 := blk_cell T3.blk 0
  have tl := blk_lt T3.blk
  have tf := fun j => T3.own.free (g := g) (j := j) rfl
  obtain ⟨g3, cg3, hvv, hg3, hg4, hcx⟩ := T3.own.cells pCells_len HX.out
  cases hvv
  have q2 := hcx 2 _ rfl
  have q3 := hcx 3 _ rfl
  simp at t0 q2 q3
  have HT3 := Lib.hid T3
  clear hcx T3
  refine pl_one (i := 7) rfl ?_
  go_wp2_with (fail)
  refine pl_next (fun _ => HS0.out) ?_
  refine pl_one (i := 8) rfl ?_
  go_wp2_with (fail)
  refine pl_next (fun _ => HS0.out) ?_
  refine pl_one (i := 9) rfl ?_
  go_wp2_with (fail)
  refine pl_next (fun h => by cases h) ?_
  refine pl_done ?_
  go_wp2
  go_ret
  have O1 := HT3.out.own.setAt pCells_len HX.out (y := ⟨p0, p1, ⟨l'.toArray⟩, false⟩) 2 (.string ⟨l'.toArray⟩) (by decide) rfl
  have O2 := O1.setAt pCells_len (x := ⟨p0, p1, ⟨l'.toArray⟩, false⟩) (List.getElem?_set_self hi) (y := ⟨p0, p1, ⟨l'.toArray⟩, true⟩) 3 (.bool true) (by decide) rfl
  rw [List.set_set] at O2
  have kk : Keep (OneB g) W3 ((W3.setCell ⟨g, i * 4 + 2, none⟩ (.string ⟨l'.toArray⟩)).setCell ⟨g, i * 4 + 3, none⟩ (.bool true)) := ((Keep.refl (OneB g) W3).setCell (p := ⟨g, i * 4 + 2, none⟩) (Or.inr rfl) _).setCell (p := ⟨g, i * 4 + 3, none⟩) (Or.inr rfl) _
  rw [HL'.out]
  refine ⟨rfl, ⟨?_, O2⟩, ?_⟩
  · rw [List.length_set]
    exact blk_keep HT3.out.blk kk (fun e => hgr (Eq.symm e))
  · exact (K3.out.none).trans (kk.mono (fun j e => by have e' : j = g := e; rw [e']; rfl))
end Go.Proofs.Ytbaojfjabhgohaa
