/- sync.Once of a ring: doSlow, Do. -/
import Derived.Test.YtopgepifakdpfaaDoorRingT
import Derived.Test.YtopgepifakdpfaaDoorRingO1
namespace Go.Proofs.YtopgepifakdpfaaDoor
open Go Go.RowKit Go.Maps
set_option maxRecDepth 100000

/-- What the first Do leaves. -/
def Done (w : World) (B rb : Nat) (na : Option Addr) (nc : Nat) (sm : Int) (L : List BA) (w' : World) : Prop :=
  ∃ (pa : Option Addr) (pc : Nat) (S : List PT), w'.heap[rb]? = some (.cells #[.slice na L.length nc, .int .u32 1, .int .i32 0, .int .u32 sm, .slice pa S.length pc] 54) ∧ Own w' B 61 2 pCells (.slice pa S.length pc) S ∧ S.Perm (pts pt L) ∧ S.Pairwise (fun x y => ltP y x = false) ∧ Keep (OneB rb) w w'
set_option maxHeartbeats 4000000 in
theorem slow_any (w : World) (B rb : Nat) (na : Option Addr) (nc : Nat) (sm : Int) (L : List BA) (hB : B ≤ w.heap.size) (hb : w.heap[rb]? = some (.cells #[.slice na L.length nc, .int .u32 0, .int .i32 0, .int .u32 sm, .slice none 0 0] 54)) (O : Own w B 9 1 cS (.slice na L.length nc) L) (hL : L.length ≤ 8) (hsz : ∀ x ∈ L, x.size ≤ 140737488355328) :
    Calls Tryd.prog 32 #[.pointer (some ⟨rb, 1, none⟩), .func (.func 22) #[.pointer (some ⟨rb, 0, none⟩)] #[]] w fun e w' => e = .returned (.tuple #[]) ∧ Done w B rb na nc sm L w' := by
  have Hb := Lib.hid hb
  have HO := Lib.hid O
  have Hsz := Lib.hid hsz
  have c2 := blk_cell hb 2
  have f2 := blk_free hb 2
  simp at c2
  have hnot : ∀ (x : Bool) (w : World), (Op.unary .not (.bool x)).run Tryd.prog w = .ok (.bool (!x)) w := fun _ _ => rfl
  have k1 := (Keep.refl (OneB rb) w).setCell (p := ⟨rb, 2, none⟩) (Or.inr rfl) (.int .i32 1)
  have b1 := blk_setCell (i := 2) hb (.int .i32 1)
  simp at b1
  have O1 := O.keep k1 (fun g hg => O.ne hb (by decide) g hg)
  have Hk1 := Lib.hid k1
  have Hb1 := Lib.hid b1
  have HO1 := Lib.hid O1
  clear hb O hsz k1 b1 O1
  go_enter_defers Tryd.func32, Tryd.ntmps32
  go_wp2_with fail
  refine (lock_free ⟨rb, 2, none⟩ _ c2 f2).mono ?_
  rintro e w1 ⟨rfl, rfl⟩
  generalize w.setCell ⟨rb, 2, none⟩ (.int .i32 1) = w1 at Hk1 Hb1 HO1 ⊢
  have d1 := blk_cell Hb1.out 1
  simp at d1
  go_wp2_with fail
  refine (load_any ⟨rb, 1, none⟩ 0 _ d1 false rfl).mono ?_
  rintro e w2 ⟨rfl, rfl⟩
  go_wp2_with fail
  refine (work_any w1 B rb na nc 0 1 sm L (Nat.le_trans hB Hk1.out.size) Hb1.out HO1.out hL Hsz.out).mono ?_
  rintro e w3 ⟨rfl, pa, pc, S, b3, O3, p3, s3, k3⟩
  have e1 := blk_cell b3 1
  have e1f := blk_free b3 1
  simp at e1
  go_wp2_with fail
  refine leaves_cons (f := 53) (args := #[.pointer (some ⟨rb, 1, none⟩), .bool true]) (by simp) (by simp [go_sem]) ?_
  refine (store_deferred ⟨rb, 1, none⟩ (.int .u32 0) .returning _ e1 e1f).mono ?_
  rintro e u' w'' ⟨rfl, rfl, rfl⟩
  have kd : Keep NoB w3 w3.drew := (Keep.refl NoB w3).drew
  have b4 := blk_setCell (i := 1) (blk_keep b3 kd (fun h => h)) (.int .u32 1)
  have k4 := (Keep.refl (OneB rb) w3.drew).setCell (p := ⟨rb, 1, none⟩) (Or.inr rfl) (.int .u32 1)
  simp at b4
  have O4 := (O3.keep kd (fun _ _ h => h)).keep k4 (fun g hg => O3.ne b3 (by decide) g hg)
  have g2 := blk_cell b4 2
  have g2f := blk_free b4 2
  simp at g2
  refine leaves_cons (f := 52) (args := #[.pointer (some ⟨rb, 2, none⟩)]) (by simp [settle]) (by simp [go_sem]) ?_
  refine (unlock_deferred ⟨rb, 2, none⟩ _ _ g2 g2f).mono ?_
  rintro e u' w'' ⟨rfl, rfl, rfl⟩
  have b5 := blk_setCell (i := 2) b4 (.int .i32 0)
  have k5 := (Keep.refl (OneB rb) (w3.drew.setCell ⟨rb, 1, none⟩ (.int .u32 1))).setCell (p := ⟨rb, 2, none⟩) (Or.inr rfl) (.int .i32 0)
  simp at b5
  have O5 := O4.keep k5 (fun g hg => O4.ne b4 (by decide) g hg)
  have hD : Done w B rb na nc sm L ((w3.drew.setCell ⟨rb, 1, none⟩ (.int .u32 1)).setCell ⟨rb, 2, none⟩ (.int .i32 0)) := ⟨pa, pc, S, b5, O5, p3, s3, (((Hk1.out.trans k3).trans kd.none).trans k4).trans k5⟩
  simp [Leaves, settle, results, Tryd.results32]
  exact hD

/-- Do, not yet done. -/
theorem do_first (w : World) (B rb : Nat) (na : Option Addr) (nc : Nat) (sm : Int) (L : List BA) (hB : B ≤ w.heap.size) (hb : w.heap[rb]? = some (.cells #[.slice na L.length nc, .int .u32 0, .int .i32 0, .int .u32 sm, .slice none 0 0] 54)) (O : Own w B 9 1 cS (.slice na L.length nc) L) (hL : L.length ≤ 8) (hsz : ∀ x ∈ L, x.size ≤ 140737488355328) :
    Calls Tryd.prog 21 #[.pointer (some ⟨rb, 1, none⟩), .func (.func 22) #[.pointer (some ⟨rb, 0, none⟩)] #[]] w fun e w' => e = .returned (.tuple #[]) ∧ Done w B rb na nc sm L w' := by
  have Hb := Lib.hid hb
  have HO := Lib.hid O
  have Hsz := Lib.hid hsz
  have d1 := blk_cell hb 1
  simp at d1
  have hnot : ∀ (x : Bool) (w : World), (Op.unary .not (.bool x)).run Tryd.prog w = .ok (.bool (!x)) w := fun _ _ => rfl
  clear hb O hsz
  go_enter Tryd.func21, Tryd.ntmps21
  go_wp2_with fail
  refine (load_any ⟨rb, 1, none⟩ 0 _ d1 false rfl).mono ?_
  rintro e w2 ⟨rfl, rfl⟩
  go_wp2_with fail
  refine (slow_any w B rb na nc sm L hB Hb.out HO.out hL Hsz.out).mono ?_
  rintro e w3 ⟨rfl, hD⟩
  have HD := Lib.hid hD
  clear hD d1
  go_wp2_with fail
  go_end0
  exact ⟨rfl, HD.out⟩
/-- Do, done. -/
theorem do_done (w : World) (rb : Nat) (na : Option Addr) (nc n : Nat) (sm : Int) (pa : Option Addr) (m pc : Nat) (fv : Value) (hb : w.heap[rb]? = some (.cells #[.slice na n nc, .int .u32 1, .int .i32 0, .int .u32 sm, .slice pa m pc] 54)) :
    Calls Tryd.prog 21 #[.pointer (some ⟨rb, 1, none⟩), fv] w fun e w' => e = .returned (.tuple #[]) ∧ w = w' := by
  have d1 := blk_cell hb 1
  simp at d1
  have hnot : ∀ (x : Bool) (w : World), (Op.unary .not (.bool x)).run Tryd.prog w = .ok (.bool (!x)) w := fun _ _ => rfl
  clear hb
  go_enter Tryd.func21, Tryd.ntmps21
  go_wp2_with fail
  refine (load_any ⟨rb, 1, none⟩ 1 _ d1 true rfl).mono ?_
  rintro e w2 ⟨rfl, rfl⟩
  go_wp2_with fail
  go_end0
  exact ⟨rfl, rfl⟩

/-- Do of a ring, whatever: its points are made behind it. -/
def RgD (w : World) (B M rb : Nat) (L : List BA) (S : List PT) : Prop := B ≤ rb ∧ ∃ (na : Option Addr) (nc : Nat) (sm : Int) (pa : Option Addr) (pc : Nat),
  w.heap[rb]? = some (.cells #[.slice na L.length nc, .int .u32 1, .int .i32 0, .int .u32 sm, .slice pa S.length pc] 54 (0, 0)) ∧ Own w B 9 1 cS (.slice na L.length nc) L ∧ Own w B 61 2 pCells (.slice pa S.length pc) S ∧ S.Perm (pts pt L) ∧ S.Pairwise (fun x y => ltP y x = false) ∧ (∀ g, (Value.slice na L.length nc).ownBlock = some g → g < M)
theorem RgD.rg {w : World} {B M rb : Nat} {L : List BA} {S : List PT} (h : RgD w B M rb L S) : Rg w B rb L := by
  obtain ⟨h0, na, nc, sm, pa, pc, h1, h2, h3, h4, h5, _⟩ := h
  exact ⟨h0, na, nc, 1, sm, pa, pc, S, h1, h2, h3, Or.inr ⟨rfl, h4, h5⟩⟩
theorem do_any (w : World) (B rb : Nat) (L : List BA) (hB : B ≤ w.heap.size) (h : Rg w B rb L) (hL : L.length ≤ 8) (hsz : ∀ x ∈ L, x.size ≤ 140737488355328) :
    Calls Tryd.prog 21 #[.pointer (some ⟨rb, 1, none⟩), .func (.func 22) #[.pointer (some ⟨rb, 0, none⟩)] #[]] w fun e w' => e = .returned (.tuple #[]) ∧ ∃ S, RgD w' B w.heap.size rb L S ∧ Keep (OneB rb) w w' := by
  obtain ⟨h0, na, nc, dn, sm, pa, pc, P, h1, h2, h3, h4 | h4⟩ := h
  · obtain ⟨rfl, rfl, rfl, rfl⟩ := h4
    refine (do_first w B rb na nc sm L hB h1 h2 hL hsz).mono ?_
    rintro _ w' ⟨rfl, pa, pc, S, b1, O1, p1, s1, k1⟩
    exact ⟨rfl, S, ⟨h0, na, nc, sm, pa, pc, b1, h2.keep k1 (fun g hg => h2.ne h1 (by decide) g hg), O1, p1, s1, h2.lt⟩, k1⟩
  · obtain ⟨rfl, h5, h6⟩ := h4
    refine (do_done w rb na nc L.length sm pa P.length pc _ h1).mono ?_
    rintro _ _ ⟨rfl, rfl⟩
    exact ⟨rfl, P, ⟨h0, na, nc, sm, pa, pc, h1, h2, h3, h5, h6, h2.lt⟩, Keep.refl _ _⟩
end Go.Proofs.YtopgepifakdpfaaDoor
