/- A net that is none; the law's comparison of two packets; both nets side by side. -/
import Derived.Test.YtbaojfjabhgohaaLinkU2
import Derived.Test.YtbaojfjabhgohaaLinkS
import Derived.Test.YtbaojfjabhgohaaLinkQ
import Derived.Test.YtbaojfjabhgohaaLinkQ2
import Derived.Test.YtbaojfjabhgohaaLinkQ3
import Derived.Test.YtbaojfjabhgohaaLinkQ4
namespace Go.Proofs.Ytbaojfjabhgohaa
open Go Go.RowKit Go.Maps

/-! ### no net -/
theorem nlen_any (w : World) : Calls Try.prog 12 #[.pointer none] w fun e w' => e = .returned (.int .i64 0) ∧ w' = w := by
  go_enter Try.func12, Try.ntmps12
  go_wp2
  go_ret
  exact ⟨rfl, rfl⟩
theorem nsent_any (w : World) : Calls Try.prog 17 #[.pointer none] w fun e w' => e = .returned (.int .i64 0) ∧ w' = w := by
  go_enter Try.func17, Try.ntmps17
  go_wp2
  go_ret
  exact ⟨rfl, rfl⟩
theorem nsend_any (f t : Int) (v : Value) (w : World) : Calls Try.prog 9 #[.pointer none, .int .i64 f, .int .i64 t, v] w fun e w' => e = .returned (.bool false) ∧ Keep NoB w w' := by
  go_enter Try.func9, Try.ntmps9
  go_wp2_with fail
  go_quiet (fail)
  go_wp2
  go_ret
  refine ⟨rfl, ?_⟩
  (repeat (with_reducible first | exact Keep.refl _ _ | assumption | refine Keep.alloc ?_ _ | refine Keep.drewN ?_ _ | refine Keep.drew ?_ | refine Keep.setCell ?_ (by first | (left; simp; done) | (left; simp; omega) | (right; simp [NoB, OneB, TwoB]; done)) _))
theorem ndrop_any (i : Int) (w : World) : Calls Try.prog 10 #[.pointer none, .int .i64 i] w fun e w' => e = .returned (.int .i64 0) ∧ Keep NoB w w' := by
  go_enter Try.func10, Try.ntmps10
  go_wp2
  go_ret
  refine ⟨rfl, ?_⟩
  (repeat (with_reducible first | exact Keep.refl _ _ | assumption | refine Keep.alloc ?_ _ | refine Keep.drewN ?_ _ | refine Keep.drew ?_ | refine Keep.setCell ?_ (by first | (left; simp; done) | (left; simp; omega) | (right; simp [NoB, OneB, TwoB]; done)) _))
theorem nlook_any (i : Int) (w : World) : Calls Try.prog 16 #[.pointer none, .int .i64 i] w fun e w' => e = .returned (.tuple #[.agg #[.int .i64 0, .int .i64 0, .slice none 0 0], .bool false]) ∧ Keep NoB w w' := by
  by_cases hi : i < 0
  · go_enter Try.func16, Try.ntmps16
    go_wp2
    exact bodyPost_ret (v := .tuple #[.agg #[.int .i64 0, .int .i64 0, .slice none 0 0], .bool false]) (by simp [results, Try.results16, go_sem]) rfl ⟨rfl, by (repeat (with_reducible first | exact Keep.refl _ _ | assumption | refine Keep.alloc ?_ _ | refine Keep.drewN ?_ _ | refine Keep.drew ?_ | refine Keep.setCell ?_ (by first | (left; simp; done) | (left; simp; omega) | (right; simp [NoB, OneB, TwoB]; done)) _))⟩
  · have hd : decide (0 ≤ i) = true := decide_eq_true (by omega)
    go_enter Try.func16, Try.ntmps16
    go_wp2_with fail
    refine (nlen_any _).mono ?_
    rintro _ _ ⟨rfl, rfl⟩
    go_wp2
    exact bodyPost_ret (v := .tuple #[.agg #[.int .i64 0, .int .i64 0, .slice none 0 0], .bool false]) (by simp [results, Try.results16, go_sem]) rfl ⟨rfl, by (repeat (with_reducible first | exact Keep.refl _ _ | assumption | refine Keep.alloc ?_ _ | refine Keep.drewN ?_ _ | refine Keep.drew ?_ | refine Keep.setCell ?_ (by first | (left; simp; done) | (left; simp; omega) | (right; simp [NoB, OneB, TwoB]; done)) _))⟩
theorem ndouble_any (i : Int) (w : World) : Calls Try.prog 15 #[.pointer none, .int .i64 i] w fun e w' => e = .returned (.bool false) ∧ Keep NoB w w' := by
  go_enter Try.func15, Try.ntmps15
  go_wp2_with fail
  refine (nlook_any i _).mono ?_
  rintro _ w1 ⟨rfl, k1⟩
  go_wp2_with fail
  have kA : Keep NoB w (w1.alloc (.cells #[.int .i64 0, .int .i64 0, .slice none 0 0] 32)) := k1.alloc _
  generalize World.alloc w1 (.cells #[.int .i64 0, .int .i64 0, .slice none 0 0] 32) = w2 at kA ⊢
  try go_quiet (fail)
  go_wp2
  go_ret
  refine ⟨rfl, ?_⟩
  (repeat (with_reducible first | exact Keep.refl _ _ | assumption | refine Keep.alloc ?_ _ | refine Keep.drewN ?_ _ | refine Keep.drew ?_ | refine Keep.setCell ?_ (by first | (left; simp; done) | (left; simp; omega) | (right; simp [NoB, OneB, TwoB]; done)) _))
theorem nturn_any (i j : Int) (c : Int) (w : World) : Calls Try.prog 23 #[.pointer none, .int .i64 i, .int .i64 j, .int .u8 c] w fun e w' => e = .returned (.bool false) ∧ w' = w := by
  by_cases hi : i < 0
  · have hd : decide (i < 0) = true := decide_eq_true hi
    go_enter Try.func23, Try.ntmps23
    go_wp2
    go_ret
    exact ⟨rfl, rfl⟩
  · have hd0 : decide (i < 0) = false := decide_eq_false hi
    have hd : decide (0 ≤ i) = true := decide_eq_true (by omega)
    go_enter Try.func23, Try.ntmps23
    go_wp2_with fail
    refine (nlen_any _).mono ?_
    rintro _ w1 ⟨rfl, rfl⟩
    go_wp2
    go_ret
    exact ⟨rfl, rfl⟩
theorem ntake_any (i : Int) (w : World) : Calls Try.prog 11 #[.pointer none, .int .i64 i] w fun e w' => e = .returned (.tuple #[.agg #[.int .i64 0, .int .i64 0, .slice none 0 0], .bool false]) ∧ Keep NoB w w' := by
  go_enter Try.func11, Try.ntmps11
  go_wp2_with fail
  have k0 : Keep NoB w (w.alloc (.cells #[.int .i64 0, .int .i64 0, .slice none 0 0] 32)) := (Keep.refl NoB w).alloc _
  have z0 := blk_new w (.cells #[.int .i64 0, .int .i64 0, .slice none 0 0] 32)
  refine (nlook_any i _).mono ?_
  rintro _ w1 ⟨rfl, k1⟩
  have K1 := k0.trans k1
  have z1 := blk_keep z0 k1 (fun h => h)
  clear k0 k1 z0
  have e0 := blk_cell z1 0
  have e1 := blk_cell z1 1
  have e2 := blk_cell z1 2
  have ef := fun j => blk_free z1 j
  have el := blk_lt z1
  simp at e0 e1 e2
  have Hz := Lib.hid z1
  have HK1 := Lib.hid K1
  clear z1 K1
  go_wp2_with fail
  have x1 := blk_alloc (o' := .cells #[.int .i64 0, .int .i64 0, .slice none 0 0] 32) (blk_setCell (i := 2) (blk_setCell (i := 1) (blk_setCell (i := 0) Hz.out (.int .i64 0)) (.int .i64 0)) (.slice none 0 0))
  have K5 : Keep NoB w _ := (((HK1.out.setCell (p := ⟨w.heap.size, 0, none⟩) (Or.inl (Nat.le_refl _)) (.int .i64 0)).setCell (p := ⟨w.heap.size, 1, none⟩) (Or.inl (Nat.le_refl _)) (.int .i64 0)).setCell (p := ⟨w.heap.size, 2, none⟩) (Or.inl (Nat.le_refl _)) (.slice none 0 0)).alloc (.cells #[.int .i64 0, .int .i64 0, .slice none 0 0] 32)
  generalize World.alloc _ _ = W4 at x1 K5 ⊢
  have d0 := blk_cell x1 0
  have d1 := blk_cell x1 1
  have d2 := blk_cell x1 2
  simp at d0 d1 d2
  exact bodyPost_ret (v := .tuple #[.agg #[.int .i64 0, .int .i64 0, .slice none 0 0], .bool false]) (by simp [results, Try.results11, go_sem, d0, d1, d2]) rfl ⟨rfl, K5⟩

/-! ### the comparison -/
theorem same_yes (v : Value) (l : List UInt8) (f t : Int) (tn o : Bool) (w : World) (h : Rd w v l) :
    Calls Try.prog 20 #[.agg #[.int .i64 f, .int .i64 t, v], .bool o, .agg #[.int .i64 f, .int .i64 t, .string ⟨l.toArray⟩, .bool tn], .bool o] w fun e w' => e = .returned (.bool true) ∧ Keep NoB w w' := by
  have kk : Keep NoB w ((w.alloc (.cells #[.int .i64 f, .int .i64 t, v] 32)).alloc (.cells #[.int .i64 f, .int .i64 t, .string ⟨l.toArray⟩, .bool tn] 50)) := ((Keep.refl NoB w).alloc _).alloc _
  have hs := (h.keep kk (fun _ _ _ _ h => h)).str
  obtain ⟨a, c, rfl, _, _⟩ := h
  have Hkk := Lib.hid kk
  clear kk
  cases o
  all_goals
    go_enter Try.func20, Try.ntmps20
    go_wp2
    go_ret
    exact ⟨rfl, Hkk.out⟩

/-! ### the state -/
def HE.p (x : HE) : RP := ⟨x.f, x.t, ⟨x.l.toArray⟩, x.tn⟩
def SIn (v : Value) (g : Nat) : Prop := v.ownBlock = some g

section
variable {w w' : World} {B nb rb : Nat} {a a' : Option Addr} {cap cap' : Nat} {room sent room' sent' : Int} {N : List HE} {M : List RP}
theorem RN.sn (R : RN w B rb a' cap' room' sent' M) (T : Net w B nb a cap room sent N) (hk : Keep (SN nb (.slice a N.length cap)) w w') (hn : nb ≠ rb) : RN w' B rb a' cap' room' sent' M :=
  R.keep hk (fun e => e.elim (fun e => hn e.symm) (fun e => T.row.ne R.blk (by decide) rb e rfl)) (fun g hg e => e.elim (fun e => R.own.ne T.blk (by decide) g hg e) (fun e => R.own.row.ne_own T.row (by decide) g hg e))
theorem Net.one (T : Net w B nb a cap room sent N) (R : RN w B rb a' cap' room' sent' M) (hk : Keep (OneB rb) w w') (hn : nb ≠ rb) : Net w' B nb a cap room sent N :=
  T.keep hk (fun e => hn e) (fun g hg e => T.row.ne R.blk (by decide) g hg e) (fun x hx g hg e => (T.each x hx).1.ne R.blk (by decide) g hg e)
theorem RN.oneN (R : RN w B rb a' cap' room' sent' M) (T : Net w B nb a cap room sent N) (hk : Keep (OneB nb) w w') (hn : nb ≠ rb) : RN w' B rb a' cap' room' sent' M :=
  R.keep hk (fun e => hn (Eq.symm e)) (fun g hg e => R.own.ne T.blk (by decide) g hg e)
theorem Net.rown (T : Net w B nb a cap room sent N) (R : RN w B rb a' cap' room' sent' M) (hk : Keep (fun k => (Value.slice a' M.length cap').ownBlock = some k) w w') : Net w' B nb a cap room sent N :=
  T.keep hk (fun e => R.own.ne T.blk (by decide) nb e rfl) (fun g hg e => T.row.ne_own R.own.row (by decide) g hg e) (fun x hx g hg e => (T.each x hx).1.ne_own R.own.row (by decide) g hg e)
theorem RN.turn (R : RN w B rb a' cap' room' sent' M) (T : Net w B nb a cap room sent N) {x : HE} (hx : x ∈ N) (hk : Keep (fun k => (Value.slice a N.length cap).ownBlock = some k ∨ x.v.ownBlock = some k) w w') : RN w' B rb a' cap' room' sent' M :=
  R.keep hk (fun e => e.elim (fun e => T.row.ne R.blk (by decide) rb e rfl) (fun e => (T.each x hx).1.ne R.blk (by decide) rb e rfl)) (fun g hg e => e.elim (fun e => R.own.row.ne_own T.row (by decide) g hg e) (fun e => R.own.row.ne_own (T.each x hx).1 (by decide) g hg e))
theorem Net.fresh (T : Net w B nb a cap room sent N) {B' : Nat} {v : Value} {l : List UInt8} (hv : Row w B' 5 1 cU v l) (hne : ∀ x ∈ N, ∀ g, x.v.ownBlock = some g → v.ownBlock ≠ some g) (hk : Keep (SIn v) w w') : Net w' B nb a cap room sent N :=
  T.keep hk (fun e => hv.ne T.blk (by decide) nb e rfl) (fun g hg e => T.row.ne_own hv (by decide) g hg e) (fun x hx g hg e => hne x hx g hg e)
theorem RN.fresh (R : RN w B rb a cap room sent M) {B' : Nat} {v : Value} {l : List UInt8} (hv : Row w B' 5 1 cU v l) (hk : Keep (SIn v) w w') : RN w' B rb a cap room sent M :=
  R.keep hk (fun e => hv.ne R.blk (by decide) rb e rfl) (fun g hg e => R.own.row.ne_own hv (by decide) g hg e)
end

structure HS (w wx : World) (nb rb : Nat) (room : Int) (N : List HE) (k : Nat) : Prop where
  st : ∃ a cap a' cap' sent, Net wx w.heap.size nb a cap room sent N ∧ RN wx w.heap.size rb a' cap' room sent (N.map HE.p) ∧ 0 ≤ sent ∧ sent ≤ k
  len : N.length ≤ k
  hk : Keep NoB w wx
structure PB (w : World) (nb rb : Nat) : Prop where
  lo : w.heap.size ≤ nb
  lt : nb < rb
section
variable {w wx w' : World} {nb rb : Nat} {room : Int} {N : List HE} {k : Nat}
theorem HS.keep (D : HS w wx nb rb room N k) (hk : Keep NoB wx w') : HS w w' nb rb room N k := by
  obtain ⟨a, cap, a', cap', sent, T, R, h1, h2⟩ := D.st
  exact ⟨⟨a, cap, a', cap', sent, T.keep0 hk, R.keep0 hk, h1, h2⟩, D.len, D.hk.trans hk⟩
theorem HS.later (D : HS w wx nb rb room N k) {k' : Nat} (h : k ≤ k') : HS w wx nb rb room N k' := by
  obtain ⟨a, cap, a', cap', sent, T, R, h1, h2⟩ := D.st
  exact ⟨⟨a, cap, a', cap', sent, T, R, h1, by omega⟩, by have := D.len; omega, D.hk⟩
theorem PB.sn (P : PB w nb rb) {a : Option Addr} {cap : Nat} {sent : Int} (T : Net wx w.heap.size nb a cap room sent N) : ∀ i, i < w.heap.size → SN nb (.slice a N.length cap) i → NoB i := fun i hi e => by have := SN_out T P.lo i e; omega
theorem PB.r (P : PB w nb rb) : ∀ i, i < w.heap.size → OneB rb i → NoB i := fun i hi e => by have := P.lo; have := P.lt; have e' : i = rb := e; omega
theorem PB.n (P : PB w nb rb) : ∀ i, i < w.heap.size → OneB nb i → NoB i := fun i hi e => by have := P.lo; have e' : i = nb := e; omega
theorem PB.ne (P : PB w nb rb) : nb ≠ rb := by have := P.lt; omega
end

/-- A row of bytes whose cells are bytes, whichever. -/
structure IB (w : World) (a : Option Addr) (n : Nat) : Prop where
  st : n = 0 ∨ ∃ g c, a = some ⟨g, 0, none⟩ ∧ w.heap[g]? = some (.cells c 5 (0, 0)) ∧ ∀ j, j < n → ∃ v : Int, c[j]? = some (.int .u8 v)
theorem IB.of_row {w : World} {B : Nat} {a : Option Addr} {n c : Nat} {l : List UInt8} (h : Row w B 5 1 cU (.slice a n c) l) : IB w a n := by
  rcases h.2 with ⟨hv, hn⟩ | ⟨g, cap, cur, hv, hb, hg, hnc, hcm, hcs, htake⟩
  · cases hv
    exact ⟨Or.inl rfl⟩
  · cases hv
    refine ⟨Or.inr ⟨g, cur, rfl, hg, fun j hj => ?_⟩⟩
    obtain ⟨b, hb⟩ : ∃ b, l[j]? = some b := ⟨_, List.getElem?_eq_getElem hj⟩
    refine ⟨b.toNat, ?_⟩
    have h1 : (l.flatMap cU)[j]? = some (.int .u8 b.toNat) := by rw [flat_cU, List.getElem?_map, hb]; rfl
    rw [← htake, List.getElem?_take] at h1
    split at h1
    · simpa using h1
    · cases h1
theorem IB.set {w : World} {g n : Nat} (h : IB w (some ⟨g, 0, none⟩) n) (m : Nat) (v : Int) : IB (w.setCell ⟨g, m, none⟩ (.int .u8 v)) (some ⟨g, 0, none⟩) n := by
  rcases h.st with h0 | ⟨g', c, e, hg, hc⟩
  · exact ⟨Or.inl h0⟩
  · cases e
    refine ⟨Or.inr ⟨g, _, rfl, blk_setCell (i := m) hg _, fun j hj => ?_⟩⟩
    obtain ⟨v0, hv0⟩ := hc j hj
    by_cases hjm : j = m
    · subst hjm
      have hcs := (Array.getElem?_eq_some_iff.1 hv0).1
      exact ⟨v, by simp [hcs]⟩
    · exact ⟨v0, by rw [Array.getElem?_setIfInBounds_ne (Ne.symm hjm)]; exact hv0⟩
end Go.Proofs.Ytbaojfjabhgohaa
