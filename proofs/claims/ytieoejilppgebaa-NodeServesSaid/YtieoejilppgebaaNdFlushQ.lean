/- What NodeFlushed carries: plain lists. -/
import Derived.Test.YtieoejilppgebaaNdMarkedQ
import Derived.Test.YtieoejilppgebaaNdJ
import Derived.Test.YtieoejilppgebaaNdStr
namespace Go.Proofs.Ytieoejilppgebaa
open Go Go.RowKit Go.Maps
set_option maxRecDepth 100000

def cQ (x : Int) : List Value := [.int .i64 x]
theorem cQ_len (x : Int) : (cQ x).length = 1 := rfl
theorem cQ_one (x : Int) : ∀ u ∈ cQ x, u.oneCell' = true := by intro u hu; simp [cQ] at hu; subst hu; rfl
theorem info2' : (Try.prog.info? 2).map (fun i => (i.zero, i.size, i.bytes)) = some (some (.int .i64 0), 1, 8) := by kernel_rfl

theorem own_sh {α : Type} {w : World} {B size : Nat} {e : TypeId} {enc : α → List Value} {v : Value} {N : List α} (h : Own w B e size enc v N) : ∀ g, v.ownBlock = some g → Sh w g e := by
  rcases h.2 with ⟨rfl, _⟩ | ⟨g', cap, cur, rfl, _, hg, _⟩
  · intro g hg; simp [Value.ownBlock] at hg
  · intro g hv
    simp [Value.ownBlock] at hv
    subst hv
    exact ⟨_, _, hg⟩
section
variable {w wr w' : World} {b : NB} {s s' : NS} {v : Value} {N : List Int}
theorem NPost.own {B : Nat} (P : NPost w w' b s s') (D : Nd w b s) (O : Own w B 2 1 cQ v N) : Own w' B 2 1 cQ v N :=
  O.keep P.K (fun g hg => D.nk_sh (own_sh O g hg) (by decide) (by decide) (by decide) (by decide) (by decide) (by decide))
theorem NL.own (S : NL w wr b s) (O : Own wr w.heap.size 2 1 cQ v N) (hk : Keep (fun g => v.ownBlock = some g) wr w') : NL w w' b s :=
  ⟨S.D.keep hk (fun k hk' e => S.D.nk_sh (own_sh O k e) (by decide) (by decide) (by decide) (by decide) (by decide) (by decide) hk'), S.fr, S.hk.trans' hk (fun i hi e => by have := O.fresh i e; omega)⟩
end

structure FI (m : Nat) (R : Int) (k j : Nat) (s : NS) : Prop where
  M : s.M.length = min k m
  nd : s.M.Nodup
  se : ∀ x ∈ s.M, x.2.1 < (k : Int)
  room : s.room = 100000
  kept : s.kept = R
  r1 : R ≤ 1032 * (k : Int)
  len : s.N.length ≤ j
  L : s.L.length ≤ j
  l0 : 0 ≤ s.last
  l1 : s.last ≤ (j : Int)
  H : s.H = []
  cold : s.cold = false

section
variable {m k j : Nat} {R : Int} {s s' : NS}
theorem FI.le (h : FI m R k j s) {j' : Nat} (hj : j ≤ j') : FI m R k j' s :=
  ⟨h.M, h.nd, h.se, h.room, h.kept, h.r1, by have := h.len; omega, by have := h.L; omega, h.l0, by have := h.l1; omega, h.H, h.cold⟩
theorem fi_get (h : FI m R k j s) (ha : Apart s.L) {t : ByteArray} {v : Value} (hg : GetV s t s' v) : ∃ (kd : Int) (xv : IT) (tok : Int), v = ansV kd xv tok ∧ FI m R k (j + 1) s' := by
  cases hg with
  | marked hm => exact ⟨2, _, 0, rfl, h.le (Nat.le_succ j)⟩
  | hit hm x hf =>
    refine ⟨1, x.v, 0, rfl, ⟨h.M, h.nd, h.se, h.room, h.kept, h.r1, ?_, by have := h.L; simp only; omega, h.l0, by have := h.l1; simp only; omega, h.H, h.cold⟩⟩
    have := dropK_lt hf
    have := h.len
    simp only [List.length_cons]
    omega
  | miss hm hf v ok last' L' hr =>
    obtain ⟨g1, g2, g3⟩ := grant_len hr ha
    have h1 := h.L
    have h2 := h.l0
    have h3 := h.l1
    exact ⟨3, ⟨0, 0, false, ⟨#[]⟩, 0⟩, v, rfl, ⟨h.M, h.nd, h.se, h.room, h.kept, h.r1, by have := h.len; simp only; omega, by simp only; omega, by simp only; omega, by simp only; omega, h.H, h.cold⟩⟩
theorem fi_mark (h : FI m R k j s) (hk : k < m) (hm : m ≤ 7) {t : ByteArray} (ht : t.size ≤ 1000) {r : Int} (hr : MarkR s (t, (k : Int), 1) s' r) : r = 0 ∧ FI m (R + ((t.size : Int) + 32)) (k + 1) j s' := by
  have hM := h.M
  have h1 := h.r1
  have hkp := h.kept
  have hro := h.room
  cases hr with
  | there hx =>
    have := h.se _ hx
    simp only at this
    omega
  | busy hx hl => omega
  | full hx hl n hn hf => simp only at hn; omega
  | ok hx hl n hn hf N' hN =>
    simp only at hn
    refine ⟨rfl, ⟨by simp only [List.length_cons]; omega, List.nodup_cons.2 ⟨hx, h.nd⟩, ?_, h.room, by simp only; omega, by omega, ?_, h.L, h.l0, h.l1, h.H, h.cold⟩⟩
    · intro x hx'
      rcases List.mem_cons.1 hx' with rfl | hx'
      · simp only; omega
      · have := h.se x hx'; omega
    · have := h.len
      simp only
      rw [← hN, List.length_take]
      omega
theorem fi_not (h : FI m R k j s) (hk : ¬ k < m) : FI m R (k + 1) j s :=
  ⟨by have := h.M; omega, h.nd, fun x hx => by have := h.se x hx; omega, h.room, h.kept, by have := h.r1; omega, h.len, h.L, h.l0, h.l1, h.H, h.cold⟩
theorem fi_put (h : FI m R k j s) {t : ByteArray} {v : IT} {sz : Int} {r : Bool} (hp : PutR s t v sz s' r) : FI m R k (j + 1) s' := by
  cases hp with
  | old xv ok hp hok ha => exact h.le (Nat.le_succ j)
  | no xv ok hp hok hn =>
    exact ⟨h.M, h.nd, h.se, h.room, h.kept, h.r1, by have := dropK_le (N := s.N) (key := t); have := h.len; simp only; omega, by have := h.L; simp only; omega, h.l0, by have := h.l1; simp only; omega, h.H, h.cold⟩
  | new xv ok hp hok hn xb M hM =>
    refine ⟨h.M, h.nd, h.se, h.room, h.kept, h.r1, ?_, by have := h.L; simp only; omega, h.l0, by have := h.l1; simp only; omega, h.H, h.cold⟩
    have h1 := dropK_le (N := s.N) (key := t)
    have h2 := h.len
    have h3 : M.length ≤ (It.dropK s.N t).length := by rw [← hM, List.length_take]; omega
    simp only [List.length_cons]
    omega
theorem fi_fill (h : FI m R k j s) (ha : Apart s.L) {t : ByteArray} {tok : Int} {v : IT} {sz : Int} {r : Bool} (hp : FillR s t tok v sz s' r) : FI m R k (j + 1) s' := by
  cases hp with
  | no hu => exact h.le (Nat.le_succ j)
  | yes hu s' r hp =>
    have hl := ldel_le (Ls.kS t) ha
    have h1 : FI m R k j { s with last := s.last, L := ldel s.L (Ls.kS t) } := ⟨h.M, h.nd, h.se, h.room, h.kept, h.r1, h.len, by have := h.L; simp only; omega, h.l0, h.l1, h.H, h.cold⟩
    exact fi_put h1 hp
end
end Go.Proofs.Ytieoejilppgebaa
