/- The table of sessions and the reference's, side by side: the state of DedupePlays. -/
import Derived.Test.YtlglnpokfmdpaaaDedupeR3
import Derived.Test.YtlglnpokfmdpaaaLibSub
namespace Go.Proofs.Ytlglnpokfmdpaaa
open Go Go.RowKit Go.Maps Go.Sort

/-! ### plain -/
def maxL (limit : Int) : Int := if limit < 0 then 0 else limit
inductive LoadV (limit : Int) (z : Nat → SE) (n : Nat) : Bool → Prop
  | yes (hl : (n : Int) ≤ maxL limit) (hr : RiseZ z n) : LoadV limit z n true
  | long (hl : ¬ (n : Int) ≤ maxL limit) : LoadV limit z n false
  | bad (hl : (n : Int) ≤ maxL limit) (j : Nat) (hj : BadZ z n j) : LoadV limit z n false
theorem load_case (limit : Int) (z : Nat → SE) (n : Nat) : ∃ v, LoadV limit z n v := by
  by_cases hl : (n : Int) ≤ maxL limit
  · rcases rise_case z n with h | ⟨j, h⟩
    · exact ⟨true, .yes hl h⟩
    · exact ⟨false, .bad hl j h⟩
  · exact ⟨false, .long hl⟩
theorem allOf_absD (N : List SE) : allOf (absD N) = N := by
  unfold allOf absD
  rw [List.map_map]
  conv => rhs; rw [← List.map_id N]
  apply List.map_congr_left
  intro x _
  rfl
theorem note_plan {limit : Int} {N : List SE} (hr : RiseD N) (s r e i : Int) :
    ∃ N', (if (lookF limit (absD N) s r).1 = 1 then dput s (r, e, i) N else N) = N' ∧ noteF limit (absD N) s r e i = absD N' ∧ RiseD N' ∧ N'.length ≤ N.length + 1 := by
  refine ⟨_, rfl, ?_⟩
  unfold noteF
  by_cases h : (lookF limit (absD N) s r).1 = 1
  · rw [if_pos h, if_pos h]
    exact ⟨absD_dput s _ N hr, dput_rise s _ N hr, dput_len s _ N⟩
  · rw [if_neg h, if_neg h]
    exact ⟨rfl, hr, by omega⟩
theorem inc_set (t : Int) : ∀ (N : List SE) (i : Nat) (x : SE), N[i]? = some x → (N.flatMap encSeen).set (i * 4 + 1) (.int .i64 t) = (N.set i (x.1, t, x.2.2)).flatMap encSeen
  | [], i, x, h => by simp at h
  | y :: N, 0, x, h => by
    simp at h
    subst h
    simp [encSeen]
  | y :: N, i + 1, x, h => by
    have h' : N[i]? = some x := by simpa using h
    have ih := inc_set t N i x h'
    have e : (i + 1) * 4 + 1 = (i * 4 + 1) + 4 := by omega
    rw [e]
    simp only [List.flatMap_cons, List.set_cons_succ, ← ih]
    rfl

/-! ### a Load of both -/
theorem load_all (tb mb : Nat) (limit : Int) (L : List (Lit × Last)) (a : Option Addr) (n cap : Nat) (z : Nat → SE) (w : World) (T : Tab w tb mb limit L) (hne : tb ≠ mb) (h : SeA w a n z) (hmb : ∀ b off, a = some ⟨b, off, none⟩ → b ≠ mb) (hn : n ≤ 100000) (v : Bool) (hv : LoadV limit z n v) (L' : List (Lit × Last)) (hL : (if v = true then absD (seL z n) else L) = L') :
    Calls Try.prog 16 #[.pointer (some ⟨tb, 0, none⟩), .slice a n cap] w fun e w' => e = .returned (.bool v) ∧ Tab w' tb mb limit L' ∧ Keep (OneB mb) w w' := by
  cases hv with
  | yes hl hr =>
    rw [if_pos rfl] at hL
    subst hL
    exact load_yes tb mb limit L a n cap z w T hne h hmb hn _ rfl hl hr
  | long hl =>
    rw [if_neg (by decide)] at hL
    subst hL
    refine (load_long tb mb limit L a n cap w T _ rfl hl).mono ?_
    rintro _ _ ⟨rfl, rfl⟩
    exact ⟨rfl, T, Keep.refl _ _⟩
  | bad hl j hj =>
    rw [if_neg (by decide)] at hL
    subst hL
    refine (load_bad tb mb limit L a n cap z w T h hn _ rfl hl j hj).mono ?_
    rintro _ _ ⟨rfl, k⟩
    exact ⟨rfl, T.keep k (fun h => h) (fun h => h), k.none⟩
theorem may_all (rb B : Nat) (a' : Option Addr) (cap' : Nat) (limit : Int) (N : List SE) (a : Option Addr) (n cap : Nat) (z : Nat → SE) (w : World) (T : RT w B rb a' cap' limit N) (h : SeA w a n z) (hn : n ≤ 100000) (v : Bool) (hv : LoadV limit z n v) :
    Calls Try.prog 17 #[.pointer (some ⟨rb, 0, none⟩), .slice a n cap] w fun e w' => e = .returned (.bool v) ∧ Keep NoB w w' := by
  cases hv with
  | yes hl hr =>
    refine may_rise rb B a' cap' limit N a n cap z w T h hn hr true ?_
    unfold maxL at hl
    split at hl
    · simp; omega
    · simp; omega
  | long hl =>
    rcases rise_case z n with hr | ⟨j, hj⟩
    · refine may_rise rb B a' cap' limit N a n cap z w T h hn hr false ?_
      unfold maxL at hl
      split at hl
      · simp; omega
      · simp; omega
    · exact may_bad rb a n cap z w h hn j hj
  | bad hl j hj => exact may_bad rb a n cap z w h hn j hj
theorem seL_at {z : Nat → SE} {n i : Nat} (h : i < n) : (seL z n)[i]? = some (z i) := by
  unfold seL
  rw [List.getElem?_map, List.getElem?_range h]
  rfl
theorem seA_own {w : World} {B : Nat} {a : Option Addr} {n c : Nat} {z : Nat → SE} (h0 : Own w B 41 4 encSeen (.slice a n c) (seL z n)) (hwf : ∀ i, i < n → (Lit.int .i64 (z i).1).wf = true) : SeA w a n z := by
  have h : Own w B 41 4 encSeen (.slice a (seL z n).length c) (seL z n) := by rw [seL_len]; exact h0
  refine ⟨hwf, ?_⟩
  by_cases hM : seL z n = []
  · left
    have := seL_len z n
    rw [hM] at this
    exact this.symm
  · obtain ⟨g, rfl, _, hg⟩ := h.some hM
    refine Or.inr ⟨g, 0, rfl, hg, fun i hi => ?_⟩
    obtain ⟨g', c', hv, _, _, hc⟩ := h.cells encSeen_len (seL_at hi)
    cases hv
    rw [show 0 + i * 4 = i * 4 by omega]
    exact ⟨hc 0 _ rfl, hc 1 _ rfl, hc 2 _ rfl, hc 3 _ rfl⟩
theorem flat_at {z : Nat → SE} {n j : Nat} {u : Value} (h : ((seL z n).flatMap encSeen)[j]? = some u) : j / 4 < n ∧ (encSeen (z (j / 4)))[j % 4]? = some u := by
  induction n generalizing j with
  | zero => simp [seL] at h
  | succ n ih =>
    rw [seL_succ, List.flatMap_append] at h
    have hlen : ((seL z n).flatMap encSeen).length = n * 4 := by
      have : ∀ l : List SE, (l.flatMap encSeen).length = l.length * 4 := by
        intro l
        induction l with
        | nil => rfl
        | cons x l ih => simp [ih, encSeen_len]; omega
      rw [this, seL_len]
    by_cases hj : j < n * 4
    · rw [List.getElem?_append_left (by omega)] at h
      obtain ⟨h1, h2⟩ := ih h
      exact ⟨by omega, h2⟩
    · rw [List.getElem?_append_right (by omega), hlen] at h
      have h3 : ([z n].flatMap encSeen) = encSeen (z n) := by simp
      rw [h3] at h
      have h4 : j - n * 4 < 4 := by
        have := (List.getElem?_eq_some_iff.1 h).1
        rw [encSeen_len] at this
        exact this
      have e1 : j / 4 = n := by omega
      have e2 : j % 4 = j - n * 4 := by omega
      rw [e1, e2]
      exact ⟨by omega, h⟩
theorem SeA.sub {w : World} {a : Option Addr} {n c : Nat} {z : Nat → SE} (h : SeA w a n z) : Sub w encSeen (.slice a n c) (seL z n) := by
  refine ⟨a, c, by rw [seL_len], ?_⟩
  rcases h.2 with h0 | ⟨b, off, ha, hb, hc⟩
  · left
    rw [h0]
    rfl
  · refine Or.inr ⟨b, off, ha, hb, fun j u hu => ?_⟩
    obtain ⟨h1, h2⟩ := flat_at hu
    obtain ⟨c0, c1, c2, c3⟩ := hc _ h1
    have e : j = j / 4 * 4 + j % 4 := by omega
    have h4 : j % 4 < 4 := by omega
    generalize j / 4 = q at *
    generalize j % 4 = p at *
    subst e
    rcases (by omega : p = 0 ∨ p = 1 ∨ p = 2 ∨ p = 3) with rfl | rfl | rfl | rfl
    · simp [encSeen] at h2
      rw [← h2]
      exact c0
    · simp [encSeen] at h2
      rw [← h2, ← Nat.add_assoc]
      exact c1
    · simp [encSeen] at h2
      rw [← h2, ← Nat.add_assoc]
      exact c2
    · simp [encSeen] at h2
      rw [← h2, ← Nat.add_assoc]
      exact c3

/-! ### the script -/
structure DOp where
  kd : Int
  s : Int
  r : Int
  e : Int
  i : Int
  a : Option Addr
  n : Nat
  c : Nat
  z : Nat → SE
def dCells (x : DOp) : List Value := [.int .i64 x.kd, .int .i64 x.s, .int .i64 x.r, .int .i64 x.e, .int .i64 x.i, .slice x.a x.n x.c]
def dOk (w : World) (x : DOp) : Prop := (Lit.int .i64 x.s).wf = true ∧ SeA w x.a x.n x.z
def IsD (w : World) (a : Option Addr) (len : Nat) (z : Nat → DOp) : Prop :=
  len ≤ maxLen ∧ (∀ i, i < len → dOk w (z i)) ∧ (len = 0 ∨ ∃ b off, a = some ⟨b, off, none⟩ ∧ b < w.heap.size ∧ ∀ i, i < len → ∀ j, j < 6 → w.cell? ⟨b, off + i * 6 + j, none⟩ = (dCells (z i))[j]?)

/-! ### the state -/
structure PB (w : World) (tb mb rb : Nat) : Prop where
  lo1 : w.heap.size ≤ tb
  lo2 : w.heap.size ≤ mb
  hi1 : tb < rb
  hi2 : mb < rb
  ne : tb ≠ mb

structure HS (w wx : World) (tb mb rb : Nat) (limit : Int) (N : List SE) (k : Nat) : Prop where
  T : Tab wx tb mb limit (absD N)
  R : ∃ a cap, RT wx rb rb a cap limit N
  rise : RiseD N
  len : N.length ≤ 1000 + k
  hk : Keep NoB w wx

section
variable {w wx w' : World} {tb mb rb : Nat} {limit : Int} {N : List SE} {k : Nat}
theorem HS.keep (D : HS w wx tb mb rb limit N k) (hk : Keep NoB wx w') : HS w w' tb mb rb limit N k := by
  obtain ⟨a, cap, R⟩ := D.R
  exact ⟨D.T.keep hk (fun h => h) (fun h => h), ⟨a, cap, R.keep0 hk⟩, D.rise, D.len, D.hk.trans hk⟩
theorem HS.later (D : HS w wx tb mb rb limit N k) {k' : Nat} (h : k ≤ k') : HS w wx tb mb rb limit N k' := ⟨D.T, D.R, D.rise, by have := D.len; omega, D.hk⟩
theorem HS.lt (D : HS w wx tb mb rb limit N k) : rb < wx.heap.size := by obtain ⟨a, cap, R⟩ := D.R; exact blk_lt R.blk
theorem PB.map (h : PB w tb mb rb) : ∀ i, i < w.heap.size → OneB mb i → NoB i := fun i hi e => by have := h.lo2; have e' : i = mb := e; omega
theorem PB.one (h : PB w tb mb rb) : ∀ i, i < w.heap.size → OneB rb i → NoB i := fun i hi e => by have := h.lo1; have := h.hi1; have e' : i = rb := e; omega
theorem RT.map (h : PB w tb mb rb) {a : Option Addr} {cap : Nat} (R : RT wx rb rb a cap limit N) (hk : Keep (OneB mb) wx w') : RT w' rb rb a cap limit N := by
  have h2 := h.hi2
  exact R.keep hk (fun e => by have e' : rb = mb := e; omega) (fun g hg e => by have := R.own.fresh g hg; have e' : g = mb := e; omega)
theorem Tab.one (h : PB w tb mb rb) {L : List (Lit × Last)} (T : Tab wx tb mb limit L) (hk : Keep (OneB rb) wx w') : Tab w' tb mb limit L := by
  have h1 := h.hi1
  have h2 := h.hi2
  exact T.keep hk (fun e => by have e' : tb = rb := e; omega) (fun e => by have e' : mb = rb := e; omega)
end
end Go.Proofs.Ytlglnpokfmdpaaa
