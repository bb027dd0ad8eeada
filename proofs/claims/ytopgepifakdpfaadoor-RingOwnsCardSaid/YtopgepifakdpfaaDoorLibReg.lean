/- A region that draws its order, walked by a plan: what only reads first, what turns the world one by one; the cells that are read need not stand behind an operation that waits for all that read. -/
import Derived.OrdersHeld
import Derived.StillTailTactics
import Derived.WalkKit
namespace Go.Proofs.YtopgepifakdpfaaDoor
open Go Go.RowKit

section
variable {P : Program} {ops : Array Oper} {Q : Exit → Act → World → Prop} {md : Region.Mode} {S : World → Prop} {W : Nat → Bool}

/-- Whatever comes up; S stands behind each operation that W names. -/
def Reg (P : Program) (md : Region.Mode) (ops : Array Oper) (Q : Exit → Act → World → Prop) (S : World → Prop) (W : Nat → Bool) : Nat → Array Bool → Act → World → Prop
  | 0, listed, a, w => Region.ready md ops listed = [] ∧ Q .normal a w
  | n + 1, listed, a, w => (Region.ready md ops listed = [] → Q .normal a w) ∧ ∀ i ∈ Region.ready md ops listed, wpOp P ops Q i (fun b u => (W i = true → S u) ∧ Reg P md ops Q S W n (listed.setIfInBounds i true) b u) a w

theorem Reg.any : ∀ (n : Nat) (listed : Array Bool) (a : Act) (w : World), Reg P md ops Q S W n listed a w → wpAny P md ops Q n listed a w
  | 0, _, _, _, h => h
  | n + 1, _, _, _, h => ⟨h.1, fun i hi => wpOp_mono (fun _ _ h' => Reg.any n _ _ _ h'.2) (h.2 i hi)⟩

/-- At a the operation comes to the state a with v, and leaves the world, whatever world of S it is. -/
def Does (P : Program) (ops : Array Oper) (S : World → Prop) (o : Oper) (v : Value) (a : Act) : Prop :=
  ∀ w, S w → if Region.wanted o (yielded ops a.tmps) = true then o.still P a w (fun b => b = a.put o.dst v) else a.put o.dst undef = a.put o.dst v

theorem Does.run {i : Nat} {o : Oper} {v : Value} {a : Act} (hi : ops[i]? = some o) (h : Does P ops S o v a) {K : Act → World → Prop} {w : World} (hS : S w) (hK : K (a.put o.dst v) w) : wpOp P ops Q i K a w := by
  have h1 := h w hS
  unfold wpOp
  rw [hi]
  simp only
  split
  · rename_i hw
    rw [if_pos hw] at h1
    exact Or.inl (Oper.wp_of_still (fun b hb => by rw [hb]; exact hK) h1)
  · rename_i hw
    rw [if_neg hw] at h1
    rw [h1]
    exact hK

theorem Does.move {o : Oper} {v : Value} {a b : Act} (h : Does P ops S o v a) (he : execOp b.eval o = execOp a.eval o) (hw : Region.wanted o (yielded ops b.tmps) = Region.wanted o (yielded ops a.tmps))
    (hp : ∀ u, a.put o.dst u = a.put o.dst v → b.put o.dst u = b.put o.dst v) : Does P ops S o v b := by
  intro w hS
  have h1 := h w hS
  rw [hw]
  split
  · rename_i hw'
    rw [if_pos hw'] at h1
    unfold Oper.still at h1 ⊢
    rw [he]
    generalize (execOp a.eval o).run P w = r at h1
    cases r with
    | ok x u =>
      cases x <;> simp only [Oper.stillUpon] at h1 ⊢
      case value y => exact ⟨h1.1, hp y h1.2⟩
      case skip => exact ⟨h1.1, hp undef h1.2⟩
      case enter f args => obtain ⟨e, y, hc, hy⟩ := h1; exact ⟨e, y, hc, hp y hy⟩
    | halt x u => cases x <;> simp only [Oper.stillUpon] at h1
  · rename_i hw'
    rw [if_neg hw'] at h1
    exact hp undef h1

/-- Two operations apart: one first, then the other, or the other way round. -/
theorem wpOp_swap {j : Nat} {oi oj : Oper} {v : Value} (hj : ops[j]? = some oj) (hap : oi.apart ops oj = true) (hsj : ∀ cs b, oj.op ≠ .select cs b)
    (hQ : ∀ c a w, Q (.panic c) (a.put oi.dst v) w → Q (.panic c) a w) {K : Act → World → Prop} {a : Act} {w : World} {G : Act → Prop} (hG : ∀ x, G (a.put oj.dst x)) (hGd : ∀ d x, G ({ a with defers := d :: a.defers }.put oj.dst x))
    (h : wpOp P ops Q j K (a.put oi.dst v) w) : wpOp P ops Q j (fun b u => G b ∧ K (b.put oi.dst v) u) a w := by
  obtain ⟨h1, h2, h3⟩ := Oper.apart_spec hap
  have hc : ∀ (b : Act) (x : Value), (b.put oj.dst x).put oi.dst v = (b.put oi.dst v).put oj.dst x := fun b x => (Act.put_comm b v x h2).symm
  unfold wpOp at *
  rw [hj] at h ⊢
  simp only at h ⊢
  rw [wanted_put oj a oi.dst v h1] at h
  by_cases hw : Region.wanted oj (yielded ops a.tmps) = true
  · rw [if_pos hw] at h ⊢
    rcases h with h | ⟨hk, hl⟩
    · left
      unfold Oper.wp at h ⊢
      rw [execOp_put oj hsj a oi.dst v h1] at h
      generalize (execOp a.eval oj).run P w = r at h ⊢
      cases r with
      | ok x u =>
        cases x <;> simp only [Oper.upon] at h ⊢
        case value y => exact ⟨hG y, by rw [hc]; exact h⟩
        case skip => exact ⟨hG undef, by rw [hc]; exact h⟩
        case defer d => exact ⟨hGd d undef, by rw [hc, ← Act.put_defers]; exact h⟩
        case enter f args =>
          refine h.mono fun e u' he => ?_
          cases e with
          | returned y => exact ⟨hG y, by rw [hc]; exact he⟩
          | panicked c => exact hQ _ _ _ he
          | outgrown => exact he
        case row row args => exact h.mono fun y u' he => ⟨hG y, by rw [hc]; exact he⟩
      | halt x u =>
        cases x <;> simp only [Oper.upon] at h ⊢
        case panic y => exact hQ _ _ _ h
    · right
      refine ⟨?_, hl⟩
      unfold Oper.asks at hk ⊢
      rw [execOp_put oj hsj a oi.dst v h1] at hk
      exact hk
  · rw [if_neg hw] at h ⊢
    exact ⟨hG undef, by rw [hc]; exact h⟩

theorem Reg.first {i : Nat} {oi : Oper} {v : Value} (hi : ops[i]? = some oi) (hsel : ∀ (j : Nat) (o : Oper) cs b, ops[j]? = some o → o.op ≠ .select cs b)
    (hQ : ∀ c a w, Q (.panic c) (a.put oi.dst v) w → Q (.panic c) a w) :
    ∀ (n : Nat) (listed : Array Bool) (a : Act) (w : World),
      (∀ j oj, ops[j]? = some oj → j ≠ i → listed.getD j true = false → (∀ e ∈ oj.after, Region.binds md e = true → e.on ≠ i) → oi.apart ops oj = true ∧ W j = true) →
      i ∈ Region.ready md ops listed → Does P ops S oi v a → S w →
      Reg P md ops Q S W n (listed.setIfInBounds i true) (a.put oi.dst v) w → Reg P md ops Q S W (n + 1) listed a w
  | 0, listed, a, w, _, hr, hy, hS, H => by
    refine ⟨fun h => by (rw [h] at hr; cases hr), fun j hj => ?_⟩
    by_cases hji : j = i
    · subst hji
      exact hy.run hi hS ⟨fun _ => hS, H⟩
    · have := ready_mono hj hji
      rw [H.1] at this
      cases this
  | n + 1, listed, a, w, hfree, hr, hy, hS, H => by
    refine ⟨fun h => by (rw [h] at hr; cases hr), fun j hj => ?_⟩
    by_cases hji : j = i
    · subst hji
      exact hy.run hi hS ⟨fun _ => hS, H⟩
    · have h1 := H.2 j (ready_mono hj hji)
      obtain ⟨hjun, oj, hoj, hall⟩ := mem_ready.1 hj
      have hnot : ∀ e ∈ oj.after, Region.binds md e = true → e.on ≠ i := by
        intro e he hb heq
        have t1 := hall e he hb
        have t0 := (mem_ready.1 hr).1
        rw [heq] at t1
        rcases Nat.lt_or_ge i listed.size with h' | h'
        · simp [h'] at t0 t1
          rw [t0] at t1
          cases t1
        · simp [Array.getElem?_eq_none h'] at t1
      obtain ⟨hap, hWj⟩ := hfree j oj hoj hji hjun hnot
      obtain ⟨s1, s2, s3⟩ := Oper.apart_spec hap
      have hkeep : ∀ (b : Act), (execOp b.eval oi = execOp a.eval oi) → (Region.wanted oi (yielded ops b.tmps) = Region.wanted oi (yielded ops a.tmps)) → (∀ u, a.put oi.dst u = a.put oi.dst v → b.put oi.dst u = b.put oi.dst v) → ∀ x, Does P ops S oi v (b.put oj.dst x) := by
        intro b e1 e2 e3 x
        refine hy.move ((execOp_put oi (fun cs c => hsel i oi cs c hi) b oj.dst x s3).trans e1) ((wanted_put oi b oj.dst x s3).trans e2) (fun u hu => ?_)
        have c1 : ∀ y, (b.put oj.dst x).put oi.dst y = (b.put oi.dst y).put oj.dst x := fun y => (Act.put_comm b y x s2).symm
        rw [c1, c1, e3 u hu]
      have h2 := wpOp_swap (G := Does P ops S oi v) hoj hap (fun cs c => hsel j oj cs c hoj) hQ (fun x => hkeep a rfl rfl (fun _ h => h) x)
        (fun d x => hkeep { a with defers := d :: a.defers } rfl rfl (fun u hu => by rw [← Act.put_defers, ← Act.put_defers, hu]) x) h1
      have hfree' : ∀ k ok, ops[k]? = some ok → k ≠ i → (listed.setIfInBounds j true).getD k true = false → (∀ e ∈ ok.after, Region.binds md e = true → e.on ≠ i) → oi.apart ops ok = true ∧ W k = true := by
        intro k ok hk hki hun hno
        refine hfree k ok hk hki ?_ hno
        by_cases hjk : j = k
        · subst hjk; exact hjun
        · rw [getD_set_ne true hjk] at hun; exact hun
      refine wpOp_mono (fun b u h3 => ⟨h3.2.1, Reg.first hi hsel hQ n (listed.setIfInBounds j true) b u hfree' (ready_mono hr (Ne.symm hji)) h3.1 (h3.2.1 hWj) ?_⟩) h2
      rw [Array.setIfInBounds_comm _ _ hji]
      exact h3.2.2

/-- The plan: reads (true) and others (false), by their numbers. -/
def wpPlan (P : Program) (ops : Array Oper) (Q : Exit → Act → World → Prop) (S : World → Prop) (W : Nat → Bool) : List (Bool × Nat) → Act → World → Prop
  | [], a, w => Q .normal a w
  | (true, i) :: r, a, w => S w ∧ ∃ o v, ops[i]? = some o ∧ Does P ops S o v a ∧ wpPlan P ops Q S W r (a.put o.dst v) w
  | (false, i) :: r, a, w => wpOp P ops Q i (fun b u => (W i = true → S u) ∧ wpPlan P ops Q S W r b u) a w

def okPlan (md : Region.Mode) (ops : Array Oper) (W : Nat → Bool) : List (Bool × Nat) → Array Bool → Bool
  | [], listed => (Region.ready md ops listed).isEmpty
  | (true, i) :: r, listed => (Region.ready md ops listed).contains i && Region.free md ops listed i &&
      ((List.range ops.size).all fun j => j == i || listed.getD j true || W j || (match ops[j]? with | some oj => oj.after.any (fun e => Region.binds md e && e.on == i) | none => true)) && okPlan md ops W r (listed.setIfInBounds i true)
  | (false, i) :: r, listed => (Region.ready md ops listed == [i]) && okPlan md ops W r (listed.setIfInBounds i true)

theorem Reg.of_plan (hs : Region.noSelect ops = true) (hQ : ∀ c b d v u, Q (.panic c) (Act.put b d v) u → Q (.panic c) b u) : ∀ (r : List (Bool × Nat)) (listed : Array Bool) (a : Act) (w : World), okPlan md ops W r listed = true → wpPlan P ops Q S W r a w → Reg P md ops Q S W r.length listed a w
  | [], listed, a, w, ho, h => ⟨by simpa [okPlan] using ho, h⟩
  | (true, i) :: r, listed, a, w, ho, h => by
    simp only [okPlan, Bool.and_eq_true] at ho
    obtain ⟨⟨⟨o1, o2⟩, o3⟩, o4⟩ := ho
    obtain ⟨hS, oi, v, hi, hd, h'⟩ := h
    refine Reg.first hi (Region.noSelect_spec hs) (fun c b u => hQ c b _ _ u) r.length listed a w ?_ (by simpa using o1) hd hS (Reg.of_plan hs hQ r _ _ _ o4 h')
    intro j oj hj hne hun hno
    refine ⟨Region.free_spec hi o2 j oj hj hne hun hno, ?_⟩
    have := List.all_eq_true.1 o3 j (List.mem_range.2 (Array.getElem?_eq_some_iff.1 hj).1)
    rw [hj] at this
    simp only [Bool.or_eq_true, beq_iff_eq, Array.any_eq_true', Bool.and_eq_true] at this
    rcases this with ((e | e) | e) | ⟨e, h1, h2, h3⟩
    · exact absurd e hne
    · rw [hun] at e; cases e
    · exact e
    · exact absurd h3 (hno e h1 h2)
  | (false, i) :: r, listed, a, w, ho, h => by
    simp only [okPlan, Bool.and_eq_true, beq_iff_eq] at ho
    obtain ⟨o1, o2⟩ := ho
    refine ⟨fun e => by (rw [o1] at e; cases e), fun j hj => ?_⟩
    rw [o1] at hj
    obtain rfl : j = i := by simpa using hj
    exact wpOp_mono (fun b u hb => ⟨hb.1, Reg.of_plan hs hQ r _ _ _ o2 hb.2⟩) h
end

/-- The beginning. -/
theorem wp_region_plan {P : Program} {id : Nat} {Q : Exit → Act → World → Prop} {a : Act} {w : World} {l : List Oper} (S : World → Prop) (last : List Nat) (plan : List (Bool × Nat)) (hm : P.follows .mixedOrders = true)
    (hs : Region.noSelect l.toArray = true) (hn : plan.length = l.toArray.size) (ho : okPlan .any l.toArray (fun i => !last.contains i) plan (Array.replicate l.toArray.size false) = true)
    (hQ : ∀ c b d v u, Q (.panic c) (Act.put b d v) u → Q (.panic c) b u)
    (h : wpPlan P l.toArray Q S (fun i => !last.contains i) plan a w.drew) : (Code.region id l.toArray true).wp P Q a w := by
  refine wp_region_any hm ?_
  rw [← hn]
  have := Reg.any _ _ _ _ (Reg.of_plan hs hQ plan _ _ _ ho h)
  rw [← hn] at this
  exact this

section
variable {P : Program} {ops : Array Oper} {Q : Exit → Act → World → Prop} {S : World → Prop} {W : Nat → Bool}

/-- A read: its value, from any world of S. -/
theorem plan_read {r : List (Bool × Nat)} {i : Nat} {a : Act} {w : World} {o : Oper} {v : Value} (hi : ops[i]? = some o) (hS : S w) (hw : Region.wanted o (yielded ops a.tmps) = true) (hd : ∀ u, S u → (execOp a.eval o).run P u = .ok (.value v) u) (h : wpPlan P ops Q S W r (a.put o.dst v) w) : wpPlan P ops Q S W ((true, i) :: r) a w := by
  refine ⟨hS, o, v, hi, fun u hu => ?_, h⟩
  rw [if_pos hw]
  unfold Oper.still
  rw [hd u hu, Oper.stillUpon_value]

/-- A read, its slot by number. -/
theorem plan_get {r : List (Bool × Nat)} {i : Nat} {t : Array Value} {df : List Deferred} {w : World} {o : Oper} {v : Value} {d : Nat} {t' : Array Value} (hi : ops[i]? = some o) (hd : o.dst = some d) (hS : S w)
    (hw : Region.wanted o (yielded ops t) = true) (hr : ∀ u, S u → (execOp (Act.eval ⟨t, df⟩) o).run P u = .ok (.value v) u) (ht : t.setIfInBounds d v = t') (h : wpPlan P ops Q S W r ⟨t', df⟩ w) : wpPlan P ops Q S W ((true, i) :: r) ⟨t, df⟩ w := by
  refine plan_read hi hS hw hr ?_
  subst ht
  rw [hd]
  exact h

/-- A read whose guard is false. -/
theorem plan_skip {r : List (Bool × Nat)} {i : Nat} {a : Act} {w : World} {o : Oper} (hi : ops[i]? = some o) (hS : S w) (hw : Region.wanted o (yielded ops a.tmps) = false) (h : wpPlan P ops Q S W r (a.put o.dst undef) w) : wpPlan P ops Q S W ((true, i) :: r) a w := by
  refine ⟨hS, o, undef, hi, fun u hu => ?_, h⟩
  rw [if_neg (by simp [hw])]

/-- What is left behind an operation that turns the world. -/
def after (P : Program) (ops : Array Oper) (Q : Exit → Act → World → Prop) (S : World → Prop) (W : Nat → Bool) (i : Nat) (r : List (Bool × Nat)) : Exit → Act → World → Prop
  | .normal, b, u => (W i = true → S u) ∧ wpPlan P ops Q S W r b u
  | x, b, u => Q x b u

theorem after_next {r : List (Bool × Nat)} {i : Nat} {a : Act} {w : World} (hS : W i = true → S w) (h : wpPlan P ops Q S W r a w) : after P ops Q S W i r .normal a w := ⟨hS, h⟩

/-- What turns the world: as the plain walk has it. -/
theorem plan_one {r : List (Bool × Nat)} {i : Nat} {a : Act} {w : World} {o : Oper} (hi : ops[i]? = some o)
    (h : wpList P ops (after P ops Q S W i r) [o] a w) : wpPlan P ops Q S W ((false, i) :: r) a w := by
  unfold wpPlan wpOp
  rw [hi]
  unfold wpList at h
  simp only
  by_cases hw : Region.wanted o (yielded ops a.tmps) = true
  · rw [if_pos hw] at h ⊢
    rcases h with h | ⟨hk, b, u, hl⟩
    · left
      unfold Oper.wp at h ⊢
      generalize (execOp a.eval o).run P w = x at h ⊢
      cases x with
      | ok n u =>
        cases n <;> simp only [Oper.upon] at h ⊢
        case value y => exact h
        case skip => exact h
        case defer d => exact h
        case enter f args =>
          refine h.mono fun e u' he => ?_
          cases e with
          | returned y => exact he
          | panicked c => exact he
          | outgrown => obtain ⟨b, u, hl⟩ := he; exact ⟨b, u, hl⟩
        case row row args => exact h.mono fun y u' he => he
      | halt x u => cases x <;> simp only [Oper.upon] at h ⊢ <;> exact h
    · exact Or.inr ⟨hk, b, u, hl⟩
  · rw [if_neg hw] at h ⊢
    exact h

theorem plan_done {a : Act} {w : World} (h : Q .normal a w) : wpPlan P ops Q S W [] a w := h
end
end Go.Proofs.YtopgepifakdpfaaDoor
