/- A region that draws, walked by a plan that may part: where two operations that turn the world are both ready, each may come first. -/
import Derived.Test.YtopgepifakdpfaaDoorLibReg
namespace Go.Proofs.YtopgepifakdpfaaDoor
open Go Go.RowKit

/-- The plan: a read; the one operation that is ready; two that are ready, each with what follows it. -/
inductive Pl where
  | done
  | rd (i : Nat) (r : Pl)
  | one (i : Nat) (r : Pl)
  | fork (i : Nat) (r : Pl) (j : Nat) (r' : Pl)

def Pl.len : Pl → Nat
  | .done => 0
  | .rd _ r => r.len + 1
  | .one _ r => r.len + 1
  | .fork _ r _ _ => r.len + 1

section
variable {P : Program} {ops : Array Oper} {Q : Exit → Act → World → Prop} {md : Region.Mode} {S : World → Prop} {W : Nat → Bool}

def wpPl (P : Program) (ops : Array Oper) (Q : Exit → Act → World → Prop) (S : World → Prop) (W : Nat → Bool) : Pl → Act → World → Prop
  | .done, a, w => Q .normal a w
  | .rd i r, a, w => S w ∧ ∃ o v, ops[i]? = some o ∧ Does P ops S o v a ∧ wpPl P ops Q S W r (a.put o.dst v) w
  | .one i r, a, w => wpOp P ops Q i (fun b u => (W i = true → S u) ∧ wpPl P ops Q S W r b u) a w
  | .fork i r j r', a, w => wpOp P ops Q i (fun b u => (W i = true → S u) ∧ wpPl P ops Q S W r b u) a w ∧ wpOp P ops Q j (fun b u => (W j = true → S u) ∧ wpPl P ops Q S W r' b u) a w

def okPl (md : Region.Mode) (ops : Array Oper) (W : Nat → Bool) : Pl → Array Bool → Bool
  | .done, listed => (Region.ready md ops listed).isEmpty
  | .rd i r, listed => (Region.ready md ops listed).contains i && Region.free md ops listed i &&
      ((List.range ops.size).all fun j => j == i || listed.getD j true || W j || (match ops[j]? with | some oj => oj.after.any (fun e => Region.binds md e && e.on == i) | none => true)) && okPl md ops W r (listed.setIfInBounds i true)
  | .one i r, listed => (Region.ready md ops listed == [i]) && okPl md ops W r (listed.setIfInBounds i true)
  | .fork i r j r', listed => (Region.ready md ops listed == [i, j]) && (r.len == r'.len) && okPl md ops W r (listed.setIfInBounds i true) && okPl md ops W r' (listed.setIfInBounds j true)

theorem Reg.of_pl (hs : Region.noSelect ops = true) (hQ : ∀ c b d v u, Q (.panic c) (Act.put b d v) u → Q (.panic c) b u) : ∀ (r : Pl) (listed : Array Bool) (a : Act) (w : World), okPl md ops W r listed = true → wpPl P ops Q S W r a w → Reg P md ops Q S W r.len listed a w
  | .done, listed, a, w, ho, h => ⟨by simpa [okPl] using ho, h⟩
  | .rd i r, listed, a, w, ho, h => by
    simp only [okPl, Bool.and_eq_true] at ho
    obtain ⟨⟨⟨o1, o2⟩, o3⟩, o4⟩ := ho
    obtain ⟨hS, oi, v, hi, hd, h'⟩ := h
    refine Reg.first hi (Region.noSelect_spec hs) (fun c b u => hQ c b _ _ u) r.len listed a w ?_ (by simpa using o1) hd hS (Reg.of_pl hs hQ r _ _ _ o4 h')
    intro j oj hj hne hun hno
    refine ⟨Region.free_spec hi o2 j oj hj hne hun hno, ?_⟩
    have := List.all_eq_true.1 o3 j (List.mem_range.2 (Array.getElem?_eq_some_iff.1 hj).1)
    rw [hj] at this
    simp only [Bool.or_eq_true, beq_iff_eq, Array.any_eq_true', Bool.and_eq_true] at this
    rcases this with ((e | e) | e) | ⟨e, h1, h2, h3⟩
    · exact absurd e hne
    · rw [hun] at e; cases e
    · exact e
    · exact absurd h3 (hno e h1 h2)
  | .one i r, listed, a, w, ho, h => by
    simp only [okPl, Bool.and_eq_true, beq_iff_eq] at ho
    obtain ⟨o1, o2⟩ := ho
    refine ⟨fun e => by (rw [o1] at e; cases e), fun j hj => ?_⟩
    rw [o1] at hj
    obtain rfl : j = i := by simpa using hj
    exact wpOp_mono (fun b u hb => ⟨hb.1, Reg.of_pl hs hQ r _ _ _ o2 hb.2⟩) h
  | .fork i r j r', listed, a, w, ho, h => by
    simp only [okPl, Bool.and_eq_true, beq_iff_eq] at ho
    obtain ⟨⟨⟨o1, o2⟩, o3⟩, o4⟩ := ho
    refine ⟨fun e => by (rw [o1] at e; cases e), fun x hx => ?_⟩
    rw [o1] at hx
    simp only [List.mem_cons, List.not_mem_nil, or_false] at hx
    rcases hx with rfl | rfl
    · exact wpOp_mono (fun b u hb => ⟨hb.1, Reg.of_pl hs hQ r _ _ _ o3 hb.2⟩) h.1
    · exact wpOp_mono (fun b u hb => ⟨hb.1, by have := Reg.of_pl hs hQ r' _ _ _ o4 hb.2; rw [← o2] at this; exact this⟩) h.2
end

/-- The beginning. -/
theorem wp_region_pl {P : Program} {id : Nat} {Q : Exit → Act → World → Prop} {a : Act} {w : World} {l : List Oper} (S : World → Prop) (last : List Nat) (plan : Pl) (hm : P.follows .mixedOrders = true)
    (hs : Region.noSelect l.toArray = true) (hn : plan.len = l.toArray.size) (ho : okPl .any l.toArray (fun i => !last.contains i) plan (Array.replicate l.toArray.size false) = true)
    (hQ : ∀ c b d v u, Q (.panic c) (Act.put b d v) u → Q (.panic c) b u)
    (h : wpPl P l.toArray Q S (fun i => !last.contains i) plan a w.drew) : (Code.region id l.toArray true).wp P Q a w := by
  refine wp_region_any hm ?_
  rw [← hn]
  have := Reg.any _ _ _ _ (Reg.of_pl hs hQ plan _ _ _ ho h)
  rw [← hn] at this
  exact this

section
variable {P : Program} {ops : Array Oper} {Q : Exit → Act → World → Prop} {S : World → Prop} {W : Nat → Bool}

/-- A read, its slot by number. -/
theorem pl_get {r : Pl} {i : Nat} {t : Array Value} {df : List Deferred} {w : World} {o : Oper} {v : Value} {d : Nat} {t' : Array Value} (hi : ops[i]? = some o) (hd : o.dst = some d) (hS : S w)
    (hw : Region.wanted o (yielded ops t) = true) (hr : ∀ u, S u → (execOp (Act.eval ⟨t, df⟩) o).run P u = .ok (.value v) u) (ht : t.setIfInBounds d v = t') (h : wpPl P ops Q S W r ⟨t', df⟩ w) : wpPl P ops Q S W (.rd i r) ⟨t, df⟩ w := by
  refine ⟨hS, o, v, hi, fun u hu => ?_, ?_⟩
  · have hw' : Region.wanted o (yielded ops (Act.mk t df).tmps) = true := hw
    rw [if_pos hw']
    unfold Oper.still
    rw [hr u hu, Oper.stillUpon_value]
  · subst ht
    rw [hd]
    exact h

/-- A read whose guard is false. -/
theorem pl_skip {r : Pl} {i : Nat} {t : Array Value} {df : List Deferred} {w : World} {o : Oper} {d : Nat} {t' : Array Value} (hi : ops[i]? = some o) (hd : o.dst = some d) (hS : S w) (hw : Region.wanted o (yielded ops t) = false) (ht : t.setIfInBounds d undef = t') (h : wpPl P ops Q S W r ⟨t', df⟩ w) : wpPl P ops Q S W (.rd i r) ⟨t, df⟩ w := by
  refine ⟨hS, o, undef, hi, fun u hu => ?_, ?_⟩
  · have hw' : ¬ Region.wanted o (yielded ops (Act.mk t df).tmps) = true := by
      have : Region.wanted o (yielded ops (Act.mk t df).tmps) = false := hw
      simp [this]
    rw [if_neg hw']
  · subst ht
    rw [hd]
    exact h

/-- What is left behind an operation that turns the world. -/
def afterPl (P : Program) (ops : Array Oper) (Q : Exit → Act → World → Prop) (S : World → Prop) (W : Nat → Bool) (i : Nat) (r : Pl) : Exit → Act → World → Prop
  | .normal, b, u => (W i = true → S u) ∧ wpPl P ops Q S W r b u
  | x, b, u => Q x b u
theorem pl_next {r : Pl} {i : Nat} {a : Act} {w : World} (hS : W i = true → S w) (h : wpPl P ops Q S W r a w) : afterPl P ops Q S W i r .normal a w := ⟨hS, h⟩

theorem op_of_list {r : Pl} {i : Nat} {a : Act} {w : World} {o : Oper} (hi : ops[i]? = some o) (h : wpList P ops (afterPl P ops Q S W i r) [o] a w) : wpOp P ops Q i (fun b u => (W i = true → S u) ∧ wpPl P ops Q S W r b u) a w := by
  unfold wpOp
  rw [hi]
  unfold wpList at h
  simp only
  by_cases hw : Region.wanted o (yielded ops a.tmps) = true
  · rw [if_pos hw] at h ⊢
    rcases h with h | ⟨hk, b, u, hl⟩
    · left
      unfold Oper.wp at h ⊢
      generalize (execOp a.eval o).run P w = x at h ⊢
      cases x with
      | ok n u =>
        cases n <;> simp only [Oper.upon] at h ⊢
        case value y => exact h
        case skip => exact h
        case defer d => exact h
        case enter f args =>
          refine h.mono fun e u' he => ?_
          cases e with
          | returned y => exact he
          | panicked c => exact he
          | outgrown => obtain ⟨b, u, hl⟩ := he; exact ⟨b, u, hl⟩
        case row row args => exact h.mono fun y u' he => he
      | halt x u => cases x <;> simp only [Oper.upon] at h ⊢ <;> exact h
    · exact Or.inr ⟨hk, b, u, hl⟩
  · rw [if_neg hw] at h ⊢
    exact h

/-- The one that is ready. -/
theorem pl_one {r : Pl} {i : Nat} {a : Act} {w : World} {o : Oper} (hi : ops[i]? = some o) (h : wpList P ops (afterPl P ops Q S W i r) [o] a w) : wpPl P ops Q S W (.one i r) a w := op_of_list hi h
/-- Two that are ready. -/
theorem pl_fork {r r' : Pl} {i j : Nat} {a : Act} {w : World} {o o' : Oper} (hi : ops[i]? = some o) (hj : ops[j]? = some o') (h : wpList P ops (afterPl P ops Q S W i r) [o] a w) (h' : wpList P ops (afterPl P ops Q S W j r') [o'] a w) : wpPl P ops Q S W (.fork i r j r') a w := ⟨op_of_list hi h, op_of_list hj h'⟩
theorem pl_done {a : Act} {w : World} (h : Q .normal a w) : wpPl P ops Q S W .done a w := h
end
end Go.Proofs.YtopgepifakdpfaaDoor
