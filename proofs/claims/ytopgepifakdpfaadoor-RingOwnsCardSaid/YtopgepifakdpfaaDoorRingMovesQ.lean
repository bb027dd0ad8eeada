/- Three rings side by side: the plain part of RingMoves. -/
import Derived.Test.YtopgepifakdpfaaDoorRingSame
namespace Go.Proofs.YtopgepifakdpfaaDoor
open Go Go.RowKit Go.Maps Go.Sort
set_option maxRecDepth 100000

/-- A ring stands while another one makes its points. -/
theorem Rg.keepR {w w' : World} {B B' rb mb : Nat} {L L' : List BA} (h : Rg w B rb L) (hm : Rg w B' mb L') (hne : mb ≠ rb) (hk : Keep (OneB mb) w w') : Rg w' B rb L := by
  obtain ⟨h0, na, nc, dn, sm, pa, pc, P, h1, h2, h3, h4⟩ := h
  obtain ⟨_, _, _, _, _, _, _, _, m1, _⟩ := hm
  exact ⟨h0, na, nc, dn, sm, pa, pc, P, blk_keep h1 hk (fun e => hne (Eq.symm e)), h2.keep hk (fun g hg e => h2.ne m1 (by decide) g hg e), h3.keep hk (fun g hg e => h3.ne m1 (by decide) g hg e), h4⟩
theorem Rg.lt {w : World} {B rb : Nat} {L : List BA} (h : Rg w B rb L) : rb < w.heap.size := by obtain ⟨_, na, nc, dn, sm, pa, pc, P, h1, _⟩ := h; exact blk_lt h1

/-- A key's owners on a ring, with a node more and with one less. -/
inductive KF (node : BA) (m : Nat) (O O' D : List BA) : Prop
  | none (h1 : O = []) (h2 : O' = [node]) (h3 : D = []) (h4 : m ≠ 8)
  | one (h1 : O = [node]) (h2 : O'.head? = some node) (h3 : D = [])
  | two (c : BA) (r : List BA) (h1 : O = node :: c :: r) (h2 : O'.head? = some node) (h3 : D = c :: r)
  | same (a : BA) (r s : List BA) (h0 : a ≠ node) (h1 : O = a :: r) (h2 : O'.head? = some a) (h3 : D = a :: s)
  | new (a : BA) (r s : List BA) (h0 : a ≠ node) (h1 : O = a :: r) (h2 : O'.head? = some node) (h3 : D = a :: s) (h4 : m ≠ 8)
theorem kf_of {W : BA → Int} {L L' O O' D : List BA} {node : BA} (hr : RiseB L) (h8 : L.length ≤ 8) (hO : Ow W L O) (hN : Nds (L ++ [node]) L') (hO' : Ow W L' O') (hD : Ow W (wo node L) D) : KF node L.length O O' D := by
  have eD : D = wo node O := ow_less hO hD
  have hnd := hO.nodup
  have hcase := nds_with hr h8 hN
  have hmore : ∀ a, a ∈ L → (L' = L ∧ O' = O) ∨ (O'.head? = some node ∨ O'.head? = O.head?) ∧ ¬ node ∈ L ∧ L.length < 8 := by
    intro a ha
    rcases hcase with ⟨rfl, _⟩ | ⟨hp, hx, h9⟩
    · exact Or.inl ⟨rfl, hO'.uniq hO (List.Perm.refl _)⟩
    · exact Or.inr ⟨ow_more hO hx hO' hp, hx, h9⟩
  cases O with
  | nil =>
    have hL : L = [] := hO.1.symm.eq_nil
    subst hL
    rcases hcase with ⟨rfl, h | h⟩ | ⟨hp, _, _⟩
    · simp at h
    · simp at h
    · rw [List.nil_append] at hp
      have e1 : L' = [node] := List.perm_singleton.1 hp
      have e2 : O' = [node] := List.perm_singleton.1 (by rw [← e1]; exact hO'.1)
      exact .none rfl e2 (by rw [eD]; rfl) (by simp)
  | cons a r =>
    have ha : a ∈ L := hO.mem.1 (by simp)
    rw [wo_head hnd] at eD
    by_cases e : a = node
    · subst e
      rw [if_pos rfl] at eD
      have h2 : O'.head? = some a := by
        rcases hmore a ha with ⟨_, rfl⟩ | ⟨_, hx, _⟩
        · rfl
        · exact absurd ha hx
      cases r with
      | nil => exact .one rfl h2 eD
      | cons c r => exact .two c r rfl h2 eD
    · rw [if_neg e] at eD
      rcases hmore a ha with ⟨_, rfl⟩ | ⟨h | h, hx, h9⟩
      · exact .same a r _ e rfl rfl eD
      · exact .new a r _ e rfl h eD (by omega)
      · exact .same a r _ e rfl h eD
/-- Three rings. -/
structure R3 (w : World) (B r1 r2 r3 : Nat) (L1 L2 L3 : List BA) : Prop where
  a : Rg w B r1 L1
  b : Rg w B r2 L2
  c : Rg w B r3 L3
  n12 : r1 ≠ r2
  n13 : r1 ≠ r3
  n23 : r2 ≠ r3
theorem R3.keep0 {w w' : World} {B r1 r2 r3 : Nat} {L1 L2 L3 : List BA} (h : R3 w B r1 r2 r3 L1 L2 L3) (hk : Keep NoB w w') : R3 w' B r1 r2 r3 L1 L2 L3 :=
  ⟨h.a.keep0 hk, h.b.keep0 hk, h.c.keep0 hk, h.n12, h.n13, h.n23⟩
theorem R3.turn1 {w w' : World} {B r1 r2 r3 : Nat} {L1 L2 L3 : List BA} (h : R3 w B r1 r2 r3 L1 L2 L3) (hr : Rg w' B r1 L1) (hk : Keep (OneB r1) w w') : R3 w' B r1 r2 r3 L1 L2 L3 :=
  ⟨hr, h.b.keepR h.a h.n12 hk, h.c.keepR h.a h.n13 hk, h.n12, h.n13, h.n23⟩
theorem R3.turn2 {w w' : World} {B r1 r2 r3 : Nat} {L1 L2 L3 : List BA} (h : R3 w B r1 r2 r3 L1 L2 L3) (hr : Rg w' B r2 L2) (hk : Keep (OneB r2) w w') : R3 w' B r1 r2 r3 L1 L2 L3 :=
  ⟨h.a.keepR h.b h.n12.symm hk, hr, h.c.keepR h.b h.n23 hk, h.n12, h.n13, h.n23⟩
theorem R3.turn3 {w w' : World} {B r1 r2 r3 : Nat} {L1 L2 L3 : List BA} (h : R3 w B r1 r2 r3 L1 L2 L3) (hr : Rg w' B r3 L3) (hk : Keep (OneB r3) w w') : R3 w' B r1 r2 r3 L1 L2 L3 :=
  ⟨h.a.keepR h.c h.n13.symm hk, h.b.keepR h.c h.n23.symm hk, hr, h.n12, h.n13, h.n23⟩
end Go.Proofs.YtopgepifakdpfaaDoor
