/- A node: its four tables side by side, and how a change of one leaves the others. -/
import Derived.Test.YtieoejilppgebaaNdMarkerU
import Derived.Test.YtieoejilppgebaaNdItT
import Derived.Test.YtieoejilppgebaaNdLeaseA
import Derived.Test.YtieoejilppgebaaNdHoldV
namespace Go.Proofs.Ytieoejilppgebaa
open Go Go.RowKit Go.Maps

abbrev LL := List (Lit × (Int × Int))
abbrev HL := List (Lit × Int)
abbrev MK := Mk.MK
abbrev TH := It.TH
abbrev IT := It.IT
/-- A node's blocks. -/
structure NB where
  nb : Nat
  mt : Nat
  mm : Nat
  cb : Nat
  cm : Nat
  lt : Nat
  lm : Nat
  ht : Nat
  hm : Nat
/-- What a node has. -/
structure NS where
  M : List MK
  room : Int
  kept : Int
  N : List TH
  last : Int
  L : LL
  fl : Int
  H : HL
  cold : Bool
  since : Int

structure Nd (w : World) (b : NB) (s : NS) : Prop where
  blk : w.heap[b.nb]? = some (.cells #[.pointer (some ⟨b.mt, 0, none⟩), .pointer (some ⟨b.cb, 0, none⟩), .pointer (some ⟨b.lt, 0, none⟩), .pointer (some ⟨b.ht, 0, none⟩), .bool s.cold, .int .i64 s.since] 75 (0, 0))
  mks : Mk.Tab w b.mt b.mm 32 s.M
  it : It.Lru w b.cb b.cm s.room s.kept s.N
  ls : Ls.Tab w b.lt b.lm 32 10 s.last s.L
  hd : Hd.Tab w b.ht b.hm 32 s.fl s.H
  n1 : b.mm ≠ b.cm
  n2 : b.mm ≠ b.lm
  n3 : b.mm ≠ b.hm
  n4 : b.cm ≠ b.lm
  n5 : b.cm ≠ b.hm
  n6 : b.lm ≠ b.hm

/-- The blocks that a node may turn. -/
def NK (b : NB) (N : List TH) (k : Nat) : Prop := k = b.nb ∨ k = b.mt ∨ k = b.mm ∨ It.LS b.cb b.cm N k ∨ k = b.lt ∨ k = b.lm ∨ k = b.ht ∨ k = b.hm

/-! ### blocks by their kinds -/
def Sh (w : World) (k : Nat) (t : TypeId) : Prop := ∃ c f, w.heap[k]? = some (.cells c t f)
def Mp (w : World) (k : Nat) : Prop := ∃ es c, w.heap[k]? = some (.map es c)
theorem sh_ne {w : World} {a b : Nat} {t t' : TypeId} (h : Sh w a t) (h' : Sh w b t') (hn : t ≠ t') : a ≠ b := by
  obtain ⟨c, f, h⟩ := h
  obtain ⟨c', f', h'⟩ := h'
  rintro rfl
  rw [h] at h'
  cases h'
  exact hn rfl
theorem sh_mp {w : World} {a b : Nat} {t : TypeId} (h : Sh w a t) (h' : Mp w b) : a ≠ b := by
  obtain ⟨c, f, h⟩ := h
  obtain ⟨c', f', h'⟩ := h'
  rintro rfl
  rw [h] at h'
  cases h'
theorem Sh.lt {w : World} {a : Nat} {t : TypeId} (h : Sh w a t) : a < w.heap.size := by obtain ⟨c, f, h⟩ := h; exact blk_lt h
theorem Mp.lt {w : World} {a : Nat} (h : Mp w a) : a < w.heap.size := by obtain ⟨c, f, h⟩ := h; exact blk_lt h
theorem mp_of {kt : TypeId} {β : Type} {enc : β → Value} {w : World} {mb : Nat} {L : List (Lit × β)} (h : MapAt Try.prog kt enc w mb L) : Mp w mb := by
  obtain ⟨es, clock, hb, _⟩ := h
  exact ⟨es, clock, hb⟩

section
variable {w w' : World} {b : NB} {s : NS}
theorem Nd.snb (D : Nd w b s) : Sh w b.nb 75 := ⟨_, _, D.blk⟩
theorem Nd.smt (D : Nd w b s) : Sh w b.mt 95 := ⟨_, _, D.mks.blk⟩
theorem Nd.scb (D : Nd w b s) : Sh w b.cb 103 := ⟨_, _, D.it.ring.blk⟩
theorem Nd.slt (D : Nd w b s) : Sh w b.lt 112 := ⟨_, _, D.ls.blk⟩
theorem Nd.sht (D : Nd w b s) : Sh w b.ht 123 := ⟨_, _, D.hd.blk⟩
theorem Nd.mmm (D : Nd w b s) : Mp w b.mm := by obtain ⟨L, h, _⟩ := D.mks.map; exact mp_of h
theorem Nd.mcm (D : Nd w b s) : Mp w b.cm := D.it.leads.map
theorem Nd.mlm (D : Nd w b s) : Mp w b.lm := mp_of D.ls.map
theorem Nd.mhm (D : Nd w b s) : Mp w b.hm := mp_of D.hd.map
theorem Nd.sx (D : Nd w b s) {x : TH} (hx : x ∈ s.N) : Sh w x.b 120 := by
  obtain ⟨p, n, h⟩ := D.it.ring.seg.mem x hx
  exact ⟨_, _, h⟩
/-- A block of another kind is none of the cache's. -/
theorem Nd.ls_sh (D : Nd w b s) {k : Nat} {t : TypeId} (h : Sh w k t) (h1 : t ≠ 103) (h2 : t ≠ 120) : ¬ It.LS b.cb b.cm s.N k := by
  rintro (e | e | ⟨y, hy, e⟩)
  · exact sh_mp h D.mcm e
  · exact sh_ne h D.scb h1 e
  · exact sh_ne h (D.sx hy) h2 e.symm
theorem Nd.ls_mp (D : Nd w b s) {k : Nat} (h : Mp w k) (h1 : k ≠ b.cm) : ¬ It.LS b.cb b.cm s.N k := by
  rintro (e | e | ⟨y, hy, e⟩)
  · exact h1 e
  · exact sh_mp D.scb h e.symm
  · exact sh_mp (D.sx hy) h e
theorem Nd.lt (D : Nd w b s) {k : Nat} (h : NK b s.N k) : k < w.heap.size := by
  rcases h with e | e | e | (e | e | ⟨y, hy, e⟩) | e | e | e | e <;> subst e
  · exact D.snb.lt
  · exact D.smt.lt
  · exact D.mmm.lt
  · exact D.mcm.lt
  · exact D.scb.lt
  · exact (D.sx hy).lt
  · exact D.slt.lt
  · exact D.mlm.lt
  · exact D.sht.lt
  · exact D.mhm.lt

theorem Nd.keep {S : Nat → Prop} (D : Nd w b s) (hk : Keep S w w') (h : ∀ k, NK b s.N k → ¬ S k) : Nd w' b s :=
  ⟨blk_keep D.blk hk (h _ (Or.inl rfl)), D.mks.keep hk (h _ (Or.inr (Or.inl rfl))) (h _ (Or.inr (Or.inr (Or.inl rfl)))),
   D.it.keep hk (fun k hk' => h _ (Or.inr (Or.inr (Or.inr (Or.inl hk'))))),
   D.ls.keep hk (h _ (Or.inr (Or.inr (Or.inr (Or.inr (Or.inl rfl)))))) (h _ (Or.inr (Or.inr (Or.inr (Or.inr (Or.inr (Or.inl rfl))))))),
   D.hd.keep hk (h _ (Or.inr (Or.inr (Or.inr (Or.inr (Or.inr (Or.inr (Or.inl rfl)))))))) (h _ (Or.inr (Or.inr (Or.inr (Or.inr (Or.inr (Or.inr (Or.inr rfl)))))))),
   D.n1, D.n2, D.n3, D.n4, D.n5, D.n6⟩
theorem Nd.keep0 (D : Nd w b s) (hk : Keep NoB w w') : Nd w' b s := D.keep hk (fun _ _ h => h)

/-- What a call leaves of a node. -/
structure NPost (w w' : World) (b : NB) (s s' : NS) : Prop where
  D : Nd w' b s'
  K : Keep (NK b s.N) w w'
  F : ∀ x ∈ s'.N, x ∈ s.N ∨ w.heap.size ≤ x.b
theorem NPost.refl0 (D : Nd w b s) (hk : Keep NoB w w') : NPost w w' b s s := ⟨D.keep0 hk, hk.none, fun x hx => Or.inl hx⟩
theorem NPost.trans {w'' : World} {s' s'' : NS} (P : NPost w w' b s s') (Q : NPost w' w'' b s' s'') : NPost w w'' b s s'' := by
  refine ⟨Q.D, P.K.trans' Q.K (fun i hi h => ?_), fun x hx => ?_⟩
  · rcases h with e | e | e | (e | e | ⟨y, hy, e⟩) | e | e | e | e
    · exact Or.inl e
    · exact Or.inr (Or.inl e)
    · exact Or.inr (Or.inr (Or.inl e))
    · exact Or.inr (Or.inr (Or.inr (Or.inl (Or.inl e))))
    · exact Or.inr (Or.inr (Or.inr (Or.inl (Or.inr (Or.inl e)))))
    · rcases P.F y hy with h1 | h1
      · exact Or.inr (Or.inr (Or.inr (Or.inl (Or.inr (Or.inr ⟨y, h1, e⟩)))))
      · omega
    · exact Or.inr (Or.inr (Or.inr (Or.inr (Or.inl e))))
    · exact Or.inr (Or.inr (Or.inr (Or.inr (Or.inr (Or.inl e)))))
    · exact Or.inr (Or.inr (Or.inr (Or.inr (Or.inr (Or.inr (Or.inl e))))))
    · exact Or.inr (Or.inr (Or.inr (Or.inr (Or.inr (Or.inr (Or.inr e))))))
  · rcases Q.F x hx with h1 | h1
    · exact P.F x h1
    · exact Or.inr (Nat.le_trans P.K.size h1)
theorem NPost.keep0 {w'' : World} {s' : NS} (P : NPost w w' b s s') (hk : Keep NoB w' w'') : NPost w w'' b s s' := P.trans (NPost.refl0 P.D hk)
theorem NPost.pre {w0 : World} {s' : NS} (hk : Keep NoB w0 w) (P : NPost w w' b s s') (D : Nd w0 b s) : NPost w0 w' b s s' := (NPost.refl0 D hk).trans P

/-! ### one table turns -/
theorem Nd.setM (D : Nd w b s) {M' : List MK} (T : Mk.Tab w' b.mt b.mm 32 M') (hk : Keep (OneB b.mm) w w') : NPost w w' b s { s with M := M' } := by
  have nm : ∀ {k : Nat} {t : TypeId}, Sh w k t → ¬ OneB b.mm k := fun h e => sh_mp h D.mmm e
  refine ⟨⟨blk_keep D.blk hk (nm D.snb), T, D.it.keep hk (fun k h e => ?_), D.ls.keep hk (nm D.slt) (fun e => D.n2 (Eq.symm e)), D.hd.keep hk (nm D.sht) (fun e => D.n3 (Eq.symm e)), D.n1, D.n2, D.n3, D.n4, D.n5, D.n6⟩, hk.mono (fun i e => Or.inr (Or.inr (Or.inl e))), fun x hx => Or.inl hx⟩
  have e' : k = b.mm := e
  subst e'
  exact D.ls_mp D.mmm D.n1 h
theorem Nd.setI (D : Nd w b s) {kept' : Int} {N' : List TH} (T : It.Lru w' b.cb b.cm s.room kept' N') (hk : Keep (It.LS b.cb b.cm s.N) w w') (hF : ∀ x ∈ N', x ∈ s.N ∨ w.heap.size ≤ x.b) : NPost w w' b s { s with kept := kept', N := N' } :=
  ⟨⟨blk_keep D.blk hk (D.ls_sh D.snb (by decide) (by decide)), D.mks.keep hk (D.ls_sh D.smt (by decide) (by decide)) (D.ls_mp D.mmm D.n1), T, D.ls.keep hk (D.ls_sh D.slt (by decide) (by decide)) (D.ls_mp D.mlm (Ne.symm D.n4)), D.hd.keep hk (D.ls_sh D.sht (by decide) (by decide)) (D.ls_mp D.mhm (Ne.symm D.n5)), D.n1, D.n2, D.n3, D.n4, D.n5, D.n6⟩, hk.mono (fun i e => Or.inr (Or.inr (Or.inr (Or.inl e)))), hF⟩
theorem Nd.setL (D : Nd w b s) {last' : Int} {L' : LL} (T : Ls.Tab w' b.lt b.lm 32 10 last' L') (hk : Keep (TwoB b.lt b.lm) w w') : NPost w w' b s { s with last := last', L := L' } := by
  have nm : ∀ {k : Nat} {t : TypeId}, Sh w k t → t ≠ 112 → ¬ TwoB b.lt b.lm k := fun h ht e => e.elim (fun e => sh_ne h D.slt ht e) (fun e => sh_mp h D.mlm e)
  have mp : ∀ {k : Nat}, Mp w k → k ≠ b.lm → ¬ TwoB b.lt b.lm k := fun h ht e => e.elim (fun e => sh_mp D.slt h e.symm) (fun e => ht e)
  refine ⟨⟨blk_keep D.blk hk (nm D.snb (by decide)), D.mks.keep hk (nm D.smt (by decide)) (mp D.mmm D.n2), D.it.keep hk (fun k h e => ?_), T, D.hd.keep hk (nm D.sht (by decide)) (mp D.mhm (Ne.symm D.n6)), D.n1, D.n2, D.n3, D.n4, D.n5, D.n6⟩, hk.mono (fun i e => e.elim (fun e => Or.inr (Or.inr (Or.inr (Or.inr (Or.inl e))))) (fun e => Or.inr (Or.inr (Or.inr (Or.inr (Or.inr (Or.inl e))))))), fun x hx => Or.inl hx⟩
  rcases e with e | e <;> subst e
  · exact D.ls_sh D.slt (by decide) (by decide) h
  · exact D.ls_mp D.mlm (Ne.symm D.n4) h
theorem Nd.setH (D : Nd w b s) {fl' : Int} {H' : HL} (T : Hd.Tab w' b.ht b.hm 32 fl' H') (hk : Keep (TwoB b.ht b.hm) w w') : NPost w w' b s { s with fl := fl', H := H' } := by
  have nm : ∀ {k : Nat} {t : TypeId}, Sh w k t → t ≠ 123 → ¬ TwoB b.ht b.hm k := fun h ht e => e.elim (fun e => sh_ne h D.sht ht e) (fun e => sh_mp h D.mhm e)
  have mp : ∀ {k : Nat}, Mp w k → k ≠ b.hm → ¬ TwoB b.ht b.hm k := fun h ht e => e.elim (fun e => sh_mp D.sht h e.symm) (fun e => ht e)
  refine ⟨⟨blk_keep D.blk hk (nm D.snb (by decide)), D.mks.keep hk (nm D.smt (by decide)) (mp D.mmm D.n3), D.it.keep hk (fun k h e => ?_), D.ls.keep hk (nm D.slt (by decide)) (mp D.mlm D.n6), T, D.n1, D.n2, D.n3, D.n4, D.n5, D.n6⟩, hk.mono (fun i e => e.elim (fun e => Or.inr (Or.inr (Or.inr (Or.inr (Or.inr (Or.inr (Or.inl e))))))) (fun e => Or.inr (Or.inr (Or.inr (Or.inr (Or.inr (Or.inr (Or.inr e)))))))), fun x hx => Or.inl hx⟩
  rcases e with e | e <;> subst e
  · exact D.ls_sh D.sht (by decide) (by decide) h
  · exact D.ls_mp D.mhm (Ne.symm D.n5) h
/-- The node's own block turns. -/
theorem Nd.setC (D : Nd w b s) {cold' : Bool} {since' : Int} (hb : w'.heap[b.nb]? = some (.cells #[.pointer (some ⟨b.mt, 0, none⟩), .pointer (some ⟨b.cb, 0, none⟩), .pointer (some ⟨b.lt, 0, none⟩), .pointer (some ⟨b.ht, 0, none⟩), .bool cold', .int .i64 since'] 75 (0, 0))) (hk : Keep (OneB b.nb) w w') : NPost w w' b s { s with cold := cold', since := since' } := by
  have nm : ∀ {k : Nat} {t : TypeId}, Sh w k t → t ≠ 75 → ¬ OneB b.nb k := fun h ht e => sh_ne h D.snb ht e
  have mp : ∀ {k : Nat}, Mp w k → ¬ OneB b.nb k := fun h e => sh_mp D.snb h (Eq.symm e)
  refine ⟨⟨hb, D.mks.keep hk (nm D.smt (by decide)) (mp D.mmm), D.it.keep hk (fun k h e => ?_), D.ls.keep hk (nm D.slt (by decide)) (mp D.mlm), D.hd.keep hk (nm D.sht (by decide)) (mp D.mhm), D.n1, D.n2, D.n3, D.n4, D.n5, D.n6⟩, hk.mono (fun i e => Or.inl e), fun x hx => Or.inl hx⟩
  have e' : k = b.nb := e
  subst e'
  exact D.ls_sh D.snb (by decide) (by decide) h
theorem Nd.nk_sh (D : Nd w b s) {k : Nat} {t : TypeId} (h : Sh w k t) (h1 : t ≠ 75) (h2 : t ≠ 95) (h3 : t ≠ 103) (h4 : t ≠ 120) (h5 : t ≠ 112) (h6 : t ≠ 123) : ¬ NK b s.N k := by
  rintro (e | e | e | e | e | e | e | e)
  · exact sh_ne h D.snb h1 e
  · exact sh_ne h D.smt h2 e
  · exact sh_mp h D.mmm e
  · exact D.ls_sh h h3 h4 e
  · exact sh_ne h D.slt h5 e
  · exact sh_mp h D.mlm e
  · exact sh_ne h D.sht h6 e
  · exact sh_mp h D.mhm e
/-- A block of the call's own turns. -/
theorem NPost.store {w'' : World} {s' : NS} (P : NPost w w' b s s') {r : Nat} {t : TypeId} (hr : w.heap.size ≤ r) (h : Sh w' r t) (h1 : t ≠ 75) (h2 : t ≠ 95) (h3 : t ≠ 103) (h4 : t ≠ 120) (h5 : t ≠ 112) (h6 : t ≠ 123) (hk : Keep (OneB r) w' w'') : NPost w w'' b s s' :=
  ⟨P.D.keep hk (fun k hk' e => P.D.nk_sh h h1 h2 h3 h4 h5 h6 (by have e' : k = r := e; rw [← e']; exact hk')), P.K.trans' hk (fun i hi e => by have e' : i = r := e; omega), P.F⟩
/-- Such a block stays where the node turns. -/
theorem NPost.blk {s' : NS} (P : NPost w w' b s s') {r : Nat} {c : Array Value} {t : TypeId} {f : Nat × Nat} (h : w.heap[r]? = some (.cells c t f)) (D : Nd w b s) (h1 : t ≠ 75) (h2 : t ≠ 95) (h3 : t ≠ 103) (h4 : t ≠ 120) (h5 : t ≠ 112) (h6 : t ≠ 123) : w'.heap[r]? = some (.cells c t f) :=
  blk_keep h P.K (D.nk_sh ⟨c, f, h⟩ h1 h2 h3 h4 h5 h6)
end

theorem sumS_le {N : List TH} {c : Int} (h : ∀ x ∈ N, x.s ≤ c) (hc : 0 ≤ c) : It.sumS N ≤ c * N.length := by
  induction N with
  | nil => simp [It.sumS]
  | cons x N ih =>
    have h1 := h x (by simp)
    have h2 := ih (fun y hy => h y (by simp [hy]))
    rw [It.sumS_cons]
    have : (((x :: N).length : Nat) : Int) = (N.length : Int) + 1 := by simp
    rw [this, Int.mul_add]
    omega
end Go.Proofs.Ytieoejilppgebaa
