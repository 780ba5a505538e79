/- The law's model of a log in memory. -/
import Derived.Test.YtbafnlccpbonmaaGreatDoorSep
import Derived.Test.YtbafnlccpbonmaaGreatDoorRd3
namespace Go.Proofs.YtbafnlccpbonmaaGreatDoor
set_option linter.unusedVariables false
set_option linter.unnecessarySimpa false
set_option linter.unusedSimpArgs false
open Go.RowKit

structure Sh where
  limit : Int
  recs : List (List UInt8)
  segs : List Nat
  size : Nat
  first : Nat
  dur : Nat
def strB (l : List (List UInt8)) : List Value := l.map fun b => .string (B b)
def Sh.cells (s : Sh) (A1 : Option Addr) (c1 : Nat) (A2 : Option Addr) (c2 : Nat) : List Value :=
  [.int .i64 s.limit, .slice A1 s.recs.length c1, .slice A2 s.segs.length c2, .int .i64 (s.size : Int), .int .i64 (s.first : Int), .int .i64 (s.dur : Int)]
structure ShR (w : World) (p : Nat) (s : Sh) (A1 : Option Addr) (c1 : Nat) (A2 : Option Addr) (c2 : Nat) : Prop where
  box : Bx w p (s.cells A1 c1 A2 c2)
  recs : OwnO w 0 1 A1 s.recs.length c1 (strB s.recs)
  segs : OwnO w 0 1 A2 s.segs.length c2 (natsC s.segs)
  n1 : ∀ ad, A1 = some ad → ad.block ≠ p
  n2 : ∀ ad, A2 = some ad → ad.block ≠ p
  n12 : ∀ a1 a2, A1 = some a1 → A2 = some a2 → a1.block ≠ a2.block
def hasS (p : Nat) (A1 A2 : Option Addr) (x : Nat) : Prop := x = p ∨ (∃ ad, A1 = some ad ∧ ad.block = x) ∨ ∃ ad, A2 = some ad ∧ ad.block = x
def shT (p : Nat) (s : Sh) : Thing := fun S w => ∃ A1 c1 A2 c2, ShR w p s A1 c1 A2 c2 ∧ ∀ x, S x ↔ hasS p A1 A2 x
section
variable {w w' w2 w3 : World} {p : Nat} {s s' : Sh} {A1 A2 A1' A2' : Option Addr} {c1 c2 c1' c2' : Nat} {S : Nat → Prop}
theorem ShR.lt (h : ShR w p s A1 c1 A2 c2) {x : Nat} (hx : hasS p A1 A2 x) : x < w.heap.size := by
  rcases hx with rfl | ⟨ad, ha, rfl⟩ | ⟨ad, ha, rfl⟩
  · exact h.box.lt
  · exact (h.recs.lt ha).1
  · exact (h.segs.lt ha).1
theorem ShR.keep (h : ShR w p s A1 c1 A2 c2) (hs : w.heap.size ≤ w'.heap.size) (hk : ∀ x, hasS p A1 A2 x → w'.heap[x]? = w.heap[x]?) : ShR w' p s A1 c1 A2 c2 :=
  ⟨h.box.block hs (hk _ (.inl rfl)), h.recs.block hs fun ad ha => hk _ (.inr (.inl ⟨ad, ha, rfl⟩)), h.segs.block hs fun ad ha => hk _ (.inr (.inr ⟨ad, ha, rfl⟩)), h.n1, h.n2, h.n12⟩
theorem ShR.grow (h : ShR w p s A1 c1 A2 c2) (hb : Below w.heap.size w w') : ShR w' p s A1 c1 A2 c2 := h.keep hb.size fun x hx => hb.block x (h.lt hx)
theorem shT_frm (p : Nat) (s : Sh) : Frm (shT p s) := by
  refine ⟨fun {S w x} h hx => ?_, fun {S w w'} h hs hk => ?_⟩
  · obtain ⟨A1, c1, A2, c2, h1, h2⟩ := h
    exact h1.lt ((h2 x).1 hx)
  · obtain ⟨A1, c1, A2, c2, h1, h2⟩ := h
    exact ⟨A1, c1, A2, c2, h1.keep hs fun x hx => hk x ((h2 x).2 hx), h2⟩
/-- Cells of numbers are written. -/
theorem ShR.put (h : ShR w p s A1 c1 A2 c2) {i : Nat} {v : Value} (he : (s.cells A1 c1 A2 c2).set i v = s'.cells A1 c1 A2 c2) (hr : s'.recs = s.recs) (hg : s'.segs = s.segs) : ShR (w.setCell ⟨p, i, none⟩ v) p s' A1 c1 A2 c2 := by
  have hk : ∀ x, x ≠ p → (w.setCell ⟨p, i, none⟩ v).heap[x]? = w.heap[x]? := fun x hx => Below.heap_setCell _ _ _ _ hx
  have hs : w.heap.size ≤ (w.setCell ⟨p, i, none⟩ v).heap.size := by simp [World.setCell]
  exact ⟨h.box.put he, by rw [hr]; exact h.recs.block hs fun ad ha => hk _ (h.n1 ad ha), by rw [hg]; exact h.segs.block hs fun ad ha => hk _ (h.n2 ad ha), h.n1, h.n2, h.n12⟩
/-- How a model changes. -/
def ShX (w0 w : World) (p : Nat) (S0 : Nat → Prop) (s : Sh) : Prop := ∃ A1 c1 A2 c2, ShR w p s A1 c1 A2 c2 ∧ (∀ x, hasS p A1 A2 x → S0 x ∨ w0.heap.size ≤ x) ∧ DChg S0 w0 w
theorem ShX.ret {w0 : World} {S0 : Nat → Prop} (h : ShX w0 w p S0 s) : RetT (shT p s) S0 w0 w := by
  obtain ⟨A1, c1, A2, c2, h1, h2, h3⟩ := h
  exact ⟨hasS p A1 A2, ⟨A1, c1, A2, c2, h1, fun x => Iff.rfl⟩, h2, h3⟩
theorem ShX.start (h : shT p s S w) : ShX w w p S s := by
  obtain ⟨A1, c1, A2, c2, h1, h2⟩ := h
  exact ⟨A1, c1, A2, c2, h1, fun x hx => .inl ((h2 x).2 hx), DChg.refl _ _⟩
end
/-- The named form. -/
structure ShN (w0 w : World) (p : Nat) (S0 : Nat → Prop) (s : Sh) (A1 : Option Addr) (c1 : Nat) (A2 : Option Addr) (c2 : Nat) : Prop where
  r : ShR w p s A1 c1 A2 c2
  old : ∀ x, hasS p A1 A2 x → S0 x ∨ w0.heap.size ≤ x
  chg : DChg S0 w0 w
section
variable {w0 w w' w2 w3 : World} {p : Nat} {s s' : Sh} {A1 A2 A1' A2' : Option Addr} {c1 c2 c1' c2' : Nat} {S0 : Nat → Prop}
theorem ShX.named (h : ShX w0 w p S0 s) : ∃ A1 c1 A2 c2, ShN w0 w p S0 s A1 c1 A2 c2 := by
  obtain ⟨A1, c1, A2, c2, h1, h2, h3⟩ := h
  exact ⟨A1, c1, A2, c2, h1, h2, h3⟩
theorem ShN.x (h : ShN w0 w p S0 s A1 c1 A2 c2) : ShX w0 w p S0 s := ⟨A1, c1, A2, c2, h.r, h.old, h.chg⟩
theorem ShN.grow (h : ShN w0 w p S0 s A1 c1 A2 c2) (hb : Below w.heap.size w w') : ShN w0 w' p S0 s A1 c1 A2 c2 :=
  ⟨h.r.grow hb, h.old, h.chg.trans (DChg.of_below (S := fun _ => False) hb) fun x hx => absurd hx id⟩
theorem ShN.put (h : ShN w0 w p S0 s A1 c1 A2 c2) {i : Nat} {v : Value} (he : (s.cells A1 c1 A2 c2).set i v = s'.cells A1 c1 A2 c2) (hr : s'.recs = s.recs) (hg : s'.segs = s.segs) : ShN w0 (w.setCell ⟨p, i, none⟩ v) p S0 s' A1 c1 A2 c2 := by
  refine ⟨h.r.put he hr hg, h.old, h.chg.trans ((DChg.refl (fun x => x = p) w).setCell rfl _ _) fun x hx => ?_⟩
  subst hx
  exact h.old x (.inl rfl)
theorem mapn {A : Option Addr} {x : Nat} (h : ∀ ad, A = some ad → ad.block ≠ x) : some x ≠ A.map (·.block) := fun e => by
  rcases A with _ | ad
  · cases e
  · simp at e
    exact h ad rfl e.symm
theorem map_or {A A' : Option Addr} {n : Nat} (h : A'.map (·.block) = A.map (·.block) ∨ A'.map (·.block) = some n) {ad : Addr} (ha : A' = some ad) : (∃ ap, A = some ap ∧ ad.block = ap.block) ∨ ad.block = n := by
  subst ha
  rcases h with h | h
  · rcases A with _ | ap
    · simp at h
    · simp at h
      exact .inl ⟨ap, rfl, h⟩
  · simp at h
    exact .inr h
/-- A record more. -/
theorem ShN.addRec {d : List UInt8} (h : ShN w0 w p S0 s A1 c1 A2 c2) (hb : Below w.heap.size w w2) (ho : OwnO w3 0 1 A1' (s.recs.length + 1) c1' (strB s.recs ++ [.string (B d)])) (hg : w2.grownBy w3 (A1.map (·.block)))
    (hP : A1'.map (·.block) = A1.map (·.block) ∨ A1'.map (·.block) = some w2.heap.size) : ShN w0 (w3.setCell ⟨p, 1, none⟩ (.slice A1' (s.recs.length + 1) c1')) p S0 { s with recs := s.recs ++ [d] } A1' c1' A2 c2 := by
  have hp := h.r.box.lt
  have hs2 := hb.size
  have hs3 := hg.size
  have hA' : ∀ ad, A1' = some ad → (∃ ap, A1 = some ap ∧ ad.block = ap.block) ∨ ad.block = w2.heap.size := fun ad ha => map_or hP ha
  have hk3 : ∀ x, x < w.heap.size → (∀ ad, A1 = some ad → ad.block ≠ x) → w3.heap[x]? = w.heap[x]? := fun x hx hn => by
    rw [hg.block x (by omega) (mapn hn), hb.block x hx]
  have hk4 : ∀ x, x ≠ p → (w3.setCell ⟨p, 1, none⟩ (.slice A1' (s.recs.length + 1) c1')).heap[x]? = w3.heap[x]? := fun x hx => Below.heap_setCell _ _ _ _ hx
  have hs4 : w3.heap.size ≤ (w3.setCell ⟨p, 1, none⟩ (.slice A1' (s.recs.length + 1) c1')).heap.size := by simp [World.setCell]
  have hnp : ∀ ad, A1' = some ad → ad.block ≠ p := fun ad ha => by
    rcases hA' ad ha with ⟨ap, hp2, e⟩ | e
    · rw [e]; exact h.r.n1 ap hp2
    · omega
  refine ⟨⟨?_, ?_, ?_, hnp, h.r.n2, fun a1 a2 h1 h2 => ?_⟩, fun x hx => ?_, ?_⟩
  · have : Bx w3 p _ := h.r.box.block (by omega) (hk3 p hp h.r.n1)
    refine this.put ?_
    unfold Sh.cells
    simp
  · rw [show strB ({ s with recs := s.recs ++ [d] } : Sh).recs = strB s.recs ++ [.string (B d)] by unfold strB; rw [List.map_append]; rfl]
    dsimp only
    rw [List.length_append]
    exact ho.block hs4 fun ad ha => hk4 _ (hnp ad ha)
  · exact (h.r.segs.block (by omega) fun ad ha => by
      rw [hk4 _ (h.r.n2 ad ha), hk3 _ (h.r.lt (.inr (.inr ⟨ad, ha, rfl⟩))) fun a1 h1 e => h.r.n12 a1 ad h1 ha e])
  · rcases hA' a1 h1 with ⟨ap, hp2, e⟩ | e
    · rw [e]; exact h.r.n12 ap a2 hp2 h2
    · have := h.r.lt (.inr (.inr ⟨a2, h2, rfl⟩))
      omega
  · have hw0 := h.chg.size
    rcases hx with rfl | ⟨ad, ha, rfl⟩ | ⟨ad, ha, rfl⟩
    · exact h.old _ (.inl rfl)
    · rcases hA' ad ha with ⟨ap, hp2, e⟩ | e
      · rw [e]; exact h.old _ (.inr (.inl ⟨ap, hp2, rfl⟩))
      · exact .inr (by omega)
    · exact h.old _ (.inr (.inr ⟨ad, ha, rfl⟩))
  · refine h.chg.trans (((DChg.of_below (S := hasS p A1 A2) hb).grownBy hg fun x hx => ?_).setCell (.inl rfl) _ _) fun x hx => h.old x hx
    rcases A1 with _ | ad
    · cases hx
    · simp at hx
      exact .inr (.inl ⟨ad, rfl, hx⟩)
/-- A segment more. -/
theorem ShN.addSeg {k : Nat} (h : ShN w0 w p S0 s A1 c1 A2 c2) (hb : Below w.heap.size w w2) (ho : OwnO w3 0 1 A2' (s.segs.length + 1) c2' (natsC s.segs ++ [.int .i64 (k : Int)])) (hg : w2.grownBy w3 (A2.map (·.block)))
    (hP : A2'.map (·.block) = A2.map (·.block) ∨ A2'.map (·.block) = some w2.heap.size) : ShN w0 (w3.setCell ⟨p, 2, none⟩ (.slice A2' (s.segs.length + 1) c2')) p S0 { s with segs := s.segs ++ [k] } A1 c1 A2' c2' := by
  have hp := h.r.box.lt
  have hs2 := hb.size
  have hs3 := hg.size
  have hA' : ∀ ad, A2' = some ad → (∃ ap, A2 = some ap ∧ ad.block = ap.block) ∨ ad.block = w2.heap.size := fun ad ha => map_or hP ha
  have hk3 : ∀ x, x < w.heap.size → (∀ ad, A2 = some ad → ad.block ≠ x) → w3.heap[x]? = w.heap[x]? := fun x hx hn => by
    rw [hg.block x (by omega) (mapn hn), hb.block x hx]
  have hk4 : ∀ x, x ≠ p → (w3.setCell ⟨p, 2, none⟩ (.slice A2' (s.segs.length + 1) c2')).heap[x]? = w3.heap[x]? := fun x hx => Below.heap_setCell _ _ _ _ hx
  have hs4 : w3.heap.size ≤ (w3.setCell ⟨p, 2, none⟩ (.slice A2' (s.segs.length + 1) c2')).heap.size := by simp [World.setCell]
  have hnp : ∀ ad, A2' = some ad → ad.block ≠ p := fun ad ha => by
    rcases hA' ad ha with ⟨ap, hp2, e⟩ | e
    · rw [e]; exact h.r.n2 ap hp2
    · omega
  refine ⟨⟨?_, ?_, ?_, h.r.n1, hnp, fun a1 a2 h1 h2 => ?_⟩, fun x hx => ?_, ?_⟩
  · have : Bx w3 p _ := h.r.box.block (by omega) (hk3 p hp h.r.n2)
    refine this.put ?_
    unfold Sh.cells
    simp
  · exact (h.r.recs.block (by omega) fun ad ha => by
      rw [hk4 _ (h.r.n1 ad ha), hk3 _ (h.r.lt (.inr (.inl ⟨ad, ha, rfl⟩))) fun a2 h2 e => h.r.n12 ad a2 ha h2 e.symm])
  · rw [show natsC ({ s with segs := s.segs ++ [k] } : Sh).segs = natsC s.segs ++ [.int .i64 (k : Int)] by unfold natsC; rw [List.map_append]; rfl]
    dsimp only
    rw [List.length_append]
    exact ho.block hs4 fun ad ha => hk4 _ (hnp ad ha)
  · rcases hA' a2 h2 with ⟨ap, hp2, e⟩ | e
    · rw [e]; exact h.r.n12 a1 ap h1 hp2
    · have := h.r.lt (.inr (.inl ⟨a1, h1, rfl⟩))
      omega
  · have hw0 := h.chg.size
    rcases hx with rfl | ⟨ad, ha, rfl⟩ | ⟨ad, ha, rfl⟩
    · exact h.old _ (.inl rfl)
    · exact h.old _ (.inr (.inl ⟨ad, ha, rfl⟩))
    · rcases hA' ad ha with ⟨ap, hp2, e⟩ | e
      · rw [e]; exact h.old _ (.inr (.inr ⟨ap, hp2, rfl⟩))
      · exact .inr (by omega)
  · refine h.chg.trans (((DChg.of_below (S := hasS p A1 A2) hb).grownBy hg fun x hx => ?_).setCell (.inl rfl) _ _) fun x hx => h.old x hx
    rcases A2 with _ | ad
    · cases hx
    · simp at hx
      exact .inr (.inr ⟨ad, rfl, hx⟩)
/-- Another row of segments, in a fresh block. -/
theorem ShN.newSegs {l : List Nat} (h : ShN w0 w p S0 s A1 c1 A2 c2) (hb : Below w.heap.size w w3) (ho : OwnO w3 w.heap.size 1 A2' l.length c2' (natsC l)) : ShN w0 (w3.setCell ⟨p, 2, none⟩ (.slice A2' l.length c2')) p S0 { s with segs := l } A1 c1 A2' c2' := by
  have hp := h.r.box.lt
  have hs3 := hb.size
  have hk4 : ∀ x, x ≠ p → (w3.setCell ⟨p, 2, none⟩ (.slice A2' l.length c2')).heap[x]? = w3.heap[x]? := fun x hx => Below.heap_setCell _ _ _ _ hx
  have hs4 : w3.heap.size ≤ (w3.setCell ⟨p, 2, none⟩ (.slice A2' l.length c2')).heap.size := by simp [World.setCell]
  have hnp : ∀ ad, A2' = some ad → w.heap.size ≤ ad.block := fun ad ha => (ho.lt ha).2
  refine ⟨⟨?_, ?_, ?_, h.r.n1, fun ad ha => by have := hnp ad ha; omega, fun a1 a2 h1 h2 => ?_⟩, fun x hx => ?_, ?_⟩
  · have : Bx w3 p _ := h.r.box.block (by omega) (hb.block p hp)
    exact this.put (by unfold Sh.cells; simp)
  · exact (h.r.recs.block (by omega) fun ad ha => by rw [hk4 _ (h.r.n1 ad ha), hb.block _ (h.r.lt (.inr (.inl ⟨ad, ha, rfl⟩)))])
  · have := ho.block hs4 fun ad ha => hk4 _ (by have := hnp ad ha; omega)
    exact this.base0
  · have := h.r.lt (.inr (.inl ⟨a1, h1, rfl⟩))
    have := hnp a2 h2
    omega
  · have hw0 := h.chg.size
    rcases hx with rfl | ⟨ad, ha, rfl⟩ | ⟨ad, ha, rfl⟩
    · exact h.old _ (.inl rfl)
    · exact h.old _ (.inr (.inl ⟨ad, ha, rfl⟩))
    · have := hnp ad ha
      exact .inr (by omega)
  · exact h.chg.trans ((DChg.of_below (S := hasS p A1 A2) hb).setCell (.inl rfl) _ _) fun x hx => h.old x hx
end
/-! ### plainly -/
def Sh.need (s : Sh) (z : Nat) : Prop := s.segs = [] ∨ (0 < s.size ∧ s.limit < ((s.size + 16 + z : Nat) : Int))
instance (s : Sh) (z : Nat) : Decidable (s.need z) := by unfold Sh.need; infer_instance
def Sh.app (s : Sh) (d : List UInt8) : Sh :=
  if s.need d.length then ⟨s.limit, s.recs ++ [d], s.segs ++ [s.recs.length + 1], 16 + d.length, s.first, if s.segs = [] then s.dur else s.recs.length⟩
  else ⟨s.limit, s.recs ++ [d], s.segs, s.size + 16 + d.length, s.first, s.dur⟩
def dropS (b : Int) : List Nat → Nat × List Nat
  | x :: y :: l => if (y : Int) ≤ b then ((dropS b (y :: l)).1 + 1, (dropS b (y :: l)).2) else (0, x :: y :: l)
  | l => (0, l)
def Sh.drop (s : Sh) (b : Int) : Sh := ⟨s.limit, s.recs, (dropS b s.segs).2, s.size, match (dropS b s.segs).2 with | [] => s.first | x :: _ => x, s.dur⟩
end Go.Proofs.YtbafnlccpbonmaaGreatDoor
