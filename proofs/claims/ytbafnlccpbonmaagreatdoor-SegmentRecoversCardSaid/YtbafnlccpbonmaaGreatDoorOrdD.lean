/- XOrd with a second predicate D that holds throughout the region: an operation of kind 0 yields in every world of D, a call of kind 3 keeps D alone. -/
import Derived.Test.YtbafnlccpbonmaaGreatDoorOrd
namespace Go.Proofs.YtbafnlccpbonmaaGreatDoor
set_option linter.unusedVariables false
set_option linter.unnecessarySimpa false
set_option linter.unusedSimpArgs false
open Go.RowKit

section
variable {P : Program} {ops : Array Oper} {md : Region.Mode} {Q : Exit → Act → World → Prop} {C DD : World → Prop} {T : List Nat}
/-- As long as no operation of T has come up, the world is in C. -/
def HoldsD (T : List Nat) (C DD : World → Prop) (listed : Array Bool) (w : World) : Prop := DD w ∧ ((∀ k ∈ T, listed.getD k true = false) → C w)
theorem HoldsD.set {i : Nat} {listed : Array Bool} {w : World} (h : HoldsD T C DD listed w) (hi : i ∉ T) : HoldsD T C DD (listed.setIfInBounds i true) w := ⟨h.1, fun hk => h.2 fun k hkT => by
  have := hk k hkT
  rwa [getD_set_ne true (fun (e : i = k) => hi (by rw [e]; exact hkT))] at this⟩
theorem HoldsD.unset {i : Nat} {listed : Array Bool} {w : World} (h : HoldsD T C DD (listed.setIfInBounds i true) w) (hi : i ∉ T) : HoldsD T C DD listed w := ⟨h.1, fun hk => h.2 fun k hkT => by
  rw [getD_set_ne true (fun (e : i = k) => hi (by rw [e]; exact hkT))]
  exact hk k hkT⟩
def wpAnyTD (P : Program) (md : Region.Mode) (ops : Array Oper) (Q : Exit → Act → World → Prop) (T : List Nat) (C DD : World → Prop) : Nat → Array Bool → Act → World → Prop
  | 0, listed, a, w => Region.ready md ops listed = [] ∧ Q .normal a w
  | fuel + 1, listed, a, w =>
    (Region.ready md ops listed = [] → Q .normal a w) ∧
    ∀ i ∈ Region.ready md ops listed, wpOp P ops Q i (fun a' w' => HoldsD T C DD (listed.setIfInBounds i true) w' ∧ wpAnyTD P md ops Q T C DD fuel (listed.setIfInBounds i true) a' w') a w
theorem wpAny_of_TD : ∀ (fuel : Nat) (listed : Array Bool) (a : Act) (w : World), wpAnyTD P md ops Q T C DD fuel listed a w → wpAny P md ops Q fuel listed a w
  | 0, _, _, _, h => h
  | fuel + 1, _, _, _, h => ⟨h.1, fun i hi => wpOp_mono (fun a' w' h' => wpAny_of_TD fuel _ a' w' h'.2) (h.2 i hi)⟩

theorem wpAnyT_firstD {i : Nat} {oi : Oper} {v : Value} {D : World → Prop} (hi : ops[i]? = some oi) (hsel : ∀ (j : Nat) (o : Oper) cs b, ops[j]? = some o → o.op ≠ .select cs b)
    (hQ : ∀ c a w, Q (.panic c) (a.put oi.dst v) w → Q (.panic c) a w) (hiT : i ∉ T)
    (hD : ∀ l w, HeadInv md ops ops.size l → l.getD i true = false → HoldsD T C DD l w → D w) :
    ∀ (fuel : Nat) (listed : Array Bool) (a : Act) (w : World), HeadInv md ops ops.size listed →
      (∀ j oj, ops[j]? = some oj → j ≠ i → listed.getD j true = false → (∀ e ∈ oj.after, Region.binds md e = true → e.on ≠ i) → oi.apart ops oj = true) →
      i ∈ Region.ready md ops listed → YieldsIf P ops D oi v a → HoldsD T C DD listed w →
      wpAnyTD P md ops Q T C DD fuel (listed.setIfInBounds i true) (a.put oi.dst v) w → wpAnyTD P md ops Q T C DD (fuel + 1) listed a w := by
  intro fuel
  induction fuel with
  | zero =>
    intro listed a w inv hfree hr hy hS H
    refine ⟨fun h => (by rw [h] at hr; cases hr), fun j hj => ?_⟩
    by_cases hji : j = i
    · subst hji; exact hy.wpOp hi (hD _ _ inv (mem_ready.1 hr).1 hS) ⟨hS.set hiT, H⟩
    · have := ready_mono hj hji
      rw [H.1] at this
      cases this
  | succ fuel ih =>
    intro listed a w inv hfree hr hy hS H
    refine ⟨fun h => (by rw [h] at hr; cases hr), fun j hj => ?_⟩
    by_cases hji : j = i
    · subst hji; exact hy.wpOp hi (hD _ _ inv (mem_ready.1 hr).1 hS) ⟨hS.set hiT, H⟩
    · have h1 := H.2 j (ready_mono hj hji)
      obtain ⟨hjun, oj, hoj, hall⟩ := mem_ready.1 hj
      have hnot : ∀ e ∈ oj.after, Region.binds md e = true → e.on ≠ i := fun e he hb heq => by
        have h1 := hall e he hb
        have h0 := (mem_ready.1 hr).1
        rw [heq, getD_both h0] at h1
        cases h1
      have h2 := wpOp_putIf hoj (hfree j oj hoj hji hjun hnot) (fun cs b => hsel i oi cs b hi) (fun cs b => hsel j oj cs b hoj) hQ hy h1
      have hfree' : ∀ k ok, ops[k]? = some ok → k ≠ i → (listed.setIfInBounds j true).getD k true = false →
          (∀ e ∈ ok.after, Region.binds md e = true → e.on ≠ i) → oi.apart ops ok = true := fun k ok hk hki hun hno => by
        refine hfree k ok hk hki ?_ hno
        by_cases hjk : j = k
        · subst hjk; exact hjun
        · rw [getD_set_ne true hjk] at hun; exact hun
      refine wpOp_mono (fun a' w' h3 => ?_) h2
      have h4 : HoldsD T C DD (listed.setIfInBounds j true) w' := by
        refine HoldsD.unset (i := i) ?_ hiT
        rw [Array.setIfInBounds_comm _ _ hji]
        exact h3.2.1
      refine ⟨h4, ih (listed.setIfInBounds j true) a' w' (OInv.set inv hj) hfree' (ready_mono hr (Ne.symm hji)) h3.1 h4 ?_⟩
      rw [Array.setIfInBounds_comm _ _ hji]
      exact h3.2.2

/-- The walk in that order. -/
def wpOrdD (P : Program) (ops : Array Oper) (Q : Exit → Act → World → Prop) (C DD : World → Prop) : List (Nat × Oper) → Act → World → Prop
  | [], a, w => Q .normal a w
  | (0, o) :: l, a, w => ∃ v, YieldsIf P ops DD o v a ∧ wpOrdD P ops Q C DD l (a.put o.dst v) w
  | (1, o) :: l, a, w => ∃ v, YieldsIf P ops C o v a ∧ wpOrdD P ops Q C DD l (a.put o.dst v) w
  | (2, o) :: l, a, w => if Region.wanted o (yielded ops a.tmps) = true then o.wp P a w (fun a' w' => (C w' ∧ DD w') ∧ wpOrdD P ops Q C DD l a' w') Q else wpOrdD P ops Q C DD l (a.put o.dst undef) w
  | (_ + 3, o) :: l, a, w => if Region.wanted o (yielded ops a.tmps) = true then o.wp P a w (fun a' w' => DD w' ∧ wpOrdD P ops Q C DD l a' w') Q else wpOrdD P ops Q C DD l (a.put o.dst undef) w

theorem any_of_ordD {l : List Oper} {f : Nat} (hl : ops = l.toArray) (hsel : Region.noSelect ops = true) (hQ : ∀ c (a : Act) d v w, Q (.panic c) (a.put d v) w → Q (.panic c) a w) :
    ∀ (ord : List (Nat × Nat)) (listed : Array Bool) (a : Act) (w : World), HeadInv md ops ops.size listed → HoldsD T C DD listed w → ordB md ops T f ord listed = true → wpOrdD P ops Q C DD (pickO l ord) a w →
      wpAnyTD P md ops Q T C DD ord.length listed a w := by
  intro ord
  induction ord with
  | nil =>
    intro listed a w inv hS hB h
    exact ⟨by simpa [ordB] using hB, h⟩
  | cons p r ih =>
    intro listed a w inv hS hB h
    obtain ⟨i, t⟩ := p
    have hready : i ∈ Region.ready md ops listed := by
      rcases t with _ | _ | _ | t <;> simp only [ordB, Bool.and_eq_true, decide_eq_true_eq] at hB
      · simpa using hB.1.1.1
      · simpa using hB.1.1.1.1
      · rw [hB.1]; simp
      · rw [hB.1.1]; simp
    obtain ⟨hun, o, ho, _⟩ := mem_ready.1 hready
    have ho' : l[i]? = some o := by rw [hl] at ho; simpa using ho
    have hp : pickO l ((i, t) :: r) = (t, o) :: pickO l r := by simp only [pickO, ho']
    rw [hp] at h
    rcases t with _ | _ | _ | t <;> simp only [ordB, Bool.and_eq_true, decide_eq_true_eq] at hB
    · obtain ⟨v, hy, hK⟩ := h
      obtain ⟨⟨⟨_, hf⟩, hT⟩, hB'⟩ := hB
      have hiT : i ∉ T := by simpa using hT
      exact wpAnyT_firstD (D := DD) ho (Region.noSelect_spec hsel) (fun c a w => hQ c a _ _ w) hiT (fun _ _ _ _ h => h.1) _ listed a w inv (Region.free_spec ho hf) hready hy hS
        (ih _ _ _ (OInv.set inv hready) (hS.set hiT) hB' hK)
    · obtain ⟨v, hy, hK⟩ := h
      obtain ⟨⟨⟨⟨_, hf⟩, hT⟩, hb⟩, hB'⟩ := hB
      have hiT : i ∉ T := by simpa using hT
      refine wpAnyT_firstD (D := C) ho (Region.noSelect_spec hsel) (fun c a w => hQ c a _ _ w) hiT (fun l' w' inv' hun' hS' => hS'.2 fun k hk => ?_) _ listed a w inv (Region.free_spec ho hf) hready hy hS
        (ih _ _ _ (OInv.set inv hready) (hS.set hiT) hB' hK)
      exact before_spec inv' hun' f k (List.all_eq_true.1 hb k hk)
    · refine ⟨fun h0 => (by rw [h0] at hready; cases hready), fun j hj => ?_⟩
      rw [hB.1] at hj
      obtain rfl : j = i := by simpa using hj
      unfold wpOp
      simp only [ho]
      simp only [wpOrdD] at h
      split
      · rename_i hw
        rw [if_pos hw] at h
        exact .inl (Oper.wp_mono (fun a' w' h' => ⟨⟨h'.1.2, fun _ => h'.1.1⟩, ih _ _ _ (OInv.set inv hready) ⟨h'.1.2, fun _ => h'.1.1⟩ hB.2 h'.2⟩) h)
      · rename_i hw
        rw [if_neg hw] at h
        by_cases hjT : j ∈ T
        · have hv : HoldsD T C DD (listed.setIfInBounds j true) w := ⟨hS.1, fun hk => by
            have := hk j hjT
            have hjs : j < listed.size := by rw [inv.size]; exact (Array.getElem?_eq_some_iff.1 ho).1
            simp [hjs] at this⟩
          exact ⟨hv, ih _ _ _ (OInv.set inv hready) hv hB.2 h⟩
        · exact ⟨hS.set hjT, ih _ _ _ (OInv.set inv hready) (hS.set hjT) hB.2 h⟩
    · refine ⟨fun h0 => (by rw [h0] at hready; cases hready), fun j hj => ?_⟩
      rw [hB.1.1] at hj
      obtain rfl : j = i := by simpa using hj
      have hjT : j ∈ T := by simpa using hB.1.2
      have hv : ∀ w', DD w' → HoldsD T C DD (listed.setIfInBounds j true) w' := fun w' hd => ⟨hd, fun hk => by
        have := hk j hjT
        have hjs : j < listed.size := by rw [inv.size]; exact (Array.getElem?_eq_some_iff.1 ho).1
        simp [hjs] at this⟩
      unfold wpOp
      simp only [ho]
      simp only [wpOrdD] at h
      split
      · rename_i hw
        rw [if_pos hw] at h
        exact .inl (Oper.wp_mono (fun a' w' h' => ⟨hv w' h'.1, ih _ _ _ (OInv.set inv hready) (hv w' h'.1) hB.2 h'.2⟩) h)
      · rename_i hw
        rw [if_neg hw] at h
        exact ⟨hv w hS.1, ih _ _ _ (OInv.set inv hready) (hv w hS.1) hB.2 h⟩

/-- **The region, walked in the order 'ord'.** -/
theorem wp_region_ordD {id : Nat} {a : Act} {w : World} {l : List Oper} (ord : List (Nat × Nat)) (T : List Nat) (f : Nat) (DD : World → Prop) (hm : P.follows .mixedOrders = true)
    (hB : (Region.noSelect l.toArray && decide (ord.length = l.length) && ordB .any l.toArray T f ord (Array.replicate l.toArray.size false)) = true)
    (h : ∀ w0, Grew w w0 → DD w0 ∧ wpOrdD P l.toArray (NoPanic Q) (Grew w) DD (pickO l ord) a w0) : (Code.region id l.toArray true).wp P Q a w := by
  simp only [Bool.and_eq_true, decide_eq_true_eq] at hB
  obtain ⟨⟨hsel, hlen⟩, hB⟩ := hB
  have inv0 : HeadInv .any l.toArray l.toArray.size (Array.replicate l.toArray.size false) :=
    ⟨by simp, fun j oj _ hl => (by rw [getD_replicate_false] at hl; cases hl), fun t h1 h2 => absurd h2 (by omega)⟩
  have h0 := h w.drew (G.drew (G.refl w))
  have := any_of_ordD (T := T) (md := .any) (f := f) rfl hsel (fun _ _ _ _ _ h => h) ord _ a w.drew inv0 ⟨h0.1, fun _ => G.drew (G.refl w)⟩ hB h0.2
  refine wp_region_noPanic (wp_region_any hm ?_)
  have h2 := wpAny_of_TD _ _ _ _ this
  rw [hlen] at h2
  simpa using h2

/-! ### The steps -/
theorem ord_nilD {a : Act} {w : World} (h : Q .normal a w) : wpOrdD P ops (NoPanic Q) C DD [] a w := h
theorem ord_q0D {o : Oper} {l : List (Nat × Oper)} {a : Act} {w : World}
    (h : ∀ K : Act → Prop, (∀ a', wpOrdD P ops Q C DD l a' w → K a') → (Region.wanted o (yielded ops a.tmps) = true ∧ ∃ v, (∀ wq, DD wq → (execOp a.eval o).run P wq = .ok (.value v) wq) ∧ K (a.put o.dst v)) ∨ (Region.wanted o (yielded ops a.tmps) = false ∧ K (a.put o.dst undef))) :
    wpOrdD P ops Q C DD ((0, o) :: l) a w := by
  rcases h (fun a' => wpOrdD P ops Q C DD l a' w) (fun _ h => h) with ⟨hw, v, hv, hK⟩ | ⟨hw, hK⟩
  · exact ⟨v, .inl ⟨hw, hv⟩, hK⟩
  · exact ⟨undef, .inr ⟨hw, rfl⟩, hK⟩
theorem ord_q1D {o : Oper} {l : List (Nat × Oper)} {a : Act} {w : World}
    (h : ∀ K : Act → Prop, (∀ a', wpOrdD P ops Q C DD l a' w → K a') → (Region.wanted o (yielded ops a.tmps) = true ∧ ∃ v, (∀ wq, C wq → (execOp a.eval o).run P wq = .ok (.value v) wq) ∧ K (a.put o.dst v)) ∨ (Region.wanted o (yielded ops a.tmps) = false ∧ K (a.put o.dst undef))) :
    wpOrdD P ops Q C DD ((1, o) :: l) a w := by
  rcases h (fun a' => wpOrdD P ops Q C DD l a' w) (fun _ h => h) with ⟨hw, v, hv, hK⟩ | ⟨hw, hK⟩
  · exact ⟨v, .inl ⟨hw, hv⟩, hK⟩
  · exact ⟨undef, .inr ⟨hw, rfl⟩, hK⟩
theorem ord_runD {o : Oper} {l : List (Nat × Oper)} {a : Act} {w : World}
    (h : ∀ K : Act → World → Prop, (∀ a' w', C w' → DD w' → wpOrdD P ops Q C DD l a' w' → K a' w') → if Region.wanted o (yielded ops a.tmps) = true then o.wp P a w K Q else K (a.put o.dst undef) w) (hc : C w) :
    wpOrdD P ops Q C DD ((2, o) :: l) a w := by
  have := h (fun a' w' => (C w' ∧ DD w') ∧ wpOrdD P ops Q C DD l a' w') (fun a' w' h1 h3 h2 => ⟨⟨h1, h3⟩, h2⟩)
  simp only [wpOrdD]
  split
  · rename_i hw; rwa [if_pos hw] at this
  · rename_i hw; rw [if_neg hw] at this; exact this.2
theorem ord_tailD {o : Oper} {l : List (Nat × Oper)} {a : Act} {w : World} {t : Nat}
    (hd : DD w) (h : ∀ K : Act → World → Prop, (∀ a' w', DD w' → wpOrdD P ops Q C DD l a' w' → K a' w') → if Region.wanted o (yielded ops a.tmps) = true then o.wp P a w K Q else K (a.put o.dst undef) w) :
    wpOrdD P ops Q C DD ((t + 3, o) :: l) a w := by
  have := h (fun a' w' => DD w' ∧ wpOrdD P ops Q C DD l a' w') (fun a' w' h1 h2 => ⟨h1, h2⟩)
  simp only [wpOrdD]
  split
  · rename_i hw; rwa [if_pos hw] at this
  · rename_i hw; rw [if_neg hw] at this; exact this.2
end
end Go.Proofs.YtbafnlccpbonmaaGreatDoor
