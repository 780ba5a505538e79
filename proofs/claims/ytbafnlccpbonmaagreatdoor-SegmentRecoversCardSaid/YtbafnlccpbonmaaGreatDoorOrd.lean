/- A region that draws its order, walked once in an order of our choice: operations that yield one value whatever the order, and between them, in their forced order, calls and stores. -/
import Derived.Test.YtbafnlccpbonmaaGreatDoorBase
import Derived.OrdersHeld
import Derived.StillTail
namespace Go.Proofs.YtbafnlccpbonmaaGreatDoor
set_option linter.unusedVariables false
set_option linter.unnecessarySimpa false
set_option linter.unusedSimpArgs false
open Go.RowKit

section
variable {P : Program} {ops : Array Oper} {md : Region.Mode} {Q : Exit → Act → World → Prop} {C : World → Prop} {T : List Nat}
/-- As long as no operation of T has come up, the world is in C. -/
def Holds (T : List Nat) (C : World → Prop) (listed : Array Bool) (w : World) : Prop := (∀ k ∈ T, listed.getD k true = false) → C w
theorem Holds.set {i : Nat} {listed : Array Bool} {w : World} (h : Holds T C listed w) (hi : i ∉ T) : Holds T C (listed.setIfInBounds i true) w := fun hk => h fun k hkT => by
  have := hk k hkT
  rwa [getD_set_ne true (fun (e : i = k) => hi (by rw [e]; exact hkT))] at this
theorem Holds.unset {i : Nat} {listed : Array Bool} {w : World} (h : Holds T C (listed.setIfInBounds i true) w) (hi : i ∉ T) : Holds T C listed w := fun hk => h fun k hkT => by
  rw [getD_set_ne true (fun (e : i = k) => hi (by rw [e]; exact hkT))]
  exact hk k hkT
def wpAnyT (P : Program) (md : Region.Mode) (ops : Array Oper) (Q : Exit → Act → World → Prop) (T : List Nat) (C : World → Prop) : Nat → Array Bool → Act → World → Prop
  | 0, listed, a, w => Region.ready md ops listed = [] ∧ Q .normal a w
  | fuel + 1, listed, a, w =>
    (Region.ready md ops listed = [] → Q .normal a w) ∧
    ∀ i ∈ Region.ready md ops listed, wpOp P ops Q i (fun a' w' => Holds T C (listed.setIfInBounds i true) w' ∧ wpAnyT P md ops Q T C fuel (listed.setIfInBounds i true) a' w') a w
theorem wpAny_of_T : ∀ (fuel : Nat) (listed : Array Bool) (a : Act) (w : World), wpAnyT P md ops Q T C fuel listed a w → wpAny P md ops Q fuel listed a w
  | 0, _, _, _, h => h
  | fuel + 1, _, _, _, h => ⟨h.1, fun i hi => wpOp_mono (fun a' w' h' => wpAny_of_T fuel _ a' w' h'.2) (h.2 i hi)⟩
theorem OInv.set {i : Nat} {listed : Array Bool} (inv : HeadInv md ops ops.size listed) (hi : i ∈ Region.ready md ops listed) : HeadInv md ops ops.size (listed.setIfInBounds i true) := by
  obtain ⟨_, oi, hoi, _⟩ := mem_ready.1 hi
  exact inv.set hi (Array.getElem?_eq_some_iff.1 hoi).1

theorem wpAnyT_first {i : Nat} {oi : Oper} {v : Value} {D : World → Prop} (hi : ops[i]? = some oi) (hsel : ∀ (j : Nat) (o : Oper) cs b, ops[j]? = some o → o.op ≠ .select cs b)
    (hQ : ∀ c a w, Q (.panic c) (a.put oi.dst v) w → Q (.panic c) a w) (hiT : i ∉ T)
    (hD : ∀ l w, HeadInv md ops ops.size l → l.getD i true = false → Holds T C l w → D w) :
    ∀ (fuel : Nat) (listed : Array Bool) (a : Act) (w : World), HeadInv md ops ops.size listed →
      (∀ j oj, ops[j]? = some oj → j ≠ i → listed.getD j true = false → (∀ e ∈ oj.after, Region.binds md e = true → e.on ≠ i) → oi.apart ops oj = true) →
      i ∈ Region.ready md ops listed → YieldsIf P ops D oi v a → Holds T C listed w →
      wpAnyT P md ops Q T C fuel (listed.setIfInBounds i true) (a.put oi.dst v) w → wpAnyT P md ops Q T C (fuel + 1) listed a w := by
  intro fuel
  induction fuel with
  | zero =>
    intro listed a w inv hfree hr hy hS H
    refine ⟨fun h => (by rw [h] at hr; cases hr), fun j hj => ?_⟩
    by_cases hji : j = i
    · subst hji; exact hy.wpOp hi (hD _ _ inv (mem_ready.1 hr).1 hS) ⟨hS.set hiT, H⟩
    · have := ready_mono hj hji
      rw [H.1] at this
      cases this
  | succ fuel ih =>
    intro listed a w inv hfree hr hy hS H
    refine ⟨fun h => (by rw [h] at hr; cases hr), fun j hj => ?_⟩
    by_cases hji : j = i
    · subst hji; exact hy.wpOp hi (hD _ _ inv (mem_ready.1 hr).1 hS) ⟨hS.set hiT, H⟩
    · have h1 := H.2 j (ready_mono hj hji)
      obtain ⟨hjun, oj, hoj, hall⟩ := mem_ready.1 hj
      have hnot : ∀ e ∈ oj.after, Region.binds md e = true → e.on ≠ i := fun e he hb heq => by
        have h1 := hall e he hb
        have h0 := (mem_ready.1 hr).1
        rw [heq, getD_both h0] at h1
        cases h1
      have h2 := wpOp_putIf hoj (hfree j oj hoj hji hjun hnot) (fun cs b => hsel i oi cs b hi) (fun cs b => hsel j oj cs b hoj) hQ hy h1
      have hfree' : ∀ k ok, ops[k]? = some ok → k ≠ i → (listed.setIfInBounds j true).getD k true = false →
          (∀ e ∈ ok.after, Region.binds md e = true → e.on ≠ i) → oi.apart ops ok = true := fun k ok hk hki hun hno => by
        refine hfree k ok hk hki ?_ hno
        by_cases hjk : j = k
        · subst hjk; exact hjun
        · rw [getD_set_ne true hjk] at hun; exact hun
      refine wpOp_mono (fun a' w' h3 => ?_) h2
      have h4 : Holds T C (listed.setIfInBounds j true) w' := by
        refine Holds.unset (i := i) ?_ hiT
        rw [Array.setIfInBounds_comm _ _ hji]
        exact h3.2.1
      refine ⟨h4, ih (listed.setIfInBounds j true) a' w' (OInv.set inv hj) hfree' (ready_mono hr (Ne.symm hji)) h3.1 h4 ?_⟩
      rw [Array.setIfInBounds_comm _ _ hji]
      exact h3.2.2

/-- Operation k cannot come up before operation i. -/
def beforeB (md : Region.Mode) (ops : Array Oper) (i : Nat) : Nat → Nat → Bool
  | 0, k => Region.waitsFor md ops k i
  | f + 1, k => Region.waitsFor md ops k i || (List.range ops.size).any fun j => Region.waitsFor md ops k j && beforeB md ops i f j
theorem before_spec {i : Nat} {l : Array Bool} (inv : HeadInv md ops ops.size l) (hi : l.getD i true = false) : ∀ (f k : Nat), beforeB md ops i f k = true → l.getD k true = false := by
  have direct : ∀ k j, Region.waitsFor md ops k j = true → l.getD j true = false → l.getD k true = false := by
    intro k j hw hj
    obtain ⟨ok, hk, e, he, hb, hon⟩ := Region.waitsFor_spec hw
    have hks : k < l.size := by rw [inv.size]; exact (Array.getElem?_eq_some_iff.1 hk).1
    refine getD_in hks ?_
    cases hl : l.getD k false with
    | false => rfl
    | true =>
      have := inv.closed k ok hk hl e he hb
      rw [hon, getD_both hj] at this
      cases this
  intro f
  induction f with
  | zero => intro k hk; exact direct k i hk hi
  | succ f ih =>
    intro k hk
    simp only [beforeB, Bool.or_eq_true, List.any_eq_true, Bool.and_eq_true] at hk
    rcases hk with hk | ⟨j, _, hw, hj⟩
    · exact direct k i hk hi
    · exact direct k j hw (ih j hj)

/-- Is this an order in which the region may be walked? Of each operation its number and its kind: 0 it yields in whatever world, 1 in the worlds of C, 2 a call that keeps C, 3 what need not keep C. -/
def ordB (md : Region.Mode) (ops : Array Oper) (T : List Nat) (f : Nat) : List (Nat × Nat) → Array Bool → Bool
  | [], listed => (Region.ready md ops listed).isEmpty
  | (i, 0) :: l, listed => (Region.ready md ops listed).contains i && Region.free md ops listed i && !T.contains i && ordB md ops T f l (listed.setIfInBounds i true)
  | (i, 1) :: l, listed => (Region.ready md ops listed).contains i && Region.free md ops listed i && !T.contains i && T.all (beforeB md ops i f) && ordB md ops T f l (listed.setIfInBounds i true)
  | (i, 2) :: l, listed => decide (Region.ready md ops listed = [i]) && ordB md ops T f l (listed.setIfInBounds i true)
  | (i, _ + 3) :: l, listed => decide (Region.ready md ops listed = [i]) && T.contains i && ordB md ops T f l (listed.setIfInBounds i true)
/-- The operations themselves, in that order. -/
def pickO (ops : List Oper) : List (Nat × Nat) → List (Nat × Oper)
  | [] => []
  | (i, t) :: r => match ops[i]? with
    | some o => (t, o) :: pickO ops r
    | none => pickO ops r
/-- The walk in that order. -/
def wpOrd (P : Program) (ops : Array Oper) (Q : Exit → Act → World → Prop) (C : World → Prop) : List (Nat × Oper) → Act → World → Prop
  | [], a, w => Q .normal a w
  | (0, o) :: l, a, w => ∃ v, YieldsIf P ops (fun _ => True) o v a ∧ wpOrd P ops Q C l (a.put o.dst v) w
  | (1, o) :: l, a, w => ∃ v, YieldsIf P ops C o v a ∧ wpOrd P ops Q C l (a.put o.dst v) w
  | (2, o) :: l, a, w => if Region.wanted o (yielded ops a.tmps) = true then o.wp P a w (fun a' w' => C w' ∧ wpOrd P ops Q C l a' w') Q else wpOrd P ops Q C l (a.put o.dst undef) w
  | (_ + 3, o) :: l, a, w => if Region.wanted o (yielded ops a.tmps) = true then o.wp P a w (fun a' w' => wpOrd P ops Q C l a' w') Q else wpOrd P ops Q C l (a.put o.dst undef) w

theorem any_of_ord {l : List Oper} {f : Nat} (hl : ops = l.toArray) (hsel : Region.noSelect ops = true) (hQ : ∀ c (a : Act) d v w, Q (.panic c) (a.put d v) w → Q (.panic c) a w) :
    ∀ (ord : List (Nat × Nat)) (listed : Array Bool) (a : Act) (w : World), HeadInv md ops ops.size listed → Holds T C listed w → ordB md ops T f ord listed = true → wpOrd P ops Q C (pickO l ord) a w →
      wpAnyT P md ops Q T C ord.length listed a w := by
  intro ord
  induction ord with
  | nil =>
    intro listed a w inv hS hB h
    exact ⟨by simpa [ordB] using hB, h⟩
  | cons p r ih =>
    intro listed a w inv hS hB h
    obtain ⟨i, t⟩ := p
    have hready : i ∈ Region.ready md ops listed := by
      rcases t with _ | _ | _ | t <;> simp only [ordB, Bool.and_eq_true, decide_eq_true_eq] at hB
      · simpa using hB.1.1.1
      · simpa using hB.1.1.1.1
      · rw [hB.1]; simp
      · rw [hB.1.1]; simp
    obtain ⟨hun, o, ho, _⟩ := mem_ready.1 hready
    have ho' : l[i]? = some o := by rw [hl] at ho; simpa using ho
    have hp : pickO l ((i, t) :: r) = (t, o) :: pickO l r := by simp only [pickO, ho']
    rw [hp] at h
    rcases t with _ | _ | _ | t <;> simp only [ordB, Bool.and_eq_true, decide_eq_true_eq] at hB
    · obtain ⟨v, hy, hK⟩ := h
      obtain ⟨⟨⟨_, hf⟩, hT⟩, hB'⟩ := hB
      have hiT : i ∉ T := by simpa using hT
      exact wpAnyT_first (D := fun _ => True) ho (Region.noSelect_spec hsel) (fun c a w => hQ c a _ _ w) hiT (fun _ _ _ _ _ => trivial) _ listed a w inv (Region.free_spec ho hf) hready hy hS
        (ih _ _ _ (OInv.set inv hready) (hS.set hiT) hB' hK)
    · obtain ⟨v, hy, hK⟩ := h
      obtain ⟨⟨⟨⟨_, hf⟩, hT⟩, hb⟩, hB'⟩ := hB
      have hiT : i ∉ T := by simpa using hT
      refine wpAnyT_first (D := C) ho (Region.noSelect_spec hsel) (fun c a w => hQ c a _ _ w) hiT (fun l' w' inv' hun' hS' => hS' fun k hk => ?_) _ listed a w inv (Region.free_spec ho hf) hready hy hS
        (ih _ _ _ (OInv.set inv hready) (hS.set hiT) hB' hK)
      exact before_spec inv' hun' f k (List.all_eq_true.1 hb k hk)
    · refine ⟨fun h0 => (by rw [h0] at hready; cases hready), fun j hj => ?_⟩
      rw [hB.1] at hj
      obtain rfl : j = i := by simpa using hj
      unfold wpOp
      simp only [ho]
      simp only [wpOrd] at h
      split
      · rename_i hw
        rw [if_pos hw] at h
        exact .inl (Oper.wp_mono (fun a' w' h' => ⟨fun _ => h'.1, ih _ _ _ (OInv.set inv hready) (fun _ => h'.1) hB.2 h'.2⟩) h)
      · rename_i hw
        rw [if_neg hw] at h
        by_cases hjT : j ∈ T
        · have hv : Holds T C (listed.setIfInBounds j true) w := fun hk => by
            have := hk j hjT
            have hjs : j < listed.size := by rw [inv.size]; exact (Array.getElem?_eq_some_iff.1 ho).1
            simp [hjs] at this
          exact ⟨hv, ih _ _ _ (OInv.set inv hready) hv hB.2 h⟩
        · exact ⟨hS.set hjT, ih _ _ _ (OInv.set inv hready) (hS.set hjT) hB.2 h⟩
    · refine ⟨fun h0 => (by rw [h0] at hready; cases hready), fun j hj => ?_⟩
      rw [hB.1.1] at hj
      obtain rfl : j = i := by simpa using hj
      have hjT : j ∈ T := by simpa using hB.1.2
      have hv : ∀ w', Holds T C (listed.setIfInBounds j true) w' := fun w' hk => by
        have := hk j hjT
        have hjs : j < listed.size := by rw [inv.size]; exact (Array.getElem?_eq_some_iff.1 ho).1
        simp [hjs] at this
      unfold wpOp
      simp only [ho]
      simp only [wpOrd] at h
      split
      · rename_i hw
        rw [if_pos hw] at h
        exact .inl (Oper.wp_mono (fun a' w' h' => ⟨hv w', ih _ _ _ (OInv.set inv hready) (hv w') hB.2 h'⟩) h)
      · rename_i hw
        rw [if_neg hw] at h
        exact ⟨hv w, ih _ _ _ (OInv.set inv hready) (hv w) hB.2 h⟩

/-- **The region, walked in the order 'ord'.** -/
theorem wp_region_ord {id : Nat} {a : Act} {w : World} {l : List Oper} (ord : List (Nat × Nat)) (T : List Nat) (f : Nat) (hm : P.follows .mixedOrders = true)
    (hB : (Region.noSelect l.toArray && decide (ord.length = l.length) && ordB .any l.toArray T f ord (Array.replicate l.toArray.size false)) = true)
    (h : ∀ w0, Grew w w0 → wpOrd P l.toArray (NoPanic Q) (Grew w) (pickO l ord) a w0) : (Code.region id l.toArray true).wp P Q a w := by
  simp only [Bool.and_eq_true, decide_eq_true_eq] at hB
  obtain ⟨⟨hsel, hlen⟩, hB⟩ := hB
  have inv0 : HeadInv .any l.toArray l.toArray.size (Array.replicate l.toArray.size false) :=
    ⟨by simp, fun j oj _ hl => (by rw [getD_replicate_false] at hl; cases hl), fun t h1 h2 => absurd h2 (by omega)⟩
  have h0 := h w.drew (G.drew (G.refl w))
  have := any_of_ord (T := T) (md := .any) (f := f) rfl hsel (fun _ _ _ _ _ h => h) ord _ a w.drew inv0 (fun _ => G.drew (G.refl w)) hB h0
  refine wp_region_noPanic (wp_region_any hm ?_)
  have h2 := wpAny_of_T _ _ _ _ this
  rw [hlen] at h2
  simpa using h2

/-! ### The steps -/
theorem ord_nil {a : Act} {w : World} (h : Q .normal a w) : wpOrd P ops (NoPanic Q) C [] a w := h
theorem ord_q0 {o : Oper} {l : List (Nat × Oper)} {a : Act} {w : World}
    (h : ∀ K : Act → Prop, (∀ a', wpOrd P ops Q C l a' w → K a') → (Region.wanted o (yielded ops a.tmps) = true ∧ ∃ v, (∀ wq, (execOp a.eval o).run P wq = .ok (.value v) wq) ∧ K (a.put o.dst v)) ∨ (Region.wanted o (yielded ops a.tmps) = false ∧ K (a.put o.dst undef))) :
    wpOrd P ops Q C ((0, o) :: l) a w := by
  rcases h (fun a' => wpOrd P ops Q C l a' w) (fun _ h => h) with ⟨hw, v, hv, hK⟩ | ⟨hw, hK⟩
  · exact ⟨v, .inl ⟨hw, fun wq _ => hv wq⟩, hK⟩
  · exact ⟨undef, .inr ⟨hw, rfl⟩, hK⟩
theorem ord_q1 {o : Oper} {l : List (Nat × Oper)} {a : Act} {w : World}
    (h : ∀ K : Act → Prop, (∀ a', wpOrd P ops Q C l a' w → K a') → (Region.wanted o (yielded ops a.tmps) = true ∧ ∃ v, (∀ wq, C wq → (execOp a.eval o).run P wq = .ok (.value v) wq) ∧ K (a.put o.dst v)) ∨ (Region.wanted o (yielded ops a.tmps) = false ∧ K (a.put o.dst undef))) :
    wpOrd P ops Q C ((1, o) :: l) a w := by
  rcases h (fun a' => wpOrd P ops Q C l a' w) (fun _ h => h) with ⟨hw, v, hv, hK⟩ | ⟨hw, hK⟩
  · exact ⟨v, .inl ⟨hw, hv⟩, hK⟩
  · exact ⟨undef, .inr ⟨hw, rfl⟩, hK⟩
theorem ord_run {o : Oper} {l : List (Nat × Oper)} {a : Act} {w : World}
    (h : ∀ K : Act → World → Prop, (∀ a' w', C w' → wpOrd P ops Q C l a' w' → K a' w') → if Region.wanted o (yielded ops a.tmps) = true then o.wp P a w K Q else K (a.put o.dst undef) w) (hc : C w) :
    wpOrd P ops Q C ((2, o) :: l) a w := by
  have := h (fun a' w' => C w' ∧ wpOrd P ops Q C l a' w') (fun a' w' h1 h2 => ⟨h1, h2⟩)
  simp only [wpOrd]
  split
  · rename_i hw; rwa [if_pos hw] at this
  · rename_i hw; rw [if_neg hw] at this; exact this.2
theorem ord_tail {o : Oper} {l : List (Nat × Oper)} {a : Act} {w : World} {t : Nat}
    (h : ∀ K : Act → World → Prop, (∀ a' w', wpOrd P ops Q C l a' w' → K a' w') → if Region.wanted o (yielded ops a.tmps) = true then o.wp P a w K Q else K (a.put o.dst undef) w) :
    wpOrd P ops Q C ((t + 3, o) :: l) a w := h (fun a' w' => wpOrd P ops Q C l a' w') (fun a' w' h => h)
theorem Grew.alloc {w w' : World} (h : Grew w w') (o : Obj) : Grew w (w'.alloc o) := G.alloc h o
/-- A world behind a name. -/
theorem calls_name {f : FuncId} {args : Array Value} {W : World} {R : Ending → World → Prop} (D : World → Prop) (h1 : D W) (h2 : ∀ w2, D w2 → Calls P f args w2 R) : Calls P f args W R := h2 W h1
theorem wp_name {c : Code} {a : Act} {W : World} (D : World → Prop) (h1 : D W) (h2 : ∀ w2, D w2 → c.wp P Q a w2) : c.wp P Q a W := h2 W h1
end
end Go.Proofs.YtbafnlccpbonmaaGreatDoor
