/- A region that draws its order, walked along a tree of orders: where several operations may come up next, each is tried. -/
import Derived.Test.YtbafnlccpbonmaaGreatDoorOrd
namespace Go.Proofs.YtbafnlccpbonmaaGreatDoor
set_option linter.unusedVariables false
set_option linter.unnecessarySimpa false
set_option linter.unusedSimpArgs false
open Go.RowKit

/-! ### Where several operations may come up next: a tree of orders -/
inductive OTree where
  | nil
  | quiet (i t : Nat) (k : OTree)
  | run (i t : Nat) (k more : OTree)
  | stop
def OTree.heads : OTree → List Nat
  | .run i _ _ more => i :: more.heads
  | _ => []
def OTree.depth : OTree → Nat
  | .quiet _ _ k => k.depth + 1
  | .run _ _ k more => max (k.depth + 1) more.depth
  | _ => 0
section
variable {P : Program} {ops : Array Oper} {md : Region.Mode} {Q : Exit → Act → World → Prop} {C : World → Prop} {T : List Nat}
def treeB (md : Region.Mode) (ops : Array Oper) (T : List Nat) (f : Nat) : Bool → Array Bool → OTree → Bool
  | _, listed, .nil => (Region.ready md ops listed).isEmpty
  | _, listed, .quiet i t k => (Region.ready md ops listed).contains i && Region.free md ops listed i && !T.contains i && (decide (t = 0) || T.all (beforeB md ops i f)) && treeB md ops T f true (listed.setIfInBounds i true) k
  | first, listed, .run i t k more => (!first || decide (Region.ready md ops listed = i :: more.heads)) && (decide (t ≤ 2) || T.contains i) && treeB md ops T f true (listed.setIfInBounds i true) k && treeB md ops T f false listed more
  | first, _, .stop => !first
def wpTree (P : Program) (ops : Array Oper) (Q : Exit → Act → World → Prop) (C : World → Prop) : OTree → Act → World → Prop
  | .nil, a, w => Q .normal a w
  | .quiet i t k, a, w => ∀ o, ops[i]? = some o → ∃ v, YieldsIf P ops (fun wq => t = 0 ∨ C wq) o v a ∧ wpTree P ops Q C k (a.put o.dst v) w
  | .run i t k more, a, w => (∀ o, ops[i]? = some o → if Region.wanted o (yielded ops a.tmps) = true then o.wp P a w (fun a' w' => (t ≤ 2 → C w') ∧ wpTree P ops Q C k a' w') Q else wpTree P ops Q C k (a.put o.dst undef) w) ∧ wpTree P ops Q C more a w
  | .stop, _, _ => True
theorem any_of_tree {f : Nat} (hsel : Region.noSelect ops = true) (hQ : ∀ c (a : Act) d v w, Q (.panic c) (a.put d v) w → Q (.panic c) a w) :
    ∀ (tr : OTree) (listed : Array Bool) (a : Act) (w : World), HeadInv md ops ops.size listed → Holds T C listed w → wpTree P ops Q C tr a w →
      (treeB md ops T f true listed tr = true → ∀ g, tr.depth ≤ g → wpAnyT P md ops Q T C g listed a w) ∧
      (treeB md ops T f false listed tr = true → ∀ i ∈ tr.heads, i ∈ Region.ready md ops listed → ∀ g, tr.depth ≤ g + 1 → wpOp P ops Q i (fun a' w' => Holds T C (listed.setIfInBounds i true) w' ∧ wpAnyT P md ops Q T C g (listed.setIfInBounds i true) a' w') a w) := by
  intro tr
  induction tr with
  | nil =>
    intro listed a w inv hS h
    refine ⟨fun hB g _ => ?_, fun _ i hi => by cases hi⟩
    have hr : Region.ready md ops listed = [] := by simpa [treeB] using hB
    cases g with
    | zero => exact ⟨hr, h⟩
    | succ g => exact ⟨fun _ => h, by rw [hr]; intro i hi; cases hi⟩
  | stop =>
    intro listed a w inv hS h
    exact ⟨fun hB => (by cases hB), fun _ i hi => (by cases hi)⟩
  | quiet i t k ih =>
    intro listed a w inv hS h
    refine ⟨fun hB g hg => ?_, fun _ j hj => by cases hj⟩
    simp only [treeB, Bool.and_eq_true] at hB
    obtain ⟨⟨⟨⟨hc, hf⟩, hT⟩, hb⟩, hB'⟩ := hB
    have hready : i ∈ Region.ready md ops listed := by simpa using hc
    obtain ⟨hun, o, ho, _⟩ := mem_ready.1 hready
    obtain ⟨v, hy, hK⟩ := h o ho
    have hiT : i ∉ T := by simpa using hT
    simp only [OTree.depth] at hg
    obtain ⟨g, rfl⟩ : ∃ g', g = g' + 1 := ⟨g - 1, by omega⟩
    refine wpAnyT_first (D := fun wq => t = 0 ∨ C wq) ho (Region.noSelect_spec hsel) (fun c a w => hQ c a _ _ w) hiT (fun l' w' inv' hun' hS' => ?_) _ listed a w inv (Region.free_spec ho hf) hready hy hS
      ((ih _ _ _ (OInv.set inv hready) (hS.set hiT) hK).1 hB' g (by omega))
    simp only [Bool.or_eq_true, decide_eq_true_eq] at hb
    rcases hb with hb | hb
    · exact .inl hb
    · exact .inr (hS' fun j hj => before_spec inv' hun' f j (List.all_eq_true.1 hb j hj))
  | run i t k more ih ihm =>
    intro listed a w inv hS h
    have second : treeB md ops T f false listed (.run i t k more) = true → ∀ j ∈ (OTree.run i t k more).heads, j ∈ Region.ready md ops listed → ∀ g, (OTree.run i t k more).depth ≤ g + 1 →
        wpOp P ops Q j (fun a' w' => Holds T C (listed.setIfInBounds j true) w' ∧ wpAnyT P md ops Q T C g (listed.setIfInBounds j true) a' w') a w := by
      intro hB j hj hr g hg
      simp only [treeB, Bool.and_eq_true, Bool.or_eq_true, decide_eq_true_eq] at hB
      obtain ⟨⟨⟨_, ht⟩, hk⟩, hm⟩ := hB
      simp only [OTree.depth] at hg
      simp only [OTree.heads, List.mem_cons] at hj
      rcases hj with rfl | hj
      · obtain ⟨hun, o, ho, _⟩ := mem_ready.1 hr
        have hh := h.1 o ho
        have hv : j ∈ T → ∀ w', Holds T C (listed.setIfInBounds j true) w' := fun hjT w' hk => by
          have := hk j hjT
          have hjs : j < listed.size := by rw [inv.size]; exact (Array.getElem?_eq_some_iff.1 ho).1
          simp [hjs] at this
        have hH : ∀ w', (t ≤ 2 → C w') → Holds T C (listed.setIfInBounds j true) w' := fun w' hc => by
          rcases ht with ht | ht
          · exact fun _ => hc ht
          · exact hv (by simpa using ht) w'
        unfold wpOp
        simp only [ho]
        split
        · rename_i hw
          rw [if_pos hw] at hh
          exact .inl (Oper.wp_mono (fun a' w' h' => ⟨hH w' h'.1, (ih _ _ _ (OInv.set inv hr) (hH w' h'.1) h'.2).1 hk g (by omega)⟩) hh)
        · rename_i hw
          rw [if_neg hw] at hh
          by_cases hjT : j ∈ T
          · exact ⟨hv hjT w, (ih _ _ _ (OInv.set inv hr) (hv hjT w) hh).1 hk g (by omega)⟩
          · exact ⟨hS.set hjT, (ih _ _ _ (OInv.set inv hr) (hS.set hjT) hh).1 hk g (by omega)⟩
      · exact (ihm listed a w inv hS h.2).2 hm j hj hr g (by omega)
    refine ⟨fun hB g hg => ?_, second⟩
    have hB2 : treeB md ops T f false listed (.run i t k more) = true := by
      simp only [treeB, Bool.and_eq_true] at hB ⊢
      exact ⟨⟨⟨by simp, hB.1.1.2⟩, hB.1.2⟩, hB.2⟩
    have hr : Region.ready md ops listed = i :: more.heads := by
      simp only [treeB, Bool.and_eq_true, Bool.or_eq_true, decide_eq_true_eq] at hB
      rcases hB.1.1.1 with h | h
      · cases h
      · exact h
    have hg1 : 1 ≤ (OTree.run i t k more).depth := by simp only [OTree.depth]; omega
    obtain ⟨g, rfl⟩ : ∃ g', g = g' + 1 := ⟨g - 1, by omega⟩
    exact ⟨fun h0 => (by rw [hr] at h0; cases h0), fun j hj => second hB2 j (by rw [hr] at hj; exact hj) hj g hg⟩

/-- The tree with the operations themselves. -/
inductive TreeO where
  | nil
  | quiet (t : Nat) (o : Oper) (k : TreeO)
  | run (t : Nat) (o : Oper) (k more : TreeO)
  | stop
def pickT (l : List Oper) : OTree → TreeO
  | .nil => .nil
  | .quiet i t k => match l[i]? with
    | some o => .quiet t o (pickT l k)
    | none => .stop
  | .run i t k more => match l[i]? with
    | some o => .run t o (pickT l k) (pickT l more)
    | none => pickT l more
  | .stop => .stop
def wpTreeO (P : Program) (ops : Array Oper) (Q : Exit → Act → World → Prop) (C : World → Prop) : TreeO → Act → World → Prop
  | .nil, a, w => Q .normal a w
  | .quiet t o k, a, w => ∃ v, YieldsIf P ops (fun wq => t = 0 ∨ C wq) o v a ∧ wpTreeO P ops Q C k (a.put o.dst v) w
  | .run t o k more, a, w => (if Region.wanted o (yielded ops a.tmps) = true then o.wp P a w (fun a' w' => (t ≤ 2 → C w') ∧ wpTreeO P ops Q C k a' w') Q else wpTreeO P ops Q C k (a.put o.dst undef) w) ∧ wpTreeO P ops Q C more a w
  | .stop, _, _ => True
theorem tree_of_O {l : List Oper} (hl : ops = l.toArray) : ∀ (tr : OTree) (a : Act) (w : World), wpTreeO P ops Q C (pickT l tr) a w → wpTree P ops Q C tr a w
  | .nil, a, w, h => h
  | .stop, a, w, h => trivial
  | .quiet i t k, a, w, h => by
    intro o ho
    have ho' : l[i]? = some o := by rw [hl] at ho; simpa using ho
    simp only [pickT, ho'] at h
    obtain ⟨v, hy, hK⟩ := h
    exact ⟨v, hy, tree_of_O hl k _ _ hK⟩
  | .run i t k more, a, w, h => by
    cases hi : l[i]? with
    | none =>
      simp only [pickT, hi] at h
      refine ⟨fun o ho => ?_, tree_of_O hl more _ _ h⟩
      have ho' : l[i]? = some o := by rw [hl] at ho; simpa using ho
      rw [hi] at ho'; cases ho'
    | some o =>
      simp only [pickT, hi] at h
      refine ⟨fun o' ho => ?_, tree_of_O hl more _ _ h.2⟩
      have ho' : l[i]? = some o' := by rw [hl] at ho; simpa using ho
      obtain rfl : o = o' := Option.some.inj (hi.symm.trans ho')
      have hh := h.1
      split
      · rename_i hw
        rw [if_pos hw] at hh
        exact Oper.wp_mono (fun a' w' h' => ⟨h'.1, tree_of_O hl k _ _ h'.2⟩) hh
      · rename_i hw
        rw [if_neg hw] at hh
        exact tree_of_O hl k _ _ hh

/-- **The region, walked along a tree of orders.** -/
theorem wp_region_tree {id : Nat} {a : Act} {w : World} {l : List Oper} (tr : OTree) (T : List Nat) (f : Nat) (hm : P.follows .mixedOrders = true)
    (hB : (Region.noSelect l.toArray && decide (tr.depth ≤ l.length) && treeB .any l.toArray T f true (Array.replicate l.toArray.size false) tr) = true)
    (h : ∀ w0, Grew w w0 → wpTreeO P l.toArray (NoPanic Q) (Grew w) (pickT l tr) a w0) : (Code.region id l.toArray true).wp P Q a w := by
  simp only [Bool.and_eq_true, decide_eq_true_eq] at hB
  obtain ⟨⟨hsel, hlen⟩, hB⟩ := hB
  have inv0 : HeadInv .any l.toArray l.toArray.size (Array.replicate l.toArray.size false) :=
    ⟨by simp, fun j oj _ hl => (by rw [getD_replicate_false] at hl; cases hl), fun t h1 h2 => absurd h2 (by omega)⟩
  have h0 := tree_of_O rfl _ _ _ (h w.drew (G.drew (G.refl w)))
  have := (any_of_tree (T := T) (md := .any) (f := f) hsel (fun _ _ _ _ _ h => h) tr _ a w.drew inv0 (fun _ => G.drew (G.refl w)) h0).1 hB l.toArray.size (by simpa using hlen)
  exact wp_region_noPanic (wp_region_any hm (wpAny_of_T _ _ _ _ this))
/-- The steps. -/
theorem tree_nil {a : Act} {w : World} (h : Q .normal a w) : wpTreeO P ops (NoPanic Q) C .nil a w := h
theorem tree_q0 {o : Oper} {k : TreeO} {a : Act} {w : World}
    (h : ∀ K : Act → Prop, (∀ a', wpTreeO P ops Q C k a' w → K a') → (Region.wanted o (yielded ops a.tmps) = true ∧ ∃ v, (∀ wq, (execOp a.eval o).run P wq = .ok (.value v) wq) ∧ K (a.put o.dst v)) ∨ (Region.wanted o (yielded ops a.tmps) = false ∧ K (a.put o.dst undef))) :
    wpTreeO P ops Q C (.quiet 0 o k) a w := by
  rcases h (fun a' => wpTreeO P ops Q C k a' w) (fun _ h => h) with ⟨hw, v, hv, hK⟩ | ⟨hw, hK⟩
  · exact ⟨v, .inl ⟨hw, fun wq _ => hv wq⟩, hK⟩
  · exact ⟨undef, .inr ⟨hw, rfl⟩, hK⟩
theorem tree_q1 {o : Oper} {k : TreeO} {a : Act} {w : World}
    (h : ∀ K : Act → Prop, (∀ a', wpTreeO P ops Q C k a' w → K a') → (Region.wanted o (yielded ops a.tmps) = true ∧ ∃ v, (∀ wq, C wq → (execOp a.eval o).run P wq = .ok (.value v) wq) ∧ K (a.put o.dst v)) ∨ (Region.wanted o (yielded ops a.tmps) = false ∧ K (a.put o.dst undef))) :
    wpTreeO P ops Q C (.quiet 1 o k) a w := by
  rcases h (fun a' => wpTreeO P ops Q C k a' w) (fun _ h => h) with ⟨hw, v, hv, hK⟩ | ⟨hw, hK⟩
  · exact ⟨v, .inl ⟨hw, fun wq hq => hv wq (hq.resolve_left (by omega))⟩, hK⟩
  · exact ⟨undef, .inr ⟨hw, rfl⟩, hK⟩
theorem tree_run {o : Oper} {k more : TreeO} {a : Act} {w : World} (hc : C w)
    (h : ∀ K : Act → World → Prop, (∀ a' w', C w' → wpTreeO P ops Q C k a' w' → K a' w') → if Region.wanted o (yielded ops a.tmps) = true then o.wp P a w K Q else K (a.put o.dst undef) w) (hmore : wpTreeO P ops Q C more a w) :
    wpTreeO P ops Q C (.run 2 o k more) a w := by
  refine ⟨?_, hmore⟩
  have := h (fun a' w' => C w' ∧ wpTreeO P ops Q C k a' w') (fun a' w' h1 h2 => ⟨h1, h2⟩)
  split
  · rename_i hw
    rw [if_pos hw] at this
    exact Oper.wp_mono (fun a' w' h' => ⟨fun _ => h'.1, h'.2⟩) this
  · rename_i hw; rw [if_neg hw] at this; exact this.2
theorem tree_tail {o : Oper} {k more : TreeO} {a : Act} {w : World} {t : Nat}
    (h : ∀ K : Act → World → Prop, (∀ a' w', wpTreeO P ops Q C k a' w' → K a' w') → if Region.wanted o (yielded ops a.tmps) = true then o.wp P a w K Q else K (a.put o.dst undef) w) (hmore : wpTreeO P ops Q C more a w) :
    wpTreeO P ops Q C (.run (t + 3) o k more) a w := by
  refine ⟨?_, hmore⟩
  have := h (fun a' w' => wpTreeO P ops Q C k a' w') (fun a' w' h => h)
  split
  · rename_i hw
    rw [if_pos hw] at this
    exact Oper.wp_mono (fun a' w' h' => ⟨fun h => absurd h (by omega), h'⟩) this
  · rename_i hw; rw [if_neg hw] at this; exact this
theorem tree_stop {a : Act} {w : World} : wpTreeO P ops Q C .stop a w := trivial
end
end Go.Proofs.YtbafnlccpbonmaaGreatDoor
