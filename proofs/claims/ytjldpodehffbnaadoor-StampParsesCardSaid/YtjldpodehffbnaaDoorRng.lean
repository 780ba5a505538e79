/- A loop over an iterator that writes a variable of its own between two rounds: the loop's law over such an iterator's promise. Nothing here speaks of a program. -/
import Derived.RangeFuncCalls
import Derived.RangeFuncLeaves
import Derived.RangeFuncWrites
import Derived.WalkKit
namespace Go.Proofs.YtjldpodehffbnaaDoor
set_option linter.unusedVariables false
set_option linter.unnecessarySimpa false
set_option linter.unusedSimpArgs false
open Go.RowKit

/-- An iterator's promise: it hands over the list L, one by one; between two rounds it makes steps of the kind Step, and it wants that a round keeps Kp. -/
def SeqL {α : Type} (n : Nat) (P : Program) (gf : Nat) (lb : Array Value) (encs : α → Array Value) (Step Kp : World → World → Prop) (L : List α) (w0 : World) : Prop :=
  ∀ (l : Nat) (J Jx : List α → World → Prop) (W : World), Kp w0 W →
    (∀ s A B, J s A → Step A B → J s B) → (∀ s A B, Jx s A → Step A B → Jx s B) →
    (∀ pre x rest W1, L = pre ++ x :: rest → J pre W1 → YieldAt Fence.wide (n - 1) P l (encs x) W1 fun e W' => (e = .returned (.bool true) ∧ J (pre ++ [x]) W' ∧ Kp W1 W') ∨ (e = .returned (.bool false) ∧ Jx (pre ++ [x]) W')) →
    J [] W → CallsIn Fence.wide n P gf (#[.func (.yield l) #[] #[]] ++ lb) W fun e W' => (∃ v, e = .returned v) ∧ (J L W' ∨ ∃ pre x rest, L = pre ++ x :: rest ∧ Jx (pre ++ [x]) W')

/-- How a round's code may end: it goes on, or it leaves the function. -/
def rndEnd (B : Nat) (Kp : World → World → Prop) (I Ix : World → Prop) (W : World) : Exit → Act → World → Prop
  | .normal, _, W' => KeepsFrom B W W' ∧ Kp W W' ∧ I W'
  | .ret, _, W' => KeepsFrom B W W' ∧ Ix W'
  | _, _, _ => False

theorem KeepsFrom.below {B : Nat} {W W' : World} (h : Below W.heap.size W W') : KeepsFrom B W W' :=
  ⟨h.size, fun k o _ hk _ => (h.block k (Array.getElem?_eq_some_iff.1 hk).1).trans hk⟩

theorem wpIn_seqL {α : Type} {n : Nat} {P : Program} {g : Operand} {ps : Array Tmp} {assign body : Code} {Q : Exit → Act → World → Prop} {a : Act} {w : World}
    {gf : Nat} {lb : Array Value} (hg : a.eval g = .func (.func gf) #[] lb) (eg : ∀ args w, (callFunc gf args).run P w = .ok (.enter gf args) w)
    {encs : α → Array Value} {Step Kp : World → World → Prop} {L : List α} {w0 : World} (hseq : SeqL (n - 1) P gf lb encs Step Kp L w0) (hps : ∀ x, (encs x).size = ps.size)
    (hstep : ∀ A B, Step A B → ∀ k, w.heap.size ≤ k → B.heap[k]? = A.heap[k]?) (hKt : ∀ A B C, Kp A B → Kp B C → Kp A C) (hKo : ∀ W o, w.heap.size ≤ W.heap.size → Kp W (W.alloc o)) (hKp : ∀ W k o, w.heap.size ≤ k → Kp W (W.putObj k o)) (hw0 : Kp w0 w)
    (I Ix : List α → World → Prop) (hI : OwnFrom w.heap.size I) (hIx : OwnFrom w.heap.size Ix) (hIs : ∀ s A B, I s A → Step A B → I s B) (hIxs : ∀ s A B, Ix s A → Step A B → Ix s B) (h0 : I [] w) (a₁ : α → Act)
    (hassign : ∀ (l : Nat) (x : α) (W : World) (K : Act → World → Prop), K (a₁ x) W →
      assign.wpIn (Fence.wide.inRound l) (n - 1 - 1) P (Exit.then K (fun _ _ _ => False)) { tmps := (ps.zip (encs x)).foldl (fun t (p, v) => t.setIfInBounds p v) a.tmps, defers := [] } W)
    (hbody : ∀ (l : Nat) (pre : List α) (x : α) (rest : List α) (W : World), L = pre ++ x :: rest → I pre W → w.heap.size ≤ W.heap.size → body.wpIn (Fence.wide.inRound l) (n - 1 - 1) P (rndEnd w.heap.size Kp (I (pre ++ [x])) (Ix (pre ++ [x])) W) (a₁ x) W)
    (hdone : ∀ (D : Nat) (W : World), w.heap.size ≤ D → I L W → W.heap[D]? = some (.deferred (some [])) → Q .normal { a with defers := { target := .collected D, args := #[] } :: a.defers } W)
    (hstop : ∀ (D : Nat) (pre : List α) (x : α) (rest : List α) (W : World), w.heap.size ≤ D → L = pre ++ x :: rest → Ix (pre ++ [x]) W → W.heap[D]? = some (.deferred (some [])) → Code.ret.wpIn Fence.wide n P Q { a with defers := { target := .collected D, args := #[] } :: a.defers } W) :
    (Code.rangeFunc g ps assign body).wpIn Fence.wide n P Q a w := by
  refine wpIn_rangeFunc fun fn hfn => ?_
  obtain ⟨R, hR⟩ : ∃ R : LoopState → Option Code → Loop, ∀ s p, R s p = { state := s, pending := p, fn, tmps := a.tmps, params := ps, assign, body, defers := w.heap.size } := ⟨_, fun _ _ => rfl⟩
  let D := w.heap.size
  let l := w.heap.size + 1
  obtain ⟨W1, hW1⟩ : ∃ W1, (w.alloc (.deferred (some []))).alloc (.loop (R .ready none)) = W1 := ⟨_, rfl⟩
  have hl1 : W1.heap[l]? = some (.loop (R .ready none)) := by
    have := World.alloc_heap_new (w.alloc (.deferred (some []))) (.loop (R .ready none))
    rw [World.size_alloc, hW1] at this
    exact this
  have hd1 : W1.heap[D]? = some (.deferred (some [])) := by
    rw [← hW1]
    exact (Below.heap_alloc _ _ _ (by simp [D])).trans (World.alloc_heap_new w _)
  have hs1 : w.heap.size ≤ W1.heap.size := by rw [← hW1]; simp; omega
  have hI1 : I [] W1 := by rw [← hW1]; exact hI.alloc _ (hI.alloc _ h0)
  have hK1 : Kp w0 W1 := by
    rw [← hW1]
    exact hKt _ _ _ hw0 (hKt _ _ _ (hKo _ _ (Nat.le_refl _)) (hKo _ _ (by simp)))
  refine ⟨l, [{ target := .collected D, args := #[] }], W1, { target := .fn (.func gf) lb, args := #[.func (.yield l) #[] #[]] }, W1, gf, #[.func (.yield l) #[] #[]] ++ lb, W1, ?_, ?_, fun _ _ => trivial, ?_, (fun h => by cases h), ?_⟩
  · rw [← hW1, hR]
    exact run_enterLoop_outer _ _ _ _ _
  · simp only [resolve, hg]
    simp [go_sem]
  · simp [invoke, go_sem, eg]
  have book : ∀ (st : LoopState) (p : Option Code) (A B : World), Step A B → A.heap[l]? = some (.loop (R st p)) ∧ A.heap[D]? = some (.deferred (some [])) ∧ w.heap.size ≤ A.heap.size → B.heap[l]? = some (.loop (R st p)) ∧ B.heap[D]? = some (.deferred (some [])) ∧ w.heap.size ≤ B.heap.size := fun st p A B hAB h => by
    have e1 := (hstep A B hAB l (by omega)).trans h.1
    exact ⟨e1, (hstep A B hAB D (Nat.le_refl _)).trans h.2.1, by have := (Array.getElem?_eq_some_iff.1 e1).1; omega⟩
  refine (hseq l (fun pre W => I pre W ∧ W.heap[l]? = some (.loop (R .ready none)) ∧ W.heap[D]? = some (.deferred (some [])) ∧ w.heap.size ≤ W.heap.size)
    (fun pre W => Ix pre W ∧ W.heap[l]? = some (.loop (R .done (some .ret))) ∧ W.heap[D]? = some (.deferred (some [])) ∧ w.heap.size ≤ W.heap.size) W1 hK1
    (fun s A B h hAB => ⟨hIs s A B h.1 hAB, book _ _ A B hAB h.2⟩) (fun s A B h hAB => ⟨hIxs s A B h.1 hAB, book _ _ A B hAB h.2⟩) ?_ ⟨hI1, hl1, hd1, hs1⟩).mono ?_
  · -- one round
    rintro pre x rest W hL ⟨hi, hl, hd, hsz⟩
    have hy := run_yield (P := P) (args := encs x) hl (by rw [hR]; exact hps x)
    rw [hR] at hy
    refine ⟨fn, _, assign, body, hy, roundIn_of_wpIn hfn (hassign _ x W _ ⟨_, run_beginRound hl (by rw [hR]), ?_⟩)⟩
    have hb : ({ R .ready none with state := .busy } : Loop) = R .busy none := by rw [hR, hR]
    rw [hb]
    have hlt := (Array.getElem?_eq_some_iff.1 hl).1
    have hl2 : (W.putObj l (.loop (R .busy none))).heap[l]? = some (.loop (R .busy none)) := World.putObj_heap_same hlt
    have hd2 : (W.putObj l (.loop (R .busy none))).heap[D]? = some (.deferred (some [])) := (World.putObj_heap_other (by show w.heap.size ≠ w.heap.size + 1; omega)).trans hd
    have hle : w.heap.size ≤ l := Nat.le_succ _
    -- the record's last step
    have fin : ∀ (j : Option Code) (W3 : World), KeepsFrom w.heap.size (W.putObj l (.loop (R .busy none))) W3 →
        ∃ W4, (Instr.endRound l j).run P W3 = .ok (.bool j.isNone) W4 ∧ W4 = W3.putObj l (.loop (R (if j.isNone then .ready else .done) j)) ∧ W3.heap[l]? = some (.loop (R .busy none)) ∧
          W4.heap[l]? = some (.loop (R (if j.isNone then .ready else .done) j)) ∧ W4.heap[D]? = some (.deferred (some [])) ∧ w.heap.size ≤ W4.heap.size := fun j W3 hk => by
      have e1 := hk.same l _ hle hl2 rfl
      have e2 := hk.same D _ (Nat.le_refl _) hd2 rfl
      have e3 := run_endRound (P := P) j e1
      refine ⟨_, e3, by rw [hR, hR], e1, ?_, (World.putObj_heap_other (by show w.heap.size ≠ w.heap.size + 1; omega)).trans e2, ?_⟩
      · have := World.putObj_heap_same (o := .loop { R .busy none with state := if j.isNone then .ready else .done, pending := j }) (Array.getElem?_eq_some_iff.1 e1).1
        rw [this, hR, hR]
      · have := (Array.getElem?_eq_some_iff.1 e1).1
        simp
        omega
    have hsz2 : w.heap.size ≤ (W.putObj l (.loop (R .busy none))).heap.size := by simp; exact hsz
    refine wpIn_mono (hbody _ pre x rest _ hL (hI.putObj _ hi hle hl rfl) hsz2) ?_
    rintro e a3 W3 hp
    cases e with
    | normal =>
      obtain ⟨hk, hkp, hi3⟩ := hp
      obtain ⟨W4, h4, rfl, h5, h6, h7, h8⟩ := fin none W3 hk
      exact ⟨_, _, h4, .inl ⟨rfl, ⟨hI.putObj _ hi3 hle h5 rfl, h6, h7, h8⟩, hKt _ _ _ (hKt _ _ _ (hKp W l _ hle) hkp) (hKp W3 l _ hle)⟩⟩
    | ret =>
      obtain ⟨hk, hi3⟩ := hp
      obtain ⟨W4, h4, rfl, h5, h6, h7, h8⟩ := fin (some .ret) W3 hk
      exact ⟨_, _, h4, .inr ⟨rfl, hIx.putObj _ hi3 hle h5 rfl, h6, h7, h8⟩⟩
    | exit id => exact hp.elim
    | goto t => exact hp.elim
    | panic ch => exact hp.elim
    | outgrown => exact hp.elim
  · -- behind the iterator
    have hle : w.heap.size ≤ l := Nat.le_succ _
    have other : ∀ (W : World) (o : Obj), W.heap[D]? = some (.deferred (some [])) → (W.putObj l o).heap[D]? = some (.deferred (some [])) := fun W o h => (World.putObj_heap_other (by show w.heap.size ≠ w.heap.size + 1; omega)).trans h
    rintro e W2 ⟨⟨v, rfl⟩, (⟨hi, hl, hd, _⟩ | ⟨pre, x, rest, hL, hi, hl, hd, _⟩)⟩
    · have := run_endLoop (P := P) hl (by rw [hR]; simp)
      rw [hR] at this
      exact ⟨none, _, this, hdone _ _ (Nat.le_refl _) (hI.putObj _ hi hle hl rfl) (other _ _ hd)⟩
    · have := run_endLoop (P := P) hl (by rw [hR]; simp)
      rw [hR] at this
      exact ⟨some .ret, _, this, hstop _ pre x rest _ (Nat.le_refl _) hL (hIx.putObj _ hi hle hl rfl) (other _ _ hd)⟩
end Go.Proofs.YtjldpodehffbnaaDoor
