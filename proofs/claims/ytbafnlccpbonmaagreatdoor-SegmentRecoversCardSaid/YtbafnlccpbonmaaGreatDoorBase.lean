/- Words of our own for the walks: lists of integers as slices, frames that only grow, the order of integers and of lists. Nothing here speaks of a program. -/
import Derived.WalkKit
import Derived.WalkSpells
import Derived.WalkLawsBesides
import Derived.Lib.Hide
import Derived.Deep.RegionHeld3
import Derived.Deep.QuietTactic
import Derived.BigQuiet
import Derived.KernelRfl
import Derived.StillTail
import Derived.Maps.AppendAt
import Derived.Deep.AppendLies
import Derived.RegionTactic
import Derived.OwnWalk
namespace Go.Proofs.YtbafnlccpbonmaaGreatDoor
set_option linter.unusedVariables false
set_option linter.unnecessarySimpa false
set_option linter.unusedSimpArgs false
open Go.RowKit

/-- As many bytes as a slice may take that grows. (Behind a name: the walk does not bear so great a numeral.) -/
def Fits (n : Nat) : Prop := n ≤ 140737488355328
theorem Fits.le {n m : Nat} (h : Fits n) (hm : m ≤ n) : Fits m := Nat.le_trans hm h
theorem ret_i {k : IntKind} {a b : Int} (h : a = b) : Ending.returned (.int k a) = .returned (.int k b) := by rw [h]
theorem ret_b {a b : Bool} (h : a = b) : Ending.returned (.bool a) = .returned (.bool b) := by rw [h]

/-! ### The order of integers and of lists -/
def cmpI (a b : Int) : Int := if a < b then -1 else if a > b then 1 else 0
theorem cmpI_lt {a b : Int} (h : a < b) : cmpI a b = -1 := if_pos h
theorem cmpI_gt {a b : Int} (h : b < a) : cmpI a b = 1 := by unfold cmpI; rw [if_neg (by omega), if_pos h]
theorem cmpI_eq {a b : Int} (h : b ≤ a) (h' : a ≤ b) : cmpI a b = 0 := by unfold cmpI; rw [if_neg (by omega), if_neg (by omega)]
theorem cmpI_zero {a b : Int} : cmpI a b = 0 ↔ a = b := by unfold cmpI; split <;> (try split) <;> omega
def cmpL : List Int → List Int → Int
  | [], [] => 0
  | [], _ :: _ => -1
  | _ :: _, [] => 1
  | x :: xs, y :: ys => if cmpI x y = 0 then cmpL xs ys else cmpI x y
def orL : List Int → Int
  | [] => 0
  | x :: xs => if x = 0 then orL xs else x
/-- The order of stamps. -/
def cmpS (e : Int) (xs : List Int) (f : Int) (ys : List Int) : Int := if cmpI e f = 0 then cmpL xs ys else cmpI e f
theorem orL_cmp (e f : Int) (xs ys : List Int) : orL [cmpI e f, cmpL xs ys] = cmpS e xs f ys := by
  unfold cmpS
  simp only [orL]
  by_cases h : cmpI e f = 0
  · rw [if_pos h, if_pos h]
    by_cases h2 : cmpL xs ys = 0
    · rw [if_pos h2, h2]
    · rw [if_neg h2]
  · rw [if_neg h, if_neg h]

theorem cmpI_neg (a b : Int) : cmpI b a = - cmpI a b := by unfold cmpI; split <;> split <;> (try split) <;> omega
theorem cmpI_cases (a b : Int) : cmpI a b = -1 ∨ cmpI a b = 0 ∨ cmpI a b = 1 := by unfold cmpI; split <;> (try split) <;> simp
theorem cmpL_neg : ∀ (xs ys : List Int), cmpL ys xs = - cmpL xs ys
  | [], [] => rfl
  | [], _ :: _ => rfl
  | _ :: _, [] => rfl
  | x :: xs, y :: ys => by
    simp only [cmpL]
    rw [cmpI_neg x y]
    by_cases h : cmpI x y = 0
    · rw [if_pos h, if_pos (by omega)]; exact cmpL_neg xs ys
    · rw [if_neg h, if_neg (by omega)]
theorem cmpL_cases : ∀ (xs ys : List Int), cmpL xs ys = -1 ∨ cmpL xs ys = 0 ∨ cmpL xs ys = 1
  | [], [] => .inr (.inl rfl)
  | [], _ :: _ => .inl rfl
  | _ :: _, [] => .inr (.inr rfl)
  | x :: xs, y :: ys => by
    simp only [cmpL]
    by_cases h : cmpI x y = 0
    · rw [if_pos h]; exact cmpL_cases xs ys
    · rw [if_neg h]; exact cmpI_cases x y
theorem cmpL_zero : ∀ {xs ys : List Int}, cmpL xs ys = 0 ↔ xs = ys
  | [], [] => by simp [cmpL]
  | [], _ :: _ => by simp [cmpL]
  | _ :: _, [] => by simp [cmpL]
  | x :: xs, y :: ys => by
    simp only [cmpL, List.cons.injEq]
    by_cases h : cmpI x y = 0
    · rw [if_pos h, cmpL_zero]; simp [cmpI_zero.1 h]
    · rw [if_neg h]; exact ⟨fun e => absurd e h, fun e => absurd (cmpI_zero.2 e.1) h⟩
theorem cmpS_neg (e f : Int) (xs ys : List Int) : cmpS f ys e xs = - cmpS e xs f ys := by
  unfold cmpS
  rw [cmpI_neg e f]
  by_cases h : cmpI e f = 0
  · rw [if_pos h, if_pos (by omega)]; exact cmpL_neg xs ys
  · rw [if_neg h, if_neg (by omega)]
theorem cmpS_cases (e f : Int) (xs ys : List Int) : cmpS e xs f ys = -1 ∨ cmpS e xs f ys = 0 ∨ cmpS e xs f ys = 1 := by
  unfold cmpS
  split
  · exact cmpL_cases xs ys
  · exact cmpI_cases e f
theorem cmpS_zero {e f : Int} {xs ys : List Int} : cmpS e xs f ys = 0 ↔ e = f ∧ xs = ys := by
  unfold cmpS
  by_cases h : cmpI e f = 0
  · rw [if_pos h, cmpL_zero]; simp [cmpI_zero.1 h]
  · rw [if_neg h]; exact ⟨fun e => absurd e h, fun e => absurd (cmpI_zero.2 e.1) h⟩
theorem cmpS_same {e : Int} {xs ys : List Int} : cmpS e xs e ys = cmpL xs ys := by unfold cmpS; rw [if_pos (cmpI_zero.2 rfl)]
theorem cmpS_ne {e f : Int} {xs ys : List Int} (h : e ≠ f) : cmpS e xs f ys = cmpI e f := by unfold cmpS; rw [if_neg (fun x => h (cmpI_zero.1 x))]
/-- x, y and z as the comparisons of a with b, b with c and a with c. -/
def Tri (x y z : Int) : Prop := (x ≤ 0 → y ≤ 0 → z = min x y) ∧ (0 ≤ x → 0 ≤ y → z = max x y)
theorem cmpI_tri (a b c : Int) : Tri (cmpI a b) (cmpI b c) (cmpI a c) := by
  unfold Tri cmpI
  constructor <;> (repeat' split) <;> omega
theorem cmpL_tri : ∀ (a b c : List Int), Tri (cmpL a b) (cmpL b c) (cmpL a c)
  | [], [], [] => by simp [Tri, cmpL]
  | [], [], _ :: _ => by simp only [Tri, cmpL]; omega
  | [], _ :: _, [] => by simp only [Tri, cmpL]; omega
  | [], y :: ys, z :: zs => by
    have := cmpL_cases (y :: ys) (z :: zs)
    simp only [Tri, cmpL] at this ⊢
    omega
  | _ :: _, [], [] => by simp only [Tri, cmpL]; omega
  | x :: xs, [], z :: zs => by simp only [Tri, cmpL]; omega
  | x :: xs, y :: ys, [] => by
    have := cmpL_cases (x :: xs) (y :: ys)
    simp only [Tri, cmpL] at this ⊢
    omega
  | x :: xs, y :: ys, z :: zs => by
    have h1 := cmpI_tri x y z
    have h2 := cmpL_tri xs ys zs
    have c1 := cmpI_cases x y
    have c2 := cmpI_cases y z
    have c3 := cmpL_cases xs ys
    have c4 := cmpL_cases ys zs
    simp only [Tri, cmpL] at h1 h2 ⊢
    generalize cmpI x y = p at *
    generalize cmpI y z = q at *
    generalize cmpI x z = r at *
    generalize cmpL xs ys = s at *
    generalize cmpL ys zs = t at *
    generalize cmpL xs zs = u at *
    constructor <;> (repeat' split) <;> omega
theorem cmpS_tri (e f g : Int) (a b c : List Int) : Tri (cmpS e a f b) (cmpS f b g c) (cmpS e a g c) := by
  have h1 := cmpI_tri e f g
  have h2 := cmpL_tri a b c
  have c1 := cmpI_cases e f
  have c2 := cmpI_cases f g
  have c3 := cmpL_cases a b
  have c4 := cmpL_cases b c
  simp only [Tri, cmpS] at h1 h2 ⊢
  generalize cmpI e f = p at *
  generalize cmpI f g = q at *
  generalize cmpI e g = r at *
  generalize cmpL a b = s at *
  generalize cmpL b c = t at *
  generalize cmpL a c = u at *
  constructor <;> (repeat' split) <;> omega
/-- The stamp (e, xs) descends from (f, ys). -/
def descS (e : Int) (xs : List Int) (f : Int) (ys : List Int) : Bool := decide (e = f ∧ ys.length < xs.length ∧ xs.take ys.length = ys)

/-! ### Frames that only grow: all blocks that were there are as they were -/
theorem G.refl (w : World) : Below w.heap.size w w := Below.refl _ _
theorem G.alloc {a w : World} (h : Below a.heap.size a w) (o : Obj) : Below a.heap.size a (w.alloc o) := h.alloc h.size o
theorem G.drew {a w : World} (h : Below a.heap.size a w) : Below a.heap.size a w.drew := h.drew
theorem G.drewN {a w : World} (h : Below a.heap.size a w) (n : Nat) : Below a.heap.size a (w.drewN n) := ⟨h.os, h.tape, h.output, h.size, h.block⟩
theorem G.trans {a b c : World} (h : Below a.heap.size a b) (k : Below b.heap.size b c) : Below a.heap.size a c := h.trans (k.mono h.size)
theorem cell_lt {w : World} {a : Addr} {v : Value} (h : w.cell? a = some v) : a.block < w.heap.size := by
  unfold World.cell? at h
  rcases Nat.lt_or_ge a.block w.heap.size with h' | h'
  · exact h'
  · rw [Array.getElem?_eq_none h'] at h; cases h
theorem G.cell {w w' : World} {a : Addr} {v : Value} (h : w.cell? a = some v) (hb : Below w.heap.size w w') : w'.cell? a = some v := (hb.cell (cell_lt h)).trans h

/-- What a call that only grows leaves: all old cells read as before (the walk uses both as rules). -/
theorem G.old {W w1 : World} (hb : Below W.heap.size W w1) : (∀ b o, b < W.heap.size → w1.cell? ⟨b, o, none⟩ = W.cell? ⟨b, o, none⟩) ∧ (∀ b o, b < W.heap.size → w1.frozen? ⟨b, o, none⟩ = W.frozen? ⟨b, o, none⟩) :=
  ⟨fun b o h => hb.cell (p := ⟨b, o, none⟩) h, fun b o h => hb.frozen (p := ⟨b, o, none⟩) h⟩

/-! ### A slice of cells -/
/-- The slice value '.slice A n _' holds the cells xs. -/
def Sl (w : World) (A : Option Addr) (n : Nat) (xs : List Value) : Prop :=
  xs.length = n ∧ (0 < n → ∃ b off, A = some ⟨b, off, none⟩ ∧ b < w.heap.size ∧ ∀ j u, xs[j]? = some u → w.cell? ⟨b, off + j, none⟩ = some u)
abbrev i64s (xs : List Int) : List Value := xs.map (Value.int .i64)
theorem Sl.at_ {w : World} {A : Option Addr} {n : Nat} {xs : List Int} (h : Sl w A n (i64s xs)) {k : Nat} (hk : k < n) :
    ∃ b off x, A = some ⟨b, off, none⟩ ∧ b < w.heap.size ∧ xs[k]? = some x ∧ w.cell? ⟨b, off + k, none⟩ = some (.int .i64 x) := by
  obtain ⟨b, off, e, hb, hc⟩ := h.2 (by omega)
  have hl : k < xs.length := by have := h.1; simp at this; omega
  exact ⟨b, off, xs[k], e, hb, List.getElem?_eq_getElem hl, hc k _ (by simp [List.getElem?_eq_getElem hl])⟩
theorem Sl.at0 {w : World} {A : Option Addr} {n : Nat} {xs : List Int} (h : Sl w A n (i64s xs)) (hk : 0 < n) :
    ∃ b off x, A = some ⟨b, off, none⟩ ∧ b < w.heap.size ∧ xs[0]? = some x ∧ w.cell? ⟨b, off, none⟩ = some (.int .i64 x) := h.at_ hk
/-- A cell of a slice whose address is known. -/
theorem Sl.get {w : World} {b off n : Nat} {xs : List Int} (h : Sl w (some ⟨b, off, none⟩) n (i64s xs)) {k : Nat} (hk : k < n) :
    ∃ x, xs[k]? = some x ∧ w.cell? ⟨b, off + k, none⟩ = some (.int .i64 x) := by
  obtain ⟨b', off', x, e, _, hx, hc⟩ := h.at_ hk
  simp only [Option.some.injEq, Addr.mk.injEq, and_true] at e
  obtain ⟨rfl, rfl⟩ := e
  exact ⟨x, hx, hc⟩
theorem Sl.len {w : World} {A : Option Addr} {n : Nat} {xs : List Int} (h : Sl w A n (i64s xs)) : xs.length = n := by have := h.1; simpa using this
theorem Sl.grow {w w' : World} {A : Option Addr} {n : Nat} {xs : List Value} (h : Sl w A n xs) (hb : Below w.heap.size w w') : Sl w' A n xs :=
  ⟨h.1, fun hn => let ⟨b, off, e, hl, hc⟩ := h.2 hn; ⟨b, off, e, Nat.lt_of_lt_of_le hl hb.size, fun j u hu => G.cell (hc j u hu) hb⟩⟩
theorem Sl.drew {w : World} {A : Option Addr} {n : Nat} {xs : List Value} (h : Sl w A n xs) : Sl w.drew A n xs := h
theorem Sl.drewN {w : World} {A : Option Addr} {n : Nat} {xs : List Value} (h : Sl w A n xs) (k : Nat) : Sl (w.drewN k) A n xs := h
theorem Sl.alloc {w : World} {A : Option Addr} {n : Nat} {xs : List Value} (h : Sl w A n xs) (o : Obj) : Sl (w.alloc o) A n xs := h.grow (G.alloc (G.refl w) o)
theorem addr_add (B j : Nat) : (Addr.add ⟨B, 0, none⟩ j) = ⟨B, j, none⟩ := by unfold Addr.add; split <;> simp_all
theorem Sl.nil (w : World) (A : Option Addr) : Sl w A 0 [] := ⟨rfl, fun h => absurd h (by omega)⟩
theorem Sl.new {w : World} {l : List Value} {t : TypeId} {B n : Nat} (hB : B = w.heap.size) (hn : n = l.length) : Sl (w.alloc (.cells l.toArray t)) (some ⟨B, 0, none⟩) n l := by
  subst hB hn
  exact ⟨rfl, fun _ => ⟨_, _, rfl, by simp, fun j u hu => by
    rw [Nat.zero_add]
    simp only [World.cell?, heap_alloc_new]
    simpa using hu⟩⟩
theorem Sl.new' {w : World} {cs : Array Value} {l : List Value} {t : TypeId} {B n : Nat} (hcs : cs = l.toArray) (hB : B = w.heap.size) (hn : n = l.length) : Sl (w.alloc (.cells cs t)) (some ⟨B, 0, none⟩) n l := by
  subst hcs; exact Sl.new hB hn
theorem Sl.take {w : World} {A : Option Addr} {n : Nat} {xs : List Value} (h : Sl w A n xs) {k : Nat} (hk : k ≤ n) : Sl w A k (xs.take k) :=
  ⟨by rw [List.length_take, h.1]; omega, fun h0 => let ⟨b, off, e, hl, hc⟩ := h.2 (by omega); ⟨b, off, e, hl, fun j u hu => hc j u (by
    rw [List.getElem?_take] at hu
    split at hu
    · exact hu
    · cases hu)⟩⟩
theorem i64s_take (xs : List Int) (k : Nat) : (i64s xs).take k = i64s (xs.take k) := by simp
theorem drop_at {α : Type} {xs : List α} {k : Nat} {x : α} (h : xs[k]? = some x) : xs.drop k = x :: xs.drop (k + 1) :=
  List.drop_eq_getElem?_toList_append.trans (by simp [h])

/-- The slice lies in a block from B on (or nowhere). -/
def Abv (B : Nat) (A : Option Addr) : Prop := ∀ ad, A = some ad → B ≤ ad.block
theorem own_grow {w w' : World} {base : Nat} {e : TypeId} {size : Nat} {v : Value} {n : Nat} {xs : List Value} (h : w.ownsRow base e size v n xs) (hb : Below w.heap.size w w') : w'.ownsRow base e size v n xs := by
  refine ⟨h.1, ?_⟩
  rcases h.2 with h0 | ⟨g, cap, cur, hv, hg, hh, hr⟩
  · exact .inl h0
  · refine .inr ⟨g, cap, cur, hv, hg, ?_, hr⟩
    rw [hb.block g]
    · exact hh
    · rcases Nat.lt_or_ge g w.heap.size with h' | h'
      · exact h'
      · rw [Array.getElem?_eq_none h'] at hh; cases hh
theorem own_made {w : World} {base g : Nat} {e : TypeId} {size : Nat} (hg : g = w.heap.size) (hb : base ≤ g) : (w.alloc (.cells #[] e)).ownsRow base e size (.slice (some ⟨g, 0, none⟩) 0 0) 0 [] := by
  subst hg
  exact World.ownsRow_made w #[] 0 hb (Nat.zero_le _) (by simp)
theorem own_mono {w : World} {base base' : Nat} {e : TypeId} {size : Nat} {v : Value} {n : Nat} {xs : List Value} (h : w.ownsRow base e size v n xs) (hb : base' ≤ base) : w.ownsRow base' e size v n xs := by
  refine ⟨h.1, ?_⟩
  rcases h.2 with h0 | ⟨g, cap, cur, hv, hg, hr⟩
  · exact .inl h0
  · exact .inr ⟨g, cap, cur, hv, Nat.le_trans hb hg, hr⟩
theorem own_cap {w : World} {base : Nat} {e : TypeId} {size : Nat} {A : Option Addr} {n c : Nat} {xs : List Value} (h : w.ownsRow base e size (.slice A n c) n xs) : n ≤ c ∧ c ≤ maxLen := by
  rcases h.2 with ⟨hv, _⟩ | ⟨g, cap, cur, hv, _, _, hn, hm, _⟩
  · injection hv with _ h1 h2; subst h1; subst h2; exact ⟨Nat.le_refl _, Nat.zero_le _⟩
  · injection hv with _ _ h2; subst h2; exact ⟨hn, hm⟩
theorem Abv.none_ (B : Nat) : Abv B none := fun _ h => by cases h
theorem Abv.some_ {B : Nat} {ad : Addr} (h : B ≤ ad.block) : Abv B (some ad) := fun _ e => by cases e; exact h
theorem Abv.mono {B B' : Nat} {A : Option Addr} (h : Abv B A) (hb : B' ≤ B) : Abv B' A := fun ad e => Nat.le_trans hb (h ad e)
theorem Abv.of_own {w : World} {base : Nat} {e : TypeId} {size : Nat} {A : Option Addr} {n c : Nat} {xs : List Value} (h : w.ownsRow base e size (.slice A n c) n xs) : Abv base A := by
  rcases h.2 with ⟨hv, _⟩ | ⟨g, cap, cur, hv, hg, _⟩
  · injection hv with hA; subst hA; exact Abv.none_ _
  · injection hv with hA; subst hA; exact Abv.some_ hg
/-- A store elsewhere. -/
theorem Sl.setCell {w : World} {A : Option Addr} {n : Nat} {xs : List Value} (h : Sl w A n xs) {B : Nat} (ha : Abv B A) {p : Addr} (hp : p.block < B) (u : Value) : Sl (w.setCell p u) A n xs :=
  ⟨h.1, fun hn => let ⟨b, off, e, hl, hc⟩ := h.2 hn; ⟨b, off, e, by simpa [World.setCell] using hl, fun j v hv => by
    have hb : B ≤ b := ha _ e
    rw [World.cell?_setCell_other _ _ _ _ (fun e' => by subst e'; simp at hp; omega)]
    exact hc j v hv⟩⟩

/-! ### A region that draws its order, whose operations read or make memory and give one value in every world that has only grown -/
section
variable {P : Program} {ops : Array Oper} {C : World → Prop}
/-- w' is w with more memory. (A name that the walk does not look behind.) -/
def Grew (w w' : World) : Prop := Below w.heap.size w w'
theorem Grew.b {w w' : World} (h : Grew w w') : Below w.heap.size w w' := h
theorem Grew.trans {a b c : World} (h : Grew a b) (k : Below b.heap.size b c) : Grew a c := G.trans h k
theorem q_any {o : Oper} {a : Act} {K : Act → Prop} (hw : Region.wanted o (yielded ops a.tmps) = true) (h : ∃ v, (∀ wq, C wq → o.quietAt P a C wq v) ∧ K (a.put o.dst v)) :
    if Region.wanted o (yielded ops a.tmps) then o.quiet P a C K else K (a.put o.dst undef) := by
  rw [if_pos hw]; exact h
theorem q_skip {o : Oper} {a : Act} {K : Act → Prop} (hw : Region.wanted o (yielded ops a.tmps) = false) (hn : K (a.put o.dst undef)) :
    if Region.wanted o (yielded ops a.tmps) then o.quiet P a C K else K (a.put o.dst undef) := by
  rw [if_neg (by simp [hw])]; exact hn
theorem wp_region_grow {id : Nat} {Q : Exit → Act → World → Prop} {a : Act} {w : World} {l : List Oper} (hm : P.follows .mixedOrders = true) (hB : Region.lexB .any l.toArray = true)
    (h : wpQuiet P l.toArray (Grew w) (fun a' => ∀ w', Grew w w' → Q .normal a' w') l a) : (Code.region id l.toArray true).wp P Q a w :=
  wp_region_quiet (C := Grew w) hm hB (G.drew (G.refl w)) (by simpa using h)
end

/-! ### The same with a tail: the operations from number n on come last, in one forced order (stores, assignments) -/
section
variable {P : Program} {ops : Array Oper} {md : Region.Mode} {C : World → Prop}
def HeadQ (P : Program) (md : Region.Mode) (ops : Array Oper) (C : World → Prop) (n : Nat) (L : Array Bool → Act → Prop) : Nat → Array Bool → Act → Prop
  | 0, listed, a => L listed a
  | f + 1, listed, a => Region.ready md ops listed ≠ [] ∧ ∀ i ∈ Region.ready md ops listed, i < n ∧ qOp P ops C i (HeadQ P md ops C n L f (listed.setIfInBounds i true)) a
theorem any_of_headQ {n g : Nat} {L : Array Bool → Act → Prop} {Q' : Exit → Act → World → Prop} (hL : ∀ listed a w, C w → L listed a → wpAny P md ops Q' g listed a w) :
    ∀ (f : Nat) (listed : Array Bool) (a : Act) (w : World), C w → HeadQ P md ops C n L f listed a → wpAny P md ops Q' (f + g) listed a w
  | 0, listed, a, w, hw, h => by rw [Nat.zero_add]; exact hL _ _ _ hw h
  | f + 1, listed, a, w, hw, h => by
    rw [show f + 1 + g = (f + g) + 1 by omega]
    exact ⟨fun h0 => absurd h0 h.1, fun i hi => wpOp_of_qOp hw (fun a' w' hw' h' => any_of_headQ hL f _ a' w' hw' h') (h.2 i hi).2⟩
theorem headQ_first {n i : Nat} {oi : Oper} {v : Value} {L : Array Bool → Act → Prop} (hi : ops[i]? = some oi) (hsel : ∀ (j : Nat) (o : Oper) cs b, ops[j]? = some o → o.op ≠ .select cs b)
    (hs : Region.sinkB md ops n = true) (hc : Region.chainB md ops n = true) (hn : n < ops.size) (hin : i < n) (hdone : ∀ listed a, L listed a → ∀ j ∈ Region.ready md ops listed, n ≤ j) :
    ∀ (f : Nat) (listed : Array Bool) (a : Act), HeadInv md ops n listed →
      (∀ j oj, ops[j]? = some oj → j ≠ i → listed.getD j true = false → (∀ e ∈ oj.after, Region.binds md e = true → e.on ≠ i) → oi.apart ops oj = true) →
      i ∈ Region.ready md ops listed → YieldsIn P ops C oi v a → HeadQ P md ops C n L f (listed.setIfInBounds i true) (a.put oi.dst v) → HeadQ P md ops C n L (f + 1) listed a := by
  intro f
  induction f with
  | zero =>
    intro listed a inv _ hr hy H
    have hun := (mem_ready.1 hr).1
    refine ⟨fun h => (by rw [h] at hr; cases hr), fun j hj => ?_⟩
    have hjn : j < n := (Nat.lt_or_ge j n).elim id fun h => absurd hj (tail_waits hs hc hn inv _ i rfl hin hun j h)
    refine ⟨hjn, ?_⟩
    by_cases hji : j = i
    · subst hji; exact hy.qOp hi H
    · have := hdone _ _ H j (ready_mono hj hji)
      omega
  | succ f ih =>
    intro listed a inv hfree hr hy H
    have hun := (mem_ready.1 hr).1
    refine ⟨fun h => (by rw [h] at hr; cases hr), fun j hj => ?_⟩
    have hjn : j < n := (Nat.lt_or_ge j n).elim id fun h => absurd hj (tail_waits hs hc hn inv _ i rfl hin hun j h)
    refine ⟨hjn, ?_⟩
    by_cases hji : j = i
    · subst hji; exact hy.qOp hi H
    · have h1 := (H.2 j (ready_mono hj hji)).2
      obtain ⟨hjun, oj, hoj, hall⟩ := mem_ready.1 hj
      have hnot : ∀ e ∈ oj.after, Region.binds md e = true → e.on ≠ i := fun e he hb heq => by
        have h1 := hall e he hb
        rw [heq, getD_both hun] at h1
        cases h1
      have h2 := qOp_put hoj (hfree j oj hoj hji hjun hnot) (fun cs b => hsel i oi cs b hi) (fun cs b => hsel j oj cs b hoj) hy h1
      refine qOp_mono (fun a' h3 => ih (listed.setIfInBounds j true) a' (inv.set hj hjn) (fun k ok hk hki hunk hno => ?_) (ready_mono hr (Ne.symm hji)) h3.1 ?_) h2
      · refine hfree k ok hk hki ?_ hno
        by_cases hjk : j = k
        · subst hjk; exact hjun
        · rw [getD_set_ne true hjk] at hunk; exact hunk
      · rw [Array.setIfInBounds_comm _ _ hji]
        exact h3.2
theorem headQ_lex {n g : Nat} {Lq : Act → Prop} (hsel : Region.noSelect ops = true) (hs : Region.sinkB md ops n = true) (hc : Region.chainB md ops n = true) (hn : n < ops.size) :
    ∀ (l : List Oper) (k : Nat) (listed : Array Bool) (a : Act), (∀ j, j < l.length → l[j]? = ops[k + j]?) → k + l.length = n → HeadInv md ops n listed →
    Region.lexHead md ops g l.length k listed = true → wpQuiet P ops C Lq l a → HeadQ P md ops C n (fun listed' a' => Region.seqB md ops g n listed' = true ∧ Lq a') l.length listed a
  | [], k, listed, a, _, hk, _, hB, h => by
    have : k = n := by simpa using hk
    subst this
    exact ⟨by simpa [Region.lexHead] using hB, h⟩
  | o :: l, k, listed, a, hl, hk, inv, hB, h => by
    have h0 : ops[k]? = some o := by simpa using (hl 0 (by simp)).symm
    simp only [List.length_cons, Region.lexHead, Bool.and_eq_true] at hB
    obtain ⟨⟨hr, hf⟩, hB'⟩ := hB
    have hkn : k < n := by simp only [List.length_cons] at hk; omega
    have hr' : k ∈ Region.ready md ops listed := by simpa using hr
    have hst : qOp P ops C k (wpQuiet P ops C Lq l) a := by unfold qOp; simp only [h0]; exact h
    obtain ⟨v, hy, hK⟩ := yieldsIn_of_qOp h0 hst
    exact headQ_first h0 (Region.noSelect_spec hsel) hs hc hn hkn (fun listed' a' hL => seqB_ready hL.1) l.length listed a inv (Region.free_spec h0 hf) hr' hy
      (headQ_lex hsel hs hc hn l (k + 1) _ _ (fun j hj => by have := hl (j + 1) (by simp; omega); simpa [Nat.add_assoc, Nat.add_comm 1 j] using this) (by simp only [List.length_cons] at hk; omega) (inv.set hr' hkn) hB' hK)
theorem wp_region_grow_tail {id : Nat} {Q : Exit → Act → World → Prop} {a : Act} {w : World} {l : List Oper} (n : Nat) (hm : P.follows .mixedOrders = true) (hB : Region.lexTailB .any l.toArray n = true)
    (h : wpQuiet P l.toArray (Grew w) (fun a' => ∀ w', Grew w w' → wpList P l.toArray Q (l.drop n) a' w') (l.take n) a) : (Code.region id l.toArray true).wp P Q a w := by
  simp only [Region.lexTailB, Bool.and_eq_true, decide_eq_true_eq] at hB
  obtain ⟨⟨⟨⟨hsel, hn⟩, hs⟩, hc⟩, hlex⟩ := hB
  have hn' : n < l.length := by simpa using hn
  have htl : (l.take n).length = n := by simp; omega
  have hdl : (l.drop n).length = l.toArray.size - n := by simp
  have inv0 : HeadInv .any l.toArray n (Array.replicate l.toArray.size false) :=
    ⟨by simp, fun j oj _ hl => (by rw [getD_replicate_false] at hl; cases hl), fun t _ ht => getD_in (by simpa using ht) (getD_replicate_false _ _)⟩
  have H := headQ_lex (md := .any) (C := Grew w) (g := l.toArray.size - n) hsel hs hc hn (l.take n) 0 _ a (fun j hj => by
    have hj' : j < n := by rw [htl] at hj; exact hj
    simp [hj']) (by simpa using htl) inv0 (by rw [htl]; exact hlex) h
  refine wp_region_any hm ?_
  have := any_of_headQ (Q' := Q) (g := l.toArray.size - n) (fun listed a' w' hw' hL => by
    have := wpAny_of_seq (md := .any) (Q' := Q) (l.drop n) n listed a' w' (fun j => by simp [List.getElem?_drop]) (by rw [hdl]; exact hL.1) (hL.2 w' hw')
    rwa [hdl] at this) _ _ _ { w with drawn := w.drawn + 1 } (G.drew (G.refl w)) H
  rw [htl, show n + (l.toArray.size - n) = l.toArray.size by omega] at this
  exact this
end

/-- A slice of integers that came in. -/
def SlIs (W : World) (A : Option Addr) (n c : Nat) (xs : List Int) : Prop := n ≤ c ∧ c ≤ maxLen ∧ Sl W A n (i64s xs)
/-- A stamp that came in. -/
def StIs (W : World) (e : Int) (A : Option Addr) (n c : Nat) (xs : List Int) : Prop := SlIs W A n c xs ∧ (Lit.int .i64 e).wf = true

/-! ### append onto a row of the call's own; the source is whatever reads as a list of cells -/
theorem own_shape {w : World} {base : Nat} {e : TypeId} {size : Nat} {v : Value} {n : Nat} {xs : List Value} (h : w.ownsRow base e size v n xs) : ∃ A c, v = .slice A n c ∧ n ≤ c ∧ c ≤ maxLen := by
  rcases h.2 with ⟨rfl, rfl⟩ | ⟨g, cap, cur, rfl, _, _, hn, hm, _⟩
  · exact ⟨none, 0, rfl, Nat.le_refl _, Nat.zero_le _⟩
  · exact ⟨_, cap, rfl, hn, hm⟩
theorem Sl.of_own {w : World} {base : Nat} {e : TypeId} {size : Nat} {A : Option Addr} {n c : Nat} {xs : List Value} (h : w.ownsRow base e size (.slice A n c) n xs) : Sl w A (n * size) xs := by
  refine ⟨h.1, fun hn => ?_⟩
  rcases h.2 with ⟨_, rfl⟩ | ⟨g, cap, cur, hv, _, hh, _⟩
  · simp at hn
  · injection hv with hA
    subst hA
    refine ⟨g, 0, rfl, ?_, fun j u hu => ?_⟩
    · rcases Nat.lt_or_ge g w.heap.size with h' | h'
      · exact h'
      · rw [Array.getElem?_eq_none h'] at hh; cases hh
    · have := h.cells (g := g) rfl j u hu
      rw [addr_add] at this
      rwa [Nat.zero_add]
theorem Sl.of_own1 {w : World} {base : Nat} {e : TypeId} {A : Option Addr} {n c : Nat} {xs : List Value} (h : w.ownsRow base e 1 (.slice A n c) n xs) : Sl w A n xs := by
  have := Sl.of_own h
  rwa [Nat.mul_one] at this
section
variable {P : Program} (w : World)
theorem run_append_of_nil (base : Nat) (t ty e : TypeId) (i : TypeInfo) (size : Nat) (ht : P.underlying t = some (.slice e)) (hi : P.info? e = some i)
    (v : Value) (n : Nat) (xs : List Value) (hown : w.ownsRow base e size v n xs) (c : Nat) : (Builtin.append_ #[t, t] ty #[v, .slice none 0 c]).run P w = .ok v w := by
  rcases hown.2 with ⟨rfl, rfl⟩ | ⟨g, cap, cur, rfl, _, _, hnc, _⟩
  · simp [Builtin.append_, run_underlying ht, sizeOf, typeInfo, hi, Builtin.lenOf, Builtin.firstCells]
  · simp [Builtin.append_, run_underlying ht, sizeOf, typeInfo, hi, Builtin.lenOf, Builtin.firstCells, hnc, storeCells]

theorem run_app (base : Nat) (t ty e : TypeId) (i : TypeInfo) (z : Value) (size bytes : Nat) (ht : P.underlying t = some (.slice e)) (hi : P.info? e = some i) (hz : i.zero = some z)
    (hsize : i.size = size) (hby : i.bytes = bytes) (hzs : z.cells.size = size) (hsz : 0 < size)
    (v : Value) (n : Nat) (xs : List Value) (hown : w.ownsRow base e size v n xs)
    (A : Option Addr) (m c : Nat) (news : List Value) (hr : Sl w A (m * size) news) (h1 : ∀ u ∈ news, u.oneCell' = true)
    (h63 : n + m ≤ maxLen) (hbytes : (n + m) * bytes ≤ 140737488355328) (hbase : base ≤ w.heap.size) :
    ∃ v' w', (Builtin.append_ #[t, t] ty #[v, .slice A m c]).run P w = .ok v' w' ∧ w'.ownsRow base e size v' (n + m) (xs ++ news) ∧ w.grownBy w' v.ownBlock ∧
      (v'.ownBlock = v.ownBlock ∨ v'.ownBlock = some w.heap.size) := by
  by_cases h0 : m = 0
  · subst h0
    have hn : news = [] := List.eq_nil_of_length_eq_zero (by have := hr.1; simpa using this)
    subst hn
    rcases A with _ | ad
    · exact ⟨v, w, run_append_of_nil w base t ty e i size ht hi v n xs hown c, by simpa using hown, World.grownBy.refl w _, .inl rfl⟩
    · obtain ⟨v', w', hrun, h2, h3, _, h5⟩ := run_append_own_at (P := P) w base t ty e i z size bytes ht hi hz hsize hby hzs hsz v n xs hown ad 0 c [] (by simp) (by simp) h1 h63 hbytes hbase
      exact ⟨v', w', hrun, h2, h3, h5⟩
  · obtain ⟨b, off, rfl, hb, hc⟩ := hr.2 (Nat.mul_pos (by omega) hsz)
    obtain ⟨v', w', hrun, h2, h3, _, h5⟩ := run_append_own_at (P := P) w base t ty e i z size bytes ht hi hz hsize hby hzs hsz v n xs hown ⟨b, off, none⟩ m c news hr.1
      (fun j u hu => by
        have := hc j u hu
        unfold Addr.add
        split
        · rename_i hj; subst hj; exact this
        · exact this) h1 h63 hbytes hbase
    exact ⟨v', w', hrun, h2, h3, h5⟩

theorem wp_app {o : Oper} {a : Act} {K : Act → World → Prop} {Q : Exit → Act → World → Prop} (s x : Operand) (t : TypeId)
    (ho : o.op = .call { callee := .builtin .append, args := #[s, x], argTypes := #[t, t] })
    (base : Nat) (e : TypeId) (i : TypeInfo) (z : Value) (size bytes : Nat) (ht : P.underlying t = some (.slice e)) (hi : P.info? e = some i) (hz : i.zero = some z)
    (hsize : i.size = size) (hby : i.bytes = bytes) (hzs : z.cells.size = size) (hsz : 0 < size)
    (v : Value) (n : Nat) (xs : List Value) (hs : a.eval s = v) (hown : w.ownsRow base e size v n xs)
    (A : Option Addr) (m c : Nat) (news : List Value) (hx : a.eval x = .slice A m c) (hr : Sl w A (m * size) news) (h1 : ∀ u ∈ news, u.oneCell' = true)
    (h63 : n + m ≤ maxLen) (hbytes : (n + m) * bytes ≤ 140737488355328) (hbase : base ≤ w.heap.size)
    (h : ∀ A' c' w', w'.ownsRow base e size (.slice A' (n + m) c') (n + m) (xs ++ news) → n + m ≤ c' → c' ≤ maxLen → w.grownBy w' v.ownBlock → K (a.put o.dst (.slice A' (n + m) c')) w') : o.wp P a w K Q := by
  obtain ⟨v', w', hrun, h2, h3, h4⟩ := run_app (P := P) w base t o.type e i z size bytes ht hi hz hsize hby hzs hsz v n xs hown A m c news hr h1 h63 hbytes hbase
  obtain ⟨A', c', rfl, h5, h6⟩ := own_shape h2
  unfold Oper.wp execOp
  simp only [ho, resolve, invoke, builtin, Sem.run_bind, Sem.run_pure, Result.andThen_ok, List.map_toArray, List.map_cons, List.map_nil, hs, hx, hrun]
  exact h A' c' w' h2 h5 h6 h3

theorem wpList_app {ops : Array Oper} {rest : List Oper} {o : Oper} {a : Act} {Q : Exit → Act → World → Prop} (hgd : o.guard = none) (s x : Operand) (t : TypeId)
    (ho : o.op = .call { callee := .builtin .append, args := #[s, x], argTypes := #[t, t] })
    (base : Nat) (e : TypeId) (i : TypeInfo) (z : Value) (size bytes : Nat) (ht : P.underlying t = some (.slice e)) (hi : P.info? e = some i) (hz : i.zero = some z)
    (hsize : i.size = size) (hby : i.bytes = bytes) (hzs : z.cells.size = size) (hsz : 0 < size)
    (v : Value) (n : Nat) (xs : List Value) (hs : a.eval s = v) (hown : w.ownsRow base e size v n xs)
    (A : Option Addr) (m c : Nat) (news : List Value) (hx : a.eval x = .slice A m c) (hr : Sl w A (m * size) news) (h1 : ∀ u ∈ news, u.oneCell' = true)
    (h63 : n + m ≤ maxLen) (hbytes : (n + m) * bytes ≤ 140737488355328) (hbase : base ≤ w.heap.size)
    (h : ∀ A' c' w', w'.ownsRow base e size (.slice A' (n + m) c') (n + m) (xs ++ news) → n + m ≤ c' → c' ≤ maxLen → w.grownBy w' v.ownBlock → wpList P ops Q rest (a.put o.dst (.slice A' (n + m) c')) w') : wpList P ops Q (o :: rest) a w :=
  wpList_plain hgd fun _ hK => wp_app w s x t ho base e i z size bytes ht hi hz hsize hby hzs hsz v n xs hs hown A m c news hx hr h1 h63 hbytes hbase fun A' c' w' h2 h3 h4 h5 => hK _ _ (h A' c' w' h2 h3 h4 h5)

theorem step_app {ops : Array Oper} {o : Oper} {a : Act} {K : Act → World → Prop} {Q : Exit → Act → World → Prop} {E : Prop} (hgd : o.guard = none) (s x : Operand) (t : TypeId)
    (ho : o.op = .call { callee := .builtin .append, args := #[s, x], argTypes := #[t, t] })
    (base : Nat) (e : TypeId) (i : TypeInfo) (z : Value) (size bytes : Nat) (ht : P.underlying t = some (.slice e)) (hi : P.info? e = some i) (hz : i.zero = some z)
    (hsize : i.size = size) (hby : i.bytes = bytes) (hzs : z.cells.size = size) (hsz : 0 < size)
    (v : Value) (n : Nat) (xs : List Value) (hs : a.eval s = v) (hown : w.ownsRow base e size v n xs)
    (A : Option Addr) (m c : Nat) (news : List Value) (hx : a.eval x = .slice A m c) (hr : Sl w A (m * size) news) (h1 : ∀ u ∈ news, u.oneCell' = true)
    (h63 : n + m ≤ maxLen) (hbytes : (n + m) * bytes ≤ 140737488355328) (hbase : base ≤ w.heap.size)
    (h : ∀ A' c' w', w'.ownsRow base e size (.slice A' (n + m) c') (n + m) (xs ++ news) → n + m ≤ c' → c' ≤ maxLen → w.grownBy w' v.ownBlock → K (a.put o.dst (.slice A' (n + m) c')) w') :
    if Region.wanted o (yielded ops a.tmps) = true then Oper.wp P o a w K Q else E := by
  have hw : Region.wanted o (yielded ops a.tmps) = true := by simp [Region.wanted, hgd]
  rw [if_pos hw]
  exact wp_app w s x t ho base e i z size bytes ht hi hz hsize hby hzs hsz v n xs hs hown A m c news hx hr h1 h63 hbytes hbase h
end
/-- An append onto a row of the call's own leaves what was there when the call began. -/
theorem G.grown {a w w' : World} {B : Nat} {e : TypeId} {size n : Nat} {v : Value} {xs : List Value} (h : Below a.heap.size a w) (hown : w.ownsRow B e size v n xs) (hB : a.heap.size ≤ B) (hg : w.grownBy w' v.ownBlock) : Below a.heap.size a w' :=
  h.grown hg h.size fun k hk => Nat.le_trans hB (hown.lt k hk).1
theorem oneCell_i64s (xs : List Int) : ∀ u ∈ i64s xs, u.oneCell' = true := by
  intro u hu
  simp only [List.mem_map] at hu
  obtain ⟨x, _, rfl⟩ := hu
  rfl
end Go.Proofs.YtbafnlccpbonmaaGreatDoor
